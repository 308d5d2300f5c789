/- Joined texts, 41: NtA NtB LawC RowsB RowsL NtC. -/
import Derived.Test.YtggicfmbdmjhkaaJLawNttProducts28
import Derived.Test.YtggicfmbdmjhkaaJLawNttProducts39
import Derived.Test.YtggicfmbdmjhkaaJLawNttProducts40
import Derived.Test.YtggicfmbdmjhkaaJLawNttProducts38
set_option linter.unusedVariables false
set_option linter.unusedSimpArgs false
/- What the printed functions answer, as contracts. -/
namespace Go.Proofs.Ytggicfmbdmjhkaa.AM
open Go Go.RowKit Go.Proofs.Ytggicfmbdmjhkaa.PN Go.Proofs.Ytggicfmbdmjhkaa.V Go.Proofs.Ytggicfmbdmjhkaa.F Go.Proofs.YtggicfmbdmjhkaaW.PrintWords
set_option linter.unusedVariables false
set_option linter.unusedSimpArgs false
set_option maxRecDepth 8000
set_option maxHeartbeats 4000000
def ofN (l : List Nat) : List Int := l.map fun n : Nat => (n : Int)
def toN (l : List Int) : List Nat := l.map Int.toNat
theorem plb_row {S : Nat → Prop} {w : World} {v : Value} {l : List Nat} (h : PLb S w v l) (hl : l.length ≤ 9223372036854775807) : ∃ A c, v = .slice A (ofN l).length c ∧ (ofN l).length ≤ c ∧ Kd.C (Kd.int .u32) w A (ofN l).length (ofN l) := by
  obtain ⟨A, c, rfl, hc, hx⟩ := h
  have e : (ofN l).length = l.length := by simp [ofN]
  rw [e]
  refine ⟨A, c, rfl, hc, ?_⟩
  refine ⟨e, hl, fun h0 => ?_⟩
  obtain ⟨b, off, rfl, _, _⟩ := hx 0 h0
  refine ⟨_, rfl, fun j p hp => ?_⟩
  have hj : j < l.length := by
    rcases Nat.lt_or_ge j l.length with h | h
    · exact h
    · rw [List.getElem?_eq_none (by omega)] at hp; cases hp
  obtain ⟨b', off', e', _, hcell⟩ := hx j hj
  cases e'
  have hp' : p = ((l.getD j 0 : Nat) : Int) := by
    unfold ofN at hp
    rw [List.getElem?_map, List.getElem?_eq_getElem hj] at hp
    cases hp
    rw [List.getD_eq_getElem?_getD, List.getElem?_eq_getElem hj]; rfl
  refine ⟨[.int .u32 p], rfl, rfl, fun i u hu => ?_⟩
  match i, hu with
  | 0, hu =>
    cases hu
    rw [hp']
    show w.cell? (Addr.add ⟨b, off, none⟩ (j * 1 + 0)) = _
    rw [Nat.mul_one, Nat.add_zero]
    rw [add_at]
    exact hcell
theorem row_lb {w : World} {base : Nat} {ok : Nat → Prop} {v : Value} {zs : List Int} (h : Kd.R (Kd.int .u32) U32 w base ok v zs) (hz : ∀ z ∈ zs, 0 ≤ z) : Lbs w v (toN zs) := by
  obtain ⟨A, c, hv, hc, hrd⟩ := Kd.R_reads h
  obtain ⟨_, inner, ho, _⟩ := h
  have ho' := ho
  obtain ⟨_, h2⟩ := ho'
  have hlen : (toN zs).length = zs.length := by simp [toN]
  rcases h2 with ⟨h2, _⟩ | ⟨g, cap, cur, h2, hg, hh, _⟩
  · rw [h2] at hv
    injection hv with e1 e2 e3
    exact ⟨none, 0, by rw [hlen, ← e2]; exact h2, by omega, fun i hi => by omega⟩
  · have hv' := hv
    rw [h2] at hv'
    injection hv' with e1 e2 e3
    subst e1
    refine ⟨_, c, by rw [hlen]; exact hv, by omega, fun i hi => ?_⟩
    rw [hlen] at hi
    refine ⟨g, 0, cur, rfl, hh, ?_⟩
    obtain ⟨ad, cl, ea, _, hr, hcell⟩ := ReadsRow.get_ hrd 0 (i : Int) (by omega) (by omega)
    cases ea
    have hr : cl = [.int .u32 (zs.getD (i : Int).toNat 0)] := hr
    subst hr
    have h3 := hcell 0 _ rfl
    rw [Int.toNat_natCast] at h3
    have h3 : w.cell? ((⟨g, 0, none⟩ : Addr).add (i * 1 + 0)) = some (.int .u32 (zs.getD i 0)) := h3
    rw [Nat.mul_one, Nat.add_zero] at h3
    have e5 : ((toN zs).getD i 0 : Int) = zs.getD i 0 := by
      unfold toN
      rw [List.getD_eq_getElem?_getD, List.getD_eq_getElem?_getD, List.getElem?_map, List.getElem?_eq_getElem hi]
      exact Int.toNat_of_nonneg (hz _ (List.getElem_mem hi))
    rw [Nat.zero_add]
    rw [show (((toN zs).getD i 0 : Nat) : Int) = zs.getD i 0 from e5]
    have h4 := cell_of_row w g i cur U32 (0, 0) hh
    rw [← h4]
    rw [add_at, Nat.zero_add] at h3
    exact h3
/-- The law's pair of products. -/
theorem k_convs {a b : List Nat} (ha : LF a) (hb : LF b) (la : a.length ≤ 512) (lb : b.length ≤ 512) : ∃ c e, Has Try.prog 9 [.plb a, .plb b] (.tup (.lb c) (.i e)) ∧ Has Try.prog 10 [.plb a, .plb b] (.tup (.lb c) (.i e)) ∧ c.length ≤ 1024 := by
  have wf : ∀ {l : List Nat}, LF l → ∀ x ∈ ofN l, (Lit.int .u32 x).wf = true := fun hl x hx => by
    obtain ⟨n, hn, rfl⟩ := List.mem_map.1 hx
    have hlt : n < PN.B := hl n hn
    have hB : PN.B = 4294967296 := rfl
    unfold Lit.wf
    rw [Bool.and_eq_true]
    exact ⟨decide_eq_true (by show (0 : Int) ≤ _; omega), decide_eq_true (by show _ ≤ (4294967295 : Int); omega)⟩
  have lo : ∀ l : List Nat, (ofN l).length = l.length := fun l => by simp [ofN]
  obtain ⟨c, e, e1, e2, hc, hpos⟩ := Go.Proofs.Ytggicfmbdmjhkaa.Pure.Both.conv_any (ofN a) (ofN b) (wf ha) (wf hb) (by rw [lo]; exact la) (by rw [lo]; exact lb)
  obtain ⟨k1, e1⟩ := e1.rounds
  obtain ⟨k2, e2⟩ := e2.rounds
  have hcl : (toN c).length ≤ 1024 := by simpa [toN] using hc
  refine ⟨toN c, e, ?_, ?_, hcl⟩
  · refine ⟨by kernel_rfl, ⟨trivial, trivial⟩, fun w S β vs hv => ?_⟩
    obtain ⟨v, u, rfl, q1, q2⟩ := rvs2 hv
    obtain ⟨A, ca, rfl, h1, h2⟩ := plb_row q1 (by omega)
    obtain ⟨A', cb, rfl, h3, h4⟩ := plb_row q2 (by omega)
    refine (ntt_Conv.calls k1 A ca (ofN a) A' cb (ofN b) c e w h2 h1 h4 h3 e1).mono ?_
    rintro e' w' ⟨v, rfl, hr, hb⟩
    exact ⟨_, rfl, hb, _, _, rfl, row_lb hr hpos, rfl⟩
  · refine ⟨by kernel_rfl, ⟨trivial, trivial⟩, fun w S β vs hv => ?_⟩
    obtain ⟨v, u, rfl, q1, q2⟩ := rvs2 hv
    obtain ⟨A, ca, rfl, h1, h2⟩ := plb_row q1 (by omega)
    obtain ⟨A', cb, rfl, h3, h4⟩ := plb_row q2 (by omega)
    refine (anticlineref8_Conv.calls k2 A ca (ofN a) A' cb (ofN b) c e w h2 h1 h4 h3 e2).mono ?_
    rintro e' w' ⟨v, rfl, hr, hb⟩
    exact ⟨_, rfl, hb, _, _, rfl, row_lb hr hpos, rfl⟩
theorem k_same8 {l : List Nat} (hl : l.length ≤ 100000) : Has Try.prog 11 [.plb l, .plb l] (.b true) := by
  have lo : (ofN l).length = l.length := by simp [ofN]
  obtain ⟨k, e⟩ := (Spec.same (ofN l) (by omega)).rounds
  refine ⟨by kernel_rfl, trivial, fun w S β vs hv => ?_⟩
  obtain ⟨v, u, rfl, q1, q2⟩ := rvs2 hv
  obtain ⟨A, ca, rfl, h1, h2⟩ := plb_row q1 (by omega)
  obtain ⟨A', cb, rfl, h3, h4⟩ := plb_row q2 (by omega)
  refine (anticlineref8_Same.calls k A ca (ofN l) A' cb (ofN l) true w h2 h1 h4 h3 e).mono ?_
  rintro e' w' ⟨rfl, hd⟩
  exact ⟨_, rfl, hd.below, rfl⟩
theorem k_known8 : Has Try.prog 6 [] (.b true) := by
  obtain ⟨k, e⟩ := Spec.known.rounds
  refine ⟨by kernel_rfl, trivial, fun w S β vs hv => ?_⟩
  have hvs : vs = [] := List.eq_nil_of_length_eq_zero hv.1.symm
  subst hvs
  refine (anticlinelaw8_known.calls k true w e).mono ?_
  rintro e' w' ⟨rfl, hd⟩
  exact ⟨_, rfl, hd, rfl⟩
theorem k_within8 {a n : Int} (hn : 0 < n) (hn' : n < 1000000000) : Has Try.prog 8 [.i a, .i n] (.i (a % n)) := by
  have e := Spec.within a n hn (by omega)
  refine ⟨by kernel_rfl, trivial, fun w S β vs hv => ?_⟩
  obtain ⟨v, u, rfl, q1, q2⟩ := rvs2 hv
  have q1 : v = .int .i64 a := q1
  have q2 : u = .int .i64 n := q2
  subst q1; subst q2
  refine (anticlinelaw8_within.calls a n (a % n) w e).mono ?_
  rintro e' w' ⟨rfl, hd⟩
  exact ⟨_, rfl, hd.below, rfl⟩
theorem lf_enc (n : Nat) (y : Nat → NM.F) : LF (toN (Spec.enc n y)) := by
  intro z hz
  obtain ⟨q, hq, rfl⟩ := List.mem_map.1 hz
  unfold Spec.enc at hq
  obtain ⟨i, _, rfl⟩ := List.mem_map.1 hq
  have h1 := Spec.v_nonneg (y i); have h2 := Spec.v_lt (y i)
  show _ < PN.B
  have hB : PN.B = 4294967296 := rfl
  omega
theorem k_row8 {l : List Nat} (hl : LF l) (hll : l.length ≤ 9223372036854775807) {n : Int} (h0 : 0 ≤ n) (hn : n < 100000) : ∃ r, Has Try.prog 7 [.plb l, .i n] (.lb r) ∧ LF r ∧ (r.length : Int) = n := by
  have wf : ∀ x ∈ ofN l, (Lit.int .u32 x).wf = true := fun x hx => by
    obtain ⟨n, hn, rfl⟩ := List.mem_map.1 hx
    have hlt : n < PN.B := hl n hn
    have hB : PN.B = 4294967296 := rfl
    unfold Lit.wf
    rw [Bool.and_eq_true]
    exact ⟨decide_eq_true (by show (0 : Int) ≤ _; omega), decide_eq_true (by show _ ≤ (4294967295 : Int); omega)⟩
  obtain ⟨k, e⟩ := (Spec.row (ofN l) wf n h0 hn).rounds
  refine ⟨toN (Spec.enc n.toNat (Spec.rowF (ofN l))), ?_, lf_enc n.toNat _, ?_⟩
  · refine ⟨by kernel_rfl, trivial, fun w S β vs hv => ?_⟩
    obtain ⟨v, u, rfl, q1, q2⟩ := rvs2 hv
    obtain ⟨A, ca, rfl, h1, h2⟩ := plb_row q1 hll
    have q2 : u = .int .i64 n := q2
    subst q2
    refine (anticlinelaw8_Row.calls k A ca (ofN l) n _ w h2 h1 e).mono ?_
    rintro e' w' ⟨v, rfl, hr, hb⟩
    exact ⟨_, rfl, hb, row_lb hr (Go.Proofs.Ytggicfmbdmjhkaa.Pure.Both.enc_nonneg _ _)⟩
  · rw [toN, List.length_map, Spec.enc_length]; omega
end Go.Proofs.Ytggicfmbdmjhkaa.AM
/- Pairs of slices, many of them. -/
namespace Go.Proofs.Ytggicfmbdmjhkaa.AM
open Go Go.RowKit Go.Proofs.Ytggicfmbdmjhkaa.PN Go.Proofs.Ytggicfmbdmjhkaa.V
set_option linter.unusedVariables false
set_option linter.unusedSimpArgs false
set_option maxRecDepth 8000
set_option maxHeartbeats 4000000
theorem two22 : ∀ (i : Nat) (p : Nat × Nat), ([(0, 1), (1, 1)] : List (Nat × Nat))[i]? = some p → (fun i => some (i * 1, 1)) i = some p := by
  intro i p h
  match i, h with
  | 0, h => cases h; rfl
  | 1, h => cases h; rfl
theorem lay22 : Lay 26 [(0, 1), (1, 1)] [.slice none 0 0, .slice none 0 0] := ⟨⟨fun i => some (i * 1, 1), two22, fun parts => by kernel_rfl⟩, rfl⟩
theorem cells22 : CellsOf 27 26 2 := ⟨by kernel_rfl, by kernel_rfl, zSz_ok (by kernel_rfl)⟩
theorem und22 : Try.prog.underlying 26 = some (.array 2 22) := by kernel_rfl
theorem inf22 : (Try.prog.info? 22).map (·.size) = some 1 := by kernel_rfl
section
variable {o : Oper} {s : St}
theorem ok_idxp {x y : Operand} {m : Nat} {f : Nat → AV} {k : IntKind} {z : Int} (ho : o.op = .indexAddr 26 x y) (hx : avo s x = some (.pa m f)) (hy : avo s y = some (.v (.int k z))) (h0 : 0 ≤ z) (h1 : z < 2) (hm : z.toNat < m) : LOK Try.prog o s ⟨some (.cp (f z.toNat)), [], []⟩ := by
  refine lok_val fun s2 hl W N β w a hs => ?_
  obtain ⟨hu, b, off, e1, hS, _, h4⟩ := hs.opd (x := x) (by rw [hl.avo (by rw [ho]; simp [Op.operands])]; exact hx)
  have e4 : a.eval y = .int k z := hs.opv (by rw [hl.avo (by rw [ho]; simp [Op.operands])]; exact hy)
  obtain ⟨v, a0, a1, a2⟩ := h4 z.toNat hm
  obtain ⟨i, hi, hz⟩ : ∃ i, Try.prog.info? 22 = some i ∧ i.size = 1 := by
    have := inf22
    cases h : Try.prog.info? 22 with
    | none => rw [h] at this; cases this
    | some i => rw [h] at this; exact ⟨i, rfl, Option.some.inj this⟩
  have hrun : (Instr.indexAt 26 (a.eval x) (a.eval y)).run Try.prog w = .ok (.pointer (some ⟨b, off + z.toNat, none⟩)) w := by
    rw [e1, e4]
    have h2 : z < ((2 : Nat) : Int) := h1
    simp [Instr.indexAt, asIntOf, Instr.sureAddr, run_underlying und22, h0, h1, h2, sizeOf, typeInfo, hi, hz, add_at]
  exact ⟨_, by unfold execOp; rw [ho]; simp only [Sem.run_bind, hrun]; rfl, fun q hq => by cases hq; exact ⟨hu _ hm, ⟨b, off + z.toNat, none⟩, v, rfl, hS, a0, a2⟩⟩
end
section
variable {ops : Array Oper} {l : List Oper} {s : St} {acc : List Fp} {K : St → List Fp → Prop} {d : Option Tmp} {ty : TypeId} {ps : String} {aft : Array Edge}
theorem st_idxp {x y : Operand} {m : Nat} {f : Nat → AV} {k : IntKind} {z : Int} (hx : avo s x = some (.pa m f)) (hy : avo s y = some (.v (.int k z))) (h0 : 0 ≤ z) (h1 : z < 2) (hm : z.toNat < m)
    (h : AOps Try.prog ops l (nxt s d (some (.cp (f z.toNat))) []) (([], []) :: acc) K) : AOps Try.prog ops (⟨d, .indexAddr 26 x y, ty, ps, aft, none⟩ :: l) s acc K := st_lok (ok_idxp rfl hx hy h0 h1 hm) h
theorem st_idx22 {x y : Operand} {n : Nat} {f : Nat → AV} {k : IntKind} {z : Int} (hx : avo s x = some (.arr n 2 f)) (hy : avo s y = some (.v (.int k z))) (h0 : 0 ≤ z) (h1 : z < n)
    (h : AOps Try.prog ops l (nxt s d (some (.pa 2 (fun j => f (z.toNat * 2 + j)))) []) (([], []) :: acc) K) : AOps Try.prog ops (⟨d, .indexAddr 27 x y, ty, ps, aft, none⟩ :: l) s acc K := st_lok (ok_index_many rfl cells22 (by decide) hx hy h0 h1) h
theorem st_build22 {parts : Array (Nat × Operand)} {x y : AV} {r : List AV} (hp : partsA s parts.toList = some [(0, x), (1, y)]) (hx : (partOK x && (partOK y && true)) = true) (hf : fillA [(0, 1), (1, 1)] [.v (.slice none 0 0), .v (.slice none 0 0)] [(0, x), (1, y)] = some r)
    (h : AOps Try.prog ops l (nxt s d (some (.ag r.length (fun i => r.getD i (.v undef)))) []) (([], []) :: acc) K) : AOps Try.prog ops (⟨d, .build 26 parts, ty, ps, aft, none⟩ :: l) s acc K :=
  st_lok (ok_build_ag rfl lay22 hp hx hf) h
theorem st_lit22 {d : Tmp} {parts : Array (Nat × Operand)} {n : Nat} {ys r : List AV} (hi : idxs 0 parts.toList = true) (hn : parts.toList.length = n) (hb : n * 2 ≤ 100000 ∧ 0 < 2) (hy : avos s parts.toList = some ys) (h1 : flat 2 ys = some r)
    (h : AOps Try.prog ops l (nxt s (some d) (some (.arr n 2 (fun i => r.getD i (.v undef)))) []) (([], []) :: acc) K) : AOps Try.prog ops (⟨some d, .buildSlice 27 n parts, ty, ps, aft, none⟩ :: l) s acc K :=
  st_lok (ok_build_arr rfl cells22 hi hn hb hy h1) h
end
end Go.Proofs.Ytggicfmbdmjhkaa.AM
/- Laws of dense matrices: walks: rows and matrices that are the same; ones. -/
namespace Go.Proofs.Ytggicfmbdmjhkaa.AM
open Go Go.RowKit Go.Proofs.Ytggicfmbdmjhkaa.PN Go.Proofs.Ytggicfmbdmjhkaa.V
open Go.Proofs.Ytggicfmbdmjhkaa.LA (S S_succ S_zero S_congr)
set_option linter.unusedVariables false
set_option linter.unusedSimpArgs false
set_option maxRecDepth 4000
set_option maxHeartbeats 4000000
end Go.Proofs.Ytggicfmbdmjhkaa.AM
/- Rows that are the same: the rest. -/
namespace Go.Proofs.Ytggicfmbdmjhkaa.AM
open Go Go.RowKit Go.Proofs.Ytggicfmbdmjhkaa.PN Go.Proofs.Ytggicfmbdmjhkaa.V
open Go.Proofs.Ytggicfmbdmjhkaa.LA (S S_succ S_zero S_congr)
set_option linter.unusedVariables false
set_option linter.unusedSimpArgs false
set_option maxRecDepth 4000
set_option maxHeartbeats 4000000
end Go.Proofs.Ytggicfmbdmjhkaa.AM
/- Rows of whole numbers that are written out. -/
namespace Go.Proofs.Ytggicfmbdmjhkaa.AM
open Go Go.RowKit Go.Proofs.Ytggicfmbdmjhkaa.PN Go.Proofs.Ytggicfmbdmjhkaa.V
open Go.Proofs.Ytggicfmbdmjhkaa.LA (S S_succ S_zero S_congr)
set_option linter.unusedVariables false
set_option linter.unusedSimpArgs false
set_option maxRecDepth 4000
set_option maxHeartbeats 4000000
/-- A vector of whole numbers. -/
def vz (zs : List Int) (i : Nat) : Rat := ((zs.getD i 0 : Int) : Rat)
end Go.Proofs.Ytggicfmbdmjhkaa.AM
/- NttProducts, walked. -/
namespace Go.Proofs.Ytggicfmbdmjhkaa.AM
open Go Go.RowKit Go.Proofs.Ytggicfmbdmjhkaa.PN Go.Proofs.Ytggicfmbdmjhkaa.V
set_option linter.unusedVariables false
set_option linter.unusedSimpArgs false
set_option maxRecDepth 8000
set_option maxHeartbeats 8000000
theorem le_arr22 {σ : Ren} {n m : Nat} {f f' : Nat → AV} (h : ∀ i, i < n * m → Le σ (f i) (f' i)) : Le σ (.arr n m f) (.arr n m f') := by
  rintro S B β w v ⟨A, c, hv, hc, hm, hx⟩
  exact ⟨A, c, hv, hc, hm, fun i hi => by obtain ⟨b, off, y, a0, a1, a2, a3, a4⟩ := hx i hi; exact ⟨b, off, y, a0, a1, a2, a3, h i hi S B β w y a4⟩⟩
theorem le_lb {σ : Ren} {l : List Nat} : Le σ (.lb l) (.plb l) := fun S B β w v hv => plb_lbs hv
theorem rv_lb_plb {S : Nat → Prop} {B : Nat} {β : Nat → Nat → Value} {w : World} {l : List Nat} (v : Value) (h : RV S B β w (.lb l) v) : RV S B β w (.plb l) v := plb_lbs h
theorem k_same8b {l : List Nat} (hl : l.length ≤ 100000) : Has Try.prog 11 [.lb l, .lb l] (.b true) :=
  (k_same8 hl).args fun S B β w vs hv => rvs_cons rv_lb_plb (fun us hu => rvs_cons rv_lb_plb (fun us hu => hu) hu) hv
theorem addr_spot32 {w : World} {a : Addr} {v : Value} (h : w.cell? (a.add 0) = some v) : ∃ b off, a = ⟨b, off, none⟩ := by
  obtain ⟨b, off, sp⟩ := a
  cases sp with
  | none => exact ⟨b, off, rfl⟩
  | some s =>
    exfalso
    have h : w.cell? ⟨b, off, some s⟩ = some v := h
    unfold World.cell? at h
    split at h
    · simp at h
    · cases h
theorem row_seq32 {W : World} {a : Option Addr} {len cap : Nat} {zs : List Int} (h : IsRow .u32 W a len cap zs) (B : Nat) (β : Nat → Nat → Value) : ∃ l, (LF l ∧ l.length ≤ 9223372036854775807) ∧ RV (fun _ => True) B β W (.plb l) (.slice a len cap) := by
  rcases h with ⟨rfl, rfl, rfl, rfl⟩ | ⟨x, rfl, h1, h2, h3, h4, h5⟩
  · exact ⟨[], ⟨(fun x hx => by cases hx), Nat.zero_le _⟩, none, 0, rfl, Nat.le_refl _, fun i hi => absurd hi (Nat.not_lt_zero _)⟩
  · have hmx : maxLen = 9223372036854775807 := by decide
    have hfit : ∀ z ∈ zs, 0 ≤ z ∧ z < 4294967296 := fun z hz => by
      have h := h5 z hz
      unfold Lit.wf at h
      rw [Bool.and_eq_true] at h
      have h1 := of_decide_eq_true h.1
      have h2 := of_decide_eq_true h.2
      have e1 : IntKind.u32.min = 0 := by decide
      have e2 : IntKind.u32.max = 4294967295 := by decide
      omega
    have hll : ((zs.take len).map Int.toNat).length = len := by simp; omega
    refine ⟨(zs.take len).map Int.toNat, ⟨?_, by rw [hll]; omega⟩, some x, cap, by rw [hll], by rw [hll]; exact h1, fun i hi => ?_⟩
    · intro y hy
      obtain ⟨z, hz, rfl⟩ := List.mem_map.1 hy
      have := hfit z (List.mem_of_mem_take hz)
      show z.toNat < 4294967296
      omega
    · rw [hll] at hi
      have hc := h4 i (by omega)
      obtain ⟨b, off, rfl⟩ := addr_spot32 (h4 0 (by omega))
      refine ⟨b, off, rfl, .inl trivial, ?_⟩
      rw [add_at] at hc
      rw [hc]
      have hg : zs.getD i 0 = zs[i]'(by omega) := by rw [List.getD_eq_getElem?_getD, List.getElem?_eq_getElem (by omega)]; rfl
      have := hfit (zs[i]'(by omega)) (List.getElem_mem _)
      have e : (((zs.take len).map Int.toNat).getD i 0 : Nat) = (zs.getD i 0).toNat := by
        rw [List.getD_eq_getElem?_getD, List.getElem?_map, List.getElem?_take_of_lt hi, List.getElem?_eq_getElem (by omega), hg]; rfl
      rw [e, hg, Int.toNat_of_nonneg this.1]
theorem k_products {a b raw : List Nat} {n m : Int} (ha : LF a) (la : a.length ≤ 9223372036854775807) (hb : LF b) (lb : b.length ≤ 9223372036854775807) (hn : Fits .i64 n) (hm : Fits .i64 m) (hr : LF raw) (lr : raw.length ≤ 9223372036854775807) :
    Has Try.prog 3 [.plb a, .plb b, .i n, .i m, .plb raw] (.b true) := by
  have c1 := k_within8 (a := n) (n := 40) (by decide) (by decide)
  have c2 := k_within8 (a := m) (n := 40) (by decide) (by decide)
  obtain ⟨x, c3, hx, lx⟩ := k_row8 ha la (n := n % 40) (by omega) (by omega)
  obtain ⟨y, c4, hy, ly⟩ := k_row8 hb lb (n := m % 40) (by omega) (by omega)
  refine has_of Try.func3 (by kernel_rfl) rfl Try.ntmps3 Try.results3 rfl rfl rfl ?_
  repeat(first|refine run1p ?_|((with_reducible apply st_call);exact rfl;exact rfl;exact rfl;first|(exact k_known8))|((with_reducible apply st_callg);exact rfl;exact rfl;(first|exact rfl|assumption);exact rfl;exact rfl;exact rfl;first|(exact k_known8)))
  refine awp_no rfl rfl ?_
  refine run0p ?_
  refine awp_if rfl (fun h => ?_) (fun h => ?_)
  · refine run0p ?_
    exact ⟨.inr rfl, _, Imp.refl _, .one (.tmp rfl)⟩
  have h : ¬ (40 : Int) < (raw.length : Int) := h
  repeat(first|refine run1p ?_|((with_reducible apply st_call);exact rfl;exact rfl;exact rfl;first|(exact c1)|(exact c2)|(exact c3)|(exact c4))|((with_reducible apply st_callg);exact rfl;exact rfl;(first|exact rfl|assumption);exact rfl;exact rfl;exact rfl;first|(exact c1)|(exact c2)|(exact c3)|(exact c4)))
  refine st_build22 (x := .lb x) (y := .lb y) rfl rfl rfl ?_
  refine run0p ?_
  refine st_build22 (x := .lb x) (y := .plb raw) rfl rfl rfl ?_
  refine run0p ?_
  refine st_build22 (x := .plb raw) (y := .lb y) rfl rfl rfl ?_
  refine st_lit22 rfl rfl (by decide) rfl rfl ?_
  refine run0p ?_
  have hP : ∃ P : Nat → List Nat, P 0 = x ∧ P 1 = y ∧ P 2 = x ∧ P 3 = raw ∧ P 4 = raw ∧ P 5 = y := ⟨fun i => [x, y, x, raw, raw, y].getD i [], rfl, rfl, rfl, rfl, rfl, rfl⟩
  obtain ⟨P, p0, p1, p2, p3, p4, p5⟩ := hP
  have hPs : ∀ i, i < 3 → (LF (P (i * 2)) ∧ (P (i * 2)).length ≤ 512) ∧ LF (P (i * 2 + 1)) ∧ (P (i * 2 + 1)).length ≤ 512 := fun i hi => by
    match i, hi with
    | 0, _ => show (LF (P 0) ∧ (P 0).length ≤ 512) ∧ LF (P 1) ∧ (P 1).length ≤ 512; rw [p0, p1]; exact ⟨⟨hx, by omega⟩, hy, by omega⟩
    | 1, _ => show (LF (P 2) ∧ (P 2).length ≤ 512) ∧ LF (P 3) ∧ (P 3).length ≤ 512; rw [p2, p3]; exact ⟨⟨hx, by omega⟩, hr, by omega⟩
    | 2, _ => show (LF (P 4) ∧ (P 4).length ≤ 512) ∧ LF (P 5) ∧ (P 5).length ≤ 512; rw [p4, p5]; exact ⟨⟨hr, by omega⟩, hy, by omega⟩
  refine awp_loop (fun m' s => ∃ i, i ≤ 3 ∧ m' = 3 - i ∧ s = stl [(13, .arr 3 2 (fun i => .plb (P i))), (14, .i (i : Int))] []) 3 _ (imp_id ?_ ?_) ⟨0, Nat.zero_le _, rfl, rfl⟩ ?_
  rotate_left 1
  · exact True.intro
  rotate_left 1
  · refine alle rfl (le_arr22 fun i hi => ?_) (fun i hi => True.intro) (alle rfl (Le.id rfl) True.intro True.intro)
    match i, hi with
    | 0, _ => rw [p0]; exact le_lb
    | 1, _ => rw [p1]; exact le_lb
    | 2, _ => rw [p2]; exact le_lb
    | 3, _ => rw [p3]; exact Le.eq rfl rfl
    | 4, _ => rw [p4]; exact Le.eq rfl rfl
    | 5, _ => rw [p5]; exact le_lb
  rintro m' s ⟨i, hi, rfl, rfl⟩
  by_cases h1 : i < 3
  · have d1 : decide ((i : Int) < 3) = true := decide_eq_true (by omega)
    obtain ⟨⟨q1, q2⟩, q3, q4⟩ := hPs i h1
    obtain ⟨c, e, k1, k2, hc⟩ := k_convs q1 q3 q2 q4
    have k3 := k_same8b (l := c) (by omega)
    have rr : (decide (e ≠ e)) = false := by simp
    have rr2 : (decide (e ≠ e) == false) = true := by rw [rr]; rfl
    refine run0p ?_
    refine awp_yes rfl d1 ?_
    refine run0p ?_
    refine st_idx22 rfl rfl (by omega) (by omega) ?_
    refine st_idxp rfl rfl (by decide) (by decide) (by decide) ?_
    refine run0p ?_
    refine st_idx22 rfl rfl (by omega) (by omega) ?_
    refine st_idxp rfl rfl (by decide) (by decide) (by decide) ?_
    repeat(first|refine run1p ?_|((with_reducible apply st_call);exact rfl;exact rfl;exact rfl;first|(exact k1))|((with_reducible apply st_callg);exact rfl;exact rfl;(first|exact rfl|assumption);exact rfl;exact rfl;exact rfl;first|(exact k1)))
    refine st_idx22 rfl rfl (by omega) (by omega) ?_
    refine st_idxp rfl rfl (by decide) (by decide) (by decide) ?_
    refine run0p ?_
    refine st_idx22 rfl rfl (by omega) (by omega) ?_
    refine st_idxp rfl rfl (by decide) (by decide) (by decide) ?_
    repeat(first|refine run1p ?_|((with_reducible apply st_call);exact rfl;exact rfl;exact rfl;first|(exact k2)|(exact k3))|((with_reducible apply st_callg);exact rfl;exact rfl;(first|exact rfl|assumption);exact rfl;exact rfl;exact rfl;first|(exact k2)|(exact k3)))
    refine awp_no rfl rfl ?_
    refine run0p ?_
    refine q_loop (m' := 3 - (i + 1)) (by omega) ?_ ⟨i + 1, by omega, rfl, rfl⟩
    refine imp_id ?_ ?_
    · exact alle rfl (Le.id rfl) (fun i hi => True.intro) (alle rfl (Le.id rfl) True.intro True.intro)
    · exact True.intro
  · have d1 : decide ((i : Int) < 3) = false := decide_eq_false (by omega)
    refine run0p ?_
    refine awp_no rfl d1 ?_
    refine run0p ?_
    exact ⟨.inr rfl, _, Imp.refl _, .one (.tmp rfl)⟩
end Go.Proofs.Ytggicfmbdmjhkaa.AM

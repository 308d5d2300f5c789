/- Joined texts, 39: AmBz Sml AmS AmAr AmCt SmA LawT GenA GenB Zer GenC GenD GenE LawB. -/
import Derived.Test.YtggicfmbdmjhkaaJLawNttKnown38
import Derived.Test.YtggicfmbdmjhkaaJLawNttKnown37
set_option linter.unusedVariables false
set_option linter.unusedSimpArgs false
/- Limbs that are read, bits of limbs, a number's limbs laid in place. -/
namespace Go.Proofs.Ytggicfmbdmjhkaa.AM
open Go Go.RowKit Go.Proofs.Ytggicfmbdmjhkaa.PN Go.Proofs.Ytggicfmbdmjhkaa.V
set_option linter.unusedVariables false
set_option linter.unusedSimpArgs false
def limT : List TypeId := [22]
theorem lim_all : limT.all (fun T => isSlice (Try.prog.underlying T) && szB Try.prog (sliceE (Try.prog.underlying T)) 1) = true := by kernel_rfl
theorem lim_ok {T : TypeId} (h : memN T limT = true) : ∃ E, Try.prog.underlying T = some (.slice E) ∧ szB Try.prog E 1 = true := by
  have h := List.all_eq_true.1 lim_all T (memN_spec h)
  rw [Bool.and_eq_true] at h
  obtain ⟨h1, h2⟩ := h
  have key : ∀ d : Option TypeDesc, Try.prog.underlying T = d → isSlice d = true → szB Try.prog (sliceE d) 1 = true → ∃ E, Try.prog.underlying T = some (.slice E) ∧ szB Try.prog E 1 = true := by
    intro d e k1 k2
    cases d with
    | none => cases k1
    | some d =>
      cases d with
      | slice E => exact ⟨E, e, k2⟩
      | _ => cases k1
  exact key _ rfl h1 h2
def shlN (a b : Int) : Int := a * 2 ^ b.toNat % 4294967296
def borN (a b : Int) : Int := ((BitVec.ofInt 32 a ||| BitVec.ofInt 32 b).toNat : Int)
section
variable {o : Oper} {s : St}
theorem ok_index_lb {x y : Operand} {T E : TypeId} {l : List Nat} {k : IntKind} {z : Int} (ho : o.op = .indexAddr T x y) (hu : Try.prog.underlying T = some (.slice E)) (hz : szB Try.prog E 1 = true) (hx : avo s x = some (.lb l)) (hy : avo s y = some (.v (.int k z))) (h0 : 0 ≤ z) (h1 : z < l.length) : LOK Try.prog o s ⟨some (.lp (.int .u32 (l.getD z.toNat 0 : Nat))), [], []⟩ := by
  refine lok_val fun s2 hl W N β w a hs => ?_
  obtain ⟨_, A, c, e1, _, e2⟩ := hs.opd (x := x) (by rw [hl.avo (by rw [ho]; simp [Op.operands])]; exact hx)
  have e3 : a.eval y = .int k z := hs.opv (by rw [hl.avo (by rw [ho]; simp [Op.operands])]; exact hy)
  obtain ⟨b, off, cs, rfl, hr, hc⟩ := e2 z.toNat (by omega)
  refine ⟨_, by unfold execOp; rw [ho]; simp only []; rw [e1, e3]; simp only [Sem.run_bind, run_index hu (sz_info hz) w _ l.length c k z h0 h1]; rfl, fun q hq => ?_⟩
  cases hq
  exact ⟨trivial, b, off + z.toNat, cs, by rw [Nat.mul_one, add_at], hr, hc⟩
theorem ok_load_lp {x : Operand} {T : TypeId} {y : Value} (ho : o.op = .load T x) (hT : memN T flatT = true) (hx : avo s x = some (.lp y)) : LOK Try.prog o s ⟨some (.v y), [], []⟩ := by
  refine lok_val fun s2 hl W N β w ac hs => ?_
  obtain ⟨_, b, off, cs, h1, hr, hc⟩ := hs.opd (x := x) (by rw [hl.avo (by rw [ho]; simp [Op.operands])]; exact hx)
  exact ⟨y, by unfold execOp; rw [ho]; simp only []; rw [h1]; simp [run_loadflat hT (show w.cell? ⟨b, off, none⟩ = some y by rw [cell_of_row w b _ cs U32 (0, 0) hr]; exact hc)], fun z hz => by cases hz; exact ⟨trivial, rfl⟩⟩
theorem ok_shl {T T' : TypeId} {x y : Operand} {k' : IntKind} {a b : Int} (ho : o.op = .binOp .shl T x y T') (hx : avo s x = some (.v (.int .u32 a))) (hy : avo s y = some (.v (.int k' b))) (h0 : 0 ≤ b) (h1 : b ≤ 32) : LOK Try.prog o s ⟨some (.v (.int .u32 (shlN a b))), [], []⟩ := by
  refine lok_val fun s2 hl W N β w ac hs => ⟨.int .u32 (shlN a b), ?_, fun z hz => by cases hz; exact ⟨trivial, rfl⟩⟩
  have e1 : ac.eval x = .int .u32 a := hs.opv (by rw [hl.avo (by rw [ho]; simp [Op.operands])]; exact hx)
  have e2 : ac.eval y = .int k' b := hs.opv (by rw [hl.avo (by rw [ho]; simp [Op.operands])]; exact hy)
  have hb : b.toNat ≤ IntKind.u32.bits := by show b.toNat ≤ 32; omega
  have hw : ∀ n : Int, IntKind.u32.wrap n = n % 4294967296 := fun n => rfl
  unfold execOp; rw [ho]; simp only []; rw [e1, e2]
  simp [eqGuard, binOp, Op.shift, Nat.min_eq_left hb, hw, shlN]
  try omega
theorem ok_bor {T T' : TypeId} {x y : Operand} {a b : Int} (ho : o.op = .binOp .or T x y T') (hx : avo s x = some (.v (.int .u32 a))) (hy : avo s y = some (.v (.int .u32 b))) : LOK Try.prog o s ⟨some (.v (.int .u32 (borN a b))), [], []⟩ := by
  refine lok_val fun s2 hl W N β w ac hs => ⟨.int .u32 (borN a b), ?_, fun z hz => by cases hz; exact ⟨trivial, rfl⟩⟩
  have e1 : ac.eval x = .int .u32 a := hs.opv (by rw [hl.avo (by rw [ho]; simp [Op.operands])]; exact hx)
  have e2 : ac.eval y = .int .u32 b := hs.opv (by rw [hl.avo (by rw [ho]; simp [Op.operands])]; exact hy)
  have hw : IntKind.u32.wrap ((BitVec.ofInt 32 a ||| BitVec.ofInt 32 b).toNat : Int) = borN a b := by
    have h1 : IntKind.u32.wrap ((BitVec.ofInt 32 a ||| BitVec.ofInt 32 b).toNat : Int) = ((BitVec.ofInt 32 a ||| BitVec.ofInt 32 b).toNat : Int) % 4294967296 := rfl
    have h2 := (BitVec.ofInt 32 a ||| BitVec.ofInt 32 b).isLt
    rw [h1]
    unfold borN
    omega
  have hop : (Op.intBits .or .u32 a b).run Try.prog = fun w => .ok (.int .u32 (borN a b)) w := by
    funext w
    show Result.ok (Value.int .u32 (IntKind.u32.wrap ((BitVec.ofInt 32 a ||| BitVec.ofInt 32 b).toNat : Int))) w = _
    rw [hw]
  unfold execOp; rw [ho]; simp only []; rw [e1, e2]
  simp [eqGuard, binOp, hop]
def rawSet (j : Nat) (l : List Nat) : RA → RA
  | .raw s n d => bif Nat.beq j 1 then .raw s l d else .raw s n l
  | .q p => .q p
theorem ok_store_fld {x y : Operand} {T : TypeId} {g r i j n m : Nat} {F : Nat → Blk} {f : Nat → RA} {l a b : List Nat} {sg : Bool} (hd : o.dst = none) (ho : o.op = .store T x y) (hT : memN T flatT = true) (hx : avo s x = some (.fld g r i j)) (hy : avo s y = some (.lb l)) (hg : s.heap g = some (n, F)) (hr : r < n) (hF : F r = .rats m f) (hi : i < m) (hf : f i = .raw sg a b) (hj : j = 1 ∨ j = 2) :
    LOK Try.prog o s ⟨none, [(g, some (n, updN F r (.rats m (updN f i (bif Nat.beq j 1 then .raw sg l b else .raw sg a l)))))], [g]⟩ := by
  refine lok_turn hd hg hr (List.mem_singleton.2 rfl) (fun r' _ hne => updN_ne _ _ hne) fun s2 hl W N β w ac hs hg2 => ?_
  obtain ⟨_, k, hb, h1⟩ := hs.opd (x := x) (by rw [hl.avo (by rw [ho]; simp [Op.operands])]; exact hx)
  obtain ⟨_, h2⟩ := hs.opd (x := y) (by rw [hl.avo (by rw [ho]; simp [Op.operands])]; exact hy)
  have h2 : Lbs w (ac.eval y) l := h2
  have h := (hs.heap g n F r hg2 hr).2
  rw [hF] at h
  obtain ⟨cs, hB, hrow, hat, h4⟩ := rb_rats h hb
  have hsz := at_size hat
  have hfit : i * 3 + 3 ≤ cs.size := by have := Nat.mul_le_mul_right 3 (show i + 1 ≤ m by omega); omega
  have he : Ext (fun q => q = k) w (w.setRow k (seg cs (i * 3 + j) [ac.eval y])) := Ext.row_set hrow (by decide)
  have hv : (ac.eval y).oneCell' = true := by obtain ⟨A, c, e, _⟩ := h2; rw [e]; rfl
  have hrun := run_storeflat hT hrow (by omega : i * 3 + j < cs.size) hv
  refine ⟨_, by unfold execOp; rw [ho]; simp only []; rw [h1]; simp only [Sem.run_bind, hrun]; rfl, he.mono (fun q hq => by rw [hq]; exact hb), Kept.row_set hs.kept hB _, by rw [updN_same]; trivial, ?_⟩
  rw [updN_same]
  refine .inr ⟨k, _, hB, setRow_heap w k cs _ RT _ hrow, by rw [seg_size (by simp; omega)]; exact hat, fun t ht => ?_⟩
  obtain ⟨s0, n0, d0, a0, a1, a2, a3⟩ := h4 t ht
  have hin : (seg cs (i * 3 + j) [ac.eval y])[i * 3 + j]? = some (ac.eval y) := by
    have := seg_in (cs := cs) (o := i * 3 + j) (vs := [ac.eval y]) (j := 0) (by simp; omega) (by simp)
    simpa using this
  have hout : ∀ q, q ≠ i * 3 + j → (seg cs (i * 3 + j) [ac.eval y])[q]? = cs[q]? := fun q hq => seg_out (by simp; omega) (by simp; omega)
  by_cases e : t = i
  · subst e
    rw [updN_same]
    rw [hf] at a3
    obtain ⟨b0, b1, b2⟩ := a3
    rcases hj with rfl | rfl
    · exact ⟨s0, ac.eval y, d0, (hout _ (by omega)).trans a0, hin, (hout _ (by omega)).trans a2, b0, lbs_ext h2 he, lbs_ext b2 he⟩
    · exact ⟨s0, n0, ac.eval y, (hout _ (by omega)).trans a0, (hout _ (by omega)).trans a1, hin, b0, lbs_ext b1 he, lbs_ext h2 he⟩
  · rw [updN_ne _ _ e]
    exact ⟨s0, n0, d0, (hout _ (by omega)).trans a0, (hout _ (by omega)).trans a1, (hout _ (by omega)).trans a2, r3_ext a3 he⟩
end
def ev4 (o : Oper) (s : St) : Ev :=
  match o.op with
  | .indexAddr T x y => bif memN T limT then (match avo s x, avo s y with
    | some (.lb l), some (.v (.int _ z)) => out (.lp (.int .u32 (l.getD z.toNat 0 : Nat))) (0 ≤ z ∧ z < l.length) []
    | _, _ => none) else none
  | .load T x => bif memN T flatT then (match avo s x with
    | some (.lp y) => out (.v y) True []
    | _ => none) else none
  | .binOp .shl T x y _ => (match avo s x, avo s y with
    | some (.v (.int .u32 a)), some (.v (.int _ b)) => out (.v (.int .u32 (shlN a b))) (0 ≤ b ∧ b ≤ 32) []
    | _, _ => none)
  | .binOp .or T x y _ => (match avo s x, avo s y with
    | some (.v (.int .u32 a)), some (.v (.int .u32 b)) => out (.v (.int .u32 (borN a b))) True []
    | _, _ => none)
  | .store T x y => (match o.dst with
    | some _ => none
    | none => bif memN T flatT then (match avo s x, avo s y with
      | some (.fld g r i j), some (.lb l) => (match s.heap g with
        | some (n, F) => (match F r with
          | .rats m f => (match f i with
            | .raw sg a b => outS g n (updN F r (.rats m (updN f i (bif Nat.beq j 1 then .raw sg l b else .raw sg a l)))) (r < n ∧ i < m ∧ (j = 1 ∨ j = 2))
            | _ => none)
          | _ => none)
        | none => none)
      | _, _ => none) else none)
  | _ => none
theorem ev4_ok {o : Oper} {s : St} {D : Dsc} {c : Prop} (h : ev4 o s = some (D, c)) (hc : c) : LOK Try.prog o s D := by
  unfold ev4 at h
  split at h
  · rename_i T x y ho
    cases e : memN T limT with
    | false => rw [e] at h; cases h
    | true =>
      rw [e, cond_true] at h
      obtain ⟨E, hu, hz⟩ := lim_ok e
      split at h
      · rename_i e1 e2; obtain ⟨rfl, rfl⟩ := out_inj h; exact ok_index_lb ho hu hz e1 e2 hc.1 hc.2
      · cases h
  · rename_i T x ho
    cases e : memN T flatT with
    | false => rw [e] at h; cases h
    | true =>
      rw [e, cond_true] at h
      split at h
      · rename_i e1; obtain ⟨rfl, rfl⟩ := out_inj h; exact ok_load_lp ho e e1
      · cases h
  · rename_i T x y T' ho
    split at h
    · rename_i e1 e2; obtain ⟨rfl, rfl⟩ := out_inj h; exact ok_shl ho e1 e2 hc.1 hc.2
    · cases h
  · rename_i T x y T' ho
    split at h
    · rename_i e1 e2; obtain ⟨rfl, rfl⟩ := out_inj h; exact ok_bor ho e1 e2
    · cases h
  · rename_i T x y ho
    split at h
    · cases h
    · rename_i hd
      cases e : memN T flatT with
      | false => rw [e] at h; cases h
      | true =>
        rw [e, cond_true] at h
        split at h
        · rename_i g r i j l e1 e2
          split at h
          · rename_i n F e3
            split at h
            · rename_i m f e4
              split at h
              · rename_i sg a b e5
                obtain ⟨rfl, rfl⟩ := outS_inj h
                exact ok_store_fld hd ho e e1 e2 e3 hc.1 e4 hc.2.1 e5 hc.2.2
              · cases h
            · cases h
          · cases h
        · cases h
  · cases h
end Go.Proofs.Ytggicfmbdmjhkaa.AM
/- Small numbers that are drawn: walked. -/
namespace Go.Proofs.Ytggicfmbdmjhkaa.AM
open Go Go.RowKit Go.Proofs.Ytggicfmbdmjhkaa.PN Go.Proofs.Ytggicfmbdmjhkaa.V
open Go.Proofs.Ytggicfmbdmjhkaa.LA (S S_succ S_zero S_congr)
set_option linter.unusedVariables false
set_option linter.unusedSimpArgs false
set_option maxRecDepth 4000
set_option maxHeartbeats 4000000
/-! ### Numbers that are drawn -/
/-- A number from 0 to n - 1. -/
def wthn (a n : Int) : Int := if a.tmod n < 0 then a.tmod n + n else a.tmod n
theorem wthn_lt {a n : Int} (hn : 0 < n) : 0 ≤ wthn a n ∧ wthn a n < n := by
  unfold wthn
  have h1 := Int.tmod_lt_of_pos a hn
  have h2 : -n < a.tmod n := Int.lt_tmod_of_pos a hn
  split <;> omega
/-- A small number. -/
def smal (a : Int) : Rat := ((wthn a 41 - 20 : Int) : Rat) / ((1 + wthn (a.tdiv 41) 5 : Int) : Rat)
theorem smal_key : ∀ x : _root_.Fin 41, ∀ y : _root_.Fin 5, wt ((((x.val : Int) - 20 : Int) : Rat) / ((1 + (y.val : Int) : Int) : Rat)) ≤ 1 := by decide +kernel
instance smal_wt (a : Int) : Wt (smal a) 1 := ⟨by
  obtain ⟨h1, h2⟩ := wthn_lt (a := a) (n := 41) (by decide)
  obtain ⟨h3, h4⟩ := wthn_lt (a := a.tdiv 41) (n := 5) (by decide)
  have := smal_key ⟨(wthn a 41).toNat, by omega⟩ ⟨(wthn (a.tdiv 41) 5).toNat, by omega⟩
  rw [show (((wthn a 41).toNat : Nat) : Int) = wthn a 41 by omega, show (((wthn (a.tdiv 41) 5).toNat : Nat) : Int) = wthn (a.tdiv 41) 5 by omega] at this
  exact this⟩
end Go.Proofs.Ytggicfmbdmjhkaa.AM
/- Parts of an own slice that is written no more. -/
namespace Go.Proofs.Ytggicfmbdmjhkaa.AM
open Go Go.RowKit Go.Proofs.Ytggicfmbdmjhkaa.PN Go.Proofs.Ytggicfmbdmjhkaa.V
set_option linter.unusedVariables false
set_option linter.unusedSimpArgs false
/-- What a part becomes. -/
def Pubd (g n : Nat) (q : Nat → RA) (x y : AV) : Prop := x = y ∨ ∃ off k, x = .sl g 0 off k ∧ off + k ≤ n ∧ y = .row true k (fun i => q (off + i))
end Go.Proofs.Ytggicfmbdmjhkaa.AM
/- Arrays, maps, pairs that are compared. -/
namespace Go.Proofs.Ytggicfmbdmjhkaa.AM
open Go Go.RowKit Go.Proofs.Ytggicfmbdmjhkaa.PN Go.Proofs.Ytggicfmbdmjhkaa.V
set_option linter.unusedVariables false
set_option linter.unusedSimpArgs false
abbrev INT : TypeId := 3
theorem int_und : Try.prog.underlying INT = some (.int .i64) := by kernel_rfl
theorem int_inf : (Try.prog.info? INT).map (fun i => (i.zero, i.size, i.bytes)) = some (some (.int .i64 0), 1, 8) := by kernel_rfl
theorem wt_inf : (Try.prog.info? WT).map (fun i => (i.zero, i.size, i.bytes)) = some (some (.slice none 0 0), 1, 24) := by kernel_rfl
/-! ### Noughts of arrays, of Gens -/
def zOf : Bool → Value
  | true => .int .i64 0
  | false => .slice none 0 0
def zIs : Bool → Value → Bool
  | true, .int .i64 n => decide (n = 0)
  | false, .slice none 0 0 => true
  | _, _ => false
theorem zIs_ok {b : Bool} {v : Value} (h : zIs b v = true) : v = zOf b := by
  unfold zIs at h
  split at h
  · have := of_decide_eq_true h; subst this; rfl
  · rfl
  · cases h
def zAll : List Bool → List Value → Bool
  | [], [] => true
  | b :: l, v :: vs => zIs b v && zAll l vs
  | _, _ => false
theorem zAll_ok : ∀ {l : List Bool} {vs : List Value}, zAll l vs = true → vs = l.map zOf
  | [], [], _ => rfl
  | b :: l, v :: vs, h => by
    unfold zAll at h
    rw [Bool.and_eq_true] at h
    rw [zIs_ok h.1, zAll_ok h.2]; rfl
  | [], _ :: _, h => by cases h
  | _ :: _, [], h => by cases h
noncomputable def zAgg (T : TypeId) (l : List Bool) : Bool := match Try.prog.info? T with
  | some i => (match i.zero with | some z => zAll l z.cells.toList | none => false)
  | none => false
theorem zAgg_ok {T : TypeId} {l : List Bool} (h : zAgg T l = true) : isZero Try.prog T (l.map zOf) := by
  unfold zAgg at h
  split at h
  · rename_i i e
    split at h
    · rename_i z e2
      refine ⟨i, z, e, e2, ?_⟩
      have := zAll_ok h
      rw [← this]
    · cases h
  · cases h
def zTab (T : TypeId) : Option (List Bool) :=
  bif memN T [74] then some [false, false, false, false] else bif memN T [78] then some [true, true, true] else bif memN T [46] then some [true, true, true, false, false, false, false] else bif memN T [] then some [true, true] else bif memN T [] then some [true, true, true, true] else none
theorem zTab4 : ([74] : List Nat).all (fun T => zAgg T [false, false, false, false]) = true := by kernel_rfl
theorem zTab3 : ([78] : List Nat).all (fun T => zAgg T [true, true, true]) = true := by kernel_rfl
theorem zTabG : ([46] : List Nat).all (fun T => zAgg T [true, true, true, false, false, false, false]) = true := by kernel_rfl
theorem zTabA : ([] : List Nat).all (fun T => zAgg T [true, true]) = true := by kernel_rfl
theorem zTab4i : ([] : List Nat).all (fun T => zAgg T [true, true, true, true]) = true := by kernel_rfl
theorem zTab_ok {T : TypeId} {l : List Bool} (h : zTab T = some l) : isZero Try.prog T (l.map zOf) := by
  unfold zTab at h
  cases e1 : memN T [74] with
  | true =>
    first | (cases e1; done) | skip
    all_goals (
      rw [e1] at h; cases h; exact zAgg_ok (List.all_eq_true.1 zTab4 T (memN_spec e1)))
  | false =>
    (try rw [e1] at h); (try simp only [cond_false] at h)
    cases e2 : memN T [78] with
    | true =>
      first | (cases e2; done) | skip
      all_goals (
        rw [e2] at h; cases h; exact zAgg_ok (List.all_eq_true.1 zTab3 T (memN_spec e2)))
    | false =>
      (try rw [e2] at h); (try simp only [cond_false] at h)
      cases e3 : memN T [46] with
      | true =>
        first | (cases e3; done) | skip
        all_goals (
          rw [e3] at h; cases h; exact zAgg_ok (List.all_eq_true.1 zTabG T (memN_spec e3)))
      | false =>
        (try rw [e3] at h); (try simp only [cond_false] at h)
        cases e4 : memN T [] with
        | true =>
          first | (cases e4; done) | skip
          all_goals (
            rw [e4] at h; cases h; exact zAgg_ok (List.all_eq_true.1 zTabA T (memN_spec e4)))
        | false =>
          (try rw [e4] at h); (try simp only [cond_false] at h)
          cases e5 : memN T [] with
          | true =>
            first | (cases e5; done) | skip
            all_goals (
              rw [e5] at h; cases h; exact zAgg_ok (List.all_eq_true.1 zTab4i T (memN_spec e5)))
          | false => ((try rw [e5] at h); (try simp only [cond_false] at h); cases h)
theorem zOf_one (l : List Bool) : (l.map zOf).all (·.oneCell') = true := by
  rw [List.all_map]
  exact List.all_eq_true.2 fun b _ => by cases b <;> rfl
/-! ### Arrays -/
def arrT (T : TypeId) : Option (Nat × TypeId) := bif memN T [74] then some (4, WT) else bif memN T [78] then some (3, INT) else bif memN T [] then some (4, INT) else none
def arrIs (n : Nat) (E : TypeId) : Option TypeDesc → Bool
  | some (.array m F) => m == n && F == E
  | _ => false
theorem arrIs_ok {n : Nat} {E : TypeId} {d : Option TypeDesc} (h : arrIs n E d = true) : d = some (.array n E) := by
  unfold arrIs at h
  split at h
  · rw [Bool.and_eq_true] at h
    rw [eq_of_beq h.1, eq_of_beq h.2]
  · cases h
theorem arr4 : ([74] : List Nat).all (fun T => arrIs 4 WT (Try.prog.underlying T)) = true := by kernel_rfl
theorem arr3 : ([78] : List Nat).all (fun T => arrIs 3 INT (Try.prog.underlying T)) = true := by kernel_rfl
theorem arr4i : ([] : List Nat).all (fun T => arrIs 4 INT (Try.prog.underlying T)) = true := by kernel_rfl
structure ArrOf (T : TypeId) (n : Nat) (E : TypeId) : Prop where
  u : Try.prog.underlying T = some (.array n E)
  one : ∀ (cs : Array Value) (o : Nat) (v : Value) (w : World), cs[o]? = some v → (part E cs o).run Try.prog w = .ok v w
  sz : ∃ i, Try.prog.info? E = some i ∧ i.size = 1
theorem arr_ok {T E : TypeId} {n : Nat} (h : arrT T = some (n, E)) : ArrOf T n E := by
  unfold arrT at h
  cases e1 : memN T [74] with
  | true =>
    first | (cases e1; done) | skip
    all_goals (
      rw [e1] at h; cases h
      obtain ⟨i, hi, _, h2, _⟩ := info_parts wt_inf
      exact ⟨arrIs_ok (List.all_eq_true.1 arr4 T (memN_spec e1)), fun cs o v w h => by simp [part, isAgg, run_underlying wt_u, h], i, hi, h2⟩)
  | false =>
    (try rw [e1] at h); (try simp only [cond_false] at h)
    cases e2 : memN T [78] with
    | true =>
      first | (cases e2; done) | skip
      all_goals (
        rw [e2] at h; cases h
        obtain ⟨i, hi, _, h2, _⟩ := info_parts int_inf
        exact ⟨arrIs_ok (List.all_eq_true.1 arr3 T (memN_spec e2)), fun cs o v w h => by simp [part, isAgg, run_underlying int_und, h], i, hi, h2⟩)
    | false =>
      (try rw [e2] at h); (try simp only [cond_false] at h)
      cases e3 : memN T [] with
      | true =>
        first | (cases e3; done) | skip
        all_goals (
          rw [e3] at h; cases h
          obtain ⟨i, hi, _, h2, _⟩ := info_parts int_inf
          exact ⟨arrIs_ok (List.all_eq_true.1 arr4i T (memN_spec e3)), fun cs o v w h => by simp [part, isAgg, run_underlying int_und, h], i, hi, h2⟩)
      | false => ((try rw [e3] at h); (try simp only [cond_false] at h); cases h)
section
variable {o : Oper} {s : St}
theorem ok_index_arr {x y : Operand} {T E : TypeId} {n m : Nat} {f : Nat → AV} {k : IntKind} {z : Int} (ho : o.op = .index T x y) (ha : ArrOf T n E) (hx : avo s x = some (.ag m f)) (hy : avo s y = some (.v (.int k z))) (h0 : 0 ≤ z) (h1 : z < n) (h2 : z < m) : LOK Try.prog o s ⟨some (f z.toNat), [], []⟩ := by
  refine lok_val fun s2 hl W N β w a hs => ?_
  obtain ⟨hu, cs, e1, e2, e3⟩ := hs.opd (x := x) (by rw [hl.avo (by rw [ho]; simp [Op.operands])]; exact hx)
  have e4 : a.eval y = .int k z := hs.opv (by rw [hl.avo (by rw [ho]; simp [Op.operands])]; exact hy)
  obtain ⟨v, q1, q2, q3⟩ := e3 z.toNat (by omega)
  obtain ⟨i, hi, hz⟩ := ha.sz
  have hrun : (Instr.index T (a.eval x) (a.eval y)).run Try.prog w = .ok v w := by
    rw [e1, e4]
    have := ha.one cs (z.toNat * 1) v w (by rw [Nat.mul_one]; exact q1)
    simp [Instr.index, asIntOf, run_underlying ha.u, h0, h1, sizeOf, typeInfo, hi, hz]
    simpa using this
  exact ⟨v, by unfold execOp; rw [ho]; simp only [Sem.run_bind, hrun]; rfl, fun q hq => by cases hq; exact ⟨hu _ (by omega), q3⟩⟩
theorem ok_indexaddr_arr {x y : Operand} {T E : TypeId} {n g r : Nat} {k : IntKind} {z : Int} (ho : o.op = .indexAddr T x y) (ha : ArrOf T n E) (hx : avo s x = some (.ptr g r 0)) (hy : avo s y = some (.v (.int k z))) (h0 : 0 ≤ z) (h1 : z < n) : LOK Try.prog o s ⟨some (.ptr g r z.toNat), [], []⟩ := by
  refine lok_val fun s2 hl W N β w a hs => ?_
  obtain ⟨hu, b, q1, e1⟩ := hs.opd (x := x) (by rw [hl.avo (by rw [ho]; simp [Op.operands])]; exact hx)
  have e4 : a.eval y = .int k z := hs.opv (by rw [hl.avo (by rw [ho]; simp [Op.operands])]; exact hy)
  obtain ⟨i, hi, hz⟩ := ha.sz
  have hrun : (Instr.indexAt T (a.eval x) (a.eval y)).run Try.prog w = .ok (.pointer (some ⟨b, z.toNat, none⟩)) w := by
    rw [e1, e4]
    simp [Instr.indexAt, asIntOf, Instr.sureAddr, run_underlying ha.u, h0, h1, sizeOf, typeInfo, hi, hz, add_at]
  exact ⟨_, by unfold execOp; rw [ho]; simp only [Sem.run_bind, hrun]; rfl, fun q hq => by cases hq; exact ⟨hu, b, q1, rfl⟩⟩
/-! ### Pairs -/
/-- A struct of two ints. -/
structure PairT (T : TypeId) : Prop where
  u : ∃ f0 f1 : Field, Try.prog.underlying T = some (.struct #[f0, f1]) ∧ f0.type = INT ∧ f0.offset = 0 ∧ f0.name ≠ "_" ∧ f1.type = INT ∧ f1.offset = 1 ∧ f1.name ≠ "_"
  s : Try.prog.stoodInHeld T = false
  g : Try.prog.eqGuardType Try.prog.depth T = false
noncomputable def pairB (T : TypeId) : Bool := (match Try.prog.underlying T with
  | some (.struct fs) => (match fs.toList with
    | [f0, f1] => f0.type == INT && (f0.offset == 0 && (f0.name != "_" && (f1.type == INT && (f1.offset == 1 && f1.name != "_"))))
    | _ => false)
  | _ => false) && (!(Try.prog.stoodInHeld T) && !(Try.prog.eqGuardType Try.prog.depth T))
theorem pairB_ok {T : TypeId} (h : pairB T = true) : PairT T := by
  unfold pairB at h
  rw [Bool.and_eq_true, Bool.and_eq_true, Bool.not_eq_true', Bool.not_eq_true'] at h
  obtain ⟨h1, h2, h3⟩ := h
  refine ⟨?_, h2, h3⟩
  split at h1
  · rename_i fs e
    split at h1
    · rename_i f0 f1 e2
      simp only [Bool.and_eq_true, bne_iff_ne, ne_eq] at h1
      obtain ⟨a1, a2, a3, a4, a5, a6⟩ := h1
      refine ⟨f0, f1, ?_, eq_of_beq a1, eq_of_beq a2, a3, eq_of_beq a4, eq_of_beq a5, a6⟩
      rw [e]
      obtain ⟨fs⟩ := fs
      simp only [] at e2
      rw [e2]
    · cases h1
  · cases h1
abbrev agp (a b : Int) : Value := .agg #[.int .i64 a, .int .i64 b]
theorem part_int (cs : Array Value) (o : Nat) (v : Value) (w : World) (h : cs[o]? = some v) : (part INT cs o).run Try.prog w = .ok v w := by
  simp [part, isAgg, run_underlying int_und, h]
theorem run_eq_pair {T : TypeId} (hT : PairT T) (w : World) (a b c d : Int) : (Op.equal T (agp a b) (agp c d)).run Try.prog w = .ok (decide (a = c) && decide (b = d)) w := by
  obtain ⟨f0, f1, hu, a1, a2, a3, a4, a5, a6⟩ := hT.u
  have hint : ∀ (n : Nat) (x y : Int), (Op.equalIn (n + 1) INT (.int .i64 x) (.int .i64 y)).run Try.prog w = .ok (decide (x = y)) w := by
    intro n x y
    simp [Op.equalIn, run_underlying int_und, beq_dec]
  have hp0 : ∀ x y : Int, (part INT #[.int .i64 x, .int .i64 y] 0).run Try.prog w = .ok (.int .i64 x) w := fun x y => part_int _ 0 _ w rfl
  have hp1 : ∀ x y : Int, (part INT #[.int .i64 x, .int .i64 y] 1).run Try.prog w = .ok (.int .i64 y) w := fun x y => part_int _ 1 _ w rfl
  unfold Op.equal
  rw [show Op.maxDepth = 9998 + 1 + 1 from rfl]
  unfold Op.equalIn
  rw [Sem.run_bind, run_underlying hu w]
  have hs := hT.s
  have hpg : ∀ w, Sem.run Try.prog (Sem.program Sem.pure) w = .ok Try.prog w := fun w => by simp [Sem.run]
  by_cases h1 : a = c <;> by_cases h2 : b = d <;> simp [program, hpg, hs, a1, a2, a3, a4, a5, a6, hint, hp0, hp1, h1, h2]
theorem ag_pair {S : Nat → Prop} {B : Nat} {β : Nat → Nat → Value} {w : World} {f : Nat → AV} {v : Value} {a b : Int} (h : RV S B β w (.ag 2 f) v) (h0 : f 0 = .v (.int .i64 a)) (h1 : f 1 = .v (.int .i64 b)) : v = agp a b := by
  obtain ⟨cs, rfl, h2, h3⟩ := h
  obtain ⟨y0, e0, _, r0⟩ := h3 0 (by decide)
  obtain ⟨y1, e1, _, r1⟩ := h3 1 (by decide)
  rw [h0] at r0; rw [h1] at r1
  have r0 : y0 = .int .i64 a := r0
  have r1 : y1 = .int .i64 b := r1
  subst r0; subst r1
  obtain ⟨cs⟩ := cs
  match cs, h2 with
  | [x, y], _ => cases e0; cases e1; rfl
theorem ok_eq_pair {x y : Operand} {T T' : TypeId} {f g : Nat → AV} {a b c d : Int} (ho : o.op = .binOp .eql T x y T') (hT : PairT T) (hx : avo s x = some (.ag 2 f)) (hy : avo s y = some (.ag 2 g)) (h0 : f 0 = .v (.int .i64 a)) (h1 : f 1 = .v (.int .i64 b)) (h2 : g 0 = .v (.int .i64 c)) (h3 : g 1 = .v (.int .i64 d)) :
    LOK Try.prog o s ⟨some (.v (.bool (decide (a = c) && decide (b = d)))), [], []⟩ := by
  refine lok_val fun s2 hl W N β w ac hs => ⟨.bool (decide (a = c) && decide (b = d)), ?_, fun z hz => by cases hz; exact ⟨trivial, rfl⟩⟩
  have e1 := ag_pair (hs.opd (x := x) (by rw [hl.avo (by rw [ho]; simp [Op.operands])]; exact hx)).2 h0 h1
  have e2 := ag_pair (hs.opd (x := y) (by rw [hl.avo (by rw [ho]; simp [Op.operands])]; exact hy)).2 h2 h3
  have hg := hT.g
  unfold execOp; rw [ho]; simp only []; rw [e1, e2]
  simp [eqGuard, binOp, program, Sem.run, hg, run_eq_pair hT]
/-! ### Two bools -/
structure MarkT (T : TypeId) : Prop where
  u : ∃ f0 f1 : Field, Try.prog.underlying T = some (.struct #[f0, f1]) ∧ f0.type = 4 ∧ f0.offset = 0 ∧ f0.name ≠ "_" ∧ f1.type = 4 ∧ f1.offset = 1 ∧ f1.name ≠ "_"
  s : Try.prog.stoodInHeld T = false
  g : Try.prog.eqGuardType Try.prog.depth T = false
noncomputable def markB (T : TypeId) : Bool := (match Try.prog.underlying T with
  | some (.struct fs) => (match fs.toList with
    | [f0, f1] => f0.type == 4 && (f0.offset == 0 && (f0.name != "_" && (f1.type == 4 && (f1.offset == 1 && f1.name != "_"))))
    | _ => false)
  | _ => false) && (!(Try.prog.stoodInHeld T) && !(Try.prog.eqGuardType Try.prog.depth T))
theorem markB_ok {T : TypeId} (h : markB T = true) : MarkT T := by
  unfold markB at h
  rw [Bool.and_eq_true, Bool.and_eq_true, Bool.not_eq_true', Bool.not_eq_true'] at h
  obtain ⟨h1, h2, h3⟩ := h
  refine ⟨?_, h2, h3⟩
  split at h1
  · rename_i fs e
    split at h1
    · rename_i f0 f1 e2
      simp only [Bool.and_eq_true, bne_iff_ne, ne_eq] at h1
      obtain ⟨a1, a2, a3, a4, a5, a6⟩ := h1
      refine ⟨f0, f1, ?_, eq_of_beq a1, eq_of_beq a2, a3, eq_of_beq a4, eq_of_beq a5, a6⟩
      rw [e]
      obtain ⟨fs⟩ := fs
      simp only [] at e2
      rw [e2]
    · cases h1
  · cases h1
abbrev agb (a b : Bool) : Value := .agg #[.bool a, .bool b]
theorem bool_und : Try.prog.underlying 4 = some .bool := by kernel_rfl
theorem run_eq_mark {T : TypeId} (hT : MarkT T) (w : World) (a b c d : Bool) : (Op.equal T (agb a b) (agb c d)).run Try.prog w = .ok ((a == c) && (b == d)) w := by
  obtain ⟨f0, f1, hu, a1, a2, a3, a4, a5, a6⟩ := hT.u
  have hbool : ∀ (n : Nat) (x y : Bool), (Op.equalIn (n + 1) 4 (.bool x) (.bool y)).run Try.prog w = .ok (x == y) w := by
    intro n x y
    simp [Op.equalIn, run_underlying bool_und]
  have hp : ∀ (cs : Array Value) (o : Nat) (v : Value), cs[o]? = some v → (part 4 cs o).run Try.prog w = .ok v w := fun cs o v h => by simp [part, isAgg, run_underlying bool_und, h]
  have hp0 : ∀ x y : Bool, (part 4 #[.bool x, .bool y] 0).run Try.prog w = .ok (.bool x) w := fun x y => hp _ 0 _ rfl
  have hp1 : ∀ x y : Bool, (part 4 #[.bool x, .bool y] 1).run Try.prog w = .ok (.bool y) w := fun x y => hp _ 1 _ rfl
  unfold Op.equal
  rw [show Op.maxDepth = 9998 + 1 + 1 from rfl]
  unfold Op.equalIn
  rw [Sem.run_bind, run_underlying hu w]
  have hs := hT.s
  have hpg : ∀ w, Sem.run Try.prog (Sem.program Sem.pure) w = .ok Try.prog w := fun w => by simp [Sem.run]
  cases a <;> cases b <;> cases c <;> cases d <;> simp [program, hpg, hs, a1, a2, a3, a4, a5, a6, hbool, hp0, hp1]
theorem ag_mark {S : Nat → Prop} {B : Nat} {β : Nat → Nat → Value} {w : World} {f : Nat → AV} {v : Value} {a b : Bool} (h : RV S B β w (.ag 2 f) v) (h0 : f 0 = .v (.bool a)) (h1 : f 1 = .v (.bool b)) : v = agb a b := by
  obtain ⟨cs, rfl, h2, h3⟩ := h
  obtain ⟨y0, e0, _, r0⟩ := h3 0 (by decide)
  obtain ⟨y1, e1, _, r1⟩ := h3 1 (by decide)
  rw [h0] at r0; rw [h1] at r1
  have r0 : y0 = .bool a := r0
  have r1 : y1 = .bool b := r1
  subst r0; subst r1
  obtain ⟨cs⟩ := cs
  match cs, h2 with
  | [x, y], _ => cases e0; cases e1; rfl
theorem ok_ne_mark {x y : Operand} {T T' : TypeId} {f g : Nat → AV} {a b c d : Bool} (ho : o.op = .binOp .neq T x y T') (hT : MarkT T) (hx : avo s x = some (.ag 2 f)) (hy : avo s y = some (.ag 2 g)) (h0 : f 0 = .v (.bool a)) (h1 : f 1 = .v (.bool b)) (h2 : g 0 = .v (.bool c)) (h3 : g 1 = .v (.bool d)) :
    LOK Try.prog o s ⟨some (.v (.bool (!((a == c) && (b == d))))), [], []⟩ := by
  refine lok_val fun s2 hl W N β w ac hs => ⟨.bool (!((a == c) && (b == d))), ?_, fun z hz => by cases hz; exact ⟨trivial, rfl⟩⟩
  have e1 := ag_mark (hs.opd (x := x) (by rw [hl.avo (by rw [ho]; simp [Op.operands])]; exact hx)).2 h0 h1
  have e2 := ag_mark (hs.opd (x := y) (by rw [hl.avo (by rw [ho]; simp [Op.operands])]; exact hy)).2 h2 h3
  have hg := hT.g
  unfold execOp; rw [ho]; simp only []; rw [e1, e2]
  simp [eqGuard, binOp, program, Sem.run, hg, run_eq_mark hT]
noncomputable def zMark (T : TypeId) : Bool := match Try.prog.info? T with
  | some i => (match i.zero with | some z => (match z.cells.toList with | [.bool a, .bool b] => !a && !b | _ => false) | none => false)
  | none => false
theorem zMark_ok {T : TypeId} (h : zMark T = true) : isZero Try.prog T [.bool false, .bool false] := by
  unfold zMark at h
  split at h
  · rename_i i e
    split at h
    · rename_i z e2
      split at h
      · rename_i a b e3
        rw [Bool.and_eq_true, Bool.not_eq_true', Bool.not_eq_true'] at h
        rw [h.1, h.2] at e3
        refine ⟨i, z, e, e2, ?_⟩
        rw [← e3]
      · cases h
    · cases h
  · cases h
/-! ### Maps -/
structure MapT (M K : TypeId) : Prop where
  u : ∃ E, Try.prog.underlying M = some (.map K E) ∧ (∀ w, (zeroValue E).run Try.prog w = .ok (.agg #[.int .i64 0, .int .i64 0, .int .i64 0]) w)
  k : PairT K
theorem run_find {K : TypeId} (hK : PairT K) (w : World) (a b : Int) : ∀ (es : List MapEntry) (i : Nat), (∀ e ∈ es, ∃ c d, e.key = agp c d) →
    ∃ r, (Instr.findAsking K (agp a b) es i).run Try.prog w = .ok r w ∧ (∀ j v, r = some (j, v) → ∃ e ∈ es, e.key = agp a b ∧ e.val = v) ∧ (r = none → ∀ e ∈ es, e.key ≠ agp a b)
  | [], i, _ => ⟨none, by simp [Instr.findAsking], fun _ _ h => (by cases h), fun _ e he => (by cases he)⟩
  | e :: es, i, h => by
    obtain ⟨c, d, hk⟩ := h e (List.mem_cons_self ..)
    obtain ⟨r, h1, h2, h3⟩ := run_find hK w a b es (i + 1) fun e he => h e (List.mem_cons_of_mem _ he)
    by_cases hcd : a = c ∧ b = d
    · obtain ⟨rfl, rfl⟩ := hcd
      refine ⟨some (i, e.val), ?_, fun j v hv => ?_, fun hn => (by cases hn)⟩
      · unfold Instr.findAsking
        rw [hk]
        simp [run_eq_pair hK]
      · cases hv; exact ⟨e, List.mem_cons_self .., hk, rfl⟩
    · refine ⟨r, ?_, fun j v hv => ?_, fun hn e' he' => ?_⟩
      · unfold Instr.findAsking
        rw [hk]
        have : (decide (a = c) && decide (b = d)) = false := by
          rw [Bool.and_eq_false_iff]
          by_cases h : a = c
          · exact .inr (decide_eq_false fun h' => hcd ⟨h, h'⟩)
          · exact .inl (decide_eq_false h)
        simp [run_eq_pair hK, this, h1]
      · obtain ⟨e', he', h4⟩ := h2 j v hv; exact ⟨e', List.mem_cons_of_mem _ he', h4⟩
      · rcases List.mem_cons.1 he' with rfl | he'
        · rw [hk]; intro e0
          simp only [Value.agg.injEq, Array.mk.injEq, List.cons.injEq, Value.int.injEq, and_true, true_and] at e0
          exact hcd ⟨e0.1.symm, e0.2.symm⟩
        · exact h3 hn e' he'
theorem run_findKey {K : TypeId} (hK : PairT K) (w : World) (a b : Int) (es : List MapEntry) (he : ∀ e ∈ es, ∃ c d, e.key = agp c d) :
    ∃ r, (Instr.findKey K (agp a b) es).run Try.prog w = .ok r w ∧ (∀ j v, r = some (j, v) → ∃ e ∈ es, e.key = agp a b ∧ e.val = v) ∧ (r = none → ∀ e ∈ es, e.key ≠ agp a b) := by
  obtain ⟨f0, f1, hu, _⟩ := hK.u
  cases es with
  | nil => exact ⟨none, by simp [Instr.findKey, run_underlying hu, Instr.findNow], fun _ _ h => (by cases h), fun _ e he => (by cases he)⟩
  | cons e es =>
    obtain ⟨r, h1, h2, h3⟩ := run_find hK w a b (e :: es) 0 he
    obtain ⟨c, d, hk⟩ := he e (List.mem_cons_self ..)
    refine ⟨r, ?_, h2, h3⟩
    unfold Instr.findKey
    rw [Sem.run_bind, run_underlying hu w]
    simp only [Result.andThen_ok, Instr.findNow, hk, Instr.sameNow]
    exact h1
theorem run_checkKey {K : TypeId} (hK : PairT K) (w : World) (em : Bool) (a b : Int) : (Instr.checkKey em 10000 K (agp a b)).run Try.prog w = .ok () w := by
  obtain ⟨f0, f1, hu, a1, a2, a3, a4, a5, a6⟩ := hK.u
  have hp0 : ∀ x y : Int, (part INT #[.int .i64 x, .int .i64 y] 0).run Try.prog w = .ok (.int .i64 x) w := fun x y => part_int _ 0 _ w rfl
  have hp1 : ∀ x y : Int, (part INT #[.int .i64 x, .int .i64 y] 1).run Try.prog w = .ok (.int .i64 y) w := fun x y => part_int _ 1 _ w rfl
  have hint : ∀ (n : Nat) (x : Int), (Instr.checkKey em (n + 1) INT (.int .i64 x)).run Try.prog w = .ok () w := by
    intro n x
    simp [Instr.checkKey, run_underlying int_und]
  rw [show (10000 : Nat) = 9998 + 1 + 1 from rfl]
  unfold Instr.checkKey
  rw [Sem.run_bind, run_underlying hu w]
  simp [a1, a2, a3, a4, a5, a6, hp0, hp1, hint]
/-- What a map says at a key. -/
def mpz (p : Option (Int × Int × Int)) (i : Nat) : Int := match p with
  | some (x, y, z) => (match i with | 0 => x | 1 => y | _ => z)
  | none => 0
def mpv (p : Option (Int × Int × Int)) (i : Nat) : AV := .v (.int .i64 (mpz p i))
theorem mpv_ok (p : Option (Int × Int × Int)) (U : Nat → Bool) (i : Nat) : (mpv p i).ok U := by
  exact True.intro
theorem mpv_rv {S : Nat → Prop} {B : Nat} {β : Nat → Nat → Value} {w : World} {p : Option (Int × Int × Int)} {x y z : Int} (h : (p = some (x, y, z)) ∨ (p = none ∧ x = 0 ∧ y = 0 ∧ z = 0)) : RV S B β w (.ag 3 (mpv p)) (.agg #[.int .i64 x, .int .i64 y, .int .i64 z]) := by
  refine ⟨_, rfl, rfl, fun i hi => ?_⟩
  rcases h with rfl | ⟨rfl, rfl, rfl, rfl⟩
  · match i, hi with
    | 0, _ => exact ⟨_, rfl, rfl, rfl⟩
    | 1, _ => exact ⟨_, rfl, rfl, rfl⟩
    | 2, _ => exact ⟨_, rfl, rfl, rfl⟩
  · match i, hi with
    | 0, _ => exact ⟨_, rfl, rfl, rfl⟩
    | 1, _ => exact ⟨_, rfl, rfl, rfl⟩
    | 2, _ => exact ⟨_, rfl, rfl, rfl⟩
theorem run_getObj {r ck : Nat} {es : Array MapEntry} {w : World} (h : w.heap[r]? = some (.map es ck)) : (getObj r).run Try.prog w = .ok (.map es ck) w := by
  simp [getObj, Sem.run, h]
theorem ok_lookup {x y : Operand} {M K : TypeId} {F : Int → Int → Option (Int × Int × Int)} {f : Nat → AV} {a b : Int} (ho : o.op = .lookup M x y false) (hM : MapT M K) (hx : avo s x = some (.mp F)) (hy : avo s y = some (.ag 2 f)) (h0 : f 0 = .v (.int .i64 a)) (h1 : f 1 = .v (.int .i64 b)) : LOK Try.prog o s ⟨some (.ag 3 (mpv (F a b))), [], []⟩ := by
  refine lok_val fun s2 hl W N β w ac hs => ?_
  obtain ⟨_, r, es, ck, e1, _, e2, e3, e4⟩ := hs.opd (x := x) (by rw [hl.avo (by rw [ho]; simp [Op.operands])]; exact hx)
  have e5 := ag_pair (hs.opd (x := y) (by rw [hl.avo (by rw [ho]; simp [Op.operands])]; exact hy)).2 h0 h1
  obtain ⟨E, hu, hz⟩ := hM.u
  obtain ⟨q, q1, q2, q3⟩ := run_findKey hM.k w a b es.toList fun e he => by obtain ⟨c, d, _, _, _, h, _⟩ := e3 e he; exact ⟨c, d, h⟩
  have hrun : ∃ p1 p2 p3, (Instr.lookup M (ac.eval x) (ac.eval y) false).run Try.prog w = .ok (.agg #[.int .i64 p1, .int .i64 p2, .int .i64 p3]) w ∧ ((F a b = some (p1, p2, p3)) ∨ (F a b = none ∧ p1 = 0 ∧ p2 = 0 ∧ p3 = 0)) := by
    rw [e1, e5]
    cases q with
    | none =>
      refine ⟨0, 0, 0, ?_, .inr ⟨?_, rfl, rfl, rfl⟩⟩
      · simp [Instr.lookup, run_underlying hu, run_getObj e2, run_checkKey hM.k, q1, hz]
      · cases hF : F a b with
        | none => rfl
        | some p => obtain ⟨e, he, hk⟩ := e4 a b p hF; exact absurd hk (q3 rfl e he)
    | some jv =>
      obtain ⟨j, v⟩ := jv
      obtain ⟨e, he, hk, hv⟩ := q2 j v rfl
      obtain ⟨c, d, p1, p2, p3, hk2, hv2, hF⟩ := e3 e he
      rw [hk] at hk2
      simp only [Value.agg.injEq, Array.mk.injEq, List.cons.injEq, Value.int.injEq, and_true, true_and] at hk2
      rw [← hk2.1, ← hk2.2] at hF
      refine ⟨p1, p2, p3, ?_, .inl hF⟩
      rw [← hv2, hv]
      simp [Instr.lookup, run_underlying hu, run_getObj e2, run_checkKey hM.k, q1]
  obtain ⟨x', y', z', hr, hv⟩ := hrun
  exact ⟨_, by unfold execOp; rw [ho]; simp only [Sem.run_bind, hr]; rfl, fun q hq => by cases hq; exact ⟨fun i _ => mpv_ok _ _ i, mpv_rv hv⟩⟩
end
/-! ### Tables; what an operation does -/
def mapK (M : TypeId) : Option TypeId := bif memN M [76] then ([80] : List Nat).head? else none
noncomputable def mapIs (K : TypeId) : Option TypeDesc → Bool
  | some (.map k E) => k == K && (match Try.prog.info? E with
    | some i => (match i.zero with
      | some (.agg cs) => (match cs.toList with | [.int .i64 a, .int .i64 b, .int .i64 c] => decide (a = 0 ∧ b = 0 ∧ c = 0) | _ => false)
      | _ => false)
    | none => false)
  | _ => false
theorem mapIs_ok {M K : TypeId} (h : mapIs K (Try.prog.underlying M) = true) : ∃ E, Try.prog.underlying M = some (.map K E) ∧ (∀ w, (zeroValue E).run Try.prog w = .ok (.agg #[.int .i64 0, .int .i64 0, .int .i64 0]) w) := by
  unfold mapIs at h
  split at h
  · rename_i k E e
    rw [Bool.and_eq_true] at h
    refine ⟨E, by rw [e, eq_of_beq h.1], fun w => ?_⟩
    have h2 := h.2
    split at h2
    · rename_i i ei
      split at h2
      · rename_i cs ec
        split at h2
        · rename_i a b c el
          obtain ⟨rfl, rfl, rfl⟩ := of_decide_eq_true h2
          obtain ⟨cs⟩ := cs
          simp only [] at el
          subst el
          simp [zeroValue, typeInfo, ei, ec]
        · cases h2
      · cases h2
    · cases h2
  · cases h
theorem mapAll : ([76] : List Nat).all (fun M => ([80] : List Nat).all fun K => mapIs K (Try.prog.underlying M)) = true := by kernel_rfl
theorem markAll : ([109] : List Nat).all markB = true := by kernel_rfl
theorem zMarkAll : ([109] : List Nat).all zMark = true := by kernel_rfl
theorem layMarkAll : ∀ T, T ∈ ([109] : List Nat) → Lay T [(0, 1), (1, 1)] [.bool false, .bool false] := by
  intro T hT
  simp only [List.mem_cons, List.not_mem_nil, or_false] at hT <;>
  first
    | exact hT.elim
    | (rcases hT with rfl | rfl <;> exact ⟨⟨fun i => ([(0, 1), (1, 1)] : List (Nat × Nat)).toArray[i]?, fun i p h => by simpa using h, fun parts => by kernel_rfl⟩, rfl⟩)
    | (subst hT; exact ⟨⟨fun i => ([(0, 1), (1, 1)] : List (Nat × Nat)).toArray[i]?, fun i p h => by simpa using h, fun parts => by kernel_rfl⟩, rfl⟩)
theorem pairAll : ([80] : List Nat).all pairB = true := by kernel_rfl
theorem head_mem : ∀ {l : List Nat} {K : Nat}, l.head? = some K → K ∈ l
  | x :: l, K, h => by cases h; exact List.mem_cons_self ..
theorem mapK_ok {M K : TypeId} (h : mapK M = some K) : MapT M K := by
  unfold mapK at h
  cases e1 : memN M [76] with
  | true =>
    first | (cases e1; done) | skip
    all_goals (
      rw [e1] at h
      have hK := head_mem (show ([80] : List Nat).head? = some K from h)
      refine ⟨mapIs_ok (List.all_eq_true.1 (List.all_eq_true.1 mapAll M (memN_spec e1)) K hK), pairB_ok (List.all_eq_true.1 pairAll K ?_)⟩
      simp only [List.mem_cons, List.not_mem_nil, or_false] at hK ⊢ <;>
        first
          | exact .inl hK
          | exact hK)
  | false => ((try rw [e1] at h); (try simp only [cond_false] at h); cases h)
def pairOf : AV → AV → Option (Int × Int)
  | .v (.int .i64 a), .v (.int .i64 b) => some (a, b)
  | _, _ => none
theorem pairOf_ok {x y : AV} {a b : Int} (h : pairOf x y = some (a, b)) : x = .v (.int .i64 a) ∧ y = .v (.int .i64 b) := by
  unfold pairOf at h
  split at h
  · cases h; exact ⟨rfl, rfl⟩
  · cases h
def boolsOf : AV → AV → Option (Bool × Bool)
  | .v (.bool a), .v (.bool b) => some (a, b)
  | _, _ => none
theorem boolsOf_ok {x y : AV} {a b : Bool} (h : boolsOf x y = some (a, b)) : x = .v (.bool a) ∧ y = .v (.bool b) := by
  unfold boolsOf at h
  split at h
  · cases h; exact ⟨rfl, rfl⟩
  · cases h
def ev2 (o : Oper) (s : St) : Ev :=
  match o.op with
  | .alloc T => (match zTab T with
    | some l => outN s o.dst (fun g => .ptr g 0 0) (.ones T l.length (fun i => .v ((l.map zOf).getD i undef))) (T ≠ U32) []
    | none => bif memN T [109] then outN s o.dst (fun g => .ptr g 0 0) (.ones T 2 (fun i => .v ([Value.bool false, Value.bool false].getD i undef))) (T ≠ U32) [] else none)
  | .build T parts => bif memN T [109] then (match partsA s parts.toList with
    | some ys => (match fillA [(0, 1), (1, 1)] [.v (.bool false), .v (.bool false)] ys with
      | some r => out (.ag r.length (fun i => r.getD i (.v undef))) ((ys.all fun p => partOK p.2) = true) []
      | none => none)
    | none => none) else none
  | .index T x y => (match arrT T, avo s x, avo s y with
    | some (n, _), some (.ag m f), some (.v (.int _ z)) => out (f z.toNat) (0 ≤ z ∧ z < n ∧ z < m) []
    | _, _, _ => none)
  | .indexAddr T x y => (match arrT T, avo s x, avo s y with
    | some (n, _), some (.ptr g r i), some (.v (.int _ z)) => bif Nat.beq i 0 then out (.ptr g r z.toNat) (0 ≤ z ∧ z < n) [] else none
    | _, _, _ => none)
  | .lookup M x y ok => bif ok then none else (match mapK M, avo s x, avo s y with
    | some _, some (.mp F), some (.ag m f) => (match pairOf (f 0) (f 1) with
      | some (a, b) => out (.ag 3 (mpv (F a b))) (m = 2) []
      | none => none)
    | _, _, _ => none)
  | .binOp .eql T x y _ => bif memN T [80] then (match avo s x, avo s y with
    | some (.ag m f), some (.ag m' g) => (match pairOf (f 0) (f 1), pairOf (g 0) (g 1) with
      | some (a, b), some (c, d) => out (.v (.bool (decide (a = c) && decide (b = d)))) (m = 2 ∧ m' = 2) []
      | _, _ => none)
    | _, _ => none) else none
  | .binOp .neq T x y _ => bif memN T [109] then (match avo s x, avo s y with
    | some (.ag m f), some (.ag m' g) => (match boolsOf (f 0) (f 1), boolsOf (g 0) (g 1) with
      | some (a, b), some (c, d) => out (.v (.bool (!((a == c) && (b == d))))) (m = 2 ∧ m' = 2) []
      | _, _ => none)
    | _, _ => none) else none
  | _ => none
theorem ev2_ok {o : Oper} {s : St} {D : Dsc} {c : Prop} (h : ev2 o s = some (D, c)) (hc : c) : LOK Try.prog o s D := by
  unfold ev2 at h
  split at h
  · rename_i T ho
    split at h
    · rename_i l e
      obtain ⟨hu, rfl, rfl⟩ := outN_inj h
      exact ok_alloc_ones ho hu (zTab_ok e) hc (zOf_one l) (by simp)
    · rename_i e
      cases hT : memN T [109] with
      | false => rw [hT] at h; cases h
      | true =>
        rw [hT] at h
        obtain ⟨hu, rfl, rfl⟩ := outN_inj h
        exact ok_alloc_ones ho hu (zMark_ok (List.all_eq_true.1 zMarkAll T (memN_spec hT))) hc rfl rfl
  · rename_i T parts ho
    cases hT : memN T [109] with
    | false => rw [hT] at h; cases h
    | true =>
      rw [hT] at h
      simp only [cond_true] at h
      split at h
      · rename_i ys e1
        split at h
        · rename_i r e2
          obtain ⟨rfl, rfl⟩ := out_inj h
          exact ok_build_ag ho (layMarkAll T (memN_spec hT)) e1 hc e2
        · cases h
      · cases h
  · rename_i ho
    split at h
    · rename_i e1 e2 e3
      obtain ⟨rfl, rfl⟩ := out_inj h
      exact ok_index_arr ho (arr_ok e1) e2 e3 hc.1 hc.2.1 hc.2.2
    · cases h
  · rename_i ho
    split at h
    · rename_i g r i k z e1 e2 e3
      cases hi : Nat.beq i 0 with
      | true =>
        rw [hi] at h
        have := Nat.eq_of_beq_eq_true hi
        subst this
        obtain ⟨rfl, rfl⟩ := out_inj h
        exact ok_indexaddr_arr ho (arr_ok e1) e2 e3 hc.1 hc.2
      | false => rw [hi] at h; cases h
    · cases h
  · rename_i M x y ok ho
    cases ok with
    | true => cases h
    | false =>
      simp only [cond_false] at h
      split at h
      · rename_i K F m f e1 e2 e3
        split at h
        · rename_i a b e4
          obtain ⟨rfl, rfl⟩ := out_inj h
          obtain ⟨q1, q2⟩ := pairOf_ok e4
          subst hc
          exact ok_lookup ho (mapK_ok e1) e2 e3 q1 q2
        · cases h
      · cases h
  · rename_i T x y T' ho
    cases hT : memN T [80] with
    | false => rw [hT] at h; cases h
    | true =>
      rw [hT] at h
      simp only [cond_true] at h
      split at h
      · rename_i m f m' g e1 e2
        split at h
        · rename_i a b c' d e3 e4
          obtain ⟨rfl, rfl⟩ := out_inj h
          obtain ⟨q1, q2⟩ := pairOf_ok e3
          obtain ⟨q3, q4⟩ := pairOf_ok e4
          obtain ⟨rfl, rfl⟩ := hc
          exact ok_eq_pair ho (pairB_ok (List.all_eq_true.1 pairAll T (memN_spec hT))) e1 e2 q1 q2 q3 q4
        · cases h
      · cases h
  · rename_i T x y T' ho
    cases hT : memN T [109] with
    | false => rw [hT] at h; cases h
    | true =>
      rw [hT] at h
      simp only [cond_true] at h
      split at h
      · rename_i m f m' g e1 e2
        split at h
        · rename_i a b c' d e3 e4
          obtain ⟨rfl, rfl⟩ := out_inj h
          obtain ⟨q1, q2⟩ := boolsOf_ok e3
          obtain ⟨q3, q4⟩ := boolsOf_ok e4
          obtain ⟨rfl, rfl⟩ := hc
          exact ok_ne_mark ho (markB_ok (List.all_eq_true.1 markAll T (memN_spec hT))) e1 e2 q1 q2 q3 q4
        · cases h
      · cases h
  · cases h
def ev23 (o : Oper) (s : St) : Ev := match ev2 o s with
  | some r => some r
  | none => (match ev3 o s with
    | some r => some r
    | none => ev4 o s)
theorem ev23_ok {o : Oper} {s : St} {D : Dsc} {c : Prop} (h : ev23 o s = some (D, c)) (hc : c) : LOK Try.prog o s D := by
  unfold ev23 at h
  split at h
  · rename_i e; exact ev2_ok (e.trans h) hc
  · split at h
    · rename_i e; exact ev3_ok (e.trans h) hc
    · exact ev4_ok h hc
section
variable {ops : Array Oper} {l : List Oper} {s : St} {acc : List Fp} {K : St → List Fp → Prop} {c : Prop} {d : Option Tmp} {r : Option AV} {upd : List (Nat × Option Fam)} {rd : List Nat} {op : Op} {ty : TypeId} {ps : String} {aft : Array Edge}
theorem st_ev2 (h : ev23 ⟨d, op, ty, ps, aft, none⟩ s = some (⟨r, upd, rd⟩, c)) (hc : c) (k : AOps Try.prog ops l (nxt s d r upd) ((rd, upd.map (·.1)) :: acc) K) : AOps Try.prog ops (⟨d, op, ty, ps, aft, none⟩ :: l) s acc K := .cons _ (.inl ⟨.none rfl, ev23_ok h hc⟩) k
theorem st_evg2 {j : Nat} {want b : Bool} {t : Tmp} (ht : (ops[j]?).bind (·.dst) = some t) (he : s.env t = some (.v (.bool b))) (hb : (b == want) = true) (h : ev23 ⟨d, op, ty, ps, aft, some (j, want)⟩ s = some (⟨r, upd, rd⟩, c)) (hc : c) (k : AOps Try.prog ops l (nxt s d r upd) ((rd, upd.map (·.1)) :: acc) K) : AOps Try.prog ops (⟨d, op, ty, ps, aft, some (j, want)⟩ :: l) s acc K :=
  .cons _ (.inl ⟨hb ▸ .some j want t b rfl ht he, ev23_ok h hc⟩) k
end
end Go.Proofs.Ytggicfmbdmjhkaa.AM
/- A map that is written out, in whatever order. -/
namespace Go.Proofs.Ytggicfmbdmjhkaa.AM
open Go Go.RowKit Go.Proofs.Ytggicfmbdmjhkaa.PN Go.Proofs.Ytggicfmbdmjhkaa.V
set_option linter.unusedVariables false
set_option linter.unusedSimpArgs false
section
variable {P : Program} {ops : Array Oper} {Q : Exit → Act → World → Prop}
end
/-! ### A table of twelve rows -/
abbrev ag3 (a b c : Int) : Value := .agg #[.int .i64 a, .int .i64 b, .int .i64 c]
structure Tab where
  l : List (Int × Int × Int × Int × Int)
def Tab.at (T : Tab) (j : Nat) : Int × Int × Int × Int × Int := T.l.getD j (0, 0, 0, 0, 0)
def Tab.key (T : Tab) (j : Nat) : Value := agp (T.at j).1 (T.at j).2.1
def Tab.val (T : Tab) (j : Nat) : Value := ag3 (T.at j).2.2.1 (T.at j).2.2.2.1 (T.at j).2.2.2.2
def Tab.map (T : Tab) (a b : Int) : Option (Int × Int × Int) := (T.l.find? fun e => a == e.1 && b == e.2.1).map fun e => (e.2.2.1, e.2.2.2.1, e.2.2.2.2)
/-- No key twice. -/
def Tab.one (T : Tab) : Bool := (List.range T.l.length).all fun j => (List.range j).all fun k => !((T.at j).1 == (T.at k).1 && (T.at j).2.1 == (T.at k).2.1)
/-- What the operations are. -/
structure MapOps (ops : Array Oper) (M K V : TypeId) (T : Tab) (n : Nat) : Prop where
  size : ops.size = 3 * n + 3
  make : ∃ o, ops[0]? = some o ∧ o.op = .makeMap M none ∧ o.dst = some 1 ∧ o.guard = none
  key : ∀ j, j < n → ∃ o, ops[3 * j + 1]? = some o ∧ o.op = .build K #[(0, .const (.int .i64 (T.at j).1)), (1, .const (.int .i64 (T.at j).2.1))] ∧ o.dst = some (2 * j + 2) ∧ o.guard = none
  val : ∀ j, j < n → ∃ o, ops[3 * j + 2]? = some o ∧ o.op = .build V #[(0, .const (.int .i64 (T.at j).2.2.1)), (1, .const (.int .i64 (T.at j).2.2.2.1)), (2, .const (.int .i64 (T.at j).2.2.2.2))] ∧ o.dst = some (2 * j + 3) ∧ o.guard = none
  ins : ∀ j, j < n → ∃ o, ops[3 * j + 3]? = some o ∧ o.op = .insert M (.tmp 1) (.tmp (2 * j + 2)) (.tmp (2 * j + 3)) ∧ o.dst = none ∧ o.guard = none ∧
    (∃ e ∈ o.after, Region.binds .any e = true ∧ e.on = 0) ∧ (∃ e ∈ o.after, Region.binds .any e = true ∧ e.on = 3 * j + 1) ∧ (∃ e ∈ o.after, Region.binds .any e = true ∧ e.on = 3 * j + 2)
  mv : ∃ o, ops[3 * n + 1]? = some o ∧ o.op = .move (.tmp 1) ∧ o.dst = some (2 * n + 2) ∧ o.guard = none ∧ (∃ e ∈ o.after, Region.binds .any e = true ∧ e.on = 0)
  asg : ∃ o, ops[3 * n + 2]? = some o ∧ o.op = .assign (.tmp (2 * n + 2)) ∧ o.dst = some 0 ∧ o.guard = none ∧ (∃ e ∈ o.after, Region.binds .any e = true ∧ e.on = 3 * n + 1)
  back : ∀ i o, ops[i]? = some o → ∀ e ∈ o.after, Region.binds .any e = true → e.on < i
def backB (ops : Array Oper) : Bool := (List.range ops.size).all fun i => match ops[i]? with
  | none => true
  | some o => o.after.toList.all fun e => !Region.binds .any e || Nat.blt e.on i
structure MapTys (M K V : TypeId) : Prop where
  m : MapT M K
  k : ∀ (w : World) (a b : Int), (Instr.build K #[(0, .int .i64 a), (1, .int .i64 b)]).run Try.prog w = .ok (agp a b) w
  v : ∀ (w : World) (a b c : Int), (Instr.build V #[(0, .int .i64 a), (1, .int .i64 b), (2, .int .i64 c)]).run Try.prog w = .ok (ag3 a b c) w
/-- What holds when the operations of L have been done. -/
structure MJ (w0 : World) (T : Tab) (n : Nat) (L : Nat → Bool) (a : Act) (w : World) : Prop where
  nodef : a.defers = []
  size : a.tmps.size = 2 * n + 3
  kept : Kept w0 w
  key : ∀ j, j < n → L (3 * j + 1) = true → a.tmps.getD (2 * j + 2) undef = T.key j
  val : ∀ j, j < n → L (3 * j + 2) = true → a.tmps.getD (2 * j + 3) undef = T.val j
  none : L 0 = false → (∀ j, j < n → L (3 * j + 3) = false) ∧ L (3 * n + 1) = false ∧ L (3 * n + 2) = false
  some : L 0 = true → ∃ m es ck, a.tmps.getD 1 undef = .map (some m) ∧ w0.heap.size ≤ m ∧ w.heap[m]? = some (.map es ck) ∧
    (∀ e ∈ es.toList, ∃ j, j < n ∧ L (3 * j + 3) = true ∧ e.key = T.key j ∧ e.val = T.val j) ∧ (∀ j, j < n → L (3 * j + 3) = true → ∃ e ∈ es.toList, e.key = T.key j) ∧
    (L (3 * n + 1) = true → a.tmps.getD (2 * n + 2) undef = .map (some m)) ∧ (L (3 * n + 2) = true → a.tmps.getD 0 undef = .map (some m))
section
variable {w0 : World} {T : Tab} {n : Nat} {ops : Array Oper} {M K V : TypeId} {L : Nat → Bool} {a : Act} {w : World} {Q : Exit → Act → World → Prop} {C : Act → World → Prop}
end
end Go.Proofs.Ytggicfmbdmjhkaa.AM
/- Package rat: which of two is greater. -/
namespace Go.Proofs.Ytggicfmbdmjhkaa.AM
open Go Go.RowKit Go.Proofs.Ytggicfmbdmjhkaa.PN Go.Proofs.Ytggicfmbdmjhkaa.V
set_option linter.unusedVariables false
set_option linter.unusedSimpArgs false
set_option maxRecDepth 4000
/-- A number's sign. -/
def mkOf (p : Rat) : List AV := [.b (ng p), .b (decide (p = 0))]
end Go.Proofs.Ytggicfmbdmjhkaa.AM
/- Package gen: the table of first counts. -/
namespace Go.Proofs.Ytggicfmbdmjhkaa.V
open Go Go.RowKit Go.Proofs.Ytggicfmbdmjhkaa.PN Go.Proofs.Ytggicfmbdmjhkaa.AM
set_option linter.unusedVariables false
set_option linter.unusedSimpArgs false
def cTab : Tab := ⟨[(1, 0, 2, 0, -1), (2, 0, 2, 0, -1), (3, 0, 1, 0, 0), (4, 0, 1, 0, 0), (5, 0, 1, 0, 0), (5, 1, 1, 0, 0), (6, 2, 0, 1, 0), (6, 3, 0, 1, 0), (7, 0, 1, 0, 0), (7, 1, 1, 0, 0), (7, 2, 0, 1, 0), (7, 3, 0, 1, 0)]⟩
def cmap (a b : Int) : Option (Int × Int × Int) := cTab.map a b
end Go.Proofs.Ytggicfmbdmjhkaa.V
/- Package gen: what a system may be. -/
namespace Go.Proofs.Ytggicfmbdmjhkaa.AM
open Go Go.RowKit Go.Proofs.Ytggicfmbdmjhkaa.PN Go.Proofs.Ytggicfmbdmjhkaa.V
set_option linter.unusedVariables false
set_option linter.unusedSimpArgs false
set_option maxRecDepth 8000
set_option maxHeartbeats 8000000
theorem rv_ag {S : Nat → Prop} {B : Nat} {β : Nat → Nat → Value} {w : World} {n : Nat} {f f' : Nat → AV} (h : ∀ i, i < n → f i = f' i) (v : Value) (hv : RV S B β w (.ag n f) v) : RV S B β w (.ag n f') v := by
  obtain ⟨cs, e1, e2, e3⟩ := hv
  refine ⟨cs, e1, e2, fun i hi => ?_⟩
  obtain ⟨y, a0, a1, a2⟩ := e3 i hi
  exact ⟨y, a0, a1, h i hi ▸ a2⟩
theorem rvs_same {S : Nat → Prop} {B : Nat} {β : Nat → Nat → Value} {w : World} {xs : List AV} (us : List Value) (h : RVs S B β w xs us) : RVs S B β w xs us := h
theorem Has.ag {P : Program} {f : FuncId} {n : Nat} {u u' : Nat → AV} {xs : List AV} {r : AV} (h : ∀ i, i < n → u i = u' i) (H : Has P f (.ag n u' :: xs) r) : Has P f (.ag n u :: xs) r :=
  Has.args H fun S B β w vs hv => rvs_cons (rv_ag h) rvs_same hv
/-- A system. -/
structure GD where
  k : Nat
  n : Nat
  r : Nat
  la : Nat
  lb : Nat
  lg : Nat
  lh : Nat
  A : Nat → Rat
  B : Nat → Rat
  G : Nat → Rat
  H : Nat → Rat
def GD.l (g : GD) : List AV := [.i g.k, .i g.n, .i g.r, .row false g.la (fun i => .q (g.A i)), .row false g.lb (fun i => .q (g.B i)), .row false g.lg (fun i => .q (g.G i)), .row false g.lh (fun i => .q (g.H i))]
def GD.f (g : GD) (i : Nat) : AV := g.l.getD i (.v undef)
def GD.v (g : GD) : AV := .ag 7 g.f
/-- Its four rows. -/
def GD.rw (g : GD) (i : Nat) : AV := (g.l.drop 3).getD i (.v undef)
/-- It is four rows of numbers that are not long. -/
structure GD.Sm (g : GD) : Prop where
  A : ∀ i, i < g.la → wt (g.A i) ≤ 4
  B : ∀ i, i < g.lb → wt (g.B i) ≤ 4
  G : ∀ i, i < g.lg → wt (g.G i) ≤ 4
  H : ∀ i, i < g.lh → wt (g.H i) ≤ 4
def likeB (k : Nat) : Bool := decide (k = 6) || decide (k = 7)
def GD.len (g : GD) (i : Nat) : Nat := match i with | 0 => g.la | 1 => g.lb | 2 => g.lg | _ => g.lh
structure GD.OK (g : GD) : Prop where
  k1 : 1 ≤ g.k
  k7 : g.k ≤ 7
  n1 : 1 ≤ g.n
  n8 : g.n ≤ 8
  r3 : g.r ≤ 3
  rk : likeB g.k = true → 1 ≤ g.r
  r0 : likeB g.k = false → g.r = 0
  len : ∀ i : Nat, i < 4 → ((g.len i : Nat) : Int) = mpz (cmap g.k i) 0 * g.n + mpz (cmap g.k i) 1 * g.n * g.r + mpz (cmap g.k i) 2
  sm : g.Sm
  ne : ∀ i, i < g.la → ∀ j, j < g.lb → g.A i ≠ g.B j
end Go.Proofs.Ytggicfmbdmjhkaa.AM
/- Package gen: a system is right. -/
namespace Go.Proofs.Ytggicfmbdmjhkaa.AM
open Go Go.RowKit Go.Proofs.Ytggicfmbdmjhkaa.PN Go.Proofs.Ytggicfmbdmjhkaa.V
set_option linter.unusedVariables false
set_option linter.unusedSimpArgs false
set_option maxRecDepth 8000
set_option maxHeartbeats 8000000
end Go.Proofs.Ytggicfmbdmjhkaa.AM
/- Dense matrices: walks: numbers, sums of products. -/
namespace Go.Proofs.Ytggicfmbdmjhkaa.AM
open Go Go.RowKit Go.Proofs.Ytggicfmbdmjhkaa.PN Go.Proofs.Ytggicfmbdmjhkaa.V
open Go.Proofs.Ytggicfmbdmjhkaa.LA (S S_succ S_zero S_congr)
set_option linter.unusedVariables false
set_option linter.unusedSimpArgs false
theorem Has.imp {f : FuncId} {xs : List AV} {r r' : AV} (h : Has Try.prog f xs r) (hc : r'.closed = true) (k : ∀ S B β w v, RV S B β w r v → RV S B β w r' v) : Has Try.prog f xs r' :=
  ⟨h.b, closed_ok hc, fun w S β vs hv => (h.run w S β vs hv).mono fun e w' ⟨v, he, hk, hr⟩ => ⟨v, he, hk, k _ _ _ _ _ hr⟩⟩
def joinQ (s1 : St) (e : Exit) (s' : St) : Prop := e = .normal ∧ Imp s' s1
end Go.Proofs.Ytggicfmbdmjhkaa.AM
/- Package gen: entries. -/
namespace Go.Proofs.Ytggicfmbdmjhkaa.AM
open Go Go.RowKit Go.Proofs.Ytggicfmbdmjhkaa.PN Go.Proofs.Ytggicfmbdmjhkaa.V
open Go.Proofs.Ytggicfmbdmjhkaa.LA (S S_succ S_zero S_congr)
set_option linter.unusedVariables false
set_option linter.unusedSimpArgs false
set_option maxRecDepth 8000
set_option maxHeartbeats 8000000
/-- The product of two rows of a system. -/
def rdot (g : GD) (i j : Nat) : Rat := S g.r fun k => g.G (i * g.r + k) * g.H (j * g.r + k)
/-- An entry. -/
def gent (g : GD) (i j : Nat) : Rat :=
  match g.k with
  | 1 => g.A (i + g.n - 1 - j)
  | 2 => g.A (i + j)
  | 3 => g.A ((i + g.n - j) % g.n)
  | 4 => g.A i ^ j
  | 5 => 1 / (g.A i - g.B j)
  | 6 => S (min i j + 1) fun m => rdot g (i - m) (j - m)
  | _ => rdot g i j / (g.A i - g.B j)
end Go.Proofs.Ytggicfmbdmjhkaa.AM
/- Package gen: entries, of each kind. -/
namespace Go.Proofs.Ytggicfmbdmjhkaa.AM
open Go Go.RowKit Go.Proofs.Ytggicfmbdmjhkaa.PN Go.Proofs.Ytggicfmbdmjhkaa.V
open Go.Proofs.Ytggicfmbdmjhkaa.LA (S S_succ S_zero S_congr)
set_option linter.unusedVariables false
set_option linter.unusedSimpArgs false
set_option maxRecDepth 8000
set_option maxHeartbeats 8000000
end Go.Proofs.Ytggicfmbdmjhkaa.AM
/- Package gen: the whole matrix. -/
namespace Go.Proofs.Ytggicfmbdmjhkaa.AM
open Go Go.RowKit Go.Proofs.Ytggicfmbdmjhkaa.PN Go.Proofs.Ytggicfmbdmjhkaa.V
open Go.Proofs.Ytggicfmbdmjhkaa.LA (S S_succ S_zero S_congr)
set_option linter.unusedVariables false
set_option linter.unusedSimpArgs false
set_option maxRecDepth 8000
set_option maxHeartbeats 8000000
end Go.Proofs.Ytggicfmbdmjhkaa.AM
/- Laws of dense matrices: walks: rows of numbers. -/
namespace Go.Proofs.Ytggicfmbdmjhkaa.AM
open Go Go.RowKit Go.Proofs.Ytggicfmbdmjhkaa.PN Go.Proofs.Ytggicfmbdmjhkaa.V
open Go.Proofs.Ytggicfmbdmjhkaa.LA (S S_succ S_zero S_congr)
set_option linter.unusedVariables false
set_option linter.unusedSimpArgs false
set_option maxRecDepth 4000
set_option maxHeartbeats 4000000
/-- What a list of whole numbers says at a place. -/
def rowx (zs : List Int) (i : Nat) : Int := if i < zs.length then zs.getD i 0 else 3 * i + 1
def rowq (zs : List Int) (i : Nat) : Rat := smal (rowx zs i)
instance rowq_wt (zs : List Int) (i : Nat) : Wt (rowq zs i) 1 := smal_wt _
def rowS (e : List (Nat × AV)) (v : Nat → RA) : Nat → St
  | 0 => stl ((5, .v (.slice none 0 0)) :: e) []
  | k + 1 => stl ((5, .own 5 0) :: e) [(5, (1, fun _ => .rats (k + 1) v))]
end Go.Proofs.Ytggicfmbdmjhkaa.AM

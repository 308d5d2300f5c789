/- Joined texts, 6: AmG AmH AmI. -/
import Derived.Test.YtpclkgjhfhhddaaJLawGenChecks5
import Derived.Maps.AppendAt
set_option linter.unusedVariables false
set_option linter.unusedSimpArgs false
/- What operations do that make memory. -/
namespace Go.Proofs.Ytpclkgjhfhhddaa.AM
open Go Go.RowKit Go.Proofs.Ytpclkgjhfhhddaa.PN Go.Proofs.Ytpclkgjhfhhddaa.V
set_option linter.unusedVariables false
set_option linter.unusedSimpArgs false
/-- What stands for a new block. -/
inductive Hd (g : Nat) (u : Value) : AV → Prop where
  | own {A : Option Addr} {n c : Nat} (h : u = .slice A n c) : Hd g u (.own g 0)
  | ownx {A : Option Addr} {n : Nat} (h : u = .slice A n n) : Hd g u (.ownx g 0)
  | ptr {k : Nat} (h : u = .pointer (some ⟨k, 0, none⟩)) : Hd g u (.ptr g 0 0)
  | rptr {k : Nat} (h : u = .pointer (some ⟨k, 0, none⟩)) : Hd g u (.rptr g 0 0)
theorem lok_newfam {P : Program} {o : Oper} {s : St} {g : Nat} (old : Option Nat) {b : Blk} {x : AV} {rd : List Nat} (hg : s.used g = false) (hgr : g ∉ rd) (hold : ∀ q, old = some q → q ∈ rd ∧ s.used q = true)
    (h : ∀ s2, Like o rd s s2 → ∀ W N β w a, Sim W N β w a s2 → ∃ u w' O, (execOp a.eval o).run P w = .ok (.value u) w' ∧ Kept W.w w' ∧ Ext O w w' ∧
      (∀ i, O i → ∃ q n F r, old = some q ∧ s2.heap q = some (n, F) ∧ r < n ∧ ub (β q r) = some i) ∧
      (∀ i, ub u = some i → w.heap.size ≤ i ∨ ∃ q n F r, old = some q ∧ s2.heap q = some (n, F) ∧ r < n ∧ ub (β q r) = some i) ∧
      (∀ S' β', Fwd (notOwn W s2 β) S' W.w.heap.size W.w.heap.size s2.used β β' O w w' → b.ok s2.used ∧ RB S' W.w.heap.size β' w' u b) ∧ Hd g u x) :
    LOK P o s ⟨some x, gone old ++ [(g, some (1, fun _ => b))], rd⟩ := by
  refine ⟨fun g' hb hn => ?_, fun s2 h1 h2 h3 h4 W N β w a hs hN K Q hK => ?_⟩
  · obtain ⟨b', hb⟩ := hb
    rcases List.mem_append.1 hb with hb | hb
    · cases old with
      | none => cases hb
      | some q =>
        simp only [gone, List.mem_singleton, Prod.mk.injEq] at hb
        exact absurd (hold q rfl).1 (by rw [← hb.1]; exact hn)
    · simp only [List.mem_singleton, Prod.mk.injEq] at hb
      rw [hb.1]; exact hg
  · obtain ⟨u, w', O, hrun, hk, he, hO, hu, hb, hx⟩ := h s2 ⟨h1, h2⟩ W N β w a hs
    have hg2 := h4 g ⟨_, List.mem_append_right _ (List.mem_singleton.2 rfl)⟩ hgr
    have hs' := hs.newfam hg2 old (fun q hq => h3 q (hold q hq).1 (hold q hq).2) u b hk he hO hu hb
    unfold Oper.wp
    rw [hrun]
    have hs'' := hs'.putv (v := u) (r := some x) hN (fun z hz _ => by
      cases hz
      have husd : (turn s2 (gone old ++ [(g, some (1, fun _ => b))])).used g = true := by
        cases old with
        | none => exact mark_same _ _
        | some q => exact mark_same _ _
      have hv : setv β g u g 0 = u := if_pos rfl
      cases hx with
      | own e => exact ⟨husd, hv.symm, _, _, _, e⟩
      | ownx e => exact ⟨husd, hv.symm, _, _, e⟩
      | ptr e => subst e; exact ⟨husd, _, by rw [hv]; rfl, rfl⟩
      | rptr e => subst e; exact ⟨husd, _, by rw [hv]; rfl, by simp⟩)
    refine hK (setv β g u) _ w' ?_
    cases hd : o.dst with
    | none => rw [hd] at hs''; exact hs''
    | some t =>
      rw [hd] at hs''
      have e : (s2.app (some t) ⟨some x, gone old ++ [(g, some (1, fun _ => b))], rd⟩) = (turn s2 (gone old ++ [(g, some (1, fun _ => b))])).app (some t) ⟨some x, [], []⟩ := by
        show setE _ _ = setE _ _
        rw [turn_env]; rfl
      rw [e]
      exact hs''
/-- A new block, and nothing else. -/
theorem lok_fresh {P : Program} {o : Oper} {s : St} {g : Nat} {b : Blk} {x : AV} {rd : List Nat} (hg : s.used g = false) (hgr : g ∉ rd)
    (h : ∀ s2, Like o rd s s2 → ∀ W N β w a, Sim W N β w a s2 → ∃ u cs T, (execOp a.eval o).run P w = .ok (.value u) (w.alloc (.cells cs T)) ∧ ub u = some w.heap.size ∧ b.ok s2.used ∧
      (∀ S' β' O, Fwd (notOwn W s2 β) S' W.w.heap.size W.w.heap.size s2.used β β' O w (w.alloc (.cells cs T)) → Row? (w.alloc (.cells cs T)) w.heap.size cs T → W.w.heap.size ≤ w.heap.size → RB S' W.w.heap.size β' (w.alloc (.cells cs T)) u b) ∧ Hd g u x) :
    LOK P o s ⟨some x, [(g, some (1, fun _ => b))], rd⟩ := by
  refine lok_newfam none hg hgr (fun q hq => by cases hq) fun s2 hl W N β w a hs => ?_
  obtain ⟨u, cs, T, hrun, hu, hok, hb, hx⟩ := h s2 hl W N β w a hs
  have hk := Kept.alloc w (.cells cs T)
  exact ⟨u, _, fun _ => False, hrun, hs.kept.then hk, Ext.of_kept hk _, fun i hi => hi.elim, fun i hi => .inl (by rw [hu] at hi; cases hi; exact Nat.le_refl _),
    fun S' β' hf => ⟨hok, hb S' β' _ hf (row_new w cs T) hs.kept.size⟩, hx⟩
/-! ### Variables -/
/-- A type's nought, cell by cell. -/
def isZero (P : Program) (T : TypeId) (l : List Value) : Prop := ∃ i z, P.info? T = some i ∧ i.zero = some z ∧ z.cells = l.toArray
theorem rt_info : (Try.prog.info? RT).map (fun i => (i.zero, i.size, i.bytes)) = some (some (.agg #[.bool false, .slice none 0 0, .slice none 0 0]), 3, 56) := by kernel_rfl
theorem zero_rat : isZero Try.prog RT [.bool false, .slice none 0 0, .slice none 0 0] := by
  obtain ⟨i0, hi, hz0, _, _⟩ := info_parts rt_info
  exact ⟨i0, _, hi, hz0, rfl⟩
theorem run_alloc {T : TypeId} {l : List Value} (h : isZero Try.prog T l) (w : World) : (Instr.alloc T true (.tuple #[])).run Try.prog w = .ok (.pointer (some ⟨w.heap.size, 0, none⟩)) (w.alloc (.cells l.toArray T)) := by
  obtain ⟨i, z, hi, hz, hc⟩ := h
  simp [Instr.alloc, zeroValue, typeInfo, hi, hz, newVar, newRow, hc]
theorem run_box (T : TypeId) (v : Value) (w : World) : (Instr.box T v).run Try.prog w = .ok (.pointer (some ⟨w.heap.size, 0, none⟩)) (w.alloc (.cells v.cells T)) := by
  simp [Instr.box, newVar, newRow]
theorem dg_nil (w : World) : Lbs w (.slice none 0 0) [] := ⟨none, 0, rfl, Nat.le_refl _, fun i hi => absurd hi (Nat.not_lt_zero _)⟩
def ra0 : RA := .raw false [] []
theorem r3_ra0 (w : World) : R3 w ra0 false (.slice none 0 0) (.slice none 0 0) := ⟨rfl, dg_nil w, dg_nil w⟩
section
variable {o : Oper} {s : St}
theorem ok_alloc_rat {g : Nat} (ho : o.op = .alloc RT) (hg : s.used g = false) : LOK Try.prog o s ⟨some (.rptr g 0 0), [(g, some (1, fun _ => .rats 1 (fun _ => ra0)))], []⟩ := by
  refine lok_fresh hg (by simp) fun s2 hl W N β w a hs => ⟨.pointer (some ⟨w.heap.size, 0, none⟩), _, RT, by unfold execOp; rw [ho]; simp only [Sem.run_bind, run_alloc zero_rat]; rfl, rfl, trivial, fun S' β' O hf hr hB => .inr ⟨_, _, hB, hr, .inl ⟨rfl, Nat.le_refl _⟩, fun i hi => ?_⟩, .rptr rfl⟩
  obtain rfl : i = 0 := by omega
  exact ⟨false, _, _, rfl, rfl, rfl, r3_ra0 _⟩
theorem ok_alloc_ones {T : TypeId} {g n : Nat} {l : List Value} (ho : o.op = .alloc T) (hg : s.used g = false) (hz : isZero Try.prog T l) (hT : T ≠ U32) (h1 : l.all (·.oneCell') = true) (hn : l.length = n) :
    LOK Try.prog o s ⟨some (.ptr g 0 0), [(g, some (1, fun _ => .ones T n (fun i => .v (l.getD i undef))))], []⟩ := by
  refine lok_fresh hg (by simp) fun s2 hl W N β w a hs => ⟨.pointer (some ⟨w.heap.size, 0, none⟩), _, T, by unfold execOp; rw [ho]; simp only [Sem.run_bind, run_alloc hz]; rfl, rfl, fun _ _ => trivial, fun S' β' O hf hr hB => ⟨hT, .inr ⟨_, _, hB, hr, .inl ⟨rfl, by simp [hn]⟩, fun i hi => ?_⟩⟩, .ptr rfl⟩
  have hi' : i < l.length := by omega
  refine ⟨l[i], by simp [hi'], List.all_eq_true.1 h1 _ (List.getElem_mem hi'), ?_⟩
  show l[i] = l.getD i undef
  simp [hi']
theorem ok_box_rat {x : Operand} {g : Nat} {q : RA} (ho : o.op = .box RT x) (hx : avo s x = some (.ra q)) (hg : s.used g = false) : LOK Try.prog o s ⟨some (.rptr g 0 0), [(g, some (1, fun _ => .rats 1 (fun _ => q)))], []⟩ := by
  refine lok_fresh hg (by simp) fun s2 hl W N β w a hs => ?_
  obtain ⟨_, sg, vn, vd, h1, h2⟩ := hs.opd (x := x) (by rw [hl.avo (by rw [ho]; simp [Op.operands])]; exact hx)
  refine ⟨.pointer (some ⟨w.heap.size, 0, none⟩), #[.bool sg, vn, vd], RT, by unfold execOp; rw [ho]; simp only []; rw [h1]; simp only [Sem.run_bind, run_box]; rfl, rfl, trivial, fun S' β' O hf hr hB => .inr ⟨_, _, hB, hr, .inl ⟨rfl, Nat.le_refl _⟩, fun i hi => ?_⟩, .rptr rfl⟩
  obtain rfl : i = 0 := by omega
  exact ⟨sg, vn, vd, rfl, rfl, rfl, r3_ext h2 hf.ext⟩
theorem ok_box_one {x : Operand} {T : TypeId} {g : Nat} {y : AV} (ho : o.op = .box T x) (hx : avo s x = some y) (hy : y.one = true) (hT : T ≠ U32) (hg : s.used g = false) : LOK Try.prog o s ⟨some (.ptr g 0 0), [(g, some (1, fun _ => .ones T 1 (fun _ => y)))], []⟩ := by
  refine lok_fresh hg (by simp) fun s2 hl W N β w a hs => ?_
  have h := hs.opd (x := x) (by rw [hl.avo (by rw [ho]; simp [Op.operands])]; exact hx)
  have hv := RV.one hy h.2
  have hc : (a.eval x).cells = #[a.eval x] := by cases e : a.eval x <;> first | rfl | (rw [e] at hv; cases hv)
  refine ⟨.pointer (some ⟨w.heap.size, 0, none⟩), _, T, by unfold execOp; rw [ho]; simp only [Sem.run_bind, run_box]; rfl, rfl, fun _ _ => h.1, fun S' β' O hf hr hB => ⟨hT, .inr ⟨_, _, hB, hr, .inl ⟨rfl, by rw [hc]; exact Nat.le_refl _⟩, fun i hi => ?_⟩⟩, .ptr rfl⟩
  obtain rfl : i = 0 := by omega
  exact ⟨a.eval x, by rw [hc]; rfl, hv, h.2.fwd hf h.1⟩
theorem ok_box_agg {x : Operand} {T : TypeId} {g n : Nat} {f : Nat → AV} (ho : o.op = .box T x) (hx : avo s x = some (.ag n f)) (hT : T ≠ U32) (hg : s.used g = false) : LOK Try.prog o s ⟨some (.ptr g 0 0), [(g, some (1, fun _ => .ones T n f))], []⟩ := by
  refine lok_fresh hg (by simp) fun s2 hl W N β w a hs => ?_
  obtain ⟨hok, cs, h1, h2, h3⟩ := hs.opd (x := x) (by rw [hl.avo (by rw [ho]; simp [Op.operands])]; exact hx)
  refine ⟨.pointer (some ⟨w.heap.size, 0, none⟩), cs, T, by unfold execOp; rw [ho]; simp only []; rw [h1]; simp only [Sem.run_bind, run_box]; rfl, rfl, hok, fun S' β' O hf hr hB => ⟨hT, .inr ⟨_, _, hB, hr, .inl ⟨rfl, by rw [h2, Nat.mul_one]; exact Nat.le_refl _⟩, fun i hi => ?_⟩⟩, .ptr rfl⟩
  obtain ⟨y, a0, a1, a2⟩ := h3 i hi
  exact ⟨y, a0, a1, a2.fwd hf (hok i hi)⟩
/-! ### Slices that are made -/
theorem wt_u : Try.prog.underlying WT = some (.slice RT) := Try.underlying24
theorem made_get {z : Array Value} {n i : Nat} (h : i < n) (hz : 0 < z.size) : (madeCells z n)[i]? = z[i % z.size]? := by
  unfold madeCells
  have hm := Nat.mod_lt i hz
  simp [h, getElem!_pos z (i % z.size) hm]
theorem made3 {x y z : Value} {n i j : Nat} (h : i < n) (hj : j < 3) : (madeCells #[x, y, z] (n * 3))[i * 3 + j]? = #[x, y, z][j]? := by
  have e : (i * 3 + j) % #[x, y, z].size = j := by
    have : #[x, y, z].size = 3 := rfl
    rw [this]; omega
  rw [made_get (by omega) (by simp), e]
theorem ok_make_rat {x y : Operand} {g : Nat} {k k' : IntKind} {l c : Int} (ho : o.op = .makeSlice WT x y) (hx : avo s x = some (.v (.int k l))) (hy : avo s y = some (.v (.int k' c))) (hg : s.used g = false) (h0 : 0 ≤ l) (hlc : l ≤ c) (hc : c ≤ 1000000000) :
    LOK Try.prog o s ⟨some (.own g 0), [(g, some (1, fun _ => .rats l.toNat (fun _ => ra0)))], []⟩ := by
  refine lok_fresh hg (by simp) fun s2 hl W N β w a hs => ?_
  have h1 : a.eval x = .int k l := hs.opv (by rw [hl.avo (by rw [ho]; simp [Op.operands])]; exact hx)
  have h2 : a.eval y = .int k' c := hs.opv (by rw [hl.avo (by rw [ho]; simp [Op.operands])]; exact hy)
  obtain ⟨i0, hi, hz0, hz1, hz2⟩ := info_parts rt_info
  have hrun := run_make (P := Try.prog) w WT RT i0 _ wt_u hi hz0 k k' l c h0 hlc (by rw [hz2]; omega) (by omega)
  rw [hz1] at hrun
  refine ⟨.slice (some ⟨w.heap.size, 0, none⟩) l.toNat c.toNat, _, RT, by unfold execOp; rw [ho]; simp only []; rw [h1, h2]; simp only [Sem.run_bind, hrun]; rfl, rfl, trivial, fun S' β' O hf hr hB => .inr ⟨_, _, hB, hr, .inr ⟨c.toNat, rfl, by omega, by unfold maxLen; omega, size_madeCells _ _⟩, fun i hi' => ?_⟩, .own rfl⟩
  have hs3 : (Value.agg #[Value.bool false, Value.slice none 0 0, Value.slice none 0 0]).cells = #[Value.bool false, Value.slice none 0 0, Value.slice none 0 0] := rfl
  rw [hs3]
  have key := fun j (hj : j < 3) => made3 (x := Value.bool false) (y := Value.slice none 0 0) (z := Value.slice none 0 0) (show i < c.toNat by omega) hj
  exact ⟨false, _, _, key 0 (by omega), key 1 (by omega), key 2 (by omega), r3_ra0 _⟩
/-- A one-cell element's slice type: its nought, its bytes. -/
structure OneEl (T E : TypeId) (z : Value) (bytes : Nat) : Prop where
  u : Try.prog.underlying T = some (.slice E)
  i : (Try.prog.info? E).map (fun i => (i.zero, i.size, i.bytes)) = some (some z, 1, bytes)
  one : z.oneCell' = true
  b : bytes ≤ 24
  ne : E ≠ U32
theorem OneEl.cells {T E : TypeId} {z : Value} {bytes : Nat} (h : OneEl T E z bytes) : z.cells = #[z] := by
  have := h.one
  cases z <;> first | rfl | cases this
theorem ok_make_one {x y : Operand} {g : Nat} {T E : TypeId} {z : Value} {bytes : Nat} {k k' : IntKind} {l c : Int} (ho : o.op = .makeSlice T x y) (he : OneEl T E z bytes) (hx : avo s x = some (.v (.int k l))) (hy : avo s y = some (.v (.int k' c))) (hg : s.used g = false) (h0 : 0 ≤ l) (hlc : l ≤ c) (hc : c ≤ 1000000000) :
    LOK Try.prog o s ⟨some (.own g 0), [(g, some (1, fun _ => .ones E l.toNat (fun _ => .v z)))], []⟩ := by
  refine lok_fresh hg (by simp) fun s2 hl W N β w a hs => ?_
  have h1 : a.eval x = .int k l := hs.opv (by rw [hl.avo (by rw [ho]; simp [Op.operands])]; exact hx)
  have h2 : a.eval y = .int k' c := hs.opv (by rw [hl.avo (by rw [ho]; simp [Op.operands])]; exact hy)
  obtain ⟨i0, hi, hz0, hz1, hz2⟩ := info_parts he.i
  have hb := he.b
  have hbc : (bytes : Int) * c ≤ 24 * c := Int.mul_le_mul_of_nonneg_right (by omega) (by omega)
  have hrun := run_make (P := Try.prog) w T E i0 _ he.u hi hz0 k k' l c h0 hlc (by rw [hz2]; omega) (by omega)
  rw [hz1, he.cells] at hrun
  refine ⟨.slice (some ⟨w.heap.size, 0, none⟩) l.toNat c.toNat, _, E, by unfold execOp; rw [ho]; simp only []; rw [h1, h2]; simp only [Sem.run_bind, hrun]; rfl, rfl, fun _ _ => trivial, fun S' β' O hf hr hB => ⟨he.ne, .inr ⟨_, _, hB, hr, .inr ⟨c.toNat, rfl, by omega, by unfold maxLen; omega, size_madeCells _ _⟩, fun i hi' => ?_⟩⟩, .own rfl⟩
  refine ⟨z, ?_, he.one, rfl⟩
  rw [made_get (by omega) (by simp)]
  simp [Nat.mod_one]
end
end Go.Proofs.Ytpclkgjhfhhddaa.AM
/- Slices that are written out; places in them; parts of them; what is laid behind them. -/
namespace Go.Proofs.Ytpclkgjhfhhddaa.AM
open Go Go.RowKit Go.Proofs.Ytpclkgjhfhhddaa.PN Go.Proofs.Ytpclkgjhfhhddaa.V
set_option linter.unusedVariables false
set_option linter.unusedSimpArgs false
/-- Parts, numbered from k on. -/
def idxs {α : Type} : Nat → List (Nat × α) → Bool
  | _, [] => true
  | k, (i, _) :: l => Nat.beq i k && idxs (k + 1) l
theorem idxs_map {α γ : Type} (f : α → γ) : ∀ (l : List (Nat × α)) (k : Nat), idxs k l = true → idxs k (l.map fun p => (p.1, f p.2)) = true
  | [], _, _ => rfl
  | (i, x) :: l, k, h => by
    simp only [idxs, Bool.and_eq_true, List.map_cons] at h ⊢
    exact ⟨h.1, idxs_map f l _ h.2⟩
theorem fill1 : ∀ (l : List (Nat × Value)) (k : Nat) (cells : Array Value), idxs k l = true → (∀ p ∈ l, p.2.cells = #[p.2]) → k + l.length ≤ cells.size →
    ∃ c', Instr.fill (fun i => some (i * 1, 1)) cells l = some c' ∧ c'.size = cells.size ∧ (∀ j, j < l.length → c'[k + j]? = (l[j]?).map (·.2)) ∧ ∀ m, m < k → c'[m]? = cells[m]?
  | [], k, cells, _, _, _ => ⟨cells, rfl, rfl, fun j hj => absurd hj (Nat.not_lt_zero _), fun _ _ => rfl⟩
  | (i, v) :: l, k, cells, h, hv, hl => by
    simp only [idxs, Bool.and_eq_true] at h
    have hi := Nat.eq_of_beq_eq_true h.1
    subst hi
    simp only [List.length_cons] at hl
    have hc : v.cells = #[v] := hv (i, v) (List.mem_cons_self ..)
    obtain ⟨c', e, hs, hx, ho⟩ := fill1 l (i + 1) (cells.setIfInBounds i v) h.2 (fun p hp => hv p (List.mem_cons_of_mem _ hp)) (by simp; omega)
    refine ⟨c', ?_, by rw [hs]; simp, fun j hj => ?_, fun m hm => by rw [ho m (by omega), Array.getElem?_setIfInBounds_ne (by omega)]⟩
    · rw [← e]
      simp [Instr.fill, hc]
      omega
    · cases j with
      | zero => rw [Nat.add_zero, ho i (by omega), Array.getElem?_setIfInBounds_self_of_lt (by omega)]; rfl
      | succ j => have := hx j (by simpa using hj); rw [show i + (j + 1) = i + 1 + j by omega, this]; rfl
theorem fill3 : ∀ (l : List (Nat × Value)) (k : Nat) (cells : Array Value), idxs k l = true → (∀ p ∈ l, ∃ x y z, p.2.cells = #[x, y, z]) → (k + l.length) * 3 ≤ cells.size →
    ∃ c', Instr.fill (fun i => some (i * 3, 3)) cells l = some c' ∧ c'.size = cells.size ∧ (∀ j, j < l.length → ∀ t, t < 3 → c'[(k + j) * 3 + t]? = (l[j]?).bind fun p => p.2.cells[t]?) ∧ ∀ m, m < k * 3 → c'[m]? = cells[m]?
  | [], k, cells, _, _, _ => ⟨cells, rfl, rfl, fun j hj => absurd hj (Nat.not_lt_zero _), fun _ _ => rfl⟩
  | (i, v) :: l, k, cells, h, hv, hl => by
    simp only [idxs, Bool.and_eq_true] at h
    have hi := Nat.eq_of_beq_eq_true h.1
    subst hi
    simp only [List.length_cons] at hl
    obtain ⟨x, y, z, hc⟩ := hv (i, v) (List.mem_cons_self ..)
    have hc : v.cells = #[x, y, z] := hc
    obtain ⟨c', e, hs, hx, ho⟩ := fill3 l (i + 1) (((cells.setIfInBounds (i * 3) x).setIfInBounds (i * 3 + 1) y).setIfInBounds (i * 3 + 2) z) h.2 (fun p hp => hv p (List.mem_cons_of_mem _ hp)) (by simp; omega)
    refine ⟨c', ?_, by rw [hs]; simp, fun j hj t ht => ?_, fun m hm => by rw [ho m (by omega), Array.getElem?_setIfInBounds_ne (by omega), Array.getElem?_setIfInBounds_ne (by omega), Array.getElem?_setIfInBounds_ne (by omega)]⟩
    · rw [← e]
      simp [Instr.fill, hc, Array.zipIdx]
      omega
    · cases j with
      | zero =>
        rw [Nat.add_zero, ho (i * 3 + t) (by omega)]
        show _ = v.cells[t]?
        rw [hc]
        match t, ht with
        | 0, _ => rw [Array.getElem?_setIfInBounds_ne (by omega), Array.getElem?_setIfInBounds_ne (by omega), Nat.add_zero, Array.getElem?_setIfInBounds_self_of_lt (by omega)]; rfl
        | 1, _ => rw [Array.getElem?_setIfInBounds_ne (by omega), Array.getElem?_setIfInBounds_self_of_lt (by simp; omega)]; rfl
        | 2, _ => rw [Array.getElem?_setIfInBounds_self_of_lt (by simp; omega)]; rfl
      | succ j => have := hx j (by simpa using hj) t ht; rw [show (i + (j + 1)) * 3 + t = (i + 1 + j) * 3 + t by omega, this]; rfl
theorem run_buildSlice {P : Program} {T E : TypeId} {n sz : Nat} {i : TypeInfo} {z : Value} {parts : Array (Nat × Value)} {c' : Array Value} (w : World) (hu : P.underlying T = some (.slice E)) (hi : P.info? E = some i) (hz : i.zero = some z) (hsz : i.size = sz)
    (hb : n * sz ≤ 16777216) (hf : Instr.fill (fun i => some (i * sz, sz)) (madeCells z.cells (n * sz)) parts.toList = some c') :
    (Instr.buildSlice T n parts).run P w = .ok (.slice (some ⟨w.heap.size, 0, none⟩) n n) (w.alloc (.cells c' E)) := by
  have hz' : (zeroValue E).run P w = .ok z w := by simp [zeroValue, typeInfo, hi, hz]
  have hs' : (sizeOf E).run P w = .ok sz w := by simp [sizeOf, typeInfo, hi, hsz]
  unfold Instr.buildSlice
  rw [Sem.run_bind, run_underlying hu w]
  simp only [Result.andThen_ok, Sem.run_bind, hs', gt_iff_lt]
  rw [if_neg (by omega)]
  by_cases h0 : n * sz = 0
  · have e : (Array.range (n * sz)).map (fun x => (#[] : Array Value)[x % (#[] : Array Value).size]!) = madeCells z.cells (n * sz) := by
      unfold madeCells; rw [h0]; simp
    rw [if_pos h0]
    simp only [Result.andThen_ok, Sem.run_bind, Sem.run_pure]
    rw [e, hf]
    simp [newRow]
  · rw [if_neg h0]
    simp only [Result.andThen_ok, Sem.run_bind, Sem.run_pure, hz']
    have e : (Array.range (n * sz)).map (fun x => z.cells[x % z.cells.size]!) = madeCells z.cells (n * sz) := rfl
    rw [e, hf]
    simp [newRow]
/-- What parts say. -/
def avos (s : St) : List (Nat × Operand) → Option (List AV)
  | [] => some []
  | (_, x) :: l => match avo s x, avos s l with
    | some y, some ys => some (y :: ys)
    | _, _ => none
theorem avos_len {s : St} : ∀ {l : List (Nat × Operand)} {ys : List AV}, avos s l = some ys → ys.length = l.length
  | [], ys, h => by cases h; rfl
  | (i, x) :: l, ys, h => by
    unfold avos at h
    split at h
    · rename_i y ys' h1 h2; cases h; simp [avos_len h2]
    · cases h
theorem avos_get {s : St} : ∀ {l : List (Nat × Operand)} {ys : List AV}, avos s l = some ys → ∀ (j : Nat) (p : Nat × Operand), l[j]? = some p → ∃ y, ys[j]? = some y ∧ avo s p.2 = some y
  | [], ys, h, j, p, hp => by cases hp
  | (i, x) :: l, ys, h, j, p, hp => by
    unfold avos at h
    split at h
    · rename_i y ys' h1 h2
      cases h
      cases j with
      | zero => cases hp; exact ⟨y, rfl, h1⟩
      | succ j => exact avos_get h2 j p hp
    · cases h
theorem Sim.opds {W : Wd} {N : Nat} {β : Nat → Nat → Value} {w : World} {a : Act} {s s2 : St} {o : Oper} {rd : List Nat} (h : Sim W N β w a s2) (hl : Like o rd s s2) {l : List (Nat × Operand)} {ys : List AV} (hy : avos s l = some ys) (hm : ∀ p ∈ l, p.2 ∈ o.op.operands) {j : Nat} {p : Nat × Operand} (hp : l[j]? = some p) :
    ∃ y, ys[j]? = some y ∧ y.ok s2.used ∧ RV (notOwn W s2 β) W.w.heap.size β w y (a.eval p.2) := by
  obtain ⟨y, h1, h2⟩ := avos_get hy j p hp
  exact ⟨y, h1, h.opd (by rw [hl.avo (hm p (List.mem_of_getElem? hp))]; exact h2)⟩
theorem build_mem {T : TypeId} {n : Nat} {parts : Array (Nat × Operand)} {o : Oper} (ho : o.op = .buildSlice T n parts) : ∀ p ∈ parts.toList, p.2 ∈ o.op.operands := by
  intro p hp
  rw [ho]
  simp only [Op.operands, List.mem_toArray]
  exact List.mem_map_of_mem hp
section
variable {o : Oper} {s : St}
theorem ok_build_one {T E : TypeId} {z : Value} {bytes n g : Nat} {parts : Array (Nat × Operand)} {ys : List AV} (ho : o.op = .buildSlice T n parts) (he : OneEl T E z bytes) (hg : s.used g = false) (hi : idxs 0 parts.toList = true) (hn : parts.toList.length = n) (hb : n ≤ 100000)
    (hy : avos s parts.toList = some ys) (h1 : ys.all (·.one) = true) : LOK Try.prog o s ⟨some (.own g 0), [(g, some (1, fun _ => .ones E n (fun i => ys.getD i (.v undef))))], []⟩ := by
  refine lok_fresh hg (by simp) fun s2 hl W N β w a hs => ?_
  obtain ⟨i0, hi0, hz0, hz1, hz2⟩ := info_parts he.i
  have hm := build_mem ho
  have hyl := avos_len hy
  have hval : ∀ j, j < n → ∃ p y, parts.toList[j]? = some p ∧ ys[j]? = some y ∧ y.ok s2.used ∧ RV (notOwn W s2 β) W.w.heap.size β w y (a.eval p.2) ∧ (a.eval p.2).oneCell' = true := by
    intro j hj
    have hp : parts.toList[j]? = some (parts.toList[j]'(by omega)) := List.getElem?_eq_getElem (by omega)
    obtain ⟨y, e1, e2, e3⟩ := hs.opds hl hy hm hp
    exact ⟨_, y, hp, e1, e2, e3, RV.one (List.all_eq_true.1 h1 y (List.mem_of_getElem? e1)) e3⟩
  have hcell : ∀ p ∈ (parts.toList.map fun p => (p.1, a.eval p.2)), p.2.cells = #[p.2] := by
    intro q hq
    obtain ⟨p, hp, rfl⟩ := List.mem_map.1 hq
    obtain ⟨j, hj, e⟩ := List.mem_iff_getElem.1 hp
    obtain ⟨p', y, e1, _, _, _, e4⟩ := hval j (by omega)
    rw [List.getElem?_eq_getElem hj, e] at e1
    cases e1
    simp only []
    cases h : a.eval p.2 <;> first | rfl | (rw [h] at e4; cases e4)
  obtain ⟨c', hf, hs', hx, _⟩ := fill1 (parts.toList.map fun p => (p.1, a.eval p.2)) 0 (madeCells #[z] n) (idxs_map _ _ _ hi) hcell (by rw [size_madeCells, List.length_map, hn]; omega)
  have hrun : (Instr.buildSlice T n (parts.map fun p => (p.1, a.eval p.2))).run Try.prog w = .ok (.slice (some ⟨w.heap.size, 0, none⟩) n n) (w.alloc (.cells c' E)) :=
    run_buildSlice w he.u hi0 hz0 hz1 (by omega) (by rw [he.cells, Nat.mul_one, Array.toList_map]; exact hf)
  rw [size_madeCells] at hs'
  refine ⟨.slice (some ⟨w.heap.size, 0, none⟩) n n, c', E, by unfold execOp; rw [ho]; simp only [Sem.run_bind, hrun]; rfl, rfl, fun i hin => ?_, fun S' β' O hfw hr hB => ⟨he.ne, .inr ⟨_, _, hB, hr, .inr ⟨n, rfl, Nat.le_refl _, by unfold maxLen; omega, by rw [hs', Nat.mul_one]⟩, fun i hin => ?_⟩⟩, .own rfl⟩
  · obtain ⟨p, y, _, e1, e2, _⟩ := hval i hin
    show (ys.getD i (.v undef)).ok _
    rw [List.getD_eq_getElem?_getD, e1]; exact e2
  · obtain ⟨p, y, e0, e1, e2, e3, e4⟩ := hval i hin
    refine ⟨a.eval p.2, ?_, e4, ?_⟩
    · have := hx i (by rw [List.length_map, hn]; exact hin)
      rw [Nat.zero_add, List.getElem?_map, e0] at this
      exact this
    · show RV _ _ _ _ (ys.getD i (.v undef)) _
      rw [List.getD_eq_getElem?_getD, e1]; exact e3.fwd hfw e2
def ras : List AV → Option (List RA)
  | [] => some []
  | .ra q :: l => match ras l with
    | some qs => some (q :: qs)
    | none => none
  | _ :: _ => none
theorem ras_get : ∀ {l : List AV} {qs : List RA}, ras l = some qs → qs.length = l.length ∧ ∀ (j : Nat) (y : AV), l[j]? = some y → ∃ q, qs[j]? = some q ∧ y = AV.ra q
  | [], qs, h => by cases h; exact ⟨rfl, fun j y hy => by cases hy⟩
  | y :: l, qs, h => by
    cases y <;> try (cases h; done)
    rename_i q
    unfold ras at h
    split at h
    · rename_i qs' h'
      cases h
      obtain ⟨e1, e2⟩ := ras_get h'
      refine ⟨by simp [e1], fun j y hy => ?_⟩
      cases j with
      | zero => cases hy; exact ⟨q, rfl, rfl⟩
      | succ j => exact e2 j y hy
    · cases h
theorem ok_build_rat {n g : Nat} {parts : Array (Nat × Operand)} {ys : List AV} {qs : List RA} (ho : o.op = .buildSlice WT n parts) (hg : s.used g = false) (hi : idxs 0 parts.toList = true) (hn : parts.toList.length = n) (hb : n ≤ 100000)
    (hy : avos s parts.toList = some ys) (h1 : ras ys = some qs) : LOK Try.prog o s ⟨some (.own g 0), [(g, some (1, fun _ => .rats n (fun i => qs.getD i ra0)))], []⟩ := by
  refine lok_fresh hg (by simp) fun s2 hl W N β w a hs => ?_
  obtain ⟨i0, hi0, hz0, hz1, hz2⟩ := info_parts rt_info
  have hm := build_mem ho
  have hyl := avos_len hy
  obtain ⟨hql, hqg⟩ := ras_get h1
  have hval : ∀ j, j < n → ∃ p q sg vn vd, parts.toList[j]? = some p ∧ qs[j]? = some q ∧ a.eval p.2 = .agg #[.bool sg, vn, vd] ∧ R3 w q sg vn vd := by
    intro j hj
    have hp : parts.toList[j]? = some (parts.toList[j]'(by omega)) := List.getElem?_eq_getElem (by omega)
    obtain ⟨y, e1, e2, e3⟩ := hs.opds hl hy hm hp
    obtain ⟨q, e4, rfl⟩ := hqg j y e1
    obtain ⟨sg, vn, vd, e5, e6⟩ := e3
    exact ⟨_, q, sg, vn, vd, hp, e4, e5, e6⟩
  have hcell : ∀ p ∈ (parts.toList.map fun p => (p.1, a.eval p.2)), ∃ x y z, p.2.cells = #[x, y, z] := by
    intro q hq
    obtain ⟨p, hp, rfl⟩ := List.mem_map.1 hq
    obtain ⟨j, hj, e⟩ := List.mem_iff_getElem.1 hp
    obtain ⟨p', q, sg, vn, vd, e1, _, e3, _⟩ := hval j (by omega)
    rw [List.getElem?_eq_getElem hj, e] at e1
    cases e1
    exact ⟨.bool sg, vn, vd, by simp only []; rw [e3]; rfl⟩
  have hzc : (Value.agg #[Value.bool false, Value.slice none 0 0, Value.slice none 0 0]).cells = #[Value.bool false, Value.slice none 0 0, Value.slice none 0 0] := rfl
  obtain ⟨c', hf, hs', hx, _⟩ := fill3 (parts.toList.map fun p => (p.1, a.eval p.2)) 0 (madeCells #[Value.bool false, Value.slice none 0 0, Value.slice none 0 0] (n * 3)) (idxs_map _ _ _ hi) hcell (by rw [size_madeCells, List.length_map, hn]; omega)
  have hrun : (Instr.buildSlice WT n (parts.map fun p => (p.1, a.eval p.2))).run Try.prog w = .ok (.slice (some ⟨w.heap.size, 0, none⟩) n n) (w.alloc (.cells c' RT)) :=
    run_buildSlice w wt_u hi0 hz0 hz1 (by omega) (by rw [hzc, Array.toList_map]; exact hf)
  rw [size_madeCells] at hs'
  refine ⟨.slice (some ⟨w.heap.size, 0, none⟩) n n, c', RT, by unfold execOp; rw [ho]; simp only [Sem.run_bind, hrun]; rfl, rfl, trivial, fun S' β' O hfw hr hB => .inr ⟨_, _, hB, hr, .inr ⟨n, rfl, Nat.le_refl _, by unfold maxLen; omega, hs'⟩, fun i hin => ?_⟩, .own rfl⟩
  obtain ⟨p, q, sg, vn, vd, e0, e1, e2, e3⟩ := hval i hin
  have key : ∀ t, t < 3 → c'[i * 3 + t]? = #[Value.bool sg, vn, vd][t]? := by
    intro t ht
    have := hx i (by rw [List.length_map, hn]; exact hin) t ht
    rw [Nat.zero_add, List.getElem?_map, e0] at this
    rw [this]
    show (a.eval p.2).cells[t]? = _
    rw [e2]; rfl
  refine ⟨sg, vn, vd, key 0 (by omega), key 1 (by omega), key 2 (by omega), ?_⟩
  show R3 _ (qs.getD i ra0) _ _ _
  rw [List.getD_eq_getElem?_getD, e1]; exact r3_ext e3 hfw.ext
def u32s : List AV → Option (List Nat)
  | [] => some []
  | .v (.int .u32 n) :: l => match u32s l with
    | some ns => some (n.toNat :: ns)
    | none => none
  | _ :: _ => none
theorem u32s_get : ∀ {l : List AV} {qs : List Nat}, u32s l = some qs → qs.length = l.length ∧ ∀ (j : Nat) (y : AV), l[j]? = some y → ∃ n : Int, qs[j]? = some n.toNat ∧ y = AV.v (.int .u32 n)
  | [], qs, h => by cases h; exact ⟨rfl, fun j y hy => by cases hy⟩
  | y :: l, qs, h => by
    unfold u32s at h
    split at h
    · rename_i e; cases e
    · rename_i n l' e
      injection e with e1 e2
      subst e1; subst e2
      split at h
      · rename_i qs' h'
        cases h
        obtain ⟨e1, e2⟩ := u32s_get h'
        refine ⟨by simp [e1], fun j y hy => ?_⟩
        cases j with
        | zero => cases hy; exact ⟨n, rfl, rfl⟩
        | succ j => exact e2 j y hy
      · cases h
    · cases h
end
end Go.Proofs.Ytpclkgjhfhhddaa.AM
/- Places in slices and structs; parts of slices; what is laid behind them. -/
namespace Go.Proofs.Ytpclkgjhfhhddaa.AM
open Go Go.RowKit Go.Proofs.Ytpclkgjhfhhddaa.PN Go.Proofs.Ytpclkgjhfhhddaa.V
set_option linter.unusedVariables false
set_option linter.unusedSimpArgs false
/-- A step behind which all that was there is as it was. -/
theorem lok_kept {P : Program} {o : Oper} {s : St} {r : Option AV} {rd : List Nat}
    (h : ∀ s2, Like o rd s s2 → ∀ W N β w a, Sim W N β w a s2 → ∀ (K : Act → World → Prop) (Q : Exit → Act → World → Prop),
      (∀ v w', Kept w w' → (∀ x, r = some x → x.ok s2.used ∧ RV (notOwn W s2 β) W.w.heap.size β w' x v) → K (a.put o.dst v) w') → o.wp P a w K Q) : LOK P o s ⟨r, [], rd⟩ := by
  refine ⟨fun g hb => (by obtain ⟨b, hb⟩ := hb; cases hb), fun s2 h1 h2 _ _ W N β w a hs hN K Q hK => ?_⟩
  exact h s2 ⟨h1, h2⟩ W N β w a hs K Q fun v w' hk hv => hK β _ w' ((hs.later hk).putv hN (fun x hx _ => hv x hx))
theorem run_index {P : Program} {T E : TypeId} {sz : Nat} (hu : P.underlying T = some (.slice E)) (hs : ∃ i, P.info? E = some i ∧ i.size = sz) (w : World) (a : Addr) (len cap : Nat) (k : IntKind) (i : Int) (h0 : 0 ≤ i) (h1 : i < len) :
    (Instr.indexAt T (.slice (some a) len cap) (.int k i)).run P w = .ok (.pointer (some (a.add (i.toNat * sz)))) w := by
  obtain ⟨i', hi, hz⟩ := hs
  simp [Instr.indexAt, run_underlying hu, asIntOf, sizeOf, typeInfo, hi, hz, h0, h1]
theorem rt_size : ∃ i, Try.prog.info? RT = some i ∧ i.size = 3 := by obtain ⟨i, h1, _, h2, _⟩ := info_parts rt_info; exact ⟨i, h1, h2⟩
theorem wt_size : ∃ i, Try.prog.info? WT = some i ∧ i.size = 1 := sz_info (by kernel_rfl)
theorem mt_u : Try.prog.underlying MT = some (.slice WT) := Try.underlying60
section
variable {o : Oper} {s : St}
theorem ok_build_u32 {n : Nat} {parts : Array (Nat × Operand)} {ys : List AV} {ns : List Nat} (ho : o.op = .buildSlice 41 n parts) (hi : idxs 0 parts.toList = true) (hn : parts.toList.length = n) (hb : n ≤ 100000)
    (hy : avos s parts.toList = some ys) (h1 : u32s ys = some ns) (h0 : ∀ z : Int, AV.v (.int .u32 z) ∈ ys → 0 ≤ z) : LOK Try.prog o s ⟨some (.lb ns), [], []⟩ := by
  refine lok_kept fun s2 hl W N β w a hs K Q hK => ?_
  obtain ⟨i0, hi0, hz0, hz1, hz2⟩ := info_parts info_u32
  have hm := build_mem ho
  have hyl := avos_len hy
  obtain ⟨hql, hqg⟩ := u32s_get h1
  have hval : ∀ j, j < n → ∃ p m, parts.toList[j]? = some p ∧ ns[j]? = some m ∧ a.eval p.2 = .int .u32 (m : Int) := by
    intro j hj
    have hp : parts.toList[j]? = some (parts.toList[j]'(by omega)) := List.getElem?_eq_getElem (by omega)
    obtain ⟨y, e1, e2, e3⟩ := hs.opds hl hy hm hp
    obtain ⟨m, e4, rfl⟩ := hqg j y e1
    have := h0 m (List.mem_of_getElem? e1)
    have e3 : a.eval (parts.toList[j]'(by omega)).2 = .int .u32 m := e3
    exact ⟨_, m.toNat, hp, e4, by rw [e3, Int.toNat_of_nonneg this]⟩
  have hcell : ∀ p ∈ (parts.toList.map fun p => (p.1, a.eval p.2)), p.2.cells = #[p.2] := by
    intro q hq
    obtain ⟨p, hp, rfl⟩ := List.mem_map.1 hq
    obtain ⟨j, hj, e⟩ := List.mem_iff_getElem.1 hp
    obtain ⟨p', m, e1, _, e4⟩ := hval j (by omega)
    rw [List.getElem?_eq_getElem hj, e] at e1
    cases e1
    simp only []
    rw [e4]; rfl
  obtain ⟨c', hf, hs', hx, _⟩ := fill1 (parts.toList.map fun p => (p.1, a.eval p.2)) 0 (madeCells #[Value.int .u32 0] n) (idxs_map _ _ _ hi) hcell (by rw [size_madeCells, List.length_map, hn]; omega)
  have hrun : (Instr.buildSlice 41 n (parts.map fun p => (p.1, a.eval p.2))).run Try.prog w = .ok (.slice (some ⟨w.heap.size, 0, none⟩) n n) (w.alloc (.cells c' U32)) :=
    run_buildSlice w Try.underlying41 hi0 hz0 hz1 (by omega) (by rw [Nat.mul_one, Array.toList_map]; exact hf)
  have hop : (execOp a.eval o).run Try.prog w = .ok (.value (.slice (some ⟨w.heap.size, 0, none⟩) n n)) (w.alloc (.cells c' U32)) := by
    unfold execOp; rw [ho]; simp only [Sem.run_bind, hrun]; rfl
  unfold Oper.wp
  rw [hop]
  refine hK _ _ (Kept.alloc w _) fun x hx' => ?_
  cases hx'
  have hnl : ns.length = n := by omega
  refine ⟨trivial, some ⟨w.heap.size, 0, none⟩, n, by rw [hnl], by omega, fun i hin => ⟨w.heap.size, 0, c', rfl, row_new w c' U32, ?_⟩⟩
  obtain ⟨p, m, e0, e1, e2⟩ := hval i (by omega)
  have := hx i (by rw [List.length_map]; omega)
  rw [Nat.zero_add, List.getElem?_map, e0] at this
  rw [Nat.zero_add, this, List.getD_eq_getElem?_getD, e1]
  exact congrArg some e2
/-! ### Places -/
theorem ok_index_row {x y : Operand} {fr : Bool} {n : Nat} {f : Nat → RA} {k : IntKind} {z : Int} (ho : o.op = .indexAddr WT x y) (hx : avo s x = some (.row fr n f)) (hy : avo s y = some (.v (.int k z))) (h0 : 0 ≤ z) (h1 : z < n) : LOK Try.prog o s ⟨some (.rp (f z.toNat)), [], []⟩ := by
  refine lok_val fun s2 hl W N β w a hs => ?_
  obtain ⟨_, A, c, e1, _, _, e2⟩ := hs.opd (x := x) (by rw [hl.avo (by rw [ho]; simp [Op.operands])]; exact hx)
  have e3 : a.eval y = .int k z := hs.opv (by rw [hl.avo (by rw [ho]; simp [Op.operands])]; exact hy)
  obtain ⟨b, off, rfl, hS, _, hc⟩ := e2 z.toNat (by omega)
  exact ⟨_, by unfold execOp; rw [ho]; simp only []; rw [e1, e3]; simp only [Sem.run_bind, run_index wt_u rt_size w _ n c k z h0 h1]; rfl, fun q hq => by cases hq; exact ⟨trivial, b, off + z.toNat * 3, by rw [add_at], hS, hc⟩⟩
theorem ok_index_prow {x y : Operand} {n : Nat} {sg : Nat → Bool} {f g : Nat → List Nat} {k : IntKind} {z : Int} (ho : o.op = .indexAddr WT x y) (hx : avo s x = some (.prow n sg f g)) (hy : avo s y = some (.v (.int k z))) (h0 : 0 ≤ z) (h1 : z < n) : LOK Try.prog o s ⟨some (.pp (sg z.toNat) (f z.toNat) (g z.toNat)), [], []⟩ := by
  refine lok_val fun s2 hl W N β w a hs => ?_
  obtain ⟨_, A, c, e1, _, _, e2⟩ := hs.opd (x := x) (by rw [hl.avo (by rw [ho]; simp [Op.operands])]; exact hx)
  have e3 : a.eval y = .int k z := hs.opv (by rw [hl.avo (by rw [ho]; simp [Op.operands])]; exact hy)
  obtain ⟨b, off, rfl, hS, hc⟩ := e2 z.toNat (by omega)
  exact ⟨_, by unfold execOp; rw [ho]; simp only []; rw [e1, e3]; simp only [Sem.run_bind, run_index wt_u rt_size w _ n c k z h0 h1]; rfl, fun q hq => by cases hq; exact ⟨trivial, b, off + z.toNat * 3, by rw [add_at], hS, hc⟩⟩
theorem ok_index_mat {x y : Operand} {fr : Bool} {n : Nat} {m : Nat → Nat} {F : Nat → Nat → RA} {k : IntKind} {z : Int} (ho : o.op = .indexAddr MT x y) (hx : avo s x = some (.mat fr n m F)) (hy : avo s y = some (.v (.int k z))) (h0 : 0 ≤ z) (h1 : z < n) : LOK Try.prog o s ⟨some (.cp (.row fr (m z.toNat) (F z.toNat))), [], []⟩ := by
  refine lok_val fun s2 hl W N β w a hs => ?_
  obtain ⟨_, A, c, e1, _, _, e2⟩ := hs.opd (x := x) (by rw [hl.avo (by rw [ho]; simp [Op.operands])]; exact hx)
  have e3 : a.eval y = .int k z := hs.opv (by rw [hl.avo (by rw [ho]; simp [Op.operands])]; exact hy)
  obtain ⟨b, off, cs, v, rfl, hS, _, hr, hv, hc⟩ := e2 z.toNat (by omega)
  refine ⟨_, by unfold execOp; rw [ho]; simp only []; rw [e1, e3]; simp only [Sem.run_bind, run_index mt_u wt_size w _ n c k z h0 h1]; rfl, fun q hq => ?_⟩
  cases hq
  refine ⟨trivial, ⟨b, off + z.toNat, none⟩, v, by rw [add_at, Nat.mul_one], hS, ?_, hc⟩
  rw [cell_of_row w b _ cs WT (0, 0) hr]; exact hv
theorem ok_index_seq {x y : Operand} {T E : TypeId} {k' : IntKind} {l : List Int} {k : IntKind} {z : Int} (ho : o.op = .indexAddr T x y) (hu : Try.prog.underlying T = some (.slice E)) (hz : szB Try.prog E 1 = true) (hx : avo s x = some (.seq k' l)) (hy : avo s y = some (.v (.int k z))) (h0 : 0 ≤ z) (h1 : z < l.length) : LOK Try.prog o s ⟨some (.cp (.v (.int k' (l.getD z.toNat 0)))), [], []⟩ := by
  refine lok_val fun s2 hl W N β w a hs => ?_
  obtain ⟨_, A, c, e1, _, _, e2⟩ := hs.opd (x := x) (by rw [hl.avo (by rw [ho]; simp [Op.operands])]; exact hx)
  have e3 : a.eval y = .int k z := hs.opv (by rw [hl.avo (by rw [ho]; simp [Op.operands])]; exact hy)
  obtain ⟨p, rfl, hS, hc⟩ := e2 z.toNat (by omega)
  have hb : (p.add z.toNat).block = p.block := by unfold Addr.add; split <;> rfl
  refine ⟨_, by unfold execOp; rw [ho]; simp only []; rw [e1, e3]; simp only [Sem.run_bind, run_index hu (sz_info hz) w p l.length c k z h0 h1]; rfl, fun q hq => ?_⟩
  cases hq
  exact ⟨trivial, p.add z.toNat, _, by rw [Nat.mul_one], by rw [hb]; exact hS, hc, rfl⟩
theorem ok_index_own_rat {x y : Operand} {g r n m : Nat} {F : Nat → Blk} {f : Nat → RA} {k : IntKind} {z : Int} (ho : o.op = .indexAddr WT x y) (hx : avo s x = some (.own g r)) (hg : s.heap g = some (n, F)) (hr : r < n) (hF : F r = .rats m f) (hy : avo s y = some (.v (.int k z))) (h0 : 0 ≤ z) (h1 : z < m) : LOK Try.prog o s ⟨some (.rptr g r z.toNat), [], [g]⟩ := by
  refine lok_val fun s2 hl W N β w a hs => ?_
  obtain ⟨hu, e0, A, m', c, e1⟩ := hs.opd (x := x) (by rw [hl.avo (by rw [ho]; simp [Op.operands])]; exact hx)
  have e3 : a.eval y = .int k z := hs.opv (by rw [hl.avo (by rw [ho]; simp [Op.operands])]; exact hy)
  have hb := (hs.heap g n F r ((hl.heap g (List.mem_singleton.2 rfl)).trans hg) hr).2
  rw [hF] at hb
  rcases hb with ⟨_, h⟩ | ⟨b, cs, _, _, hat, _⟩
  · omega
  · rcases hat with ⟨e, _⟩ | ⟨cap, e, hcap, _⟩
    · rw [← e0, e1] at e; cases e
    · rw [e] at e0
      exact ⟨_, by unfold execOp; rw [ho]; simp only []; rw [e0, e3]; simp only [Sem.run_bind, run_index wt_u rt_size w _ m cap k z h0 h1]; rfl, fun q hq => by cases hq; exact ⟨hu, b, by rw [e]; rfl, by rw [add_at, Nat.zero_add]⟩⟩
theorem ok_index_own_one {x y : Operand} {T E T' : TypeId} {g r n m : Nat} {F : Nat → Blk} {f : Nat → AV} {k : IntKind} {z : Int} (ho : o.op = .indexAddr T x y) (hu : Try.prog.underlying T = some (.slice E)) (hz : szB Try.prog E 1 = true) (hx : avo s x = some (.own g r)) (hg : s.heap g = some (n, F)) (hr : r < n) (hF : F r = .ones T' m f) (hy : avo s y = some (.v (.int k z))) (h0 : 0 ≤ z) (h1 : z < m) : LOK Try.prog o s ⟨some (.ptr g r z.toNat), [], [g]⟩ := by
  refine lok_val fun s2 hl W N β w a hs => ?_
  obtain ⟨hus, e0, A, m', c, e1⟩ := hs.opd (x := x) (by rw [hl.avo (by rw [ho]; simp [Op.operands])]; exact hx)
  have e3 : a.eval y = .int k z := hs.opv (by rw [hl.avo (by rw [ho]; simp [Op.operands])]; exact hy)
  have hb := (hs.heap g n F r ((hl.heap g (List.mem_singleton.2 rfl)).trans hg) hr).2
  rw [hF] at hb
  rcases hb.2 with ⟨_, h⟩ | ⟨b, cs, _, _, hat, _⟩
  · omega
  · rcases hat with ⟨e, _⟩ | ⟨cap, e, hcap, _⟩
    · rw [← e0, e1] at e; cases e
    · rw [e] at e0
      exact ⟨_, by unfold execOp; rw [ho]; simp only []; rw [e0, e3]; simp only [Sem.run_bind, run_index hu (sz_info hz) w _ m cap k z h0 h1]; rfl, fun q hq => by cases hq; exact ⟨hus, b, by rw [e]; rfl, by rw [add_at, Nat.zero_add, Nat.mul_one]⟩⟩
/-- A field of a struct of type T that lies at that place, and is of some size. -/
def fieldB (P : Program) (T : TypeId) (j off : Nat) : Bool :=
  match P.underlying T with
  | some (.struct fs) => match fs[j]? with
    | some f => Nat.beq f.offset off && (match P.info? f.type with | some i => !(Nat.beq i.size 0) | none => false)
    | none => false
  | _ => false
theorem run_field {T : TypeId} {j off : Nat} (h : fieldB Try.prog T j off = true) (w : World) (a : Addr) : (Instr.fieldAt T (.pointer (some a)) j).run Try.prog w = .ok (.pointer (some (a.add off))) w := by
  unfold fieldB at h
  cases hu : Try.prog.underlying T with
  | none => rw [hu] at h; cases h
  | some d =>
    rw [hu] at h
    cases d <;> first | (cases h; done) | skip
    rename_i fs
    simp only [] at h
    cases hf : fs[j]? with
    | none => rw [hf] at h; cases h
    | some f =>
      rw [hf] at h
      simp only [Bool.and_eq_true] at h
      have hoff := Nat.eq_of_beq_eq_true h.1
      cases hi : Try.prog.info? f.type with
      | none => rw [hi] at h; simp at h
      | some i =>
        rw [hi] at h
        have hne : i.size ≠ 0 := fun e => by
          have h2 : (!(Nat.beq i.size 0)) = true := h.2
          rw [e] at h2; cases h2
        simp [Instr.fieldAt, run_underlying hu, hf, Instr.sureAddr, fieldPlace, sizeOf, typeInfo, hi, hne, hoff]
theorem rt_field : ∀ j, j < 3 → fieldB Try.prog RT j j = true
  | 0, _ => by kernel_rfl
  | 1, _ => by kernel_rfl
  | 2, _ => by kernel_rfl
theorem ok_field_rptr {x : Operand} {g r i j : Nat} (ho : o.op = .fieldAddr RT x j) (hx : avo s x = some (.rptr g r i)) (hj : j < 3) : LOK Try.prog o s ⟨some (.fld g r i j), [], []⟩ := by
  refine lok_val fun s2 hl W N β w a hs => ?_
  obtain ⟨hu, b, hb, e1⟩ := hs.opd (x := x) (by rw [hl.avo (by rw [ho]; simp [Op.operands])]; exact hx)
  exact ⟨_, by unfold execOp; rw [ho]; simp only []; rw [e1]; simp only [Sem.run_bind, run_field (rt_field j hj)]; rfl, fun q hq => by cases hq; exact ⟨hu, b, hb, by rw [add_at]⟩⟩
theorem ok_field_rp {x : Operand} {q : RA} {j : Nat} (ho : o.op = .fieldAddr RT x j) (hx : avo s x = some (.rp q)) (hj : j < 3) : LOK Try.prog o s ⟨some (.cp (q.field j)), [], []⟩ := by
  refine lok_val fun s2 hl W N β w a hs => ?_
  obtain ⟨_, b, off, e1, hS, cs, sg, vn, vd, hr, h0, h1, h2, h3⟩ := hs.opd (x := x) (by rw [hl.avo (by rw [ho]; simp [Op.operands])]; exact hx)
  refine ⟨_, by unfold execOp; rw [ho]; simp only []; rw [e1]; simp only [Sem.run_bind, run_field (rt_field j hj)]; rfl, fun q hq => ?_⟩
  cases hq
  obtain ⟨v, hv, hc⟩ : ∃ v, #[Value.bool sg, vn, vd][j]? = some v ∧ cs[off + j]? = some v := by
    match j, hj with
    | 0, _ => exact ⟨_, rfl, h0⟩
    | 1, _ => exact ⟨_, rfl, h1⟩
    | 2, _ => exact ⟨_, rfl, h2⟩
  exact ⟨field_ok _ _ _, ⟨b, off + j, none⟩, v, by rw [add_at], hS, by rw [cell_of_row w b _ cs RT (0, 0) hr]; exact hc, field_rv h3 hj hv⟩
/-- A field of a number, wherever it lies. -/
def pfield (s : Bool) (n d : List Nat) : Nat → AV
  | 0 => .v (.bool s)
  | 1 => .plb n
  | _ => .plb d
theorem pfield_ok (s : Bool) (n d : List Nat) (U : Nat → Bool) (j : Nat) : (pfield s n d j).ok U := by unfold pfield; split <;> trivial
theorem ok_field_pp {x : Operand} {sg : Bool} {n d : List Nat} {j : Nat} (ho : o.op = .fieldAddr RT x j) (hx : avo s x = some (.pp sg n d)) (hj : j < 3) : LOK Try.prog o s ⟨some (.cp (pfield sg n d j)), [], []⟩ := by
  refine lok_val fun s2 hl W N β w a hs => ?_
  obtain ⟨_, b, off, e1, hS, vn, vd, h0, h1, h2, h3, h4⟩ := hs.opd (x := x) (by rw [hl.avo (by rw [ho]; simp [Op.operands])]; exact hx)
  refine ⟨_, by unfold execOp; rw [ho]; simp only []; rw [e1]; simp only [Sem.run_bind, run_field (rt_field j hj)]; rfl, fun q hq => ?_⟩
  cases hq
  refine ⟨pfield_ok _ _ _ _ _, ⟨b, off + j, none⟩, #[Value.bool sg, vn, vd].getD j undef, by rw [add_at], hS, ?_, ?_⟩
  · match j, hj with
    | 0, _ => exact h0
    | 1, _ => exact h1
    | 2, _ => exact h2
  · match j, hj with
    | 0, _ => exact rfl
    | 1, _ => exact h3
    | 2, _ => exact h4
theorem ok_field_ptr {x : Operand} {T : TypeId} {g r j off : Nat} (ho : o.op = .fieldAddr T x j) (hf : fieldB Try.prog T j off = true) (hx : avo s x = some (.ptr g r 0)) : LOK Try.prog o s ⟨some (.ptr g r off), [], []⟩ := by
  refine lok_val fun s2 hl W N β w a hs => ?_
  obtain ⟨hu, b, hb, e1⟩ := hs.opd (x := x) (by rw [hl.avo (by rw [ho]; simp [Op.operands])]; exact hx)
  exact ⟨_, by unfold execOp; rw [ho]; simp only []; rw [e1]; simp only [Sem.run_bind, run_field hf]; rfl, fun q hq => by cases hq; exact ⟨hu, b, hb, by rw [add_at, Nat.zero_add]⟩⟩
/-! ### Parts of a row -/
/-- A bound of a part: what is said of it, or what stands for it. -/
def bnd (s : St) (d : Int) : Option Operand → Option Int
  | none => some d
  | some x => match avo s x with
    | some (.v (.int _ z)) => some z
    | _ => none
theorem slice_run {w : World} {a : Act} {s : St} {x : Operand} {lo hi mx : Option Operand} {A : Option Addr} {n c : Nat} {l h m : Int} (ho : o.op = .slice WT x lo hi mx) (hv' : ∀ (y : Operand) (k : IntKind) (z : Int), y ∈ o.op.operands → avo s y = some (.v (.int k z)) → a.eval y = .int k z) (e1 : a.eval x = .slice A n c) (e2 : n ≤ c) (hl : bnd s 0 lo = some l) (hh : bnd s n hi = some h) (hm : bnd s n mx = some m) (hmh : mx.isSome = true → hi.isSome = true)
    (h0 : 0 ≤ l) (h1 : l ≤ h) (h2 : h ≤ m) (h3 : m ≤ n) : ∃ m' : Nat, h ≤ (m' : Int) ∧ m' ≤ c ∧ (execOp a.eval o).run Try.prog w = .ok (.value (.slice (if m' = l.toNat then A else A.map (·.add (l.toNat * 3))) (h.toNat - l.toNat) (m' - l.toNat))) w := by
  have val : ∀ {d z : Int} {q : Option Operand} (y : Operand), q = some y → bnd s d q = some z → y ∈ o.op.operands → ∃ k, a.eval y = .int k z := by
    intro d z q y e hb hy
    subst e
    have hb : (match avo s y with | some (.v (.int _ z)) => some z | _ => none) = some z := hb
    cases hv : avo s y with
    | none => rw [hv] at hb; cases hb
    | some v =>
      rw [hv] at hb
      cases v <;> first | (cases hb; done) | skip
      rename_i v
      cases v <;> first | (cases hb; done) | skip
      cases hb
      exact ⟨_, hv' y _ _ hy hv⟩
  have fin : ∀ m' : Nat, h ≤ (m' : Int) → m' ≤ c → (Instr.sliceAt WT (.slice A n c) (lo.map a.eval) (hi.map a.eval) (mx.map a.eval)).run Try.prog w = .ok (.slice (if m' = l.toNat then A else A.map (·.add (l.toNat * 3))) (h.toNat - l.toNat) (m' - l.toNat)) w →
      ∃ m' : Nat, h ≤ (m' : Int) ∧ m' ≤ c ∧ (execOp a.eval o).run Try.prog w = .ok (.value (.slice (if m' = l.toNat then A else A.map (·.add (l.toNat * 3))) (h.toNat - l.toNat) (m' - l.toNat))) w := by
    intro m' hm1 hm2 hrun
    exact ⟨m', hm1, hm2, by unfold execOp; rw [ho]; simp only []; rw [e1]; simp only [Sem.run_bind, hrun]; rfl⟩
  obtain ⟨i', hi', hz'⟩ := rt_size
  have hopl : ∀ y, lo = some y → y ∈ o.op.operands := fun y e => by rw [ho, e]; simp [Op.operands]
  have hoph : ∀ y, hi = some y → y ∈ o.op.operands := fun y e => by rw [ho, e]; simp [Op.operands]
  have hopm : ∀ y, mx = some y → y ∈ o.op.operands := fun y e => by rw [ho, e]; simp [Op.operands]
  cases hmx : mx with
  | none =>
    rw [hmx] at hm
    cases hm
    refine fin c (by omega) (Nat.le_refl _) ?_
    rw [hmx]
    cases hhi : hi with
    | none =>
      rw [hhi] at hh
      cases hh
      cases hlo : lo with
      | none =>
        rw [hlo] at hl; cases hl
        simp [Instr.sliceAt, Instr.slice, run_underlying wt_u, Instr.sliceBounds, sizeOf, typeInfo, hi', hz']
      | some y =>
        obtain ⟨k, ey⟩ := val y hlo hl (hopl y hlo)
        simp [Instr.sliceAt, Instr.slice, run_underlying wt_u, Instr.sliceBounds, Instr.sliceBound, asIntOf, sizeOf, typeInfo, hi', hz', ey, h0, h1]
    | some y' =>
      obtain ⟨k', ey'⟩ := val y' hhi hh (hoph y' hhi)
      have q1 : 0 ≤ h := by omega
      have q2 : h ≤ (c : Int) := by omega
      cases hlo : lo with
      | none =>
        rw [hlo] at hl; cases hl
        simp [Instr.sliceAt, Instr.slice, run_underlying wt_u, Instr.sliceBounds, Instr.sliceBound, asIntOf, sizeOf, typeInfo, hi', hz', ey', q1, q2]
      | some y =>
        obtain ⟨k, ey⟩ := val y hlo hl (hopl y hlo)
        have q3 : l ≤ ((h.toNat : Nat) : Int) := by omega
        simp [Instr.sliceAt, Instr.slice, run_underlying wt_u, Instr.sliceBounds, Instr.sliceBound, asIntOf, sizeOf, typeInfo, hi', hz', ey, ey', h0, q1, q2, q3]
        omega
  | some ym =>
    obtain ⟨km, em⟩ := val ym hmx hm (hopm ym hmx)
    have hhs := hmh (by rw [hmx]; rfl)
    obtain ⟨y', hhi⟩ := Option.isSome_iff_exists.1 hhs
    obtain ⟨k', ey'⟩ := val y' hhi hh (hoph y' hhi)
    refine fin m.toNat (by omega) (by omega) ?_
    rw [hmx, hhi]
    have q1 : 0 ≤ h := by omega
    have q4 : 0 ≤ m := by omega
    have q5 : m ≤ (c : Int) := by omega
    have q2 : h ≤ ((m.toNat : Nat) : Int) := by omega
    cases hlo : lo with
    | none =>
      rw [hlo] at hl; cases hl
      simp [Instr.sliceAt, Instr.slice, run_underlying wt_u, Instr.sliceBounds, Instr.sliceBound, asIntOf, sizeOf, typeInfo, hi', hz', em, ey', q1, q2, q4, q5]
      omega
    | some y =>
      obtain ⟨k, ey⟩ := val y hlo hl (hopl y hlo)
      have q3 : l ≤ ((h.toNat : Nat) : Int) := by omega
      simp [Instr.sliceAt, Instr.slice, run_underlying wt_u, Instr.sliceBounds, Instr.sliceBound, asIntOf, sizeOf, typeInfo, hi', hz', em, ey, ey', h0, q1, q2, q3, q4, q5]
      rw [if_pos (by omega), if_pos (by omega)]
theorem ok_slice_row {x : Operand} {lo hi mx : Option Operand} {fr : Bool} {n : Nat} {f : Nat → RA} {l h m : Int} (ho : o.op = .slice WT x lo hi mx) (hx : avo s x = some (.row fr n f)) (hl : bnd s 0 lo = some l) (hh : bnd s n hi = some h) (hm : bnd s n mx = some m) (hmh : mx.isSome = true → hi.isSome = true)
    (h0 : 0 ≤ l) (h1 : l ≤ h) (h2 : h ≤ m) (h3 : m ≤ n) : LOK Try.prog o s ⟨some (.row fr (h - l).toNat (fun i => f (l.toNat + i))), [], []⟩ := by
  refine lok_val fun s2 hk W N β w a hs => ?_
  obtain ⟨_, A, c, e1, e2, e3, e4⟩ := hs.opd (x := x) (by rw [hk.avo (by rw [ho]; simp [Op.operands])]; exact hx)
  obtain ⟨m', hm1, hm2, hrun⟩ := slice_run (w := w) ho (fun y k z hy hv => hs.opv (by rw [hk.avo hy]; exact hv)) e1 e2 hl hh hm hmh h0 h1 h2 h3
  refine ⟨_, hrun, fun z hz => ?_⟩
  cases hz
  refine ⟨trivial, _, _, by rw [show (h - l).toNat = h.toNat - l.toNat by omega], by omega, by omega, fun i hi' => ?_⟩
  obtain ⟨b, off, q1, q2, q3, q4⟩ := e4 (l.toNat + i) (by omega)
  refine ⟨b, off + l.toNat * 3, ?_, q2, q3, by rw [show off + l.toNat * 3 + i * 3 = off + (l.toNat + i) * 3 by omega]; exact q4⟩
  rw [if_neg (by omega), q1, Option.map_some, add_at]
/-- A part of an own slice. -/
theorem ok_slice_own {x : Operand} {lo hi mx : Option Operand} {g r k n : Nat} {F : Nat → Blk} {f : Nat → RA} {l h m : Int} (ho : o.op = .slice WT x lo hi mx) (hx : avo s x = some (.own g r)) (hg : s.heap g = some (k, F)) (hr : r < k) (hF : F r = .rats n f) (hl : bnd s 0 lo = some l) (hh : bnd s n hi = some h) (hm : bnd s n mx = some m) (hmh : mx.isSome = true → hi.isSome = true)
    (h0 : 0 ≤ l) (h1 : l ≤ h) (h2 : h ≤ m) (h3 : m ≤ n) : LOK Try.prog o s ⟨some (.sl g r l.toNat (h - l).toNat), [], [g]⟩ := by
  refine lok_val fun s2 hk W N β w a hs => ?_
  obtain ⟨hu, e0, A0, n0, c0, e5⟩ := hs.opd (x := x) (by rw [hk.avo (by rw [ho]; simp [Op.operands])]; exact hx)
  have hb := (hs.heap g k F r ((hk.heap g (List.mem_singleton.2 rfl)).trans hg) hr).2
  rw [hF] at hb
  obtain ⟨A, c, e1, e2, e3, e4⟩ : ∃ A c, a.eval x = .slice A n c ∧ n ≤ c ∧ c ≤ maxLen ∧ (0 < n → ∃ b, ub (β g r) = some b ∧ A = some ⟨b, 0, none⟩) := by
    rcases hb with ⟨e, h⟩ | ⟨b, cs, _, _, hat, _⟩
    · exact ⟨none, 0, by rw [h]; exact e0.trans e, by omega, Nat.zero_le _, fun hn => by omega⟩
    · rcases hat with ⟨e, _⟩ | ⟨cap, e, hcap, hcm, _⟩
      · rw [← e0, e5] at e; cases e
      · exact ⟨_, cap, e0.trans e, hcap, hcm, fun _ => ⟨b, by rw [e]; rfl, rfl⟩⟩
  obtain ⟨m', hm1, hm2, hrun⟩ := slice_run (w := w) ho (fun y k z hy hv => hs.opv (by rw [hk.avo hy]; exact hv)) e1 e2 hl hh hm hmh h0 h1 h2 h3
  refine ⟨_, hrun, fun z hz => ?_⟩
  cases hz
  refine ⟨hu, _, _, by rw [show (h - l).toNat = h.toNat - l.toNat by omega], by omega, by omega, fun hn => ?_⟩
  obtain ⟨b, q1, q2⟩ := e4 (by omega)
  exact ⟨b, q1, by rw [if_neg (by omega), q2, Option.map_some, add_at, Nat.zero_add]⟩
theorem ok_index_sl {x y : Operand} {g r off n : Nat} {k : IntKind} {z : Int} (ho : o.op = .indexAddr WT x y) (hx : avo s x = some (.sl g r off n)) (hy : avo s y = some (.v (.int k z))) (h0 : 0 ≤ z) (h1 : z < n) : LOK Try.prog o s ⟨some (.rptr g r (off + z.toNat)), [], []⟩ := by
  refine lok_val fun s2 hl W N β w a hs => ?_
  obtain ⟨hu, A, c, e1, e2, e3, e4⟩ := hs.opd (x := x) (by rw [hl.avo (by rw [ho]; simp [Op.operands])]; exact hx)
  have e5 : a.eval y = .int k z := hs.opv (by rw [hl.avo (by rw [ho]; simp [Op.operands])]; exact hy)
  obtain ⟨b, q1, rfl⟩ := e4 (by omega)
  exact ⟨_, by unfold execOp; rw [ho]; simp only []; rw [e1, e5]; simp only [Sem.run_bind, run_index wt_u rt_size w _ n c k z h0 h1]; rfl, fun q hq => by cases hq; exact ⟨hu, b, q1, by rw [add_at, Nat.add_mul]⟩⟩
end
end Go.Proofs.Ytpclkgjhfhhddaa.AM

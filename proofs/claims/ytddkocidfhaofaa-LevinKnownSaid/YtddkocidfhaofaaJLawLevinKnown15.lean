/- Joined texts, 15: AmCt AmMf AmFl AmCl AmSt SmA LawT. -/
import Derived.Test.YtddkocidfhaofaaJLawLevinKnown14
import Derived.ArgAppend
import Derived.Test.YtddkocidfhaofaaJLawLevinKnown13
import Derived.Laws.Concat
set_option linter.unusedVariables false
set_option linter.unusedSimpArgs false
/- A map that is written out, in whatever order. -/
namespace Go.Proofs.Ytddkocidfhaofaa.AM
open Go Go.RowKit Go.Proofs.Ytddkocidfhaofaa.PN Go.Proofs.Ytddkocidfhaofaa.V
set_option linter.unusedVariables false
set_option linter.unusedSimpArgs false
section
variable {P : Program} {ops : Array Oper} {Q : Exit → Act → World → Prop}
theorem ready_of_left {listed : Array Bool} (hz : listed.size = ops.size) (hback : ∀ i o, ops[i]? = some o → ∀ e ∈ o.after, Region.binds .any e = true → e.on < i) : ∀ i, i ∈ left ops listed → ∃ j, j ∈ Region.ready .any ops listed := by
  intro i
  induction i using Nat.strongRecOn with
  | _ i ih =>
    intro hi
    obtain ⟨hlt, h0⟩ := mem_left.1 hi
    have ho : ops[i]? = some ops[i] := Array.getElem?_eq_getElem hlt
    by_cases hall : ∀ e ∈ (ops[i]).after, Region.binds .any e = true → listed.getD e.on false = true
    · exact ⟨i, mem_ready.2 ⟨h0, _, ho, hall⟩⟩
    · simp only [Classical.not_forall] at hall
      obtain ⟨e, he, hb, hn⟩ := hall
      have hl := hback i _ ho e he hb
      refine ih e.on hl (mem_left.2 ⟨by omega, ?_⟩)
      rw [Array.getD_eq_getD_getElem?, Array.getElem?_eq_getElem (by omega)] at hn ⊢
      simpa using hn
/-- Whatever order is drawn: what each operation keeps holds at the end. -/
theorem any_inv (J : (Nat → Bool) → Act → World → Prop) (hback : ∀ i o, ops[i]? = some o → ∀ e ∈ o.after, Region.binds .any e = true → e.on < i)
    (hstep : ∀ L a w i o, J L a w → ops[i]? = some o → L i = false → (∀ e ∈ o.after, Region.binds .any e = true → L e.on = true) → ∀ K : Act → World → Prop, (∀ a' w', J (fun k => Nat.beq k i || L k) a' w' → K a' w') → wpOp P ops Q i K a w)
    (hend : ∀ L a w, (∀ i, i < ops.size → L i = true) → J L a w → Q .normal a w) :
    ∀ (fuel : Nat) (listed : Array Bool) (a : Act) (w : World), listed.size = ops.size → (left ops listed).length ≤ fuel → J (fun k => listed.getD k false) a w → wpAny P .any ops Q fuel listed a w := by
  have hfin : ∀ (listed : Array Bool) (a : Act) (w : World), listed.size = ops.size → left ops listed = [] → J (fun k => listed.getD k false) a w → Q .normal a w := by
    intro listed a w hz hl hj
    refine hend _ a w (fun i hi => ?_) hj
    cases hx : listed.getD i false with
    | true => rfl
    | false =>
      exfalso
      have : i ∈ left ops listed := mem_left.2 ⟨hi, by
        rw [Array.getD_eq_getD_getElem?, Array.getElem?_eq_getElem (by omega)] at hx ⊢
        exact hx⟩
      rw [hl] at this; cases this
  intro fuel
  induction fuel with
  | zero =>
    intro listed a w hz hf hj
    have hn : left ops listed = [] := List.eq_nil_of_length_eq_zero (by omega)
    refine ⟨?_, hfin listed a w hz hn hj⟩
    rw [List.eq_nil_iff_forall_not_mem]
    intro i hi
    obtain ⟨h0, o, ho, _⟩ := mem_ready.1 hi
    have := mem_left.2 ⟨(Array.getElem?_eq_some_iff.1 ho).1, h0⟩
    rw [hn] at this; cases this
  | succ fuel ih =>
    intro listed a w hz hf hj
    refine ⟨fun hr => ?_, fun i hi => ?_⟩
    · refine hfin listed a w hz ?_ hj
      cases hl : left ops listed with
      | nil => rfl
      | cons i l =>
        obtain ⟨j, hj'⟩ := ready_of_left hz hback i (by rw [hl]; exact List.mem_cons_self ..)
        rw [hr] at hj'; cases hj'
    · obtain ⟨h0, o, ho, hall⟩ := mem_ready.1 hi
      have hlt := (Array.getElem?_eq_some_iff.1 ho).1
      refine hstep _ a w i o hj ho ?_ hall _ (fun a' w' hj' => ?_)
      · rw [Array.getD_eq_getD_getElem?, Array.getElem?_eq_getElem (by omega)] at h0 ⊢
        exact h0
      · obtain ⟨l, l', e1, e2, _⟩ := left_parts (mem_left.2 ⟨hlt, h0⟩)
        refine ih _ a' w' (by rw [Array.size_setIfInBounds]; exact hz) (by rw [e2]; rw [e1] at hf; simp at hf ⊢; omega) ?_
        have e : (fun k => (listed.setIfInBounds i true).getD k false) = (fun k => Nat.beq k i || listed.getD k false) := by
          funext k
          by_cases hk : k = i
          · subst hk
            rw [Nat.beq_refl, Array.getD_eq_getD_getElem?, Array.getElem?_setIfInBounds_self_of_lt (by omega)]; rfl
          · have hb : Nat.beq k i = false := by
              cases h' : Nat.beq k i with
              | false => rfl
              | true => exact absurd (Nat.eq_of_beq_eq_true h') hk
            rw [hb, Array.getD_eq_getD_getElem?, Array.getElem?_setIfInBounds_ne (Ne.symm hk), Array.getD_eq_getD_getElem?]; rfl
        rw [e]
        exact hj'
theorem wpOp_val {i : Nat} {o : Oper} {a : Act} {w w' : World} {v : Value} {K : Act → World → Prop} (ho : ops[i]? = some o) (hg : o.guard = none) (hrun : (execOp a.eval o).run P w = .ok (.value v) w') (hK : K (a.put o.dst v) w') : wpOp P ops Q i K a w := by
  unfold wpOp
  rw [ho]
  simp only []
  rw [if_pos (by unfold Region.wanted; rw [hg])]
  left
  unfold Oper.wp
  rw [hrun]
  exact hK
theorem wpOp_skip {i : Nat} {o : Oper} {a : Act} {w w' : World} {K : Act → World → Prop} (ho : ops[i]? = some o) (hg : o.guard = none) (hrun : (execOp a.eval o).run P w = .ok .skip w') (hK : K (a.put o.dst undef) w') : wpOp P ops Q i K a w := by
  unfold wpOp
  rw [ho]
  simp only []
  rw [if_pos (by unfold Region.wanted; rw [hg])]
  left
  unfold Oper.wp
  rw [hrun]
  exact hK
end
/-! ### A table of twelve rows -/
abbrev ag3 (a b c : Int) : Value := .agg #[.int .i64 a, .int .i64 b, .int .i64 c]
structure Tab where
  l : List (Int × Int × Int × Int × Int)
def Tab.at (T : Tab) (j : Nat) : Int × Int × Int × Int × Int := T.l.getD j (0, 0, 0, 0, 0)
def Tab.key (T : Tab) (j : Nat) : Value := agp (T.at j).1 (T.at j).2.1
def Tab.val (T : Tab) (j : Nat) : Value := ag3 (T.at j).2.2.1 (T.at j).2.2.2.1 (T.at j).2.2.2.2
def Tab.map (T : Tab) (a b : Int) : Option (Int × Int × Int) := (T.l.find? fun e => a == e.1 && b == e.2.1).map fun e => (e.2.2.1, e.2.2.2.1, e.2.2.2.2)
/-- No key twice. -/
def Tab.one (T : Tab) : Bool := (List.range T.l.length).all fun j => (List.range j).all fun k => !((T.at j).1 == (T.at k).1 && (T.at j).2.1 == (T.at k).2.1)
theorem Tab.one_spec {T : Tab} (h : T.one = true) {j k : Nat} (hj : j < T.l.length) (hk : k < T.l.length) (hne : j ≠ k) : T.key j ≠ T.key k := by
  have key : ∀ j k, j < T.l.length → k < j → T.key j ≠ T.key k := by
    intro j k hj hk he
    have h1 := List.all_eq_true.1 (List.all_eq_true.1 h j (List.mem_range.2 hj)) k (List.mem_range.2 hk)
    simp only [Tab.key, Value.agg.injEq, Array.mk.injEq, List.cons.injEq, Value.int.injEq, and_true, true_and] at he
    rw [he.1, he.2] at h1
    simp at h1
  rcases Nat.lt_or_gt_of_ne hne with h' | h'
  · exact fun e => key k j hk h' e.symm
  · exact key j k hj h'
theorem Tab.map_at {T : Tab} (h : T.one = true) {j : Nat} (hj : j < T.l.length) : T.map (T.at j).1 (T.at j).2.1 = some ((T.at j).2.2.1, (T.at j).2.2.2.1, (T.at j).2.2.2.2) := by
  have hm : ∀ k, (hk : k < T.l.length) → T.at k = T.l[k] := fun k hk => by unfold Tab.at; rw [List.getD_eq_getElem?_getD, List.getElem?_eq_getElem hk]; rfl
  unfold Tab.map
  cases hf : T.l.find? (fun e => (T.at j).1 == e.1 && (T.at j).2.1 == e.2.1) with
  | none =>
    have := List.find?_eq_none.1 hf (T.at j) (by rw [hm j hj]; exact List.getElem_mem hj)
    simp at this
  | some e =>
    have h1 := List.find?_some hf
    obtain ⟨k, hk, he⟩ := List.mem_iff_getElem.1 (List.mem_of_find?_eq_some hf)
    rw [Bool.and_eq_true, beq_iff_eq, beq_iff_eq] at h1
    have : j = k := by
      by_cases e : j = k
      · exact e
      · refine absurd ?_ (Tab.one_spec h hj hk e)
        unfold Tab.key
        rw [h1.1, h1.2, hm k hk, he]
    subst this
    rw [← he, ← hm j hj]; rfl
theorem Tab.map_key {T : Tab} {a b : Int} {p : Int × Int × Int} (h : T.map a b = some p) : ∃ j, j < T.l.length ∧ T.key j = agp a b := by
  unfold Tab.map at h
  cases hf : T.l.find? (fun e => a == e.1 && b == e.2.1) with
  | none => rw [hf] at h; cases h
  | some e =>
    have h1 := List.find?_some hf
    obtain ⟨k, hk, he⟩ := List.mem_iff_getElem.1 (List.mem_of_find?_eq_some hf)
    rw [Bool.and_eq_true, beq_iff_eq, beq_iff_eq] at h1
    refine ⟨k, hk, ?_⟩
    unfold Tab.key Tab.at
    rw [List.getD_eq_getElem?_getD, List.getElem?_eq_getElem hk]
    show agp (T.l[k]).1 (T.l[k]).2.1 = _
    rw [he, ← h1.1, ← h1.2]
/-- What the operations are. -/
structure MapOps (ops : Array Oper) (M K V : TypeId) (T : Tab) (n : Nat) : Prop where
  size : ops.size = 3 * n + 3
  make : ∃ o, ops[0]? = some o ∧ o.op = .makeMap M none ∧ o.dst = some 1 ∧ o.guard = none
  key : ∀ j, j < n → ∃ o, ops[3 * j + 1]? = some o ∧ o.op = .build K #[(0, .const (.int .i64 (T.at j).1)), (1, .const (.int .i64 (T.at j).2.1))] ∧ o.dst = some (2 * j + 2) ∧ o.guard = none
  val : ∀ j, j < n → ∃ o, ops[3 * j + 2]? = some o ∧ o.op = .build V #[(0, .const (.int .i64 (T.at j).2.2.1)), (1, .const (.int .i64 (T.at j).2.2.2.1)), (2, .const (.int .i64 (T.at j).2.2.2.2))] ∧ o.dst = some (2 * j + 3) ∧ o.guard = none
  ins : ∀ j, j < n → ∃ o, ops[3 * j + 3]? = some o ∧ o.op = .insert M (.tmp 1) (.tmp (2 * j + 2)) (.tmp (2 * j + 3)) ∧ o.dst = none ∧ o.guard = none ∧
    (∃ e ∈ o.after, Region.binds .any e = true ∧ e.on = 0) ∧ (∃ e ∈ o.after, Region.binds .any e = true ∧ e.on = 3 * j + 1) ∧ (∃ e ∈ o.after, Region.binds .any e = true ∧ e.on = 3 * j + 2)
  mv : ∃ o, ops[3 * n + 1]? = some o ∧ o.op = .move (.tmp 1) ∧ o.dst = some (2 * n + 2) ∧ o.guard = none ∧ (∃ e ∈ o.after, Region.binds .any e = true ∧ e.on = 0)
  asg : ∃ o, ops[3 * n + 2]? = some o ∧ o.op = .assign (.tmp (2 * n + 2)) ∧ o.dst = some 0 ∧ o.guard = none ∧ (∃ e ∈ o.after, Region.binds .any e = true ∧ e.on = 3 * n + 1)
  back : ∀ i o, ops[i]? = some o → ∀ e ∈ o.after, Region.binds .any e = true → e.on < i
theorem edge_of {A : Array Edge} {k : Nat} (h : (A.toList.any fun e => Region.binds .any e && Nat.beq e.on k) = true) : ∃ e ∈ A, Region.binds .any e = true ∧ e.on = k := by
  obtain ⟨e, he, hb⟩ := List.any_eq_true.1 h
  rw [Bool.and_eq_true] at hb
  exact ⟨e, Array.mem_toList_iff.1 he, hb.1, Nat.eq_of_beq_eq_true hb.2⟩
def backB (ops : Array Oper) : Bool := (List.range ops.size).all fun i => match ops[i]? with
  | none => true
  | some o => o.after.toList.all fun e => !Region.binds .any e || Nat.blt e.on i
theorem back_of {ops : Array Oper} (h : backB ops = true) : ∀ i o, ops[i]? = some o → ∀ e ∈ o.after, Region.binds .any e = true → e.on < i := by
  intro i o ho e he hb
  have h1 := List.all_eq_true.1 h i (List.mem_range.2 (Array.getElem?_eq_some_iff.1 ho).1)
  rw [ho] at h1
  have h2 := List.all_eq_true.1 h1 e (Array.mem_toList_iff.2 he)
  rw [hb] at h2
  simpa using h2
structure MapTys (M K V : TypeId) : Prop where
  m : MapT M K
  k : ∀ (w : World) (a b : Int), (Instr.build K #[(0, .int .i64 a), (1, .int .i64 b)]).run Try.prog w = .ok (agp a b) w
  v : ∀ (w : World) (a b c : Int), (Instr.build V #[(0, .int .i64 a), (1, .int .i64 b), (2, .int .i64 c)]).run Try.prog w = .ok (ag3 a b c) w
/-- What holds when the operations of L have been done. -/
structure MJ (w0 : World) (T : Tab) (n : Nat) (L : Nat → Bool) (a : Act) (w : World) : Prop where
  nodef : a.defers = []
  size : a.tmps.size = 2 * n + 3
  kept : Kept w0 w
  key : ∀ j, j < n → L (3 * j + 1) = true → a.tmps.getD (2 * j + 2) undef = T.key j
  val : ∀ j, j < n → L (3 * j + 2) = true → a.tmps.getD (2 * j + 3) undef = T.val j
  none : L 0 = false → (∀ j, j < n → L (3 * j + 3) = false) ∧ L (3 * n + 1) = false ∧ L (3 * n + 2) = false
  some : L 0 = true → ∃ m es ck, a.tmps.getD 1 undef = .map (some m) ∧ w0.heap.size ≤ m ∧ w.heap[m]? = some (.map es ck) ∧
    (∀ e ∈ es.toList, ∃ j, j < n ∧ L (3 * j + 3) = true ∧ e.key = T.key j ∧ e.val = T.val j) ∧ (∀ j, j < n → L (3 * j + 3) = true → ∃ e ∈ es.toList, e.key = T.key j) ∧
    (L (3 * n + 1) = true → a.tmps.getD (2 * n + 2) undef = .map (some m)) ∧ (L (3 * n + 2) = true → a.tmps.getD 0 undef = .map (some m))
theorem L_ne {L : Nat → Bool} {k i : Nat} (h : k ≠ i) : (Nat.beq k i || L k) = L k := by
  have hb : Nat.beq k i = false := by
    cases h' : Nat.beq k i with
    | false => rfl
    | true => exact absurd (Nat.eq_of_beq_eq_true h') h
  rw [hb, Bool.false_or]
theorem L_same {L : Nat → Bool} {i : Nat} : (Nat.beq i i || L i) = true := by rw [Nat.beq_refl]; rfl
section
variable {w0 : World} {T : Tab} {n : Nat} {ops : Array Oper} {M K V : TypeId} {L : Nat → Bool} {a : Act} {w : World} {Q : Exit → Act → World → Prop} {C : Act → World → Prop}
theorem step_make (ho : MapOps ops M K V T n) (h : MJ w0 T n L a w) (hL : L 0 = false) (hK : ∀ a' w', MJ w0 T n (fun k => Nat.beq k 0 || L k) a' w' → C a' w') : wpOp Try.prog ops Q 0 C a w := by
  obtain ⟨o, o1, o2, o3, o4⟩ := ho.make
  refine wpOp_val o1 o4 (v := .map (some w.heap.size)) (w' := w.alloc (.map #[] 0)) (by unfold execOp; rw [o2]; rfl) (hK _ _ ?_)
  rw [o3]
  obtain ⟨n1, n2, n3⟩ := h.none hL
  refine ⟨h.nodef, by show (a.tmps.setIfInBounds 1 _).size = _; rw [Array.size_setIfInBounds, h.size], h.kept.then (Kept.alloc w _), fun j hj hl => ?_, fun j hj hl => ?_, fun hl => ?_, fun _ => ?_⟩
  · rw [L_ne (by omega)] at hl
    exact (getD_set_ne' (by omega)).trans (h.key j hj hl)
  · rw [L_ne (by omega)] at hl
    exact (getD_set_ne' (by omega)).trans (h.val j hj hl)
  · rw [L_same] at hl; cases hl
  · refine ⟨w.heap.size, #[], 0, getD_set_same' (by rw [h.size]; omega), h.kept.size, (MapKept.heap_alloc w _).1, fun e (he : e ∈ ([] : List MapEntry)) => (by cases he), fun j hj hl => ?_, fun hl => ?_, fun hl => ?_⟩
    · rw [L_ne (by omega), n1 j hj] at hl; cases hl
    · rw [L_ne (by omega), n2] at hl; cases hl
    · rw [L_ne (by omega), n3] at hl; cases hl
/-- A value is put into a slot of its own. -/
theorem MJ.putk (h : MJ w0 T n L a w) {i d : Nat} {v : Value} (hd : d < 2 * n + 3) (hd1 : d ≠ 1) (hi0 : i ≠ 0) (hi : ∀ j, j < n → i ≠ 3 * j + 3) (hn0 : L 0 = false → i ≠ 3 * n + 1 ∧ i ≠ 3 * n + 2)
    (hk : ∀ j, j < n → i = 3 * j + 1 ∧ d = 2 * j + 2 ∧ v = T.key j ∨ i ≠ 3 * j + 1 ∧ (d = 2 * j + 2 → L (3 * j + 1) = false))
    (hv : ∀ j, j < n → i = 3 * j + 2 ∧ d = 2 * j + 3 ∧ v = T.val j ∨ i ≠ 3 * j + 2 ∧ (d = 2 * j + 3 → L (3 * j + 2) = false))
    (hm : i = 3 * n + 1 ∧ d = 2 * n + 2 ∧ v = a.tmps.getD 1 undef ∨ i ≠ 3 * n + 1 ∧ (d = 2 * n + 2 → L (3 * n + 1) = false))
    (ha : i = 3 * n + 2 ∧ d = 0 ∧ v = a.tmps.getD 1 undef ∨ i ≠ 3 * n + 2 ∧ (d = 0 → L (3 * n + 2) = false)) :
    MJ w0 T n (fun k => Nat.beq k i || L k) (a.put (.some d) v) w := by
  have hs : d < a.tmps.size := by rw [h.size]; exact hd
  refine ⟨h.nodef, by show (a.tmps.setIfInBounds d _).size = _; rw [Array.size_setIfInBounds, h.size], h.kept, fun j hj hl => ?_, fun j hj hl => ?_, fun hl => ?_, fun hl => ?_⟩
  · rcases hk j hj with ⟨rfl, rfl, rfl⟩ | ⟨h1, h2⟩
    · exact getD_set_same' hs
    · rw [L_ne (Ne.symm h1)] at hl
      by_cases e : d = 2 * j + 2
      · rw [h2 e] at hl; cases hl
      · exact (getD_set_ne' (by omega)).trans (h.key j hj hl)
  · rcases hv j hj with ⟨rfl, rfl, rfl⟩ | ⟨h1, h2⟩
    · exact getD_set_same' hs
    · rw [L_ne (Ne.symm h1)] at hl
      by_cases e : d = 2 * j + 3
      · rw [h2 e] at hl; cases hl
      · exact (getD_set_ne' (by omega)).trans (h.val j hj hl)
  · rw [L_ne (Ne.symm hi0)] at hl
    obtain ⟨n1, n2, n3⟩ := h.none hl
    obtain ⟨m1, m2⟩ := hn0 hl
    exact ⟨fun j hj => (L_ne (Ne.symm (hi j hj))).trans (n1 j hj), (L_ne (Ne.symm m1)).trans n2, (L_ne (Ne.symm m2)).trans n3⟩
  · rw [L_ne (Ne.symm hi0)] at hl
    obtain ⟨m, es, ck, b1, b2, b3, b4, b5, b6, b7⟩ := h.some hl
    refine ⟨m, es, ck, (getD_set_ne' hd1).trans b1, b2, b3, fun e he => ?_, fun j hj hl' => ?_, fun hl' => ?_, fun hl' => ?_⟩
    · obtain ⟨j, j1, j2, j3⟩ := b4 e he
      exact ⟨j, j1, (L_ne (Ne.symm (hi j j1))).trans j2, j3⟩
    · rw [L_ne (Ne.symm (hi j hj))] at hl'
      exact b5 j hj hl'
    · rcases hm with ⟨rfl, rfl, rfl⟩ | ⟨h1, h2⟩
      · exact (getD_set_same' hs).trans b1
      · rw [L_ne (Ne.symm h1)] at hl'
        by_cases e : d = 2 * n + 2
        · rw [h2 e] at hl'; cases hl'
        · exact (getD_set_ne' (by omega)).trans (b6 hl')
    · rcases ha with ⟨rfl, rfl, rfl⟩ | ⟨h1, h2⟩
      · exact (getD_set_same' hs).trans b1
      · rw [L_ne (Ne.symm h1)] at hl'
        by_cases e : d = 0
        · rw [h2 e] at hl'; cases hl'
        · exact (getD_set_ne' (by omega)).trans (b7 hl')
theorem step_key (ho : MapOps ops M K V T n) (ht : MapTys M K V) (h : MJ w0 T n L a w) {j : Nat} (hj : j < n) (hL : L (3 * j + 1) = false) (hK : ∀ a' w', MJ w0 T n (fun k => Nat.beq k (3 * j + 1) || L k) a' w' → C a' w') : wpOp Try.prog ops Q (3 * j + 1) C a w := by
  obtain ⟨o, o1, o2, o3, o4⟩ := ho.key j hj
  refine wpOp_val o1 o4 (v := T.key j) (w' := w) ?_ (hK _ _ ?_)
  · unfold execOp; rw [o2]
    simp only [Sem.run_bind]
    rw [show (#[(0, Operand.const (.int .i64 (T.at j).1)), (1, Operand.const (.int .i64 (T.at j).2.1))].map fun p : Nat × Operand => (p.1, a.eval p.2)) = #[(0, .int .i64 (T.at j).1), (1, .int .i64 (T.at j).2.1)] from by simp [Act.eval], ht.k w]
    rfl
  · rw [o3]
    refine h.putk (by omega) (by omega) (by omega) (fun k _ => by omega) (fun _ => by omega) (fun k hk => ?_) (fun k hk => ?_) (by omega) (by omega)
    · by_cases e : k = j
      · subst e; exact .inl ⟨rfl, rfl, rfl⟩
      · exact .inr ⟨by omega, fun hd => absurd hd (by omega)⟩
    · exact .inr ⟨by omega, fun hd => absurd hd (by omega)⟩
theorem step_val (ho : MapOps ops M K V T n) (ht : MapTys M K V) (h : MJ w0 T n L a w) {j : Nat} (hj : j < n) (hL : L (3 * j + 2) = false) (hK : ∀ a' w', MJ w0 T n (fun k => Nat.beq k (3 * j + 2) || L k) a' w' → C a' w') : wpOp Try.prog ops Q (3 * j + 2) C a w := by
  obtain ⟨o, o1, o2, o3, o4⟩ := ho.val j hj
  refine wpOp_val o1 o4 (v := T.val j) (w' := w) ?_ (hK _ _ ?_)
  · unfold execOp; rw [o2]
    simp only [Sem.run_bind]
    rw [show (#[(0, Operand.const (.int .i64 (T.at j).2.2.1)), (1, Operand.const (.int .i64 (T.at j).2.2.2.1)), (2, Operand.const (.int .i64 (T.at j).2.2.2.2))].map fun p : Nat × Operand => (p.1, a.eval p.2)) = #[(0, .int .i64 (T.at j).2.2.1), (1, .int .i64 (T.at j).2.2.2.1), (2, .int .i64 (T.at j).2.2.2.2)] from by simp [Act.eval], ht.v w]
    rfl
  · rw [o3]
    refine h.putk (by omega) (by omega) (by omega) (fun k _ => by omega) (fun _ => by omega) (fun k hk => ?_) (fun k hk => ?_) (by omega) (by omega)
    · exact .inr ⟨by omega, fun hd => absurd hd (by omega)⟩
    · by_cases e : k = j
      · subst e; exact .inl ⟨rfl, rfl, rfl⟩
      · exact .inr ⟨by omega, fun hd => absurd hd (by omega)⟩
theorem step_mv (ho : MapOps ops M K V T n) (h : MJ w0 T n L a w) (hL : L (3 * n + 1) = false) (hL0 : L 0 = true) (hK : ∀ a' w', MJ w0 T n (fun k => Nat.beq k (3 * n + 1) || L k) a' w' → C a' w') : wpOp Try.prog ops Q (3 * n + 1) C a w := by
  obtain ⟨o, o1, o2, o3, o4, _⟩ := ho.mv
  refine wpOp_val o1 o4 (v := a.tmps.getD 1 undef) (w' := w) (by unfold execOp; rw [o2]; rfl) (hK _ _ ?_)
  rw [o3]
  exact h.putk (by omega) (by omega) (by omega) (fun k _ => by omega) (fun hl => by rw [hL0] at hl; cases hl) (fun k hk => .inr ⟨by omega, fun hd => absurd hd (by omega)⟩) (fun k hk => .inr ⟨by omega, fun hd => absurd hd (by omega)⟩)
    (.inl ⟨rfl, rfl, rfl⟩) (.inr ⟨by omega, fun hd => absurd hd (by omega)⟩)
theorem step_asg (ho : MapOps ops M K V T n) (h : MJ w0 T n L a w) (hL : L (3 * n + 2) = false) (hL0 : L 0 = true) (hL1 : L (3 * n + 1) = true) (hK : ∀ a' w', MJ w0 T n (fun k => Nat.beq k (3 * n + 2) || L k) a' w' → C a' w') : wpOp Try.prog ops Q (3 * n + 2) C a w := by
  obtain ⟨o, o1, o2, o3, o4, _⟩ := ho.asg
  obtain ⟨m, es, ck, b1, _, _, _, _, b6, _⟩ := h.some hL0
  refine wpOp_val o1 o4 (v := a.tmps.getD 1 undef) (w' := w) (by unfold execOp; rw [o2]; show Result.ok (Next.value (a.tmps.getD (2 * n + 2) undef)) w = _; rw [b6 hL1, b1]) (hK _ _ ?_)
  rw [o3]
  exact h.putk (by omega) (by omega) (by omega) (fun k _ => by omega) (fun hl => by rw [hL0] at hl; cases hl) (fun k hk => .inr ⟨by omega, fun hd => absurd hd (by omega)⟩) (fun k hk => .inr ⟨by omega, fun hd => absurd hd (by omega)⟩)
    (.inr ⟨by omega, fun hd => absurd hd (by omega)⟩) (.inl ⟨rfl, rfl, rfl⟩)
theorem Kept.block_set {w0 w : World} (h : Kept w0 w) {m : Nat} (hm : w0.heap.size ≤ m) (o : Obj) : Kept w0 { w with heap := w.heap.setIfInBounds m o } :=
  ⟨h.os, h.tape, h.output, by show w0.heap.size ≤ (w.heap.setIfInBounds m o).size; rw [Array.size_setIfInBounds]; exact h.size, fun k hk => by
    show (w.heap.setIfInBounds m o)[k]? = _
    rw [Array.getElem?_setIfInBounds_ne (by omega)]
    exact h.block k hk⟩
theorem step_ins (ho : MapOps ops M K V T n) (ht : MapTys M K V) (hT : T.one = true) (hTn : T.l.length = n) (h : MJ w0 T n L a w) {j : Nat} (hj : j < n) (hL : L (3 * j + 3) = false) (hL0 : L 0 = true) (hL1 : L (3 * j + 1) = true) (hL2 : L (3 * j + 2) = true)
    (hK : ∀ a' w', MJ w0 T n (fun k => Nat.beq k (3 * j + 3) || L k) a' w' → C a' w') : wpOp Try.prog ops Q (3 * j + 3) C a w := by
  obtain ⟨o, o1, o2, o3, o4, _⟩ := ho.ins j hj
  obtain ⟨m, es, ck, b1, b2, b3, b4, b5, b6, b7⟩ := h.some hL0
  have hk := h.key j hj hL1
  have hv := h.val j hj hL2
  obtain ⟨E, hu, _⟩ := ht.m.u
  obtain ⟨q, q1, q2, q3⟩ := run_findKey ht.m.k w (T.at j).1 (T.at j).2.1 es.toList fun e he => by
    obtain ⟨i, i1, i2, i3, i4⟩ := b4 e he
    exact ⟨_, _, i3⟩
  have hq : q = none := by
    cases q with
    | none => rfl
    | some jv =>
      obtain ⟨i, v⟩ := jv
      obtain ⟨e, he, hk2, _⟩ := q2 i v rfl
      obtain ⟨i', i1, i2, i3, _⟩ := b4 e he
      have hne : i' ≠ j := by rintro rfl; rw [hL] at i2; cases i2
      exact absurd (i3.symm.trans hk2) (Tab.one_spec hT (by omega) (by omega) hne)
  subst hq
  refine wpOp_skip o1 o4 (w' := { w with heap := w.heap.setIfInBounds m (.map (es.push { key := T.key j, val := T.val j, born := ck }) (ck + 1)) }) ?_ (hK _ _ ?_)
  · unfold execOp; rw [o2]
    have e1 : a.eval (.tmp 1) = .map (some m) := b1
    have e2 : a.eval (.tmp (2 * j + 2)) = agp (T.at j).1 (T.at j).2.1 := hk
    have e3 : a.eval (.tmp (2 * j + 3)) = T.val j := hv
    simp only [Sem.run_bind, e1, e2, e3]
    simp [Instr.mapUpdate, run_underlying hu, MapKept.run_getObj_map b3, run_checkKey ht.m.k, q1, MapKept.run_setObj_map _ b3, Tab.key]
  · rw [o3]
    have hset := MapKept.heap_set b3 (o' := .map (es.push { key := T.key j, val := T.val j, born := ck }) (ck + 1))
    refine ⟨h.nodef, h.size, Kept.block_set h.kept b2 _, fun k hk' hl => ?_, fun k hk' hl => ?_, fun hl => ?_, fun _ => ?_⟩
    · rw [L_ne (by omega)] at hl; exact h.key k hk' hl
    · rw [L_ne (by omega)] at hl; exact h.val k hk' hl
    · rw [L_ne (by omega), hL0] at hl; cases hl
    · refine ⟨m, _, _, b1, b2, hset.1, fun e he => ?_, fun k hk' hl => ?_, fun hl => ?_, fun hl => ?_⟩
      · rw [Array.toList_push, List.mem_append, List.mem_singleton] at he
        rcases he with he | rfl
        · obtain ⟨i, i1, i2, i3⟩ := b4 e he
          exact ⟨i, i1, by rw [i2, Bool.or_true], i3⟩
        · exact ⟨j, hj, L_same, rfl, rfl⟩
      · by_cases e : k = j
        · subst e
          exact ⟨_, by rw [Array.toList_push, List.mem_append, List.mem_singleton]; exact .inr rfl, rfl⟩
        · rw [L_ne (by omega)] at hl
          obtain ⟨x, x1, x2⟩ := b5 k hk' hl
          exact ⟨x, by rw [Array.toList_push, List.mem_append]; exact .inl x1, x2⟩
      · rw [L_ne (by omega)] at hl; exact b6 hl
      · rw [L_ne (by omega)] at hl; exact b7 hl
end
theorem awp_map {N id : Nat} {ops : Array Oper} {M K V : TypeId} {T : Tab} {n : Nat} {Q : Exit → St → Prop} {s : St} (ho : MapOps ops M K V T n) (ht : MapTys M K V) (hT : T.one = true) (hTn : T.l.length = n) (hN : N = 2 * n + 3) (hm : Try.prog.follows .mixedOrders = true)
    (hQ : Q .normal ⟨put (fun _ => none) 0 (some (.mp T.map)), s.heap, s.used⟩) : AWP Try.prog N (.region id ops true) Q s := by
  refine ⟨fun W β w a hs => wp_region_any hm ?_⟩
  have hl : left ops (Array.replicate ops.size false) = List.range ops.size := by
    unfold left
    refine List.filter_eq_self.2 fun i hi => ?_
    have := List.mem_range.1 hi
    simp [this]
  have hno : ∀ k, (Array.replicate ops.size false).getD k false = false := by
    intro k
    rw [Array.getD_eq_getD_getElem?, Array.getElem?_replicate]
    split <;> rfl
  refine any_inv (MJ w T n) ho.back (fun L a' w' i o hj hoi hL he C hK => ?_) (fun L a' w' hL hj => ?_) ops.size _ a _ (by simp) (by rw [hl]; simp) ?_
  · have hi : i < 3 * n + 3 := by rw [← ho.size]; exact (Array.getElem?_eq_some_iff.1 hoi).1
    by_cases h0 : i = 0
    · subst h0; exact step_make ho hj hL hK
    by_cases h1 : i = 3 * n + 1
    · subst h1
      obtain ⟨o', p1, _, _, _, e, p2, p3, p4⟩ := ho.mv
      rw [hoi] at p1; cases p1
      exact step_mv ho hj hL (by rw [← p4]; exact he e p2 p3) hK
    by_cases h2 : i = 3 * n + 2
    · subst h2
      obtain ⟨o', p1, _, _, _, e, p2, p3, p4⟩ := ho.asg
      rw [hoi] at p1; cases p1
      have hL1 : L (3 * n + 1) = true := by rw [← p4]; exact he e p2 p3
      have hL0 : L 0 = true := by
        cases hx : L 0 with
        | true => rfl
        | false => rw [(hj.none hx).2.1] at hL1; cases hL1
      exact step_asg ho hj hL hL0 hL1 hK
    obtain ⟨j, hj', e⟩ : ∃ j, j < n ∧ (i = 3 * j + 1 ∨ i = 3 * j + 2 ∨ i = 3 * j + 3) := ⟨(i - 1) / 3, by omega, by omega⟩
    rcases e with rfl | rfl | rfl
    · exact step_key ho ht hj hj' hL hK
    · exact step_val ho ht hj hj' hL hK
    · obtain ⟨o', p1, _, _, _, ⟨e0, a1, a2, a3⟩, ⟨e1, b1, b2, b3⟩, ⟨e2, c1, c2, c3⟩⟩ := ho.ins j hj'
      rw [hoi] at p1; cases p1
      exact step_ins ho ht hT hTn hj hj' hL (by rw [← a3]; exact he e0 a1 a2) (by rw [← b3]; exact he e1 b1 b2) (by rw [← c3]; exact he e2 c1 c2) hK
  · rw [ho.size] at hL
    obtain ⟨m, es, ck, b1, b2, b3, b4, b5, b6, b7⟩ := hj.some (hL 0 (by omega))
    have hs' := hs.later hj.kept
    refine ⟨β, ⟨put (fun _ => none) 0 (some (.mp T.map)), s.heap, s.used⟩, ⟨hs'.kept, hj.nodef, hj.size.trans hN.symm, fun t x hx => ?_, hs'.heap, hs'.live, hs'.inj, hs'.fix, hs'.pin, hs'.fixd, hs'.keep⟩, hQ⟩
    by_cases e : t = 0
    · subst e
      have hx : put (fun _ => none) 0 (some (AV.mp T.map)) 0 = some x := hx
      rw [put_same] at hx
      cases hx
      refine ⟨trivial, m, es, ck, b7 (hL _ (by omega)), ⟨fun hlt => absurd (Nat.lt_of_lt_of_le hlt hs.fix.size) (by omega), fun hown => by have := (own_lt hs hown).2; omega⟩, b3, fun e he => ?_, fun a b p hp => ?_⟩
      · obtain ⟨j, j1, j2, j3, j4⟩ := b4 e he
        exact ⟨_, _, _, _, _, j3, j4, Tab.map_at hT (by omega)⟩
      · obtain ⟨j, j1, j2⟩ := Tab.map_key hp
        obtain ⟨e, he, hk⟩ := b5 j (by omega) (hL _ (by omega))
        exact ⟨e, he, by rw [hk, j2]⟩
    · have hx : put (fun _ => none) 0 (some (AV.mp T.map)) t = some x := hx
      rw [put_ne _ _ e] at hx; cases hx
  · refine ⟨hs.nodef, hs.size.trans hN, ⟨rfl, rfl, rfl, Nat.le_refl _, fun _ _ => rfl⟩, fun j _ h => ?_, fun j _ h => ?_, fun _ => ⟨fun j _ => hno _, hno _, hno _⟩, fun h => ?_⟩ <;> (rw [hno] at h; cases h)
end Go.Proofs.Ytddkocidfhaofaa.AM
/- Maps from whole numbers to functions. -/
namespace Go.Proofs.Ytddkocidfhaofaa.AM
open Go Go.RowKit Go.Proofs.Ytddkocidfhaofaa.PN Go.Proofs.Ytddkocidfhaofaa.V
set_option linter.unusedVariables false
set_option linter.unusedSimpArgs false
/-- Operations that write out a map of functions bound to one struct, one behind the other. -/
structure MfOps (ops : Array Oper) (M T : TypeId) (tab : List (Int × FuncId)) (n : Nat) : Prop where
  size : ops.size = 3 * n + 3
  make : ∃ o, ops[0]? = some o ∧ o.op = .makeMap M none ∧ o.dst = some 3 ∧ o.guard = none
  load : ∀ j, j < n → ∃ o, ops[3 * j + 1]? = some o ∧ o.op = .load T (.tmp 1) ∧ o.dst = some (2 * j + 4) ∧ o.guard = none
  func : ∀ j, j < n → ∃ o, ops[3 * j + 2]? = some o ∧ o.op = .makeFunc (.func (tab.getD j (0, 0)).2) #[.tmp (2 * j + 4)] #[] ∧ o.dst = some (2 * j + 5) ∧ o.guard = none
  ins : ∀ j, j < n → ∃ o, ops[3 * j + 3]? = some o ∧ o.op = .insert M (.tmp 3) (.const (.int .i64 (tab.getD j (0, 0)).1)) (.tmp (2 * j + 5)) ∧ o.dst = none ∧ o.guard = none
  mv : ∃ o, ops[3 * n + 1]? = some o ∧ o.op = .move (.tmp 3) ∧ o.dst = some (2 * n + 4) ∧ o.guard = none
  asg : ∃ o, ops[3 * n + 2]? = some o ∧ o.op = .assign (.tmp (2 * n + 4)) ∧ o.dst = some 2 ∧ o.guard = none
structure MfJ (w0 : World) (p u : Value) (tab : List (Int × FuncId)) (N j : Nat) (a : Act) (w : World) : Prop where
  nodef : a.defers = []
  size : a.tmps.size = N
  kept : Kept w0 w
  ptr : a.tmps.getD 1 undef = p
  mp : ∃ m es ck, a.tmps.getD 3 undef = .map (some m) ∧ w0.heap.size ≤ m ∧ w.heap[m]? = some (.map es ck) ∧
    (∀ e ∈ es.toList, ∃ i, i < j ∧ e.key = .int .i64 (tab.getD i (0, 0)).1 ∧ e.val = .func (.func (tab.getD i (0, 0)).2) #[u] #[]) ∧ ∀ i, i < j → ∃ e ∈ es.toList, e.key = .int .i64 (tab.getD i (0, 0)).1
section
variable {w0 : World} {p u : Value} {tab : List (Int × FuncId)} {n N : Nat} {ops : Array Oper} {M T E : TypeId} {Q : Exit → Act → World → Prop}
end
end Go.Proofs.Ytddkocidfhaofaa.AM
/- A row cut so that nothing can be laid behind it in place. -/
namespace Go.Proofs.Ytddkocidfhaofaa.AM
open Go Go.RowKit Go.Proofs.Ytddkocidfhaofaa.PN Go.Proofs.Ytddkocidfhaofaa.V
set_option linter.unusedVariables false
set_option linter.unusedSimpArgs false
section
variable {o : Oper} {s : St}
theorem ok_slice_full {x y y' : Operand} {fr : Bool} {n : Nat} {f : Nat → RA} {k k' : IntKind} (ho : o.op = .slice WT x none (some y) (some y')) (hx : avo s x = some (.row fr n f)) (hy : avo s y = some (.v (.int k (n : Int)))) (hy' : avo s y' = some (.v (.int k' (n : Int)))) :
    LOK Try.prog o s ⟨some (.rowx n f), [], []⟩ := by
  refine lok_val fun s2 hk W N β w a hs => ?_
  obtain ⟨_, A, c, e1, e2, e3, e4⟩ := hs.opd (x := x) (by rw [hk.avo (by rw [ho]; simp [Op.operands])]; exact hx)
  have ey : a.eval y = .int k (n : Int) := hs.opv (by rw [hk.avo (by rw [ho]; simp [Op.operands])]; exact hy)
  have ey' : a.eval y' = .int k' (n : Int) := hs.opv (by rw [hk.avo (by rw [ho]; simp [Op.operands])]; exact hy')
  obtain ⟨i', hi', hz'⟩ := rt_size
  have q5 : (n : Int) ≤ (c : Int) := by omega
  have hrun : (Instr.sliceAt WT (.slice A n c) none (some (.int k (n : Int))) (some (.int k' (n : Int)))).run Try.prog w = .ok (.slice (if n = 0 then A else A.map (·.add 0)) n n) w := by
    simp [Instr.sliceAt, Instr.slice, run_underlying wt_u, Instr.sliceBounds, Instr.sliceBound, asIntOf, sizeOf, typeInfo, hi', hz', q5]
    intro h; omega
  refine ⟨_, by unfold execOp; rw [ho]; simp only [Option.map_none, Option.map_some]; rw [e1, ey, ey']; simp only [Sem.run_bind, hrun]; rfl, fun z hz => ?_⟩
  cases hz
  refine ⟨trivial, ⟨_, rfl⟩, _, n, rfl, Nat.le_refl _, by omega, fun i hi => ?_⟩
  obtain ⟨b, off, q1, q2, q3, q4⟩ := e4 i hi
  refine ⟨b, off, ?_, q2, (fun e => by cases e), q4⟩
  rw [if_neg (by omega), q1, Option.map_some, add_at]; rfl
theorem ok_append_full {x y : Operand} {Y : AV} {g n m : Nat} {f f' : Nat → RA} {rd : List Nat} (ho : o.op = .call { callee := .builtin .append, args := #[x, y], argTypes := #[WT, WT] }) (hx : avo s x = some (.rowx n f)) (hy : avo s y = some Y)
    (hY : srcRat s Y = some (m, f', rd)) (hg : s.used g = false) (hgr : g ∉ rd) (hm : 0 < m) (hlen : n + m ≤ 1000000000) :
    LOK Try.prog o s ⟨some (.own g 0), [(g, some (1, fun _ => .rats (n + m) (glue n f f')))], rd⟩ := by
  refine lok_newfam none hg hgr (fun q hq => by cases hq) fun s2 hl W N β w a hs => ?_
  obtain ⟨i0, hi0, hz0, hz1, hz2⟩ := info_parts rt_info
  have hop : ∀ q, q = x ∨ q = y → q ∈ o.op.operands := fun q hq => by rw [ho]; simp [Op.operands, Call.operands]; exact hq
  have hx2 : avo s2 x = some (.rowx n f) := by rw [hl.avo (hop x (.inl rfl))]; exact hx
  have hy2 : avo s2 y = some Y := by rw [hl.avo (hop y (.inr rfl))]; exact hy
  obtain ⟨A, c, news, ey, hA, htr, hcell⟩ := src_rat hs hy2 hY (fun q hq => hl.heap q hq)
  obtain ⟨_, ⟨A0, ex⟩, A1, c1, ex1, _, _, e4⟩ := hs.opd hx2
  have e41 : A1 = A0 ∧ c1 = n := by rw [ex] at ex1; cases ex1; exact ⟨rfl, rfl⟩
  obtain ⟨rfl, rfl⟩ := e41
  -- the elder numbers' cells
  have hold : ∃ xs : List Value, Trips w f xs c1 ∧ ∀ p, A1 = some p → ∀ j u, xs[j]? = some u → w.cell? (p.add j) = some u := by
    cases A1 with
    | none =>
      have h0 : c1 = 0 := by
        cases c1 with
        | zero => rfl
        | succ k => obtain ⟨b, off, e, _⟩ := e4 0 (by omega); cases e
      subst h0
      exact ⟨[], ⟨rfl, fun i hi => absurd hi (Nat.not_lt_zero _)⟩, fun p e => by cases e⟩
    | some p =>
      refine ⟨(List.range (c1 * 3)).map (fun j => (w.cell? (p.add j)).getD undef), trips_of _ (fun i hi => ?_), fun q e j u hu => ?_⟩
      · obtain ⟨b, off, e, _, _, cs, sg, vn, vd, hr, h0, h1, h2, h3⟩ := e4 i hi
        cases e
        refine ⟨sg, vn, vd, ?_, ?_, ?_, h3⟩
        · rw [add_at, cell_of_row w b _ cs RT (0, 0) hr, h0]; rfl
        · rw [add_at, cell_of_row w b _ cs RT (0, 0) hr, ← Nat.add_assoc, h1]; rfl
        · rw [add_at, cell_of_row w b _ cs RT (0, 0) hr, ← Nat.add_assoc, h2]; rfl
      · cases e
        have hj : j < c1 * 3 := by
          rcases Nat.lt_or_ge j (c1 * 3) with hj | hj
          · exact hj
          · rw [List.getElem?_eq_none (by simpa using hj)] at hu; cases hu
        obtain ⟨b, off, e, _, _, cs, sg, vn, vd, hr, h0, h1, h2, h3⟩ := e4 (j / 3) (by omega)
        cases e
        rw [List.getElem?_map, List.getElem?_range hj] at hu
        have hu : (w.cell? ((⟨b, off, none⟩ : Addr).add j)).getD undef = u := by simpa using hu
        have hd : j = j / 3 * 3 + j % 3 := by omega
        have hlt : j % 3 < 3 := Nat.mod_lt _ (by decide)
        have hex : ∃ v, cs[off + j]? = some v := by
          rw [hd, ← Nat.add_assoc]
          generalize j % 3 = t at *
          match t, hlt with
          | 0, _ => exact ⟨_, h0⟩
          | 1, _ => exact ⟨_, h1⟩
          | 2, _ => exact ⟨_, h2⟩
        obtain ⟨v, hv'⟩ := hex
        rw [add_at, cell_of_row w b _ cs RT (0, 0) hr, hv'] at hu ⊢
        exact congrArg some hu
  obtain ⟨xs, htx, hxc⟩ := hold
  have hAs : ∃ q, A = some q := by
    cases A with
    | none => have := hA rfl; omega
    | some q => exact ⟨q, rfl⟩
  obtain ⟨qa, rfl⟩ := hAs
  have happ : ∃ v' w', (Builtin.append_ #[WT, WT] o.type #[.slice A1 c1 c1, .slice (some qa) m c]).run Try.prog w = .ok v' w' ∧ w'.ownsRow W.w.heap.size RT 3 v' (c1 + m) (xs ++ news) ∧ w.grownBy w' none ∧ (∀ i, ub v' = some i → w.heap.size ≤ i) := by
    cases A1 with
    | none =>
      have h0 : c1 = 0 := by
        cases c1 with
        | zero => rfl
        | succ k => obtain ⟨b, off, e, _⟩ := e4 0 (by omega); cases e
      subst h0
      have hxs : xs = [] := List.eq_nil_of_length_eq_zero (by rw [htx.1])
      subst hxs
      obtain ⟨v', w', h2, h3, h4, h5⟩ := append_core (P := Try.prog) w W.w.heap.size WT o.type RT i0 _ 3 56 wt_u hi0 hz0 hz1 hz2 rfl (by decide) (.slice none 0 0) 0 [] (World.ownsRow_nil _ _ _ _) (some qa) m c news htr.1 hA hcell (trips_one htr) (by unfold maxLen; omega) (by omega) hs.kept.size
      refine ⟨v', w', h2, h3, h4, fun i hi => ?_⟩
      have hu : ub v' = v'.ownBlock := by
        rcases h3.2 with ⟨e, _⟩ | ⟨_, _, _, e, _⟩ <;> (rw [e]; exact ub_slice)
      rw [hu] at hi
      rcases h5 with h5 | h5
      · rw [h5] at hi; cases hi
      · rw [h5] at hi; cases hi; exact Nat.le_refl _
    | some b =>
      obtain ⟨v', w', h2, h3, h4⟩ := run_append_arg_grows (P := Try.prog) (w := w) WT o.type RT i0 _ 3 56 wt_u hi0 hz0 hz1 hz2 rfl (by decide) b c1 c1 xs htx.1 (hxc b rfl) qa m c news htr.1 (hcell qa rfl) (by omega) (by unfold maxLen; omega) (by omega)
      refine ⟨v', w', h2, ⟨h3.1, ?_⟩, h4, fun i hi => ?_⟩
      · rcases h3.2 with h | ⟨k, cap, cur, h⟩
        · exact .inl h
        · exact .inr ⟨k, cap, cur, h.1, Nat.le_trans hs.kept.size h.2.1, h.2.2⟩
      · rcases h3.2 with ⟨e, _⟩ | ⟨k, cap, cur, e, hge, _⟩
        · rw [e] at hi; cases hi
        · rw [e] at hi; cases hi; exact hge
  obtain ⟨v', w', hrun, hown', hgrow, hwhere⟩ := happ
  have hext := ext_grown hgrow (fun k hk => by cases hk)
  have hv' : ∃ A' n' c', v' = .slice A' n' c' := by
    rcases hown'.2 with ⟨e, _⟩ | ⟨_, _, _, e, _⟩ <;> exact ⟨_, _, _, e⟩
  obtain ⟨A', n', c', ev'⟩ := hv'
  refine ⟨v', w', _, ?_, Below.grown hs.kept hgrow hs.kept.size (fun k hk => by cases hk), hext, fun i hi => (by cases hi), fun i hi => .inl (hwhere i hi), fun S' β' hf => ⟨trivial, ?_⟩, .own ev'⟩
  · unfold execOp; rw [ho]; simp only [resolve, List.map_toArray, List.map_cons, List.map_nil]; rw [ex, ey]
    simp only [Sem.run_bind, Sem.run_pure, Result.andThen_ok, invoke, builtin, hrun]
  · rcases hown'.2 with ⟨e, h0⟩ | ⟨k, cap, cur, e, hB, hrow, h1, h2, h3, h4⟩
    · exact .inl ⟨e, h0⟩
    · refine .inr ⟨k, cur, hB, hrow, .inr ⟨cap, e, h1, h2, h3⟩, fun i hi => ?_⟩
      have hget : ∀ j, j < (c1 + m) * 3 → cur[j]? = (xs ++ news)[j]? := fun j hj => by rw [← h4, List.getElem?_take_of_lt hj, Array.getElem?_toList]
      unfold glue
      by_cases hin : i < c1
      · rw [if_pos hin]
        obtain ⟨sg, vn, vd, a0, a1, a2, a3⟩ := htx.2 i hin
        have key : ∀ t, t < 3 → cur[i * 3 + t]? = xs[i * 3 + t]? := fun t ht => by rw [hget _ (by omega), List.getElem?_append_left (by rw [htx.1]; omega)]
        exact ⟨sg, vn, vd, (key 0 (by omega)).trans a0, (key 1 (by omega)).trans a1, (key 2 (by omega)).trans a2, r3_ext a3 hf.ext⟩
      · rw [if_neg hin]
        obtain ⟨sg, vn, vd, a0, a1, a2, a3⟩ := htr.2 (i - c1) (by omega)
        have key : ∀ t, t < 3 → cur[i * 3 + t]? = news[(i - c1) * 3 + t]? := fun t ht => by
          rw [hget _ (by omega), List.getElem?_append_right (by rw [htx.1]; omega), htx.1]
          rw [show i * 3 + t - c1 * 3 = (i - c1) * 3 + t by omega]
        exact ⟨sg, vn, vd, (key 0 (by omega)).trans a0, (key 1 (by omega)).trans a1, (key 2 (by omega)).trans a2, r3_ext a3 hf.ext⟩
end
end Go.Proofs.Ytddkocidfhaofaa.AM
/- Slices that are made as long as they can be; what clears them; their ends. -/
namespace Go.Proofs.Ytddkocidfhaofaa.AM
open Go Go.RowKit Go.Proofs.Ytddkocidfhaofaa.PN Go.Proofs.Ytddkocidfhaofaa.V
set_option linter.unusedVariables false
set_option linter.unusedSimpArgs false
theorem Le.ownx {σ : Ren} {g r g' r' : Nat} (h : σ g' r' = (g, r)) : Le σ (.ownx g r) (.ownx g' r') := by
  intro S B β w v hv
  have e : ren σ β g' r' = β g r := by unfold ren; rw [h]
  exact ⟨by rw [e]; exact hv.1, hv.2⟩
section
variable {o : Oper} {s : St}
end
end Go.Proofs.Ytddkocidfhaofaa.AM
/- Strings: laid behind each other, compared. -/
namespace Go.Proofs.Ytddkocidfhaofaa.AM
open Go Go.RowKit Go.Proofs.Ytddkocidfhaofaa.PN Go.Proofs.Ytddkocidfhaofaa.V
set_option linter.unusedVariables false
set_option linter.unusedSimpArgs false
section
variable {o : Oper} {s : St}
theorem ok_addstr {x y : Operand} {T T' : TypeId} {a b : ByteArray} (ho : o.op = .binOp .add T x y T') (hx : avo s x = some (.v (.string a))) (hy : avo s y = some (.v (.string b))) (hn : a.size + b.size ≤ 1000000) : LOK Try.prog o s ⟨some (.v (.string (a ++ b))), [], []⟩ := by
  refine lok_val fun s2 hl W N β w ac hs => ⟨.string (a ++ b), ?_, fun z hz => by cases hz; exact ⟨trivial, rfl⟩⟩
  have h1 : ac.eval x = .string a := hs.opv (by rw [hl.avo (by rw [ho]; simp [Op.operands])]; exact hx)
  have h2 : ac.eval y = .string b := hs.opv (by rw [hl.avo (by rw [ho]; simp [Op.operands])]; exact hy)
  have hb := run_string_add_sum (P := Try.prog) w a b (by omega)
  unfold execOp; rw [ho]; simp only []; rw [h1, h2]
  simp [eqGuard, binOp, hb]
theorem ok_eqstr {x y : Operand} {T T' : TypeId} {a b : ByteArray} {r : Bool} (ho : o.op = .binOp .eql T x y T') (hx : avo s x = some (.v (.string a))) (hy : avo s y = some (.v (.string b))) (hr : (a.toList == b.toList) = r) : LOK Try.prog o s ⟨some (.v (.bool r)), [], []⟩ := by
  refine lok_val fun s2 hl W N β w ac hs => ⟨.bool r, ?_, fun z hz => by cases hz; exact ⟨trivial, rfl⟩⟩
  have h1 : ac.eval x = .string a := hs.opv (by rw [hl.avo (by rw [ho]; simp [Op.operands])]; exact hx)
  have h2 : ac.eval y = .string b := hs.opv (by rw [hl.avo (by rw [ho]; simp [Op.operands])]; exact hy)
  unfold execOp; rw [ho]; simp only []; rw [h1, h2]
  simp [eqGuard, binOp, Op.stringOp, hr]
end
end Go.Proofs.Ytddkocidfhaofaa.AM
/- Package rat: which of two is greater. -/
namespace Go.Proofs.Ytddkocidfhaofaa.AM
open Go Go.RowKit Go.Proofs.Ytddkocidfhaofaa.PN Go.Proofs.Ytddkocidfhaofaa.V
set_option linter.unusedVariables false
set_option linter.unusedSimpArgs false
set_option maxRecDepth 4000
/-- A number's sign. -/
def mkOf (p : Rat) : List AV := [.b (ng p), .b (decide (p = 0))]
theorem h_nmul {a b : Nat} (ha : size a ≤ 4398046511103) (hb : size b ≤ 4398046511103) : Has Try.prog 57 [.nat a, .nat b] (.nat (a * b)) := by
  refine ⟨by kernel_rfl, trivial, fun w S β vs hv => ?_⟩
  obtain ⟨v, u, rfl, h1, h2⟩ := rvs2 hv
  haveI : NatAt w v a := ⟨h1⟩
  haveI : NatAt w u b := ⟨h2⟩
  refine (mul_v ha hb).mono ?_
  rintro e w' ⟨v, rfl, h1, h2⟩
  exact ⟨_, rfl, h2, h1.any⟩
theorem h_ncmp {a b : Nat} (ha : size a ≤ 4398046511103) (hb : size b ≤ 4398046511103) : Has Try.prog 90 [.nat a, .nat b] (.i (cmpI a b)) := by
  refine ⟨by kernel_rfl, trivial, fun w S β vs hv => ?_⟩
  obtain ⟨v, u, rfl, h1, h2⟩ := rvs2 hv
  haveI : NatAt w v a := ⟨h1⟩
  haveI : NatAt w u b := ⟨h2⟩
  refine (cmp_v ha hb).mono ?_
  rintro e w' ⟨rfl, h2⟩
  exact ⟨_, rfl, h2, rfl⟩
theorem size_dec (p : Rat) : decide (((size (nm p) : Nat) : Int) = 0) = decide (p = 0) := by
  by_cases h : p = 0
  · subst h; rfl
  · have h1 : nm p ≠ 0 := fun e => h (nm_eq_zero.1 e)
    have := size_pos h1
    rw [decide_eq_false h, decide_eq_false (by omega)]
theorem ng_ne {p : Rat} (h : ng p = true) : p ≠ 0 := by rintro rfl; cases h
theorem h_of (p : Rat) : Has Try.prog 101 [.q p] (.ag 2 fun i => (mkOf p).getD i (.v undef)) := by
  refine has_of Try.func101 (by kernel_rfl) rfl Try.ntmps101 Try.results101 rfl rfl rfl ?_
  refine run0p ?_
  cases e : ng p with
  | true =>
    have g0 : (RA.q p).sgn = true := e
    have g1 : ((RA.q p).sgn == true) = true := by rw [g0]; rfl
    have e2 : decide (0 < ((size (nm p) : Nat) : Int)) = true := by
      have h1 : nm p ≠ 0 := fun e' => ng_ne e (nm_eq_zero.1 e')
      have := size_pos h1
      exact decide_eq_true (by omega)
    refine run0p ?_
    refine ⟨.inr rfl, _, Imp.refl _, .one (.agg rfl rfl rfl rfl (by decide) rfl ?_)⟩
    show AV.ag 2 (fun i => [AV.b (decide (0 < ((size (nm p) : Nat) : Int))), AV.b (decide (((size (nm p) : Nat) : Int) = 0))].getD i (.v undef)) = _
    rw [e2, size_dec]; unfold mkOf; rw [e]
  | false =>
    have g0 : (RA.q p).sgn = false := e
    have g1 : ((RA.q p).sgn == true) = false := by rw [g0]; rfl
    refine run0p ?_
    refine ⟨.inr rfl, _, Imp.refl _, .one (.agg rfl rfl rfl rfl (by decide) rfl ?_)⟩
    show AV.ag 2 (fun i => [AV.b false, AV.b (decide (((size (nm p) : Nat) : Int) = 0))].getD i (.v undef)) = _
    rw [size_dec]; unfold mkOf; rw [e]
theorem cmpI_zero {a b : Nat} : cmpI a b = 0 ↔ a = b := by
  unfold cmpI
  by_cases h1 : a < b
  · rw [if_pos h1]; omega
  · rw [if_neg h1]
    by_cases h2 : b < a
    · rw [if_pos h2]; omega
    · rw [if_neg h2]; omega
theorem cmpI_le (a b : Nat) : -1 ≤ cmpI a b ∧ cmpI a b ≤ 1 := by
  unfold cmpI
  split
  · omega
  · split <;> omega
theorem cross {p q : Rat} (h : ng p = ng q) : nm p * q.den = nm q * p.den ↔ p = q := by
  constructor
  · intro e
    have e' : p.num * (q.den : Int) = q.num * (p.den : Int) := by
      rw [← sg_self p, ← sg_self q, sg_mul_nat, sg_mul_nat, h, e]
    rw [← Rat.mkRat_self p, ← Rat.mkRat_self q]
    exact (Rat.mkRat_eq_iff p.den_nz q.den_nz).2 e'
  · rintro rfl; rfl
theorem h_cmp {p q : Rat} (hp : wt p ≤ 1000000000000) (hq : wt q ≤ 1000000000000) : ∃ c : Int, Has Try.prog 88 [.q p, .q q] (.i c) ∧ (c = 0 ↔ p = q) := by
  have b1 := wt_num p; have b2 := wt_den p; have b3 := wt_num q; have b4 := wt_den q
  have s1 := size_mul (nm p) q.den; have s2 := size_mul (nm q) p.den
  by_cases h1 : ng p = ng q ∧ decide (p = 0) = decide (q = 0)
  · have hm : (!((ng p == ng q) && (decide (p = 0) == decide (q = 0)))) = false := by
      rw [h1.1, h1.2]; simp
    have hc := cmpI_le (nm p * q.den) (nm q * p.den)
    cases e : ng p with
    | true =>
      refine ⟨0 - cmpI (nm p * q.den) (nm q * p.den), ?_, ?_⟩
      · refine has_of Try.func88 (by kernel_rfl) rfl Try.ntmps88 Try.results88 rfl rfl rfl ?_
        repeat(first|refine run1p ?_|((with_reducible apply st_call);exact rfl;exact rfl;exact rfl;first|(exact h_of _))|((with_reducible apply st_callg);exact rfl;exact rfl;(first|exact rfl|assumption);exact rfl;exact rfl;exact rfl;first|(exact h_of _)))
        refine awp_no rfl hm ?_
        repeat(first|refine run1p ?_|((with_reducible apply st_call);exact rfl;exact rfl;exact rfl;first|(exact h_nmul (by omega) (by omega))|(exact h_ncmp (by omega) (by omega)))|((with_reducible apply st_callg);exact rfl;exact rfl;(first|exact rfl|assumption);exact rfl;exact rfl;exact rfl;first|(exact h_nmul (by omega) (by omega))|(exact h_ncmp (by omega) (by omega))))
        refine awp_yes rfl e ?_
        refine run0p ?_
        exact ⟨.inr rfl, _, Imp.refl _, .one (.tmp rfl)⟩
      · rw [← cross h1.1, ← cmpI_zero]; omega
    | false =>
      refine ⟨cmpI (nm p * q.den) (nm q * p.den), ?_, ?_⟩
      · refine has_of Try.func88 (by kernel_rfl) rfl Try.ntmps88 Try.results88 rfl rfl rfl ?_
        repeat(first|refine run1p ?_|((with_reducible apply st_call);exact rfl;exact rfl;exact rfl;first|(exact h_of _))|((with_reducible apply st_callg);exact rfl;exact rfl;(first|exact rfl|assumption);exact rfl;exact rfl;exact rfl;first|(exact h_of _)))
        refine awp_no rfl hm ?_
        repeat(first|refine run1p ?_|((with_reducible apply st_call);exact rfl;exact rfl;exact rfl;first|(exact h_nmul (by omega) (by omega))|(exact h_ncmp (by omega) (by omega)))|((with_reducible apply st_callg);exact rfl;exact rfl;(first|exact rfl|assumption);exact rfl;exact rfl;exact rfl;first|(exact h_nmul (by omega) (by omega))|(exact h_ncmp (by omega) (by omega))))
        refine awp_no rfl e ?_
        refine run0p ?_
        exact ⟨.inr rfl, _, Imp.refl _, .one (.tmp rfl)⟩
      · rw [← cross h1.1, ← cmpI_zero]
  · have hm : (!((ng p == ng q) && (decide (p = 0) == decide (q = 0)))) = true := by
      rw [Bool.not_eq_true']
      cases h2 : ng p == ng q with
      | false => rfl
      | true =>
        rw [Bool.true_and]
        exact beq_eq_false_iff_ne.2 fun h3 => h1 ⟨eq_of_beq h2, h3⟩
    have hne : p ≠ q := by rintro rfl; exact h1 ⟨rfl, rfl⟩
    cases e : ng p with
    | true =>
      refine ⟨-1, ?_, by simp [hne]⟩
      refine has_of Try.func88 (by kernel_rfl) rfl Try.ntmps88 Try.results88 rfl rfl rfl ?_
      repeat(first|refine run1p ?_|((with_reducible apply st_call);exact rfl;exact rfl;exact rfl;first|(exact h_of _))|((with_reducible apply st_callg);exact rfl;exact rfl;(first|exact rfl|assumption);exact rfl;exact rfl;exact rfl;first|(exact h_of _)))
      refine awp_yes rfl hm ?_
      refine run0p ?_
      refine awp_yes rfl e ?_
      refine run0p ?_
      refine awp_yes rfl e ?_
      refine run0p ?_
      exact ⟨.inr rfl, _, Imp.refl _, .one (.tmp rfl)⟩
    | false =>
      cases z : decide (p = 0) with
      | false =>
        have z1 : (decide (p = 0) == true) = false := by rw [z]; rfl
        refine ⟨1, ?_, by simp [hne]⟩
        refine has_of Try.func88 (by kernel_rfl) rfl Try.ntmps88 Try.results88 rfl rfl rfl ?_
        repeat(first|refine run1p ?_|((with_reducible apply st_call);exact rfl;exact rfl;exact rfl;first|(exact h_of _))|((with_reducible apply st_callg);exact rfl;exact rfl;(first|exact rfl|assumption);exact rfl;exact rfl;exact rfl;first|(exact h_of _)))
        refine awp_yes rfl hm ?_
        refine run0p ?_
        refine awp_no rfl e ?_
        refine run0p ?_
        refine awp_no rfl rfl ?_
        refine run0p ?_
        exact ⟨.inr rfl, _, Imp.refl _, .one (.tmp rfl)⟩
      | true =>
        have z1 : (decide (p = 0) == true) = true := by rw [z]; rfl
        refine ⟨if (!ng q) = true then -1 else 1, ?_, by split <;> simp [hne]⟩
        refine has_of Try.func88 (by kernel_rfl) rfl Try.ntmps88 Try.results88 rfl rfl rfl ?_
        repeat(first|refine run1p ?_|((with_reducible apply st_call);exact rfl;exact rfl;exact rfl;first|(exact h_of _))|((with_reducible apply st_callg);exact rfl;exact rfl;(first|exact rfl|assumption);exact rfl;exact rfl;exact rfl;first|(exact h_of _)))
        refine awp_yes rfl hm ?_
        refine run0p ?_
        refine awp_no rfl e ?_
        refine run0p ?_
        cases u : (!ng q) with
        | true =>
          refine awp_yes rfl rfl ?_
          refine run0p ?_
          exact ⟨.inr rfl, _, Imp.refl _, .one (.tmp rfl)⟩
        | false =>
          refine awp_no rfl rfl ?_
          refine run0p ?_
          exact ⟨.inr rfl, _, Imp.refl _, .one (.tmp rfl)⟩
theorem h_same {p q : Rat} (hp : wt p ≤ 1000000000000) (hq : wt q ≤ 1000000000000) : Has Try.prog 72 [.q p, .q q] (.b (decide (p = q))) := by
  obtain ⟨c, hc, he⟩ := h_cmp hp hq
  rw [show decide (p = q) = decide (c = 0) from decide_eq_decide.2 he.symm]
  refine has_of Try.func72 (by kernel_rfl) rfl Try.ntmps72 Try.results72 rfl rfl rfl ?_
  repeat(first|refine run1p ?_|((with_reducible apply st_call);exact rfl;exact rfl;exact rfl;first|(exact hc))|((with_reducible apply st_callg);exact rfl;exact rfl;(first|exact rfl|assumption);exact rfl;exact rfl;exact rfl;first|(exact hc)))
  exact ⟨.inr rfl, _, Imp.refl _, .one (.tmp rfl)⟩
end Go.Proofs.Ytddkocidfhaofaa.AM
/- Package gen: the table of first counts. -/
namespace Go.Proofs.Ytddkocidfhaofaa.V
open Go Go.RowKit Go.Proofs.Ytddkocidfhaofaa.PN Go.Proofs.Ytddkocidfhaofaa.AM
set_option linter.unusedVariables false
set_option linter.unusedSimpArgs false
def cTab : Tab := ⟨[(1, 0, 2, 0, -1), (2, 0, 2, 0, -1), (3, 0, 1, 0, 0), (4, 0, 1, 0, 0), (5, 0, 1, 0, 0), (5, 1, 1, 0, 0), (6, 2, 0, 1, 0), (6, 3, 0, 1, 0), (7, 0, 1, 0, 0), (7, 1, 1, 0, 0), (7, 2, 0, 1, 0), (7, 3, 0, 1, 0)]⟩
def cmap (a b : Int) : Option (Int × Int × Int) := cTab.map a b
theorem key_ty : ∀ (a b : Int), Try.prog.built 98 [(0, .int .i64 a), (1, .int .i64 b)] = some #[.int .i64 a, .int .i64 b] := by intros; kernel_rfl
theorem val_ty : ∀ (a b c : Int), Try.prog.built 96 [(0, .int .i64 a), (1, .int .i64 b), (2, .int .i64 c)] = some #[.int .i64 a, .int .i64 b, .int .i64 c] := by intros; kernel_rfl
theorem c_tys : MapTys 94 98 96 :=
  ⟨mapK_ok (by rfl), fun w a b => run_build w _ _ _ (key_ty a b), fun w a b c => run_build w _ _ _ (val_ty a b c)⟩
theorem c_counts : Has Try.prog 67 [] (.mp cmap) := by
  refine has_of Try.func67 (by kernel_rfl) rfl Try.ntmps67 Try.results67 rfl rfl rfl ?_
  refine run2 ?_
  refine (awp_map (N := 27) (n := 12) (T := cTab) (M := 94) (K := 98) (V := 96) ?_ c_tys (by decide) rfl rfl rfl ?_)
  · refine ⟨rfl, ⟨_, rfl, rfl, rfl, rfl⟩, fun j hj => ?_, fun j hj => ?_, fun j hj => ?_, ?_, ?_, ?_⟩
    · match j, hj with
      | 0, _ | 1, _ | 2, _ | 3, _ | 4, _ | 5, _ | 6, _ | 7, _ | 8, _ | 9, _ | 10, _ | 11, _ => exact ⟨_, rfl, rfl, rfl, rfl⟩
    · match j, hj with
      | 0, _ | 1, _ | 2, _ | 3, _ | 4, _ | 5, _ | 6, _ | 7, _ | 8, _ | 9, _ | 10, _ | 11, _ => exact ⟨_, rfl, rfl, rfl, rfl⟩
    · match j, hj with
      | 0, _ | 1, _ | 2, _ | 3, _ | 4, _ | 5, _ | 6, _ | 7, _ | 8, _ | 9, _ | 10, _ | 11, _ => exact ⟨_, rfl, rfl, rfl, rfl, edge_of (by rfl), edge_of (by rfl), edge_of (by rfl)⟩
    · exact ⟨_, rfl, rfl, rfl, rfl, edge_of (by rfl)⟩
    · exact ⟨_, rfl, rfl, rfl, rfl, edge_of (by rfl)⟩
    · exact back_of (by rfl)
  · refine awp_ret ⟨.inr rfl, _, Imp.refl _, ?_⟩
    exact .one (.tmp rfl)
end Go.Proofs.Ytddkocidfhaofaa.V

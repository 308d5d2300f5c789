/- Joined texts, 17: AmCt SmA LawT GenA. -/
import Derived.Test.YtpclkgjhfhhddaaJLawGenChecks16
import Derived.Test.YtpclkgjhfhhddaaJLawGenChecks12
set_option linter.unusedVariables false
set_option linter.unusedSimpArgs false
/- A map that is written out, in whatever order. -/
namespace Go.Proofs.Ytpclkgjhfhhddaa.AM
open Go Go.RowKit Go.Proofs.Ytpclkgjhfhhddaa.PN Go.Proofs.Ytpclkgjhfhhddaa.V
set_option linter.unusedVariables false
set_option linter.unusedSimpArgs false
section
variable {P : Program} {ops : Array Oper} {Q : Exit → Act → World → Prop}
theorem ready_of_left {listed : Array Bool} (hz : listed.size = ops.size) (hback : ∀ i o, ops[i]? = some o → ∀ e ∈ o.after, Region.binds .any e = true → e.on < i) : ∀ i, i ∈ left ops listed → ∃ j, j ∈ Region.ready .any ops listed := by
  intro i
  induction i using Nat.strongRecOn with
  | _ i ih =>
    intro hi
    obtain ⟨hlt, h0⟩ := mem_left.1 hi
    have ho : ops[i]? = some ops[i] := Array.getElem?_eq_getElem hlt
    by_cases hall : ∀ e ∈ (ops[i]).after, Region.binds .any e = true → listed.getD e.on false = true
    · exact ⟨i, mem_ready.2 ⟨h0, _, ho, hall⟩⟩
    · simp only [Classical.not_forall] at hall
      obtain ⟨e, he, hb, hn⟩ := hall
      have hl := hback i _ ho e he hb
      refine ih e.on hl (mem_left.2 ⟨by omega, ?_⟩)
      rw [Array.getD_eq_getD_getElem?, Array.getElem?_eq_getElem (by omega)] at hn ⊢
      simpa using hn
/-- Whatever order is drawn: what each operation keeps holds at the end. -/
theorem any_inv (J : (Nat → Bool) → Act → World → Prop) (hback : ∀ i o, ops[i]? = some o → ∀ e ∈ o.after, Region.binds .any e = true → e.on < i)
    (hstep : ∀ L a w i o, J L a w → ops[i]? = some o → L i = false → (∀ e ∈ o.after, Region.binds .any e = true → L e.on = true) → ∀ K : Act → World → Prop, (∀ a' w', J (fun k => Nat.beq k i || L k) a' w' → K a' w') → wpOp P ops Q i K a w)
    (hend : ∀ L a w, (∀ i, i < ops.size → L i = true) → J L a w → Q .normal a w) :
    ∀ (fuel : Nat) (listed : Array Bool) (a : Act) (w : World), listed.size = ops.size → (left ops listed).length ≤ fuel → J (fun k => listed.getD k false) a w → wpAny P .any ops Q fuel listed a w := by
  have hfin : ∀ (listed : Array Bool) (a : Act) (w : World), listed.size = ops.size → left ops listed = [] → J (fun k => listed.getD k false) a w → Q .normal a w := by
    intro listed a w hz hl hj
    refine hend _ a w (fun i hi => ?_) hj
    cases hx : listed.getD i false with
    | true => rfl
    | false =>
      exfalso
      have : i ∈ left ops listed := mem_left.2 ⟨hi, by
        rw [Array.getD_eq_getD_getElem?, Array.getElem?_eq_getElem (by omega)] at hx ⊢
        exact hx⟩
      rw [hl] at this; cases this
  intro fuel
  induction fuel with
  | zero =>
    intro listed a w hz hf hj
    have hn : left ops listed = [] := List.eq_nil_of_length_eq_zero (by omega)
    refine ⟨?_, hfin listed a w hz hn hj⟩
    rw [List.eq_nil_iff_forall_not_mem]
    intro i hi
    obtain ⟨h0, o, ho, _⟩ := mem_ready.1 hi
    have := mem_left.2 ⟨(Array.getElem?_eq_some_iff.1 ho).1, h0⟩
    rw [hn] at this; cases this
  | succ fuel ih =>
    intro listed a w hz hf hj
    refine ⟨fun hr => ?_, fun i hi => ?_⟩
    · refine hfin listed a w hz ?_ hj
      cases hl : left ops listed with
      | nil => rfl
      | cons i l =>
        obtain ⟨j, hj'⟩ := ready_of_left hz hback i (by rw [hl]; exact List.mem_cons_self ..)
        rw [hr] at hj'; cases hj'
    · obtain ⟨h0, o, ho, hall⟩ := mem_ready.1 hi
      have hlt := (Array.getElem?_eq_some_iff.1 ho).1
      refine hstep _ a w i o hj ho ?_ hall _ (fun a' w' hj' => ?_)
      · rw [Array.getD_eq_getD_getElem?, Array.getElem?_eq_getElem (by omega)] at h0 ⊢
        exact h0
      · obtain ⟨l, l', e1, e2, _⟩ := left_parts (mem_left.2 ⟨hlt, h0⟩)
        refine ih _ a' w' (by rw [Array.size_setIfInBounds]; exact hz) (by rw [e2]; rw [e1] at hf; simp at hf ⊢; omega) ?_
        have e : (fun k => (listed.setIfInBounds i true).getD k false) = (fun k => Nat.beq k i || listed.getD k false) := by
          funext k
          by_cases hk : k = i
          · subst hk
            rw [Nat.beq_refl, Array.getD_eq_getD_getElem?, Array.getElem?_setIfInBounds_self_of_lt (by omega)]; rfl
          · have hb : Nat.beq k i = false := by
              cases h' : Nat.beq k i with
              | false => rfl
              | true => exact absurd (Nat.eq_of_beq_eq_true h') hk
            rw [hb, Array.getD_eq_getD_getElem?, Array.getElem?_setIfInBounds_ne (Ne.symm hk), Array.getD_eq_getD_getElem?]; rfl
        rw [e]
        exact hj'
theorem wpOp_val {i : Nat} {o : Oper} {a : Act} {w w' : World} {v : Value} {K : Act → World → Prop} (ho : ops[i]? = some o) (hg : o.guard = none) (hrun : (execOp a.eval o).run P w = .ok (.value v) w') (hK : K (a.put o.dst v) w') : wpOp P ops Q i K a w := by
  unfold wpOp
  rw [ho]
  simp only []
  rw [if_pos (by unfold Region.wanted; rw [hg])]
  left
  unfold Oper.wp
  rw [hrun]
  exact hK
theorem wpOp_skip {i : Nat} {o : Oper} {a : Act} {w w' : World} {K : Act → World → Prop} (ho : ops[i]? = some o) (hg : o.guard = none) (hrun : (execOp a.eval o).run P w = .ok .skip w') (hK : K (a.put o.dst undef) w') : wpOp P ops Q i K a w := by
  unfold wpOp
  rw [ho]
  simp only []
  rw [if_pos (by unfold Region.wanted; rw [hg])]
  left
  unfold Oper.wp
  rw [hrun]
  exact hK
end
/-! ### A table of twelve rows -/
abbrev ag3 (a b c : Int) : Value := .agg #[.int .i64 a, .int .i64 b, .int .i64 c]
structure Tab where
  l : List (Int × Int × Int × Int × Int)
def Tab.at (T : Tab) (j : Nat) : Int × Int × Int × Int × Int := T.l.getD j (0, 0, 0, 0, 0)
def Tab.key (T : Tab) (j : Nat) : Value := agp (T.at j).1 (T.at j).2.1
def Tab.val (T : Tab) (j : Nat) : Value := ag3 (T.at j).2.2.1 (T.at j).2.2.2.1 (T.at j).2.2.2.2
def Tab.map (T : Tab) (a b : Int) : Option (Int × Int × Int) := (T.l.find? fun e => a == e.1 && b == e.2.1).map fun e => (e.2.2.1, e.2.2.2.1, e.2.2.2.2)
/-- No key twice. -/
def Tab.one (T : Tab) : Bool := (List.range T.l.length).all fun j => (List.range j).all fun k => !((T.at j).1 == (T.at k).1 && (T.at j).2.1 == (T.at k).2.1)
theorem Tab.one_spec {T : Tab} (h : T.one = true) {j k : Nat} (hj : j < T.l.length) (hk : k < T.l.length) (hne : j ≠ k) : T.key j ≠ T.key k := by
  have key : ∀ j k, j < T.l.length → k < j → T.key j ≠ T.key k := by
    intro j k hj hk he
    have h1 := List.all_eq_true.1 (List.all_eq_true.1 h j (List.mem_range.2 hj)) k (List.mem_range.2 hk)
    simp only [Tab.key, Value.agg.injEq, Array.mk.injEq, List.cons.injEq, Value.int.injEq, and_true, true_and] at he
    rw [he.1, he.2] at h1
    simp at h1
  rcases Nat.lt_or_gt_of_ne hne with h' | h'
  · exact fun e => key k j hk h' e.symm
  · exact key j k hj h'
theorem Tab.map_at {T : Tab} (h : T.one = true) {j : Nat} (hj : j < T.l.length) : T.map (T.at j).1 (T.at j).2.1 = some ((T.at j).2.2.1, (T.at j).2.2.2.1, (T.at j).2.2.2.2) := by
  have hm : ∀ k, (hk : k < T.l.length) → T.at k = T.l[k] := fun k hk => by unfold Tab.at; rw [List.getD_eq_getElem?_getD, List.getElem?_eq_getElem hk]; rfl
  unfold Tab.map
  cases hf : T.l.find? (fun e => (T.at j).1 == e.1 && (T.at j).2.1 == e.2.1) with
  | none =>
    have := List.find?_eq_none.1 hf (T.at j) (by rw [hm j hj]; exact List.getElem_mem hj)
    simp at this
  | some e =>
    have h1 := List.find?_some hf
    obtain ⟨k, hk, he⟩ := List.mem_iff_getElem.1 (List.mem_of_find?_eq_some hf)
    rw [Bool.and_eq_true, beq_iff_eq, beq_iff_eq] at h1
    have : j = k := by
      by_cases e : j = k
      · exact e
      · refine absurd ?_ (Tab.one_spec h hj hk e)
        unfold Tab.key
        rw [h1.1, h1.2, hm k hk, he]
    subst this
    rw [← he, ← hm j hj]; rfl
theorem Tab.map_key {T : Tab} {a b : Int} {p : Int × Int × Int} (h : T.map a b = some p) : ∃ j, j < T.l.length ∧ T.key j = agp a b := by
  unfold Tab.map at h
  cases hf : T.l.find? (fun e => a == e.1 && b == e.2.1) with
  | none => rw [hf] at h; cases h
  | some e =>
    have h1 := List.find?_some hf
    obtain ⟨k, hk, he⟩ := List.mem_iff_getElem.1 (List.mem_of_find?_eq_some hf)
    rw [Bool.and_eq_true, beq_iff_eq, beq_iff_eq] at h1
    refine ⟨k, hk, ?_⟩
    unfold Tab.key Tab.at
    rw [List.getD_eq_getElem?_getD, List.getElem?_eq_getElem hk]
    show agp (T.l[k]).1 (T.l[k]).2.1 = _
    rw [he, ← h1.1, ← h1.2]
/-- What the operations are. -/
structure MapOps (ops : Array Oper) (M K V : TypeId) (T : Tab) (n : Nat) : Prop where
  size : ops.size = 3 * n + 3
  make : ∃ o, ops[0]? = some o ∧ o.op = .makeMap M none ∧ o.dst = some 1 ∧ o.guard = none
  key : ∀ j, j < n → ∃ o, ops[3 * j + 1]? = some o ∧ o.op = .build K #[(0, .const (.int .i64 (T.at j).1)), (1, .const (.int .i64 (T.at j).2.1))] ∧ o.dst = some (2 * j + 2) ∧ o.guard = none
  val : ∀ j, j < n → ∃ o, ops[3 * j + 2]? = some o ∧ o.op = .build V #[(0, .const (.int .i64 (T.at j).2.2.1)), (1, .const (.int .i64 (T.at j).2.2.2.1)), (2, .const (.int .i64 (T.at j).2.2.2.2))] ∧ o.dst = some (2 * j + 3) ∧ o.guard = none
  ins : ∀ j, j < n → ∃ o, ops[3 * j + 3]? = some o ∧ o.op = .insert M (.tmp 1) (.tmp (2 * j + 2)) (.tmp (2 * j + 3)) ∧ o.dst = none ∧ o.guard = none ∧
    (∃ e ∈ o.after, Region.binds .any e = true ∧ e.on = 0) ∧ (∃ e ∈ o.after, Region.binds .any e = true ∧ e.on = 3 * j + 1) ∧ (∃ e ∈ o.after, Region.binds .any e = true ∧ e.on = 3 * j + 2)
  mv : ∃ o, ops[3 * n + 1]? = some o ∧ o.op = .move (.tmp 1) ∧ o.dst = some (2 * n + 2) ∧ o.guard = none ∧ (∃ e ∈ o.after, Region.binds .any e = true ∧ e.on = 0)
  asg : ∃ o, ops[3 * n + 2]? = some o ∧ o.op = .assign (.tmp (2 * n + 2)) ∧ o.dst = some 0 ∧ o.guard = none ∧ (∃ e ∈ o.after, Region.binds .any e = true ∧ e.on = 3 * n + 1)
  back : ∀ i o, ops[i]? = some o → ∀ e ∈ o.after, Region.binds .any e = true → e.on < i
theorem edge_of {A : Array Edge} {k : Nat} (h : (A.toList.any fun e => Region.binds .any e && Nat.beq e.on k) = true) : ∃ e ∈ A, Region.binds .any e = true ∧ e.on = k := by
  obtain ⟨e, he, hb⟩ := List.any_eq_true.1 h
  rw [Bool.and_eq_true] at hb
  exact ⟨e, Array.mem_toList_iff.1 he, hb.1, Nat.eq_of_beq_eq_true hb.2⟩
def backB (ops : Array Oper) : Bool := (List.range ops.size).all fun i => match ops[i]? with
  | none => true
  | some o => o.after.toList.all fun e => !Region.binds .any e || Nat.blt e.on i
theorem back_of {ops : Array Oper} (h : backB ops = true) : ∀ i o, ops[i]? = some o → ∀ e ∈ o.after, Region.binds .any e = true → e.on < i := by
  intro i o ho e he hb
  have h1 := List.all_eq_true.1 h i (List.mem_range.2 (Array.getElem?_eq_some_iff.1 ho).1)
  rw [ho] at h1
  have h2 := List.all_eq_true.1 h1 e (Array.mem_toList_iff.2 he)
  rw [hb] at h2
  simpa using h2
structure MapTys (M K V : TypeId) : Prop where
  m : MapT M K
  k : ∀ (w : World) (a b : Int), (Instr.build K #[(0, .int .i64 a), (1, .int .i64 b)]).run Try.prog w = .ok (agp a b) w
  v : ∀ (w : World) (a b c : Int), (Instr.build V #[(0, .int .i64 a), (1, .int .i64 b), (2, .int .i64 c)]).run Try.prog w = .ok (ag3 a b c) w
/-- What holds when the operations of L have been done. -/
structure MJ (w0 : World) (T : Tab) (n : Nat) (L : Nat → Bool) (a : Act) (w : World) : Prop where
  nodef : a.defers = []
  size : a.tmps.size = 2 * n + 3
  kept : Kept w0 w
  key : ∀ j, j < n → L (3 * j + 1) = true → a.tmps.getD (2 * j + 2) undef = T.key j
  val : ∀ j, j < n → L (3 * j + 2) = true → a.tmps.getD (2 * j + 3) undef = T.val j
  none : L 0 = false → (∀ j, j < n → L (3 * j + 3) = false) ∧ L (3 * n + 1) = false ∧ L (3 * n + 2) = false
  some : L 0 = true → ∃ m es ck, a.tmps.getD 1 undef = .map (some m) ∧ w0.heap.size ≤ m ∧ w.heap[m]? = some (.map es ck) ∧
    (∀ e ∈ es.toList, ∃ j, j < n ∧ L (3 * j + 3) = true ∧ e.key = T.key j ∧ e.val = T.val j) ∧ (∀ j, j < n → L (3 * j + 3) = true → ∃ e ∈ es.toList, e.key = T.key j) ∧
    (L (3 * n + 1) = true → a.tmps.getD (2 * n + 2) undef = .map (some m)) ∧ (L (3 * n + 2) = true → a.tmps.getD 0 undef = .map (some m))
theorem L_ne {L : Nat → Bool} {k i : Nat} (h : k ≠ i) : (Nat.beq k i || L k) = L k := by
  have hb : Nat.beq k i = false := by
    cases h' : Nat.beq k i with
    | false => rfl
    | true => exact absurd (Nat.eq_of_beq_eq_true h') h
  rw [hb, Bool.false_or]
theorem L_same {L : Nat → Bool} {i : Nat} : (Nat.beq i i || L i) = true := by rw [Nat.beq_refl]; rfl
section
variable {w0 : World} {T : Tab} {n : Nat} {ops : Array Oper} {M K V : TypeId} {L : Nat → Bool} {a : Act} {w : World} {Q : Exit → Act → World → Prop} {C : Act → World → Prop}
theorem step_make (ho : MapOps ops M K V T n) (h : MJ w0 T n L a w) (hL : L 0 = false) (hK : ∀ a' w', MJ w0 T n (fun k => Nat.beq k 0 || L k) a' w' → C a' w') : wpOp Try.prog ops Q 0 C a w := by
  obtain ⟨o, o1, o2, o3, o4⟩ := ho.make
  refine wpOp_val o1 o4 (v := .map (some w.heap.size)) (w' := w.alloc (.map #[] 0)) (by unfold execOp; rw [o2]; rfl) (hK _ _ ?_)
  rw [o3]
  obtain ⟨n1, n2, n3⟩ := h.none hL
  refine ⟨h.nodef, by show (a.tmps.setIfInBounds 1 _).size = _; rw [Array.size_setIfInBounds, h.size], h.kept.then (Kept.alloc w _), fun j hj hl => ?_, fun j hj hl => ?_, fun hl => ?_, fun _ => ?_⟩
  · rw [L_ne (by omega)] at hl
    exact (getD_set_ne' (by omega)).trans (h.key j hj hl)
  · rw [L_ne (by omega)] at hl
    exact (getD_set_ne' (by omega)).trans (h.val j hj hl)
  · rw [L_same] at hl; cases hl
  · refine ⟨w.heap.size, #[], 0, getD_set_same' (by rw [h.size]; omega), h.kept.size, (MapKept.heap_alloc w _).1, fun e (he : e ∈ ([] : List MapEntry)) => (by cases he), fun j hj hl => ?_, fun hl => ?_, fun hl => ?_⟩
    · rw [L_ne (by omega), n1 j hj] at hl; cases hl
    · rw [L_ne (by omega), n2] at hl; cases hl
    · rw [L_ne (by omega), n3] at hl; cases hl
/-- A value is put into a slot of its own. -/
theorem MJ.putk (h : MJ w0 T n L a w) {i d : Nat} {v : Value} (hd : d < 2 * n + 3) (hd1 : d ≠ 1) (hi0 : i ≠ 0) (hi : ∀ j, j < n → i ≠ 3 * j + 3) (hn0 : L 0 = false → i ≠ 3 * n + 1 ∧ i ≠ 3 * n + 2)
    (hk : ∀ j, j < n → i = 3 * j + 1 ∧ d = 2 * j + 2 ∧ v = T.key j ∨ i ≠ 3 * j + 1 ∧ (d = 2 * j + 2 → L (3 * j + 1) = false))
    (hv : ∀ j, j < n → i = 3 * j + 2 ∧ d = 2 * j + 3 ∧ v = T.val j ∨ i ≠ 3 * j + 2 ∧ (d = 2 * j + 3 → L (3 * j + 2) = false))
    (hm : i = 3 * n + 1 ∧ d = 2 * n + 2 ∧ v = a.tmps.getD 1 undef ∨ i ≠ 3 * n + 1 ∧ (d = 2 * n + 2 → L (3 * n + 1) = false))
    (ha : i = 3 * n + 2 ∧ d = 0 ∧ v = a.tmps.getD 1 undef ∨ i ≠ 3 * n + 2 ∧ (d = 0 → L (3 * n + 2) = false)) :
    MJ w0 T n (fun k => Nat.beq k i || L k) (a.put (.some d) v) w := by
  have hs : d < a.tmps.size := by rw [h.size]; exact hd
  refine ⟨h.nodef, by show (a.tmps.setIfInBounds d _).size = _; rw [Array.size_setIfInBounds, h.size], h.kept, fun j hj hl => ?_, fun j hj hl => ?_, fun hl => ?_, fun hl => ?_⟩
  · rcases hk j hj with ⟨rfl, rfl, rfl⟩ | ⟨h1, h2⟩
    · exact getD_set_same' hs
    · rw [L_ne (Ne.symm h1)] at hl
      by_cases e : d = 2 * j + 2
      · rw [h2 e] at hl; cases hl
      · exact (getD_set_ne' (by omega)).trans (h.key j hj hl)
  · rcases hv j hj with ⟨rfl, rfl, rfl⟩ | ⟨h1, h2⟩
    · exact getD_set_same' hs
    · rw [L_ne (Ne.symm h1)] at hl
      by_cases e : d = 2 * j + 3
      · rw [h2 e] at hl; cases hl
      · exact (getD_set_ne' (by omega)).trans (h.val j hj hl)
  · rw [L_ne (Ne.symm hi0)] at hl
    obtain ⟨n1, n2, n3⟩ := h.none hl
    obtain ⟨m1, m2⟩ := hn0 hl
    exact ⟨fun j hj => (L_ne (Ne.symm (hi j hj))).trans (n1 j hj), (L_ne (Ne.symm m1)).trans n2, (L_ne (Ne.symm m2)).trans n3⟩
  · rw [L_ne (Ne.symm hi0)] at hl
    obtain ⟨m, es, ck, b1, b2, b3, b4, b5, b6, b7⟩ := h.some hl
    refine ⟨m, es, ck, (getD_set_ne' hd1).trans b1, b2, b3, fun e he => ?_, fun j hj hl' => ?_, fun hl' => ?_, fun hl' => ?_⟩
    · obtain ⟨j, j1, j2, j3⟩ := b4 e he
      exact ⟨j, j1, (L_ne (Ne.symm (hi j j1))).trans j2, j3⟩
    · rw [L_ne (Ne.symm (hi j hj))] at hl'
      exact b5 j hj hl'
    · rcases hm with ⟨rfl, rfl, rfl⟩ | ⟨h1, h2⟩
      · exact (getD_set_same' hs).trans b1
      · rw [L_ne (Ne.symm h1)] at hl'
        by_cases e : d = 2 * n + 2
        · rw [h2 e] at hl'; cases hl'
        · exact (getD_set_ne' (by omega)).trans (b6 hl')
    · rcases ha with ⟨rfl, rfl, rfl⟩ | ⟨h1, h2⟩
      · exact (getD_set_same' hs).trans b1
      · rw [L_ne (Ne.symm h1)] at hl'
        by_cases e : d = 0
        · rw [h2 e] at hl'; cases hl'
        · exact (getD_set_ne' (by omega)).trans (b7 hl')
theorem step_key (ho : MapOps ops M K V T n) (ht : MapTys M K V) (h : MJ w0 T n L a w) {j : Nat} (hj : j < n) (hL : L (3 * j + 1) = false) (hK : ∀ a' w', MJ w0 T n (fun k => Nat.beq k (3 * j + 1) || L k) a' w' → C a' w') : wpOp Try.prog ops Q (3 * j + 1) C a w := by
  obtain ⟨o, o1, o2, o3, o4⟩ := ho.key j hj
  refine wpOp_val o1 o4 (v := T.key j) (w' := w) ?_ (hK _ _ ?_)
  · unfold execOp; rw [o2]
    simp only [Sem.run_bind]
    rw [show (#[(0, Operand.const (.int .i64 (T.at j).1)), (1, Operand.const (.int .i64 (T.at j).2.1))].map fun p : Nat × Operand => (p.1, a.eval p.2)) = #[(0, .int .i64 (T.at j).1), (1, .int .i64 (T.at j).2.1)] from by simp [Act.eval], ht.k w]
    rfl
  · rw [o3]
    refine h.putk (by omega) (by omega) (by omega) (fun k _ => by omega) (fun _ => by omega) (fun k hk => ?_) (fun k hk => ?_) (by omega) (by omega)
    · by_cases e : k = j
      · subst e; exact .inl ⟨rfl, rfl, rfl⟩
      · exact .inr ⟨by omega, fun hd => absurd hd (by omega)⟩
    · exact .inr ⟨by omega, fun hd => absurd hd (by omega)⟩
theorem step_val (ho : MapOps ops M K V T n) (ht : MapTys M K V) (h : MJ w0 T n L a w) {j : Nat} (hj : j < n) (hL : L (3 * j + 2) = false) (hK : ∀ a' w', MJ w0 T n (fun k => Nat.beq k (3 * j + 2) || L k) a' w' → C a' w') : wpOp Try.prog ops Q (3 * j + 2) C a w := by
  obtain ⟨o, o1, o2, o3, o4⟩ := ho.val j hj
  refine wpOp_val o1 o4 (v := T.val j) (w' := w) ?_ (hK _ _ ?_)
  · unfold execOp; rw [o2]
    simp only [Sem.run_bind]
    rw [show (#[(0, Operand.const (.int .i64 (T.at j).2.2.1)), (1, Operand.const (.int .i64 (T.at j).2.2.2.1)), (2, Operand.const (.int .i64 (T.at j).2.2.2.2))].map fun p : Nat × Operand => (p.1, a.eval p.2)) = #[(0, .int .i64 (T.at j).2.2.1), (1, .int .i64 (T.at j).2.2.2.1), (2, .int .i64 (T.at j).2.2.2.2)] from by simp [Act.eval], ht.v w]
    rfl
  · rw [o3]
    refine h.putk (by omega) (by omega) (by omega) (fun k _ => by omega) (fun _ => by omega) (fun k hk => ?_) (fun k hk => ?_) (by omega) (by omega)
    · exact .inr ⟨by omega, fun hd => absurd hd (by omega)⟩
    · by_cases e : k = j
      · subst e; exact .inl ⟨rfl, rfl, rfl⟩
      · exact .inr ⟨by omega, fun hd => absurd hd (by omega)⟩
theorem step_mv (ho : MapOps ops M K V T n) (h : MJ w0 T n L a w) (hL : L (3 * n + 1) = false) (hL0 : L 0 = true) (hK : ∀ a' w', MJ w0 T n (fun k => Nat.beq k (3 * n + 1) || L k) a' w' → C a' w') : wpOp Try.prog ops Q (3 * n + 1) C a w := by
  obtain ⟨o, o1, o2, o3, o4, _⟩ := ho.mv
  refine wpOp_val o1 o4 (v := a.tmps.getD 1 undef) (w' := w) (by unfold execOp; rw [o2]; rfl) (hK _ _ ?_)
  rw [o3]
  exact h.putk (by omega) (by omega) (by omega) (fun k _ => by omega) (fun hl => by rw [hL0] at hl; cases hl) (fun k hk => .inr ⟨by omega, fun hd => absurd hd (by omega)⟩) (fun k hk => .inr ⟨by omega, fun hd => absurd hd (by omega)⟩)
    (.inl ⟨rfl, rfl, rfl⟩) (.inr ⟨by omega, fun hd => absurd hd (by omega)⟩)
theorem step_asg (ho : MapOps ops M K V T n) (h : MJ w0 T n L a w) (hL : L (3 * n + 2) = false) (hL0 : L 0 = true) (hL1 : L (3 * n + 1) = true) (hK : ∀ a' w', MJ w0 T n (fun k => Nat.beq k (3 * n + 2) || L k) a' w' → C a' w') : wpOp Try.prog ops Q (3 * n + 2) C a w := by
  obtain ⟨o, o1, o2, o3, o4, _⟩ := ho.asg
  obtain ⟨m, es, ck, b1, _, _, _, _, b6, _⟩ := h.some hL0
  refine wpOp_val o1 o4 (v := a.tmps.getD 1 undef) (w' := w) (by unfold execOp; rw [o2]; show Result.ok (Next.value (a.tmps.getD (2 * n + 2) undef)) w = _; rw [b6 hL1, b1]) (hK _ _ ?_)
  rw [o3]
  exact h.putk (by omega) (by omega) (by omega) (fun k _ => by omega) (fun hl => by rw [hL0] at hl; cases hl) (fun k hk => .inr ⟨by omega, fun hd => absurd hd (by omega)⟩) (fun k hk => .inr ⟨by omega, fun hd => absurd hd (by omega)⟩)
    (.inr ⟨by omega, fun hd => absurd hd (by omega)⟩) (.inl ⟨rfl, rfl, rfl⟩)
theorem Kept.block_set {w0 w : World} (h : Kept w0 w) {m : Nat} (hm : w0.heap.size ≤ m) (o : Obj) : Kept w0 { w with heap := w.heap.setIfInBounds m o } :=
  ⟨h.os, h.tape, h.output, by show w0.heap.size ≤ (w.heap.setIfInBounds m o).size; rw [Array.size_setIfInBounds]; exact h.size, fun k hk => by
    show (w.heap.setIfInBounds m o)[k]? = _
    rw [Array.getElem?_setIfInBounds_ne (by omega)]
    exact h.block k hk⟩
theorem step_ins (ho : MapOps ops M K V T n) (ht : MapTys M K V) (hT : T.one = true) (hTn : T.l.length = n) (h : MJ w0 T n L a w) {j : Nat} (hj : j < n) (hL : L (3 * j + 3) = false) (hL0 : L 0 = true) (hL1 : L (3 * j + 1) = true) (hL2 : L (3 * j + 2) = true)
    (hK : ∀ a' w', MJ w0 T n (fun k => Nat.beq k (3 * j + 3) || L k) a' w' → C a' w') : wpOp Try.prog ops Q (3 * j + 3) C a w := by
  obtain ⟨o, o1, o2, o3, o4, _⟩ := ho.ins j hj
  obtain ⟨m, es, ck, b1, b2, b3, b4, b5, b6, b7⟩ := h.some hL0
  have hk := h.key j hj hL1
  have hv := h.val j hj hL2
  obtain ⟨E, hu, _⟩ := ht.m.u
  obtain ⟨q, q1, q2, q3⟩ := run_findKey ht.m.k w (T.at j).1 (T.at j).2.1 es.toList fun e he => by
    obtain ⟨i, i1, i2, i3, i4⟩ := b4 e he
    exact ⟨_, _, i3⟩
  have hq : q = none := by
    cases q with
    | none => rfl
    | some jv =>
      obtain ⟨i, v⟩ := jv
      obtain ⟨e, he, hk2, _⟩ := q2 i v rfl
      obtain ⟨i', i1, i2, i3, _⟩ := b4 e he
      have hne : i' ≠ j := by rintro rfl; rw [hL] at i2; cases i2
      exact absurd (i3.symm.trans hk2) (Tab.one_spec hT (by omega) (by omega) hne)
  subst hq
  refine wpOp_skip o1 o4 (w' := { w with heap := w.heap.setIfInBounds m (.map (es.push { key := T.key j, val := T.val j, born := ck }) (ck + 1)) }) ?_ (hK _ _ ?_)
  · unfold execOp; rw [o2]
    have e1 : a.eval (.tmp 1) = .map (some m) := b1
    have e2 : a.eval (.tmp (2 * j + 2)) = agp (T.at j).1 (T.at j).2.1 := hk
    have e3 : a.eval (.tmp (2 * j + 3)) = T.val j := hv
    simp only [Sem.run_bind, e1, e2, e3]
    simp [Instr.mapUpdate, run_underlying hu, MapKept.run_getObj_map b3, run_checkKey ht.m.k, q1, MapKept.run_setObj_map _ b3, Tab.key]
  · rw [o3]
    have hset := MapKept.heap_set b3 (o' := .map (es.push { key := T.key j, val := T.val j, born := ck }) (ck + 1))
    refine ⟨h.nodef, h.size, Kept.block_set h.kept b2 _, fun k hk' hl => ?_, fun k hk' hl => ?_, fun hl => ?_, fun _ => ?_⟩
    · rw [L_ne (by omega)] at hl; exact h.key k hk' hl
    · rw [L_ne (by omega)] at hl; exact h.val k hk' hl
    · rw [L_ne (by omega), hL0] at hl; cases hl
    · refine ⟨m, _, _, b1, b2, hset.1, fun e he => ?_, fun k hk' hl => ?_, fun hl => ?_, fun hl => ?_⟩
      · rw [Array.toList_push, List.mem_append, List.mem_singleton] at he
        rcases he with he | rfl
        · obtain ⟨i, i1, i2, i3⟩ := b4 e he
          exact ⟨i, i1, by rw [i2, Bool.or_true], i3⟩
        · exact ⟨j, hj, L_same, rfl, rfl⟩
      · by_cases e : k = j
        · subst e
          exact ⟨_, by rw [Array.toList_push, List.mem_append, List.mem_singleton]; exact .inr rfl, rfl⟩
        · rw [L_ne (by omega)] at hl
          obtain ⟨x, x1, x2⟩ := b5 k hk' hl
          exact ⟨x, by rw [Array.toList_push, List.mem_append]; exact .inl x1, x2⟩
      · rw [L_ne (by omega)] at hl; exact b6 hl
      · rw [L_ne (by omega)] at hl; exact b7 hl
end
theorem awp_map {N id : Nat} {ops : Array Oper} {M K V : TypeId} {T : Tab} {n : Nat} {Q : Exit → St → Prop} {s : St} (ho : MapOps ops M K V T n) (ht : MapTys M K V) (hT : T.one = true) (hTn : T.l.length = n) (hN : N = 2 * n + 3) (hm : Try.prog.follows .mixedOrders = true)
    (hQ : Q .normal ⟨put (fun _ => none) 0 (some (.mp T.map)), s.heap, s.used⟩) : AWP Try.prog N (.region id ops true) Q s := by
  refine ⟨fun W β w a hs => wp_region_any hm ?_⟩
  have hl : left ops (Array.replicate ops.size false) = List.range ops.size := by
    unfold left
    refine List.filter_eq_self.2 fun i hi => ?_
    have := List.mem_range.1 hi
    simp [this]
  have hno : ∀ k, (Array.replicate ops.size false).getD k false = false := by
    intro k
    rw [Array.getD_eq_getD_getElem?, Array.getElem?_replicate]
    split <;> rfl
  refine any_inv (MJ w T n) ho.back (fun L a' w' i o hj hoi hL he C hK => ?_) (fun L a' w' hL hj => ?_) ops.size _ a _ (by simp) (by rw [hl]; simp) ?_
  · have hi : i < 3 * n + 3 := by rw [← ho.size]; exact (Array.getElem?_eq_some_iff.1 hoi).1
    by_cases h0 : i = 0
    · subst h0; exact step_make ho hj hL hK
    by_cases h1 : i = 3 * n + 1
    · subst h1
      obtain ⟨o', p1, _, _, _, e, p2, p3, p4⟩ := ho.mv
      rw [hoi] at p1; cases p1
      exact step_mv ho hj hL (by rw [← p4]; exact he e p2 p3) hK
    by_cases h2 : i = 3 * n + 2
    · subst h2
      obtain ⟨o', p1, _, _, _, e, p2, p3, p4⟩ := ho.asg
      rw [hoi] at p1; cases p1
      have hL1 : L (3 * n + 1) = true := by rw [← p4]; exact he e p2 p3
      have hL0 : L 0 = true := by
        cases hx : L 0 with
        | true => rfl
        | false => rw [(hj.none hx).2.1] at hL1; cases hL1
      exact step_asg ho hj hL hL0 hL1 hK
    obtain ⟨j, hj', e⟩ : ∃ j, j < n ∧ (i = 3 * j + 1 ∨ i = 3 * j + 2 ∨ i = 3 * j + 3) := ⟨(i - 1) / 3, by omega, by omega⟩
    rcases e with rfl | rfl | rfl
    · exact step_key ho ht hj hj' hL hK
    · exact step_val ho ht hj hj' hL hK
    · obtain ⟨o', p1, _, _, _, ⟨e0, a1, a2, a3⟩, ⟨e1, b1, b2, b3⟩, ⟨e2, c1, c2, c3⟩⟩ := ho.ins j hj'
      rw [hoi] at p1; cases p1
      exact step_ins ho ht hT hTn hj hj' hL (by rw [← a3]; exact he e0 a1 a2) (by rw [← b3]; exact he e1 b1 b2) (by rw [← c3]; exact he e2 c1 c2) hK
  · rw [ho.size] at hL
    obtain ⟨m, es, ck, b1, b2, b3, b4, b5, b6, b7⟩ := hj.some (hL 0 (by omega))
    have hs' := hs.later hj.kept
    refine ⟨β, ⟨put (fun _ => none) 0 (some (.mp T.map)), s.heap, s.used⟩, ⟨hs'.kept, hj.nodef, hj.size.trans hN.symm, fun t x hx => ?_, hs'.heap, hs'.live, hs'.inj, hs'.fix, hs'.pin, hs'.fixd, hs'.keep⟩, hQ⟩
    by_cases e : t = 0
    · subst e
      have hx : put (fun _ => none) 0 (some (AV.mp T.map)) 0 = some x := hx
      rw [put_same] at hx
      cases hx
      refine ⟨trivial, m, es, ck, b7 (hL _ (by omega)), ⟨fun hlt => absurd (Nat.lt_of_lt_of_le hlt hs.fix.size) (by omega), fun hown => by have := (own_lt hs hown).2; omega⟩, b3, fun e he => ?_, fun a b p hp => ?_⟩
      · obtain ⟨j, j1, j2, j3, j4⟩ := b4 e he
        exact ⟨_, _, _, _, _, j3, j4, Tab.map_at hT (by omega)⟩
      · obtain ⟨j, j1, j2⟩ := Tab.map_key hp
        obtain ⟨e, he, hk⟩ := b5 j (by omega) (hL _ (by omega))
        exact ⟨e, he, by rw [hk, j2]⟩
    · have hx : put (fun _ => none) 0 (some (AV.mp T.map)) t = some x := hx
      rw [put_ne _ _ e] at hx; cases hx
  · refine ⟨hs.nodef, hs.size.trans hN, ⟨rfl, rfl, rfl, Nat.le_refl _, fun _ _ => rfl⟩, fun j _ h => ?_, fun j _ h => ?_, fun _ => ⟨fun j _ => hno _, hno _, hno _⟩, fun h => ?_⟩ <;> (rw [hno] at h; cases h)
end Go.Proofs.Ytpclkgjhfhhddaa.AM
/- Package rat: which of two is greater. -/
namespace Go.Proofs.Ytpclkgjhfhhddaa.AM
open Go Go.RowKit Go.Proofs.Ytpclkgjhfhhddaa.PN Go.Proofs.Ytpclkgjhfhhddaa.V
set_option linter.unusedVariables false
set_option linter.unusedSimpArgs false
set_option maxRecDepth 4000
/-- A number's sign. -/
def mkOf (p : Rat) : List AV := [.b (ng p), .b (decide (p = 0))]
theorem h_nmul {a b : Nat} (ha : size a ≤ 4398046511103) (hb : size b ≤ 4398046511103) : Has Try.prog 100 [.nat a, .nat b] (.nat (a * b)) := by
  refine ⟨by kernel_rfl, trivial, fun w S β vs hv => ?_⟩
  obtain ⟨v, u, rfl, h1, h2⟩ := rvs2 hv
  haveI : NatAt w v a := ⟨h1⟩
  haveI : NatAt w u b := ⟨h2⟩
  refine (mul_v ha hb).mono ?_
  rintro e w' ⟨v, rfl, h1, h2⟩
  exact ⟨_, rfl, h2, h1.any⟩
theorem h_ncmp {a b : Nat} (ha : size a ≤ 4398046511103) (hb : size b ≤ 4398046511103) : Has Try.prog 96 [.nat a, .nat b] (.i (cmpI a b)) := by
  refine ⟨by kernel_rfl, trivial, fun w S β vs hv => ?_⟩
  obtain ⟨v, u, rfl, h1, h2⟩ := rvs2 hv
  haveI : NatAt w v a := ⟨h1⟩
  haveI : NatAt w u b := ⟨h2⟩
  refine (cmp_v ha hb).mono ?_
  rintro e w' ⟨rfl, h2⟩
  exact ⟨_, rfl, h2, rfl⟩
theorem size_dec (p : Rat) : decide (((size (nm p) : Nat) : Int) = 0) = decide (p = 0) := by
  by_cases h : p = 0
  · subst h; rfl
  · have h1 : nm p ≠ 0 := fun e => h (nm_eq_zero.1 e)
    have := size_pos h1
    rw [decide_eq_false h, decide_eq_false (by omega)]
theorem ng_ne {p : Rat} (h : ng p = true) : p ≠ 0 := by rintro rfl; cases h
theorem h_of (p : Rat) : Has Try.prog 99 [.q p] (.ag 2 fun i => (mkOf p).getD i (.v undef)) := by
  refine has_of Try.func99 (by kernel_rfl) rfl Try.ntmps99 Try.results99 rfl rfl rfl ?_
  refine run0p ?_
  cases e : ng p with
  | true =>
    have g0 : (RA.q p).sgn = true := e
    have g1 : ((RA.q p).sgn == true) = true := by rw [g0]; rfl
    have e2 : decide (0 < ((size (nm p) : Nat) : Int)) = true := by
      have h1 : nm p ≠ 0 := fun e' => ng_ne e (nm_eq_zero.1 e')
      have := size_pos h1
      exact decide_eq_true (by omega)
    refine run0p ?_
    refine ⟨.inr rfl, _, Imp.refl _, .one (.agg rfl rfl rfl rfl (by decide) rfl ?_)⟩
    show AV.ag 2 (fun i => [AV.b (decide (0 < ((size (nm p) : Nat) : Int))), AV.b (decide (((size (nm p) : Nat) : Int) = 0))].getD i (.v undef)) = _
    rw [e2, size_dec]; unfold mkOf; rw [e]
  | false =>
    have g0 : (RA.q p).sgn = false := e
    have g1 : ((RA.q p).sgn == true) = false := by rw [g0]; rfl
    refine run0p ?_
    refine ⟨.inr rfl, _, Imp.refl _, .one (.agg rfl rfl rfl rfl (by decide) rfl ?_)⟩
    show AV.ag 2 (fun i => [AV.b false, AV.b (decide (((size (nm p) : Nat) : Int) = 0))].getD i (.v undef)) = _
    rw [size_dec]; unfold mkOf; rw [e]
theorem cmpI_zero {a b : Nat} : cmpI a b = 0 ↔ a = b := by
  unfold cmpI
  by_cases h1 : a < b
  · rw [if_pos h1]; omega
  · rw [if_neg h1]
    by_cases h2 : b < a
    · rw [if_pos h2]; omega
    · rw [if_neg h2]; omega
theorem cmpI_le (a b : Nat) : -1 ≤ cmpI a b ∧ cmpI a b ≤ 1 := by
  unfold cmpI
  split
  · omega
  · split <;> omega
theorem cross {p q : Rat} (h : ng p = ng q) : nm p * q.den = nm q * p.den ↔ p = q := by
  constructor
  · intro e
    have e' : p.num * (q.den : Int) = q.num * (p.den : Int) := by
      rw [← sg_self p, ← sg_self q, sg_mul_nat, sg_mul_nat, h, e]
    rw [← Rat.mkRat_self p, ← Rat.mkRat_self q]
    exact (Rat.mkRat_eq_iff p.den_nz q.den_nz).2 e'
  · rintro rfl; rfl
theorem h_cmp {p q : Rat} (hp : wt p ≤ 1000000000000) (hq : wt q ≤ 1000000000000) : ∃ c : Int, Has Try.prog 80 [.q p, .q q] (.i c) ∧ (c = 0 ↔ p = q) := by
  have b1 := wt_num p; have b2 := wt_den p; have b3 := wt_num q; have b4 := wt_den q
  have s1 := size_mul (nm p) q.den; have s2 := size_mul (nm q) p.den
  by_cases h1 : ng p = ng q ∧ decide (p = 0) = decide (q = 0)
  · have hm : (!((ng p == ng q) && (decide (p = 0) == decide (q = 0)))) = false := by
      rw [h1.1, h1.2]; simp
    have hc := cmpI_le (nm p * q.den) (nm q * p.den)
    cases e : ng p with
    | true =>
      refine ⟨0 - cmpI (nm p * q.den) (nm q * p.den), ?_, ?_⟩
      · refine has_of Try.func80 (by kernel_rfl) rfl Try.ntmps80 Try.results80 rfl rfl rfl ?_
        repeat(first|refine run1p ?_|((with_reducible apply st_call);exact rfl;exact rfl;exact rfl;first|(exact h_of _))|((with_reducible apply st_callg);exact rfl;exact rfl;(first|exact rfl|assumption);exact rfl;exact rfl;exact rfl;first|(exact h_of _)))
        refine awp_no rfl hm ?_
        repeat(first|refine run1p ?_|((with_reducible apply st_call);exact rfl;exact rfl;exact rfl;first|(exact h_nmul (by omega) (by omega))|(exact h_ncmp (by omega) (by omega)))|((with_reducible apply st_callg);exact rfl;exact rfl;(first|exact rfl|assumption);exact rfl;exact rfl;exact rfl;first|(exact h_nmul (by omega) (by omega))|(exact h_ncmp (by omega) (by omega))))
        refine awp_yes rfl e ?_
        refine run0p ?_
        exact ⟨.inr rfl, _, Imp.refl _, .one (.tmp rfl)⟩
      · rw [← cross h1.1, ← cmpI_zero]; omega
    | false =>
      refine ⟨cmpI (nm p * q.den) (nm q * p.den), ?_, ?_⟩
      · refine has_of Try.func80 (by kernel_rfl) rfl Try.ntmps80 Try.results80 rfl rfl rfl ?_
        repeat(first|refine run1p ?_|((with_reducible apply st_call);exact rfl;exact rfl;exact rfl;first|(exact h_of _))|((with_reducible apply st_callg);exact rfl;exact rfl;(first|exact rfl|assumption);exact rfl;exact rfl;exact rfl;first|(exact h_of _)))
        refine awp_no rfl hm ?_
        repeat(first|refine run1p ?_|((with_reducible apply st_call);exact rfl;exact rfl;exact rfl;first|(exact h_nmul (by omega) (by omega))|(exact h_ncmp (by omega) (by omega)))|((with_reducible apply st_callg);exact rfl;exact rfl;(first|exact rfl|assumption);exact rfl;exact rfl;exact rfl;first|(exact h_nmul (by omega) (by omega))|(exact h_ncmp (by omega) (by omega))))
        refine awp_no rfl e ?_
        refine run0p ?_
        exact ⟨.inr rfl, _, Imp.refl _, .one (.tmp rfl)⟩
      · rw [← cross h1.1, ← cmpI_zero]
  · have hm : (!((ng p == ng q) && (decide (p = 0) == decide (q = 0)))) = true := by
      rw [Bool.not_eq_true']
      cases h2 : ng p == ng q with
      | false => rfl
      | true =>
        rw [Bool.true_and]
        exact beq_eq_false_iff_ne.2 fun h3 => h1 ⟨eq_of_beq h2, h3⟩
    have hne : p ≠ q := by rintro rfl; exact h1 ⟨rfl, rfl⟩
    cases e : ng p with
    | true =>
      refine ⟨-1, ?_, by simp [hne]⟩
      refine has_of Try.func80 (by kernel_rfl) rfl Try.ntmps80 Try.results80 rfl rfl rfl ?_
      repeat(first|refine run1p ?_|((with_reducible apply st_call);exact rfl;exact rfl;exact rfl;first|(exact h_of _))|((with_reducible apply st_callg);exact rfl;exact rfl;(first|exact rfl|assumption);exact rfl;exact rfl;exact rfl;first|(exact h_of _)))
      refine awp_yes rfl hm ?_
      refine run0p ?_
      refine awp_yes rfl e ?_
      refine run0p ?_
      refine awp_yes rfl e ?_
      refine run0p ?_
      exact ⟨.inr rfl, _, Imp.refl _, .one (.tmp rfl)⟩
    | false =>
      cases z : decide (p = 0) with
      | false =>
        have z1 : (decide (p = 0) == true) = false := by rw [z]; rfl
        refine ⟨1, ?_, by simp [hne]⟩
        refine has_of Try.func80 (by kernel_rfl) rfl Try.ntmps80 Try.results80 rfl rfl rfl ?_
        repeat(first|refine run1p ?_|((with_reducible apply st_call);exact rfl;exact rfl;exact rfl;first|(exact h_of _))|((with_reducible apply st_callg);exact rfl;exact rfl;(first|exact rfl|assumption);exact rfl;exact rfl;exact rfl;first|(exact h_of _)))
        refine awp_yes rfl hm ?_
        refine run0p ?_
        refine awp_no rfl e ?_
        refine run0p ?_
        refine awp_no rfl rfl ?_
        refine run0p ?_
        exact ⟨.inr rfl, _, Imp.refl _, .one (.tmp rfl)⟩
      | true =>
        have z1 : (decide (p = 0) == true) = true := by rw [z]; rfl
        refine ⟨if (!ng q) = true then -1 else 1, ?_, by split <;> simp [hne]⟩
        refine has_of Try.func80 (by kernel_rfl) rfl Try.ntmps80 Try.results80 rfl rfl rfl ?_
        repeat(first|refine run1p ?_|((with_reducible apply st_call);exact rfl;exact rfl;exact rfl;first|(exact h_of _))|((with_reducible apply st_callg);exact rfl;exact rfl;(first|exact rfl|assumption);exact rfl;exact rfl;exact rfl;first|(exact h_of _)))
        refine awp_yes rfl hm ?_
        refine run0p ?_
        refine awp_no rfl e ?_
        refine run0p ?_
        cases u : (!ng q) with
        | true =>
          refine awp_yes rfl rfl ?_
          refine run0p ?_
          exact ⟨.inr rfl, _, Imp.refl _, .one (.tmp rfl)⟩
        | false =>
          refine awp_no rfl rfl ?_
          refine run0p ?_
          exact ⟨.inr rfl, _, Imp.refl _, .one (.tmp rfl)⟩
theorem h_same {p q : Rat} (hp : wt p ≤ 1000000000000) (hq : wt q ≤ 1000000000000) : Has Try.prog 55 [.q p, .q q] (.b (decide (p = q))) := by
  obtain ⟨c, hc, he⟩ := h_cmp hp hq
  rw [show decide (p = q) = decide (c = 0) from decide_eq_decide.2 he.symm]
  refine has_of Try.func55 (by kernel_rfl) rfl Try.ntmps55 Try.results55 rfl rfl rfl ?_
  repeat(first|refine run1p ?_|((with_reducible apply st_call);exact rfl;exact rfl;exact rfl;first|(exact hc))|((with_reducible apply st_callg);exact rfl;exact rfl;(first|exact rfl|assumption);exact rfl;exact rfl;exact rfl;first|(exact hc)))
  exact ⟨.inr rfl, _, Imp.refl _, .one (.tmp rfl)⟩
end Go.Proofs.Ytpclkgjhfhhddaa.AM
/- Package gen: the table of first counts. -/
namespace Go.Proofs.Ytpclkgjhfhhddaa.V
open Go Go.RowKit Go.Proofs.Ytpclkgjhfhhddaa.PN Go.Proofs.Ytpclkgjhfhhddaa.AM
set_option linter.unusedVariables false
set_option linter.unusedSimpArgs false
def cTab : Tab := ⟨[(1, 0, 2, 0, -1), (2, 0, 2, 0, -1), (3, 0, 1, 0, 0), (4, 0, 1, 0, 0), (5, 0, 1, 0, 0), (5, 1, 1, 0, 0), (6, 2, 0, 1, 0), (6, 3, 0, 1, 0), (7, 0, 1, 0, 0), (7, 1, 1, 0, 0), (7, 2, 0, 1, 0), (7, 3, 0, 1, 0)]⟩
def cmap (a b : Int) : Option (Int × Int × Int) := cTab.map a b
theorem key_ty : ∀ (a b : Int), Try.prog.built 92 [(0, .int .i64 a), (1, .int .i64 b)] = some #[.int .i64 a, .int .i64 b] := by intros; kernel_rfl
theorem val_ty : ∀ (a b c : Int), Try.prog.built 90 [(0, .int .i64 a), (1, .int .i64 b), (2, .int .i64 c)] = some #[.int .i64 a, .int .i64 b, .int .i64 c] := by intros; kernel_rfl
theorem c_tys : MapTys 88 92 90 :=
  ⟨mapK_ok (by rfl), fun w a b => run_build w _ _ _ (key_ty a b), fun w a b c => run_build w _ _ _ (val_ty a b c)⟩
theorem c_counts : Has Try.prog 50 [] (.mp cmap) := by
  refine has_of Try.func50 (by kernel_rfl) rfl Try.ntmps50 Try.results50 rfl rfl rfl ?_
  refine run2 ?_
  refine (awp_map (N := 27) (n := 12) (T := cTab) (M := 88) (K := 92) (V := 90) ?_ c_tys (by decide) rfl rfl rfl ?_)
  · refine ⟨rfl, ⟨_, rfl, rfl, rfl, rfl⟩, fun j hj => ?_, fun j hj => ?_, fun j hj => ?_, ?_, ?_, ?_⟩
    · match j, hj with
      | 0, _ | 1, _ | 2, _ | 3, _ | 4, _ | 5, _ | 6, _ | 7, _ | 8, _ | 9, _ | 10, _ | 11, _ => exact ⟨_, rfl, rfl, rfl, rfl⟩
    · match j, hj with
      | 0, _ | 1, _ | 2, _ | 3, _ | 4, _ | 5, _ | 6, _ | 7, _ | 8, _ | 9, _ | 10, _ | 11, _ => exact ⟨_, rfl, rfl, rfl, rfl⟩
    · match j, hj with
      | 0, _ | 1, _ | 2, _ | 3, _ | 4, _ | 5, _ | 6, _ | 7, _ | 8, _ | 9, _ | 10, _ | 11, _ => exact ⟨_, rfl, rfl, rfl, rfl, edge_of (by rfl), edge_of (by rfl), edge_of (by rfl)⟩
    · exact ⟨_, rfl, rfl, rfl, rfl, edge_of (by rfl)⟩
    · exact ⟨_, rfl, rfl, rfl, rfl, edge_of (by rfl)⟩
    · exact back_of (by rfl)
  · refine awp_ret ⟨.inr rfl, _, Imp.refl _, ?_⟩
    exact .one (.tmp rfl)
end Go.Proofs.Ytpclkgjhfhhddaa.V
/- Package gen: what a system may be. -/
namespace Go.Proofs.Ytpclkgjhfhhddaa.AM
open Go Go.RowKit Go.Proofs.Ytpclkgjhfhhddaa.PN Go.Proofs.Ytpclkgjhfhhddaa.V
set_option linter.unusedVariables false
set_option linter.unusedSimpArgs false
set_option maxRecDepth 8000
set_option maxHeartbeats 8000000
/-- A variable that holds a number and is written no more. -/
theorem imp_rp {s : St} (t : Nat) {g : Nat} {F : Nat → Blk} {f : Nat → RA} (hx : s.env t = some (.rptr g 0 0)) (hg : s.heap g = some (1, F)) (hF : F 0 = .rats 1 f) : Imp s ⟨put s.env t (some (.rp (f 0))), put s.heap g none, s.used⟩ :=
  imp_turn1 hx hg trivial fun W N β w a hs v hv hok hb S' h1 h2 => by
    rw [hF] at hb hok
    obtain ⟨b, hub, e⟩ := hv
    obtain ⟨cs, hB, hr, hat, hx⟩ := rb_rats hb hub
    obtain ⟨sg, vn, vd, a0, a1, a2, a3⟩ := hx 0 (by decide)
    exact ⟨b, 0, e, h2 b hub, cs, sg, vn, vd, hr, a0, a1, a2, a3⟩
theorem rv_ag {S : Nat → Prop} {B : Nat} {β : Nat → Nat → Value} {w : World} {n : Nat} {f f' : Nat → AV} (h : ∀ i, i < n → f i = f' i) (v : Value) (hv : RV S B β w (.ag n f) v) : RV S B β w (.ag n f') v := by
  obtain ⟨cs, e1, e2, e3⟩ := hv
  refine ⟨cs, e1, e2, fun i hi => ?_⟩
  obtain ⟨y, a0, a1, a2⟩ := e3 i hi
  exact ⟨y, a0, a1, h i hi ▸ a2⟩
theorem rvs_same {S : Nat → Prop} {B : Nat} {β : Nat → Nat → Value} {w : World} {xs : List AV} (us : List Value) (h : RVs S B β w xs us) : RVs S B β w xs us := h
theorem Has.ag {P : Program} {f : FuncId} {n : Nat} {u u' : Nat → AV} {xs : List AV} {r : AV} (h : ∀ i, i < n → u i = u' i) (H : Has P f (.ag n u' :: xs) r) : Has P f (.ag n u :: xs) r :=
  Has.args H fun S B β w vs hv => rvs_cons (rv_ag h) rvs_same hv
theorem g7 {f f' : Nat → AV} (h0 : f 0 = f' 0) (h1 : f 1 = f' 1) (h2 : f 2 = f' 2) (h3 : f 3 = f' 3) (h4 : f 4 = f' 4) (h5 : f 5 = f' 5) (h6 : f 6 = f' 6) : ∀ i, i < 7 → f i = f' i := fun i hi => by
  match i, hi with
  | 0, _ => exact h0
  | 1, _ => exact h1
  | 2, _ => exact h2
  | 3, _ => exact h3
  | 4, _ => exact h4
  | 5, _ => exact h5
  | 6, _ => exact h6
/-- A system. -/
structure GD where
  k : Nat
  n : Nat
  r : Nat
  la : Nat
  lb : Nat
  lg : Nat
  lh : Nat
  A : Nat → Rat
  B : Nat → Rat
  G : Nat → Rat
  H : Nat → Rat
def GD.l (g : GD) : List AV := [.i g.k, .i g.n, .i g.r, .row false g.la (fun i => .q (g.A i)), .row false g.lb (fun i => .q (g.B i)), .row false g.lg (fun i => .q (g.G i)), .row false g.lh (fun i => .q (g.H i))]
def GD.f (g : GD) (i : Nat) : AV := g.l.getD i (.v undef)
def GD.v (g : GD) : AV := .ag 7 g.f
/-- Its four rows. -/
def GD.rw (g : GD) (i : Nat) : AV := (g.l.drop 3).getD i (.v undef)
theorem GD.fok (g : GD) (U : Nat → Bool) : ∀ i, (g.f i).ok U
  | 0 | 1 | 2 | 3 | 4 | 5 | 6 => trivial
  | _ + 7 => trivial
theorem GD.rok (g : GD) (U : Nat → Bool) : ∀ i, (g.rw i).ok U
  | 0 | 1 | 2 | 3 => trivial
  | _ + 4 => trivial
/-- It is four rows of numbers that are not long. -/
structure GD.Sm (g : GD) : Prop where
  A : ∀ i, i < g.la → wt (g.A i) ≤ 4
  B : ∀ i, i < g.lb → wt (g.B i) ≤ 4
  G : ∀ i, i < g.lg → wt (g.G i) ≤ 4
  H : ∀ i, i < g.lh → wt (g.H i) ≤ 4
def likeB (k : Nat) : Bool := decide (k = 6) || decide (k = 7)
def GD.len (g : GD) (i : Nat) : Nat := match i with | 0 => g.la | 1 => g.lb | 2 => g.lg | _ => g.lh
structure GD.OK (g : GD) : Prop where
  k1 : 1 ≤ g.k
  k7 : g.k ≤ 7
  n1 : 1 ≤ g.n
  n8 : g.n ≤ 8
  r3 : g.r ≤ 3
  rk : likeB g.k = true → 1 ≤ g.r
  r0 : likeB g.k = false → g.r = 0
  len : ∀ i : Nat, i < 4 → ((g.len i : Nat) : Int) = mpz (cmap g.k i) 0 * g.n + mpz (cmap g.k i) 1 * g.n * g.r + mpz (cmap g.k i) 2
  sm : g.Sm
  ne : ∀ i, i < g.la → ∀ j, j < g.lb → g.A i ≠ g.B j
/-- How large the counts are. -/
theorem cmap_le {k : Nat} (h1 : 1 ≤ k) (h7 : k ≤ 7) {i : Nat} (hi : i < 4) : (0 ≤ mpz (cmap k i) 0 ∧ mpz (cmap k i) 0 ≤ 2) ∧ (0 ≤ mpz (cmap k i) 1 ∧ mpz (cmap k i) 1 ≤ 1) ∧ (-1 ≤ mpz (cmap k i) 2 ∧ mpz (cmap k i) 2 ≤ 0) := by
  have key : ∀ k, k < 8 → 1 ≤ k → ∀ i, i < 4 → (0 ≤ mpz (cmap (k : Nat) (i : Nat)) 0 ∧ mpz (cmap (k : Nat) (i : Nat)) 0 ≤ 2) ∧ (0 ≤ mpz (cmap (k : Nat) (i : Nat)) 1 ∧ mpz (cmap (k : Nat) (i : Nat)) 1 ≤ 1) ∧ (-1 ≤ mpz (cmap (k : Nat) (i : Nat)) 2 ∧ mpz (cmap (k : Nat) (i : Nat)) 2 ≤ 0) := by decide
  exact key k (by omega) h1 i hi
theorem cmap_mul {a : Int} {n r : Nat} (ha : 0 ≤ a ∧ a ≤ 2) (hn : n ≤ 8) (hr : r ≤ 3) : (0 ≤ a * n ∧ a * n ≤ 16) ∧ (0 ≤ a * n * r ∧ a * n * r ≤ 48) := by
  have h : a = 0 ∨ a = 1 ∨ a = 2 := by omega
  have hnr : n * r ≤ 8 * 3 := Nat.mul_le_mul hn hr
  have e : ((n * r : Nat) : Int) = (n : Int) * r := Int.natCast_mul n r
  rcases h with rfl | rfl | rfl
  · simp
  · rw [Int.one_mul, ← e]; omega
  · rw [Int.mul_assoc, ← e]; omega
theorem g_ranked (k : Nat) : Has Try.prog 77 [.i k] (.b (likeB k)) := by
  refine has_of Try.func77 (by kernel_rfl) rfl Try.ntmps77 Try.results77 rfl rfl rfl ?_
  by_cases h6 : k = 6
  · have e0 : decide ((k : Int) = 6) = true := decide_eq_true (by omega)
    have e1 : (decide ((k : Int) = 6) == false) = false := by rw [e0]; rfl
    refine run0p ?_
    refine ⟨.inr rfl, _, Imp.refl _, ?_⟩
    rw [h6]
    exact .one (.tmp rfl)
  · have e0 : decide ((k : Int) = 6) = false := decide_eq_false (by omega)
    have e1 : (decide ((k : Int) = 6) == false) = true := by rw [e0]; rfl
    have e2 : decide ((k : Int) = 7) = likeB k := by
      unfold likeB
      rw [decide_eq_false h6, Bool.false_or]
      exact decide_eq_decide.2 (by omega)
    refine run0p ?_
    refine ⟨.inr rfl, _, Imp.refl _, ?_⟩
    rw [← e2]
    exact .one (.tmp rfl)
theorem g_rows (g : GD) : Has Try.prog 49 [g.v] (.ag 4 g.rw) := by
  refine has_of Try.func49 (by kernel_rfl) rfl Try.ntmps49 Try.results49 rfl rfl rfl ?_
  refine run0p ?_
  refine ⟨.inr rfl, _, Imp.refl _, ?_⟩
  exact .one (.agg rfl rfl rfl rfl (by decide) rfl rfl)
theorem g_sized {g : GD} (h : g.OK) : Has Try.prog 48 [g.v] (.b true) := by
  have n1 := h.n1; have n8 := h.n8; have r3 := h.r3
  refine has_of Try.func48 (by kernel_rfl) rfl Try.ntmps48 Try.results48 rfl rfl rfl ?_
  have e0 : decide ((g.n : Int) < 1) = false := decide_eq_false (by omega)
  have e1 : (decide ((g.n : Int) < 1) == false) = true := by rw [e0]; rfl
  have e2 : decide ((8 : Int) < g.n) = false := decide_eq_false (by omega)
  refine run0p ?_
  refine awp_no rfl e2 ?_
  repeat(first|refine run1p ?_|((with_reducible apply st_call);exact rfl;exact rfl;exact rfl;first|(exact g_ranked g.k))|((with_reducible apply st_callg);exact rfl;exact rfl;(first|exact rfl|assumption);exact rfl;exact rfl;exact rfl;first|(exact g_ranked g.k)))
  cases hk : likeB g.k with
  | true =>
    have hr := h.rk hk
    have e3 : decide ((1 : Int) ≤ g.r) = true := decide_eq_true (by omega)
    have e4 : (decide ((1 : Int) ≤ g.r) == true) = true := by rw [e3]; rfl
    have e5 : decide ((g.r : Int) ≤ 3) = true := decide_eq_true (by omega)
    refine awp_yes rfl rfl ?_
    refine run0p ?_
    refine ⟨.inr rfl, _, Imp.refl _, ?_⟩
    rw [← e5]
    exact .one (.tmp rfl)
  | false =>
    have hr := h.r0 hk
    have e5 : decide ((g.r : Int) = 0) = true := decide_eq_true (by omega)
    refine awp_no rfl rfl ?_
    refine run0p ?_
    refine ⟨.inr rfl, _, Imp.refl _, ?_⟩
    rw [← e5]
    exact .one (.tmp rfl)
theorem g_small {p : Rat} (h : wt p ≤ 4) : Has Try.prog 53 [.q p] (.b true) := by
  have b1 := wt_num p; have b2 := wt_den p
  have e0 : decide (((size (nm p) : Nat) : Int) ≤ 4) = true := decide_eq_true (by omega)
  have e1 : (decide (((size (nm p) : Nat) : Int) ≤ 4) == true) = true := by rw [e0]; rfl
  have e2 : decide (((size p.den : Nat) : Int) ≤ 4) = true := decide_eq_true (by omega)
  have e3 : (decide (((size p.den : Nat) : Int) ≤ 4) == true) = true := by rw [e2]; rfl
  refine has_of Try.func53 (by kernel_rfl) rfl Try.ntmps53 Try.results53 rfl rfl rfl ?_
  repeat(first|refine run1p ?_|((with_reducible apply st_call);exact rfl;exact rfl;exact rfl;first|(exact h_right (by omega)))|((with_reducible apply st_callg);exact rfl;exact rfl;(first|exact rfl|assumption);exact rfl;exact rfl;exact rfl;first|(exact h_right (by omega))))
  exact ⟨.inr rfl, _, Imp.refl _, .one (.tmp rfl)⟩
theorem g_bad {p : Rat} (h : wt p ≤ 4) : Has Try.prog 52 [.q p] (.b false) := by
  refine has_of Try.func52 (by kernel_rfl) rfl Try.ntmps52 Try.results52 rfl rfl rfl ?_
  repeat(first|refine run1p ?_|((with_reducible apply st_call);exact rfl;exact rfl;exact rfl;first|(exact g_small h))|((with_reducible apply st_callg);exact rfl;exact rfl;(first|exact rfl|assumption);exact rfl;exact rfl;exact rfl;first|(exact g_small h)))
  exact ⟨.inr rfl, _, Imp.refl _, .one (.tmp rfl)⟩
theorem g_eqs {p q : Rat} (hp : wt p ≤ 1000000000000) (hq : wt q ≤ 1000000000000) : Has Try.prog 54 [.q q, .rp (.q p)] (.b (decide (p = q))) := by
  refine has_of Try.func54 (by kernel_rfl) rfl Try.ntmps54 Try.results54 rfl rfl rfl ?_
  repeat(first|refine run1p ?_|((with_reducible apply st_call);exact rfl;exact rfl;exact rfl;first|(exact h_same (by omega) (by omega)))|((with_reducible apply st_callg);exact rfl;exact rfl;(first|exact rfl|assumption);exact rfl;exact rfl;exact rfl;first|(exact h_same (by omega) (by omega))))
  exact ⟨.inr rfl, _, Imp.refl _, .one (.tmp rfl)⟩
end Go.Proofs.Ytpclkgjhfhhddaa.AM

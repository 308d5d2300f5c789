/- Joined texts, 4: AmC AmD. -/
import Derived.Test.YtpclkgjhfhhddaaJLawGenChecks3
set_option linter.unusedVariables false
set_option linter.unusedSimpArgs false
/- Regions and code over the abstract state. -/
namespace Go.Proofs.Ytpclkgjhfhhddaa.AM
open Go Go.RowKit Go.Proofs.Ytpclkgjhfhhddaa.PN Go.Proofs.Ytpclkgjhfhhddaa.V
set_option linter.unusedVariables false
set_option linter.unusedSimpArgs false
theorem getD_set_ne' {tmps : Array Value} {t t' : Nat} {v : Value} (h : t' ≠ t) : (tmps.setIfInBounds t' v).getD t undef = tmps.getD t undef := by
  rw [Array.getD_eq_getD_getElem?, Array.getD_eq_getD_getElem?, Array.getElem?_setIfInBounds_ne h]
theorem getD_set_same' {tmps : Array Value} {t : Nat} {v : Value} (h : t < tmps.size) : (tmps.setIfInBounds t v).getD t undef = v := by
  rw [Array.getD_eq_getD_getElem?, Array.getElem?_setIfInBounds_self_of_lt h]; rfl
/-- A slot is written. -/
theorem Sim.putv {W : Wd} {N : Nat} {β : Nat → Nat → Value} {w : World} {a : Act} {s : St} (h : Sim W N β w a s) {d : Option Tmp} {v : Value} {r : Option AV}
    (hN : ∀ t, d = some t → t < N) (hr : ∀ x, r = some x → d ≠ none → x.ok s.used ∧ RV (notOwn W s β) W.w.heap.size β w x v) :
    Sim W N β w (a.put d v) (s.app d ⟨r, [], []⟩) := by
  cases d with
  | none => exact h
  | some t =>
    have hlt := hN t rfl
    refine ⟨h.kept, h.nodef, by show (a.tmps.setIfInBounds t v).size = N; rw [Array.size_setIfInBounds, h.size], fun t' x hx => ?_, h.heap, h.live, h.inj, h.fix, h.pin, h.fixd, h.keep⟩
    show x.ok s.used ∧ RV (notOwn W s β) W.w.heap.size β w x ((a.tmps.setIfInBounds t v).getD t' undef)
    have hx : put s.env t r t' = some x := hx
    by_cases e : t' = t
    · subst e
      rw [put_same] at hx
      rw [getD_set_same' (by rw [h.size]; exact hlt)]
      exact hr x hx (by simp)
    · rw [put_ne _ _ e] at hx
      rw [getD_set_ne' (Ne.symm e)]
      exact h.env t' x hx
theorem rok_op {P : Program} {ops : Array Oper} {i : Nat} {o : Oper} (ho : ops[i]? = some o) {s : St} {D : Dsc} (h : ROK P ops o s D) {W : Wd} {N : Nat} {β : Nat → Nat → Value} {w : World} {a : Act} (hs : Sim W N β w a s)
    (hN : ∀ (t j : Nat) (o' : Oper), ops[j]? = some o' → o'.dst = some t → t < N) {K : Act → World → Prop} {Q : Exit → Act → World → Prop} (hK : ∀ β' a' w', Sim W N β' w' a' (s.app o.dst D) → K a' w') : wpOp P ops Q i K a w := by
  unfold wpOp
  rw [ho]
  simp only []
  rcases h with ⟨hg, h0, h1⟩ | ⟨hg, rfl⟩
  · rw [gd_wanted hg hs hN, if_pos rfl]
    exact .inl (h1 s (fun _ _ => rfl) (fun _ _ => rfl) (fun _ _ h => h) h0 W N β w a hs (fun t ht => hN t i o ho ht) K Q hK)
  · rw [gd_wanted hg hs hN, if_neg (by simp)]
    exact hK β _ w (hs.putv (fun t ht => hN t i o ho ht) (fun x hx _ => by cases hx; exact ⟨trivial, rfl⟩))
/-! ### Whatever order is drawn -/
/-- Number j comes ahead of number i, whatever is drawn. -/
inductive Bf (ops : Array Oper) : Nat → Nat → Prop where
  | edge {i : Nat} {o : Oper} (ho : ops[i]? = some o) {e : Edge} (he : e ∈ o.after) (hb : Region.binds .any e = true) : Bf ops e.on i
  | step {i j : Nat} {o : Oper} (ho : ops[i]? = some o) {e : Edge} (he : e ∈ o.after) (hb : Region.binds .any e = true) (h : Bf ops j e.on) : Bf ops j i
def Closed (ops : Array Oper) (listed : Array Bool) : Prop := ∀ i o, ops[i]? = some o → listed.getD i false = true → ∀ e ∈ o.after, Region.binds .any e = true → listed.getD e.on false = true
theorem Bf.listed {ops : Array Oper} {listed : Array Bool} (hc : Closed ops listed) {j i : Nat} (h : Bf ops j i) : listed.getD i false = true → listed.getD j false = true := by
  induction h with
  | edge ho he hb => exact fun hl => hc _ _ ho hl _ he hb
  | step ho he hb _ ih => exact fun hl => ih (hc _ _ ho hl _ he hb)
theorem Bf.of_ready {ops : Array Oper} {listed : Array Bool} (hc : Closed ops listed) {i : Nat} (hr : i ∈ Region.ready .any ops listed) {j : Nat} (h : Bf ops j i) : listed.getD j false = true := by
  obtain ⟨h0, o, ho, hall⟩ := mem_ready.1 hr
  cases h with
  | edge ho' he hb => rw [ho] at ho'; cases ho'; exact hall _ he hb
  | step ho' he hb h => rw [ho] at ho'; cases ho'; exact h.listed hc (hall _ he hb)
def left (ops : Array Oper) (listed : Array Bool) : List Nat := (List.range ops.size).filter fun i => !listed.getD i true
theorem mem_left {ops : Array Oper} {listed : Array Bool} {i : Nat} : i ∈ left ops listed ↔ i < ops.size ∧ listed.getD i true = false := by
  unfold left; rw [List.mem_filter, List.mem_range]; simp
theorem left_parts {ops : Array Oper} {listed : Array Bool} {i : Nat} (h : i ∈ left ops listed) : ∃ l l', left ops listed = l ++ i :: l' ∧ left ops (listed.setIfInBounds i true) = l ++ l' ∧ ∀ j ∈ l, j < i := by
  obtain ⟨hi, hl⟩ := mem_left.1 h
  have key : ∀ n, (∀ j, j < n → j ≠ i → (!listed.getD j true) = (!(listed.setIfInBounds i true).getD j true)) := fun n j _ hne => by rw [getD_set_ne true (Ne.symm hne)]
  have hset : (listed.setIfInBounds i true).getD i true = true := by
    rcases Nat.lt_or_ge i listed.size with h' | h'
    · rw [Array.getD_eq_getD_getElem?, Array.getElem?_setIfInBounds_self_of_lt h']; rfl
    · rw [Array.getD_eq_getD_getElem?, Array.getElem?_eq_none (by rw [Array.size_setIfInBounds]; exact h')]; rfl
  obtain ⟨m, hm⟩ : ∃ m, ops.size = i + 1 + m := ⟨ops.size - (i + 1), by omega⟩
  have hr : List.range ops.size = List.range i ++ i :: (List.range m).map (i + 1 + ·) := by
    rw [hm, List.range_add, List.range_succ, List.append_assoc]; rfl
  refine ⟨(List.range i).filter (fun j => !listed.getD j true), ((List.range m).map (i + 1 + ·)).filter (fun j => !listed.getD j true), ?_, ?_, fun j hj => List.mem_range.1 (List.mem_filter.1 hj).1⟩
  · unfold left
    rw [hr, List.filter_append, List.filter_cons, if_pos (by rw [hl]; rfl)]
  · unfold left
    rw [hr, List.filter_append, List.filter_cons, if_neg (by rw [hset]; simp)]
    congr 1
    · exact List.filter_congr fun j hj => (key _ j (List.mem_range.1 hj) (by have := List.mem_range.1 hj; omega)).symm
    · refine List.filter_congr fun j hj => ?_
      obtain ⟨k, _, rfl⟩ := List.mem_map.1 hj
      exact (key (i + 1 + k + 1) _ (by omega) (by omega)).symm
/-- An operation that works in just this state. -/
def XOK (P : Program) (o : Oper) (s s' : St) : Prop :=
  ∀ W N β w a, Sim W N β w a s → (∀ t, o.dst = some t → t < N) → ∀ (K : Act → World → Prop) (Q : Exit → Act → World → Prop), (∀ β' a' w', Sim W N β' w' a' s' → K a' w') → o.wp P a w K Q
/-- Such ones, one behind the other. -/
def XRun (P : Program) : List Oper → St → St → Prop
  | [], s, s' => s = s'
  | o :: l, s, s' => o.guard = none ∧ ∃ s1, XOK P o s s1 ∧ XRun P l s1 s'
theorem xrun_wp {P : Program} {ops : Array Oper} {W : Wd} {N : Nat} {Q : Exit → Act → World → Prop} (hN : ∀ (t j : Nat) (o' : Oper), ops[j]? = some o' → o'.dst = some t → t < N) :
    ∀ (l : List Oper) (i : Nat) (s s' : St) (β : Nat → Nat → Value) (w : World) (a : Act), ops.toList.drop i = l → XRun P l s s' → Sim W N β w a s → (∀ β' a' w', Sim W N β' w' a' s' → Q .normal a' w') → wpOps P ops Q (List.range' i l.length) a w
  | [], i, s, s', β, w, a, _, h, hs, hQ => by
    have h : s = s' := h
    subst h
    exact hQ β a w hs
  | o :: l, i, s, s', β, w, a, hd, ⟨hg, s1, h1, h2⟩, hs, hQ => by
    have ho : ops[i]? = some o := by
      have : ops.toList[i]? = some o := by rw [← List.head?_drop, hd]; rfl
      simpa using this
    have hd' : ops.toList.drop (i + 1) = l := by rw [← List.drop_drop, hd]; rfl
    rw [show (o :: l).length = l.length + 1 from rfl, List.range'_succ, wpOps_cons]
    unfold wpOp
    rw [ho]
    simp only []
    have hw : Region.wanted o (yielded ops a.tmps) = true := by unfold Region.wanted; rw [hg]
    rw [hw, if_pos rfl]
    exact .inl (h1 W N β w a hs (fun t ht => hN t i o ho ht) _ _ fun β' a' w' hs' => xrun_wp hN l (i + 1) s1 s' β' w' a' hd' h2 hs' hQ)
theorem first_ready {ops : Array Oper} {listed : Array Bool} (hz : listed.size = ops.size) (hback : ∀ i o, ops[i]? = some o → ∀ e ∈ o.after, Region.binds .any e = true → e.on < i) {i : Nat} {l : List Nat} (hl : left ops listed = i :: l) : i ∈ Region.ready .any ops listed := by
  have hi : i ∈ left ops listed := by rw [hl]; exact List.mem_cons_self ..
  obtain ⟨hlt, h0⟩ := mem_left.1 hi
  have hoi : ops[i]? = some ops[i] := Array.getElem?_eq_getElem hlt
  refine mem_ready.2 ⟨h0, _, hoi, fun e he hb => ?_⟩
  have hlt' := hback i _ hoi e he hb
  cases hx : listed.getD e.on false with
  | true => rfl
  | false =>
    exfalso
    have hx' : listed.getD e.on true = false := by
      rw [Array.getD_eq_getD_getElem?, Array.getElem?_eq_getElem (by omega)] at hx ⊢
      exact hx
    have hm := mem_left.2 ⟨(by omega : e.on < ops.size), hx'⟩
    have hsorted : ∀ k ∈ left ops listed, i ≤ k := by
      intro k hk
      obtain ⟨m1, m2, f1, _, f3⟩ := left_parts hk
      rw [hl] at f1
      cases m1 with
      | nil => injection f1 with f1 _; omega
      | cons q m1 => injection f1 with f1 _; subst f1; have := f3 i (List.mem_cons_self ..); omega
    have := hsorted _ hm
    omega
theorem closed_next {ops : Array Oper} {listed : Array Bool} (hc : Closed ops listed) {i : Nat} (hi : i ∈ Region.ready .any ops listed) : Closed ops (listed.setIfInBounds i true) := by
  obtain ⟨h0, o, ho, hall⟩ := mem_ready.1 hi
  intro k ok hk hlk e he hb
  by_cases hki : k = i
  · subst hki; rw [ho] at hk; cases hk; exact getD_set_true (hall e he hb)
  · refine getD_set_true (hc k ok hk ?_ e he hb)
    rw [Array.getD_eq_getD_getElem?, Array.getElem?_setIfInBounds_ne (Ne.symm hki)] at hlk
    rw [Array.getD_eq_getD_getElem?]; exact hlk
/-- The last ones come in their order. -/
theorem suf_any {P : Program} {ops : Array Oper} {Q : Exit → Act → World → Prop} (hback : ∀ i o, ops[i]? = some o → ∀ e ∈ o.after, Region.binds .any e = true → e.on < i) {k0 : Nat} (hall : ∀ i j, k0 ≤ i → j < i → i < ops.size → Bf ops j i) :
    ∀ (m k fuel : Nat) (listed : Array Bool) (a : Act) (w : World), k0 ≤ k → listed.size = ops.size → Closed ops listed → left ops listed = List.range' k m → m ≤ fuel → wpOps P ops Q (List.range' k m) a w → wpAny P .any ops Q fuel listed a w := by
  intro m
  induction m with
  | zero =>
    intro k fuel listed a w hk hz hc hl hf h
    have hr : Region.ready .any ops listed = [] := by
      rw [List.eq_nil_iff_forall_not_mem]
      intro i hi
      obtain ⟨h0, o, ho, _⟩ := mem_ready.1 hi
      have := mem_left.2 ⟨(Array.getElem?_eq_some_iff.1 ho).1, h0⟩
      rw [hl] at this; cases this
    cases fuel with
    | zero => exact ⟨hr, h⟩
    | succ fuel => exact ⟨fun _ => h, fun i hi => (by rw [hr] at hi; cases hi)⟩
  | succ m ih =>
    intro k fuel listed a w hk hz hc hl hf h
    rw [List.range'_succ] at hl h
    have hk' : k ∈ left ops listed := by rw [hl]; exact List.mem_cons_self ..
    cases fuel with
    | zero => omega
    | succ fuel =>
      have hfr := first_ready hz hback hl
      refine ⟨fun hr => (by rw [hr] at hfr; cases hfr), fun i hi => ?_⟩
      obtain ⟨h0, o, ho, _⟩ := mem_ready.1 hi
      have hm := mem_left.2 ⟨(Array.getElem?_eq_some_iff.1 ho).1, h0⟩
      have hik : i = k := by
        rw [hl] at hm
        rcases List.mem_cons.1 hm with e | hm
        · exact e
        · exfalso
          have := (List.mem_range'_1.1 hm).1
          have hb := (hall i k (by omega) (by omega) (Array.getElem?_eq_some_iff.1 ho).1).of_ready hc hi
          have hz2 := (mem_left.1 hk').2
          rw [Array.getD_eq_getD_getElem?] at hb hz2
          cases hx : listed[k]? with
          | none => rw [hx] at hb; cases hb
          | some b => rw [hx] at hb hz2; simp at hb hz2; rw [hb] at hz2; cases hz2
      subst hik
      rw [wpOps_cons] at h
      refine wpOp_mono (fun a' w' h' => ?_) h
      obtain ⟨l1, l2, e1, e2, e3⟩ := left_parts hm
      have hl1 : l1 = [] := by
        rw [hl] at e1
        cases l1 with
        | nil => rfl
        | cons q l1 =>
          injection e1 with e1 _
          have := e3 q (List.mem_cons_self ..)
          omega
      subst hl1
      rw [hl] at e1
      injection e1 with _ e1
      exact ih (i + 1) fuel _ a' w' (by omega) (by rw [Array.size_setIfInBounds]; exact hz) (closed_next hc hi) (by rw [e2, ← e1]; rfl) (by omega) h'
theorem run_any {P : Program} {ops : Array Oper} {D : Nat → Dsc} {W : Wd} {N : Nat} {k0 : Nat} {Q : Exit → Act → World → Prop} (hN : ∀ (t j : Nat) (o' : Oper), ops[j]? = some o' → o'.dst = some t → t < N)
    (hback : ∀ i o, ops[i]? = some o → ∀ e ∈ o.after, Region.binds .any e = true → e.on < i)
    (hall : ∀ i j, k0 ≤ i → j < i → i < ops.size → Bf ops j i) (hfree : ∀ j i oj oi, j < i → i < k0 → ops[j]? = some oj → ops[i]? = some oi → ¬ Bf ops j i → Free ops oi oj (D i) (D j) ∧ Free ops oj oi (D j) (D i)) :
    ∀ (fuel : Nat) (listed : Array Bool) (s s' : St) (β : Nat → Nat → Value) (w : World) (a : Act), listed.size = ops.size → Closed ops listed → (left ops listed).length ≤ fuel → ∀ l, left ops listed = l ++ List.range' k0 (ops.size - k0) → (∀ i ∈ l, i < k0) → RunL P ops D l s s' → Sim W N β w a s →
      (∀ β' a' w', Sim W N β' w' a' s' → wpOps P ops Q (List.range' k0 (ops.size - k0)) a' w') → wpAny P .any ops Q fuel listed a w := by
  intro fuel
  induction fuel with
  | zero =>
    intro listed s s' β w a hz hc hf l hl hlt hrun hs hQ
    have hn : left ops listed = [] := List.eq_nil_of_length_eq_zero (by omega)
    have hl0 : l = [] := by rw [hn] at hl; exact (List.append_eq_nil_iff.1 hl.symm).1
    subst hl0
    have hrun : s = s' := hrun
    subst hrun
    exact suf_any hback hall (ops.size - k0) k0 0 listed a w (Nat.le_refl _) hz hc hl (by rw [hl] at hf; simpa using hf) (hQ β a w hs)
  | succ fuel ih =>
    intro listed s s' β w a hz hc hf l hl hlt hrun hs hQ
    cases l with
    | nil =>
      have hrun : s = s' := hrun
      subst hrun
      exact suf_any hback hall (ops.size - k0) k0 (fuel + 1) listed a w (Nat.le_refl _) hz hc hl (by rw [hl] at hf; simpa using hf) (hQ β a w hs)
    | cons i0 l0 =>
      have hfr := first_ready hz hback hl
      refine ⟨fun hr => (by rw [hr] at hfr; cases hfr), fun i hi => ?_⟩
      obtain ⟨h0, o, ho, hafter⟩ := mem_ready.1 hi
      have hm := mem_left.2 ⟨(Array.getElem?_eq_some_iff.1 ho).1, h0⟩
      have hnl : ∀ j, j ∈ left ops listed → listed.getD j false = true → False := fun j hj h1 => by
        have h2 := (mem_left.1 hj).2
        rw [Array.getD_eq_getD_getElem?] at h1 h2
        cases hx : listed[j]? with
        | none => rw [hx] at h1; cases h1
        | some b => rw [hx] at h1 h2; simp at h1 h2; rw [h1] at h2; cases h2
      have hik : i < k0 := by
        rcases Nat.lt_or_ge i k0 with h | h
        · exact h
        · exfalso
          have hi0 := hlt i0 (List.mem_cons_self ..)
          exact hnl i0 (by rw [hl]; exact List.mem_cons_self ..) ((hall i i0 h (by omega) (Array.getElem?_eq_some_iff.1 ho).1).of_ready hc hi)
      have hil : i ∈ i0 :: l0 := by
        rw [hl] at hm
        rcases List.mem_append.1 hm with h | h
        · exact h
        · have := (List.mem_range'_1.1 h).1; omega
      obtain ⟨l1, l2, e1, e2, e3⟩ := left_parts hm
      -- the same parts of the front
      obtain ⟨l3, hl3⟩ : ∃ l3, i0 :: l0 = l1 ++ i :: l3 ∧ l2 = l3 ++ List.range' k0 (ops.size - k0) := by
        rw [hl] at e1
        rcases List.append_eq_append_iff.1 e1 with ⟨t, h1, h2⟩ | ⟨t, h1, h2⟩
        · cases t with
          | nil =>
            exfalso
            have h2 : List.range' k0 (ops.size - k0) = i :: l2 := h2
            have : i ∈ List.range' k0 (ops.size - k0) := by rw [h2]; exact List.mem_cons_self ..
            have := (List.mem_range'_1.1 this).1; omega
          | cons q t =>
            exfalso
            have h2 : List.range' k0 (ops.size - k0) = (q :: t) ++ i :: l2 := h2
            have : i ∈ List.range' k0 (ops.size - k0) := by rw [h2]; simp
            have := (List.mem_range'_1.1 this).1; omega
        · cases t with
          | nil =>
            exfalso
            have h2 : i :: l2 = List.range' k0 (ops.size - k0) := h2
            have : i ∈ List.range' k0 (ops.size - k0) := by rw [← h2]; exact List.mem_cons_self ..
            have := (List.mem_range'_1.1 this).1; omega
          | cons q t =>
            have h2 : i :: l2 = (q :: t) ++ List.range' k0 (ops.size - k0) := h2
            injection h2 with h2 h3
            subst h2
            exact ⟨t, h1, h3⟩
      obtain ⟨f1, f2⟩ := hl3
      rw [f1] at hrun
      have hfr' : ∀ j ∈ l1, ∀ oj, ops[j]? = some oj → Free ops o oj (D i) (D j) ∧ Free ops oj o (D j) (D i) := by
        intro j hj oj hoj
        refine hfree j i oj o (e3 j hj) hik hoj ho (fun hb => ?_)
        exact hnl j (by rw [e1]; exact List.mem_append_left _ hj) (hb.of_ready hc hi)
      obtain ⟨hr, hrun'⟩ := RunL.first ho l1 l3 s s' hfr' hrun
      refine rok_op ho hr hs hN (fun β' a' w' hs' => ?_)
      refine ih _ _ s' β' w' a' (by rw [Array.size_setIfInBounds]; exact hz) (closed_next hc hi) (by rw [e2]; rw [e1] at hf; simp at hf ⊢; omega) (l1 ++ l3) (by rw [e2, f2, List.append_assoc]) (fun j hj => hlt j (by rw [f1]; exact (List.mem_append.1 hj).elim (fun h => List.mem_append_left _ h) fun h => List.mem_append_right _ (List.mem_cons_of_mem _ h))) hrun' hs' hQ
/-! ### The walk's own form -/
abbrev Fp := List Nat × List Nat
/-- Number j comes ahead of number i: found by looking. -/
def reach : Nat → Array Oper → Nat → Nat → Bool
  | 0, _, _, _ => false
  | n + 1, ops, j, i => match ops[i]? with
    | none => false
    | some o => o.after.toList.any fun e => Region.binds .any e && (Nat.beq e.on j || reach n ops j e.on)
/-- The last ones come behind all others. -/
def sufB (ops : Array Oper) (k : Nat) : Bool := (List.range ops.size).all fun i => Nat.blt i k || (List.range i).all fun j => reach 40 ops j i
/-- So many that touch nothing that is told. -/
def padF : List Oper → List Fp → List Fp
  | [], acc => acc
  | _ :: l, acc => padF l (([], []) :: acc)
inductive AOps (P : Program) (ops : Array Oper) : List Oper → St → List Fp → (St → List Fp → Prop) → Prop
  | nil {s : St} {acc : List Fp} {K : St → List Fp → Prop} (h : K s acc) : AOps P ops [] s acc K
  | cons {o : Oper} {l : List Oper} {s : St} {acc : List Fp} {K : St → List Fp → Prop} (D : Dsc) (h : ROK P ops o s D) (k : AOps P ops l (s.app o.dst D) ((D.rd, D.upd.map (·.1)) :: acc) K) : AOps P ops (o :: l) s acc K
  | suf {o : Oper} {l : List Oper} {s s' : St} {acc : List Fp} {K : St → List Fp → Prop} (hb : sufB ops (ops.size - (o :: l).length) = true) (hx : XRun P (o :: l) s s') (h : K s' (padF (o :: l) acc)) : AOps P ops (o :: l) s acc K
theorem RunL.congr {P : Program} {ops : Array Oper} {D D' : Nat → Dsc} : ∀ (l : List Nat) (s s' : St), (∀ i ∈ l, D i = D' i) → RunL P ops D l s s' → RunL P ops D' l s s'
  | [], _, _, _, h => h
  | i :: l, s, s', he, ⟨o, ho, hr, h⟩ => ⟨o, ho, by rw [← he i (List.mem_cons_self ..)]; exact hr, by rw [← he i (List.mem_cons_self ..)]; exact RunL.congr l _ s' (fun k hk => he k (List.mem_cons_of_mem _ hk)) h⟩
theorem padF_eq : ∀ (l : List Oper) (acc : List Fp), padF l acc = ((List.range' 0 l.length).map fun _ => (([], []) : Fp)).reverse ++ acc
  | [], acc => rfl
  | o :: l, acc => by
    show padF l (([], []) :: acc) = _
    rw [padF_eq l, show (o :: l).length = l.length + 1 from rfl, List.map_const', List.map_const', List.length_range', List.length_range', List.reverse_replicate, List.reverse_replicate, List.replicate_succ', List.append_assoc]
    rfl
theorem pad_map (i : Nat) (l : List Oper) : ((List.range' i l.length).map fun _ => (([], []) : Fp)) = ((List.range' 0 l.length).map fun _ => (([], []) : Fp)) := by
  rw [List.map_const', List.map_const', List.length_range', List.length_range']
theorem AOps.run {P : Program} {ops : Array Oper} {K : St → List Fp → Prop} : ∀ (l : List Oper) (i : Nat) (s : St) (acc : List Fp), ops.toList.drop i = l → i + l.length = ops.size → AOps P ops l s acc K →
    ∃ (D : Nat → Dsc) (m : Nat) (s1 s' : St), m ≤ l.length ∧ RunL P ops D (List.range' i m) s s1 ∧ XRun P (l.drop m) s1 s' ∧ (sufB ops (i + m) = true ∨ m = l.length) ∧ K s' (((List.range' i l.length).map fun k => ((D k).rd, (D k).upd.map (·.1))).reverse ++ acc)
  | [], i, s, acc, _, _, .nil h => ⟨fun _ => skipD, 0, s, s, Nat.le_refl _, rfl, rfl, .inr rfl, by simpa using h⟩
  | o :: l, i, s, acc, hd, hi, .suf (s' := s') hb hx h => by
    refine ⟨fun _ => ⟨none, [], []⟩, 0, s, s', Nat.zero_le _, rfl, hx, .inl (by rw [show i + 0 = ops.size - (o :: l).length by omega]; exact hb), ?_⟩
    have := padF_eq (o :: l) acc
    rw [this, ← pad_map i] at h
    exact h
  | o :: l, i, s, acc, hd, hi, .cons D0 hr h => by
    have ho : ops[i]? = some o := by
      have : ops.toList[i]? = some o := by rw [← List.head?_drop, hd]; rfl
      simpa using this
    have hd' : ops.toList.drop (i + 1) = l := by rw [← List.drop_drop, hd]; rfl
    obtain ⟨D, m, s1, s', hm, h1, h3, h4, h2⟩ := AOps.run l (i + 1) _ _ hd' (by simp at hi; omega) h
    have hne : ∀ k ∈ List.range' (i + 1) l.length, (fun k => if k = i then D0 else D k) k = D k := fun k hk => if_neg (by have := (List.mem_range'_1.1 hk).1; omega)
    have hne' : ∀ k ∈ List.range' (i + 1) m, (fun k => if k = i then D0 else D k) k = D k := fun k hk => if_neg (by have := (List.mem_range'_1.1 hk).1; omega)
    refine ⟨fun k => if k = i then D0 else D k, m + 1, s1, s', Nat.succ_le_succ hm, ⟨o, ho, by simp only [if_true]; exact hr, ?_⟩, h3, ?_, ?_⟩
    · simp only [if_true]
      exact RunL.congr _ _ _ (fun k hk => (hne' k hk).symm) h1
    · rcases h4 with h4 | h4
      · left; rw [show i + (m + 1) = i + 1 + m by omega]; exact h4
      · right; rw [h4]; rfl
    · rw [show (o :: l).length = l.length + 1 from rfl, List.range'_succ, List.map_cons, List.reverse_cons, List.append_assoc]
      simp only [if_true]
      rw [List.map_congr_left (g := fun k => ((D k).rd, (D k).upd.map (·.1))) (fun k hk => by rw [show (if k = i then D0 else D k) = D k from hne k hk])]
      exact h2
def freeB (ops : Array Oper) (o o' : Oper) (p p' : Fp) : Bool :=
  (match o.dst with | some t => o'.dst != some t && !(slots ops o').contains t | none => true) && (match o'.dst with | some t => o.dst != some t && !(slots ops o).contains t | none => true) &&
  p.2.all (fun g => !p'.2.contains g && !p'.1.contains g) && p'.2.all (fun g => !p.2.contains g && !p.1.contains g)
theorem freeB_spec {ops : Array Oper} {o o' : Oper} {D D' : Dsc} (h : freeB ops o o' (D.rd, D.upd.map (·.1)) (D'.rd, D'.upd.map (·.1)) = true) : Free ops o o' D D' ∧ Free ops o' o D' D := by
  unfold freeB at h
  rw [Bool.and_eq_true, Bool.and_eq_true, Bool.and_eq_true] at h
  obtain ⟨⟨⟨h1, h2⟩, h3⟩, h4⟩ := h
  have d1 : ∀ t, o.dst = some t → o'.dst ≠ some t ∧ t ∉ slots ops o' := by
    intro t ht; rw [ht] at h1; simpa using h1
  have d2 : ∀ t, o'.dst = some t → o.dst ≠ some t ∧ t ∉ slots ops o := by
    intro t ht; rw [ht] at h2; simpa using h2
  have u1 : ∀ p ∈ D.upd, (∀ q ∈ D'.upd, p.1 ≠ q.1) ∧ p.1 ∉ D'.rd := by
    intro p hp
    have := List.all_eq_true.1 h3 p.1 (List.mem_map_of_mem hp)
    rw [Bool.and_eq_true] at this
    refine ⟨fun q hq e => ?_, by simpa using this.2⟩
    have h5 := this.1
    have : p.1 ∈ D'.upd.map (·.1) := by rw [e]; exact List.mem_map_of_mem hq
    simp only [Bool.not_eq_true', List.contains_eq_mem, decide_eq_false_iff_not] at h5
    exact h5 this
  have u2 : ∀ p ∈ D'.upd, (∀ q ∈ D.upd, p.1 ≠ q.1) ∧ p.1 ∉ D.rd := by
    intro p hp
    have := List.all_eq_true.1 h4 p.1 (List.mem_map_of_mem hp)
    rw [Bool.and_eq_true] at this
    refine ⟨fun q hq e => ?_, by simpa using this.2⟩
    have h5 := this.1
    have : p.1 ∈ D.upd.map (·.1) := by rw [e]; exact List.mem_map_of_mem hq
    simp only [Bool.not_eq_true', List.contains_eq_mem, decide_eq_false_iff_not] at h5
    exact h5 this
  exact ⟨⟨d1, fun t ht => (d2 t ht).2, u1, fun q hq => (u2 q hq).2⟩, ⟨d2, fun t ht => (d1 t ht).2, u2, fun q hq => (u1 q hq).2⟩⟩
theorem reach_spec {ops : Array Oper} {j : Nat} : ∀ (n i : Nat), reach n ops j i = true → Bf ops j i := by
  intro n
  induction n with
  | zero => intro i h; cases h
  | succ n ih =>
    intro i h
    unfold reach at h
    cases ho : ops[i]? with
    | none => rw [ho] at h; cases h
    | some o =>
      rw [ho] at h
      obtain ⟨e, he, hb⟩ := List.any_eq_true.1 h
      have he := Array.mem_toList_iff.1 he
      rw [Bool.and_eq_true, Bool.or_eq_true] at hb
      rcases hb.2 with h1 | h1
      · rw [← Nat.eq_of_beq_eq_true h1]; exact .edge ho he hb.1
      · exact .step ho he hb.1 (ih _ h1)
def noConf (ops : Array Oper) (acc : List Fp) : Bool :=
  (List.range ops.size).all fun i => match ops[i]? with
    | none => true
    | some o => (o.after.toList.all fun e => !Region.binds .any e || Nat.blt e.on i) && (List.range i).all fun j => match ops[j]? with
      | none => true
      | some o' => freeB ops o o' (acc.reverse.getD i ([], [])) (acc.reverse.getD j ([], [])) || reach 6 ops j i
def dstsOK (ops : Array Oper) (N : Nat) : Bool := ops.toList.all fun o => match o.dst with | some t => Nat.blt t N | none => true
theorem dstsOK_spec {ops : Array Oper} {N : Nat} (h : dstsOK ops N = true) : ∀ (t j : Nat) (o' : Oper), ops[j]? = some o' → o'.dst = some t → t < N := by
  intro t j o hj hd
  have := List.all_eq_true.1 h o (Array.mem_toList_iff.2 (Array.mem_of_getElem? hj))
  rw [hd] at this
  exact Nat.le_of_ble_eq_true this
/-- What follows holds, whatever the memory says of the abstract state. -/
structure AWP (P : Program) (N : Nat) (c : Code) (Q : Exit → St → Prop) (s : St) : Prop where
  out : ∀ W β w a, Sim W N β w a s → c.wp P (fun e a' w' => ∃ β' s', Sim W N β' w' a' s' ∧ Q e s') a w
theorem sufB_spec {ops : Array Oper} {k : Nat} (h : sufB ops k = true) : ∀ i j, k ≤ i → j < i → i < ops.size → Bf ops j i := by
  intro i j hk hj hi
  have h1 := List.all_eq_true.1 h i (List.mem_range.2 hi)
  rw [Bool.or_eq_true] at h1
  rcases h1 with h1 | h1
  · have := Nat.le_of_ble_eq_true h1; omega
  · exact reach_spec 40 i (List.all_eq_true.1 h1 j (List.mem_range.2 hj))
theorem awp_region {P : Program} {N : Nat} {id : Nat} {ops : Array Oper} {dr : Bool} {Q : Exit → St → Prop} {s : St} (hm : P.follows .mixedOrders = true) (hN : dstsOK ops N = true)
    (h : AOps P ops ops.toList s [] (fun s' acc => (dr = false ∨ noConf ops acc = true) ∧ Q .normal s')) : AWP P N (.region id ops dr) Q s := by
  refine ⟨fun W β w a hs => ?_⟩
  obtain ⟨D, m, s1, s', hml, hrun, hx, hsuf, hc, hQ⟩ := AOps.run ops.toList 0 s [] rfl (by simp) h
  have hlen : ops.toList.length = ops.size := Array.length_toList
  rw [hlen] at hml hsuf
  rw [hlen, ← List.range_eq_range'] at hc
  have hN' := dstsOK_spec hN
  have hxl : (ops.toList.drop m).length = ops.size - m := by rw [List.length_drop, hlen]
  have htail : ∀ β' a' w', Sim W N β' w' a' s1 → wpOps P ops (fun e a' w' => ∃ β' s', Sim W N β' w' a' s' ∧ Q e s') (List.range' m (ops.size - m)) a' w' := fun β' a' w' hs' => by
    have := xrun_wp (Q := fun e a' w' => ∃ β' s', Sim W N β' w' a' s' ∧ Q e s') hN' (ops.toList.drop m) m s1 s' β' w' a' rfl hx hs' (fun β2 a2 w2 h2 => ⟨β2, s', h2, hQ⟩)
    rwa [hxl] at this
  cases dr with
  | false =>
    refine wp_region ?_
    rw [List.range_eq_range', show ops.size = m + (ops.size - m) by omega, ← List.range'_append_1, Nat.zero_add]
    have key : ∀ (l : List Nat) (s : St) (β : Nat → Nat → Value) (w : World) (a : Act), RunL P ops D l s s1 → Sim W N β w a s → wpOps P ops (fun e a' w' => ∃ β' s', Sim W N β' w' a' s' ∧ Q e s') (l ++ List.range' m (ops.size - m)) a w := by
      intro l
      induction l with
      | nil => rintro s β w a rfl hs; exact htail β a w hs
      | cons i l ih =>
        rintro s β w a ⟨o, ho, hr, h⟩ hs
        rw [List.cons_append, wpOps_cons]
        exact rok_op ho hr hs hN' (fun β' a' w' hs' => ih _ β' w' a' h hs')
    have := key _ s β w a hrun hs
    exact this
  | true =>
    have hc : noConf ops (((List.range ops.size).map fun k => ((D k).rd, (D k).upd.map (·.1))).reverse ++ []) = true := by
      rcases hc with h | h
      · cases h
      · exact h
    have hget : ∀ i, i < ops.size → (((List.range ops.size).map fun k => ((D k).rd, (D k).upd.map (·.1))).reverse ++ ([] : List Fp)).reverse.getD i ([], []) = ((D i).rd, (D i).upd.map (·.1)) := by
      intro i hi
      rw [List.append_nil, List.reverse_reverse, List.getD_eq_getElem?_getD, List.getElem?_map, List.getElem?_range hi]; rfl
    have hl : left ops (Array.replicate ops.size false) = List.range' 0 m ++ List.range' m (ops.size - m) := by
      rw [show List.range' 0 m ++ List.range' m (ops.size - m) = List.range ops.size by
        have := List.range'_append_1 (s := 0) (m := m) (n := ops.size - m)
        rw [Nat.zero_add] at this
        rw [this, List.range_eq_range', show m + (ops.size - m) = ops.size by omega]]
      unfold left
      refine List.filter_eq_self.2 fun i hi => ?_
      have := List.mem_range.1 hi
      simp [this]
    refine wp_region_any hm (run_any (D := D) (k0 := m) hN' ?_ ?_ ?_ ops.size _ s s1 β _ a (by simp) ?_ (by rw [hl]; simp; omega) (List.range' 0 m) hl (fun i hi => by have := (List.mem_range'_1.1 hi).2; omega) hrun (hs.later ⟨rfl, rfl, rfl, Nat.le_refl _, fun _ _ => rfl⟩) htail)
    · intro i o ho e he hb
      have h1 := List.all_eq_true.1 hc i (List.mem_range.2 (Array.getElem?_eq_some_iff.1 ho).1)
      rw [ho] at h1
      simp only [] at h1
      rw [Bool.and_eq_true] at h1
      have h2 := List.all_eq_true.1 h1.1 e (Array.mem_toList_iff.2 he)
      rw [hb] at h2
      simp at h2
      exact h2
    · intro i j hk hj hi
      rcases hsuf with h | h
      · rw [Nat.zero_add] at h; exact sufB_spec h i j hk hj hi
      · omega
    · intro j i oj oi hji hik hj hi hnb
      have hlt := (Array.getElem?_eq_some_iff.1 hi).1
      have h1 := List.all_eq_true.1 hc i (List.mem_range.2 hlt)
      rw [hi] at h1
      simp only [] at h1
      rw [Bool.and_eq_true] at h1
      have h2 := List.all_eq_true.1 h1.2 j (List.mem_range.2 hji)
      rw [hj] at h2
      simp only [] at h2
      rw [Bool.or_eq_true] at h2
      rcases h2 with h2 | h2
      · rw [hget i hlt, hget j (by omega)] at h2
        exact freeB_spec h2
      · exact absurd (reach_spec 6 i h2) hnb
    · intro i o ho hl'
      rw [Array.getD_eq_getD_getElem?, Array.getElem?_replicate] at hl'
      split at hl' <;> cases hl'
end Go.Proofs.Ytpclkgjhfhhddaa.AM
/- The abstract state goes on: a new block, a block that turns. -/
namespace Go.Proofs.Ytpclkgjhfhhddaa.AM
open Go Go.RowKit Go.Proofs.Ytpclkgjhfhhddaa.PN Go.Proofs.Ytpclkgjhfhhddaa.V
set_option linter.unusedVariables false
set_option linter.unusedSimpArgs false
/-- What an operand says. -/
def avo (s : St) : Operand → Option AV
  | .tmp t => s.env t
  | .const v => some (.v v)
  | .func f => some (.v (.func (.func f) #[] #[]))
  | .global _ => none
theorem Sim.opd {W : Wd} {N : Nat} {β : Nat → Nat → Value} {w : World} {a : Act} {s : St} (h : Sim W N β w a s) {x : Operand} {y : AV} (hx : avo s x = some y) : y.ok s.used ∧ RV (notOwn W s β) W.w.heap.size β w y (a.eval x) := by
  cases x with
  | tmp t =>
    have := h.env t y hx
    rwa [show a.eval (.tmp t) = a.tmps.getD t undef from rfl]
  | const v => cases hx; exact ⟨trivial, rfl⟩
  | func f => cases hx; exact ⟨trivial, rfl⟩
  | global g => cases hx
/-- Like to s in what an operation looks at. -/
structure Like (o : Oper) (rd : List Nat) (s s2 : St) : Prop where
  env : ∀ t, Operand.tmp t ∈ o.op.operands → s2.env t = s.env t
  heap : ∀ g ∈ rd, s2.heap g = s.heap g
theorem Like.avo {o : Oper} {rd : List Nat} {s s2 : St} (h : Like o rd s s2) {x : Operand} (hx : x ∈ o.op.operands) : avo s2 x = avo s x := by
  cases x with
  | tmp t => exact h.env t hx
  | const v => rfl
  | func f => rfl
  | global g => rfl
/-- An operation that reckons, and leaves memory as it is. -/
theorem lok_val {P : Program} {o : Oper} {s : St} {r : Option AV} {rd : List Nat}
    (h : ∀ s2, Like o rd s s2 → ∀ W N β w a, Sim W N β w a s2 → ∃ v, (execOp a.eval o).run P w = .ok (.value v) w ∧ ∀ x, r = some x → x.ok s2.used ∧ RV (notOwn W s2 β) W.w.heap.size β w x v) : LOK P o s ⟨r, [], rd⟩ := by
  refine ⟨fun g hb => (by obtain ⟨b, hb⟩ := hb; cases hb), fun s2 h1 h2 _ _ W N β w a hs hN K Q hK => ?_⟩
  obtain ⟨v, hr, hv⟩ := h s2 ⟨h1, h2⟩ W N β w a hs
  unfold Oper.wp
  rw [hr]
  exact hK β _ w (hs.putv hN (fun x hx _ => hv x hx))
/-- Block r of family g turns. -/
theorem Sim.turnfam {W : Wd} {N : Nat} {β : Nat → Nat → Value} {w w' : World} {a : Act} {s : St} (h : Sim W N β w a s) {g n r : Nat} {F F' : Nat → Blk} (hg : s.heap g = some (n, F)) (hr : r < n)
    (ext : Ext (fun i => ub (β g r) = some i) w w') (kW : Kept W.w w') (hF : ∀ r', r' < n → r' ≠ r → F' r' = F r')
    (hb : (F' r).ok s.used ∧ RB (notOwn W s β) W.w.heap.size β w' (β g r) (F' r)) : Sim W N β w' a (turn s [(g, some (n, F'))]) := by
  have hown : ∀ i, Own (turn s [(g, some (n, F'))]) β i ↔ Own s β i := by
    intro i
    constructor
    · rintro ⟨g', n', F1, r', h1, h2, h3⟩
      have h1 : put s.heap g (some (n, F')) g' = some (n', F1) := h1
      by_cases e : g' = g
      · subst e; rw [put_same] at h1; cases h1; exact ⟨g', n, F, r', hg, h2, h3⟩
      · rw [put_ne _ _ e] at h1; exact ⟨g', n', F1, r', h1, h2, h3⟩
    · rintro ⟨g', n', F1, r', h1, h2, h3⟩
      by_cases e : g' = g
      · subst e; rw [hg] at h1; cases h1; exact ⟨g', n, F', r', put_same _ _ _, h2, h3⟩
      · exact ⟨g', n', F1, r', (put_ne _ _ e).trans h1, h2, h3⟩
  have hno : notOwn W (turn s [(g, some (n, F'))]) β = notOwn W s β := by funext i; exact propext (and_congr_right fun _ => not_congr (hown i))
  have hU : (turn s [(g, some (n, F'))]).used = s.used := by
    funext i
    show mark s.used g i = s.used i
    by_cases e : i = g
    · subst e; rw [mark_same]; exact (h.live _ _ _ hg).symm
    · exact mark_ne _ e
  have k : Fwd (notOwn W s β) (notOwn W s β) W.w.heap.size W.w.heap.size s.used β β (fun i => ub (β g r) = some i) w w' :=
    ⟨ext, fun b hb e => hb.2 ⟨g, n, F, r, hg, hr, e⟩, fun _ h _ => h, Nat.le_refl _, fun _ _ _ => rfl⟩
  refine ⟨kW, h.nodef, h.size, fun t x hx => ?_, fun g' n' F1 r' h1 h2 => ?_, fun g' n' F1 h1 => ?_, fun g1 n1 F1 r1 g2 n2 F2 r2 i h1 h2 h3 h4 h5 h6 => ?_, h.fix.trans ext (fun i hi => h.pin i ⟨g, n, F, r, hg, hr, hi⟩), fun i ho => h.pin i ((hown i).1 ho), h.fixd, fun u hu i hi => by rw [hU]; exact h.keep u hu i hi⟩
  · rw [hno, hU]; exact ⟨(h.env t x hx).1, (h.env t x hx).2.fwd k (h.env t x hx).1⟩
  · rw [hno, hU]
    have h1 : put s.heap g (some (n, F')) g' = some (n', F1) := h1
    by_cases e : g' = g
    · subst e
      rw [put_same] at h1; cases h1
      by_cases e2 : r' = r
      · subst e2; exact hb
      · rw [hF r' h2 e2]
        obtain ⟨q1, q2⟩ := h.heap _ _ _ _ hg h2
        exact ⟨q1, RB.fwd k q1 (fun i hi hi' => e2 (h.inj _ _ _ _ _ _ _ _ i hg h2 hg hr hi hi').2) q2⟩
    · rw [put_ne _ _ e] at h1
      obtain ⟨q1, q2⟩ := h.heap _ _ _ _ h1 h2
      exact ⟨q1, RB.fwd k q1 (fun i hi hi' => e (h.inj _ _ _ _ _ _ _ _ i h1 h2 hg hr hi hi').1) q2⟩
  · rw [hU]
    have h1 : put s.heap g (some (n, F')) g' = some (n', F1) := h1
    by_cases e : g' = g
    · subst e; exact h.live _ _ _ hg
    · rw [put_ne _ _ e] at h1; exact h.live _ _ _ h1
  · have key : ∀ g1 n1 F1 r1, (turn s [(g, some (n, F'))]).heap g1 = some (n1, F1) → r1 < n1 → ∃ n2 F2, s.heap g1 = some (n2, F2) ∧ r1 < n2 := by
      intro g1 n1 F1 r1 h1 h2
      have h1 : put s.heap g (some (n, F')) g1 = some (n1, F1) := h1
      by_cases e : g1 = g
      · subst e; rw [put_same] at h1; cases h1; exact ⟨n, F, hg, h2⟩
      · rw [put_ne _ _ e] at h1; exact ⟨n1, F1, h1, h2⟩
    obtain ⟨m1, G1, a1, a2⟩ := key _ _ _ _ h1 h2
    obtain ⟨m2, G2, b1, b2⟩ := key _ _ _ _ h3 h4
    exact h.inj _ _ _ _ _ _ _ _ i a1 a2 b1 b2 h5 h6
def setv (β : Nat → Nat → Value) (g : Nat) (u : Value) : Nat → Nat → Value := fun g' r => if g' = g then u else β g' r
def gone : Option Nat → List (Nat × Option Fam)
  | some o => [(o, none)]
  | none => []
/-- A new family of one block, in the place of an old one, perhaps. -/
theorem Sim.newfam {W : Wd} {N : Nat} {β : Nat → Nat → Value} {w w' : World} {a : Act} {s : St} (h : Sim W N β w a s) {g : Nat} (hg : s.used g = false) (old : Option Nat) (hold : ∀ o, old = some o → s.used o = true) (u : Value) (b : Blk) {O : Nat → Prop}
    (kW : Kept W.w w') (ext : Ext O w w') (hO : ∀ i, O i → ∃ o n F r, old = some o ∧ s.heap o = some (n, F) ∧ r < n ∧ ub (β o r) = some i)
    (hu : ∀ i, ub u = some i → w.heap.size ≤ i ∨ ∃ o n F r, old = some o ∧ s.heap o = some (n, F) ∧ r < n ∧ ub (β o r) = some i)
    (hb : ∀ S' β', Fwd (notOwn W s β) S' W.w.heap.size W.w.heap.size s.used β β' O w w' → b.ok s.used ∧ RB S' W.w.heap.size β' w' u b) :
    Sim W N (setv β g u) w' a (turn s (gone old ++ [(g, some (1, fun _ => b))])) := by
  have hgh : s.heap g = none := by
    cases e : s.heap g with
    | none => rfl
    | some p => have := h.live g p.1 p.2 e; rw [hg] at this; cases this
  have hog : ∀ o, old = some o → o ≠ g := fun o ho e => by have := hold o ho; rw [e, hg] at this; cases this
  have hheap : ∀ g', (turn s (gone old ++ [(g, some (1, fun _ => b))])).heap g' = if g' = g then some (1, fun _ => b) else if old = some g' then none else s.heap g' := by
    intro g'
    cases old with
    | none =>
      show put s.heap g _ g' = _
      by_cases e : g' = g
      · subst e; rw [put_same, if_pos rfl]
      · rw [put_ne _ _ e, if_neg e, if_neg (by simp)]
    | some o =>
      show put (put s.heap o none) g _ g' = _
      by_cases e : g' = g
      · subst e; rw [put_same, if_pos rfl]
      · rw [put_ne _ _ e, if_neg e]
        by_cases e2 : g' = o
        · subst e2; rw [put_same, if_pos rfl]
        · rw [put_ne _ _ e2, if_neg (by simpa using Ne.symm e2)]
  have hused : ∀ g', s.used g' = true → (turn s (gone old ++ [(g, some (1, fun _ => b))])).used g' = true := fun g' hh => turn_used_mono _ _ _ hh
  have husedg : (turn s (gone old ++ [(g, some (1, fun _ => b))])).used g = true := by
    cases old with
    | none => exact mark_same _ _
    | some o => exact mark_same _ _
  generalize hs' : turn s (gone old ++ [(g, some (1, fun _ => b))]) = s' at *
  have henv : s'.env = s.env := by rw [← hs']; exact turn_env _ _
  -- own blocks behind it
  have hownr : ∀ i, Own s' (setv β g u) i → ub u = some i ∨ Own s β i := by
    rintro i ⟨g', n', F1, r', h1, h2, h3⟩
    rw [hheap] at h1
    unfold setv at h3
    by_cases e : g' = g
    · rw [if_pos e] at h3; exact .inl h3
    · rw [if_neg e] at h3 h1
      split at h1
      · cases h1
      · exact .inr ⟨g', n', F1, r', h1, h2, h3⟩
  have k : Fwd (notOwn W s β) (notOwn W s' (setv β g u)) W.w.heap.size W.w.heap.size s.used β (setv β g u) O w w' := by
    refine ⟨ext, fun i hi ho => ?_, fun i hi hlt => ⟨hi.1, fun ho => ?_⟩, Nat.le_refl _, fun g' r hu' => ?_⟩
    · obtain ⟨o, n, F, r, h1, h2, h3, h4⟩ := hO i ho
      exact hi.2 ⟨o, n, F, r, h2, h3, h4⟩
    · rcases hownr i ho with h1 | h1
      · rcases hu i h1 with h2 | ⟨o, n, F, r, h2, h3, h4, h5⟩
        · omega
        · exact hi.2 ⟨o, n, F, r, h3, h4, h5⟩
      · exact hi.2 h1
    · unfold setv
      rw [if_neg (fun e => by rw [e, hg] at hu'; cases hu')]
  refine ⟨kW, h.nodef, h.size, fun t x hx => ?_, fun g' n' F1 r' h1 h2 => ?_, fun g' n' F1 h1 => ?_, fun g1 n1 F1 r1 g2 n2 F2 r2 i h1 h2 h3 h4 h5 h6 => ?_, h.fix.trans ext (fun i hi => by obtain ⟨o, n, F, r, _, h2, h3, h4⟩ := hO i hi; exact h.pin i ⟨o, n, F, r, h2, h3, h4⟩), fun i ho => by
    rcases hownr i ho with h1 | h1
    · rcases hu i h1 with h2 | ⟨o, n, F, r, _, h3, h4, h5⟩
      · intro hP
        have := W.lt i hP
        have := h.fix.size
        omega
      · exact h.pin i ⟨o, n, F, r, h3, h4, h5⟩
    · exact h.pin i h1, fun v hv i hi => by rw [← h.fixd v hv i hi]; funext r; unfold setv; rw [if_neg (fun e => by have := h.keep v hv i hi; rw [e, hg] at this; cases this)], fun v hv i hi => hused _ (h.keep v hv i hi)⟩
  · rw [henv] at hx
    exact ⟨AV.ok_mono hused (h.env t x hx).1, (h.env t x hx).2.fwd k (h.env t x hx).1⟩
  · rw [hheap] at h1
    by_cases e : g' = g
    · subst e
      rw [if_pos rfl] at h1
      cases h1
      have hb' := hb _ _ k
      refine ⟨?_, ?_⟩
      · cases b with
        | rats n f => trivial
        | ones T n f => exact fun j hj => AV.ok_mono hused (hb'.1 j hj)
        | lims n f => exact hused _ hb'.1
      · rw [show setv β g' u g' r' = u from if_pos rfl]
        exact hb'.2
    · rw [if_neg e] at h1
      split at h1
      · cases h1
      · rename_i e2
        obtain ⟨q1, q2⟩ := h.heap _ _ _ _ h1 h2
        refine ⟨?_, ?_⟩
        · cases hF : F1 r' with
          | rats n f => trivial
          | ones T n f => rw [hF] at q1; exact fun j hj => AV.ok_mono hused (q1 j hj)
          | lims n f => rw [hF] at q1; exact hused _ q1
        · rw [show setv β g u g' r' = β g' r' from if_neg e]
          refine RB.fwd k q1 (fun i hi ho => ?_) q2
          obtain ⟨o, n, F, r, a1, a2, a3, a4⟩ := hO i ho
          have := (h.inj _ _ _ _ _ _ _ _ i h1 h2 a2 a3 hi a4).1
          rw [this] at e2
          exact e2 a1
  · rw [hheap] at h1
    by_cases e : g' = g
    · subst e; exact husedg
    · rw [if_neg e] at h1
      split at h1
      · cases h1
      · exact hused _ (h.live _ _ _ h1)
  · rw [hheap] at h1 h3
    unfold setv at h5 h6
    -- a block of the new family is none of another one's
    have far : ∀ g' n' F' r', g' ≠ g → (if old = some g' then none else s.heap g') = some (n', F') → r' < n' → ub (β g' r') = some i → ub u = some i → False := by
      intro g' n' F' r' hne hh hr' hb1 hb2
      split at hh
      · cases hh
      · rename_i e2
        rcases hu i hb2 with h7 | ⟨o, n, F, r, a1, a2, a3, a4⟩
        · -- an old block lies below
          obtain ⟨_, q2⟩ := h.heap _ _ _ _ hh hr'
          have hlt : i < w.heap.size := by
            have hat : ∀ {k n sz size : Nat}, IsAt (β g' r') k n sz size → k = i := by
              intro k n sz size ha
              rcases ha with ⟨e, _⟩ | ⟨_, e, _⟩ <;> rw [e] at hb1 <;> simpa [ub] using hb1
            cases hF : F' r' with
            | rats n f =>
              rw [hF] at q2
              rcases q2 with ⟨e, _⟩ | ⟨k, cs, _, hr, ha, _⟩
              · rw [e] at hb1; cases hb1
              · rw [← hat ha]; exact hr.lt
            | ones T n f =>
              rw [hF] at q2
              rcases q2.2 with ⟨e, _⟩ | ⟨k, cs, _, hr, ha, _⟩
              · rw [e] at hb1; cases hb1
              · rw [← hat ha]; exact hr.lt
            | lims n f =>
              rw [hF] at q2
              rcases q2 with ⟨e, _⟩ | ⟨k, cs, _, hr, ha, _⟩
              · rw [e] at hb1; cases hb1
              · rw [← hat ha]; exact hr.lt
          omega
        · have := (h.inj _ _ _ _ _ _ _ _ i hh hr' a2 a3 hb1 a4).1
          rw [this] at e2
          exact e2 a1
    by_cases e1 : g1 = g
    · rw [if_pos e1] at h1 h5
      cases h1
      by_cases e2 : g2 = g
      · rw [if_pos e2] at h3
        cases h3
        exact ⟨e1.trans e2.symm, by omega⟩
      · rw [if_neg e2] at h3 h6
        exact (far _ _ _ _ e2 h3 h4 h6 h5).elim
    · rw [if_neg e1] at h1 h5
      by_cases e2 : g2 = g
      · rw [if_pos e2] at h3 h6
        exact (far _ _ _ _ e1 h1 h2 h5 h6).elim
      · rw [if_neg e2] at h3 h6
        split at h1
        · cases h1
        · split at h3
          · cases h3
          · exact h.inj _ _ _ _ _ _ _ _ i h1 h2 h3 h4 h5 h6
end Go.Proofs.Ytpclkgjhfhhddaa.AM

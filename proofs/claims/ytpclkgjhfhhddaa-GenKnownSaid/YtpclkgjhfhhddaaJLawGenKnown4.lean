/- Joined texts, 4: AmC AmD AmE. -/
import Derived.Test.YtpclkgjhfhhddaaJLawGenKnown3
set_option linter.unusedVariables false
set_option linter.unusedSimpArgs false
/- Regions and code over the abstract state. -/
namespace Go.Proofs.Ytpclkgjhfhhddaa.AM
open Go Go.RowKit Go.Proofs.Ytpclkgjhfhhddaa.PN Go.Proofs.Ytpclkgjhfhhddaa.V
set_option linter.unusedVariables false
set_option linter.unusedSimpArgs false
theorem getD_set_ne' {tmps : Array Value} {t t' : Nat} {v : Value} (h : t' ≠ t) : (tmps.setIfInBounds t' v).getD t undef = tmps.getD t undef := by
  rw [Array.getD_eq_getD_getElem?, Array.getD_eq_getD_getElem?, Array.getElem?_setIfInBounds_ne h]
theorem getD_set_same' {tmps : Array Value} {t : Nat} {v : Value} (h : t < tmps.size) : (tmps.setIfInBounds t v).getD t undef = v := by
  rw [Array.getD_eq_getD_getElem?, Array.getElem?_setIfInBounds_self_of_lt h]; rfl
/-- A slot is written. -/
theorem Sim.putv {W : Wd} {N : Nat} {β : Nat → Nat → Value} {w : World} {a : Act} {s : St} (h : Sim W N β w a s) {d : Option Tmp} {v : Value} {r : Option AV}
    (hN : ∀ t, d = some t → t < N) (hr : ∀ x, r = some x → d ≠ none → x.ok s.used ∧ RV (notOwn W s β) W.w.heap.size β w x v) :
    Sim W N β w (a.put d v) (s.app d ⟨r, [], []⟩) := by
  cases d with
  | none => exact h
  | some t =>
    have hlt := hN t rfl
    refine ⟨h.kept, h.nodef, by show (a.tmps.setIfInBounds t v).size = N; rw [Array.size_setIfInBounds, h.size], fun t' x hx => ?_, h.heap, h.live, h.inj, h.fix, h.pin, h.fixd, h.keep⟩
    show x.ok s.used ∧ RV (notOwn W s β) W.w.heap.size β w x ((a.tmps.setIfInBounds t v).getD t' undef)
    have hx : put s.env t r t' = some x := hx
    by_cases e : t' = t
    · subst e
      rw [put_same] at hx
      rw [getD_set_same' (by rw [h.size]; exact hlt)]
      exact hr x hx (by simp)
    · rw [put_ne _ _ e] at hx
      rw [getD_set_ne' (Ne.symm e)]
      exact h.env t' x hx
theorem rok_op {P : Program} {ops : Array Oper} {i : Nat} {o : Oper} (ho : ops[i]? = some o) {s : St} {D : Dsc} (h : ROK P ops o s D) {W : Wd} {N : Nat} {β : Nat → Nat → Value} {w : World} {a : Act} (hs : Sim W N β w a s)
    (hN : ∀ (t j : Nat) (o' : Oper), ops[j]? = some o' → o'.dst = some t → t < N) {K : Act → World → Prop} {Q : Exit → Act → World → Prop} (hK : ∀ β' a' w', Sim W N β' w' a' (s.app o.dst D) → K a' w') : wpOp P ops Q i K a w := by
  unfold wpOp
  rw [ho]
  simp only []
  rcases h with ⟨hg, h0, h1⟩ | ⟨hg, rfl⟩
  · rw [gd_wanted hg hs hN, if_pos rfl]
    exact .inl (h1 s (fun _ _ => rfl) (fun _ _ => rfl) (fun _ _ h => h) h0 W N β w a hs (fun t ht => hN t i o ho ht) K Q hK)
  · rw [gd_wanted hg hs hN, if_neg (by simp)]
    exact hK β _ w (hs.putv (fun t ht => hN t i o ho ht) (fun x hx _ => by cases hx; exact ⟨trivial, rfl⟩))
/-- One behind the other, as they stand. -/
theorem run_text {P : Program} {ops : Array Oper} {D : Nat → Dsc} {W : Wd} {N : Nat} {Q : Exit → Act → World → Prop} (hN : ∀ (t j : Nat) (o' : Oper), ops[j]? = some o' → o'.dst = some t → t < N) :
    ∀ (l : List Nat) (s s' : St) (β : Nat → Nat → Value) (w : World) (a : Act), RunL P ops D l s s' → Sim W N β w a s → (∀ β' a' w', Sim W N β' w' a' s' → Q .normal a' w') → wpOps P ops Q l a w := by
  intro l
  induction l with
  | nil => rintro s s' β w a rfl hs hQ; exact hQ β a w hs
  | cons i l ih =>
    rintro s s' β w a ⟨o, ho, hr, h⟩ hs hQ
    rw [wpOps_cons]
    exact rok_op ho hr hs hN (fun β' a' w' hs' => ih _ s' β' w' a' h hs' hQ)
/-! ### Whatever order is drawn -/
/-- Number j comes ahead of number i, whatever is drawn. -/
inductive Bf (ops : Array Oper) : Nat → Nat → Prop where
  | edge {i : Nat} {o : Oper} (ho : ops[i]? = some o) {e : Edge} (he : e ∈ o.after) (hb : Region.binds .any e = true) : Bf ops e.on i
  | step {i j : Nat} {o : Oper} (ho : ops[i]? = some o) {e : Edge} (he : e ∈ o.after) (hb : Region.binds .any e = true) (h : Bf ops j e.on) : Bf ops j i
def Closed (ops : Array Oper) (listed : Array Bool) : Prop := ∀ i o, ops[i]? = some o → listed.getD i false = true → ∀ e ∈ o.after, Region.binds .any e = true → listed.getD e.on false = true
theorem Bf.listed {ops : Array Oper} {listed : Array Bool} (hc : Closed ops listed) {j i : Nat} (h : Bf ops j i) : listed.getD i false = true → listed.getD j false = true := by
  induction h with
  | edge ho he hb => exact fun hl => hc _ _ ho hl _ he hb
  | step ho he hb _ ih => exact fun hl => ih (hc _ _ ho hl _ he hb)
theorem Bf.of_ready {ops : Array Oper} {listed : Array Bool} (hc : Closed ops listed) {i : Nat} (hr : i ∈ Region.ready .any ops listed) {j : Nat} (h : Bf ops j i) : listed.getD j false = true := by
  obtain ⟨h0, o, ho, hall⟩ := mem_ready.1 hr
  cases h with
  | edge ho' he hb => rw [ho] at ho'; cases ho'; exact hall _ he hb
  | step ho' he hb h => rw [ho] at ho'; cases ho'; exact h.listed hc (hall _ he hb)
def left (ops : Array Oper) (listed : Array Bool) : List Nat := (List.range ops.size).filter fun i => !listed.getD i true
theorem mem_left {ops : Array Oper} {listed : Array Bool} {i : Nat} : i ∈ left ops listed ↔ i < ops.size ∧ listed.getD i true = false := by
  unfold left; rw [List.mem_filter, List.mem_range]; simp
theorem left_parts {ops : Array Oper} {listed : Array Bool} {i : Nat} (h : i ∈ left ops listed) : ∃ l l', left ops listed = l ++ i :: l' ∧ left ops (listed.setIfInBounds i true) = l ++ l' ∧ ∀ j ∈ l, j < i := by
  obtain ⟨hi, hl⟩ := mem_left.1 h
  have key : ∀ n, (∀ j, j < n → j ≠ i → (!listed.getD j true) = (!(listed.setIfInBounds i true).getD j true)) := fun n j _ hne => by rw [getD_set_ne true (Ne.symm hne)]
  have hset : (listed.setIfInBounds i true).getD i true = true := by
    rcases Nat.lt_or_ge i listed.size with h' | h'
    · rw [Array.getD_eq_getD_getElem?, Array.getElem?_setIfInBounds_self_of_lt h']; rfl
    · rw [Array.getD_eq_getD_getElem?, Array.getElem?_eq_none (by rw [Array.size_setIfInBounds]; exact h')]; rfl
  obtain ⟨m, hm⟩ : ∃ m, ops.size = i + 1 + m := ⟨ops.size - (i + 1), by omega⟩
  have hr : List.range ops.size = List.range i ++ i :: (List.range m).map (i + 1 + ·) := by
    rw [hm, List.range_add, List.range_succ, List.append_assoc]; rfl
  refine ⟨(List.range i).filter (fun j => !listed.getD j true), ((List.range m).map (i + 1 + ·)).filter (fun j => !listed.getD j true), ?_, ?_, fun j hj => List.mem_range.1 (List.mem_filter.1 hj).1⟩
  · unfold left
    rw [hr, List.filter_append, List.filter_cons, if_pos (by rw [hl]; rfl)]
  · unfold left
    rw [hr, List.filter_append, List.filter_cons, if_neg (by rw [hset]; simp)]
    congr 1
    · exact List.filter_congr fun j hj => (key _ j (List.mem_range.1 hj) (by have := List.mem_range.1 hj; omega)).symm
    · refine List.filter_congr fun j hj => ?_
      obtain ⟨k, _, rfl⟩ := List.mem_map.1 hj
      exact (key (i + 1 + k + 1) _ (by omega) (by omega)).symm
theorem run_any {P : Program} {ops : Array Oper} {D : Nat → Dsc} {W : Wd} {N : Nat} {Q : Exit → Act → World → Prop} (hN : ∀ (t j : Nat) (o' : Oper), ops[j]? = some o' → o'.dst = some t → t < N)
    (hback : ∀ i o, ops[i]? = some o → ∀ e ∈ o.after, Region.binds .any e = true → e.on < i)
    (hfree : ∀ j i oj oi, j < i → ops[j]? = some oj → ops[i]? = some oi → ¬ Bf ops j i → Free ops oi oj (D i) (D j) ∧ Free ops oj oi (D j) (D i)) :
    ∀ (fuel : Nat) (listed : Array Bool) (s s' : St) (β : Nat → Nat → Value) (w : World) (a : Act), listed.size = ops.size → Closed ops listed → (left ops listed).length ≤ fuel → RunL P ops D (left ops listed) s s' → Sim W N β w a s →
      (∀ β' a' w', Sim W N β' w' a' s' → Q .normal a' w') → wpAny P .any ops Q fuel listed a w := by
  intro fuel
  have ready_nil : ∀ listed : Array Bool, left ops listed = [] → Region.ready .any ops listed = [] := by
    intro listed h
    rw [List.eq_nil_iff_forall_not_mem]
    intro i hi
    obtain ⟨h0, o, ho, _⟩ := mem_ready.1 hi
    have := mem_left.2 ⟨(Array.getElem?_eq_some_iff.1 ho).1, h0⟩
    rw [h] at this; cases this
  induction fuel with
  | zero =>
    intro listed s s' β w a hz hc hf hrun hs hQ
    have hn : left ops listed = [] := List.eq_nil_of_length_eq_zero (by omega)
    rw [hn] at hrun
    cases hrun
    exact ⟨ready_nil _ hn, hQ β a w hs⟩
  | succ fuel ih =>
    intro listed s s' β w a hz hc hf hrun hs hQ
    refine ⟨fun hr => ?_, fun i hi => ?_⟩
    · cases hl : left ops listed with
      | nil => rw [hl] at hrun; cases hrun; exact hQ β a w hs
      | cons i l =>
        exfalso
        have hi : i ∈ left ops listed := by rw [hl]; exact List.mem_cons_self ..
        obtain ⟨hlt, h0⟩ := mem_left.1 hi
        have hoi : ops[i]? = some ops[i] := Array.getElem?_eq_getElem hlt
        have : i ∈ Region.ready .any ops listed := by
          refine mem_ready.2 ⟨h0, _, hoi, fun e he hb => ?_⟩
          have hlt' := hback i _ hoi e he hb
          cases hx : listed.getD e.on false with
          | true => rfl
          | false =>
            exfalso
            have hx' : listed.getD e.on true = false := by
              rw [Array.getD_eq_getD_getElem?, Array.getElem?_eq_getElem (by omega)] at hx ⊢
              exact hx
            have hm := mem_left.2 ⟨(by omega : e.on < ops.size), hx'⟩
            obtain ⟨l1, l2, e1, _, e3⟩ := left_parts hi
            rw [hl] at e1
            have : l1 = [] := by
              cases l1 with
              | nil => rfl
              | cons k l1 =>
                injection e1 with e1 _
                have := e3 k (List.mem_cons_self ..)
                omega
            subst this
            -- the first left one is the least
            have hsorted : ∀ k ∈ left ops listed, i ≤ k := by
              intro k hk
              obtain ⟨m1, m2, f1, _, f3⟩ := left_parts hk
              rw [hl] at f1
              cases m1 with
              | nil => injection f1 with f1 _; omega
              | cons q m1 => injection f1 with f1 _; subst f1; have := f3 i (List.mem_cons_self ..); omega
            have := hsorted _ hm
            omega
        rw [hr] at this
        cases this
    · obtain ⟨h0, o, ho, hall⟩ := mem_ready.1 hi
      have hm := mem_left.2 ⟨(Array.getElem?_eq_some_iff.1 ho).1, h0⟩
      obtain ⟨l, l', e1, e2, e3⟩ := left_parts hm
      rw [e1] at hrun hf
      have hfr : ∀ j ∈ l, ∀ oj, ops[j]? = some oj → Free ops o oj (D i) (D j) ∧ Free ops oj o (D j) (D i) := by
        intro j hj oj hoj
        refine hfree j i oj o (e3 j hj) hoj ho (fun hb => ?_)
        have h1 := hb.of_ready hc hi
        have h2 := (mem_left.1 (show j ∈ left ops listed by rw [e1]; exact List.mem_append_left _ hj)).2
        rw [Array.getD_eq_getD_getElem?] at h1 h2
        cases hx : listed[j]? with
        | none => rw [hx] at h1; cases h1
        | some b => rw [hx] at h1 h2; simp at h1 h2; rw [h1] at h2; cases h2
      obtain ⟨hr, hrun'⟩ := RunL.first ho l l' s s' hfr hrun
      refine rok_op ho hr hs hN (fun β' a' w' hs' => ?_)
      refine ih _ _ s' β' w' a' (by rw [Array.size_setIfInBounds]; exact hz) (fun k ok hk hlk e he hb => ?_) (by rw [e2]; simp at hf ⊢; omega) (by rw [e2]; exact hrun') hs' hQ
      by_cases hki : k = i
      · subst hki; rw [ho] at hk; cases hk; exact getD_set_true (hall e he hb)
      · refine getD_set_true (hc k ok hk ?_ e he hb)
        rw [Array.getD_eq_getD_getElem?, Array.getElem?_setIfInBounds_ne (Ne.symm hki)] at hlk
        rw [Array.getD_eq_getD_getElem?]; exact hlk
/-! ### The walk's own form -/
abbrev Fp := List Nat × List Nat
inductive AOps (P : Program) (ops : Array Oper) : List Oper → St → List Fp → (St → List Fp → Prop) → Prop
  | nil {s : St} {acc : List Fp} {K : St → List Fp → Prop} (h : K s acc) : AOps P ops [] s acc K
  | cons {o : Oper} {l : List Oper} {s : St} {acc : List Fp} {K : St → List Fp → Prop} (D : Dsc) (h : ROK P ops o s D) (k : AOps P ops l (s.app o.dst D) ((D.rd, D.upd.map (·.1)) :: acc) K) : AOps P ops (o :: l) s acc K
theorem RunL.congr {P : Program} {ops : Array Oper} {D D' : Nat → Dsc} : ∀ (l : List Nat) (s s' : St), (∀ i ∈ l, D i = D' i) → RunL P ops D l s s' → RunL P ops D' l s s'
  | [], _, _, _, h => h
  | i :: l, s, s', he, ⟨o, ho, hr, h⟩ => ⟨o, ho, by rw [← he i (List.mem_cons_self ..)]; exact hr, by rw [← he i (List.mem_cons_self ..)]; exact RunL.congr l _ s' (fun k hk => he k (List.mem_cons_of_mem _ hk)) h⟩
theorem AOps.run {P : Program} {ops : Array Oper} {K : St → List Fp → Prop} : ∀ (l : List Oper) (i : Nat) (s : St) (acc : List Fp), ops.toList.drop i = l → AOps P ops l s acc K →
    ∃ (D : Nat → Dsc) (s' : St), RunL P ops D (List.range' i l.length) s s' ∧ K s' (((List.range' i l.length).map fun k => ((D k).rd, (D k).upd.map (·.1))).reverse ++ acc)
  | [], i, s, acc, _, .nil h => ⟨fun _ => skipD, s, rfl, by simpa using h⟩
  | o :: l, i, s, acc, hd, .cons D0 hr h => by
    have ho : ops[i]? = some o := by
      have : ops.toList[i]? = some o := by rw [← List.head?_drop, hd]; rfl
      simpa using this
    have hd' : ops.toList.drop (i + 1) = l := by rw [← List.drop_drop, hd]; rfl
    obtain ⟨D, s', h1, h2⟩ := AOps.run l (i + 1) _ _ hd' h
    have hne : ∀ k ∈ List.range' (i + 1) l.length, (fun k => if k = i then D0 else D k) k = D k := fun k hk => if_neg (by have := (List.mem_range'_1.1 hk).1; omega)
    refine ⟨fun k => if k = i then D0 else D k, s', ⟨o, ho, by simp only [if_true]; exact hr, ?_⟩, ?_⟩
    · simp only [if_true]
      exact RunL.congr _ _ _ (fun k hk => (hne k hk).symm) h1
    · rw [show (o :: l).length = l.length + 1 from rfl, List.range'_succ, List.map_cons, List.reverse_cons, List.append_assoc]
      simp only [if_true]
      rw [List.map_congr_left (g := fun k => ((D k).rd, (D k).upd.map (·.1))) (fun k hk => by rw [show (if k = i then D0 else D k) = D k from hne k hk])]
      exact h2
def freeB (ops : Array Oper) (o o' : Oper) (p p' : Fp) : Bool :=
  (match o.dst with | some t => o'.dst != some t && !(slots ops o').contains t | none => true) && (match o'.dst with | some t => o.dst != some t && !(slots ops o).contains t | none => true) &&
  p.2.all (fun g => !p'.2.contains g && !p'.1.contains g) && p'.2.all (fun g => !p.2.contains g && !p.1.contains g)
theorem freeB_spec {ops : Array Oper} {o o' : Oper} {D D' : Dsc} (h : freeB ops o o' (D.rd, D.upd.map (·.1)) (D'.rd, D'.upd.map (·.1)) = true) : Free ops o o' D D' ∧ Free ops o' o D' D := by
  unfold freeB at h
  rw [Bool.and_eq_true, Bool.and_eq_true, Bool.and_eq_true] at h
  obtain ⟨⟨⟨h1, h2⟩, h3⟩, h4⟩ := h
  have d1 : ∀ t, o.dst = some t → o'.dst ≠ some t ∧ t ∉ slots ops o' := by
    intro t ht; rw [ht] at h1; simpa using h1
  have d2 : ∀ t, o'.dst = some t → o.dst ≠ some t ∧ t ∉ slots ops o := by
    intro t ht; rw [ht] at h2; simpa using h2
  have u1 : ∀ p ∈ D.upd, (∀ q ∈ D'.upd, p.1 ≠ q.1) ∧ p.1 ∉ D'.rd := by
    intro p hp
    have := List.all_eq_true.1 h3 p.1 (List.mem_map_of_mem hp)
    rw [Bool.and_eq_true] at this
    refine ⟨fun q hq e => ?_, by simpa using this.2⟩
    have h5 := this.1
    have : p.1 ∈ D'.upd.map (·.1) := by rw [e]; exact List.mem_map_of_mem hq
    simp only [Bool.not_eq_true', List.contains_eq_mem, decide_eq_false_iff_not] at h5
    exact h5 this
  have u2 : ∀ p ∈ D'.upd, (∀ q ∈ D.upd, p.1 ≠ q.1) ∧ p.1 ∉ D.rd := by
    intro p hp
    have := List.all_eq_true.1 h4 p.1 (List.mem_map_of_mem hp)
    rw [Bool.and_eq_true] at this
    refine ⟨fun q hq e => ?_, by simpa using this.2⟩
    have h5 := this.1
    have : p.1 ∈ D.upd.map (·.1) := by rw [e]; exact List.mem_map_of_mem hq
    simp only [Bool.not_eq_true', List.contains_eq_mem, decide_eq_false_iff_not] at h5
    exact h5 this
  exact ⟨⟨d1, fun t ht => (d2 t ht).2, u1, fun q hq => (u2 q hq).2⟩, ⟨d2, fun t ht => (d1 t ht).2, u2, fun q hq => (u1 q hq).2⟩⟩
def reach : Nat → Array Oper → Nat → Nat → Bool
  | 0, _, _, _ => false
  | n + 1, ops, j, i => match ops[i]? with
    | none => false
    | some o => o.after.toList.any fun e => Region.binds .any e && (Nat.beq e.on j || reach n ops j e.on)
theorem reach_spec {ops : Array Oper} {j : Nat} : ∀ (n i : Nat), reach n ops j i = true → Bf ops j i := by
  intro n
  induction n with
  | zero => intro i h; cases h
  | succ n ih =>
    intro i h
    unfold reach at h
    cases ho : ops[i]? with
    | none => rw [ho] at h; cases h
    | some o =>
      rw [ho] at h
      obtain ⟨e, he, hb⟩ := List.any_eq_true.1 h
      have he := Array.mem_toList_iff.1 he
      rw [Bool.and_eq_true, Bool.or_eq_true] at hb
      rcases hb.2 with h1 | h1
      · rw [← Nat.eq_of_beq_eq_true h1]; exact .edge ho he hb.1
      · exact .step ho he hb.1 (ih _ h1)
def noConf (ops : Array Oper) (acc : List Fp) : Bool :=
  (List.range ops.size).all fun i => match ops[i]? with
    | none => true
    | some o => (o.after.toList.all fun e => !Region.binds .any e || Nat.blt e.on i) && (List.range i).all fun j => match ops[j]? with
      | none => true
      | some o' => freeB ops o o' (acc.reverse.getD i ([], [])) (acc.reverse.getD j ([], [])) || reach 6 ops j i
def dstsOK (ops : Array Oper) (N : Nat) : Bool := ops.toList.all fun o => match o.dst with | some t => Nat.blt t N | none => true
theorem dstsOK_spec {ops : Array Oper} {N : Nat} (h : dstsOK ops N = true) : ∀ (t j : Nat) (o' : Oper), ops[j]? = some o' → o'.dst = some t → t < N := by
  intro t j o hj hd
  have := List.all_eq_true.1 h o (Array.mem_toList_iff.2 (Array.mem_of_getElem? hj))
  rw [hd] at this
  exact Nat.le_of_ble_eq_true this
/-- What follows holds, whatever the memory says of the abstract state. -/
structure AWP (P : Program) (N : Nat) (c : Code) (Q : Exit → St → Prop) (s : St) : Prop where
  out : ∀ W β w a, Sim W N β w a s → c.wp P (fun e a' w' => ∃ β' s', Sim W N β' w' a' s' ∧ Q e s') a w
theorem awp_region {P : Program} {N : Nat} {id : Nat} {ops : Array Oper} {dr : Bool} {Q : Exit → St → Prop} {s : St} (hm : P.follows .mixedOrders = true) (hN : dstsOK ops N = true)
    (h : AOps P ops ops.toList s [] (fun s' acc => (dr = false ∨ noConf ops acc = true) ∧ Q .normal s')) : AWP P N (.region id ops dr) Q s := by
  refine ⟨fun W β w a hs => ?_⟩
  obtain ⟨D, s', hrun, hc, hQ⟩ := AOps.run ops.toList 0 s [] rfl h
  have hlen : ops.toList.length = ops.size := Array.length_toList
  rw [hlen, ← List.range_eq_range'] at hrun hc
  have hN' := dstsOK_spec hN
  cases dr with
  | false => exact wp_region (run_text hN' _ s s' β w a hrun hs (fun β' a' w' hs' => ⟨β', s', hs', hQ⟩))
  | true =>
    have hc : noConf ops (((List.range ops.size).map fun k => ((D k).rd, (D k).upd.map (·.1))).reverse ++ []) = true := by
      rcases hc with h | h
      · cases h
      · exact h
    have hget : ∀ i, i < ops.size → (((List.range ops.size).map fun k => ((D k).rd, (D k).upd.map (·.1))).reverse ++ ([] : List Fp)).reverse.getD i ([], []) = ((D i).rd, (D i).upd.map (·.1)) := by
      intro i hi
      rw [List.append_nil, List.reverse_reverse, List.getD_eq_getElem?_getD, List.getElem?_map, List.getElem?_range hi]; rfl
    have hl : left ops (Array.replicate ops.size false) = List.range ops.size := by
      unfold left
      refine List.filter_eq_self.2 fun i hi => ?_
      have := List.mem_range.1 hi
      simp [this]
    refine wp_region_any hm (run_any (D := D) hN' ?_ ?_ ops.size _ s s' β _ a (by simp) ?_ (by rw [hl]; simp) (by rw [hl]; exact hrun) (hs.later ⟨rfl, rfl, rfl, Nat.le_refl _, fun _ _ => rfl⟩) (fun β' a' w' hs' => ⟨β', s', hs', hQ⟩))
    · intro i o ho e he hb
      have h1 := List.all_eq_true.1 hc i (List.mem_range.2 (Array.getElem?_eq_some_iff.1 ho).1)
      rw [ho] at h1
      simp only [] at h1
      rw [Bool.and_eq_true] at h1
      have h2 := List.all_eq_true.1 h1.1 e (Array.mem_toList_iff.2 he)
      rw [hb] at h2
      simp at h2
      exact h2
    · intro j i oj oi hji hj hi hnb
      have hlt := (Array.getElem?_eq_some_iff.1 hi).1
      have h1 := List.all_eq_true.1 hc i (List.mem_range.2 hlt)
      rw [hi] at h1
      simp only [] at h1
      rw [Bool.and_eq_true] at h1
      have h2 := List.all_eq_true.1 h1.2 j (List.mem_range.2 hji)
      rw [hj] at h2
      simp only [] at h2
      rw [Bool.or_eq_true] at h2
      rcases h2 with h2 | h2
      · rw [hget i hlt, hget j (by omega)] at h2
        exact freeB_spec h2
      · exact absurd (reach_spec 6 i h2) hnb
    · intro i o ho hl'
      rw [Array.getD_eq_getD_getElem?, Array.getElem?_replicate] at hl'
      split at hl' <;> cases hl'
end Go.Proofs.Ytpclkgjhfhhddaa.AM
/- The abstract state goes on: a new block, a block that turns. -/
namespace Go.Proofs.Ytpclkgjhfhhddaa.AM
open Go Go.RowKit Go.Proofs.Ytpclkgjhfhhddaa.PN Go.Proofs.Ytpclkgjhfhhddaa.V
set_option linter.unusedVariables false
set_option linter.unusedSimpArgs false
/-- What an operand says. -/
def avo (s : St) : Operand → Option AV
  | .tmp t => s.env t
  | .const v => some (.v v)
  | .func f => some (.v (.func (.func f) #[] #[]))
  | .global _ => none
theorem Sim.opd {W : Wd} {N : Nat} {β : Nat → Nat → Value} {w : World} {a : Act} {s : St} (h : Sim W N β w a s) {x : Operand} {y : AV} (hx : avo s x = some y) : y.ok s.used ∧ RV (notOwn W s β) W.w.heap.size β w y (a.eval x) := by
  cases x with
  | tmp t =>
    have := h.env t y hx
    rwa [show a.eval (.tmp t) = a.tmps.getD t undef from rfl]
  | const v => cases hx; exact ⟨trivial, rfl⟩
  | func f => cases hx; exact ⟨trivial, rfl⟩
  | global g => cases hx
/-- Like to s in what an operation looks at. -/
structure Like (o : Oper) (rd : List Nat) (s s2 : St) : Prop where
  env : ∀ t, Operand.tmp t ∈ o.op.operands → s2.env t = s.env t
  heap : ∀ g ∈ rd, s2.heap g = s.heap g
theorem Like.avo {o : Oper} {rd : List Nat} {s s2 : St} (h : Like o rd s s2) {x : Operand} (hx : x ∈ o.op.operands) : avo s2 x = avo s x := by
  cases x with
  | tmp t => exact h.env t hx
  | const v => rfl
  | func f => rfl
  | global g => rfl
/-- An operation that reckons, and leaves memory as it is. -/
theorem lok_val {P : Program} {o : Oper} {s : St} {r : Option AV} {rd : List Nat}
    (h : ∀ s2, Like o rd s s2 → ∀ W N β w a, Sim W N β w a s2 → ∃ v, (execOp a.eval o).run P w = .ok (.value v) w ∧ ∀ x, r = some x → x.ok s2.used ∧ RV (notOwn W s2 β) W.w.heap.size β w x v) : LOK P o s ⟨r, [], rd⟩ := by
  refine ⟨fun g hb => (by obtain ⟨b, hb⟩ := hb; cases hb), fun s2 h1 h2 _ _ W N β w a hs hN K Q hK => ?_⟩
  obtain ⟨v, hr, hv⟩ := h s2 ⟨h1, h2⟩ W N β w a hs
  unfold Oper.wp
  rw [hr]
  exact hK β _ w (hs.putv hN (fun x hx _ => hv x hx))
/-- Block r of family g turns. -/
theorem Sim.turnfam {W : Wd} {N : Nat} {β : Nat → Nat → Value} {w w' : World} {a : Act} {s : St} (h : Sim W N β w a s) {g n r : Nat} {F F' : Nat → Blk} (hg : s.heap g = some (n, F)) (hr : r < n)
    (ext : Ext (fun i => ub (β g r) = some i) w w') (kW : Kept W.w w') (hF : ∀ r', r' < n → r' ≠ r → F' r' = F r')
    (hb : (F' r).ok s.used ∧ RB (notOwn W s β) W.w.heap.size β w' (β g r) (F' r)) : Sim W N β w' a (turn s [(g, some (n, F'))]) := by
  have hown : ∀ i, Own (turn s [(g, some (n, F'))]) β i ↔ Own s β i := by
    intro i
    constructor
    · rintro ⟨g', n', F1, r', h1, h2, h3⟩
      have h1 : put s.heap g (some (n, F')) g' = some (n', F1) := h1
      by_cases e : g' = g
      · subst e; rw [put_same] at h1; cases h1; exact ⟨g', n, F, r', hg, h2, h3⟩
      · rw [put_ne _ _ e] at h1; exact ⟨g', n', F1, r', h1, h2, h3⟩
    · rintro ⟨g', n', F1, r', h1, h2, h3⟩
      by_cases e : g' = g
      · subst e; rw [hg] at h1; cases h1; exact ⟨g', n, F', r', put_same _ _ _, h2, h3⟩
      · exact ⟨g', n', F1, r', (put_ne _ _ e).trans h1, h2, h3⟩
  have hno : notOwn W (turn s [(g, some (n, F'))]) β = notOwn W s β := by funext i; exact propext (and_congr_right fun _ => not_congr (hown i))
  have hU : (turn s [(g, some (n, F'))]).used = s.used := by
    funext i
    show mark s.used g i = s.used i
    by_cases e : i = g
    · subst e; rw [mark_same]; exact (h.live _ _ _ hg).symm
    · exact mark_ne _ e
  have k : Fwd (notOwn W s β) (notOwn W s β) W.w.heap.size W.w.heap.size s.used β β (fun i => ub (β g r) = some i) w w' :=
    ⟨ext, fun b hb e => hb.2 ⟨g, n, F, r, hg, hr, e⟩, fun _ h _ => h, Nat.le_refl _, fun _ _ _ => rfl⟩
  refine ⟨kW, h.nodef, h.size, fun t x hx => ?_, fun g' n' F1 r' h1 h2 => ?_, fun g' n' F1 h1 => ?_, fun g1 n1 F1 r1 g2 n2 F2 r2 i h1 h2 h3 h4 h5 h6 => ?_, h.fix.trans (ext.mono fun i hi => h.pin i ⟨g, n, F, r, hg, hr, hi⟩), fun i ho => h.pin i ((hown i).1 ho), h.fixd, fun u hu i hi => by rw [hU]; exact h.keep u hu i hi⟩
  · rw [hno, hU]; exact ⟨(h.env t x hx).1, (h.env t x hx).2.fwd k (h.env t x hx).1⟩
  · rw [hno, hU]
    have h1 : put s.heap g (some (n, F')) g' = some (n', F1) := h1
    by_cases e : g' = g
    · subst e
      rw [put_same] at h1; cases h1
      by_cases e2 : r' = r
      · subst e2; exact hb
      · rw [hF r' h2 e2]
        obtain ⟨q1, q2⟩ := h.heap _ _ _ _ hg h2
        exact ⟨q1, RB.fwd k q1 (fun i hi hi' => e2 (h.inj _ _ _ _ _ _ _ _ i hg h2 hg hr hi hi').2) q2⟩
    · rw [put_ne _ _ e] at h1
      obtain ⟨q1, q2⟩ := h.heap _ _ _ _ h1 h2
      exact ⟨q1, RB.fwd k q1 (fun i hi hi' => e (h.inj _ _ _ _ _ _ _ _ i h1 h2 hg hr hi hi').1) q2⟩
  · rw [hU]
    have h1 : put s.heap g (some (n, F')) g' = some (n', F1) := h1
    by_cases e : g' = g
    · subst e; exact h.live _ _ _ hg
    · rw [put_ne _ _ e] at h1; exact h.live _ _ _ h1
  · have key : ∀ g1 n1 F1 r1, (turn s [(g, some (n, F'))]).heap g1 = some (n1, F1) → r1 < n1 → ∃ n2 F2, s.heap g1 = some (n2, F2) ∧ r1 < n2 := by
      intro g1 n1 F1 r1 h1 h2
      have h1 : put s.heap g (some (n, F')) g1 = some (n1, F1) := h1
      by_cases e : g1 = g
      · subst e; rw [put_same] at h1; cases h1; exact ⟨n, F, hg, h2⟩
      · rw [put_ne _ _ e] at h1; exact ⟨n1, F1, h1, h2⟩
    obtain ⟨m1, G1, a1, a2⟩ := key _ _ _ _ h1 h2
    obtain ⟨m2, G2, b1, b2⟩ := key _ _ _ _ h3 h4
    exact h.inj _ _ _ _ _ _ _ _ i a1 a2 b1 b2 h5 h6
def setv (β : Nat → Nat → Value) (g : Nat) (u : Value) : Nat → Nat → Value := fun g' r => if g' = g then u else β g' r
def gone : Option Nat → List (Nat × Option Fam)
  | some o => [(o, none)]
  | none => []
/-- A new family of one block, in the place of an old one, perhaps. -/
theorem Sim.newfam {W : Wd} {N : Nat} {β : Nat → Nat → Value} {w w' : World} {a : Act} {s : St} (h : Sim W N β w a s) {g : Nat} (hg : s.used g = false) (old : Option Nat) (hold : ∀ o, old = some o → s.used o = true) (u : Value) (b : Blk) {O : Nat → Prop}
    (kW : Kept W.w w') (ext : Ext O w w') (hO : ∀ i, O i → ∃ o n F r, old = some o ∧ s.heap o = some (n, F) ∧ r < n ∧ ub (β o r) = some i)
    (hu : ∀ i, ub u = some i → w.heap.size ≤ i ∨ ∃ o n F r, old = some o ∧ s.heap o = some (n, F) ∧ r < n ∧ ub (β o r) = some i)
    (hb : ∀ S' β', Fwd (notOwn W s β) S' W.w.heap.size W.w.heap.size s.used β β' O w w' → b.ok s.used ∧ RB S' W.w.heap.size β' w' u b) :
    Sim W N (setv β g u) w' a (turn s (gone old ++ [(g, some (1, fun _ => b))])) := by
  have hgh : s.heap g = none := by
    cases e : s.heap g with
    | none => rfl
    | some p => have := h.live g p.1 p.2 e; rw [hg] at this; cases this
  have hog : ∀ o, old = some o → o ≠ g := fun o ho e => by have := hold o ho; rw [e, hg] at this; cases this
  have hheap : ∀ g', (turn s (gone old ++ [(g, some (1, fun _ => b))])).heap g' = if g' = g then some (1, fun _ => b) else if old = some g' then none else s.heap g' := by
    intro g'
    cases old with
    | none =>
      show put s.heap g _ g' = _
      by_cases e : g' = g
      · subst e; rw [put_same, if_pos rfl]
      · rw [put_ne _ _ e, if_neg e, if_neg (by simp)]
    | some o =>
      show put (put s.heap o none) g _ g' = _
      by_cases e : g' = g
      · subst e; rw [put_same, if_pos rfl]
      · rw [put_ne _ _ e, if_neg e]
        by_cases e2 : g' = o
        · subst e2; rw [put_same, if_pos rfl]
        · rw [put_ne _ _ e2, if_neg (by simpa using Ne.symm e2)]
  have hused : ∀ g', s.used g' = true → (turn s (gone old ++ [(g, some (1, fun _ => b))])).used g' = true := fun g' hh => turn_used_mono _ _ _ hh
  have husedg : (turn s (gone old ++ [(g, some (1, fun _ => b))])).used g = true := by
    cases old with
    | none => exact mark_same _ _
    | some o => exact mark_same _ _
  generalize hs' : turn s (gone old ++ [(g, some (1, fun _ => b))]) = s' at *
  have henv : s'.env = s.env := by rw [← hs']; exact turn_env _ _
  -- own blocks behind it
  have hownr : ∀ i, Own s' (setv β g u) i → ub u = some i ∨ Own s β i := by
    rintro i ⟨g', n', F1, r', h1, h2, h3⟩
    rw [hheap] at h1
    unfold setv at h3
    by_cases e : g' = g
    · rw [if_pos e] at h3; exact .inl h3
    · rw [if_neg e] at h3 h1
      split at h1
      · cases h1
      · exact .inr ⟨g', n', F1, r', h1, h2, h3⟩
  have k : Fwd (notOwn W s β) (notOwn W s' (setv β g u)) W.w.heap.size W.w.heap.size s.used β (setv β g u) O w w' := by
    refine ⟨ext, fun i hi ho => ?_, fun i hi hlt => ⟨hi.1, fun ho => ?_⟩, Nat.le_refl _, fun g' r hu' => ?_⟩
    · obtain ⟨o, n, F, r, h1, h2, h3, h4⟩ := hO i ho
      exact hi.2 ⟨o, n, F, r, h2, h3, h4⟩
    · rcases hownr i ho with h1 | h1
      · rcases hu i h1 with h2 | ⟨o, n, F, r, h2, h3, h4, h5⟩
        · omega
        · exact hi.2 ⟨o, n, F, r, h3, h4, h5⟩
      · exact hi.2 h1
    · unfold setv
      rw [if_neg (fun e => by rw [e, hg] at hu'; cases hu')]
  refine ⟨kW, h.nodef, h.size, fun t x hx => ?_, fun g' n' F1 r' h1 h2 => ?_, fun g' n' F1 h1 => ?_, fun g1 n1 F1 r1 g2 n2 F2 r2 i h1 h2 h3 h4 h5 h6 => ?_, h.fix.trans (ext.mono fun i hi => by obtain ⟨o, n, F, r, _, h2, h3, h4⟩ := hO i hi; exact h.pin i ⟨o, n, F, r, h2, h3, h4⟩), fun i ho => by
    rcases hownr i ho with h1 | h1
    · rcases hu i h1 with h2 | ⟨o, n, F, r, _, h3, h4, h5⟩
      · intro hP
        have := W.lt i hP
        have := h.fix.size
        omega
      · exact h.pin i ⟨o, n, F, r, h3, h4, h5⟩
    · exact h.pin i h1, fun v hv i hi => by rw [← h.fixd v hv i hi]; funext r; unfold setv; rw [if_neg (fun e => by have := h.keep v hv i hi; rw [e, hg] at this; cases this)], fun v hv i hi => hused _ (h.keep v hv i hi)⟩
  · rw [henv] at hx
    exact ⟨AV.ok_mono hused (h.env t x hx).1, (h.env t x hx).2.fwd k (h.env t x hx).1⟩
  · rw [hheap] at h1
    by_cases e : g' = g
    · subst e
      rw [if_pos rfl] at h1
      cases h1
      have hb' := hb _ _ k
      refine ⟨?_, ?_⟩
      · cases b with
        | rats n f => trivial
        | ones T n f => exact fun j hj => AV.ok_mono hused (hb'.1 j hj)
      · rw [show setv β g' u g' r' = u from if_pos rfl]
        exact hb'.2
    · rw [if_neg e] at h1
      split at h1
      · cases h1
      · rename_i e2
        obtain ⟨q1, q2⟩ := h.heap _ _ _ _ h1 h2
        refine ⟨?_, ?_⟩
        · cases hF : F1 r' with
          | rats n f => trivial
          | ones T n f => rw [hF] at q1; exact fun j hj => AV.ok_mono hused (q1 j hj)
        · rw [show setv β g u g' r' = β g' r' from if_neg e]
          refine RB.fwd k q1 (fun i hi ho => ?_) q2
          obtain ⟨o, n, F, r, a1, a2, a3, a4⟩ := hO i ho
          have := (h.inj _ _ _ _ _ _ _ _ i h1 h2 a2 a3 hi a4).1
          rw [this] at e2
          exact e2 a1
  · rw [hheap] at h1
    by_cases e : g' = g
    · subst e; exact husedg
    · rw [if_neg e] at h1
      split at h1
      · cases h1
      · exact hused _ (h.live _ _ _ h1)
  · rw [hheap] at h1 h3
    unfold setv at h5 h6
    -- a block of the new family is none of another one's
    have far : ∀ g' n' F' r', g' ≠ g → (if old = some g' then none else s.heap g') = some (n', F') → r' < n' → ub (β g' r') = some i → ub u = some i → False := by
      intro g' n' F' r' hne hh hr' hb1 hb2
      split at hh
      · cases hh
      · rename_i e2
        rcases hu i hb2 with h7 | ⟨o, n, F, r, a1, a2, a3, a4⟩
        · -- an old block lies below
          obtain ⟨_, q2⟩ := h.heap _ _ _ _ hh hr'
          have hlt : i < w.heap.size := by
            have hat : ∀ {k n sz size : Nat}, IsAt (β g' r') k n sz size → k = i := by
              intro k n sz size ha
              rcases ha with ⟨e, _⟩ | ⟨_, e, _⟩ <;> rw [e] at hb1 <;> simpa [ub] using hb1
            cases hF : F' r' with
            | rats n f =>
              rw [hF] at q2
              rcases q2 with ⟨e, _⟩ | ⟨k, cs, _, hr, ha, _⟩
              · rw [e] at hb1; cases hb1
              · rw [← hat ha]; exact hr.lt
            | ones T n f =>
              rw [hF] at q2
              rcases q2.2 with ⟨e, _⟩ | ⟨k, cs, _, hr, ha, _⟩
              · rw [e] at hb1; cases hb1
              · rw [← hat ha]; exact hr.lt
          omega
        · have := (h.inj _ _ _ _ _ _ _ _ i hh hr' a2 a3 hb1 a4).1
          rw [this] at e2
          exact e2 a1
    by_cases e1 : g1 = g
    · rw [if_pos e1] at h1 h5
      cases h1
      by_cases e2 : g2 = g
      · rw [if_pos e2] at h3
        cases h3
        exact ⟨e1.trans e2.symm, by omega⟩
      · rw [if_neg e2] at h3 h6
        exact (far _ _ _ _ e2 h3 h4 h6 h5).elim
    · rw [if_neg e1] at h1 h5
      by_cases e2 : g2 = g
      · rw [if_pos e2] at h3 h6
        exact (far _ _ _ _ e1 h1 h2 h5 h6).elim
      · rw [if_neg e2] at h3 h6
        split at h1
        · cases h1
        · split at h3
          · cases h3
          · exact h.inj _ _ _ _ _ _ _ _ i h1 h2 h3 h4 h5 h6
end Go.Proofs.Ytpclkgjhfhhddaa.AM
/- What operations do that reckon with values. -/
namespace Go.Proofs.Ytpclkgjhfhhddaa.AM
open Go Go.RowKit Go.Proofs.Ytpclkgjhfhhddaa.PN Go.Proofs.Ytpclkgjhfhhddaa.V
set_option linter.unusedVariables false
set_option linter.unusedSimpArgs false
def memN (t : Nat) : List Nat → Bool
  | [] => false
  | x :: l => bif Nat.beq t x then true else memN t l
theorem memN_spec {t : Nat} : ∀ {l : List Nat}, memN t l = true → t ∈ l
  | [], h => by cases h
  | x :: l, h => by
    unfold memN at h
    cases e : Nat.beq t x with
    | true => rw [Nat.eq_of_beq_eq_true e]; exact List.mem_cons_self ..
    | false => rw [e] at h; exact List.mem_cons_of_mem _ (memN_spec h)
def Fits : IntKind → Int → Prop
  | .i64, n => -9223372036854775808 ≤ n ∧ n ≤ 9223372036854775807
  | .i32, n => -2147483648 ≤ n ∧ n ≤ 2147483647
  | .i16, n => -32768 ≤ n ∧ n ≤ 32767
  | .i8, n => -128 ≤ n ∧ n ≤ 127
  | .u64, n => 0 ≤ n ∧ n ≤ 18446744073709551615
  | .u32, n => 0 ≤ n ∧ n ≤ 4294967295
  | .u16, n => 0 ≤ n ∧ n ≤ 65535
  | .u8, n => 0 ≤ n ∧ n ≤ 255
theorem fits_wrap {k : IntKind} {n : Int} (h : Fits k n) : k.wrap n = n := by
  cases k <;> simp only [Fits] at h <;> simp [IntKind.wrap, IntKind.bits, IntKind.signed] <;> omega
/-- Types of one cell. -/
def flatT : List TypeId := [4, 3, 85, 53, 5, 111, 2, 21, 9, 41, 24, 60, 22, 28, 30, 36, 58, 57, 46, 76, 94, 23, 70, 79]
def isFlat : Option TypeDesc → Bool
  | some (.struct _) | some (.array _ _) | none => false
  | _ => true
theorem flat_all : flatT.all (fun T => isFlat (Try.prog.underlying T)) = true := by kernel_rfl
theorem flat_ok {T : TypeId} (h : memN T flatT = true) : isFlat (Try.prog.underlying T) = true := List.all_eq_true.1 flat_all T (memN_spec h)
def kindOf (T : TypeId) : Option IntKind :=
  bif memN T [3, 2] then some .i64 else bif memN T [85, 111] then some .u64 else bif memN T [53] then some .u32 else bif memN T [5] then some .u8 else bif memN T [30] then some .i64 else bif memN T [21] then some .i32 else none
def isKind (k : IntKind) : Option TypeDesc → Bool
  | some (.int k') => k' == k
  | some (.named _ _) => false
  | _ => false
theorem Sim.opv {W : Wd} {N : Nat} {β : Nat → Nat → Value} {w : World} {a : Act} {s : St} (h : Sim W N β w a s) {x : Operand} {y : Value} (hx : avo s x = some (.v y)) : a.eval x = y := (h.opd hx).2
theorem beq_dec (a b : Int) : (a == b) = decide (a = b) := by by_cases h : a = b <;> simp [h]
section
variable {o : Oper} {s : St}
theorem ok_move {x : Operand} {y : AV} (ho : o.op = .move x ∨ o.op = .assign x) (hx : avo s x = some y) : LOK Try.prog o s ⟨some y, [], []⟩ := by
  refine lok_val fun s2 hl W N β w a hs => ⟨a.eval x, ?_, fun z hz => ?_⟩
  · unfold execOp; rcases ho with ho | ho <;> rw [ho] <;> rfl
  · cases hz
    refine hs.opd ?_
    rw [hl.avo (by rcases ho with ho | ho <;> rw [ho] <;> simp [Op.operands])]
    exact hx
theorem ok_pick {c x y : Operand} {b : Bool} {z : AV} (ho : o.op = .pick c x y) (hc : avo s c = some (.v (.bool b))) (hz : avo s (bif b then x else y) = some z) : LOK Try.prog o s ⟨some z, [], []⟩ := by
  refine lok_val fun s2 hl W N β w a hs => ⟨a.eval (bif b then x else y), ?_, fun q hq => ?_⟩
  · have h : a.eval c = .bool b := hs.opv (by rw [hl.avo (by rw [ho]; simp [Op.operands])]; exact hc)
    unfold execOp; rw [ho]; simp only []; rw [h]
    cases b <;> rfl
  · cases hq
    refine hs.opd ?_
    rw [hl.avo (by rw [ho]; cases b <;> simp [Op.operands])]
    exact hz
theorem ok_not {x : Operand} {T : TypeId} {b : Bool} (ho : o.op = .unOp .not T x) (hx : avo s x = some (.v (.bool b))) : LOK Try.prog o s ⟨some (.v (.bool (!b))), [], []⟩ := by
  refine lok_val fun s2 hl W N β w a hs => ⟨.bool (!b), ?_, fun z hz => by cases hz; exact ⟨trivial, rfl⟩⟩
  have h : a.eval x = .bool b := hs.opv (by rw [hl.avo (by rw [ho]; simp [Op.operands])]; exact hx)
  unfold execOp; rw [ho]; simp only []; rw [h]; rfl
theorem ok_neg {x : Operand} {T : TypeId} {k : IntKind} {n : Int} (ho : o.op = .unOp .neg T x) (hx : avo s x = some (.v (.int k n))) (hf : Fits k (0 - n)) : LOK Try.prog o s ⟨some (.v (.int k (0 - n))), [], []⟩ := by
  refine lok_val fun s2 hl W N β w a hs => ⟨.int k (0 - n), ?_, fun z hz => by cases hz; exact ⟨trivial, rfl⟩⟩
  have h : a.eval x = .int k n := hs.opv (by rw [hl.avo (by rw [ho]; simp [Op.operands])]; exact hx)
  unfold execOp; rw [ho]; simp only []; rw [h]
  show (Op.intArith .sub k 0 n >>= fun y => pure (Next.value y)).run _ w = _
  rw [Op.intArith, Sem.run_bind, fits_wrap hf]; rfl
def arith : BinOp → Int → Int → Option Int
  | .add, a, b => some (a + b)
  | .sub, a, b => some (a - b)
  | .mul, a, b => some (a * b)
  | _, _, _ => none
theorem ok_arith {op : BinOp} {T T' : TypeId} {x y : Operand} {k k' : IntKind} {a b r : Int} (ho : o.op = .binOp op T x y T') (hx : avo s x = some (.v (.int k a))) (hy : avo s y = some (.v (.int k' b))) (hk : k = k') (hr : arith op a b = some r) (hf : Fits k r) : LOK Try.prog o s ⟨some (.v (.int k r)), [], []⟩ := by
  subst hk
  refine lok_val fun s2 hl W N β w ac hs => ⟨.int k r, ?_, fun z hz => by cases hz; exact ⟨trivial, rfl⟩⟩
  have h1 : ac.eval x = .int k a := hs.opv (by rw [hl.avo (by rw [ho]; simp [Op.operands])]; exact hx)
  have h2 : ac.eval y = .int k b := hs.opv (by rw [hl.avo (by rw [ho]; simp [Op.operands])]; exact hy)
  unfold execOp; rw [ho]; simp only []; rw [h1, h2]
  cases op <;> cases hr <;> simp [eqGuard, binOp, Op.intArith, fits_wrap hf]
theorem ok_quo {T T' : TypeId} {x y : Operand} {k k' : IntKind} {a b : Int} (ho : o.op = .binOp .quo T x y T') (hx : avo s x = some (.v (.int k a))) (hy : avo s y = some (.v (.int k' b))) (hk : k = k') (hb : b ≠ 0) (hf : Fits k (a.tdiv b)) : LOK Try.prog o s ⟨some (.v (.int k (a.tdiv b))), [], []⟩ := by
  subst hk
  refine lok_val fun s2 hl W N β w ac hs => ⟨.int k (a.tdiv b), ?_, fun z hz => by cases hz; exact ⟨trivial, rfl⟩⟩
  have h1 : ac.eval x = .int k a := hs.opv (by rw [hl.avo (by rw [ho]; simp [Op.operands])]; exact hx)
  have h2 : ac.eval y = .int k b := hs.opv (by rw [hl.avo (by rw [ho]; simp [Op.operands])]; exact hy)
  unfold execOp; rw [ho]; simp only []; rw [h1, h2]
  simp [eqGuard, binOp, Op.intDiv, fits_wrap hf, hb]
theorem ok_rem {T T' : TypeId} {x y : Operand} {k k' : IntKind} {a b : Int} (ho : o.op = .binOp .rem T x y T') (hx : avo s x = some (.v (.int k a))) (hy : avo s y = some (.v (.int k' b))) (hk : k = k') (hb : b ≠ 0) : LOK Try.prog o s ⟨some (.v (.int k (a.tmod b))), [], []⟩ := by
  subst hk
  refine lok_val fun s2 hl W N β w ac hs => ⟨.int k (a.tmod b), ?_, fun z hz => by cases hz; exact ⟨trivial, rfl⟩⟩
  have h1 : ac.eval x = .int k a := hs.opv (by rw [hl.avo (by rw [ho]; simp [Op.operands])]; exact hx)
  have h2 : ac.eval y = .int k b := hs.opv (by rw [hl.avo (by rw [ho]; simp [Op.operands])]; exact hy)
  unfold execOp; rw [ho]; simp only []; rw [h1, h2]
  simp [eqGuard, binOp, Op.intDiv, hb]
def cmpB : BinOp → Int → Int → Option Bool
  | .eql, a, b => some (decide (a = b))
  | .neq, a, b => some (decide (a ≠ b))
  | .lss, a, b => some (decide (a < b))
  | .leq, a, b => some (decide (a ≤ b))
  | .gtr, a, b => some (decide (b < a))
  | .geq, a, b => some (decide (b ≤ a))
  | _, _, _ => none
theorem ok_cmp {op : BinOp} {T T' : TypeId} {x y : Operand} {k k' : IntKind} {a b : Int} {r : Bool} (ho : o.op = .binOp op T x y T') (hx : avo s x = some (.v (.int k a))) (hy : avo s y = some (.v (.int k' b))) (hk : k = k') (hr : cmpB op a b = some r) : LOK Try.prog o s ⟨some (.v (.bool r)), [], []⟩ := by
  subst hk
  refine lok_val fun s2 hl W N β w ac hs => ⟨.bool r, ?_, fun z hz => by cases hz; exact ⟨trivial, rfl⟩⟩
  have h1 : ac.eval x = .int k a := hs.opv (by rw [hl.avo (by rw [ho]; simp [Op.operands])]; exact hx)
  have h2 : ac.eval y = .int k b := hs.opv (by rw [hl.avo (by rw [ho]; simp [Op.operands])]; exact hy)
  unfold execOp; rw [ho]; simp only []; rw [h1, h2]
  cases op <;> cases hr <;> simp [eqGuard, binOp, Op.intCmp, bne, beq_dec]
def cmpBB : BinOp → Bool → Bool → Option Bool
  | .eql, a, b => some (a == b)
  | .neq, a, b => some (!(a == b))
  | _, _, _ => none
theorem ok_cmpb {op : BinOp} {T T' : TypeId} {x y : Operand} {a b r : Bool} (ho : o.op = .binOp op T x y T') (hT : memN T [4] = true) (hx : avo s x = some (.v (.bool a))) (hy : avo s y = some (.v (.bool b))) (hr : cmpBB op a b = some r) : LOK Try.prog o s ⟨some (.v (.bool r)), [], []⟩ := by
  refine lok_val fun s2 hl W N β w ac hs => ⟨.bool r, ?_, fun z hz => by cases hz; exact ⟨trivial, rfl⟩⟩
  have h1 : ac.eval x = .bool a := hs.opv (by rw [hl.avo (by rw [ho]; simp [Op.operands])]; exact hx)
  have h2 : ac.eval y = .bool b := hs.opv (by rw [hl.avo (by rw [ho]; simp [Op.operands])]; exact hy)
  have hT : T = 4 := by simpa using memN_spec hT
  subst hT
  unfold execOp; rw [ho]; simp only []; rw [h1, h2]
  cases op <;> cases hr <;> simp [eqGuard, binOp, run_equal_bool w _ a b Try.underlying4]
theorem ok_convert {T T' : TypeId} {x : Operand} {k k' : IntKind} {n : Int} (ho : o.op = .convert T T' x) (hx : avo s x = some (.v (.int k n))) (hu : (Try.prog.underlying T).isSome = true) (hk : Try.prog.underlying T' = some (.int k')) (hf : Fits k' n) : LOK Try.prog o s ⟨some (.v (.int k' n)), [], []⟩ := by
  refine lok_val fun s2 hl W N β w ac hs => ⟨.int k' n, ?_, fun z hz => by cases hz; exact ⟨trivial, rfl⟩⟩
  have h1 : ac.eval x = .int k n := hs.opv (by rw [hl.avo (by rw [ho]; simp [Op.operands])]; exact hx)
  obtain ⟨d, hd⟩ := Option.isSome_iff_exists.1 hu
  unfold execOp; rw [ho]; simp only []; rw [h1]
  simp [convert, run_underlying hd, run_underlying hk, Conv.intToInt, fits_wrap hf]
def sel2 (i : Nat) (y z : AV) : AV := match i with | 0 => y | _ => z
def sel3 (i : Nat) (y z u : AV) : AV := match i with | 0 => y | 1 => z | _ => u
theorem ok_extract2 {x : Operand} {y z : AV} {i : Nat} (ho : o.op = .extract x i) (hx : avo s x = some (.tup y z)) (hi : i < 2) : LOK Try.prog o s ⟨some (sel2 i y z), [], []⟩ := by
  refine lok_val fun s2 hl W N β w ac hs => ?_
  obtain ⟨hu, p, q, h1, h2, h3⟩ := hs.opd (x := x) (by rw [hl.avo (by rw [ho]; simp [Op.operands])]; exact hx)
  match i, hi with
  | 0, _ => exact ⟨p, by unfold execOp; rw [ho]; simp only []; rw [h1]; simp [Instr.extract], fun z hz => by cases hz; exact ⟨hu.1, h2⟩⟩
  | 1, _ => exact ⟨q, by unfold execOp; rw [ho]; simp only []; rw [h1]; simp [Instr.extract], fun z hz => by cases hz; exact ⟨hu.2, h3⟩⟩
theorem ok_extract3 {x : Operand} {y z u : AV} {i : Nat} (ho : o.op = .extract x i) (hx : avo s x = some (.tup3 y z u)) (hi : i < 3) : LOK Try.prog o s ⟨some (sel3 i y z u), [], []⟩ := by
  refine lok_val fun s2 hl W N β w ac hs => ?_
  obtain ⟨hu, p, q, r, h1, h2, h3, h4⟩ := hs.opd (x := x) (by rw [hl.avo (by rw [ho]; simp [Op.operands])]; exact hx)
  match i, hi with
  | 0, _ => exact ⟨p, by unfold execOp; rw [ho]; simp only []; rw [h1]; simp [Instr.extract], fun z hz => by cases hz; exact ⟨hu.1, h2⟩⟩
  | 1, _ => exact ⟨q, by unfold execOp; rw [ho]; simp only []; rw [h1]; simp [Instr.extract], fun z hz => by cases hz; exact ⟨hu.2.1, h3⟩⟩
  | 2, _ => exact ⟨r, by unfold execOp; rw [ho]; simp only []; rw [h1]; simp [Instr.extract], fun z hz => by cases hz; exact ⟨hu.2.2, h4⟩⟩
/-- How long it is. -/
def lenOf : AV → Option Nat
  | .nat n => some (size n)
  | .lb l => some l.length
  | .row _ n _ => some n
  | .mat _ n _ _ => some n
  | .seq _ l => some l.length
  | .sl _ _ _ n => some n
  | .v (.slice _ n _) => some n
  | .rn (.q p) => some (size (nm p))
  | .rd (.q p) => some (size p.den)
  | .rn (.raw _ n _) => some n.length
  | .rd (.raw _ _ d) => some d.length
  | .plb l => some l.length
  | .prow n _ _ _ => some n
  | .arr n _ _ => some n
  | _ => none
theorem lenOf_ok {S : Nat → Prop} {B : Nat} {β : Nat → Nat → Value} {w : World} {x : AV} {v : Value} {n : Nat} (h : RV S B β w x v) (hn : lenOf x = some n) : ∃ A c, v = .slice A n c := by
  cases x <;> try (cases hn; done)
  case v y =>
    have h : v = y := h
    subst h
    cases v <;> first | (cases hn; done) | (cases hn; exact ⟨_, _, rfl⟩)
  case nat m => cases hn; obtain ⟨A, c, h, _⟩ := dg_slice (h : NatS _ _ _ _); exact ⟨A, c, h⟩
  case lb l => cases hn; obtain ⟨A, c, h, _⟩ := h; exact ⟨A, c, h⟩
  case row => cases hn; obtain ⟨A, c, h, _⟩ := h; exact ⟨A, c, h⟩
  case mat => cases hn; obtain ⟨A, c, h, _⟩ := h; exact ⟨A, c, h⟩
  case seq => cases hn; obtain ⟨A, c, h, _⟩ := h; exact ⟨A, c, h⟩
  case sl => cases hn; obtain ⟨A, c, h, _⟩ := h; exact ⟨A, c, h⟩
  case plb l => cases hn; obtain ⟨A, c, h, _⟩ := h; exact ⟨A, c, h⟩
  case prow => cases hn; obtain ⟨A, c, h, _⟩ := h; exact ⟨A, c, h⟩
  case arr => cases hn; obtain ⟨A, c, h, _⟩ := h; exact ⟨A, c, h⟩
  case rn r =>
    cases r <;> cases hn
    · obtain ⟨A, c, h, _⟩ := dg_slice (h : NatS _ _ _ _); exact ⟨A, c, h⟩
    · obtain ⟨A, c, h, _⟩ := (h : Lbs _ _ _); exact ⟨A, c, h⟩
  case rd r =>
    cases r <;> cases hn
    · obtain ⟨A, c, h, _⟩ := dg_slice (h : NatS _ _ _ _); exact ⟨A, c, h⟩
    · obtain ⟨A, c, h, _⟩ := (h : Lbs _ _ _); exact ⟨A, c, h⟩
/-- Types of slices, with what they are of. -/
def sliceT : List TypeId := [41, 24, 60, 22, 28, 36, 58, 57, 46]
def isSlice : Option TypeDesc → Bool
  | some (.slice _) => true
  | _ => false
theorem slice_all : sliceT.all (fun T => isSlice (Try.prog.underlying T)) = true := by kernel_rfl
theorem slice_ok {T : TypeId} (h : memN T sliceT = true) : ∃ E, Try.prog.underlying T = some (.slice E) := by
  have h := List.all_eq_true.1 slice_all T (memN_spec h)
  cases e : Try.prog.underlying T with
  | none => rw [e] at h; cases h
  | some d => rw [e] at h; cases d <;> first | cases h; done | exact ⟨_, rfl⟩
theorem run_len {T ty : TypeId} (hT : memN T sliceT = true) (A : Option Addr) (n c : Nat) (w : World) : (Builtin.len_ #[T] ty #[.slice A n c]).run Try.prog w = .ok (.int .i64 (n : Int)) w := by
  obtain ⟨E, hE⟩ := slice_ok hT
  simp [Builtin.len_, run_underlying hE, goInt]
theorem ok_len {x : Operand} {T : TypeId} {y : AV} {n : Nat} (ho : o.op = .call { callee := .builtin .len, args := #[x], argTypes := #[T] }) (hT : memN T sliceT = true) (hx : avo s x = some y) (hn : lenOf y = some n) : LOK Try.prog o s ⟨some (.v (.int .i64 (n : Int))), [], []⟩ := by
  refine lok_val fun s2 hl W N β w ac hs => ⟨.int .i64 (n : Int), ?_, fun z hz => by cases hz; exact ⟨trivial, rfl⟩⟩
  obtain ⟨A, c, h1⟩ := lenOf_ok (hs.opd (x := x) (by rw [hl.avo (by rw [ho]; simp [Op.operands, Call.operands])]; exact hx)).2 hn
  unfold execOp; rw [ho]; simp only [resolve, List.map_toArray, List.map_cons, List.map_nil]; rw [h1]
  simp [invoke, builtin, run_len hT]
def Blk.len : Blk → Nat
  | .rats n _ => n
  | .ones _ n _ => n
theorem RB.len {S : Nat → Prop} {B : Nat} {β : Nat → Nat → Value} {w : World} {u : Value} {b : Blk} (h : RB S B β w u b) {A : Option Addr} {n c : Nat} (e : u = .slice A n c) : n = b.len := by
  have key : ∀ {k m sz size : Nat}, IsAt u k m sz size → n = m := by
    intro k m sz size ha
    rcases ha with ⟨e', _⟩ | ⟨_, e', _⟩
    · rw [e] at e'; cases e'
    · rw [e] at e'; cases e'; rfl
  cases b with
  | rats m f =>
    rcases h with ⟨e', hm⟩ | ⟨k, cs, _, _, ha, _⟩
    · rw [e] at e'; cases e'; exact hm.symm
    · exact key ha
  | ones T m f =>
    rcases h.2 with ⟨e', hm⟩ | ⟨k, cs, _, _, ha, _⟩
    · rw [e] at e'; cases e'; exact hm.symm
    · exact key ha
theorem ok_len_own {x : Operand} {T : TypeId} {g r n : Nat} {F : Nat → Blk} (ho : o.op = .call { callee := .builtin .len, args := #[x], argTypes := #[T] }) (hT : memN T sliceT = true) (hx : avo s x = some (.own g r)) (hg : s.heap g = some (n, F)) (hr : r < n) : LOK Try.prog o s ⟨some (.v (.int .i64 ((F r).len : Int))), [], [g]⟩ := by
  refine lok_val fun s2 hl W N β w ac hs => ⟨.int .i64 ((F r).len : Int), ?_, fun z hz => by cases hz; exact ⟨trivial, rfl⟩⟩
  obtain ⟨e, A, m, c, h1⟩ := (hs.opd (x := x) (by rw [hl.avo (by rw [ho]; simp [Op.operands, Call.operands])]; exact hx)).2
  have hb := (hs.heap g n F r ((hl.heap g (List.mem_singleton.2 rfl)).trans hg) hr).2
  have := hb.len (e.symm.trans h1)
  subst this
  unfold execOp; rw [ho]; simp only [resolve, List.map_toArray, List.map_cons, List.map_nil]; rw [h1]
  simp [invoke, builtin, run_len hT]
def isPtr : AV → Bool
  | .ptr _ _ _ | .rptr _ _ _ | .rp _ | .cp _ | .fld _ _ _ _ => true
  | _ => false
theorem ok_nilcheck {x : Operand} {y : AV} (ho : o.op = .nilCheck x) (hx : avo s x = some y) (hy : isPtr y = true) : LOK Try.prog o s ⟨some y, [], []⟩ := by
  refine lok_val fun s2 hl W N β w ac hs => ?_
  have h := hs.opd (x := x) (by rw [hl.avo (by rw [ho]; simp [Op.operands])]; exact hx)
  have hp : ∃ p, ac.eval x = .pointer (some p) := by
    cases y <;> first | (cases hy; done) | skip
    · obtain ⟨_, b, o', h, _⟩ := h; exact ⟨_, h⟩
    · obtain ⟨_, p, y, h, _⟩ := h; exact ⟨_, h⟩
    · obtain ⟨_, b, _, h⟩ := h; exact ⟨_, h⟩
    · obtain ⟨_, b, _, h⟩ := h; exact ⟨_, h⟩
    · obtain ⟨_, b, _, h⟩ := h; exact ⟨_, h⟩
  obtain ⟨p, hp⟩ := hp
  refine ⟨ac.eval x, ?_, fun z hz => by cases hz; exact h⟩
  unfold execOp; rw [ho]; simp only []; rw [hp]; rfl
theorem ok_min {x y : Operand} {Ts : Array TypeId} {k k' : IntKind} {a b : Int} (ho : o.op = .call { callee := .builtin .min, args := #[x, y], argTypes := Ts }) (hx : avo s x = some (.v (.int k a))) (hy : avo s y = some (.v (.int k' b))) : LOK Try.prog o s ⟨some (.v (.int k (min a b))), [], []⟩ := by
  refine lok_val fun s2 hl W N β w ac hs => ⟨.int k (min a b), ?_, fun z hz => by cases hz; exact ⟨trivial, rfl⟩⟩
  have h1 : ac.eval x = .int k a := hs.opv (by rw [hl.avo (by rw [ho]; simp [Op.operands, Call.operands])]; exact hx)
  have h2 : ac.eval y = .int k' b := hs.opv (by rw [hl.avo (by rw [ho]; simp [Op.operands, Call.operands])]; exact hy)
  unfold execOp; rw [ho]; simp only [resolve, List.map_toArray, List.map_cons, List.map_nil]; rw [h1, h2]
  simp [invoke, builtin, Builtin.min_, Builtin.min2]
  split <;> omega
theorem ok_max {x y : Operand} {Ts : Array TypeId} {k k' : IntKind} {a b : Int} (ho : o.op = .call { callee := .builtin .max, args := #[x, y], argTypes := Ts }) (hx : avo s x = some (.v (.int k a))) (hy : avo s y = some (.v (.int k' b))) : LOK Try.prog o s ⟨some (.v (.int k (max a b))), [], []⟩ := by
  refine lok_val fun s2 hl W N β w ac hs => ⟨.int k (max a b), ?_, fun z hz => by cases hz; exact ⟨trivial, rfl⟩⟩
  have h1 : ac.eval x = .int k a := hs.opv (by rw [hl.avo (by rw [ho]; simp [Op.operands, Call.operands])]; exact hx)
  have h2 : ac.eval y = .int k' b := hs.opv (by rw [hl.avo (by rw [ho]; simp [Op.operands, Call.operands])]; exact hy)
  unfold execOp; rw [ho]; simp only [resolve, List.map_toArray, List.map_cons, List.map_nil]; rw [h1, h2]
  simp [invoke, builtin, Builtin.max_, Builtin.max2]
  split <;> omega
theorem ok_makefunc {f : FuncId} {cap : Array Operand} (ho : o.op = .makeFunc (.func f) #[] cap) (c : Nat → AV) (hc : ∀ i (h : i < cap.size), avo s cap[i] = some (c i)) : LOK Try.prog o s ⟨some (.clo f cap.size c), [], []⟩ := by
  refine lok_val fun s2 hl W N β w ac hs => ⟨.func (.func f) #[] (cap.map ac.eval), ?_, fun z hz => ?_⟩
  · unfold execOp; rw [ho]; simp [Instr.makeFunc]
  · cases hz
    have key : ∀ i (h : i < cap.size), (c i).ok s2.used ∧ RV (notOwn W s2 β) W.w.heap.size β w (c i) (ac.eval cap[i]) := fun i h => hs.opd (by rw [hl.avo (by rw [ho]; simp [Op.operands])]; exact hc i h)
    exact ⟨fun i h => (key i h).1, _, rfl, by simp, fun i h => ⟨ac.eval cap[i], by simp [h], (key i h).2⟩⟩
theorem ok_makebnd {f : FuncId} {x : Operand} {y : AV} (ho : o.op = .makeFunc (.func f) #[x] #[]) (hx : avo s x = some y) : LOK Try.prog o s ⟨some (.bnd f y), [], []⟩ := by
  refine lok_val fun s2 hl W N β w ac hs => ⟨.func (.func f) #[ac.eval x] #[], ?_, fun z hz => ?_⟩
  · unfold execOp; rw [ho]; simp [Instr.makeFunc]
  · cases hz
    have key := hs.opd (x := x) (by rw [hl.avo (by rw [ho]; simp [Op.operands])]; exact hx)
    exact ⟨key.1, _, rfl, key.2⟩
end
end Go.Proofs.Ytpclkgjhfhhddaa.AM

/- Joined texts, 13: AmT AmU AmV AmX AmW AmY AmZ. -/
import Derived.Test.YtpclkgjhfhhddaaJLawGenChecks12
set_option linter.unusedVariables false
set_option linter.unusedSimpArgs false
/- Calls that are handed own memory, and hand own memory back. -/
namespace Go.Proofs.Ytpclkgjhfhhddaa.AM
open Go Go.RowKit Go.Proofs.Ytpclkgjhfhhddaa.PN Go.Proofs.Ytpclkgjhfhhddaa.V
set_option linter.unusedVariables false
set_option linter.unusedSimpArgs false
def entH (xs : List AV) (h : List (Nat × Fam)) : St := ⟨lk xs, lkp h, fun g => memN g (keys h)⟩
def okK (h : List (Nat × Fam)) : Bool := (keys h).isEmpty || (memN 60 (keys h) && memN 61 (keys h) && memN 62 (keys h) && !(memN 77 (keys h)))
theorem okK_mem {h : List (Nat × Fam)} (hk : okK h = true) (hne : (keys h).isEmpty = false) {g : Nat} (hg : fx3 g = true) : memN g (keys h) = true := by
  unfold okK at hk
  rw [hne] at hk
  simp only [Bool.false_or, Bool.and_eq_true] at hk
  unfold fx3 at hg
  rw [Bool.or_eq_true, Bool.or_eq_true] at hg
  rcases hg with (hg | hg) | hg
  · rw [Nat.eq_of_beq_eq_true hg]; exact hk.1.1.1
  · rw [Nat.eq_of_beq_eq_true hg]; exact hk.1.1.2
  · rw [Nat.eq_of_beq_eq_true hg]; exact hk.1.2
theorem okK_no {h : List (Nat × Fam)} (hk : okK h = true) : memN 77 (keys h) = false := by
  unfold okK at hk
  cases e : keys h with
  | nil => rfl
  | cons x l =>
    rw [e] at hk
    simp only [List.isEmpty_cons, Bool.false_or, Bool.and_eq_true, Bool.not_eq_true'] at hk
    exact hk.2
/-- A call that begins with the families h, and ends with h'. -/
structure HasH (P : Program) (f : FuncId) (h : List (Nat × Fam)) (xs : List AV) (r : AV) (h' : List (Nat × Fam)) : Prop where
  b : callB P f = true
  run : ∀ (W : Wd) (β : Nat → Nat → Value) (w : World) (vs : List Value), xs.length = vs.length → ((keys h).isEmpty = false → W.F = some β) → Sim W vs.length β w ⟨vs.toArray, []⟩ (entH xs h) →
    Calls P f vs.toArray w fun e w' => ∃ v β', e = .returned v ∧ Sim W 1 β' w' ⟨#[v], []⟩ (stl [(0, r)] h') ∧ ∀ g, memN g (keys h) = true → β' g = β g
def oks (U : Nat → Bool) : List AV → Prop
  | [] => True
  | x :: l => x.ok U ∧ oks U l
def FinH (rs : Array ResultVar) (r : AV) (h' : List (Nat × Fam)) (e : Exit) (s : St) : Prop := (e = .normal ∨ e = .ret) ∧ ∃ env, Imp s (stl env h') ∧ Back (stl env h') rs r
theorem hasH_of {f : FuncId} {fn : Func} {c : Code} {N : Nat} {rs : Array ResultVar} {h h' : List (Nat × Fam)} {xs : List AV} {r : AV} (hf : Try.prog.funcs[f]? = some fn) (hB : callB Try.prog f = true) (hb : fn.body = some c) (hn : fn.ntmps = N) (hr : fn.results = rs) (hrc : r.ok (fun g => memN g (keys h'))) (hlen : Nat.ble xs.length N = true) (hk : (keys h).all fx3 = true)
    (k : AWP Try.prog N c (FinH rs r h') (entH xs h)) : HasH Try.prog f h xs r h' := by
  subst hn; subst hr
  refine ⟨hB, fun W β w vs hl hF hs0 => ?_⟩
  have hle : vs.length ≤ fn.ntmps := by rw [← hl]; exact Nat.le_of_ble_eq_true hlen
  refine calls_of_wp hf hb ?_
  have hs : Sim W fn.ntmps β w { tmps := vs.toArray ++ Array.replicate (fn.ntmps - vs.toArray.size) undef, defers := [] } (entH xs h) := by
    refine ⟨hs0.kept, rfl, by simp; omega, fun t x hx => ?_, hs0.heap, hs0.live, hs0.inj, hs0.fix, hs0.pin, hs0.fixd, hs0.keep⟩
    have h1 := hs0.env t x hx
    have hx : lk xs t = some x := hx
    rw [lk_get] at hx
    have hlt : t < xs.length := (List.getElem?_eq_some_iff.1 hx).1
    have hlt' : t < vs.toArray.size := by rw [List.size_toArray, ← hl]; exact hlt
    have hg : (vs.toArray ++ Array.replicate (fn.ntmps - vs.toArray.size) undef).getD t undef = vs.toArray.getD t undef := by
      rw [Array.getD_eq_getD_getElem?, Array.getElem?_append_left hlt', Array.getD_eq_getD_getElem?]
    rw [hg]
    exact h1
  refine wp_mono (k.out W β w _ hs) ?_
  rintro e a' w' ⟨β', s', hs', he, env, hi, hback⟩
  obtain ⟨β'', hs''⟩ := hi _ _ _ _ _ hs'
  obtain ⟨v, hrun, hv⟩ := back_run hback hs''
  have hfin : ∃ v' β', Ending.returned v = .returned v' ∧ Sim W 1 β' w' ⟨#[v'], []⟩ (stl [(0, r)] h') ∧ ∀ g, memN g (keys h) = true → β' g = β g := by
    refine ⟨v, β'', rfl, ⟨hs''.kept, rfl, rfl, fun t x hx => ?_, hs''.heap, hs''.live, hs''.inj, hs''.fix, hs''.pin, hs''.fixd, hs''.keep⟩, fun g hg => ?_⟩
    rotate_left
    · have hm := memN_spec hg
      have hne : (keys h).isEmpty = false := by
        cases e : keys h with
        | nil => rw [e] at hm; cases hm
        | cons _ _ => rfl
      exact hs''.fixd β (hF hne) g (List.all_eq_true.1 hk g hm)
    have hx : lkp [(0, r)] t = some x := hx
    have hm := lkp_mem hx
    simp only [List.mem_singleton, Prod.mk.injEq] at hm
    obtain ⟨rfl, rfl⟩ := hm
    exact ⟨hrc, hv⟩
  rcases he with rfl | rfl
  · exact ⟨hs''.nodef, v, hrun, hfin⟩
  · exact ⟨hs''.nodef, v, hrun, hfin⟩
theorem own_stl {s : St} {β : Nat → Nat → Value} {e : List (Nat × AV)} {h : List (Nat × Fam)} (hh : ∀ g fam, lkp h g = some fam → s.heap g = some fam) {k : Nat} (ho : Own (stl e h) β k) : Own s β k := by
  obtain ⟨g, n, F, r, h1, h2, h3⟩ := ho
  exact ⟨g, n, F, r, hh g _ h1, h2, h3⟩
/-- The callee's words of what it finds. -/
def subW {W : Wd} {N : Nat} {β : Nat → Nat → Value} {w : World} {a : Act} {s : St} (hs : Sim W N β w a s) (h : List (Nat × Fam)) (hh : ∀ g fam, lkp h g = some fam → s.heap g = some fam) : Wd :=
  ⟨W.w, fun k => (k < W.w1.heap.size → W.S k) ∧ (Own s β k → Own (stl [] h) β k), w, fun k => k < w.heap.size ∧ ¬ Own (stl [] h) β k,
    fun k h1 h2 h3 => by
      have ho : Own (stl [] h) β k := Classical.byContradiction fun ho => h3 ⟨h2, ho⟩
      exact ⟨fun hlt => W.law k h1 hlt (hs.pin k (own_stl hh ho)), fun _ => ho⟩,
    fun k hk => hk.1, if (keys h).isEmpty = true then none else some β⟩
theorem lkp_some {α : Type} : ∀ {l : List (Nat × α)} {t : Nat}, memN t (keys l) = true → ∃ x, lkp l t = some x
  | [], t, h => by cases h
  | (k, x) :: l, t, h => by
    unfold lkp
    unfold keys memN at h
    cases e : Nat.beq t k with
    | true => exact ⟨x, rfl⟩
    | false => rw [e] at h; exact lkp_some h
theorem Sim.into {W : Wd} {N : Nat} {β : Nat → Nat → Value} {w : World} {a : Act} {s : St} (hs : Sim W N β w a s) {h : List (Nat × Fam)} (hh : ∀ g fam, lkp h g = some fam → s.heap g = some fam) (hk : okK h = true) {xs : List AV} {vs : List Value} (hl : xs.length = vs.length)
    (hx : ∀ (t : Nat) (x : AV) (v : Value), xs[t]? = some x → vs[t]? = some v → x.ok (fun g => memN g (keys h)) ∧ RV (notOwn W s β) W.w.heap.size β w x v) (hf : ∀ g n F r, lkp h g = some (n, F) → r < n → (F r).ok (fun g => memN g (keys h))) :
    Sim (subW hs h hh) vs.length β w ⟨vs.toArray, []⟩ (entH xs h) := by
  have kf : Fwd (notOwn W s β) (notOwn (subW hs h hh) (entH xs h) β) W.w.heap.size W.w.heap.size s.used β β (fun _ => False) w w :=
    ⟨Ext.refl _ _, fun _ _ h => h, fun b hb _ => ⟨fun _ => ⟨hb.1, fun ho => absurd ho hb.2⟩, fun ho => hb.2 (own_stl (e := []) hh ho)⟩, Nat.le_refl _, fun _ _ _ => rfl⟩
  refine ⟨hs.kept, rfl, rfl, fun t x hx' => ?_, fun g n F r h1 h2 => ?_, fun g n F h1 => lkp_key h1, fun g n F r g' n' F' r' k h1 h2 h3 h4 h5 h6 => hs.inj _ _ _ _ _ _ _ _ k (hh _ _ h1) h2 (hh _ _ h3) h4 h5 h6, Fix.refl _ _, fun k ho hP => hP.2 ho, fun u hu g hg => ?_, fun u hu g hg => ?_⟩
  · have hx' : lk xs t = some x := hx'
    rw [lk_get] at hx'
    have hlt : t < vs.length := by rw [← hl]; exact (List.getElem?_eq_some_iff.1 hx').1
    obtain ⟨h1, h2⟩ := hx t x _ hx' (List.getElem?_eq_getElem hlt)
    refine ⟨h1, ?_⟩
    rw [show (vs.toArray.getD t undef) = vs[t] from by rw [Array.getD_eq_getD_getElem?]; simp [hlt]]
    refine RV.fwd (U := fun g => memN g (keys h)) (O := fun _ => False) ?_ h1 h2
    exact ⟨kf.ext, kf.out, kf.set, kf.base, fun _ _ _ => rfl⟩
  · have h1 : lkp h g = some (n, F) := h1
    obtain ⟨q1, q2⟩ := hs.heap _ _ _ _ (hh _ _ h1) h2
    exact ⟨hf g n F r h1 h2, RB.fwd kf q1 (fun _ _ h => h) q2⟩
  · have hu : (if (keys h).isEmpty = true then none else some β) = some u := hu
    split at hu
    · cases hu
    · cases hu; rfl
  · have hu : (if (keys h).isEmpty = true then none else some β) = some u := hu
    split at hu
    · cases hu
    · rename_i e
      exact okK_mem hk (by simpa using e) hg
def mixβ (h' : List (Nat × Fam)) (β β' : Nat → Nat → Value) : Nat → Nat → Value := fun g => if memN g (keys h') = true then β' g else β g
theorem Sim.back {W : Wd} {N : Nat} {β β' : Nat → Nat → Value} {w w' : World} {a : Act} {s s' : St} (hs : Sim W N β w a s) {h h' : List (Nat × Fam)} {r : AV} {v : Value} (hh : ∀ g fam, lkp h g = some fam → s.heap g = some fam) (hnl : ∀ g n F q, lkp h g = some (n, F) → q < n → ∀ m f, F q ≠ .lims m f)
    (hsub : ∀ g, memN g (keys h) = true → memN g (keys h') = true) (hnew : ∀ g, memN g (keys h') = true → memN g (keys h) = true ∨ s.used g = false)
    (hr : Sim (subW hs h hh) 1 β' w' ⟨#[v], []⟩ (stl [(0, r)] h')) (hβ : ∀ g, memN g (keys h) = true → β' g = β g)
    (henv : s'.env = s.env) (hheap : ∀ g, s'.heap g = if memN g (keys h') = true then lkp h' g else s.heap g) (hused : ∀ g, s'.used g = (memN g (keys h') || s.used g)) :
    Sim W N (mixβ h' β β') w' a s' ∧ r.ok s'.used ∧ RV (notOwn W s' (mixβ h' β β')) W.w.heap.size (mixβ h' β β') w' r v := by
  have hu1 : ∀ g, s.used g = true → s'.used g = true := fun g hg => by rw [hused, hg]; simp
  have hu2 : ∀ g, memN g (keys h') = true → s'.used g = true := fun g hg => by rw [hused, hg]; rfl
  have hb1 : ∀ g, memN g (keys h') = true → mixβ h' β β' g = β' g := fun g hg => if_pos hg
  have hb2 : ∀ g, ¬ memN g (keys h') = true → mixβ h' β β' g = β g := fun g hg => if_neg hg
  have hb3 : ∀ g, s.used g = true → mixβ h' β β' g = β g := fun g hg => by
    by_cases e : memN g (keys h') = true
    · rcases hnew g e with h1 | h1
      · rw [hb1 g e]; exact hβ g h1
      · rw [hg] at h1; cases h1
    · exact hb2 g e
  have hsz : w.heap.size ≤ w'.heap.size := hr.fix.size
  -- blocks of families
  have hold : ∀ i, i < w.heap.size → (∃ g n F r, lkp h' g = some (n, F) ∧ r < n ∧ ub (β' g r) = some i) → Own (stl [] h) β i := fun i hi ⟨g, n, F, q, h1, h2, h3⟩ =>
    Classical.byContradiction fun hn => hr.pin i ⟨g, n, F, q, h1, h2, h3⟩ ⟨hi, hn⟩
  have hfr : ∀ g n F q i, ¬ memN g (keys h') = true → s.heap g = some (n, F) → q < n → ub (β g q) = some i → ¬ Own (stl [] h) β i := by
    rintro g n F q i hg h1 h2 h3 ⟨g1, n1, F1, q1, k1, k2, k3⟩
    have := (hs.inj _ _ _ _ _ _ _ _ i h1 h2 (hh _ _ k1) k2 h3 k3).1
    exact hg (by rw [this]; exact hsub _ (lkp_key k1))
  have hsplit : ∀ i, Own s' (mixβ h' β β') i → (∃ g n F q, lkp h' g = some (n, F) ∧ q < n ∧ ub (β' g q) = some i) ∨ (∃ g n F q, ¬ memN g (keys h') = true ∧ s.heap g = some (n, F) ∧ q < n ∧ ub (β g q) = some i) := by
    rintro i ⟨g, n, F, q, h1, h2, h3⟩
    rw [hheap] at h1
    by_cases e : memN g (keys h') = true
    · rw [if_pos e] at h1; rw [hb1 g e] at h3; exact .inl ⟨g, n, F, q, h1, h2, h3⟩
    · rw [if_neg e] at h1; rw [hb2 g e] at h3; exact .inr ⟨g, n, F, q, e, h1, h2, h3⟩
  have hext : Ext (fun k => Own (stl [] h) β k) w w' := ⟨hr.fix.size, fun i hi ho => hr.fix.block i hi ⟨hi, ho⟩, fun i cs hrow => by
    have hi := hrow.lt
    by_cases ho : Own (stl [] h) β i
    · exfalso
      obtain ⟨g, n, F, q, k1, k2, k3⟩ := ho
      have hb := (hs.heap g n F q (hh _ _ k1) k2).2
      have hl := hnl g n F q k1 k2
      cases hF : F q with
      | rats m f =>
        rw [hF] at hb
        obtain ⟨cs', _, h5, _⟩ := rb_rats hb k3
        unfold Row? at hrow h5
        rw [hrow] at h5
        injection h5 with h5
        injection h5 with _ h5
        exact absurd h5 (by decide)
      | ones T m f =>
        rw [hF] at hb
        obtain ⟨hT, cs', _, h5, _⟩ := rb_ones hb k3
        unfold Row? at hrow h5
        rw [hrow] at h5
        injection h5 with h5
        injection h5 with _ h5
        exact hT h5.symm
      | lims m f => exact hl m f hF
    · exact (hr.fix.block i hi ⟨hi, ho⟩).trans hrow⟩
  have kf : Fwd (notOwn W s β) (notOwn W s' (mixβ h' β β')) W.w.heap.size W.w.heap.size s.used β (mixβ h' β β') (fun k => Own (stl [] h) β k) w w' := by
    refine ⟨hext, fun b hb ho => hb.2 (own_stl hh ho), fun b hb hlt => ⟨hb.1, fun ho => ?_⟩, Nat.le_refl _, fun g q hg => by rw [hb3 g hg]⟩
    rcases hsplit b ho with h1 | ⟨g, n, F, q, h1, h2, h3, h4⟩
    · exact hb.2 (own_stl hh (hold b hlt h1))
    · exact hb.2 ⟨g, n, F, q, h2, h3, h4⟩
  have kf2 : Fwd (notOwn (subW hs h hh) (stl [(0, r)] h') β') (notOwn W s' (mixβ h' β β')) W.w.heap.size W.w.heap.size (fun g => memN g (keys h')) β' (mixβ h' β β') (fun _ => False) w' w' := by
    refine ⟨Ext.refl _ _, fun _ _ h => h, fun b hb _ => ⟨fun hlt => ?_, fun ho => ?_⟩, Nat.le_refl _, fun g q hg => by rw [hb1 g hg]⟩
    · exact (hb.1 (Nat.lt_of_lt_of_le hlt hs.fix.size)).1 hlt
    · rcases hsplit b ho with ⟨g, n, F, q, h1, h2, h3⟩ | ⟨g, n, F, q, h1, h2, h3, h4⟩
      · exact hb.2 ⟨g, n, F, q, h1, h2, h3⟩
      · have hown : Own s β b := ⟨g, n, F, q, h2, h3, h4⟩
        exact hfr g n F q b h1 h2 h3 h4 ((hb.1 (own_lt hs hown).2).2 hown)
  have hres : r.ok s'.used ∧ RV (notOwn W s' (mixβ h' β β')) W.w.heap.size (mixβ h' β β') w' r v := by
    obtain ⟨h1, h2⟩ := hr.env 0 r rfl
    exact ⟨AV.ok_mono hu2 h1, RV.fwd kf2 h1 h2⟩
  refine ⟨⟨hr.kept, hs.nodef, hs.size, fun t x hx => ?_, fun g n F q h1 h2 => ?_, fun g n F h1 => ?_, fun g1 n1 F1 r1 g2 n2 F2 r2 i h1 h2 h3 h4 h5 h6 => ?_, hs.fix.trans hext (fun i hi => hs.pin i (own_stl hh hi)), fun i ho => ?_, fun u hu g hg => ?_, fun u hu g hg => hu1 g (hs.keep u hu g hg)⟩, hres⟩
  · rw [henv] at hx
    obtain ⟨h1, h2⟩ := hs.env t x hx
    exact ⟨AV.ok_mono hu1 h1, h2.fwd kf h1⟩
  · rw [hheap] at h1
    by_cases e : memN g (keys h') = true
    · rw [if_pos e] at h1
      obtain ⟨q1, q2⟩ := hr.heap g n F q h1 h2
      rw [hb1 g e]
      exact ⟨Blk.ok_mono hu2 q1, RB.fwd kf2 q1 (fun _ _ h => h) q2⟩
    · rw [if_neg e] at h1
      obtain ⟨q1, q2⟩ := hs.heap g n F q h1 h2
      rw [hb2 g e]
      exact ⟨Blk.ok_mono hu1 q1, RB.fwd kf q1 (fun i hi ho => hfr g n F q i e h1 h2 hi ho) q2⟩
  · rw [hheap] at h1
    by_cases e : memN g (keys h') = true
    · exact hu2 g e
    · rw [if_neg e] at h1; exact hu1 g (hs.live _ _ _ h1)
  · rw [hheap] at h1 h3
    by_cases e1 : memN g1 (keys h') = true <;> by_cases e2 : memN g2 (keys h') = true
    · rw [if_pos e1] at h1; rw [if_pos e2] at h3; rw [hb1 _ e1] at h5; rw [hb1 _ e2] at h6
      exact hr.inj _ _ _ _ _ _ _ _ i h1 h2 h3 h4 h5 h6
    · rw [if_pos e1] at h1; rw [if_neg e2] at h3; rw [hb1 _ e1] at h5; rw [hb2 _ e2] at h6
      exact absurd (hold i (own_lt hs ⟨g2, n2, F2, r2, h3, h4, h6⟩).2 ⟨g1, n1, F1, r1, h1, h2, h5⟩) (hfr g2 n2 F2 r2 i e2 h3 h4 h6)
    · rw [if_neg e1] at h1; rw [if_pos e2] at h3; rw [hb2 _ e1] at h5; rw [hb1 _ e2] at h6
      exact absurd (hold i (own_lt hs ⟨g1, n1, F1, r1, h1, h2, h5⟩).2 ⟨g2, n2, F2, r2, h3, h4, h6⟩) (hfr g1 n1 F1 r1 i e1 h1 h2 h5)
    · rw [if_neg e1] at h1; rw [if_neg e2] at h3; rw [hb2 _ e1] at h5; rw [hb2 _ e2] at h6
      exact hs.inj _ _ _ _ _ _ _ _ i h1 h2 h3 h4 h5 h6
  · rcases hsplit i ho with h1 | ⟨g, n, F, q, h1, h2, h3, h4⟩
    · intro hP
      have hlt := Nat.lt_of_lt_of_le (W.lt i hP) hs.fix.size
      exact hs.pin i (own_stl hh (hold i hlt h1)) hP
    · exact hs.pin i ⟨g, n, F, q, h2, h3, h4⟩
  · rw [hb3 g (hs.keep u hu g hg)]; exact hs.fixd u hu g hg
def upds : List (Nat × Fam) → List (Nat × Option Fam)
  | [] => []
  | (g, F) :: l => (g, some F) :: upds l
theorem memN_cons (t x : Nat) (l : List Nat) : memN t (x :: l) = bif Nat.beq t x then true else memN t l := rfl
theorem keys_cons {α : Type} (k : Nat) (x : α) (l : List (Nat × α)) : keys ((k, x) :: l) = k :: keys l := rfl
theorem lkp_cons {α : Type} (k t : Nat) (x : α) (l : List (Nat × α)) : lkp ((k, x) :: l) t = bif Nat.beq t k then some x else lkp l t := rfl
def noDup : List Nat → Bool
  | [] => true
  | a :: l => !(memN a l) && noDup l
theorem upds_mem : ∀ {h : List (Nat × Fam)} {p : Nat × Option Fam}, p ∈ upds h → memN p.1 (keys h) = true
  | [], p, hp => by cases hp
  | (g, F) :: l, p, hp => by
    unfold upds at hp
    unfold keys memN
    rcases List.mem_cons.1 hp with rfl | hp
    · show (bif Nat.beq g g then true else _) = true
      rw [Nat.beq_refl]; rfl
    · cases e : Nat.beq p.1 g with
      | true => rfl
      | false => exact upds_mem hp
theorem turn_upds : ∀ (h : List (Nat × Fam)) (s : St), noDup (keys h) = true → (turn s (upds h)).env = s.env ∧ (∀ g, (turn s (upds h)).heap g = if memN g (keys h) = true then lkp h g else s.heap g) ∧ ∀ g, (turn s (upds h)).used g = (memN g (keys h) || s.used g)
  | [], s, _ => ⟨rfl, fun g => rfl, fun g => rfl⟩
  | (k, F) :: l, s, hd => by
    unfold keys noDup at hd
    rw [Bool.and_eq_true] at hd
    obtain ⟨h1, h2, h3⟩ := turn_upds l ⟨s.env, put s.heap k (some F), mark s.used k⟩ hd.2
    refine ⟨h1, fun g => ?_, fun g => ?_⟩
    · refine (h2 g).trans ?_
      rw [keys_cons, memN_cons, lkp_cons]
      cases e : Nat.beq g k with
      | true =>
        have := Nat.eq_of_beq_eq_true e
        subst this
        have hn : memN g (keys l) = false := by simpa using hd.1
        rw [hn]
        exact put_same _ _ _
      | false =>
        show (if memN g (keys l) = true then lkp l g else put s.heap k (some F) g) = if memN g (keys l) = true then lkp l g else s.heap g
        rw [put_ne _ _ (fun e' => by rw [e', Nat.beq_refl] at e; cases e)]
    · refine (h3 g).trans ?_
      rw [keys_cons, memN_cons]
      show (memN g (keys l) || mark s.used k g) = _
      unfold mark
      cases e : Nat.beq g k with
      | true => simp
      | false => rfl
def famAt (s : St) : List (Nat × Fam) → Prop
  | [] => True
  | (g, F) :: l => s.heap g = some F ∧ famAt s l
theorem famAt.get {s : St} : ∀ {l : List (Nat × Fam)}, famAt s l → ∀ g fam, lkp l g = some fam → s.heap g = some fam
  | [], _, g, fam, h => by cases h
  | (k, F) :: l, hf, g, fam, h => by
    unfold lkp at h
    cases e : Nat.beq g k with
    | true => rw [e] at h; cases h; rw [Nat.eq_of_beq_eq_true e]; exact hf.1
    | false => rw [e] at h; exact famAt.get hf.2 g fam h
def okf (U : Nat → Bool) : List (Nat × Fam) → Prop
  | [] => True
  | (_, (n, F)) :: l => (∀ r, r < n → (F r).ok U) ∧ okf U l
theorem okf.get {U : Nat → Bool} : ∀ {l : List (Nat × Fam)}, okf U l → ∀ g n F r, lkp l g = some (n, F) → r < n → (F r).ok U
  | [], _, g, n, F, r, h, _ => by cases h
  | (k, (n0, F0)) :: l, hf, g, n, F, r, h, hr => by
    unfold lkp at h
    cases e : Nat.beq g k with
    | true => rw [e] at h; cases h; exact hf.1 r hr
    | false => rw [e] at h; exact okf.get hf.2 g n F r h hr
theorem oks.get {U : Nat → Bool} : ∀ {l : List AV}, oks U l → ∀ (t : Nat) (x : AV), l[t]? = some x → x.ok U
  | [], _, t, x, h => by cases h
  | y :: l, hf, 0, x, h => by cases h; exact hf.1
  | y :: l, hf, t + 1, x, h => oks.get hf.2 t x (by simpa using h)
theorem memN_of {g : Nat} : ∀ {l : List Nat}, g ∈ l → memN g l = true
  | [], h => by cases h
  | x :: l, h => by
    rw [memN_cons]
    rcases List.mem_cons.1 h with rfl | h
    · rw [Nat.beq_refl]; rfl
    · cases Nat.beq g x
      · exact memN_of h
      · rfl
theorem mem_upds : ∀ {h : List (Nat × Fam)} {g : Nat} {F : Fam}, (g, F) ∈ h → (g, some F) ∈ upds h
  | [], g, F, hp => by cases hp
  | (k, G) :: l, g, F, hp => by
    rcases List.mem_cons.1 hp with e | hp
    · cases e; exact List.mem_cons_self
    · exact List.mem_cons_of_mem _ (mem_upds hp)
theorem ok_callH {P : Program} {o : Oper} {s : St} {fo : Operand} {args : Array Operand} {Ts : Array TypeId} {F r : AV} {f : FuncId} {pre caps xs : List AV} {h h' : List (Nat × Fam)} (ho : o.op = .call { callee := .value fo, args := args, argTypes := Ts })
    (hF : avo s fo = some F) (hc : callee F = some (f, pre, caps)) (ha : avl s args.toList = some xs) (H : HasH P f h ((pre ++ xs ++ caps).map AV.old) r h')
    (hfam : famAt s h) (hsub : (keys h).all (fun g => memN g (keys h')) = true) (hnew : (keys h').all (fun g => memN g (keys h) || !(s.used g)) = true) (hk : okK h = true) (hd : noDup (keys h') = true)
    (hx : oks (fun g => memN g (keys h)) ((pre ++ xs ++ caps).map AV.old)) (hf : okf (fun g => memN g (keys h)) h) : LOK P o s ⟨some r, upds h', keys h⟩ := by
  have hnew' : ∀ g, memN g (keys h') = true → memN g (keys h) = true ∨ s.used g = false := fun g hg => by
    have := List.all_eq_true.1 hnew g (memN_spec hg)
    rw [Bool.or_eq_true] at this
    rcases this with h1 | h1
    · exact .inl h1
    · exact .inr (by simpa using h1)
  refine ⟨fun g hb hn => ?_, fun s2 h1 h2 h3 h4 W N β w a hs hN K Q hK => ?_⟩
  · obtain ⟨b, hb⟩ := hb
    rcases hnew' g (upds_mem hb) with h5 | h5
    · exact absurd (memN_spec h5) hn
    · exact h5
  · have hl : Like o (keys h) s s2 := ⟨h1, h2⟩
    obtain ⟨vs, hrun, hR0⟩ := call_args ho hF hc ha H.b hl hs
    have hR : RVs (notOwn W s2 β) W.w.heap.size β w ((pre ++ xs ++ caps).map AV.old) vs.toList := rvs_old hR0.1 hR0.2
    have hfam2 : ∀ g fam, lkp h g = some fam → s2.heap g = some fam := fun g fam hg => (h2 g (memN_spec (lkp_key hg))).trans (hfam.get g fam hg)
    have hnew2 : ∀ g, memN g (keys h') = true → memN g (keys h) = true ∨ s2.used g = false := fun g hg => by
      by_cases e : memN g (keys h) = true
      · exact .inl e
      · refine .inr (h4 g ?_ fun hm => e (memN_of hm))
        obtain ⟨x, hx⟩ := lkp_some hg
        exact ⟨some x, mem_upds (lkp_mem hx)⟩
    have hinto := hs.into hfam2 hk hR.1 (fun t x v e1 e2 => ⟨hx.get t x e1, hR.2 t x v e1 e2⟩) (hf.get)
    have hcall := H.run (subW hs h hfam2) β w vs.toList hR.1 (fun hne => by show (if _ then _ else _) = _; rw [if_neg (by simpa using hne)]) hinto
    unfold Oper.wp
    rw [hrun]
    show Calls P f _ w _
    rw [Array.toArray_toList] at hcall
    refine hcall.mono fun e w' he => ?_
    obtain ⟨v, β', rfl, hsim, hβ⟩ := he
    obtain ⟨t1, t2, t3⟩ := turn_upds h' s2 hd
    have hnl : ∀ g n F q, lkp h g = some (n, F) → q < n → ∀ m f, F q ≠ .lims m f := fun g n F q e1 e2 m f e3 => by
      have := hf.get g n F q e1 e2
      rw [e3] at this
      have : memN 77 (keys h) = true := this
      rw [okK_no hk] at this; cases this
    obtain ⟨b1, b2⟩ := hs.back (s' := turn s2 (upds h')) hfam2 hnl (fun g hg => List.all_eq_true.1 hsub g (memN_spec hg)) hnew2 hsim hβ t1 t2 t3
    have b3 := b1.putv (d := o.dst) (v := v) (r := some r) hN (fun x hx _ => by cases hx; exact b2)
    refine hK (mixβ h' β β') _ w' ?_
    cases hd : o.dst with
    | none => rw [hd] at b3; exact b3
    | some t =>
      rw [hd] at b3
      have e : (s2.app (some t) ⟨some r, upds h', keys h⟩) = (turn s2 (upds h')).app (some t) ⟨some r, [], []⟩ := by
        show setE _ _ = setE _ _
        rw [turn_env]; rfl
      rw [e]
      exact b3
theorem st_callH {ops : Array Oper} {l : List Oper} {s : St} {acc : List Fp} {K : St → List Fp → Prop} {d : Option Tmp} {ty : TypeId} {ps : String} {aft : Array Edge} {fo : Operand} {args : Array Operand} {Ts : Array TypeId} {F r : AV} {f : FuncId} {pre caps xs : List AV} {h h' : List (Nat × Fam)}
    (hF : avo s fo = some F) (hc : callee F = some (f, pre, caps)) (ha : avl s args.toList = some xs) (H : HasH Try.prog f h ((pre ++ xs ++ caps).map AV.old) r h')
    (hfam : famAt s h) (hsub : (keys h).all (fun g => memN g (keys h')) = true) (hnew : (keys h').all (fun g => memN g (keys h) || !(s.used g)) = true) (hk : okK h = true) (hd : noDup (keys h') = true)
    (hx : oks (fun g => memN g (keys h)) ((pre ++ xs ++ caps).map AV.old)) (hf : okf (fun g => memN g (keys h)) h)
    (k : AOps Try.prog ops l (nxt s d (some r) (upds h')) ((keys h, (upds h').map (·.1)) :: acc) K) : AOps Try.prog ops (⟨d, .call ⟨.value fo, args, Ts⟩, ty, ps, aft, none⟩ :: l) s acc K :=
  .cons _ (.inl ⟨.none rfl, ok_callH rfl hF hc ha H hfam hsub hnew hk hd hx hf⟩) k
theorem ev_pick {s : St} {d : Option Tmp} {ty : TypeId} {ps : String} {aft : Array Edge} {gd : Option (Nat × Bool)} {c x y : Operand} {b v : Bool} {z : AV} (hc : avo s c = some (.v (.bool b))) (hb : b = v) (hx : avo s (bif v then x else y) = some z) : ev ⟨d, .pick c x y, ty, ps, aft, gd⟩ s = some (⟨some z, [], []⟩, True) := by
  subst hb
  show evPick s c x y = _
  unfold evPick
  rw [hc]
  simp only []
  rw [hx]
  rfl
section
variable {ops : Array Oper} {l : List Oper} {s : St} {acc : List Fp} {K : St → List Fp → Prop} {d : Option Tmp} {ty : TypeId} {ps : String} {aft : Array Edge} {c x y : Operand} {b : Bool} {z : AV}
theorem st_pickt (hc : avo s c = some (.v (.bool b))) (hb : b = true) (hx : avo s x = some z) (k : AOps Try.prog ops l (nxt s d (some z) []) (([], []) :: acc) K) : AOps Try.prog ops (⟨d, .pick c x y, ty, ps, aft, none⟩ :: l) s acc K :=
  st_ev (ev_pick hc hb hx) True.intro k
theorem st_pickf (hc : avo s c = some (.v (.bool b))) (hb : b = false) (hx : avo s y = some z) (k : AOps Try.prog ops l (nxt s d (some z) []) (([], []) :: acc) K) : AOps Try.prog ops (⟨d, .pick c x y, ty, ps, aft, none⟩ :: l) s acc K :=
  st_ev (ev_pick hc hb hx) True.intro k
theorem st_pickgt {j : Nat} {want b0 : Bool} {t : Tmp} (ht : (ops[j]?).bind (·.dst) = some t) (he : s.env t = some (.v (.bool b0))) (h0 : (b0 == want) = true) (hc : avo s c = some (.v (.bool b))) (hb : b = true) (hx : avo s x = some z) (k : AOps Try.prog ops l (nxt s d (some z) []) (([], []) :: acc) K) : AOps Try.prog ops (⟨d, .pick c x y, ty, ps, aft, some (j, want)⟩ :: l) s acc K :=
  st_evg ht he h0 (ev_pick hc hb hx) True.intro k
theorem st_pickgf {j : Nat} {want b0 : Bool} {t : Tmp} (ht : (ops[j]?).bind (·.dst) = some t) (he : s.env t = some (.v (.bool b0))) (h0 : (b0 == want) = true) (hc : avo s c = some (.v (.bool b))) (hb : b = false) (hx : avo s y = some z) (k : AOps Try.prog ops l (nxt s d (some z) []) (([], []) :: acc) K) : AOps Try.prog ops (⟨d, .pick c x y, ty, ps, aft, some (j, want)⟩ :: l) s acc K :=
  st_evg ht he h0 (ev_pick hc hb hx) True.intro k
end
end Go.Proofs.Ytpclkgjhfhhddaa.AM
/- Own slices that are handed to a call that only reads them. -/
namespace Go.Proofs.Ytpclkgjhfhhddaa.AM
open Go Go.RowKit Go.Proofs.Ytpclkgjhfhhddaa.PN Go.Proofs.Ytpclkgjhfhhddaa.V
set_option linter.unusedVariables false
set_option linter.unusedSimpArgs false
/-- A row, as it is or own. -/
inductive RView (s : St) (rd : List Nat) : AV → Nat → (Nat → RA) → Prop where
  | row {fr : Bool} {n : Nat} {f : Nat → RA} : RView s rd (.row fr n f) n f
  | own {g r n m : Nat} {F : Nat → Blk} {f f0 : Nat → RA} (hg : s.heap g = some (n, F)) (hr : r < n) (hF : F r = .rats m f0) (hrd : g ∈ rd) (he : ∀ i, i < m → f0 i = f i) : RView s rd (.own g r) m f
/-- What a reader may take a value for. -/
inductive View (s : St) (rd : List Nat) : AV → AV → Prop where
  | old {x y : AV} (h : x.old = y) : View s rd x y
  | row {x : AV} {n : Nat} {f : Nat → RA} (h : RView s rd x n f) : View s rd x (.row false n f)
  | mat {g r n n' : Nat} {F : Nat → Blk} {f : Nat → AV} {m : Nat → Nat} {G : Nat → Nat → RA} (hg : s.heap g = some (n', F)) (hr : r < n') (hF : F r = .ones WT n f) (hrd : g ∈ rd) (h : ∀ i, i < n → RView s rd (f i) (m i) (G i)) : View s rd (.own g r) (.mat false n m G)
def safe : AV → Bool
  | .v _ | .nat _ | .lb _ | .ra _ | .rs _ | .rn _ | .rd _ => true
  | .row fr _ _ => fr
  | .mat fr _ _ _ => fr
  | .tup a b => safe a && safe b
  | .tup3 a b c => safe a && (safe b && safe c)
  | _ => false
theorem row_congr {S : Nat → Prop} {B : Nat} {w : World} {fr : Bool} {n : Nat} {f g : Nat → RA} {v : Value} (he : ∀ i, i < n → f i = g i) (h : RowV S B w fr n f v) : RowV S B w fr n g v := by
  obtain ⟨A, c, e1, e2, e3, e4⟩ := h
  refine ⟨A, c, e1, e2, e3, fun i hi => ?_⟩
  obtain ⟨b, off, a1, a2, a3, a4⟩ := e4 i hi
  exact ⟨b, off, a1, a2, a3, by rw [← he i hi]; exact a4⟩
inductive Views (s : St) (rd : List Nat) : List AV → List AV → Prop where
  | nil : Views s rd [] []
  | cons {x y : AV} {xs ys : List AV} (h : View s rd x y) (k : Views s rd xs ys) : Views s rd (x :: xs) (y :: ys)
theorem Views.get {s : St} {rd : List Nat} : ∀ {xs ys : List AV}, Views s rd xs ys → xs.length = ys.length ∧ ∀ (i : Nat) (y : AV), ys[i]? = some y → ∃ x, xs[i]? = some x ∧ View s rd x y
  | _, _, .nil => ⟨rfl, fun i y h => by cases h⟩
  | _, _, .cons h k => by
    obtain ⟨h1, h2⟩ := k.get
    refine ⟨by simp [h1], fun i y hy => ?_⟩
    cases i with
    | zero => cases hy; exact ⟨_, rfl, h⟩
    | succ i => exact h2 i y (by simpa using hy)
end Go.Proofs.Ytpclkgjhfhhddaa.AM
/- Limbs behind none: new limbs. -/
namespace Go.Proofs.Ytpclkgjhfhhddaa.AM
open Go Go.RowKit Go.Proofs.Ytpclkgjhfhhddaa.PN Go.Proofs.Ytpclkgjhfhhddaa.V
set_option linter.unusedVariables false
set_option linter.unusedSimpArgs false
theorem ok_build0 {o : Oper} {s : St} (ho : o.op = .buildSlice 41 0 #[]) : LOK Try.prog o s ⟨some .e0, [], []⟩ := by
  refine lok_kept fun s2 hl W N β w a hs K Q hK => ?_
  obtain ⟨i0, hi, hz0, hz1, hz2⟩ := info_parts info_u32
  have hrun : (Instr.buildSlice 41 0 (#[] : Array (Nat × Value))).run Try.prog w = .ok (.slice (some ⟨w.heap.size, 0, none⟩) 0 0) (w.alloc (.cells #[] U32)) :=
    run_buildSlice w Try.underlying41 hi hz0 hz1 (by omega) (by simp [Instr.fill, madeCells])
  unfold Oper.wp
  have he : (execOp a.eval o).run Try.prog w = .ok (.value (.slice (some ⟨w.heap.size, 0, none⟩) 0 0)) (w.alloc (.cells #[] U32)) := by
    unfold execOp; rw [ho]; simp only [Sem.run_bind]
    rw [show ((#[] : Array (Nat × Operand)).map fun p => (p.1, a.eval p.2)) = #[] from by simp, hrun]
    rfl
  rw [he]
  exact hK _ _ (Kept.alloc _ _) fun x hx => by cases hx; exact ⟨trivial, _, rfl, row_new w #[] U32⟩
theorem run_app0 {w : World} {g : Nat} {v : Value} {n : Nat} (hr : Row? w g #[] U32) (hn : NatS w (fun _ => True) v n) (hs : size n ≤ 1000000000000) (ty : TypeId) :
    ∃ v' w', (Builtin.append_ #[41, 41] ty #[.slice (some ⟨g, 0, none⟩) 0 0, v]).run Try.prog w = .ok v' w' ∧ Kept w w' ∧ NatS w' (fun _ => True) v' n := by
  obtain ⟨i0, hi, hz0, hz1, hz2⟩ := info_parts info_u32
  obtain ⟨A, c, rfl, hc, hx⟩ := hn
  by_cases h0 : size n = 0
  · refine ⟨.slice (some ⟨g, 0, none⟩) 0 0, w, ?_, Below.refl _ _, ?_⟩
    · rw [h0]
      cases A with
      | none => simp [Builtin.append_, run_underlying Try.underlying41, sizeOf, typeInfo, hi, Builtin.lenOf, Builtin.firstCells, storeCells]
      | some a => simp [Builtin.append_, run_underlying Try.underlying41, sizeOf, typeInfo, hi, Builtin.lenOf, Builtin.firstCells, storeCells, loadCells, loadCellsFrom, World.setCells]
    · show Dg w _ _ n (size n)
      rw [h0]
      exact ⟨_, _, rfl, Nat.le_refl _, fun i hi => absurd hi (Nat.not_lt_zero _)⟩
  · obtain ⟨A', c', e, _, hat⟩ := Dg.at (s := n) (⟨A, c, rfl, hc, hx⟩ : Dg w (fun _ => True) (.slice A (size n) c) n (size n))
    cases e
    obtain ⟨b, off, e1, _⟩ := hat 0 (by omega)
    subst e1
    obtain ⟨v', w', h1, h2, h3⟩ := run_append_arg_grows (P := Try.prog) w 41 ty U32 i0 (.int .u32 0) 1 4 Try.underlying41 hi hz0 hz1 hz2 rfl (by decide) ⟨g, 0, none⟩ 0 0 [] rfl (by simp) ⟨b, off, none⟩ (size n) c (lim n (size n)) (by rw [lim_length, Nat.mul_one]) (hat.cells_any) (by omega) (by unfold maxLen; omega) (by omega)
    refine ⟨v', w', h1, Kept.grown (Below.refl _ _) h3 (fun k hk => by cases hk), ?_⟩
    have h4 := Dg.of_own (s := n) (n := size n) h2 (by omega) rfl
    obtain ⟨A2, c2, q1, q2, q3⟩ := h4
    exact ⟨A2, c2, q1, q2, fun i hi => by obtain ⟨b, off, cs, a1, a2, a3, a4⟩ := q3 i hi; exact ⟨b, off, cs, a1, trivial, a3, a4⟩⟩
/-- The whole number whose limbs a value is. -/
def numA : AV → Option Nat
  | .nat n => some n
  | .rn (.q p) => some (nm p)
  | .rd (.q p) => some p.den
  | _ => none
theorem numA_rv {y : AV} {n : Nat} (h : numA y = some n) {S : Nat → Prop} {B : Nat} {β : Nat → Nat → Value} {w : World} {v : Value} : RV S B β w y v ↔ NatS w (fun _ => True) v n := by
  unfold numA at h
  split at h <;> cases h <;> exact Iff.rfl
theorem numA_ok {y : AV} {n : Nat} (h : numA y = some n) (U : Nat → Bool) : y.ok U := by
  unfold numA at h
  split at h <;> cases h <;> trivial
theorem ok_app0 {o : Oper} {s : St} {x y : Operand} {Y : AV} {n : Nat} (ho : o.op = .call { callee := .builtin .append, args := #[x, y], argTypes := #[41, 41] }) (hx : avo s x = some .e0) (hy : avo s y = some Y) (hn : numA Y = some n) (hs : size n ≤ 1000000000000) : LOK Try.prog o s ⟨some Y, [], []⟩ := by
  refine lok_kept fun s2 hl W N β w a hsim K Q hK => ?_
  obtain ⟨_, g, h1, hr⟩ := hsim.opd (x := x) (by rw [hl.avo (by rw [ho]; simp [Op.operands, Call.operands])]; exact hx)
  obtain ⟨_, h2⟩ := hsim.opd (x := y) (by rw [hl.avo (by rw [ho]; simp [Op.operands, Call.operands])]; exact hy)
  obtain ⟨v', w', hrun, hk, hv⟩ := run_app0 hr ((numA_rv hn).1 h2) hs o.type
  have he : (execOp a.eval o).run Try.prog w = .ok (.value v') w' := by
    unfold execOp; rw [ho]; simp only [resolve, List.map_toArray, List.map_cons, List.map_nil]; rw [h1]
    simp only [Sem.run_bind, Sem.run_pure, Result.andThen_ok, invoke, builtin, hrun]
  unfold Oper.wp
  rw [he]
  exact hK _ _ hk fun x hx => by cases hx; exact ⟨numA_ok hn _, (numA_rv hn).2 hv⟩
section
variable {ops : Array Oper} {l : List Oper} {s : St} {acc : List Fp} {K : St → List Fp → Prop} {d : Option Tmp} {ty : TypeId} {ps : String} {aft : Array Edge}
theorem st_build0 (k : AOps Try.prog ops l (nxt s d (some .e0) []) (([], []) :: acc) K) : AOps Try.prog ops (⟨d, .buildSlice 41 0 #[], ty, ps, aft, none⟩ :: l) s acc K := st_lok (ok_build0 rfl) k
theorem st_app0 {x y : Operand} {Y : AV} {n : Nat} (hx : avo s x = some .e0) (hy : avo s y = some Y) (hn : numA Y = some n) (hs : size n ≤ 1000000000000) (k : AOps Try.prog ops l (nxt s d (some Y) []) (([], []) :: acc) K) : AOps Try.prog ops (⟨d, .call ⟨.builtin .append, #[x, y], #[41, 41]⟩, ty, ps, aft, none⟩ :: l) s acc K := st_lok (ok_app0 rfl hx hy hn hs) k
end
theorem ok_build_num {o : Oper} {s : St} {parts : Array (Nat × Operand)} {ys : List (Nat × AV)} {b : Bool} {Y1 Y2 : AV} {n m : Nat} (q : Rat) (ho : o.op = .build RT parts) (hp : partsA s parts.toList = some ys) (hok : (ys.all fun p => partOK p.2) = true) (hf : fillA [(0, 1), (1, 1), (2, 1)] [.v (.bool false), .v (.slice none 0 0), .v (.slice none 0 0)] ys = some [.v (.bool b), Y1, Y2]) (h1 : numA Y1 = some n) (h2 : numA Y2 = some m) (hb : b = ng q) (hn : n = nm q) (hm : m = q.den) :
    LOK Try.prog o s ⟨some (.ra (.q q)), [], []⟩ := by
  refine lok_val fun s2 hk W N β w a hs => ?_
  obtain ⟨c', hrun, hc⟩ := build_lay ho lay_rt hp hok hf hk hs
  refine ⟨_, hrun, fun x hx => ?_⟩
  cases hx
  obtain ⟨c'⟩ := c'
  have hl : c'.length = 3 := hc.1
  match c', hl with
  | [v0, v1, v2], _ =>
    have a0 := (hc.2 0 _ _ rfl rfl).2.2
    have a1 := (hc.2 1 _ _ rfl rfl).2.2
    have a2 := (hc.2 2 _ _ rfl rfl).2.2
    have a0 : v0 = .bool b := a0
    subst a0; subst hn; subst hm
    exact ⟨trivial, b, v1, v2, rfl, hb, (numA_rv h1).1 a1, (numA_rv h2).1 a2⟩
theorem k_neg {p : Rat} (hs : wt p ≤ 1000000) : Has Try.prog 57 [.q p] (.q (-p)) := by
  refine has_of Try.func57 (by kernel_rfl) rfl Try.ntmps57 Try.results57 rfl rfl rfl ?_
  have b1 := wt_num p
  have b2 := wt_den p
  cases hg : ng p with
  | true =>
    have hA : ((!(ng p)) == true) = false := by rw [hg]; rfl
    have hB : (!(ng p)) = false := by rw [hg]; rfl
    have hq : (false : Bool) = ng (-p) := by rw [neg_ng, hg]; rfl
    refine run0 ?_
    with_reducible apply st_lok
    · exact ok_build_num (-p) rfl rfl rfl rfl rfl rfl hq (neg_nm p).symm (neg_den p).symm
    refine run0 ?_
    refine ⟨.inr rfl, _, Imp.refl _, ?_⟩
    exact .one (.rat rfl rfl (by decide) rfl (by decide) rfl)
  | false =>
    have hA : ((!(ng p)) == true) = true := by rw [hg]; rfl
    have hB : (!(ng p)) = true := by rw [hg]; rfl
    have hq : decide ((0 : Int) < (size (nm p) : Int)) = ng (-p) := by
      rw [neg_ng, hg]
      show _ = (true && decide (0 < nm p))
      rw [Bool.true_and]
      have h1 := size_eq_zero (s := nm p)
      exact decide_eq_decide.2 (by omega)
    refine run0 ?_
    with_reducible apply st_lok
    · exact ok_build_num (-p) rfl rfl rfl rfl rfl rfl hq (neg_nm p).symm (neg_den p).symm
    refine run0 ?_
    refine ⟨.inr rfl, _, Imp.refl _, ?_⟩
    exact .one (.rat rfl rfl (by decide) rfl (by decide) rfl)
theorem k_copy {p : Rat} (hs : wt p ≤ 1000000) : Has Try.prog 26 [.q p] (.q p) := by
  have h2 := k_neg (p := -p) (by rw [wt_neg]; exact hs)
  rw [Rat.neg_neg] at h2
  refine has_of Try.func26 (by kernel_rfl) rfl Try.ntmps26 Try.results26 rfl rfl rfl ?_
  repeat(first|refine run1 ?_|((with_reducible apply st_call);exact rfl;exact rfl;exact rfl;first|(exact k_neg hs)|(exact h2))|((with_reducible apply st_callg);exact rfl;exact rfl;(first|exact rfl|assumption);exact rfl;exact rfl;exact rfl;first|(exact k_neg hs)|(exact h2)))
  refine ⟨.inr rfl, _, Imp.refl _, ?_⟩
  exact .one (.rat rfl rfl (by decide) rfl (by decide) rfl)
end Go.Proofs.Ytpclkgjhfhhddaa.AM
/- A matrix of own rows that is written no more. -/
namespace Go.Proofs.Ytpclkgjhfhhddaa.AM
open Go Go.RowKit Go.Proofs.Ytpclkgjhfhhddaa.PN Go.Proofs.Ytpclkgjhfhhddaa.V
set_option linter.unusedVariables false
set_option linter.unusedSimpArgs false
end Go.Proofs.Ytpclkgjhfhhddaa.AM
/- What a law is called with. -/
namespace Go.Proofs.Ytpclkgjhfhhddaa.V
open Go
def IsRow (k : IntKind) (w : World) (a : Option Addr) (len cap : Nat) (zs : List Int) : Prop :=
  (a = none ∧ len = 0 ∧ cap = 0 ∧ zs = []) ∨
  ∃ x, a = some x ∧ len ≤ cap ∧ cap ≤ maxLen ∧ zs.length = cap ∧ (∀ i, i < zs.length → w.cell? (x.add i) = some (.int k (zs.getD i 0))) ∧ ∀ n ∈ zs, (Lit.int k n).wf = true
end Go.Proofs.Ytpclkgjhfhhddaa.V
namespace Go.Proofs.Ytpclkgjhfhhddaa.AM
open Go Go.RowKit Go.Proofs.Ytpclkgjhfhhddaa.PN Go.Proofs.Ytpclkgjhfhhddaa.V
set_option linter.unusedVariables false
set_option linter.unusedSimpArgs false
def AllFit (zs : List Int) : Prop := ∀ i, i < zs.length → Fits .i64 (zs.getD i 0)
theorem fit_wf {n : Int} (h : (Lit.int .i64 n).wf = true) : Fits .i64 n := by
  unfold Lit.wf at h
  rw [Bool.and_eq_true] at h
  exact ⟨of_decide_eq_true h.1, of_decide_eq_true h.2⟩
theorem row_seq {W : World} {a : Option Addr} {len cap : Nat} {zs : List Int} (h : IsRow .i64 W a len cap zs) (B : Nat) (β : Nat → Nat → Value) : ∃ l, AllFit l ∧ RV (fun _ => True) B β W (.seq .i64 l) (.slice a len cap) := by
  rcases h with ⟨rfl, rfl, rfl, rfl⟩ | ⟨x, rfl, h1, h2, h3, h4, h5⟩
  · exact ⟨[], fun i hi => absurd hi (Nat.not_lt_zero _), none, 0, rfl, Nat.le_refl _, Nat.zero_le _, fun i hi => absurd hi (Nat.not_lt_zero _)⟩
  · have hl : (zs.take len).length = len := by simp; omega
    have hg : ∀ i, i < len → (zs.take len).getD i 0 = zs.getD i 0 := fun i hi => by
      rw [List.getD_eq_getElem?_getD, List.getD_eq_getElem?_getD, List.getElem?_take, if_pos hi]
    refine ⟨zs.take len, fun i hi => ?_, some x, cap, by rw [hl], by rw [hl]; exact h1, h2, fun i hi => ?_⟩
    · rw [hl] at hi
      rw [hg i hi]
      apply fit_wf
      apply h5
      rw [List.getD_eq_getElem?_getD, List.getElem?_eq_getElem (by omega)]
      exact List.getElem_mem _
    · rw [hl] at hi
      exact ⟨x, rfl, trivial, by rw [hg i hi]; exact h4 i (by omega)⟩
/-- The same of arguments that say no less. -/
theorem Has.args {P : Program} {f : FuncId} {xs xs' : List AV} {r : AV} (H : Has P f xs' r) (h : ∀ S B β w vs, RVs S B β w xs vs → RVs S B β w xs' vs) : Has P f xs r :=
  ⟨H.b, H.ok, fun w S β vs hv => H.run w S β vs (h _ _ _ _ _ hv)⟩
theorem rv_row {S : Nat → Prop} {B : Nat} {β : Nat → Nat → Value} {w : World} {fr : Bool} {n : Nat} {f g : Nat → RA} (h : ∀ i, i < n → f i = g i) (v : Value) (hv : RV S B β w (.row fr n f) v) : RV S B β w (.row fr n g) v := row_congr h hv
theorem rvs_cons {S : Nat → Prop} {B : Nat} {β : Nat → Nat → Value} {w : World} {x x' : AV} {xs xs' : List AV} {vs : List Value} (hx : ∀ v, RV S B β w x v → RV S B β w x' v) (h : ∀ us, RVs S B β w xs us → RVs S B β w xs' us) (k : RVs S B β w (x :: xs) vs) : RVs S B β w (x' :: xs') vs := by
  match vs, k with
  | [], k => exact absurd k.1 (by simp)
  | v :: us, k =>
    have k2 := h us ⟨by simpa using k.1, fun i y u hy hu => k.2 (i + 1) y u hy hu⟩
    refine ⟨by simpa using k2.1, fun i y u hy hu => ?_⟩
    cases i with
    | zero => cases hy; cases hu; exact hx _ (k.2 0 x v rfl rfl)
    | succ i => exact k2.2 i y u hy hu
end Go.Proofs.Ytpclkgjhfhhddaa.AM
/- Rows that are gathered, all of them own: in whatever slot. -/
namespace Go.Proofs.Ytpclkgjhfhhddaa.AM
open Go Go.RowKit Go.Proofs.Ytpclkgjhfhhddaa.PN Go.Proofs.Ytpclkgjhfhhddaa.V
set_option linter.unusedVariables false
set_option linter.unusedSimpArgs false
/-- Family g of one block, named anew: it was a. -/
def s1 (g a : Nat) : Ren := fun g' r => if g' = g then (a, r) else (g', r)
theorem s1_inj (g a g1 r1 g2 r2 : Nat) (h1 : memN g1 [g] = true) (h2 : memN g2 [g] = true) (e : s1 g a g1 r1 = s1 g a g2 r2) : g1 = g2 ∧ r1 = r2 := by
  have m1 := memN_spec h1
  have m2 := memN_spec h2
  simp only [List.mem_singleton] at m1 m2
  subst m1; subst m2
  unfold s1 at e
  rw [if_pos rfl, if_pos rfl] at e
  cases e; exact ⟨rfl, rfl⟩
theorem AllE.env {s s' : St} {σ : Ren} {U : Nat → Bool} (h : s'.env = s.env) : ∀ {l : List (Nat × AV)}, AllE s σ U l → AllE s' σ U l
  | [], _ => True.intro
  | (t, y) :: l, ⟨⟨x, h1, h2⟩, k⟩ => ⟨⟨x, by rw [h]; exact h1, h2⟩, AllE.env h k⟩
theorem grow_ok {U : Nat → Bool} {v : Nat → AV} {z : AV} {k : Nat} (hv : ∀ i, (v i).ok U) (hz : z.ok U) : ∀ i, (grow v z k i).ok U := fun i => by
  unfold grow; cases Nat.ble (i + 1) k
  · exact hz
  · exact hv i
/-- k rows of m numbers, gathered in slot t: family t bears them, family g is them. -/
def famT (t g : Nat) (e : List (Nat × AV)) (l : List (Nat × Fam)) (m : Nat) (A : Nat → Nat → Rat) : Nat → St
  | 0 => stl ((t, .v (.slice none 0 0)) :: e) l
  | k + 1 => stl ((t, .own t 0) :: e) ((t, (1, fun _ => .ones WT (k + 1) (fun i => .own g i))) :: (g, (k + 1, fun r => .rats m (fun j => .q (A r j)))) :: l)
def sT (t g a b k : Nat) : Ren := fun g' r => if g' = g then (if r < k then (g, r) else (b, r - k)) else if g' = t then (a, r) else (g', r)
def farL (t g a b : Nat) : List Nat → Bool
  | [] => true
  | x :: l => !(Nat.beq x t) && (!(Nat.beq x g) && (!(Nat.beq x a) && (!(Nat.beq x b) && farL t g a b l)))
/-- Rows in whatever order, with more memory beside. -/
abbrev TH (t g n m : Nat) (π : Nat → Nat) (A : Nat → Nat → Rat) (l : List (Nat × Fam)) : List (Nat × Fam) :=
  (t, (1, fun _ => .ones WT n (fun i => .own g (π i)))) :: (g, (n, fun r => .rats m (fun j => .q (A r j)))) :: l
/-- The rows, brought into the order in which they lie. -/
def sP (g n : Nat) (π : Nat → Nat) : Ren := fun g' r => if g' = g ∧ r < n then (g, π r) else (g', r)
end Go.Proofs.Ytpclkgjhfhhddaa.AM
/- Slices that are gathered from none, in one form. -/
namespace Go.Proofs.Ytpclkgjhfhhddaa.AM
open Go Go.RowKit Go.Proofs.Ytpclkgjhfhhddaa.PN Go.Proofs.Ytpclkgjhfhhddaa.V
set_option linter.unusedVariables false
set_option linter.unusedSimpArgs false
def nilB : Blk → Prop
  | .rats n _ => n = 0
  | .ones T n _ => T ≠ U32 ∧ n = 0
  | .lims _ _ => False
def notIn (t a : Nat) : List Nat → Bool
  | [] => true
  | x :: l => !(Nat.beq x t) && (!(Nat.beq x a) && notIn t a l)
/-- A slice in slot t, its block b; more memory beside. -/
abbrev accS (t : Nat) (b : Blk) (e : List (Nat × AV)) (l : List (Nat × Fam)) : St := stl ((t, .own t 0) :: e) ((t, (1, fun _ => b)) :: l)
/-- Rows that others have, too. -/
theorem imp_matf {s : St} (t : Nat) {g n : Nat} {F : Nat → Blk} {f : Nat → AV} (m : Nat → Nat) (G : Nat → Nat → RA) (hx : s.env t = some (.own g 0)) (hg : s.heap g = some (1, F)) (hF : F 0 = .ones WT n f) (hf : ∀ i, i < n → ∃ fr, f i = .row fr (m i) (G i)) : Imp s ⟨put s.env t (some (.mat false n m G)), put s.heap g none, s.used⟩ :=
  imp_turn1 hx hg trivial fun W N β w a hs v hv hok hb S' h1 h2 => by
    rw [hF] at hb
    obtain ⟨e0, A, n', c, e⟩ := hv
    rcases hb.2 with ⟨e', rfl⟩ | ⟨k, cs, hB, hr, hat, hx⟩
    · exact ⟨none, 0, e0.trans e', Nat.le_refl _, Nat.zero_le _, fun i hi => absurd hi (Nat.not_lt_zero _)⟩
    · have hub := ub_at hat
      rcases hat with ⟨e', _⟩ | ⟨cap, e', h3, h4, _⟩
      · rw [← e0, e] at e'; cases e'
      · refine ⟨_, cap, e0.trans e', h3, h4, fun i hi => ?_⟩
        obtain ⟨y, a0, a1, a2⟩ := hx i hi
        obtain ⟨fr, hfi⟩ := hf i hi
        rw [hfi] at a2
        refine ⟨k, 0, cs, y, rfl, h2 k hub, (fun e => by cases e), hr, by rw [Nat.zero_add]; exact a0, ?_⟩
        obtain ⟨A2, c2, b1, b2, b3, b4⟩ := a2
        exact ⟨A2, c2, b1, b2, b3, fun j hj => by obtain ⟨bb, off, d1, d2, d3, d4⟩ := b4 j hj; exact ⟨bb, off, d1, h1 _ d2, (fun e => by cases e), d4⟩⟩
end Go.Proofs.Ytpclkgjhfhhddaa.AM

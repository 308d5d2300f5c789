/- Joined texts, 20: RwB RwC. -/
import Derived.Test.YtpclkgjhfhhddaaJLawGenChecks19
set_option linter.unusedVariables false
set_option linter.unusedSimpArgs false
/- Numbers as they came in: which are right. -/
namespace Go.Proofs.Ytpclkgjhfhhddaa.AM
open Go Go.RowKit Go.Proofs.Ytpclkgjhfhhddaa.PN Go.Proofs.Ytpclkgjhfhhddaa.V
set_option linter.unusedVariables false
set_option linter.unusedSimpArgs false
set_option maxRecDepth 8000
set_option maxHeartbeats 8000000
theorem p3 {s s' : Bool} {n n' d d' : List Nat} {u : Nat → AV} (h0 : u 0 = .v (.bool s)) (h1 : u 1 = .plb n) (h2 : u 2 = .plb d) : ∀ i, i < 3 → u i = pag s n d i := fun i hi => by
  match i, hi with
  | 0, _ => exact h0
  | 1, _ => exact h1
  | 2, _ => exact h2
theorem Has.p1 {P : Program} {f : FuncId} {s : Bool} {n d : List Nat} {u : Nat → AV} {xs : List AV} {r : AV} (h0 : u 0 = .v (.bool s)) (h1 : u 1 = .plb n) (h2 : u 2 = .plb d) (H : Has P f (.ag 3 (pag s n d) :: xs) r) : Has P f (.ag 3 u :: xs) r :=
  Has.ag (p3 (s' := s) (n' := n) (d' := d) h0 h1 h2) H
theorem Has.p2 {P : Program} {f : FuncId} {s s' : Bool} {n d n' d' : List Nat} {u u' : Nat → AV} {r : AV} (h0 : u 0 = .v (.bool s)) (h1 : u 1 = .plb n) (h2 : u 2 = .plb d) (k0 : u' 0 = .v (.bool s')) (k1 : u' 1 = .plb n') (k2 : u' 2 = .plb d') (H : Has P f [.ag 3 (pag s n d), .ag 3 (pag s' n' d')] r) : Has P f [.ag 3 u, .ag 3 u'] r :=
  Has.args H fun S B β w vs hv => rvs_cons (rv_ag (p3 (s' := s) (n' := n) (d' := d) h0 h1 h2)) (fun us hu => rvs_cons (rv_ag (p3 (s' := s') (n' := n') (d' := d') k0 k1 k2)) rvs_same hu) hv
theorem lf_size1 {l : List Nat} (hf : LF l) (hn : l.length ≤ 1000000) : size (lval l) ≤ 1000000 := Nat.le_trans (size_lval hf) hn
theorem h1_one : Has Try.prog 97 [] (.nat 1) := by
  refine ⟨by kernel_rfl, trivial, fun w S β vs hv => ?_⟩
  have hv0 : vs = [] := by have := hv.1; exact List.eq_nil_of_length_eq_zero this.symm
  subst hv0
  refine (rone_any w).mono ?_
  rintro e w' ⟨v, rfl, h1, h2⟩
  exact ⟨_, rfl, h2, h1.any⟩
/-- Which raw numbers are right. -/
theorem p_rright {s : Bool} {n d : List Nat} (hn : LF n) (hd : LF d) (ln : n.length ≤ 1000) (ld : d.length ≤ 1000) : Has Try.prog 79 [.ag 3 (pag s n d)] (.b (rgtB s n d)) := by
  have c1 := p_right hn (by omega); have c2 := p_right hd (by omega)
  refine has_of Try.func79 (by kernel_rfl) rfl Try.ntmps79 Try.results79 rfl rfl rfl ?_
  cases hN : trimB n with
  | false =>
    rw [hN] at c1
    rw [show rgtB s n d = false by unfold rgtB; rw [hN]; rfl]
    repeat(first|refine run1p ?_|((with_reducible apply st_call);exact rfl;exact rfl;exact rfl;first|(exact c1)|(exact c2))|((with_reducible apply st_callg);exact rfl;exact rfl;(first|exact rfl|assumption);exact rfl;exact rfl;exact rfl;first|(exact c1)|(exact c2)))
    refine awp_yes rfl rfl ?_
    refine run0p ?_
    exact ⟨.inr rfl, _, Imp.refl _, .one (.tmp rfl)⟩
  | true =>
  rw [hN] at c1
  cases hD : trimB d with
  | false =>
    rw [hD] at c2
    rw [show rgtB s n d = false by unfold rgtB; rw [hN, hD]; rfl]
    repeat(first|refine run1p ?_|((with_reducible apply st_call);exact rfl;exact rfl;exact rfl;first|(exact c1)|(exact c2))|((with_reducible apply st_callg);exact rfl;exact rfl;(first|exact rfl|assumption);exact rfl;exact rfl;exact rfl;first|(exact c1)|(exact c2)))
    refine awp_yes rfl rfl ?_
    refine run0p ?_
    exact ⟨.inr rfl, _, Imp.refl _, .one (.tmp rfl)⟩
  | true =>
  rw [hD] at c2
  by_cases h0 : d.length = 0
  · have e0 : decide (((d.length : Nat) : Int) = 0) = true := decide_eq_true (by omega)
    rw [show rgtB s n d = false by unfold rgtB; rw [hN, hD, decide_eq_false (by omega : ¬ d.length ≠ 0)]; rfl]
    repeat(first|refine run1p ?_|((with_reducible apply st_call);exact rfl;exact rfl;exact rfl;first|(exact c1)|(exact c2))|((with_reducible apply st_callg);exact rfl;exact rfl;(first|exact rfl|assumption);exact rfl;exact rfl;exact rfl;first|(exact c1)|(exact c2)))
    refine awp_yes rfl e0 ?_
    refine run0p ?_
    exact ⟨.inr rfl, _, Imp.refl _, .one (.tmp rfl)⟩
  have e0 : decide (((d.length : Nat) : Int) = 0) = false := decide_eq_false (by omega)
  repeat(first|refine run1p ?_|((with_reducible apply st_call);exact rfl;exact rfl;exact rfl;first|(exact c1)|(exact c2))|((with_reducible apply st_callg);exact rfl;exact rfl;(first|exact rfl|assumption);exact rfl;exact rfl;exact rfl;first|(exact c1)|(exact c2)))
  refine awp_no rfl e0 ?_
  have c3 := p_cmpn (b := 1) hd hD (by omega) (by decide)
  have c4 := p_gcd hn hd hN hD (by omega) (by omega)
  have sg : size (Nat.gcd (lval n) (lval d)) ≤ 1000000 := by
    have hd0 : 0 < lval d := by
      have := lval_nil hD
      rcases Nat.eq_zero_or_pos (lval d) with h | h
      · omega
      · exact h
    exact Nat.le_trans (size_le_of_le (Nat.gcd_le_right _ hd0)) (lf_size1 hd (by omega))
  have c5 := h_ncmp (a := Nat.gcd (lval n) (lval d)) (b := 1) (by omega) (by decide)
  by_cases z : n.length = 0
  · have e1 : decide (((n.length : Nat) : Int) = 0) = true := decide_eq_true (by omega)
    have z0 := (lval_nil hN).1 z
    refine run0p ?_
    refine awp_yes rfl e1 ?_
    cases s with
    | true =>
      rw [show rgtB true n d = false by unfold rgtB; rw [hN, hD, decide_eq_true z, decide_eq_true h0]; rfl]
      refine run0p ?_
      exact ⟨.inr rfl, _, Imp.refl _, .one (.tmp rfl)⟩
    | false =>
      rw [show rgtB false n d = decide (cmpI (lval d) 1 = 0) by unfold rgtB; rw [hN, hD, decide_eq_true h0, gcd1_cmp, z0, Nat.gcd_zero_left]; simp]
      repeat(first|refine run1p ?_|((with_reducible apply st_call);exact rfl;exact rfl;exact rfl;first|(exact h1_one)|(exact c3))|((with_reducible apply st_callg);exact rfl;exact rfl;(first|exact rfl|assumption);exact rfl;exact rfl;exact rfl;first|(exact h1_one)|(exact c3)))
      exact ⟨.inr rfl, _, Imp.refl _, .one (.tmp rfl)⟩
  · have e1 : decide (((n.length : Nat) : Int) = 0) = false := decide_eq_false (by omega)
    rw [show rgtB s n d = decide (cmpI (Nat.gcd (lval n) (lval d)) 1 = 0) by unfold rgtB; rw [hN, hD, decide_eq_true h0, decide_eq_false z, gcd1_cmp]; simp]
    refine run0p ?_
    refine awp_no rfl e1 ?_
    repeat(first|refine run1p ?_|((with_reducible apply st_call);exact rfl;exact rfl;exact rfl;first|(exact c4)|(exact h1_one)|(exact c5))|((with_reducible apply st_callg);exact rfl;exact rfl;(first|exact rfl|assumption);exact rfl;exact rfl;exact rfl;first|(exact c4)|(exact h1_one)|(exact c5)))
    exact ⟨.inr rfl, _, Imp.refl _, .one (.tmp rfl)⟩
theorem pr_rright {s : Bool} {n d : List Nat} (hn : LF n) (hd : LF d) (ln : n.length ≤ 1000) (ld : d.length ≤ 1000) : Has Try.prog 81 [.ag 3 (pag s n d)] (.b (rgtB s n d)) := by
  have c1 := pr_right hn (by omega); have c2 := pr_right hd (by omega)
  refine has_of Try.func81 (by kernel_rfl) rfl Try.ntmps81 Try.results81 rfl rfl rfl ?_
  cases hN : trimB n with
  | false =>
    rw [hN] at c1
    rw [show rgtB s n d = false by unfold rgtB; rw [hN]; rfl]
    repeat(first|refine run1p ?_|((with_reducible apply st_call);exact rfl;exact rfl;exact rfl;first|(exact c1)|(exact c2))|((with_reducible apply st_callg);exact rfl;exact rfl;(first|exact rfl|assumption);exact rfl;exact rfl;exact rfl;first|(exact c1)|(exact c2)))
    refine awp_yes rfl rfl ?_
    refine run0p ?_
    exact ⟨.inr rfl, _, Imp.refl _, .one (.tmp rfl)⟩
  | true =>
  rw [hN] at c1
  cases hD : trimB d with
  | false =>
    rw [hD] at c2
    rw [show rgtB s n d = false by unfold rgtB; rw [hN, hD]; rfl]
    repeat(first|refine run1p ?_|((with_reducible apply st_call);exact rfl;exact rfl;exact rfl;first|(exact c1)|(exact c2))|((with_reducible apply st_callg);exact rfl;exact rfl;(first|exact rfl|assumption);exact rfl;exact rfl;exact rfl;first|(exact c1)|(exact c2)))
    refine awp_yes rfl rfl ?_
    refine run0p ?_
    exact ⟨.inr rfl, _, Imp.refl _, .one (.tmp rfl)⟩
  | true =>
  rw [hD] at c2
  by_cases h0 : d.length = 0
  · have e0 : decide (((d.length : Nat) : Int) = 0) = true := decide_eq_true (by omega)
    have e00 : (decide (((d.length : Nat) : Int) = 0) == false) = false := by rw [e0]; rfl
    rw [show rgtB s n d = false by unfold rgtB; rw [hN, hD, decide_eq_false (by omega : ¬ d.length ≠ 0)]; rfl]
    repeat(first|refine run1p ?_|((with_reducible apply st_call);exact rfl;exact rfl;exact rfl;first|(exact c1)|(exact c2))|((with_reducible apply st_callg);exact rfl;exact rfl;(first|exact rfl|assumption);exact rfl;exact rfl;exact rfl;first|(exact c1)|(exact c2)))
    refine awp_yes rfl rfl ?_
    refine run0p ?_
    exact ⟨.inr rfl, _, Imp.refl _, .one (.tmp rfl)⟩
  have e0 : decide (((d.length : Nat) : Int) = 0) = false := decide_eq_false (by omega)
  have e00 : (decide (((d.length : Nat) : Int) = 0) == false) = true := by rw [e0]; rfl
  have c4 := pr_gcd hn hd hN hD (by omega) (by omega)
  have sg : size (Nat.gcd (lval n) (lval d)) ≤ 1000000 := by
    have hd0 : 0 < lval d := by
      have := lval_nil hD
      rcases Nat.eq_zero_or_pos (lval d) with h | h
      · omega
      · exact h
    exact Nat.le_trans (size_le_of_le (Nat.gcd_le_right _ hd0)) (lf_size1 hd (by omega))
  have c5 := hr_cmp (a := Nat.gcd (lval n) (lval d)) (b := 1) (by omega) (by decide)
  by_cases z : n.length = 0
  · have e1 : decide (((n.length : Nat) : Int) = 0) = true := decide_eq_true (by omega)
    have e11 : (decide (((n.length : Nat) : Int) = 0) == true) = true := by rw [e1]; rfl
    have z0 := (lval_nil hN).1 z
    cases s with
    | true =>
      rw [show rgtB true n d = false by unfold rgtB; rw [hN, hD, decide_eq_true z, decide_eq_true h0]; rfl]
      repeat(first|refine run1p ?_|((with_reducible apply st_call);exact rfl;exact rfl;exact rfl;first|(exact c1)|(exact c2))|((with_reducible apply st_callg);exact rfl;exact rfl;(first|exact rfl|assumption);exact rfl;exact rfl;exact rfl;first|(exact c1)|(exact c2)))
      refine awp_yes rfl rfl ?_
      refine run0p ?_
      exact ⟨.inr rfl, _, Imp.refl _, .one (.tmp rfl)⟩
    | false =>
      rw [show rgtB false n d = decide (cmpI (Nat.gcd (lval n) (lval d)) 1 = 0) by unfold rgtB; rw [hN, hD, decide_eq_true h0, gcd1_cmp]; simp]
      repeat(first|refine run1p ?_|((with_reducible apply st_call);exact rfl;exact rfl;exact rfl;first|(exact c1)|(exact c2))|((with_reducible apply st_callg);exact rfl;exact rfl;(first|exact rfl|assumption);exact rfl;exact rfl;exact rfl;first|(exact c1)|(exact c2)))
      refine awp_no rfl rfl ?_
      repeat(first|refine run1p ?_|((with_reducible apply st_call);exact rfl;exact rfl;exact rfl;first|(exact c4)|(exact h2_one)|(exact c5))|((with_reducible apply st_callg);exact rfl;exact rfl;(first|exact rfl|assumption);exact rfl;exact rfl;exact rfl;first|(exact c4)|(exact h2_one)|(exact c5)))
      exact ⟨.inr rfl, _, Imp.refl _, .one (.tmp rfl)⟩
  · have e1 : decide (((n.length : Nat) : Int) = 0) = false := decide_eq_false (by omega)
    have e11 : (decide (((n.length : Nat) : Int) = 0) == true) = false := by rw [e1]; rfl
    rw [show rgtB s n d = decide (cmpI (Nat.gcd (lval n) (lval d)) 1 = 0) by unfold rgtB; rw [hN, hD, decide_eq_true h0, decide_eq_false z, gcd1_cmp]; simp]
    repeat(first|refine run1p ?_|((with_reducible apply st_call);exact rfl;exact rfl;exact rfl;first|(exact c1)|(exact c2))|((with_reducible apply st_callg);exact rfl;exact rfl;(first|exact rfl|assumption);exact rfl;exact rfl;exact rfl;first|(exact c1)|(exact c2)))
    refine awp_no rfl rfl ?_
    repeat(first|refine run1p ?_|((with_reducible apply st_call);exact rfl;exact rfl;exact rfl;first|(exact c4)|(exact h2_one)|(exact c5))|((with_reducible apply st_callg);exact rfl;exact rfl;(first|exact rfl|assumption);exact rfl;exact rfl;exact rfl;first|(exact c4)|(exact h2_one)|(exact c5)))
    exact ⟨.inr rfl, _, Imp.refl _, .one (.tmp rfl)⟩
/-- Which may be handed in. -/
def smB (s : Bool) (n d : List Nat) : Bool := decide (n.length ≤ 4) && decide (d.length ≤ 4) && rgtB s n d
theorem p_small {s : Bool} {n d : List Nat} (hn : LF n) (hd : LF d) : Has Try.prog 53 [.ag 3 (pag s n d)] (.b (smB s n d)) := by
  refine has_of Try.func53 (by kernel_rfl) rfl Try.ntmps53 Try.results53 rfl rfl rfl ?_
  by_cases h1 : n.length ≤ 4
  · have e0 : decide (((n.length : Nat) : Int) ≤ 4) = true := decide_eq_true (by omega)
    have e00 : (decide (((n.length : Nat) : Int) ≤ 4) == true) = true := by rw [e0]; rfl
    by_cases h2 : d.length ≤ 4
    · have e1 : decide (((d.length : Nat) : Int) ≤ 4) = true := decide_eq_true (by omega)
      have e11 : (decide (((d.length : Nat) : Int) ≤ 4) == true) = true := by rw [e1]; rfl
      rw [show smB s n d = rgtB s n d by unfold smB; rw [decide_eq_true h1, decide_eq_true h2]; rfl]
      repeat(first|refine run1p ?_|((with_reducible apply st_call);exact rfl;exact rfl;exact rfl;first|(exact Has.p1 rfl rfl rfl (p_rright hn hd (by omega) (by omega))))|((with_reducible apply st_callg);exact rfl;exact rfl;(first|exact rfl|assumption);exact rfl;exact rfl;exact rfl;first|(exact Has.p1 rfl rfl rfl (p_rright hn hd (by omega) (by omega)))))
      exact ⟨.inr rfl, _, Imp.refl _, .one (.tmp rfl)⟩
    · have e1 : decide (((d.length : Nat) : Int) ≤ 4) = false := decide_eq_false (by omega)
      have e11 : (decide (((d.length : Nat) : Int) ≤ 4) == true) = false := by rw [e1]; rfl
      rw [show smB s n d = false by unfold smB; rw [decide_eq_false h2]; simp]
      refine run0p ?_
      exact ⟨.inr rfl, _, Imp.refl _, .one (.tmp rfl)⟩
  · have e0 : decide (((n.length : Nat) : Int) ≤ 4) = false := decide_eq_false (by omega)
    have e00 : (decide (((n.length : Nat) : Int) ≤ 4) == true) = false := by rw [e0]; rfl
    rw [show smB s n d = false by unfold smB; rw [decide_eq_false h1]; rfl]
    refine run0p ?_
    exact ⟨.inr rfl, _, Imp.refl _, .one (.tmp rfl)⟩
theorem p_bad {s : Bool} {n d : List Nat} (hn : LF n) (hd : LF d) : Has Try.prog 52 [.ag 3 (pag s n d)] (.b (!smB s n d)) := by
  refine has_of Try.func52 (by kernel_rfl) rfl Try.ntmps52 Try.results52 rfl rfl rfl ?_
  repeat(first|refine run1p ?_|((with_reducible apply st_call);exact rfl;exact rfl;exact rfl;first|(exact Has.p1 rfl rfl rfl (p_small hn hd)))|((with_reducible apply st_callg);exact rfl;exact rfl;(first|exact rfl|assumption);exact rfl;exact rfl;exact rfl;first|(exact Has.p1 rfl rfl rfl (p_small hn hd))))
  exact ⟨.inr rfl, _, Imp.refl _, .one (.tmp rfl)⟩
/-- Two right numbers are one. -/
def eqB (s : Bool) (n d : List Nat) (s' : Bool) (n' d' : List Nat) : Bool := (s == s') && decide (lval n = lval n') && decide (lval d = lval d')
end Go.Proofs.Ytpclkgjhfhhddaa.AM
/- Numbers as they came in: which are the same. -/
namespace Go.Proofs.Ytpclkgjhfhhddaa.AM
open Go Go.RowKit Go.Proofs.Ytpclkgjhfhhddaa.PN Go.Proofs.Ytpclkgjhfhhddaa.V
set_option linter.unusedVariables false
set_option linter.unusedSimpArgs false
set_option maxRecDepth 8000
set_option maxHeartbeats 8000000
/-- These limbs are this number's. -/
structure IsP (n d : List Nat) (p : Rat) : Prop where
  hn : LF n
  hd : LF d
  tn : trimB n = true
  td : trimB d = true
  en : lval n = nm p
  ed : lval d = p.den
  ln : n.length ≤ 1000
  ld : d.length ≤ 1000
theorem IsP.sn {n d : List Nat} {p : Rat} (h : IsP n d p) : size (nm p) ≤ 1000 := by rw [← h.en, ← trim_len h.tn]; exact h.ln
theorem IsP.sd {n d : List Nat} {p : Rat} (h : IsP n d p) : size p.den ≤ 1000 := by rw [← h.ed, ← trim_len h.td]; exact h.ld
/-- What a right number is. -/
theorem rgt_rat {s : Bool} {n d : List Nat} (h : rgtB s n d = true) : ∃ p : Rat, ng p = s ∧ nm p = lval n ∧ p.den = lval d := by
  unfold rgtB at h
  rw [Bool.and_eq_true, Bool.and_eq_true, Bool.and_eq_true, Bool.and_eq_true] at h
  obtain ⟨⟨⟨⟨h1, h2⟩, h3⟩, h4⟩, h5⟩ := h
  have h5 : Nat.gcd (lval n) (lval d) = 1 := by rw [gcd1, Nat.beq_eq] at h5; exact h5
  have h3 := of_decide_eq_true h3
  have hd0 : lval d ≠ 0 := fun e => h3 ((lval_nil h2).2 e)
  refine ⟨⟨if s then -(lval n : Int) else (lval n : Int), lval d, hd0, ?_⟩, ?_, ?_, rfl⟩
  · show Nat.Coprime (Int.natAbs _) _
    cases s
    · simpa using h5
    · simpa using h5
  · show decide ((if s = true then -(lval n : Int) else (lval n : Int)) < 0) = s
    cases s with
    | false => simp
    | true =>
      have hn : lval n ≠ 0 := by
        intro e
        have := (lval_nil h1).2 e
        rw [decide_eq_true this] at h4; cases h4
      rw [if_pos rfl]
      exact decide_eq_true (by omega)
  · show Int.natAbs (if s = true then -(lval n : Int) else (lval n : Int)) = lval n
    cases s <;> simp
theorem rgt_isp {s : Bool} {n d : List Nat} (h : rgtB s n d = true) (hn : LF n) (hd : LF d) (ln : n.length ≤ 1000) (ld : d.length ≤ 1000) : ∃ p : Rat, ng p = s ∧ IsP n d p := by
  obtain ⟨p, e1, e2, e3⟩ := rgt_rat h
  unfold rgtB at h
  rw [Bool.and_eq_true, Bool.and_eq_true, Bool.and_eq_true, Bool.and_eq_true] at h
  exact ⟨p, e1, hn, hd, h.1.1.1.1, h.1.1.1.2, e2.symm, e3.symm, ln, ld⟩
theorem isp_eq {n d n' d' : List Nat} {p q : Rat} (hp : IsP n d p) (hq : IsP n' d' q) : eqB (ng p) n d (ng q) n' d' = decide (p = q) := by
  unfold eqB
  rw [hp.en, hp.ed, hq.en, hq.ed, Bool.eq_iff_iff, Bool.and_eq_true, Bool.and_eq_true, beq_iff_eq, decide_eq_true_iff, decide_eq_true_iff, decide_eq_true_iff]
  constructor
  · rintro ⟨⟨h1, h2⟩, h3⟩; exact rat_ext h1 h2 h3
  · rintro rfl; exact ⟨⟨rfl, rfl⟩, rfl⟩
theorem p_of {n d : List Nat} {p : Rat} (hp : IsP n d p) : Has Try.prog 99 [.ag 3 (pag (ng p) n d)] (.ag 2 fun i => (mkOf p).getD i (.v undef)) := by
  have hl : n.length = size (nm p) := by rw [← hp.en]; exact trim_len hp.tn
  have hsd : decide (((n.length : Nat) : Int) = 0) = decide (p = 0) := by rw [hl]; exact size_dec p
  refine has_of Try.func99 (by kernel_rfl) rfl Try.ntmps99 Try.results99 rfl rfl rfl ?_
  refine run0p ?_
  rcases Bool.eq_false_or_eq_true (ng p) with e | e
  · skip
    have g0 : ng p = true := e
    have g1 : (ng p == true) = true := by rw [g0]; rfl
    have e2 : decide (0 < ((n.length : Nat) : Int)) = true := by
      have h1 : nm p ≠ 0 := fun e' => ng_ne e (nm_eq_zero.1 e')
      have := size_pos h1
      exact decide_eq_true (by omega)
    refine run0p ?_
    refine ⟨.inr rfl, _, Imp.refl _, .one (.agg rfl rfl rfl rfl (by decide) rfl ?_)⟩
    show AV.ag 2 (fun i => [AV.b (decide (0 < ((n.length : Nat) : Int))), AV.b (decide (((n.length : Nat) : Int) = 0))].getD i (.v undef)) = _
    rw [e2, hsd]; unfold mkOf; rw [e]
  · skip
    have g0 : ng p = false := e
    have g1 : (ng p == true) = false := by rw [g0]; rfl
    refine run0p ?_
    refine ⟨.inr rfl, _, Imp.refl _, .one (.agg rfl rfl rfl rfl (by decide) rfl ?_)⟩
    show AV.ag 2 (fun i => [AV.b false, AV.b (decide (((n.length : Nat) : Int) = 0))].getD i (.v undef)) = _
    rw [hsd]; unfold mkOf; rw [e]
theorem p_cmp {n d n' d' : List Nat} {p q : Rat} (hp : IsP n d p) (hq : IsP n' d' q) : ∃ c : Int, Has Try.prog 80 [.ag 3 (pag (ng p) n d), .ag 3 (pag (ng q) n' d')] (.i c) ∧ (c = 0 ↔ p = q) := by
  have c1 := p_mul hp.hn hq.hd hp.tn hq.td (Nat.le_trans hp.ln (by decide)) (Nat.le_trans hq.ld (by decide))
  have c2 := p_mul hq.hn hp.hd hq.tn hp.td (Nat.le_trans hq.ln (by decide)) (Nat.le_trans hp.ld (by decide))
  rw [hp.en, hq.ed] at c1; rw [hq.en, hp.ed] at c2
  have o1 := p_of hp; have o2 := p_of hq
  have z1 := hp.sn; have z2 := hp.sd; have z3 := hq.sn; have z4 := hq.sd
  have s1 := size_mul (nm p) q.den; have s2 := size_mul (nm q) p.den
  by_cases h1 : ng p = ng q ∧ decide (p = 0) = decide (q = 0)
  · have hm : (!((ng p == ng q) && (decide (p = 0) == decide (q = 0)))) = false := by
      rw [h1.1, h1.2]; simp
    have hc := cmpI_le (nm p * q.den) (nm q * p.den)
    rcases Bool.eq_false_or_eq_true (ng p) with e | e
    · skip
      refine ⟨0 - cmpI (nm p * q.den) (nm q * p.den), ?_, ?_⟩
      · refine has_of Try.func80 (by kernel_rfl) rfl Try.ntmps80 Try.results80 rfl rfl rfl ?_
        repeat(first|refine run1p ?_|((with_reducible apply st_call);exact rfl;exact rfl;exact rfl;first|(exact Has.p1 rfl rfl rfl o1)|(exact Has.p1 rfl rfl rfl o2))|((with_reducible apply st_callg);exact rfl;exact rfl;(first|exact rfl|assumption);exact rfl;exact rfl;exact rfl;first|(exact Has.p1 rfl rfl rfl o1)|(exact Has.p1 rfl rfl rfl o2)))
        refine awp_no rfl hm ?_
        repeat(first|refine run1p ?_|((with_reducible apply st_call);exact rfl;exact rfl;exact rfl;first|(exact c1)|(exact c2)|(exact h_ncmp (by omega) (by omega)))|((with_reducible apply st_callg);exact rfl;exact rfl;(first|exact rfl|assumption);exact rfl;exact rfl;exact rfl;first|(exact c1)|(exact c2)|(exact h_ncmp (by omega) (by omega))))
        refine awp_yes rfl e ?_
        refine run0p ?_
        exact ⟨.inr rfl, _, Imp.refl _, .one (.tmp rfl)⟩
      · rw [← cross h1.1, ← cmpI_zero]; omega
    · skip
      refine ⟨cmpI (nm p * q.den) (nm q * p.den), ?_, ?_⟩
      · refine has_of Try.func80 (by kernel_rfl) rfl Try.ntmps80 Try.results80 rfl rfl rfl ?_
        repeat(first|refine run1p ?_|((with_reducible apply st_call);exact rfl;exact rfl;exact rfl;first|(exact Has.p1 rfl rfl rfl o1)|(exact Has.p1 rfl rfl rfl o2))|((with_reducible apply st_callg);exact rfl;exact rfl;(first|exact rfl|assumption);exact rfl;exact rfl;exact rfl;first|(exact Has.p1 rfl rfl rfl o1)|(exact Has.p1 rfl rfl rfl o2)))
        refine awp_no rfl hm ?_
        repeat(first|refine run1p ?_|((with_reducible apply st_call);exact rfl;exact rfl;exact rfl;first|(exact c1)|(exact c2)|(exact h_ncmp (by omega) (by omega)))|((with_reducible apply st_callg);exact rfl;exact rfl;(first|exact rfl|assumption);exact rfl;exact rfl;exact rfl;first|(exact c1)|(exact c2)|(exact h_ncmp (by omega) (by omega))))
        refine awp_no rfl e ?_
        refine run0p ?_
        exact ⟨.inr rfl, _, Imp.refl _, .one (.tmp rfl)⟩
      · rw [← cross h1.1, ← cmpI_zero]
  · have hm : (!((ng p == ng q) && (decide (p = 0) == decide (q = 0)))) = true := by
      rw [Bool.not_eq_true']
      cases h2 : ng p == ng q with
      | false => rfl
      | true =>
        rw [Bool.true_and]
        exact beq_eq_false_iff_ne.2 fun h3 => h1 ⟨eq_of_beq h2, h3⟩
    have hne : p ≠ q := by rintro rfl; exact h1 ⟨rfl, rfl⟩
    rcases Bool.eq_false_or_eq_true (ng p) with e | e
    · skip
      refine ⟨-1, ?_, by simp [hne]⟩
      refine has_of Try.func80 (by kernel_rfl) rfl Try.ntmps80 Try.results80 rfl rfl rfl ?_
      repeat(first|refine run1p ?_|((with_reducible apply st_call);exact rfl;exact rfl;exact rfl;first|(exact Has.p1 rfl rfl rfl o1)|(exact Has.p1 rfl rfl rfl o2))|((with_reducible apply st_callg);exact rfl;exact rfl;(first|exact rfl|assumption);exact rfl;exact rfl;exact rfl;first|(exact Has.p1 rfl rfl rfl o1)|(exact Has.p1 rfl rfl rfl o2)))
      refine awp_yes rfl hm ?_
      refine run0p ?_
      refine awp_yes rfl e ?_
      refine run0p ?_
      refine awp_yes rfl e ?_
      refine run0p ?_
      exact ⟨.inr rfl, _, Imp.refl _, .one (.tmp rfl)⟩
    · skip
      cases z : decide (p = 0) with
      | false =>
        have z1 : (decide (p = 0) == true) = false := by rw [z]; rfl
        refine ⟨1, ?_, by simp [hne]⟩
        refine has_of Try.func80 (by kernel_rfl) rfl Try.ntmps80 Try.results80 rfl rfl rfl ?_
        repeat(first|refine run1p ?_|((with_reducible apply st_call);exact rfl;exact rfl;exact rfl;first|(exact Has.p1 rfl rfl rfl o1)|(exact Has.p1 rfl rfl rfl o2))|((with_reducible apply st_callg);exact rfl;exact rfl;(first|exact rfl|assumption);exact rfl;exact rfl;exact rfl;first|(exact Has.p1 rfl rfl rfl o1)|(exact Has.p1 rfl rfl rfl o2)))
        refine awp_yes rfl hm ?_
        refine run0p ?_
        refine awp_no rfl e ?_
        refine run0p ?_
        refine awp_no rfl rfl ?_
        refine run0p ?_
        exact ⟨.inr rfl, _, Imp.refl _, .one (.tmp rfl)⟩
      | true =>
        have z1 : (decide (p = 0) == true) = true := by rw [z]; rfl
        refine ⟨if (!ng q) = true then -1 else 1, ?_, by split <;> simp [hne]⟩
        refine has_of Try.func80 (by kernel_rfl) rfl Try.ntmps80 Try.results80 rfl rfl rfl ?_
        repeat(first|refine run1p ?_|((with_reducible apply st_call);exact rfl;exact rfl;exact rfl;first|(exact Has.p1 rfl rfl rfl o1)|(exact Has.p1 rfl rfl rfl o2))|((with_reducible apply st_callg);exact rfl;exact rfl;(first|exact rfl|assumption);exact rfl;exact rfl;exact rfl;first|(exact Has.p1 rfl rfl rfl o1)|(exact Has.p1 rfl rfl rfl o2)))
        refine awp_yes rfl hm ?_
        refine run0p ?_
        refine awp_no rfl e ?_
        refine run0p ?_
        cases u : (!ng q) with
        | true =>
          refine awp_yes rfl rfl ?_
          refine run0p ?_
          exact ⟨.inr rfl, _, Imp.refl _, .one (.tmp rfl)⟩
        | false =>
          refine awp_no rfl rfl ?_
          refine run0p ?_
          exact ⟨.inr rfl, _, Imp.refl _, .one (.tmp rfl)⟩
theorem p_same {n d n' d' : List Nat} {p q : Rat} (hp : IsP n d p) (hq : IsP n' d' q) : Has Try.prog 55 [.ag 3 (pag (ng p) n d), .ag 3 (pag (ng q) n' d')] (.b (decide (p = q))) := by
  obtain ⟨c, hc, he⟩ := p_cmp hp hq
  rw [show decide (p = q) = decide (c = 0) from decide_eq_decide.2 he.symm]
  refine has_of Try.func55 (by kernel_rfl) rfl Try.ntmps55 Try.results55 rfl rfl rfl ?_
  repeat(first|refine run1p ?_|((with_reducible apply st_call);exact rfl;exact rfl;exact rfl;first|(exact Has.p2 rfl rfl rfl rfl rfl rfl hc))|((with_reducible apply st_callg);exact rfl;exact rfl;(first|exact rfl|assumption);exact rfl;exact rfl;exact rfl;first|(exact Has.p2 rfl rfl rfl rfl rfl rfl hc)))
  exact ⟨.inr rfl, _, Imp.refl _, .one (.tmp rfl)⟩
theorem pr_same {n d n' d' : List Nat} {p q : Rat} (hp : IsP n d p) (hq : IsP n' d' q) : Has Try.prog 33 [.ag 3 (pag (ng p) n d), .ag 3 (pag (ng q) n' d')] (.b (decide (p = q))) := by
  have c1 := pr_cmp hp.hn hq.hn hp.tn hq.tn (Nat.le_trans hp.ln (by decide)) (Nat.le_trans hq.ln (by decide))
  have c2 := pr_cmp hp.hd hq.hd hp.td hq.td (Nat.le_trans hp.ld (by decide)) (Nat.le_trans hq.ld (by decide))
  rw [hp.en, hq.en] at c1; rw [hp.ed, hq.ed] at c2
  refine has_of Try.func33 (by kernel_rfl) rfl Try.ntmps33 Try.results33 rfl rfl rfl ?_
  by_cases e : ng p = ng q
  · have g0 : (ng p == ng q) = true := by rw [e]; simp
    have g1 : ((ng p == ng q) == true) = true := by rw [g0]; rfl
    by_cases e2 : nm p = nm q
    · have g2 : decide (cmpI (nm p) (nm q) = 0) = true := decide_eq_true (cmpI_zero.2 e2)
      have g3 : (decide (cmpI (nm p) (nm q) = 0) == true) = true := by rw [g2]; rfl
      rw [show decide (p = q) = decide (cmpI p.den q.den = 0) from decide_eq_decide.2 ⟨fun h => by rw [h]; exact cmpI_zero.2 rfl, fun h => rat_ext e e2 (cmpI_zero.1 h)⟩]
      repeat(first|refine run1p ?_|((with_reducible apply st_call);exact rfl;exact rfl;exact rfl;first|(exact c1)|(exact c2))|((with_reducible apply st_callg);exact rfl;exact rfl;(first|exact rfl|assumption);exact rfl;exact rfl;exact rfl;first|(exact c1)|(exact c2)))
      exact ⟨.inr rfl, _, Imp.refl _, .one (.tmp rfl)⟩
    · have g2 : decide (cmpI (nm p) (nm q) = 0) = false := decide_eq_false fun h => e2 (cmpI_zero.1 h)
      have g3 : (decide (cmpI (nm p) (nm q) = 0) == true) = false := by rw [g2]; rfl
      rw [show decide (p = q) = false from decide_eq_false fun h => e2 (by rw [h])]
      repeat(first|refine run1p ?_|((with_reducible apply st_call);exact rfl;exact rfl;exact rfl;first|(exact c1)|(exact c2))|((with_reducible apply st_callg);exact rfl;exact rfl;(first|exact rfl|assumption);exact rfl;exact rfl;exact rfl;first|(exact c1)|(exact c2)))
      exact ⟨.inr rfl, _, Imp.refl _, .one (.tmp rfl)⟩
  · have g0 : (ng p == ng q) = false := beq_eq_false_iff_ne.2 e
    have g1 : ((ng p == ng q) == true) = false := by rw [g0]; rfl
    rw [show decide (p = q) = false from decide_eq_false fun h => e (by rw [h])]
    repeat(first|refine run1p ?_|((with_reducible apply st_call);exact rfl;exact rfl;exact rfl;first|(exact c1)|(exact c2))|((with_reducible apply st_callg);exact rfl;exact rfl;(first|exact rfl|assumption);exact rfl;exact rfl;exact rfl;first|(exact c1)|(exact c2)))
    exact ⟨.inr rfl, _, Imp.refl _, .one (.tmp rfl)⟩
end Go.Proofs.Ytpclkgjhfhhddaa.AM

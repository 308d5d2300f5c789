/- Joined texts, 17: RwB RwC RwD RwE. -/
import Derived.Test.YtpclkgjhfhhddaaJLawCodeKnown16
set_option linter.unusedVariables false
set_option linter.unusedSimpArgs false
/- Numbers as they came in: which are right. -/
namespace Go.Proofs.Ytpclkgjhfhhddaa.AM
open Go Go.RowKit Go.Proofs.Ytpclkgjhfhhddaa.PN Go.Proofs.Ytpclkgjhfhhddaa.V
set_option linter.unusedVariables false
set_option linter.unusedSimpArgs false
set_option maxRecDepth 8000
set_option maxHeartbeats 8000000
theorem p3 {s s' : Bool} {n n' d d' : List Nat} {u : Nat → AV} (h0 : u 0 = .v (.bool s)) (h1 : u 1 = .plb n) (h2 : u 2 = .plb d) : ∀ i, i < 3 → u i = pag s n d i := fun i hi => by
  match i, hi with
  | 0, _ => exact h0
  | 1, _ => exact h1
  | 2, _ => exact h2
theorem Has.p1 {P : Program} {f : FuncId} {s : Bool} {n d : List Nat} {u : Nat → AV} {xs : List AV} {r : AV} (h0 : u 0 = .v (.bool s)) (h1 : u 1 = .plb n) (h2 : u 2 = .plb d) (H : Has P f (.ag 3 (pag s n d) :: xs) r) : Has P f (.ag 3 u :: xs) r :=
  Has.ag (p3 (s' := s) (n' := n) (d' := d) h0 h1 h2) H
theorem Has.p2 {P : Program} {f : FuncId} {s s' : Bool} {n d n' d' : List Nat} {u u' : Nat → AV} {r : AV} (h0 : u 0 = .v (.bool s)) (h1 : u 1 = .plb n) (h2 : u 2 = .plb d) (k0 : u' 0 = .v (.bool s')) (k1 : u' 1 = .plb n') (k2 : u' 2 = .plb d') (H : Has P f [.ag 3 (pag s n d), .ag 3 (pag s' n' d')] r) : Has P f [.ag 3 u, .ag 3 u'] r :=
  Has.args H fun S B β w vs hv => rvs_cons (rv_ag (p3 (s' := s) (n' := n) (d' := d) h0 h1 h2)) (fun us hu => rvs_cons (rv_ag (p3 (s' := s') (n' := n') (d' := d') k0 k1 k2)) rvs_same hu) hv
theorem lf_size1 {l : List Nat} (hf : LF l) (hn : l.length ≤ 1000000) : size (lval l) ≤ 1000000 := Nat.le_trans (size_lval hf) hn
theorem h1_one : Has Try.prog 97 [] (.nat 1) := by
  refine ⟨by kernel_rfl, trivial, fun w S β vs hv => ?_⟩
  have hv0 : vs = [] := by have := hv.1; exact List.eq_nil_of_length_eq_zero this.symm
  subst hv0
  refine (rone_any w).mono ?_
  rintro e w' ⟨v, rfl, h1, h2⟩
  exact ⟨_, rfl, h2, h1.any⟩
/-- Which raw numbers are right. -/
theorem p_rright {s : Bool} {n d : List Nat} (hn : LF n) (hd : LF d) (ln : n.length ≤ 1000) (ld : d.length ≤ 1000) : Has Try.prog 79 [.ag 3 (pag s n d)] (.b (rgtB s n d)) := by
  have c1 := p_right hn (by omega); have c2 := p_right hd (by omega)
  refine has_of Try.func79 (by kernel_rfl) rfl Try.ntmps79 Try.results79 rfl rfl rfl ?_
  cases hN : trimB n with
  | false =>
    rw [hN] at c1
    rw [show rgtB s n d = false by unfold rgtB; rw [hN]; rfl]
    repeat(first|refine run1p ?_|((with_reducible apply st_call);exact rfl;exact rfl;exact rfl;first|(exact c1)|(exact c2))|((with_reducible apply st_callg);exact rfl;exact rfl;(first|exact rfl|assumption);exact rfl;exact rfl;exact rfl;first|(exact c1)|(exact c2)))
    refine awp_yes rfl rfl ?_
    refine run0p ?_
    exact ⟨.inr rfl, _, Imp.refl _, .one (.tmp rfl)⟩
  | true =>
  rw [hN] at c1
  cases hD : trimB d with
  | false =>
    rw [hD] at c2
    rw [show rgtB s n d = false by unfold rgtB; rw [hN, hD]; rfl]
    repeat(first|refine run1p ?_|((with_reducible apply st_call);exact rfl;exact rfl;exact rfl;first|(exact c1)|(exact c2))|((with_reducible apply st_callg);exact rfl;exact rfl;(first|exact rfl|assumption);exact rfl;exact rfl;exact rfl;first|(exact c1)|(exact c2)))
    refine awp_yes rfl rfl ?_
    refine run0p ?_
    exact ⟨.inr rfl, _, Imp.refl _, .one (.tmp rfl)⟩
  | true =>
  rw [hD] at c2
  by_cases h0 : d.length = 0
  · have e0 : decide (((d.length : Nat) : Int) = 0) = true := decide_eq_true (by omega)
    rw [show rgtB s n d = false by unfold rgtB; rw [hN, hD, decide_eq_false (by omega : ¬ d.length ≠ 0)]; rfl]
    repeat(first|refine run1p ?_|((with_reducible apply st_call);exact rfl;exact rfl;exact rfl;first|(exact c1)|(exact c2))|((with_reducible apply st_callg);exact rfl;exact rfl;(first|exact rfl|assumption);exact rfl;exact rfl;exact rfl;first|(exact c1)|(exact c2)))
    refine awp_yes rfl e0 ?_
    refine run0p ?_
    exact ⟨.inr rfl, _, Imp.refl _, .one (.tmp rfl)⟩
  have e0 : decide (((d.length : Nat) : Int) = 0) = false := decide_eq_false (by omega)
  repeat(first|refine run1p ?_|((with_reducible apply st_call);exact rfl;exact rfl;exact rfl;first|(exact c1)|(exact c2))|((with_reducible apply st_callg);exact rfl;exact rfl;(first|exact rfl|assumption);exact rfl;exact rfl;exact rfl;first|(exact c1)|(exact c2)))
  refine awp_no rfl e0 ?_
  have c3 := p_cmpn (b := 1) hd hD (by omega) (by decide)
  have c4 := p_gcd hn hd hN hD (by omega) (by omega)
  have sg : size (Nat.gcd (lval n) (lval d)) ≤ 1000000 := by
    have hd0 : 0 < lval d := by
      have := lval_nil hD
      rcases Nat.eq_zero_or_pos (lval d) with h | h
      · omega
      · exact h
    exact Nat.le_trans (size_le_of_le (Nat.gcd_le_right _ hd0)) (lf_size1 hd (by omega))
  have c5 := h_ncmp (a := Nat.gcd (lval n) (lval d)) (b := 1) (by omega) (by decide)
  by_cases z : n.length = 0
  · have e1 : decide (((n.length : Nat) : Int) = 0) = true := decide_eq_true (by omega)
    have z0 := (lval_nil hN).1 z
    refine run0p ?_
    refine awp_yes rfl e1 ?_
    cases s with
    | true =>
      rw [show rgtB true n d = false by unfold rgtB; rw [hN, hD, decide_eq_true z, decide_eq_true h0]; rfl]
      refine run0p ?_
      exact ⟨.inr rfl, _, Imp.refl _, .one (.tmp rfl)⟩
    | false =>
      rw [show rgtB false n d = decide (cmpI (lval d) 1 = 0) by unfold rgtB; rw [hN, hD, decide_eq_true h0, gcd1_cmp, z0, Nat.gcd_zero_left]; simp]
      repeat(first|refine run1p ?_|((with_reducible apply st_call);exact rfl;exact rfl;exact rfl;first|(exact h1_one)|(exact c3))|((with_reducible apply st_callg);exact rfl;exact rfl;(first|exact rfl|assumption);exact rfl;exact rfl;exact rfl;first|(exact h1_one)|(exact c3)))
      exact ⟨.inr rfl, _, Imp.refl _, .one (.tmp rfl)⟩
  · have e1 : decide (((n.length : Nat) : Int) = 0) = false := decide_eq_false (by omega)
    rw [show rgtB s n d = decide (cmpI (Nat.gcd (lval n) (lval d)) 1 = 0) by unfold rgtB; rw [hN, hD, decide_eq_true h0, decide_eq_false z, gcd1_cmp]; simp]
    refine run0p ?_
    refine awp_no rfl e1 ?_
    repeat(first|refine run1p ?_|((with_reducible apply st_call);exact rfl;exact rfl;exact rfl;first|(exact c4)|(exact h1_one)|(exact c5))|((with_reducible apply st_callg);exact rfl;exact rfl;(first|exact rfl|assumption);exact rfl;exact rfl;exact rfl;first|(exact c4)|(exact h1_one)|(exact c5)))
    exact ⟨.inr rfl, _, Imp.refl _, .one (.tmp rfl)⟩
/-- Which may be handed in. -/
def smB (s : Bool) (n d : List Nat) : Bool := decide (n.length ≤ 4) && decide (d.length ≤ 4) && rgtB s n d
theorem p_small {s : Bool} {n d : List Nat} (hn : LF n) (hd : LF d) : Has Try.prog 53 [.ag 3 (pag s n d)] (.b (smB s n d)) := by
  refine has_of Try.func53 (by kernel_rfl) rfl Try.ntmps53 Try.results53 rfl rfl rfl ?_
  by_cases h1 : n.length ≤ 4
  · have e0 : decide (((n.length : Nat) : Int) ≤ 4) = true := decide_eq_true (by omega)
    have e00 : (decide (((n.length : Nat) : Int) ≤ 4) == true) = true := by rw [e0]; rfl
    by_cases h2 : d.length ≤ 4
    · have e1 : decide (((d.length : Nat) : Int) ≤ 4) = true := decide_eq_true (by omega)
      have e11 : (decide (((d.length : Nat) : Int) ≤ 4) == true) = true := by rw [e1]; rfl
      rw [show smB s n d = rgtB s n d by unfold smB; rw [decide_eq_true h1, decide_eq_true h2]; rfl]
      repeat(first|refine run1p ?_|((with_reducible apply st_call);exact rfl;exact rfl;exact rfl;first|(exact Has.p1 rfl rfl rfl (p_rright hn hd (by omega) (by omega))))|((with_reducible apply st_callg);exact rfl;exact rfl;(first|exact rfl|assumption);exact rfl;exact rfl;exact rfl;first|(exact Has.p1 rfl rfl rfl (p_rright hn hd (by omega) (by omega)))))
      exact ⟨.inr rfl, _, Imp.refl _, .one (.tmp rfl)⟩
    · have e1 : decide (((d.length : Nat) : Int) ≤ 4) = false := decide_eq_false (by omega)
      have e11 : (decide (((d.length : Nat) : Int) ≤ 4) == true) = false := by rw [e1]; rfl
      rw [show smB s n d = false by unfold smB; rw [decide_eq_false h2]; simp]
      refine run0p ?_
      exact ⟨.inr rfl, _, Imp.refl _, .one (.tmp rfl)⟩
  · have e0 : decide (((n.length : Nat) : Int) ≤ 4) = false := decide_eq_false (by omega)
    have e00 : (decide (((n.length : Nat) : Int) ≤ 4) == true) = false := by rw [e0]; rfl
    rw [show smB s n d = false by unfold smB; rw [decide_eq_false h1]; rfl]
    refine run0p ?_
    exact ⟨.inr rfl, _, Imp.refl _, .one (.tmp rfl)⟩
theorem p_bad {s : Bool} {n d : List Nat} (hn : LF n) (hd : LF d) : Has Try.prog 52 [.ag 3 (pag s n d)] (.b (!smB s n d)) := by
  refine has_of Try.func52 (by kernel_rfl) rfl Try.ntmps52 Try.results52 rfl rfl rfl ?_
  repeat(first|refine run1p ?_|((with_reducible apply st_call);exact rfl;exact rfl;exact rfl;first|(exact Has.p1 rfl rfl rfl (p_small hn hd)))|((with_reducible apply st_callg);exact rfl;exact rfl;(first|exact rfl|assumption);exact rfl;exact rfl;exact rfl;first|(exact Has.p1 rfl rfl rfl (p_small hn hd))))
  exact ⟨.inr rfl, _, Imp.refl _, .one (.tmp rfl)⟩
/-- Two right numbers are one. -/
def eqB (s : Bool) (n d : List Nat) (s' : Bool) (n' d' : List Nat) : Bool := (s == s') && decide (lval n = lval n') && decide (lval d = lval d')
end Go.Proofs.Ytpclkgjhfhhddaa.AM
/- Numbers as they came in: which are the same. -/
namespace Go.Proofs.Ytpclkgjhfhhddaa.AM
open Go Go.RowKit Go.Proofs.Ytpclkgjhfhhddaa.PN Go.Proofs.Ytpclkgjhfhhddaa.V
set_option linter.unusedVariables false
set_option linter.unusedSimpArgs false
set_option maxRecDepth 8000
set_option maxHeartbeats 8000000
/-- These limbs are this number's. -/
structure IsP (n d : List Nat) (p : Rat) : Prop where
  hn : LF n
  hd : LF d
  tn : trimB n = true
  td : trimB d = true
  en : lval n = nm p
  ed : lval d = p.den
  ln : n.length ≤ 1000
  ld : d.length ≤ 1000
theorem IsP.sn {n d : List Nat} {p : Rat} (h : IsP n d p) : size (nm p) ≤ 1000 := by rw [← h.en, ← trim_len h.tn]; exact h.ln
theorem IsP.sd {n d : List Nat} {p : Rat} (h : IsP n d p) : size p.den ≤ 1000 := by rw [← h.ed, ← trim_len h.td]; exact h.ld
/-- What a right number is. -/
theorem rgt_rat {s : Bool} {n d : List Nat} (h : rgtB s n d = true) : ∃ p : Rat, ng p = s ∧ nm p = lval n ∧ p.den = lval d := by
  unfold rgtB at h
  rw [Bool.and_eq_true, Bool.and_eq_true, Bool.and_eq_true, Bool.and_eq_true] at h
  obtain ⟨⟨⟨⟨h1, h2⟩, h3⟩, h4⟩, h5⟩ := h
  have h5 : Nat.gcd (lval n) (lval d) = 1 := by rw [gcd1, Nat.beq_eq] at h5; exact h5
  have h3 := of_decide_eq_true h3
  have hd0 : lval d ≠ 0 := fun e => h3 ((lval_nil h2).2 e)
  refine ⟨⟨if s then -(lval n : Int) else (lval n : Int), lval d, hd0, ?_⟩, ?_, ?_, rfl⟩
  · show Nat.Coprime (Int.natAbs _) _
    cases s
    · simpa using h5
    · simpa using h5
  · show decide ((if s = true then -(lval n : Int) else (lval n : Int)) < 0) = s
    cases s with
    | false => simp
    | true =>
      have hn : lval n ≠ 0 := by
        intro e
        have := (lval_nil h1).2 e
        rw [decide_eq_true this] at h4; cases h4
      rw [if_pos rfl]
      exact decide_eq_true (by omega)
  · show Int.natAbs (if s = true then -(lval n : Int) else (lval n : Int)) = lval n
    cases s <;> simp
theorem rgt_isp {s : Bool} {n d : List Nat} (h : rgtB s n d = true) (hn : LF n) (hd : LF d) (ln : n.length ≤ 1000) (ld : d.length ≤ 1000) : ∃ p : Rat, ng p = s ∧ IsP n d p := by
  obtain ⟨p, e1, e2, e3⟩ := rgt_rat h
  unfold rgtB at h
  rw [Bool.and_eq_true, Bool.and_eq_true, Bool.and_eq_true, Bool.and_eq_true] at h
  exact ⟨p, e1, hn, hd, h.1.1.1.1, h.1.1.1.2, e2.symm, e3.symm, ln, ld⟩
theorem isp_eq {n d n' d' : List Nat} {p q : Rat} (hp : IsP n d p) (hq : IsP n' d' q) : eqB (ng p) n d (ng q) n' d' = decide (p = q) := by
  unfold eqB
  rw [hp.en, hp.ed, hq.en, hq.ed, Bool.eq_iff_iff, Bool.and_eq_true, Bool.and_eq_true, beq_iff_eq, decide_eq_true_iff, decide_eq_true_iff, decide_eq_true_iff]
  constructor
  · rintro ⟨⟨h1, h2⟩, h3⟩; exact rat_ext h1 h2 h3
  · rintro rfl; exact ⟨⟨rfl, rfl⟩, rfl⟩
theorem p_of {n d : List Nat} {p : Rat} (hp : IsP n d p) : Has Try.prog 99 [.ag 3 (pag (ng p) n d)] (.ag 2 fun i => (mkOf p).getD i (.v undef)) := by
  have hl : n.length = size (nm p) := by rw [← hp.en]; exact trim_len hp.tn
  have hsd : decide (((n.length : Nat) : Int) = 0) = decide (p = 0) := by rw [hl]; exact size_dec p
  refine has_of Try.func99 (by kernel_rfl) rfl Try.ntmps99 Try.results99 rfl rfl rfl ?_
  refine run0p ?_
  rcases Bool.eq_false_or_eq_true (ng p) with e | e
  · skip
    have g0 : ng p = true := e
    have g1 : (ng p == true) = true := by rw [g0]; rfl
    have e2 : decide (0 < ((n.length : Nat) : Int)) = true := by
      have h1 : nm p ≠ 0 := fun e' => ng_ne e (nm_eq_zero.1 e')
      have := size_pos h1
      exact decide_eq_true (by omega)
    refine run0p ?_
    refine ⟨.inr rfl, _, Imp.refl _, .one (.agg rfl rfl rfl rfl (by decide) rfl ?_)⟩
    show AV.ag 2 (fun i => [AV.b (decide (0 < ((n.length : Nat) : Int))), AV.b (decide (((n.length : Nat) : Int) = 0))].getD i (.v undef)) = _
    rw [e2, hsd]; unfold mkOf; rw [e]
  · skip
    have g0 : ng p = false := e
    have g1 : (ng p == true) = false := by rw [g0]; rfl
    refine run0p ?_
    refine ⟨.inr rfl, _, Imp.refl _, .one (.agg rfl rfl rfl rfl (by decide) rfl ?_)⟩
    show AV.ag 2 (fun i => [AV.b false, AV.b (decide (((n.length : Nat) : Int) = 0))].getD i (.v undef)) = _
    rw [hsd]; unfold mkOf; rw [e]
theorem p_cmp {n d n' d' : List Nat} {p q : Rat} (hp : IsP n d p) (hq : IsP n' d' q) : ∃ c : Int, Has Try.prog 80 [.ag 3 (pag (ng p) n d), .ag 3 (pag (ng q) n' d')] (.i c) ∧ (c = 0 ↔ p = q) := by
  have c1 := p_mul hp.hn hq.hd hp.tn hq.td (Nat.le_trans hp.ln (by decide)) (Nat.le_trans hq.ld (by decide))
  have c2 := p_mul hq.hn hp.hd hq.tn hp.td (Nat.le_trans hq.ln (by decide)) (Nat.le_trans hp.ld (by decide))
  rw [hp.en, hq.ed] at c1; rw [hq.en, hp.ed] at c2
  have o1 := p_of hp; have o2 := p_of hq
  have z1 := hp.sn; have z2 := hp.sd; have z3 := hq.sn; have z4 := hq.sd
  have s1 := size_mul (nm p) q.den; have s2 := size_mul (nm q) p.den
  by_cases h1 : ng p = ng q ∧ decide (p = 0) = decide (q = 0)
  · have hm : (!((ng p == ng q) && (decide (p = 0) == decide (q = 0)))) = false := by
      rw [h1.1, h1.2]; simp
    have hc := cmpI_le (nm p * q.den) (nm q * p.den)
    rcases Bool.eq_false_or_eq_true (ng p) with e | e
    · skip
      refine ⟨0 - cmpI (nm p * q.den) (nm q * p.den), ?_, ?_⟩
      · refine has_of Try.func80 (by kernel_rfl) rfl Try.ntmps80 Try.results80 rfl rfl rfl ?_
        repeat(first|refine run1p ?_|((with_reducible apply st_call);exact rfl;exact rfl;exact rfl;first|(exact Has.p1 rfl rfl rfl o1)|(exact Has.p1 rfl rfl rfl o2))|((with_reducible apply st_callg);exact rfl;exact rfl;(first|exact rfl|assumption);exact rfl;exact rfl;exact rfl;first|(exact Has.p1 rfl rfl rfl o1)|(exact Has.p1 rfl rfl rfl o2)))
        refine awp_no rfl hm ?_
        repeat(first|refine run1p ?_|((with_reducible apply st_call);exact rfl;exact rfl;exact rfl;first|(exact c1)|(exact c2)|(exact h_ncmp (by omega) (by omega)))|((with_reducible apply st_callg);exact rfl;exact rfl;(first|exact rfl|assumption);exact rfl;exact rfl;exact rfl;first|(exact c1)|(exact c2)|(exact h_ncmp (by omega) (by omega))))
        refine awp_yes rfl e ?_
        refine run0p ?_
        exact ⟨.inr rfl, _, Imp.refl _, .one (.tmp rfl)⟩
      · rw [← cross h1.1, ← cmpI_zero]; omega
    · skip
      refine ⟨cmpI (nm p * q.den) (nm q * p.den), ?_, ?_⟩
      · refine has_of Try.func80 (by kernel_rfl) rfl Try.ntmps80 Try.results80 rfl rfl rfl ?_
        repeat(first|refine run1p ?_|((with_reducible apply st_call);exact rfl;exact rfl;exact rfl;first|(exact Has.p1 rfl rfl rfl o1)|(exact Has.p1 rfl rfl rfl o2))|((with_reducible apply st_callg);exact rfl;exact rfl;(first|exact rfl|assumption);exact rfl;exact rfl;exact rfl;first|(exact Has.p1 rfl rfl rfl o1)|(exact Has.p1 rfl rfl rfl o2)))
        refine awp_no rfl hm ?_
        repeat(first|refine run1p ?_|((with_reducible apply st_call);exact rfl;exact rfl;exact rfl;first|(exact c1)|(exact c2)|(exact h_ncmp (by omega) (by omega)))|((with_reducible apply st_callg);exact rfl;exact rfl;(first|exact rfl|assumption);exact rfl;exact rfl;exact rfl;first|(exact c1)|(exact c2)|(exact h_ncmp (by omega) (by omega))))
        refine awp_no rfl e ?_
        refine run0p ?_
        exact ⟨.inr rfl, _, Imp.refl _, .one (.tmp rfl)⟩
      · rw [← cross h1.1, ← cmpI_zero]
  · have hm : (!((ng p == ng q) && (decide (p = 0) == decide (q = 0)))) = true := by
      rw [Bool.not_eq_true']
      cases h2 : ng p == ng q with
      | false => rfl
      | true =>
        rw [Bool.true_and]
        exact beq_eq_false_iff_ne.2 fun h3 => h1 ⟨eq_of_beq h2, h3⟩
    have hne : p ≠ q := by rintro rfl; exact h1 ⟨rfl, rfl⟩
    rcases Bool.eq_false_or_eq_true (ng p) with e | e
    · skip
      refine ⟨-1, ?_, by simp [hne]⟩
      refine has_of Try.func80 (by kernel_rfl) rfl Try.ntmps80 Try.results80 rfl rfl rfl ?_
      repeat(first|refine run1p ?_|((with_reducible apply st_call);exact rfl;exact rfl;exact rfl;first|(exact Has.p1 rfl rfl rfl o1)|(exact Has.p1 rfl rfl rfl o2))|((with_reducible apply st_callg);exact rfl;exact rfl;(first|exact rfl|assumption);exact rfl;exact rfl;exact rfl;first|(exact Has.p1 rfl rfl rfl o1)|(exact Has.p1 rfl rfl rfl o2)))
      refine awp_yes rfl hm ?_
      refine run0p ?_
      refine awp_yes rfl e ?_
      refine run0p ?_
      refine awp_yes rfl e ?_
      refine run0p ?_
      exact ⟨.inr rfl, _, Imp.refl _, .one (.tmp rfl)⟩
    · skip
      cases z : decide (p = 0) with
      | false =>
        have z1 : (decide (p = 0) == true) = false := by rw [z]; rfl
        refine ⟨1, ?_, by simp [hne]⟩
        refine has_of Try.func80 (by kernel_rfl) rfl Try.ntmps80 Try.results80 rfl rfl rfl ?_
        repeat(first|refine run1p ?_|((with_reducible apply st_call);exact rfl;exact rfl;exact rfl;first|(exact Has.p1 rfl rfl rfl o1)|(exact Has.p1 rfl rfl rfl o2))|((with_reducible apply st_callg);exact rfl;exact rfl;(first|exact rfl|assumption);exact rfl;exact rfl;exact rfl;first|(exact Has.p1 rfl rfl rfl o1)|(exact Has.p1 rfl rfl rfl o2)))
        refine awp_yes rfl hm ?_
        refine run0p ?_
        refine awp_no rfl e ?_
        refine run0p ?_
        refine awp_no rfl rfl ?_
        refine run0p ?_
        exact ⟨.inr rfl, _, Imp.refl _, .one (.tmp rfl)⟩
      | true =>
        have z1 : (decide (p = 0) == true) = true := by rw [z]; rfl
        refine ⟨if (!ng q) = true then -1 else 1, ?_, by split <;> simp [hne]⟩
        refine has_of Try.func80 (by kernel_rfl) rfl Try.ntmps80 Try.results80 rfl rfl rfl ?_
        repeat(first|refine run1p ?_|((with_reducible apply st_call);exact rfl;exact rfl;exact rfl;first|(exact Has.p1 rfl rfl rfl o1)|(exact Has.p1 rfl rfl rfl o2))|((with_reducible apply st_callg);exact rfl;exact rfl;(first|exact rfl|assumption);exact rfl;exact rfl;exact rfl;first|(exact Has.p1 rfl rfl rfl o1)|(exact Has.p1 rfl rfl rfl o2)))
        refine awp_yes rfl hm ?_
        refine run0p ?_
        refine awp_no rfl e ?_
        refine run0p ?_
        cases u : (!ng q) with
        | true =>
          refine awp_yes rfl rfl ?_
          refine run0p ?_
          exact ⟨.inr rfl, _, Imp.refl _, .one (.tmp rfl)⟩
        | false =>
          refine awp_no rfl rfl ?_
          refine run0p ?_
          exact ⟨.inr rfl, _, Imp.refl _, .one (.tmp rfl)⟩
theorem p_same {n d n' d' : List Nat} {p q : Rat} (hp : IsP n d p) (hq : IsP n' d' q) : Has Try.prog 55 [.ag 3 (pag (ng p) n d), .ag 3 (pag (ng q) n' d')] (.b (decide (p = q))) := by
  obtain ⟨c, hc, he⟩ := p_cmp hp hq
  rw [show decide (p = q) = decide (c = 0) from decide_eq_decide.2 he.symm]
  refine has_of Try.func55 (by kernel_rfl) rfl Try.ntmps55 Try.results55 rfl rfl rfl ?_
  repeat(first|refine run1p ?_|((with_reducible apply st_call);exact rfl;exact rfl;exact rfl;first|(exact Has.p2 rfl rfl rfl rfl rfl rfl hc))|((with_reducible apply st_callg);exact rfl;exact rfl;(first|exact rfl|assumption);exact rfl;exact rfl;exact rfl;first|(exact Has.p2 rfl rfl rfl rfl rfl rfl hc)))
  exact ⟨.inr rfl, _, Imp.refl _, .one (.tmp rfl)⟩
end Go.Proofs.Ytpclkgjhfhhddaa.AM
/- Package gen: whatever comes in is checked (printed by gen/gen_rwd.py). -/
namespace Go.Proofs.Ytpclkgjhfhhddaa.AM
open Go Go.RowKit Go.Proofs.Ytpclkgjhfhhddaa.PN Go.Proofs.Ytpclkgjhfhhddaa.V
set_option linter.unusedVariables false
set_option linter.unusedSimpArgs false
set_option maxRecDepth 8000
set_option maxHeartbeats 8000000
/-- A row as it came in. -/
structure PR where
  m : Nat
  s : Nat → Bool
  f : Nat → List Nat
  g : Nat → List Nat
def PR.v (r : PR) : AV := .prow r.m r.s r.f r.g
structure PR.Fin (r : PR) : Prop where
  f : ∀ i, i < r.m → LF (r.f i)
  g : ∀ i, i < r.m → LF (r.g i)
/-- A system as it came in. -/
structure GR where
  k : Int
  n : Int
  r : Int
  A : PR
  B : PR
  G : PR
  H : PR
def GR.l (g : GR) : List AV := [.i g.k, .i g.n, .i g.r, g.A.v, g.B.v, g.G.v, g.H.v]
def GR.f (g : GR) (i : Nat) : AV := g.l.getD i (.v undef)
def GR.v (g : GR) : AV := .ag 7 g.f
def GR.rw (g : GR) (i : Nat) : AV := (g.l.drop 3).getD i (.v undef)
theorem GR.fok (g : GR) (U : Nat → Bool) : ∀ i, (g.f i).ok U
  | 0 | 1 | 2 | 3 | 4 | 5 | 6 => trivial
  | _ + 7 => trivial
theorem GR.rok (g : GR) (U : Nat → Bool) : ∀ i, (g.rw i).ok U
  | 0 | 1 | 2 | 3 => trivial
  | _ + 4 => trivial
structure GR.Fin (g : GR) : Prop where
  A : g.A.Fin
  B : g.B.Fin
  G : g.G.Fin
  H : g.H.Fin
def likeZ (k : Int) : Bool := decide (k = 6) || decide (k = 7)
def sizedB (k n r : Int) : Bool := !(decide (n < 1) || decide (8 < n)) && (bif likeZ k then decide (1 ≤ r) && decide (r ≤ 3) else decide (r = 0))
def kindB (k : Int) : Bool := decide (k < 1) || decide (7 < k)
def cnt (k n r : Int) (i : Nat) : Int := mpz (cmap k i) 0 * n + mpz (cmap k i) 1 * n * r + mpz (cmap k i) 2
def PR.len (r : PR) (c : Int) : Bool := decide ((r.m : Int) = c)
def PR.sm (r : PR) : Bool := decide (∀ i, i < r.m → smB (r.s i) (r.f i) (r.g i) = true)
def PR.has (r : PR) (s : Bool) (n d : List Nat) : Bool := !decide (∀ j, j < r.m → eqB s n d (r.s j) (r.f j) (r.g j) = false)
def PR.meets (a b : PR) : Bool := !decide (∀ i, i < a.m → b.has (a.s i) (a.f i) (a.g i) = false)
def chkV (b0 b1 b2 b3 s0 s1 s2 s3 e : Bool) : Int := bif b0 && b1 && b2 && b3 then (bif s0 && s1 && s2 && s3 then (bif e then 5 else 0) else 1) else 3
def chkR (g : GR) : Int := chkV (g.A.len (cnt g.k g.n g.r 0)) (g.B.len (cnt g.k g.n g.r 1)) (g.G.len (cnt g.k g.n g.r 2)) (g.H.len (cnt g.k g.n g.r 3)) g.A.sm g.B.sm g.G.sm g.H.sm (g.A.meets g.B)
/-- What is told of a system. -/
def chk (g : GR) : Int := bif kindB g.k then 2 else bif sizedB g.k g.n g.r then chkR g else 1
theorem g_rowsr (g : GR) : Has Try.prog 49 [g.v] (.ag 4 g.rw) := by
  refine has_of Try.func49 (by kernel_rfl) rfl Try.ntmps49 Try.results49 rfl rfl rfl ?_
  refine run0p ?_
  refine ⟨.inr rfl, _, Imp.refl _, ?_⟩
  exact .one (.agg rfl rfl rfl rfl (by decide) rfl rfl)
theorem likeZ_nat (k : Nat) : likeZ (k : Int) = likeB k := by
  unfold likeZ likeB
  congr 1 <;> exact decide_eq_decide.2 (by omega)
theorem g_sizedr (k : Nat) (n r : Int) (A B G H : PR) : Has Try.prog 48 [GR.v ⟨k, n, r, A, B, G, H⟩] (.b (sizedB k n r)) := by
  refine has_of Try.func48 (by kernel_rfl) rfl Try.ntmps48 Try.results48 rfl rfl rfl ?_
  by_cases h1 : n < 1
  · have e0 : decide (n < 1) = true := decide_eq_true h1
    have e1 : (decide (n < 1) == false) = false := by rw [e0]; rfl
    rw [show sizedB k n r = false by unfold sizedB; rw [e0]; rfl]
    refine run0p ?_
    refine awp_yes rfl rfl ?_
    refine run0p ?_
    exact ⟨.inr rfl, _, Imp.refl _, .one (.tmp rfl)⟩
  have e0 : decide (n < 1) = false := decide_eq_false h1
  have e1 : (decide (n < 1) == false) = true := by rw [e0]; rfl
  refine run0p ?_
  by_cases h8 : 8 < n
  · have e2 : decide ((8 : Int) < n) = true := decide_eq_true h8
    rw [show sizedB k n r = false by unfold sizedB; rw [e2]; simp]
    refine awp_yes rfl e2 ?_
    refine run0p ?_
    exact ⟨.inr rfl, _, Imp.refl _, .one (.tmp rfl)⟩
  have e2 : decide ((8 : Int) < n) = false := decide_eq_false h8
  refine awp_no rfl e2 ?_
  repeat(first|refine run1p ?_|((with_reducible apply st_call);exact rfl;exact rfl;exact rfl;first|(exact g_ranked k))|((with_reducible apply st_callg);exact rfl;exact rfl;(first|exact rfl|assumption);exact rfl;exact rfl;exact rfl;first|(exact g_ranked k)))
  cases hk : likeB k with
  | true =>
    rw [show sizedB k n r = (decide (1 ≤ r) && decide (r ≤ 3)) by unfold sizedB; rw [e0, e2, likeZ_nat, hk]; rfl]
    refine awp_yes rfl rfl ?_
    by_cases h3 : 1 ≤ r
    · have e3 : decide ((1 : Int) ≤ r) = true := decide_eq_true h3
      have e4 : (decide ((1 : Int) ≤ r) == true) = true := by rw [e3]; rfl
      rw [e3, Bool.true_and]
      refine run0p ?_
      exact ⟨.inr rfl, _, Imp.refl _, .one (.tmp rfl)⟩
    · have e3 : decide ((1 : Int) ≤ r) = false := decide_eq_false h3
      have e4 : (decide ((1 : Int) ≤ r) == true) = false := by rw [e3]; rfl
      rw [e3, Bool.false_and]
      refine run0p ?_
      exact ⟨.inr rfl, _, Imp.refl _, .one (.tmp rfl)⟩
  | false =>
    rw [show sizedB k n r = decide (r = 0) by unfold sizedB; rw [e0, e2, likeZ_nat, hk]; rfl]
    refine awp_no rfl rfl ?_
    refine run0p ?_
    exact ⟨.inr rfl, _, Imp.refl _, .one (.tmp rfl)⟩
/-- The least one that is asked for. -/
theorem first_true {b : Nat → Bool} : ∀ n, ¬ (∀ i, i < n → b i = false) → ∃ k, k < n ∧ b k = true ∧ ∀ i, i < k → b i = false
  | 0, h => absurd (fun i hi => absurd hi (Nat.not_lt_zero _)) h
  | n + 1, h => by
    by_cases e : ∀ i, i < n → b i = false
    · refine ⟨n, by omega, ?_, e⟩
      cases hb : b n with
      | true => rfl
      | false =>
        refine absurd (fun i hi => ?_) h
        rcases Nat.lt_or_ge i n with h' | h'
        · exact e i h'
        · rw [show i = n by omega]; exact hb
    · obtain ⟨k, h1, h2, h3⟩ := first_true n e
      exact ⟨k, by omega, h2, h3⟩
theorem g_indexr {n m : Nat} {s : Nat → Bool} {p q : Nat → List Nat} {f : FuncId} {c : Nat → AV} {b : Nat → Bool} (hc : (AV.clo f m c).closed = true) (hn : n ≤ 1000000) (h : ∀ i, i < n → ∀ u : Nat → AV, u 0 = .v (.bool (s i)) → u 1 = .plb (p i) → u 2 = .plb (q i) → Has Try.prog f (([AV.ag 3 u] ++ (List.range m).map c).map AV.old) (.b (b i))) :
    ∃ z : Int, Has Try.prog 78 [.prow n s p q, .clo f m c] (.i z) ∧ decide (z ≥ 0) = !decide (∀ i, i < n → b i = false) := by
  by_cases hall : ∀ i, i < n → b i = false
  · refine ⟨-1, ?_, by rw [decide_eq_true hall]; rfl⟩
    refine has_of Try.func78 (by kernel_rfl) rfl Try.ntmps78 Try.results78 (by show (true && ((AV.clo f m c).closed && true)) = true; rw [hc]; rfl) rfl rfl ?_
    refine run0p ?_
    refine awp_loop (fun m' t => ∃ k, k ≤ n ∧ m' = n - k ∧ t = stl [(0, .prow n s p q), (1, .clo f m c), (7, .i n), (8, .i (k : Int))] []) n _ (imp_id ?_ ?_) ⟨0, Nat.zero_le _, rfl, rfl⟩ ?_
    · refine alle rfl (Le.id rfl) True.intro (alle rfl (Le.id rfl) (ok_none (closed_ok hc)) ?_)
      exact eA
    · exact hA
    · rintro m' t ⟨k, hk, rfl, rfl⟩
      refine run0p ?_
      refine awp_if rfl (fun h' => ?_) (fun h' => ?_)
      · have hk' : k < n := by omega
        have hb := hall k hk'
        repeat(first|refine run1p ?_|((with_reducible apply st_call);exact rfl;exact rfl;exact rfl;first|(exact h k hk' _ rfl rfl rfl))|((with_reducible apply st_callg);exact rfl;exact rfl;(first|exact rfl|assumption);exact rfl;exact rfl;exact rfl;first|(exact h k hk' _ rfl rfl rfl)))
        refine awp_no rfl hb ?_
        refine run0p ?_
        refine q_loop ?_ (imp_id ?_ ?_) ⟨k + 1, ?_, rfl, rfl⟩
        · omega
        · refine alle rfl (Le.id rfl) True.intro (alle rfl (Le.id rfl) (ok_none (closed_ok hc)) ?_)
          exact eA
        · exact hA
        · omega
      · refine run0p ?_
        exact ⟨.inr rfl, _, Imp.refl _, .one (.tmp rfl)⟩
  · obtain ⟨k0, hk0, hb0, hlt⟩ := first_true n hall
    refine ⟨k0, ?_, by rw [decide_eq_false hall]; simp⟩
    refine has_of Try.func78 (by kernel_rfl) rfl Try.ntmps78 Try.results78 (by show (true && ((AV.clo f m c).closed && true)) = true; rw [hc]; rfl) rfl rfl ?_
    refine run0p ?_
    refine awp_loop (fun m' t => ∃ k, k ≤ k0 ∧ m' = n - k ∧ t = stl [(0, .prow n s p q), (1, .clo f m c), (7, .i n), (8, .i (k : Int))] []) n _ (imp_id ?_ ?_) ⟨0, Nat.zero_le _, rfl, rfl⟩ ?_
    · refine alle rfl (Le.id rfl) True.intro (alle rfl (Le.id rfl) (ok_none (closed_ok hc)) ?_)
      exact eA
    · exact hA
    · rintro m' t ⟨k, hk, rfl, rfl⟩
      have hk' : k < n := by omega
      refine run0p ?_
      refine awp_yes rfl (decide_eq_true (by omega)) ?_
      repeat(first|refine run1p ?_|((with_reducible apply st_call);exact rfl;exact rfl;exact rfl;first|(exact h k hk' _ rfl rfl rfl))|((with_reducible apply st_callg);exact rfl;exact rfl;(first|exact rfl|assumption);exact rfl;exact rfl;exact rfl;first|(exact h k hk' _ rfl rfl rfl)))
      by_cases e : k = k0
      · subst e
        refine awp_yes rfl hb0 ?_
        refine run0p ?_
        exact ⟨.inr rfl, _, Imp.refl _, .one (.tmp rfl)⟩
      · refine awp_no rfl (hlt k (by omega)) ?_
        refine run0p ?_
        refine q_loop ?_ (imp_id ?_ ?_) ⟨k + 1, ?_, rfl, rfl⟩
        · omega
        · refine alle rfl (Le.id rfl) True.intro (alle rfl (Le.id rfl) (ok_none (closed_ok hc)) ?_)
          exact eA
        · exact hA
        · omega
theorem g_containsr {n m : Nat} {s : Nat → Bool} {p q : Nat → List Nat} {f : FuncId} {c : Nat → AV} {b : Nat → Bool} (hc : (AV.clo f m c).closed = true) (hc2 : (AV.clo f m fun i => (c i).old).closed = true) (hn : n ≤ 1000000) (h : ∀ i, i < n → ∀ u : Nat → AV, u 0 = .v (.bool (s i)) → u 1 = .plb (p i) → u 2 = .plb (q i) → Has Try.prog f (([AV.ag 3 u] ++ (List.range m).map fun i => (c i).old).map AV.old) (.b (b i))) :
    Has Try.prog 51 [.prow n s p q, .clo f m c] (.b (!decide (∀ i, i < n → b i = false))) := by
  refine has_of Try.func51 (by kernel_rfl) rfl Try.ntmps51 Try.results51 (by show (true && ((AV.clo f m c).closed && true)) = true; rw [hc]; rfl) rfl rfl ?_
  obtain ⟨z, H, hz⟩ := g_indexr hc2 hn h
  rw [← hz]
  repeat(first|refine run1p ?_|((with_reducible apply st_call);exact rfl;exact rfl;exact rfl;first|(exact H))|((with_reducible apply st_callg);exact rfl;exact rfl;(first|exact rfl|assumption);exact rfl;exact rfl;exact rfl;first|(exact H)))
  exact ⟨.inr rfl, _, Imp.refl _, .one (.tmp rfl)⟩
theorem g_contains0r {n : Nat} {s : Nat → Bool} {p q : Nat → List Nat} {f : FuncId} {b : Nat → Bool} (hn : n ≤ 1000000) (h : ∀ i, i < n → ∀ u : Nat → AV, u 0 = .v (.bool (s i)) → u 1 = .plb (p i) → u 2 = .plb (q i) → Has Try.prog f [(AV.ag 3 u).old] (.b (b i))) :
    Has Try.prog 51 [.prow n s p q, .v (.func (.func f) #[] #[])] (.b (!decide (∀ i, i < n → b i = false))) :=
  Has.args (g_containsr (m := 0) (c := fun _ => .v undef) rfl rfl hn h) fun S B β w vs hv => rvs_cons (fun v hv => hv) (fun us hu => rvs_cons rv_fn (fun us hu => hu) hu) hv
/-- A row's numbers are all small. -/
theorem g_badr {r : PR} (h : r.Fin) (hn : r.m ≤ 1000000) : Has Try.prog 51 [r.v, .v (.func (.func 52) #[] #[])] (.b (!r.sm)) := by
  have := g_contains0r (f := 52) (n := r.m) (s := r.s) (p := r.f) (q := r.g) (b := fun i => !smB (r.s i) (r.f i) (r.g i)) hn fun i hi u h0 h1 h2 => Has.p1 (by rw [h0]; rfl) (by rw [h1]; rfl) (by rw [h2]; rfl) (p_bad (h.f i hi) (h.g i hi))
  rw [show (decide (∀ i, i < r.m → (!smB (r.s i) (r.f i) (r.g i)) = false)) = r.sm from decide_eq_decide.2 ⟨fun h i hi => by have := h i hi; simpa using this, fun h i hi => by rw [h i hi]; rfl⟩] at this
  exact this
/-- A small row's numbers. -/
theorem PR.isp {r : PR} (h : r.Fin) (hs : r.sm = true) {i : Nat} (hi : i < r.m) : ∃ p : Rat, ng p = r.s i ∧ IsP (r.f i) (r.g i) p := by
  have := of_decide_eq_true hs i hi
  unfold smB at this
  rw [Bool.and_eq_true, Bool.and_eq_true] at this
  have l1 := of_decide_eq_true this.1.1
  have l2 := of_decide_eq_true this.1.2
  exact rgt_isp this.2 (h.f i hi) (h.g i hi) (by omega) (by omega)
theorem g_eqsr {n d n' d' : List Nat} {p q : Rat} (hp : IsP n d p) (hq : IsP n' d' q) : Has Try.prog 54 [.ag 3 (pag (ng q) n' d'), .pp (ng p) n d] (.b (decide (p = q))) := by
  refine has_of Try.func54 (by kernel_rfl) rfl Try.ntmps54 Try.results54 rfl rfl rfl ?_
  repeat(first|refine run1p ?_|((with_reducible apply st_call);exact rfl;exact rfl;exact rfl;first|(exact Has.p2 rfl rfl rfl rfl rfl rfl (p_same hp hq)))|((with_reducible apply st_callg);exact rfl;exact rfl;(first|exact rfl|assumption);exact rfl;exact rfl;exact rfl;first|(exact Has.p2 rfl rfl rfl rfl rfl rfl (p_same hp hq))))
  exact ⟨.inr rfl, _, Imp.refl _, .one (.tmp rfl)⟩
/-- A variable that holds a number, wherever it lies, and is written no more. -/
theorem imp_pp {s : St} (t : Nat) {g : Nat} {F : Nat → Blk} {f : Nat → AV} {b : Bool} {n d : List Nat} {T : TypeId} (hx : s.env t = some (.ptr g 0 0)) (hg : s.heap g = some (1, F)) (hF : F 0 = .ones T 3 f) (h0 : f 0 = .v (.bool b)) (h1 : f 1 = .plb n) (h2 : f 2 = .plb d) : Imp s ⟨put s.env t (some (.pp b n d)), put s.heap g none, s.used⟩ :=
  imp_turn1 hx hg trivial fun W N β w a hs v hv hok hb S' k1 k2 => by
    rw [hF] at hb hok
    obtain ⟨bb, hub, e⟩ := hv
    obtain ⟨hT, cs, hB, hr, hat, hx⟩ := rb_ones hb hub
    obtain ⟨y0, a0, _, b0⟩ := hx 0 (by decide)
    obtain ⟨y1, a1, _, b1⟩ := hx 1 (by decide)
    obtain ⟨y2, a2, _, b2⟩ := hx 2 (by decide)
    rw [h0] at b0; rw [h1] at b1; rw [h2] at b2
    have b0 : y0 = .bool b := b0
    subst b0
    have fw : ∀ {v : Value} {l : List Nat}, PLb (notOwn W s β) w v l → PLb S' w v l := by
      rintro v l ⟨A, c, e1, e2, e3⟩
      exact ⟨A, c, e1, e2, fun i hi => by obtain ⟨b, off, q1, q2, q3⟩ := e3 i hi; exact ⟨b, off, q1, q2.imp (k1 b) id, q3⟩⟩
    refine ⟨bb, 0, e, k2 bb hub, y1, y2, ?_, ?_, ?_, fw b1, fw b2⟩
    · rw [cell_of_row w bb _ cs T (0, 0) hr]; exact a0
    · rw [cell_of_row w bb _ cs T (0, 0) hr]; exact a1
    · rw [cell_of_row w bb _ cs T (0, 0) hr]; exact a2
/-- Whatever comes in. -/
theorem g_checkr {g : GR} (hf : g.Fin) : Has Try.prog 22 [g.v] (.i (chk g)) := by
  obtain ⟨k, n, r, A, B, G, H⟩ := g
  obtain ⟨fA, fB, fG, fH⟩ := hf
  change A.Fin at fA
  change B.Fin at fB
  change G.Fin at fG
  change H.Fin at fH
  by_cases h1 : k < 1
  · have e0 : decide (k < 1) = true := decide_eq_true h1
    have e1 : (decide (k < 1) == false) = false := by rw [e0]; rfl
    rw [show chk ⟨k, n, r, A, B, G, H⟩ = 2 by unfold chk kindB; rw [e0]; rfl]
    refine has_of Try.func22 (by kernel_rfl) rfl Try.ntmps22 Try.results22 rfl rfl rfl ?_
    refine run0p ?_
    refine awp_yes rfl rfl ?_
    refine run0p ?_
    exact ⟨.inr rfl, _, Imp.refl _, .one (.tmp rfl)⟩
  have e0 : decide (k < 1) = false := decide_eq_false h1
  have e1 : (decide (k < 1) == false) = true := by rw [e0]; rfl
  by_cases h7 : 7 < k
  · have e2 : decide ((7 : Int) < k) = true := decide_eq_true h7
    rw [show chk ⟨k, n, r, A, B, G, H⟩ = 2 by unfold chk kindB; rw [e0, e2]; rfl]
    refine has_of Try.func22 (by kernel_rfl) rfl Try.ntmps22 Try.results22 rfl rfl rfl ?_
    refine run0p ?_
    refine awp_yes rfl e2 ?_
    refine run0p ?_
    exact ⟨.inr rfl, _, Imp.refl _, .one (.tmp rfl)⟩
  have e2 : decide ((7 : Int) < k) = false := decide_eq_false h7
  obtain ⟨k, rfl⟩ : ∃ k' : Nat, k = k' := ⟨k.toNat, by omega⟩
  have cs := g_sizedr k n r A B G H
  cases hz : sizedB k n r with
  | false =>
    rw [hz] at cs
    rw [show chk ⟨k, n, r, A, B, G, H⟩ = 1 by unfold chk kindB; rw [e0, e2, hz]; rfl]
    refine has_of Try.func22 (by kernel_rfl) rfl Try.ntmps22 Try.results22 rfl rfl rfl ?_
    refine run0p ?_
    refine awp_no rfl e2 ?_
    repeat(first|refine run1p ?_|((with_reducible apply st_call);exact rfl;exact rfl;exact rfl;first|(exact Has.ag (g7 rfl rfl rfl rfl rfl rfl rfl) cs))|((with_reducible apply st_callg);exact rfl;exact rfl;(first|exact rfl|assumption);exact rfl;exact rfl;exact rfl;first|(exact Has.ag (g7 rfl rfl rfl rfl rfl rfl rfl) cs)))
    refine awp_yes rfl rfl ?_
    refine run0p ?_
    exact ⟨.inr rfl, _, Imp.refl _, .one (.tmp rfl)⟩
  | true =>
  rw [hz] at cs
  rw [show chk ⟨k, n, r, A, B, G, H⟩ = chkR ⟨k, n, r, A, B, G, H⟩ by unfold chk kindB; rw [e0, e2, hz]; rfl]
  have hzz := hz
  unfold sizedB at hz
  rw [Bool.and_eq_true, Bool.not_eq_true', Bool.or_eq_false_iff] at hz
  have n1 := of_decide_eq_false hz.1.1
  have n8 := of_decide_eq_false hz.1.2
  have hr : 0 ≤ r ∧ r ≤ 3 := by
    have h := hz.2
    cases hl : likeZ k with
    | true => rw [hl, cond_true, Bool.and_eq_true] at h; have a := of_decide_eq_true h.1; have b := of_decide_eq_true h.2; omega
    | false => rw [hl, cond_false] at h; have a := of_decide_eq_true h; omega
  clear hz
  obtain ⟨n, rfl⟩ : ∃ n' : Nat, n = n' := ⟨n.toNat, by omega⟩
  obtain ⟨r, rfl⟩ : ∃ r' : Nat, r = r' := ⟨r.toNat, by omega⟩
  have cf : ∀ i : Nat, i < 4 → Fits .i64 (mpz (cmap k i) 0 * n) ∧ Fits .i64 (mpz (cmap k i) 1 * n) ∧ Fits .i64 (mpz (cmap k i) 1 * n * r) ∧ Fits .i64 (mpz (cmap k i) 0 * n + mpz (cmap k i) 1 * n * r) ∧
      Fits .i64 (mpz (cmap k i) 0 * n + mpz (cmap k i) 1 * n * r + mpz (cmap k i) 2) ∧ cnt k n r i ≤ 1000000 := fun i hi => by
    obtain ⟨c0, c1, c2⟩ := cmap_le (k := k) (by omega) (by omega) hi
    obtain ⟨p0, _⟩ := cmap_mul (n := n) (r := r) c0 (by omega) (by omega)
    obtain ⟨p1, p2⟩ := cmap_mul (n := n) (r := r) ⟨c1.1, Int.le_trans c1.2 (by decide)⟩ (by omega) (by omega)
    refine ⟨?_, ?_, ?_, ?_, ?_, ?_⟩
    · simp only [Fits]; omega
    · simp only [Fits]; omega
    · simp only [Fits]; omega
    · simp only [Fits]; omega
    · simp only [Fits]; omega
    · unfold cnt; omega
  have q0 : decide ((A.m : Int) ≠ mpz (cmap k (0 : Nat)) 0 * n + mpz (cmap k (0 : Nat)) 1 * n * r + mpz (cmap k (0 : Nat)) 2) = !A.len (cnt k n r 0) := by
    unfold PR.len cnt; simp
  have u0 : A.len (cnt k n r 0) = true → A.m ≤ 1000000 := fun h => by have a := of_decide_eq_true h; have b := (cf 0 (by decide)).2.2.2.2.2; omega
  have t0 := fun h => g_badr fA (u0 h)
  have q1 : decide ((B.m : Int) ≠ mpz (cmap k (1 : Nat)) 0 * n + mpz (cmap k (1 : Nat)) 1 * n * r + mpz (cmap k (1 : Nat)) 2) = !B.len (cnt k n r 1) := by
    unfold PR.len cnt; simp
  have u1 : B.len (cnt k n r 1) = true → B.m ≤ 1000000 := fun h => by have a := of_decide_eq_true h; have b := (cf 1 (by decide)).2.2.2.2.2; omega
  have t1 := fun h => g_badr fB (u1 h)
  have q2 : decide ((G.m : Int) ≠ mpz (cmap k (2 : Nat)) 0 * n + mpz (cmap k (2 : Nat)) 1 * n * r + mpz (cmap k (2 : Nat)) 2) = !G.len (cnt k n r 2) := by
    unfold PR.len cnt; simp
  have u2 : G.len (cnt k n r 2) = true → G.m ≤ 1000000 := fun h => by have a := of_decide_eq_true h; have b := (cf 2 (by decide)).2.2.2.2.2; omega
  have t2 := fun h => g_badr fG (u2 h)
  have q3 : decide ((H.m : Int) ≠ mpz (cmap k (3 : Nat)) 0 * n + mpz (cmap k (3 : Nat)) 1 * n * r + mpz (cmap k (3 : Nat)) 2) = !H.len (cnt k n r 3) := by
    unfold PR.len cnt; simp
  have u3 : H.len (cnt k n r 3) = true → H.m ≤ 1000000 := fun h => by have a := of_decide_eq_true h; have b := (cf 3 (by decide)).2.2.2.2.2; omega
  have t3 := fun h => g_badr fH (u3 h)
  show Has Try.prog _ _ (.i (chkV (A.len (cnt k n r 0)) (B.len (cnt k n r 1)) (G.len (cnt k n r 2)) (H.len (cnt k n r 3)) A.sm B.sm G.sm H.sm (A.meets B)))
  have spA := fun (hs : A.sm = true) (i : Nat) (hi : i < A.m) => PR.isp fA hs hi
  have spB := fun (hs : B.sm = true) (i : Nat) (hi : i < B.m) => PR.isp fB hs hi
  have gr := g_rowsr ⟨k, n, r, A, B, G, H⟩
  generalize A.len (cnt k n r 0) = b0 at *
  generalize B.len (cnt k n r 1) = b1 at *
  generalize G.len (cnt k n r 2) = b2 at *
  generalize H.len (cnt k n r 3) = b3 at *
  generalize hs0 : A.sm = s0 at *
  generalize hs1 : B.sm = s1 at *
  generalize hs2 : G.sm = s2 at *
  generalize hs3 : H.sm = s3 at *
  generalize hg : (⟨k, n, r, A, B, G, H⟩ : GR) = g at *
  have gA : g.A = A := by rw [← hg]
  have gB : g.B = B := by rw [← hg]
  have fe : g.f = fun i => ([AV.i (k : Int), .i (n : Int), .i (r : Int), A.v, B.v, G.v, H.v] : List AV).getD i (.v undef) := by rw [← hg]; rfl
  have re : g.rw = fun i => ([A.v, B.v, G.v, H.v] : List AV).getD i (.v undef) := by rw [← hg]; rfl
  subst hg
  refine has_of Try.func22 (by kernel_rfl) rfl Try.ntmps22 Try.results22 rfl rfl rfl ?_
  refine run0p ?_
  refine awp_no rfl e2 ?_
  repeat(first|refine run1p ?_|((with_reducible apply st_call);exact rfl;exact rfl;exact rfl;first|(exact Has.ag (g7 rfl rfl rfl rfl rfl rfl rfl) cs))|((with_reducible apply st_callg);exact rfl;exact rfl;(first|exact rfl|assumption);exact rfl;exact rfl;exact rfl;first|(exact Has.ag (g7 rfl rfl rfl rfl rfl rfl rfl) cs)))
  refine awp_no rfl rfl ?_
  repeat(first|refine run1p ?_|((with_reducible apply st_call);exact rfl;exact rfl;exact rfl;first|(exact Has.ag (g7 rfl rfl rfl rfl rfl rfl rfl) gr)|(exact V.c_counts))|((with_reducible apply st_callg);exact rfl;exact rfl;(first|exact rfl|assumption);exact rfl;exact rfl;exact rfl;first|(exact Has.ag (g7 rfl rfl rfl rfl rfl rfl rfl) gr)|(exact V.c_counts)))
  refine awp_loop (fun m' s => ∃ k0, k0 ≤ 4 ∧ m' = 4 - k0 ∧ (1 ≤ k0 → b0 = true) ∧ (2 ≤ k0 → b1 = true) ∧ (3 ≤ k0 → b2 = true) ∧ (4 ≤ k0 → b3 = true) ∧ s = stl [(1, .ptr 1 0 0), (3, .ptr 3 0 0), (4, .mp cmap), (28, .ag 4 (GR.rw ⟨k, n, r, A, B, G, H⟩)), (29, .i (k0 : Int))] [(1, (1, fun _ => .ones 26 7 (GR.f ⟨k, n, r, A, B, G, H⟩))), (3, (1, fun _ => .ones 68 4 (GR.rw ⟨k, n, r, A, B, G, H⟩)))]) 4 _ (imp_id ?_ ?_) ⟨0, by omega, rfl, by omega, by omega, by omega, by omega, rfl⟩ ?_
  · refine alle rfl (Le.id rfl) rfl (alle rfl (Le.id rfl) rfl (alle rfl (Le.id rfl) True.intro (alle rfl (Le.id rfl) (fun i _ => GR.rok _ _ i) ?_)))
    exact eA
  · refine allh rfl (by decide) (bleo rfl fun _ _ => Le.id rfl) (fun i _ => GR.fok _ _ i) (allh rfl (by decide) (bleo rfl fun _ _ => Le.id rfl) (fun i _ => GR.rok _ _ i) True.intro)
  · rintro m' s ⟨k0, hk0, rfl, v0, v1, v2, v3, rfl⟩
    match k0, hk0 with
    | 0, _ =>
      obtain ⟨⟨a0, c0⟩, ⟨a1, c1⟩, ⟨a2, c2⟩, ⟨a3, c3⟩, ⟨a4, c4⟩, hl⟩ := cf 0 (by omega)
      refine run0p ?_
      refine awp_yes rfl rfl ?_
      refine run0p ?_
      cases hb : b0 with
      | false =>
        rw [hb] at q0
        refine awp_yes rfl q0 ?_
        refine run0p ?_
        exact ⟨.inr rfl, _, Imp.refl _, .one (.tmp rfl)⟩
      | true =>
        rw [hb] at q0
        refine awp_no rfl q0 ?_
        refine run0p ?_
        refine q_loop ?_ (imp_id ?_ ?_) ⟨1, ?_, rfl, fun _ => rfl, by omega, by omega, by omega, rfl⟩
        · decide
        · refine alle rfl (Le.id rfl) rfl (alle rfl (Le.id rfl) rfl (alle rfl (Le.id rfl) True.intro (alle rfl (Le.id rfl) (fun i _ => GR.rok _ _ i) ?_)))
          exact eA
        · refine allh rfl (by decide) (bleo rfl fun _ _ => Le.id rfl) (fun i _ => GR.fok _ _ i) (allh rfl (by decide) (bleo rfl fun _ _ => Le.id rfl) (fun i _ => GR.rok _ _ i) True.intro)
        · decide
    | 1, _ =>
      have z0 := v0 (by decide)
      subst z0
      obtain ⟨⟨a0, c0⟩, ⟨a1, c1⟩, ⟨a2, c2⟩, ⟨a3, c3⟩, ⟨a4, c4⟩, hl⟩ := cf 1 (by omega)
      refine run0p ?_
      refine awp_yes rfl rfl ?_
      refine run0p ?_
      cases hb : b1 with
      | false =>
        rw [hb] at q1
        refine awp_yes rfl q1 ?_
        refine run0p ?_
        exact ⟨.inr rfl, _, Imp.refl _, .one (.tmp rfl)⟩
      | true =>
        rw [hb] at q1
        refine awp_no rfl q1 ?_
        refine run0p ?_
        refine q_loop ?_ (imp_id ?_ ?_) ⟨2, ?_, rfl, fun _ => rfl, fun _ => rfl, by omega, by omega, rfl⟩
        · decide
        · refine alle rfl (Le.id rfl) rfl (alle rfl (Le.id rfl) rfl (alle rfl (Le.id rfl) True.intro (alle rfl (Le.id rfl) (fun i _ => GR.rok _ _ i) ?_)))
          exact eA
        · refine allh rfl (by decide) (bleo rfl fun _ _ => Le.id rfl) (fun i _ => GR.fok _ _ i) (allh rfl (by decide) (bleo rfl fun _ _ => Le.id rfl) (fun i _ => GR.rok _ _ i) True.intro)
        · decide
    | 2, _ =>
      have z0 := v0 (by decide)
      subst z0
      have z1 := v1 (by decide)
      subst z1
      obtain ⟨⟨a0, c0⟩, ⟨a1, c1⟩, ⟨a2, c2⟩, ⟨a3, c3⟩, ⟨a4, c4⟩, hl⟩ := cf 2 (by omega)
      refine run0p ?_
      refine awp_yes rfl rfl ?_
      refine run0p ?_
      cases hb : b2 with
      | false =>
        rw [hb] at q2
        refine awp_yes rfl q2 ?_
        refine run0p ?_
        exact ⟨.inr rfl, _, Imp.refl _, .one (.tmp rfl)⟩
      | true =>
        rw [hb] at q2
        refine awp_no rfl q2 ?_
        refine run0p ?_
        refine q_loop ?_ (imp_id ?_ ?_) ⟨3, ?_, rfl, fun _ => rfl, fun _ => rfl, fun _ => rfl, by omega, rfl⟩
        · decide
        · refine alle rfl (Le.id rfl) rfl (alle rfl (Le.id rfl) rfl (alle rfl (Le.id rfl) True.intro (alle rfl (Le.id rfl) (fun i _ => GR.rok _ _ i) ?_)))
          exact eA
        · refine allh rfl (by decide) (bleo rfl fun _ _ => Le.id rfl) (fun i _ => GR.fok _ _ i) (allh rfl (by decide) (bleo rfl fun _ _ => Le.id rfl) (fun i _ => GR.rok _ _ i) True.intro)
        · decide
    | 3, _ =>
      have z0 := v0 (by decide)
      subst z0
      have z1 := v1 (by decide)
      subst z1
      have z2 := v2 (by decide)
      subst z2
      obtain ⟨⟨a0, c0⟩, ⟨a1, c1⟩, ⟨a2, c2⟩, ⟨a3, c3⟩, ⟨a4, c4⟩, hl⟩ := cf 3 (by omega)
      refine run0p ?_
      refine awp_yes rfl rfl ?_
      refine run0p ?_
      cases hb : b3 with
      | false =>
        rw [hb] at q3
        refine awp_yes rfl q3 ?_
        refine run0p ?_
        exact ⟨.inr rfl, _, Imp.refl _, .one (.tmp rfl)⟩
      | true =>
        rw [hb] at q3
        refine awp_no rfl q3 ?_
        refine run0p ?_
        refine q_loop ?_ (imp_id ?_ ?_) ⟨4, ?_, rfl, fun _ => rfl, fun _ => rfl, fun _ => rfl, fun _ => rfl, rfl⟩
        · decide
        · refine alle rfl (Le.id rfl) rfl (alle rfl (Le.id rfl) rfl (alle rfl (Le.id rfl) True.intro (alle rfl (Le.id rfl) (fun i _ => GR.rok _ _ i) ?_)))
          exact eA
        · refine allh rfl (by decide) (bleo rfl fun _ _ => Le.id rfl) (fun i _ => GR.fok _ _ i) (allh rfl (by decide) (bleo rfl fun _ _ => Le.id rfl) (fun i _ => GR.rok _ _ i) True.intro)
        · decide
    | 4, _ =>
      have z0 := v0 (by decide)
      subst z0
      have z1 := v1 (by decide)
      subst z1
      have z2 := v2 (by decide)
      subst z2
      have z3 := v3 (by decide)
      subst z3
      have t0 := t0 rfl
      have u0 := u0 rfl
      have t1 := t1 rfl
      have u1 := u1 rfl
      have t2 := t2 rfl
      have u2 := u2 rfl
      have t3 := t3 rfl
      have u3 := u3 rfl
      refine run0p ?_
      refine awp_no rfl rfl ?_
      refine run0p ?_
      refine awp_loop (fun m' s => ∃ k0, k0 ≤ 4 ∧ m' = 4 - k0 ∧ (1 ≤ k0 → s0 = true) ∧ (2 ≤ k0 → s1 = true) ∧ (3 ≤ k0 → s2 = true) ∧ (4 ≤ k0 → s3 = true) ∧ s = stl [(1, .ptr 1 0 0), (60, .ag 4 (GR.rw ⟨k, n, r, A, B, G, H⟩)), (61, .i (k0 : Int))] [(1, (1, fun _ => .ones 26 7 (GR.f ⟨k, n, r, A, B, G, H⟩)))]) 4 _ (imp_id ?_ ?_) ⟨0, by omega, rfl, by omega, by omega, by omega, by omega, rfl⟩ ?_
      · refine alle rfl (Le.id rfl) rfl (alle rfl (Le.id rfl) (fun i _ => GR.rok _ _ i) ?_)
        exact eA
      · refine allh rfl (by decide) (bleo rfl fun _ _ => Le.id rfl) (fun i _ => GR.fok _ _ i) True.intro
      · rintro m' s ⟨k0, hk0, rfl, v0, v1, v2, v3, rfl⟩
        match k0, hk0 with
        | 0, _ =>
          refine run0p ?_
          refine awp_yes rfl rfl ?_
          repeat(first|refine run1p ?_|((with_reducible apply st_call);exact rfl;exact rfl;exact rfl;first|(exact t0))|((with_reducible apply st_callg);exact rfl;exact rfl;(first|exact rfl|assumption);exact rfl;exact rfl;exact rfl;first|(exact t0)))
          cases hb : s0 with
          | false =>
            refine awp_yes rfl rfl ?_
            refine run0p ?_
            refine ⟨.inr rfl, _, Imp.refl _, ?_⟩
            exact .one (.tmp rfl)
          | true =>
            refine awp_no rfl rfl ?_
            refine run0p ?_
            refine q_loop ?_ (imp_id ?_ ?_) ⟨1, ?_, rfl, fun _ => rfl, by omega, by omega, by omega, rfl⟩
            · decide
            · refine alle rfl (Le.id rfl) rfl (alle rfl (Le.id rfl) (fun i _ => GR.rok _ _ i) ?_)
              exact eA
            · refine allh rfl (by decide) (bleo rfl fun _ _ => Le.id rfl) (fun i _ => GR.fok _ _ i) True.intro
            · decide
        | 1, _ =>
          refine run0p ?_
          refine awp_yes rfl rfl ?_
          repeat(first|refine run1p ?_|((with_reducible apply st_call);exact rfl;exact rfl;exact rfl;first|(exact t1))|((with_reducible apply st_callg);exact rfl;exact rfl;(first|exact rfl|assumption);exact rfl;exact rfl;exact rfl;first|(exact t1)))
          cases hb : s1 with
          | false =>
            refine awp_yes rfl rfl ?_
            refine run0p ?_
            refine ⟨.inr rfl, _, Imp.refl _, ?_⟩
            rw [v0 (by decide)]
            exact .one (.tmp rfl)
          | true =>
            refine awp_no rfl rfl ?_
            refine run0p ?_
            refine q_loop ?_ (imp_id ?_ ?_) ⟨2, ?_, rfl, fun _ => v0 (by decide), fun _ => rfl, by omega, by omega, rfl⟩
            · decide
            · refine alle rfl (Le.id rfl) rfl (alle rfl (Le.id rfl) (fun i _ => GR.rok _ _ i) ?_)
              exact eA
            · refine allh rfl (by decide) (bleo rfl fun _ _ => Le.id rfl) (fun i _ => GR.fok _ _ i) True.intro
            · decide
        | 2, _ =>
          refine run0p ?_
          refine awp_yes rfl rfl ?_
          repeat(first|refine run1p ?_|((with_reducible apply st_call);exact rfl;exact rfl;exact rfl;first|(exact t2))|((with_reducible apply st_callg);exact rfl;exact rfl;(first|exact rfl|assumption);exact rfl;exact rfl;exact rfl;first|(exact t2)))
          cases hb : s2 with
          | false =>
            refine awp_yes rfl rfl ?_
            refine run0p ?_
            refine ⟨.inr rfl, _, Imp.refl _, ?_⟩
            rw [v0 (by decide)]
            rw [v1 (by decide)]
            exact .one (.tmp rfl)
          | true =>
            refine awp_no rfl rfl ?_
            refine run0p ?_
            refine q_loop ?_ (imp_id ?_ ?_) ⟨3, ?_, rfl, fun _ => v0 (by decide), fun _ => v1 (by decide), fun _ => rfl, by omega, rfl⟩
            · decide
            · refine alle rfl (Le.id rfl) rfl (alle rfl (Le.id rfl) (fun i _ => GR.rok _ _ i) ?_)
              exact eA
            · refine allh rfl (by decide) (bleo rfl fun _ _ => Le.id rfl) (fun i _ => GR.fok _ _ i) True.intro
            · decide
        | 3, _ =>
          refine run0p ?_
          refine awp_yes rfl rfl ?_
          repeat(first|refine run1p ?_|((with_reducible apply st_call);exact rfl;exact rfl;exact rfl;first|(exact t3))|((with_reducible apply st_callg);exact rfl;exact rfl;(first|exact rfl|assumption);exact rfl;exact rfl;exact rfl;first|(exact t3)))
          cases hb : s3 with
          | false =>
            refine awp_yes rfl rfl ?_
            refine run0p ?_
            refine ⟨.inr rfl, _, Imp.refl _, ?_⟩
            rw [v0 (by decide)]
            rw [v1 (by decide)]
            rw [v2 (by decide)]
            exact .one (.tmp rfl)
          | true =>
            refine awp_no rfl rfl ?_
            refine run0p ?_
            refine q_loop ?_ (imp_id ?_ ?_) ⟨4, ?_, rfl, fun _ => v0 (by decide), fun _ => v1 (by decide), fun _ => v2 (by decide), fun _ => rfl, rfl⟩
            · decide
            · refine alle rfl (Le.id rfl) rfl (alle rfl (Le.id rfl) (fun i _ => GR.rok _ _ i) ?_)
              exact eA
            · refine allh rfl (by decide) (bleo rfl fun _ _ => Le.id rfl) (fun i _ => GR.fok _ _ i) True.intro
            · decide
        | 4, _ =>
          have z0 := v0 (by decide)
          rw [z0]
          have z1 := v1 (by decide)
          rw [z1]
          have z2 := v2 (by decide)
          rw [z2]
          have z3 := v3 (by decide)
          rw [z3]
          refine run0p ?_
          refine awp_no rfl rfl ?_
          refine run0p ?_
          have spA := spA z0
          have spB := spB z1
          have hme : A.meets B = !decide (∀ i, i < A.m → B.has (A.s i) (A.f i) (A.g i) = false) := rfl
          refine awp_loop (fun m' s => ∃ k0, k0 ≤ A.m ∧ m' = A.m - k0 ∧ (∀ i, i < k0 → B.has (A.s i) (A.f i) (A.g i) = false) ∧ s = stl [(1, .ptr 1 0 0), (68, A.v), (69, .i A.m), (70, .i (k0 : Int))] [(1, (1, fun _ => .ones 26 7 (GR.f ⟨k, n, r, A, B, G, H⟩)))]) A.m _ (imp_id ?_ ?_) ⟨0, Nat.zero_le _, rfl, fun i hi => absurd hi (Nat.not_lt_zero _), rfl⟩ ?_
          · refine alle rfl (Le.id rfl) rfl (alle rfl (Le.id rfl) True.intro ?_)
            exact eA
          · refine allh rfl (by decide) (bleo rfl fun _ _ => Le.id rfl) (fun i _ => GR.fok _ _ i) True.intro
          · rintro m' s ⟨k0, hk0, rfl, hprev, rfl⟩
            refine run0p ?_
            refine awp_if rfl (fun h' => ?_) (fun h' => ?_)
            · have hk' : k0 < A.m := by omega
              obtain ⟨p, p1, p2⟩ := spA k0 hk'
              have c : Has Try.prog 51 [B.v, .clo 54 1 fun i => [AV.pp (A.s k0) (A.f k0) (A.g k0)].getD i (.v undef)] (.b (B.has (A.s k0) (A.f k0) (A.g k0))) :=
                g_containsr (f := 54) (m := 1) (c := fun i => [AV.pp (A.s k0) (A.f k0) (A.g k0)].getD i (.v undef)) (n := B.m) (s := B.s) (p := B.f) (q := B.g) (b := fun j => eqB (A.s k0) (A.f k0) (A.g k0) (B.s j) (B.f j) (B.g j)) rfl rfl u1 fun i hi u h0 h1 h2 => by
                  obtain ⟨q, q1, q2⟩ := spB i hi
                  have e := g_eqsr p2 q2
                  rw [← isp_eq p2 q2, p1, q1] at e
                  exact Has.p1 (by rw [h0]; rfl) (by rw [h1]; rfl) (by rw [h2]; rfl) e
              refine run3 ?_
              refine st_ev rfl (by exact ⟨by omega, by omega⟩) ?_
              refine st_ev rfl trivial ?_
              refine st_lok (ok_alloc_ones (g := 11) rfl rfl zero_rat (by decide) rfl rfl) ?_
              refine run4p ?_
              refine awp_imp (imp_pp 11 rfl rfl rfl rfl rfl rfl) ?_
              repeat(first|refine run1p ?_|((with_reducible apply st_call);exact rfl;exact rfl;exact rfl;first|(exact Has.clo2 (one1 rfl) c))|((with_reducible apply st_callg);exact rfl;exact rfl;(first|exact rfl|assumption);exact rfl;exact rfl;exact rfl;first|(exact Has.clo2 (one1 rfl) c)))
              cases hb : B.has (A.s k0) (A.f k0) (A.g k0) with
              | true =>
                refine awp_yes rfl rfl ?_
                refine run0p ?_
                refine ⟨.inr rfl, _, Imp.refl _, ?_⟩
                rw [hme, decide_eq_false (fun h2 : ∀ i, i < A.m → B.has (A.s i) (A.f i) (A.g i) = false => by rw [h2 k0 hk'] at hb; cases hb)]
                exact .one (.tmp rfl)
              | false =>
                refine awp_no rfl rfl ?_
                refine run0p ?_
                refine q_loop ?_ (imp_id ?_ ?_) ⟨k0 + 1, ?_, rfl, fun i hi => ?_, rfl⟩
                · omega
                · refine alle rfl (Le.id rfl) rfl (alle rfl (Le.id rfl) True.intro ?_)
                  exact eA
                · refine allh rfl (by decide) (bleo rfl fun _ _ => Le.id rfl) (fun i _ => GR.fok _ _ i) True.intro
                · omega
                · rcases Nat.lt_or_ge i k0 with h | h
                  · exact hprev i h
                  · obtain rfl : i = k0 := by omega
                    exact hb
            · refine run0p ?_
              refine ⟨.inr rfl, _, Imp.refl _, ?_⟩
              rw [hme, decide_eq_true fun i hi => hprev i (by omega)]
              exact .one (.tmp rfl)
end Go.Proofs.Ytpclkgjhfhhddaa.AM
/- The document's check of whatever comes in (printed by gen/gen_rwe.py). -/
namespace Go.Proofs.Ytpclkgjhfhhddaa.AM
open Go Go.RowKit Go.Proofs.Ytpclkgjhfhhddaa.PN Go.Proofs.Ytpclkgjhfhhddaa.V
set_option linter.unusedVariables false
set_option linter.unusedSimpArgs false
set_option maxRecDepth 8000
set_option maxHeartbeats 8000000
/-- What the rows' lengths are. -/
theorem cnt_eq {k n r : Nat} (h1 : 1 ≤ k) (h7 : k ≤ 7) (n1 : 1 ≤ n) : cnt k n r 0 = (cnA k n : Nat) ∧ cnt k n r 1 = (cnB k n : Nat) ∧ cnt k n r 2 = (cnH k n r : Nat) ∧ cnt k n r 3 = (cnH k n r : Nat) := by
  have e : ((n * r : Nat) : Int) = (n : Int) * r := Int.natCast_mul n r
  have hk : k = 1 ∨ k = 2 ∨ k = 3 ∨ k = 4 ∨ k = 5 ∨ k = 6 ∨ k = 7 := by omega
  have c : ∀ (x y z n r : Int), x = 0 → y = 1 → z = 0 → x * n + y * n * r + z = n * r := by intro x y z n r hx hy hz; subst hx; subst hy; subst hz; simp
  have d : ∀ (x y z n r : Int), x = 1 → y = 0 → z = 0 → x * n + y * n * r + z = n := by intro x y z n r hx hy hz; subst hx; subst hy; subst hz; simp
  have f : ∀ (x y z n r : Int), x = 2 → y = 0 → z = -1 → x * n + y * n * r + z = 2 * n - 1 := by intro x y z n r hx hy hz; subst hx; subst hy; subst hz; simp; omega
  have z : ∀ (x y z n r : Int), x = 0 → y = 0 → z = 0 → x * n + y * n * r + z = 0 := by intro x y z n r hx hy hz; subst hx; subst hy; subst hz; simp
  unfold cnt
  rcases hk with rfl | rfl | rfl | rfl | rfl | rfl | rfl
  all_goals
    refine ⟨?_, ?_, ?_, ?_⟩
    all_goals
      simp only [cnA, cnB, cnH]
      first
        | (rw [z _ _ _ _ _ (by decide) (by decide) (by decide)] <;> omega)
        | (rw [f _ _ _ _ _ (by decide) (by decide) (by decide)] <;> omega)
        | (rw [d _ _ _ _ _ (by decide) (by decide) (by decide)] <;> omega)
        | (rw [c _ _ _ _ _ (by decide) (by decide) (by decide)] <;> omega)
/-- What is wrong with kind and size. -/
def headV (k n r : Int) : Int := bif kindB k then 2 else bif sizedB k n r then 0 else 1
end Go.Proofs.Ytpclkgjhfhhddaa.AM

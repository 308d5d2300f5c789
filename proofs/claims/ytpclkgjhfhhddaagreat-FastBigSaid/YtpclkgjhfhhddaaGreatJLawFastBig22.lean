/- Joined texts, 22: RwA RwB RwC RwD. -/
import Derived.Test.YtpclkgjhfhhddaaGreatJLawFastBig21
import Derived.Test.YtpclkgjhfhhddaaGreatJLawFastBig2
import Derived.Test.YtpclkgjhfhhddaaGreatJLawFastBig1
set_option linter.unusedVariables false
set_option linter.unusedSimpArgs false
/- Numbers as they came in: limbs, wherever they lie. -/
namespace Go.Proofs.YtpclkgjhfhhddaaGreat.PN
/-- What limbs are worth. -/
def lval : List Nat → Nat
  | [] => 0
  | x :: l => x + B * lval l
def LF (l : List Nat) : Prop := ∀ x ∈ l, x < B
theorem lval_lt : ∀ {l : List Nat}, LF l → lval l < B ^ l.length
  | [], _ => by show 0 < B ^ 0; simp
  | x :: l, h => by
    have h1 := lval_lt (l := l) fun y hy => h y (List.mem_cons_of_mem _ hy)
    have h2 := h x (List.mem_cons_self ..)
    show x + B * lval l < B ^ (l.length + 1)
    rw [Nat.pow_succ, Nat.mul_comm (B ^ l.length) B]
    have := Nat.mul_le_mul_left B (show lval l + 1 ≤ B ^ l.length from h1)
    rw [Nat.mul_add] at this
    omega
theorem lval_dig : ∀ {l : List Nat}, LF l → ∀ i, i < l.length → dig (lval l) i = l.getD i 0
  | [], _, i, hi => absurd hi (Nat.not_lt_zero _)
  | x :: l, h, 0, _ => by
    have h2 := h x (List.mem_cons_self ..)
    show dig (x + B * lval l) 0 = x
    unfold dig
    rw [Nat.pow_zero, Nat.div_one, Nat.add_mul_mod_self_left, Nat.mod_eq_of_lt h2]
  | x :: l, h, i + 1, hi => by
    have h2 := h x (List.mem_cons_self ..)
    have h1 := lval_dig (l := l) (fun y hy => h y (List.mem_cons_of_mem _ hy)) i (by simpa using hi)
    show dig (x + B * lval l) (i + 1) = l.getD i 0
    rw [← h1]
    unfold dig
    rw [Nat.pow_succ, Nat.mul_comm (B ^ i) B, ← Nat.div_div_eq_div_mul, Nat.add_mul_div_left _ _ (by decide), Nat.div_eq_of_lt h2, Nat.zero_add]
/-- They end in no nought. -/
def trimB (l : List Nat) : Bool := decide (l.length = size (lval l))
theorem trim_len {l : List Nat} (h : trimB l = true) : l.length = size (lval l) := of_decide_eq_true h
theorem size_lval {l : List Nat} (h : LF l) : size (lval l) ≤ l.length := (lt_iff _ _).1 (lval_lt h)
/-- The limbs of a number. -/
def limbsOf (s : Nat) : List Nat := (List.range (size s)).map (dig s)
theorem limbsOf_len (s : Nat) : (limbsOf s).length = size s := by simp [limbsOf]
theorem limbsOf_get (s i : Nat) (hi : i < size s) : (limbsOf s).getD i 0 = dig s i := by
  unfold limbsOf
  rw [List.getD_eq_getElem?_getD, List.getElem?_map, List.getElem?_range hi]; rfl
theorem limbsOf_lf (s : Nat) : LF (limbsOf s) := by
  intro x hx
  obtain ⟨i, _, rfl⟩ := List.mem_map.1 hx
  exact dig_lt _ _
theorem lval_limbsOf (s : Nat) : lval (limbsOf s) = s := by
  refine ext (n := size s) ?_ (lt_size s) fun i hi => ?_
  · have := lval_lt (limbsOf_lf s); rwa [limbsOf_len] at this
  · rw [lval_dig (limbsOf_lf s) i (by rw [limbsOf_len]; exact hi), limbsOf_get s i hi]
theorem trim_limbsOf (s : Nat) : trimB (limbsOf s) = true := by
  unfold trimB
  rw [lval_limbsOf, limbsOf_len]; simp
theorem lval_nil {l : List Nat} (h : trimB l = true) : l.length = 0 ↔ lval l = 0 := by
  rw [trim_len h, size_eq_zero]
end Go.Proofs.YtpclkgjhfhhddaaGreat.PN
namespace Go.Proofs.YtpclkgjhfhhddaaGreat.AM
open Go Go.RowKit Go.Proofs.YtpclkgjhfhhddaaGreat.PN Go.Proofs.YtpclkgjhfhhddaaGreat.V
set_option linter.unusedVariables false
set_option linter.unusedSimpArgs false
set_option maxRecDepth 8000
set_option maxHeartbeats 8000000
theorem plb_at {S : Nat → Prop} {w : World} {v : Value} {l : List Nat} (h : PLb S w v l) (hf : LF l) : ∃ A c, v = .slice A l.length c ∧ l.length ≤ c ∧ At w A (lval l) l.length := by
  obtain ⟨A, c, e, hc, hx⟩ := h
  refine ⟨A, c, e, hc, fun i hi => ?_⟩
  obtain ⟨b, off, e1, _, e2⟩ := hx i hi
  exact ⟨b, off, e1, by rw [lval_dig hf i hi]; exact e2⟩
theorem plb_trim {S : Nat → Prop} {w : World} {v : Value} {l : List Nat} (h : PLb S w v l) (hf : LF l) (ht : trimB l = true) : ∃ A c, v = .slice A (size (lval l)) c ∧ size (lval l) ≤ c ∧ At w A (lval l) (size (lval l)) := by
  have := plb_at h hf
  rwa [trim_len ht] at this
theorem plb_nat {S : Nat → Prop} {w : World} {v : Value} {n : Nat} (h : NatS w (fun _ => True) v n) : PLb S w v (limbsOf n) := by
  obtain ⟨A, c, e, hc, hx⟩ := h
  refine ⟨A, c, by rw [limbsOf_len]; exact e, by rw [limbsOf_len]; exact hc, fun i hi => ?_⟩
  rw [limbsOf_len] at hi
  obtain ⟨b, off, cs, e1, _, hr, e2⟩ := hx i hi
  exact ⟨b, off, e1, .inr ⟨cs, hr⟩, by rw [cell_of_row w b _ cs U32 (0, 0) hr, limbsOf_get n i hi]; exact e2⟩
theorem plb_lbs {S : Nat → Prop} {w : World} {v : Value} {l : List Nat} (h : Lbs w v l) : PLb S w v l := by
  obtain ⟨A, c, e, hc, hx⟩ := h
  refine ⟨A, c, e, hc, fun i hi => ?_⟩
  obtain ⟨b, off, cs, e1, hr, e2⟩ := hx i hi
  exact ⟨b, off, e1, .inr ⟨cs, hr⟩, by rw [cell_of_row w b _ cs U32 (0, 0) hr]; exact e2⟩
/-- The parts of a number. -/
def raN : RA → List Nat
  | .q p => limbsOf (nm p)
  | .raw _ n _ => n
def raD : RA → List Nat
  | .q p => limbsOf p.den
  | .raw _ _ d => d
theorem plb_rn {S : Nat → Prop} {w : World} {v : Value} : ∀ {r : RA}, RN w r v → PLb S w v (raN r)
  | .q p, h => plb_nat h
  | .raw _ _ _, h => plb_lbs h
theorem plb_rd {S : Nat → Prop} {w : World} {v : Value} : ∀ {r : RA}, RD w r v → PLb S w v (raD r)
  | .q p, h => plb_nat h
  | .raw _ _ _, h => plb_lbs h
theorem pcell_of {S : Nat → Prop} {w : World} {b o : Nat} {r : RA} (h : RatCell w b o r) : PCell S w b o r.sgn (raN r) (raD r) := by
  obtain ⟨cs, s, vn, vd, hr, h0, h1, h2, h3, h4, h5⟩ := h
  refine ⟨vn, vd, ?_, ?_, ?_, plb_rn h4, plb_rd h5⟩
  · rw [cell_of_row w b _ cs RT (0, 0) hr, h0, h3]
  · rw [cell_of_row w b _ cs RT (0, 0) hr, h1]
  · rw [cell_of_row w b _ cs RT (0, 0) hr, h2]
theorem rv_prow {S : Nat → Prop} {B : Nat} {β : Nat → Nat → Value} {w : World} {fr : Bool} {n : Nat} {f : Nat → RA} (v : Value) (h : RV S B β w (.row fr n f) v) : RV S B β w (.prow n (fun i => (f i).sgn) (fun i => raN (f i)) (fun i => raD (f i))) v := by
  obtain ⟨A, c, e, hc, hm, hx⟩ := h
  refine ⟨A, c, e, hc, hm, fun i hi => ?_⟩
  obtain ⟨b, off, e1, hS, _, hcell⟩ := hx i hi
  exact ⟨b, off, e1, hS, pcell_of hcell⟩
def gcd1 (a b : Nat) : Bool := Nat.beq (Nat.gcd a b) 1
theorem gcd1_cmp (a b : Nat) : gcd1 a b = decide (cmpI (Nat.gcd a b) 1 = 0) := by
  unfold gcd1
  generalize Nat.gcd a b = g
  rw [Bool.eq_iff_iff, Nat.beq_eq, decide_eq_true_iff, cmpI_zero]
/-- It is right. -/
def rgtB (s : Bool) (n d : List Nat) : Bool := trimB n && trimB d && decide (d.length ≠ 0) && !(decide (n.length = 0) && s) && gcd1 (lval n) (lval d)
theorem pr_right {l : List Nat} (hf : LF l) (hn : l.length ≤ 1000000) : Has Tryz.prog 61 [.plb l] (.b (trimB l)) := by
  refine ⟨by kernel_rfl, trivial, fun w S β vs hv => ?_⟩
  obtain ⟨v, rfl, h1⟩ := rvs1 hv
  obtain ⟨A, c, rfl, hc, ha⟩ := plb_at h1 hf
  refine (r_right_any A c _ _ w ha (lval_lt hf) (by omega)).mono ?_
  rintro e w' ⟨rfl, rfl⟩
  exact ⟨_, rfl, Below.refl _ _, rfl⟩
theorem pr_gcd {l m : List Nat} (hf : LF l) (hg : LF m) (hl : trimB l = true) (hm : trimB m = true) (h1 : l.length ≤ 30000) (h2 : m.length ≤ 30000) : Has Tryz.prog 38 [.plb l, .plb m] (.nat (Nat.gcd (lval l) (lval m))) := by
  refine ⟨by kernel_rfl, trivial, fun w S β vs hv => ?_⟩
  obtain ⟨v, u, rfl, q1, q2⟩ := rvs2 hv
  obtain ⟨A, c, rfl, hc, ha⟩ := plb_trim q1 hf hl
  obtain ⟨A', c', rfl, hc', ha'⟩ := plb_trim q2 hg hm
  have := size_lval hf; have := size_lval hg
  refine (r_gcd_any A c _ A' c' _ w hc hc' ha ha' (by omega) (by omega)).mono ?_
  rintro e w' ⟨v, rfl, h1, h2⟩
  exact ⟨_, rfl, h2, h1.any⟩
theorem pr_cmp {l m : List Nat} (hf : LF l) (hg : LF m) (hl : trimB l = true) (hm : trimB m = true) (h1 : l.length ≤ 1000000) (h2 : m.length ≤ 1000000) : Has Tryz.prog 31 [.plb l, .plb m] (.i (cmpI (lval l) (lval m))) := by
  refine ⟨by kernel_rfl, trivial, fun w S β vs hv => ?_⟩
  obtain ⟨v, u, rfl, q1, q2⟩ := rvs2 hv
  obtain ⟨A, c, rfl, hc, ha⟩ := plb_trim q1 hf hl
  obtain ⟨A', c', rfl, hc', ha'⟩ := plb_trim q2 hg hm
  have := size_lval hf; have := size_lval hg
  refine (r_cmp A c _ A' c' _ w ha ha' (by omega) (by omega)).mono ?_
  rintro e w' ⟨rfl, h2⟩
  exact ⟨_, rfl, h2, rfl⟩
end Go.Proofs.YtpclkgjhfhhddaaGreat.AM
/- Numbers as they came in: which are right. -/
namespace Go.Proofs.YtpclkgjhfhhddaaGreat.AM
open Go Go.RowKit Go.Proofs.YtpclkgjhfhhddaaGreat.PN Go.Proofs.YtpclkgjhfhhddaaGreat.V
set_option linter.unusedVariables false
set_option linter.unusedSimpArgs false
set_option maxRecDepth 8000
set_option maxHeartbeats 8000000
theorem p3 {s s' : Bool} {n n' d d' : List Nat} {u : Nat → AV} (h0 : u 0 = .v (.bool s)) (h1 : u 1 = .plb n) (h2 : u 2 = .plb d) : ∀ i, i < 3 → u i = pag s n d i := fun i hi => by
  match i, hi with
  | 0, _ => exact h0
  | 1, _ => exact h1
  | 2, _ => exact h2
theorem Has.p1 {P : Program} {f : FuncId} {s : Bool} {n d : List Nat} {u : Nat → AV} {xs : List AV} {r : AV} (h0 : u 0 = .v (.bool s)) (h1 : u 1 = .plb n) (h2 : u 2 = .plb d) (H : Has P f (.ag 3 (pag s n d) :: xs) r) : Has P f (.ag 3 u :: xs) r :=
  Has.ag (p3 (s' := s) (n' := n) (d' := d) h0 h1 h2) H
theorem Has.p2 {P : Program} {f : FuncId} {s s' : Bool} {n d n' d' : List Nat} {u u' : Nat → AV} {r : AV} (h0 : u 0 = .v (.bool s)) (h1 : u 1 = .plb n) (h2 : u 2 = .plb d) (k0 : u' 0 = .v (.bool s')) (k1 : u' 1 = .plb n') (k2 : u' 2 = .plb d') (H : Has P f [.ag 3 (pag s n d), .ag 3 (pag s' n' d')] r) : Has P f [.ag 3 u, .ag 3 u'] r :=
  Has.args H fun S B β w vs hv => rvs_cons (rv_ag (p3 (s' := s) (n' := n) (d' := d) h0 h1 h2)) (fun us hu => rvs_cons (rv_ag (p3 (s' := s') (n' := n') (d' := d') k0 k1 k2)) rvs_same hu) hv
theorem lf_size1 {l : List Nat} (hf : LF l) (hn : l.length ≤ 1000000) : size (lval l) ≤ 1000000 := Nat.le_trans (size_lval hf) hn
theorem pr_rright {s : Bool} {n d : List Nat} (hn : LF n) (hd : LF d) (ln : n.length ≤ 1000) (ld : d.length ≤ 1000) : Has Tryz.prog 40 [.ag 3 (pag s n d)] (.b (rgtB s n d)) := by
  have c1 := pr_right hn (by omega); have c2 := pr_right hd (by omega)
  refine has_of Tryz.func40 (by kernel_rfl) rfl Tryz.ntmps40 Tryz.results40 rfl rfl rfl ?_
  cases hN : trimB n with
  | false =>
    rw [hN] at c1
    rw [show rgtB s n d = false by unfold rgtB; rw [hN]; rfl]
    repeat(first|refine run1p ?_|((with_reducible apply st_call);exact rfl;exact rfl;exact rfl;first|(exact c1)|(exact c2))|((with_reducible apply st_callg);exact rfl;exact rfl;(first|exact rfl|assumption);exact rfl;exact rfl;exact rfl;first|(exact c1)|(exact c2)))
    refine awp_yes rfl rfl ?_
    refine run0p ?_
    exact ⟨.inr rfl, _, Imp.refl _, .one (.tmp rfl)⟩
  | true =>
  rw [hN] at c1
  cases hD : trimB d with
  | false =>
    rw [hD] at c2
    rw [show rgtB s n d = false by unfold rgtB; rw [hN, hD]; rfl]
    repeat(first|refine run1p ?_|((with_reducible apply st_call);exact rfl;exact rfl;exact rfl;first|(exact c1)|(exact c2))|((with_reducible apply st_callg);exact rfl;exact rfl;(first|exact rfl|assumption);exact rfl;exact rfl;exact rfl;first|(exact c1)|(exact c2)))
    refine awp_yes rfl rfl ?_
    refine run0p ?_
    exact ⟨.inr rfl, _, Imp.refl _, .one (.tmp rfl)⟩
  | true =>
  rw [hD] at c2
  by_cases h0 : d.length = 0
  · have e0 : decide (((d.length : Nat) : Int) = 0) = true := decide_eq_true (by omega)
    have e00 : (decide (((d.length : Nat) : Int) = 0) == false) = false := by rw [e0]; rfl
    rw [show rgtB s n d = false by unfold rgtB; rw [hN, hD, decide_eq_false (by omega : ¬ d.length ≠ 0)]; rfl]
    repeat(first|refine run1p ?_|((with_reducible apply st_call);exact rfl;exact rfl;exact rfl;first|(exact c1)|(exact c2))|((with_reducible apply st_callg);exact rfl;exact rfl;(first|exact rfl|assumption);exact rfl;exact rfl;exact rfl;first|(exact c1)|(exact c2)))
    refine awp_yes rfl rfl ?_
    refine run0p ?_
    exact ⟨.inr rfl, _, Imp.refl _, .one (.tmp rfl)⟩
  have e0 : decide (((d.length : Nat) : Int) = 0) = false := decide_eq_false (by omega)
  have e00 : (decide (((d.length : Nat) : Int) = 0) == false) = true := by rw [e0]; rfl
  have c4 := pr_gcd hn hd hN hD (by omega) (by omega)
  have sg : size (Nat.gcd (lval n) (lval d)) ≤ 1000000 := by
    have hd0 : 0 < lval d := by
      have := lval_nil hD
      rcases Nat.eq_zero_or_pos (lval d) with h | h
      · omega
      · exact h
    exact Nat.le_trans (size_le_of_le (Nat.gcd_le_right _ hd0)) (lf_size1 hd (by omega))
  have c5 := hr_cmp (a := Nat.gcd (lval n) (lval d)) (b := 1) (by omega) (by decide)
  by_cases z : n.length = 0
  · have e1 : decide (((n.length : Nat) : Int) = 0) = true := decide_eq_true (by omega)
    have e11 : (decide (((n.length : Nat) : Int) = 0) == true) = true := by rw [e1]; rfl
    have z0 := (lval_nil hN).1 z
    cases s with
    | true =>
      rw [show rgtB true n d = false by unfold rgtB; rw [hN, hD, decide_eq_true z, decide_eq_true h0]; rfl]
      repeat(first|refine run1p ?_|((with_reducible apply st_call);exact rfl;exact rfl;exact rfl;first|(exact c1)|(exact c2))|((with_reducible apply st_callg);exact rfl;exact rfl;(first|exact rfl|assumption);exact rfl;exact rfl;exact rfl;first|(exact c1)|(exact c2)))
      refine awp_yes rfl rfl ?_
      refine run0p ?_
      exact ⟨.inr rfl, _, Imp.refl _, .one (.tmp rfl)⟩
    | false =>
      rw [show rgtB false n d = decide (cmpI (Nat.gcd (lval n) (lval d)) 1 = 0) by unfold rgtB; rw [hN, hD, decide_eq_true h0, gcd1_cmp]; simp]
      repeat(first|refine run1p ?_|((with_reducible apply st_call);exact rfl;exact rfl;exact rfl;first|(exact c1)|(exact c2))|((with_reducible apply st_callg);exact rfl;exact rfl;(first|exact rfl|assumption);exact rfl;exact rfl;exact rfl;first|(exact c1)|(exact c2)))
      refine awp_no rfl rfl ?_
      repeat(first|refine run1p ?_|((with_reducible apply st_call);exact rfl;exact rfl;exact rfl;first|(exact c4)|(exact h2_one)|(exact c5))|((with_reducible apply st_callg);exact rfl;exact rfl;(first|exact rfl|assumption);exact rfl;exact rfl;exact rfl;first|(exact c4)|(exact h2_one)|(exact c5)))
      exact ⟨.inr rfl, _, Imp.refl _, .one (.tmp rfl)⟩
  · have e1 : decide (((n.length : Nat) : Int) = 0) = false := decide_eq_false (by omega)
    have e11 : (decide (((n.length : Nat) : Int) = 0) == true) = false := by rw [e1]; rfl
    rw [show rgtB s n d = decide (cmpI (Nat.gcd (lval n) (lval d)) 1 = 0) by unfold rgtB; rw [hN, hD, decide_eq_true h0, decide_eq_false z, gcd1_cmp]; simp]
    repeat(first|refine run1p ?_|((with_reducible apply st_call);exact rfl;exact rfl;exact rfl;first|(exact c1)|(exact c2))|((with_reducible apply st_callg);exact rfl;exact rfl;(first|exact rfl|assumption);exact rfl;exact rfl;exact rfl;first|(exact c1)|(exact c2)))
    refine awp_no rfl rfl ?_
    repeat(first|refine run1p ?_|((with_reducible apply st_call);exact rfl;exact rfl;exact rfl;first|(exact c4)|(exact h2_one)|(exact c5))|((with_reducible apply st_callg);exact rfl;exact rfl;(first|exact rfl|assumption);exact rfl;exact rfl;exact rfl;first|(exact c4)|(exact h2_one)|(exact c5)))
    exact ⟨.inr rfl, _, Imp.refl _, .one (.tmp rfl)⟩
/-- Which may be handed in. -/
def smB (s : Bool) (n d : List Nat) : Bool := decide (n.length ≤ 4) && decide (d.length ≤ 4) && rgtB s n d
/-- Two right numbers are one. -/
def eqB (s : Bool) (n d : List Nat) (s' : Bool) (n' d' : List Nat) : Bool := (s == s') && decide (lval n = lval n') && decide (lval d = lval d')
end Go.Proofs.YtpclkgjhfhhddaaGreat.AM
/- Numbers as they came in: which are the same. -/
namespace Go.Proofs.YtpclkgjhfhhddaaGreat.AM
open Go Go.RowKit Go.Proofs.YtpclkgjhfhhddaaGreat.PN Go.Proofs.YtpclkgjhfhhddaaGreat.V
set_option linter.unusedVariables false
set_option linter.unusedSimpArgs false
set_option maxRecDepth 8000
set_option maxHeartbeats 8000000
/-- These limbs are this number's. -/
structure IsP (n d : List Nat) (p : Rat) : Prop where
  hn : LF n
  hd : LF d
  tn : trimB n = true
  td : trimB d = true
  en : lval n = nm p
  ed : lval d = p.den
  ln : n.length ≤ 1000
  ld : d.length ≤ 1000
/-- What a right number is. -/
theorem rgt_rat {s : Bool} {n d : List Nat} (h : rgtB s n d = true) : ∃ p : Rat, ng p = s ∧ nm p = lval n ∧ p.den = lval d := by
  unfold rgtB at h
  rw [Bool.and_eq_true, Bool.and_eq_true, Bool.and_eq_true, Bool.and_eq_true] at h
  obtain ⟨⟨⟨⟨h1, h2⟩, h3⟩, h4⟩, h5⟩ := h
  have h5 : Nat.gcd (lval n) (lval d) = 1 := by rw [gcd1, Nat.beq_eq] at h5; exact h5
  have h3 := of_decide_eq_true h3
  have hd0 : lval d ≠ 0 := fun e => h3 ((lval_nil h2).2 e)
  refine ⟨⟨if s then -(lval n : Int) else (lval n : Int), lval d, hd0, ?_⟩, ?_, ?_, rfl⟩
  · show Nat.Coprime (Int.natAbs _) _
    cases s
    · simpa using h5
    · simpa using h5
  · show decide ((if s = true then -(lval n : Int) else (lval n : Int)) < 0) = s
    cases s with
    | false => simp
    | true =>
      have hn : lval n ≠ 0 := by
        intro e
        have := (lval_nil h1).2 e
        rw [decide_eq_true this] at h4; cases h4
      rw [if_pos rfl]
      exact decide_eq_true (by omega)
  · show Int.natAbs (if s = true then -(lval n : Int) else (lval n : Int)) = lval n
    cases s <;> simp
theorem rgt_isp {s : Bool} {n d : List Nat} (h : rgtB s n d = true) (hn : LF n) (hd : LF d) (ln : n.length ≤ 1000) (ld : d.length ≤ 1000) : ∃ p : Rat, ng p = s ∧ IsP n d p := by
  obtain ⟨p, e1, e2, e3⟩ := rgt_rat h
  unfold rgtB at h
  rw [Bool.and_eq_true, Bool.and_eq_true, Bool.and_eq_true, Bool.and_eq_true] at h
  exact ⟨p, e1, hn, hd, h.1.1.1.1, h.1.1.1.2, e2.symm, e3.symm, ln, ld⟩
theorem isp_eq {n d n' d' : List Nat} {p q : Rat} (hp : IsP n d p) (hq : IsP n' d' q) : eqB (ng p) n d (ng q) n' d' = decide (p = q) := by
  unfold eqB
  rw [hp.en, hp.ed, hq.en, hq.ed, Bool.eq_iff_iff, Bool.and_eq_true, Bool.and_eq_true, beq_iff_eq, decide_eq_true_iff, decide_eq_true_iff, decide_eq_true_iff]
  constructor
  · rintro ⟨⟨h1, h2⟩, h3⟩; exact rat_ext h1 h2 h3
  · rintro rfl; exact ⟨⟨rfl, rfl⟩, rfl⟩
theorem pr_same {n d n' d' : List Nat} {p q : Rat} (hp : IsP n d p) (hq : IsP n' d' q) : Has Tryz.prog 15 [.ag 3 (pag (ng p) n d), .ag 3 (pag (ng q) n' d')] (.b (decide (p = q))) := by
  have c1 := pr_cmp hp.hn hq.hn hp.tn hq.tn (Nat.le_trans hp.ln (by decide)) (Nat.le_trans hq.ln (by decide))
  have c2 := pr_cmp hp.hd hq.hd hp.td hq.td (Nat.le_trans hp.ld (by decide)) (Nat.le_trans hq.ld (by decide))
  rw [hp.en, hq.en] at c1; rw [hp.ed, hq.ed] at c2
  refine has_of Tryz.func15 (by kernel_rfl) rfl Tryz.ntmps15 Tryz.results15 rfl rfl rfl ?_
  by_cases e : ng p = ng q
  · have g0 : (ng p == ng q) = true := by rw [e]; simp
    have g1 : ((ng p == ng q) == true) = true := by rw [g0]; rfl
    by_cases e2 : nm p = nm q
    · have g2 : decide (cmpI (nm p) (nm q) = 0) = true := decide_eq_true (cmpI_zero.2 e2)
      have g3 : (decide (cmpI (nm p) (nm q) = 0) == true) = true := by rw [g2]; rfl
      rw [show decide (p = q) = decide (cmpI p.den q.den = 0) from decide_eq_decide.2 ⟨fun h => by rw [h]; exact cmpI_zero.2 rfl, fun h => rat_ext e e2 (cmpI_zero.1 h)⟩]
      repeat(first|refine run1p ?_|((with_reducible apply st_call);exact rfl;exact rfl;exact rfl;first|(exact c1)|(exact c2))|((with_reducible apply st_callg);exact rfl;exact rfl;(first|exact rfl|assumption);exact rfl;exact rfl;exact rfl;first|(exact c1)|(exact c2)))
      exact ⟨.inr rfl, _, Imp.refl _, .one (.tmp rfl)⟩
    · have g2 : decide (cmpI (nm p) (nm q) = 0) = false := decide_eq_false fun h => e2 (cmpI_zero.1 h)
      have g3 : (decide (cmpI (nm p) (nm q) = 0) == true) = false := by rw [g2]; rfl
      rw [show decide (p = q) = false from decide_eq_false fun h => e2 (by rw [h])]
      repeat(first|refine run1p ?_|((with_reducible apply st_call);exact rfl;exact rfl;exact rfl;first|(exact c1)|(exact c2))|((with_reducible apply st_callg);exact rfl;exact rfl;(first|exact rfl|assumption);exact rfl;exact rfl;exact rfl;first|(exact c1)|(exact c2)))
      exact ⟨.inr rfl, _, Imp.refl _, .one (.tmp rfl)⟩
  · have g0 : (ng p == ng q) = false := beq_eq_false_iff_ne.2 e
    have g1 : ((ng p == ng q) == true) = false := by rw [g0]; rfl
    rw [show decide (p = q) = false from decide_eq_false fun h => e (by rw [h])]
    repeat(first|refine run1p ?_|((with_reducible apply st_call);exact rfl;exact rfl;exact rfl;first|(exact c1)|(exact c2))|((with_reducible apply st_callg);exact rfl;exact rfl;(first|exact rfl|assumption);exact rfl;exact rfl;exact rfl;first|(exact c1)|(exact c2)))
    exact ⟨.inr rfl, _, Imp.refl _, .one (.tmp rfl)⟩
end Go.Proofs.YtpclkgjhfhhddaaGreat.AM
/- Package gen: whatever comes in is checked (printed by gen/gen_rwd.py). -/
namespace Go.Proofs.YtpclkgjhfhhddaaGreat.AM
open Go Go.RowKit Go.Proofs.YtpclkgjhfhhddaaGreat.PN Go.Proofs.YtpclkgjhfhhddaaGreat.V
set_option linter.unusedVariables false
set_option linter.unusedSimpArgs false
set_option maxRecDepth 8000
set_option maxHeartbeats 8000000
/-- A row as it came in. -/
structure PR where
  m : Nat
  s : Nat → Bool
  f : Nat → List Nat
  g : Nat → List Nat
def PR.v (r : PR) : AV := .prow r.m r.s r.f r.g
structure PR.Fin (r : PR) : Prop where
  f : ∀ i, i < r.m → LF (r.f i)
  g : ∀ i, i < r.m → LF (r.g i)
/-- A system as it came in. -/
structure GR where
  k : Int
  n : Int
  r : Int
  A : PR
  B : PR
  G : PR
  H : PR
def GR.l (g : GR) : List AV := [.i g.k, .i g.n, .i g.r, g.A.v, g.B.v, g.G.v, g.H.v]
def GR.f (g : GR) (i : Nat) : AV := g.l.getD i (.v undef)
def GR.v (g : GR) : AV := .ag 7 g.f
def GR.rw (g : GR) (i : Nat) : AV := (g.l.drop 3).getD i (.v undef)
theorem GR.fok (g : GR) (U : Nat → Bool) : ∀ i, (g.f i).ok U
  | 0 | 1 | 2 | 3 | 4 | 5 | 6 => trivial
  | _ + 7 => trivial
theorem GR.rok (g : GR) (U : Nat → Bool) : ∀ i, (g.rw i).ok U
  | 0 | 1 | 2 | 3 => trivial
  | _ + 4 => trivial
structure GR.Fin (g : GR) : Prop where
  A : g.A.Fin
  B : g.B.Fin
  G : g.G.Fin
  H : g.H.Fin
def likeZ (k : Int) : Bool := decide (k = 6) || decide (k = 7)
def sizedB (k n r : Int) : Bool := !(decide (n < 1) || decide (8 < n)) && (bif likeZ k then decide (1 ≤ r) && decide (r ≤ 3) else decide (r = 0))
def kindB (k : Int) : Bool := decide (k < 1) || decide (7 < k)
def cnt (k n r : Int) (i : Nat) : Int := mpz (cmap k i) 0 * n + mpz (cmap k i) 1 * n * r + mpz (cmap k i) 2
def PR.len (r : PR) (c : Int) : Bool := decide ((r.m : Int) = c)
def PR.sm (r : PR) : Bool := decide (∀ i, i < r.m → smB (r.s i) (r.f i) (r.g i) = true)
def PR.has (r : PR) (s : Bool) (n d : List Nat) : Bool := !decide (∀ j, j < r.m → eqB s n d (r.s j) (r.f j) (r.g j) = false)
def PR.meets (a b : PR) : Bool := !decide (∀ i, i < a.m → b.has (a.s i) (a.f i) (a.g i) = false)
def chkV (b0 b1 b2 b3 s0 s1 s2 s3 e : Bool) : Int := bif b0 && b1 && b2 && b3 then (bif s0 && s1 && s2 && s3 then (bif e then 5 else 0) else 1) else 3
def chkR (g : GR) : Int := chkV (g.A.len (cnt g.k g.n g.r 0)) (g.B.len (cnt g.k g.n g.r 1)) (g.G.len (cnt g.k g.n g.r 2)) (g.H.len (cnt g.k g.n g.r 3)) g.A.sm g.B.sm g.G.sm g.H.sm (g.A.meets g.B)
/-- What is told of a system. -/
def chk (g : GR) : Int := bif kindB g.k then 2 else bif sizedB g.k g.n g.r then chkR g else 1
theorem likeZ_nat (k : Nat) : likeZ (k : Int) = likeB k := by
  unfold likeZ likeB
  congr 1 <;> exact decide_eq_decide.2 (by omega)
/-- The least one that is asked for. -/
theorem first_true {b : Nat → Bool} : ∀ n, ¬ (∀ i, i < n → b i = false) → ∃ k, k < n ∧ b k = true ∧ ∀ i, i < k → b i = false
  | 0, h => absurd (fun i hi => absurd hi (Nat.not_lt_zero _)) h
  | n + 1, h => by
    by_cases e : ∀ i, i < n → b i = false
    · refine ⟨n, by omega, ?_, e⟩
      cases hb : b n with
      | true => rfl
      | false =>
        refine absurd (fun i hi => ?_) h
        rcases Nat.lt_or_ge i n with h' | h'
        · exact e i h'
        · rw [show i = n by omega]; exact hb
    · obtain ⟨k, h1, h2, h3⟩ := first_true n e
      exact ⟨k, by omega, h2, h3⟩
/-- A small row's numbers. -/
theorem PR.isp {r : PR} (h : r.Fin) (hs : r.sm = true) {i : Nat} (hi : i < r.m) : ∃ p : Rat, ng p = r.s i ∧ IsP (r.f i) (r.g i) p := by
  have := of_decide_eq_true hs i hi
  unfold smB at this
  rw [Bool.and_eq_true, Bool.and_eq_true] at this
  have l1 := of_decide_eq_true this.1.1
  have l2 := of_decide_eq_true this.1.2
  exact rgt_isp this.2 (h.f i hi) (h.g i hi) (by omega) (by omega)
end Go.Proofs.YtpclkgjhfhhddaaGreat.AM

/- Joined texts, 19: RwE AmLi. -/
import Derived.Test.YtpclkgjhfhhddaaJLawCodeReads18
import Derived.Test.YtpclkgjhfhhddaaJLawCodeReads16
set_option linter.unusedVariables false
set_option linter.unusedSimpArgs false
/- The document's check of whatever comes in (printed by gen/gen_rwe.py). -/
namespace Go.Proofs.Ytpclkgjhfhhddaa.AM
open Go Go.RowKit Go.Proofs.Ytpclkgjhfhhddaa.PN Go.Proofs.Ytpclkgjhfhhddaa.V
set_option linter.unusedVariables false
set_option linter.unusedSimpArgs false
set_option maxRecDepth 8000
set_option maxHeartbeats 8000000
theorem r5_countsr {k n r : Nat} {A B G H : PR} (h1 : 1 ≤ k) (h7 : k ≤ 7) (n1 : 1 ≤ n) (n8 : n ≤ 8) (r3 : r ≤ 3) : Has Try.prog 31 [GR.v ⟨k, n, r, A, B, G, H⟩] (.tup3 (.i (cnA k n)) (.i (cnB k n)) (.i (cnH k n r))) := by
  have hk : k = 1 ∨ k = 2 ∨ k = 3 ∨ k = 4 ∨ k = 5 ∨ k = 6 ∨ k = 7 := by omega
  have em : (n : Int) * (r : Int) = ((n * r : Nat) : Int) := (Int.natCast_mul n r).symm
  have hnr : n * r ≤ 8 * 3 := Nat.mul_le_mul n8 r3
  have q1 : -9223372036854775808 ≤ (n : Int) * (r : Int) := by rw [em]; omega
  have q2 : (n : Int) * (r : Int) ≤ 9223372036854775807 := by rw [em]; omega
  refine has_of Try.func31 (by kernel_rfl) rfl Try.ntmps31 Try.results31 rfl rfl rfl ?_
  refine run0 ?_
  rcases hk with rfl | rfl | rfl | rfl | rfl | rfl | rfl
  · skip
    refine awp_yes rfl rfl ?_
    refine run0 ?_
    refine awp_yes rfl rfl ?_
    refine run0 ?_
    rw [show (2 : Int) * n - 1 = ((cnA 1 n : Nat) : Int) from by show (2 : Int) * n - 1 = ((2 * n - 1 : Nat) : Int); omega]
    exact ⟨.inr rfl, _, Imp.refl _, .three (.tmp rfl) (.tmp rfl) (.tmp rfl)⟩
  · skip
    refine awp_no rfl rfl ?_
    refine run0 ?_
    refine awp_yes rfl rfl ?_
    refine run0 ?_
    rw [show (2 : Int) * n - 1 = ((cnA 2 n : Nat) : Int) from by show (2 : Int) * n - 1 = ((2 * n - 1 : Nat) : Int); omega]
    exact ⟨.inr rfl, _, Imp.refl _, .three (.tmp rfl) (.tmp rfl) (.tmp rfl)⟩
  · skip
    refine awp_no rfl rfl ?_
    refine run0 ?_
    refine awp_no rfl rfl ?_
    refine run0 ?_
    refine awp_yes rfl rfl ?_
    refine run0 ?_
    refine awp_yes rfl rfl ?_
    refine run0 ?_
    exact ⟨.inr rfl, _, Imp.refl _, .three (.tmp rfl) (.tmp rfl) (.tmp rfl)⟩
  · skip
    refine awp_no rfl rfl ?_
    refine run0 ?_
    refine awp_no rfl rfl ?_
    refine run0 ?_
    refine awp_no rfl rfl ?_
    refine run0 ?_
    refine awp_yes rfl rfl ?_
    refine run0 ?_
    exact ⟨.inr rfl, _, Imp.refl _, .three (.tmp rfl) (.tmp rfl) (.tmp rfl)⟩
  · skip
    refine awp_no rfl rfl ?_
    refine run0 ?_
    refine awp_no rfl rfl ?_
    refine run0 ?_
    refine awp_no rfl rfl ?_
    refine run0 ?_
    refine awp_no rfl rfl ?_
    refine run0 ?_
    refine awp_yes rfl rfl ?_
    refine run0 ?_
    exact ⟨.inr rfl, _, Imp.refl _, .three (.tmp rfl) (.tmp rfl) (.tmp rfl)⟩
  · skip
    refine awp_no rfl rfl ?_
    refine run0 ?_
    refine awp_no rfl rfl ?_
    refine run0 ?_
    refine awp_no rfl rfl ?_
    refine run0 ?_
    refine awp_no rfl rfl ?_
    refine run0 ?_
    refine awp_no rfl rfl ?_
    refine run0 ?_
    refine awp_yes rfl rfl ?_
    refine run0 ?_
    rw [em]
    exact ⟨.inr rfl, _, Imp.refl _, .three (.tmp rfl) (.tmp rfl) (.tmp rfl)⟩
  · skip
    refine awp_no rfl rfl ?_
    refine run0 ?_
    refine awp_no rfl rfl ?_
    refine run0 ?_
    refine awp_no rfl rfl ?_
    refine run0 ?_
    refine awp_no rfl rfl ?_
    refine run0 ?_
    refine awp_no rfl rfl ?_
    refine run0 ?_
    refine awp_no rfl rfl ?_
    refine run0 ?_
    rw [em]
    exact ⟨.inr rfl, _, Imp.refl _, .three (.tmp rfl) (.tmp rfl) (.tmp rfl)⟩
/-- What the rows' lengths are. -/
theorem cnt_eq {k n r : Nat} (h1 : 1 ≤ k) (h7 : k ≤ 7) (n1 : 1 ≤ n) : cnt k n r 0 = (cnA k n : Nat) ∧ cnt k n r 1 = (cnB k n : Nat) ∧ cnt k n r 2 = (cnH k n r : Nat) ∧ cnt k n r 3 = (cnH k n r : Nat) := by
  have e : ((n * r : Nat) : Int) = (n : Int) * r := Int.natCast_mul n r
  have hk : k = 1 ∨ k = 2 ∨ k = 3 ∨ k = 4 ∨ k = 5 ∨ k = 6 ∨ k = 7 := by omega
  have c : ∀ (x y z n r : Int), x = 0 → y = 1 → z = 0 → x * n + y * n * r + z = n * r := by intro x y z n r hx hy hz; subst hx; subst hy; subst hz; simp
  have d : ∀ (x y z n r : Int), x = 1 → y = 0 → z = 0 → x * n + y * n * r + z = n := by intro x y z n r hx hy hz; subst hx; subst hy; subst hz; simp
  have f : ∀ (x y z n r : Int), x = 2 → y = 0 → z = -1 → x * n + y * n * r + z = 2 * n - 1 := by intro x y z n r hx hy hz; subst hx; subst hy; subst hz; simp; omega
  have z : ∀ (x y z n r : Int), x = 0 → y = 0 → z = 0 → x * n + y * n * r + z = 0 := by intro x y z n r hx hy hz; subst hx; subst hy; subst hz; simp
  unfold cnt
  rcases hk with rfl | rfl | rfl | rfl | rfl | rfl | rfl
  all_goals
    refine ⟨?_, ?_, ?_, ?_⟩
    all_goals
      simp only [cnA, cnB, cnH]
      first
        | (rw [z _ _ _ _ _ (by decide) (by decide) (by decide)] <;> omega)
        | (rw [f _ _ _ _ _ (by decide) (by decide) (by decide)] <;> omega)
        | (rw [d _ _ _ _ _ (by decide) (by decide) (by decide)] <;> omega)
        | (rw [c _ _ _ _ _ (by decide) (by decide) (by decide)] <;> omega)
theorem r5_rightr {r : PR} (hf : r.Fin) (hn : r.m ≤ 1000000) : Has Try.prog 56 [r.v] (.b r.sm) := by
  have step : ∀ i, i < r.m → ∀ (h : (i : Nat) < r.m), smB (r.s i) (r.f i) (r.g i) = (decide ((r.f i).length ≤ 4) && decide ((r.g i).length ≤ 4) && rgtB (r.s i) (r.f i) (r.g i)) := fun i hi h => rfl
  by_cases hall : ∀ i, i < r.m → smB (r.s i) (r.f i) (r.g i) = true
  · rw [show r.sm = true from decide_eq_true hall]
    refine has_of Try.func56 (by kernel_rfl) rfl Try.ntmps56 Try.results56 rfl rfl rfl ?_
    refine run0p ?_
    refine awp_loop (fun m' s => ∃ i, i ≤ r.m ∧ m' = r.m - i ∧ s = stl [(0, r.v), (3, .i (i : Int))] []) r.m _ (imp_id ?_ ?_) ⟨0, Nat.zero_le _, rfl, rfl⟩ ?_
    · refine alle rfl (Le.id rfl) True.intro ?_
      exact eA
    · exact hA
    rintro m' s ⟨i, hi, rfl, rfl⟩
    refine run0p ?_
    refine awp_if rfl (fun h => ?_) (fun h => ?_)
    · have h : i < r.m := by omega
      have hs := hall i h
      unfold smB at hs
      rw [Bool.and_eq_true, Bool.and_eq_true] at hs
      have l1 := of_decide_eq_true hs.1.1
      have l2 := of_decide_eq_true hs.1.2
      have cr := pr_rright (s := r.s i) (hf.f i h) (hf.g i h) (by omega) (by omega)
      rw [hs.2] at cr
      have f1 : decide ((4 : Int) < (((r.f i).length : Nat) : Int)) = false := decide_eq_false (by omega)
      have f2 : (decide ((4 : Int) < (((r.f i).length : Nat) : Int)) == false) = true := by rw [f1]; rfl
      have f3 : decide ((4 : Int) < (((r.g i).length : Nat) : Int)) = false := decide_eq_false (by omega)
      have f4 : (decide ((4 : Int) < (((r.g i).length : Nat) : Int)) == false) = true := by rw [f3]; rfl
      repeat(first|refine run1p ?_|((with_reducible apply st_call);exact rfl;exact rfl;exact rfl;first|(exact Has.p1 rfl rfl rfl cr))|((with_reducible apply st_callg);exact rfl;exact rfl;(first|exact rfl|assumption);exact rfl;exact rfl;exact rfl;first|(exact Has.p1 rfl rfl rfl cr)))
      refine awp_no rfl rfl ?_
      refine run0p ?_
      refine q_loop ?_ (imp_id ?_ ?_) ⟨i + 1, ?_, rfl, rfl⟩
      · omega
      · refine alle rfl (Le.id rfl) True.intro ?_
        exact eA
      · exact hA
      · omega
    · refine run0p ?_
      exact ⟨.inr rfl, _, Imp.refl _, .one (.tmp rfl)⟩
  · rw [show r.sm = false from decide_eq_false hall]
    obtain ⟨k0, hk0, hb0, hlt⟩ := first_true (b := fun i => !smB (r.s i) (r.f i) (r.g i)) r.m (fun h => hall fun i hi => by have := h i hi; simpa using this)
    have hlt : ∀ i, i < k0 → smB (r.s i) (r.f i) (r.g i) = true := fun i hi => by have := hlt i hi; simpa using this
    have hb0 : smB (r.s k0) (r.f k0) (r.g k0) = false := by simpa using hb0
    refine has_of Try.func56 (by kernel_rfl) rfl Try.ntmps56 Try.results56 rfl rfl rfl ?_
    refine run0p ?_
    refine awp_loop (fun m' s => ∃ i, i ≤ k0 ∧ m' = r.m - i ∧ s = stl [(0, r.v), (3, .i (i : Int))] []) r.m _ (imp_id ?_ ?_) ⟨0, Nat.zero_le _, rfl, rfl⟩ ?_
    · refine alle rfl (Le.id rfl) True.intro ?_
      exact eA
    · exact hA
    rintro m' s ⟨i, hi, rfl, rfl⟩
    have h : i < r.m := by omega
    refine run0p ?_
    refine awp_yes rfl (decide_eq_true (by omega)) ?_
    by_cases e : i = k0
    · subst e
      unfold smB at hb0
      by_cases l1 : (r.f i).length ≤ 4
      · have f1 : decide ((4 : Int) < (((r.f i).length : Nat) : Int)) = false := decide_eq_false (by omega)
        have f2 : (decide ((4 : Int) < (((r.f i).length : Nat) : Int)) == false) = true := by rw [f1]; rfl
        by_cases l2 : (r.g i).length ≤ 4
        · have f3 : decide ((4 : Int) < (((r.g i).length : Nat) : Int)) = false := decide_eq_false (by omega)
          have f4 : (decide ((4 : Int) < (((r.g i).length : Nat) : Int)) == false) = true := by rw [f3]; rfl
          have cr := pr_rright (s := r.s i) (hf.f i h) (hf.g i h) (by omega) (by omega)
          rw [decide_eq_true l1, decide_eq_true l2, Bool.true_and, Bool.true_and] at hb0
          rw [hb0] at cr
          repeat(first|refine run1p ?_|((with_reducible apply st_call);exact rfl;exact rfl;exact rfl;first|(exact Has.p1 rfl rfl rfl cr))|((with_reducible apply st_callg);exact rfl;exact rfl;(first|exact rfl|assumption);exact rfl;exact rfl;exact rfl;first|(exact Has.p1 rfl rfl rfl cr)))
          refine awp_yes rfl rfl ?_
          refine run0p ?_
          exact ⟨.inr rfl, _, Imp.refl _, .one (.tmp rfl)⟩
        · have f3 : decide ((4 : Int) < (((r.g i).length : Nat) : Int)) = true := decide_eq_true (by omega)
          have f4 : (decide ((4 : Int) < (((r.g i).length : Nat) : Int)) == false) = false := by rw [f3]; rfl
          refine run0p ?_
          refine awp_yes rfl rfl ?_
          refine run0p ?_
          exact ⟨.inr rfl, _, Imp.refl _, .one (.tmp rfl)⟩
      · have f1 : decide ((4 : Int) < (((r.f i).length : Nat) : Int)) = true := decide_eq_true (by omega)
        have f2 : (decide ((4 : Int) < (((r.f i).length : Nat) : Int)) == false) = false := by rw [f1]; rfl
        refine run0p ?_
        refine awp_yes rfl rfl ?_
        refine run0p ?_
        exact ⟨.inr rfl, _, Imp.refl _, .one (.tmp rfl)⟩
    · have hs := hlt i (by omega)
      unfold smB at hs
      rw [Bool.and_eq_true, Bool.and_eq_true] at hs
      have l1 := of_decide_eq_true hs.1.1
      have l2 := of_decide_eq_true hs.1.2
      have cr := pr_rright (s := r.s i) (hf.f i h) (hf.g i h) (by omega) (by omega)
      rw [hs.2] at cr
      have f1 : decide ((4 : Int) < (((r.f i).length : Nat) : Int)) = false := decide_eq_false (by omega)
      have f2 : (decide ((4 : Int) < (((r.f i).length : Nat) : Int)) == false) = true := by rw [f1]; rfl
      have f3 : decide ((4 : Int) < (((r.g i).length : Nat) : Int)) = false := decide_eq_false (by omega)
      have f4 : (decide ((4 : Int) < (((r.g i).length : Nat) : Int)) == false) = true := by rw [f3]; rfl
      repeat(first|refine run1p ?_|((with_reducible apply st_call);exact rfl;exact rfl;exact rfl;first|(exact Has.p1 rfl rfl rfl cr))|((with_reducible apply st_callg);exact rfl;exact rfl;(first|exact rfl|assumption);exact rfl;exact rfl;exact rfl;first|(exact Has.p1 rfl rfl rfl cr)))
      refine awp_no rfl rfl ?_
      refine run0p ?_
      refine q_loop ?_ (imp_id ?_ ?_) ⟨i + 1, ?_, rfl, rfl⟩
      · omega
      · refine alle rfl (Le.id rfl) True.intro ?_
        exact eA
      · exact hA
      · omega
/-- What is wrong with kind and size. -/
def headV (k n r : Int) : Int := bif kindB k then 2 else bif sizedB k n r then 0 else 1
theorem r5_likez {k : Int} : Has Try.prog 30 [.i k] (.b (likeZ k)) := by
  refine has_of Try.func30 (by kernel_rfl) rfl Try.ntmps30 Try.results30 rfl rfl rfl ?_
  by_cases h6 : k = 6
  · have e0 : decide (k = 6) = true := decide_eq_true h6
    have e1 : (decide (k = 6) == false) = false := by rw [e0]; rfl
    refine run0p ?_
    refine ⟨.inr rfl, _, Imp.refl _, ?_⟩
    rw [show likeZ k = true by unfold likeZ; rw [e0]; rfl]
    exact .one (.tmp rfl)
  · have e0 : decide (k = 6) = false := decide_eq_false h6
    have e1 : (decide (k = 6) == false) = true := by rw [e0]; rfl
    refine run0p ?_
    refine ⟨.inr rfl, _, Imp.refl _, ?_⟩
    rw [show likeZ k = decide (k = 7) by unfold likeZ; rw [e0]; rfl]
    exact .one (.tmp rfl)
theorem r5_headr (k n r : Int) (A B G H : PR) : Has Try.prog 43 [GR.v ⟨k, n, r, A, B, G, H⟩] (.i (headV k n r)) := by
  refine has_of Try.func43 (by kernel_rfl) rfl Try.ntmps43 Try.results43 rfl rfl rfl ?_
  by_cases h1 : k < 1
  · have e0 : decide (k < 1) = true := decide_eq_true h1
    have e1 : (decide (k < 1) == false) = false := by rw [e0]; rfl
    rw [show headV k n r = 2 by unfold headV kindB; rw [e0]; rfl]
    refine run0p ?_
    refine awp_yes rfl rfl ?_
    refine run0p ?_
    exact ⟨.inr rfl, _, Imp.refl _, .one (.tmp rfl)⟩
  have e0 : decide (k < 1) = false := decide_eq_false h1
  have e1 : (decide (k < 1) == false) = true := by rw [e0]; rfl
  refine run0p ?_
  by_cases h7 : 7 < k
  · have e2 : decide ((7 : Int) < k) = true := decide_eq_true h7
    rw [show headV k n r = 2 by unfold headV kindB; rw [e0, e2]; rfl]
    refine awp_yes rfl e2 ?_
    refine run0p ?_
    exact ⟨.inr rfl, _, Imp.refl _, .one (.tmp rfl)⟩
  have e2 : decide ((7 : Int) < k) = false := decide_eq_false h7
  refine awp_no rfl e2 ?_
  have cl := r5_likez (k := k)
  rw [show headV k n r = (bif sizedB k n r then 0 else 1) by unfold headV kindB; rw [e0, e2]; rfl]
  by_cases n1 : n < 1
  · have d0 : decide (n < 1) = true := decide_eq_true n1
    have d1 : (decide (n < 1) == false) = false := by rw [d0]; rfl
    rw [show sizedB k n r = false by unfold sizedB; rw [d0]; rfl]
    refine run0p ?_
    refine awp_yes rfl rfl ?_
    refine run0p ?_
    exact ⟨.inr rfl, _, Imp.refl _, .one (.tmp rfl)⟩
  have d0 : decide (n < 1) = false := decide_eq_false n1
  have d1 : (decide (n < 1) == false) = true := by rw [d0]; rfl
  by_cases n8 : 8 < n
  · have d2 : decide ((8 : Int) < n) = true := decide_eq_true n8
    have d3 : (decide ((8 : Int) < n) == false) = false := by rw [d2]; rfl
    rw [show sizedB k n r = false by unfold sizedB; rw [d2]; simp]
    refine run0p ?_
    refine awp_yes rfl rfl ?_
    refine run0p ?_
    exact ⟨.inr rfl, _, Imp.refl _, .one (.tmp rfl)⟩
  have d2 : decide ((8 : Int) < n) = false := decide_eq_false n8
  have d3 : (decide ((8 : Int) < n) == false) = true := by rw [d2]; rfl
  cases hk : likeZ k with
  | true =>
    rw [hk] at cl
    rw [show sizedB k n r = (decide (1 ≤ r) && decide (r ≤ 3)) by unfold sizedB; rw [d0, d2, hk]; rfl]
    by_cases r1 : r < 1
    · have a0 : decide (r < 1) = true := decide_eq_true r1
      have a1 : (decide (r < 1) == false) = false := by rw [a0]; rfl
      rw [decide_eq_false (by omega : ¬ 1 ≤ r)]
      repeat(first|refine run1p ?_|((with_reducible apply st_call);exact rfl;exact rfl;exact rfl;first|(exact cl))|((with_reducible apply st_callg);exact rfl;exact rfl;(first|exact rfl|assumption);exact rfl;exact rfl;exact rfl;first|(exact cl)))
      refine awp_yes rfl rfl ?_
      refine run0p ?_
      exact ⟨.inr rfl, _, Imp.refl _, .one (.tmp rfl)⟩
    have a0 : decide (r < 1) = false := decide_eq_false r1
    have a1 : (decide (r < 1) == false) = true := by rw [a0]; rfl
    by_cases r3 : 3 < r
    · have a2 : decide ((3 : Int) < r) = true := decide_eq_true r3
      have a3 : (decide ((3 : Int) < r) == false) = false := by rw [a2]; rfl
      rw [decide_eq_true (by omega : 1 ≤ r), decide_eq_false (by omega : ¬ r ≤ 3)]
      repeat(first|refine run1p ?_|((with_reducible apply st_call);exact rfl;exact rfl;exact rfl;first|(exact cl))|((with_reducible apply st_callg);exact rfl;exact rfl;(first|exact rfl|assumption);exact rfl;exact rfl;exact rfl;first|(exact cl)))
      refine awp_yes rfl rfl ?_
      refine run0p ?_
      exact ⟨.inr rfl, _, Imp.refl _, .one (.tmp rfl)⟩
    have a2 : decide ((3 : Int) < r) = false := decide_eq_false r3
    have a3 : (decide ((3 : Int) < r) == false) = true := by rw [a2]; rfl
    rw [decide_eq_true (by omega : 1 ≤ r), decide_eq_true (by omega : r ≤ 3)]
    repeat(first|refine run1p ?_|((with_reducible apply st_call);exact rfl;exact rfl;exact rfl;first|(exact cl))|((with_reducible apply st_callg);exact rfl;exact rfl;(first|exact rfl|assumption);exact rfl;exact rfl;exact rfl;first|(exact cl)))
    refine awp_no rfl rfl ?_
    refine run0p ?_
    exact ⟨.inr rfl, _, Imp.refl _, .one (.tmp rfl)⟩
  | false =>
    rw [hk] at cl
    rw [show sizedB k n r = decide (r = 0) by unfold sizedB; rw [d0, d2, hk]; rfl]
    by_cases r0 : r = 0
    · have a0 : decide (r ≠ 0) = false := decide_eq_false fun h => h r0
      have a1 : (decide (r ≠ 0) == false) = true := by rw [a0]; rfl
      rw [decide_eq_true r0]
      repeat(first|refine run1p ?_|((with_reducible apply st_call);exact rfl;exact rfl;exact rfl;first|(exact cl))|((with_reducible apply st_callg);exact rfl;exact rfl;(first|exact rfl|assumption);exact rfl;exact rfl;exact rfl;first|(exact cl)))
      refine awp_no rfl a0 ?_
      refine run0p ?_
      exact ⟨.inr rfl, _, Imp.refl _, .one (.tmp rfl)⟩
    · have a0 : decide (r ≠ 0) = true := decide_eq_true r0
      have a1 : (decide (r ≠ 0) == false) = false := by rw [a0]; rfl
      rw [decide_eq_false r0]
      repeat(first|refine run1p ?_|((with_reducible apply st_call);exact rfl;exact rfl;exact rfl;first|(exact cl))|((with_reducible apply st_callg);exact rfl;exact rfl;(first|exact rfl|assumption);exact rfl;exact rfl;exact rfl;first|(exact cl)))
      refine awp_yes rfl a0 ?_
      refine run0p ?_
      exact ⟨.inr rfl, _, Imp.refl _, .one (.tmp rfl)⟩
/-- Whatever comes in. -/
theorem r5_checkr {g : GR} (hf : g.Fin) : Has Try.prog 23 [g.v] (.i (chk g)) := by
  obtain ⟨k, n, r, A, B, G, H⟩ := g
  obtain ⟨fA, fB, fG, fH⟩ := hf
  change A.Fin at fA
  change B.Fin at fB
  change G.Fin at fG
  change H.Fin at fH
  have ch := r5_headr k n r A B G H
  by_cases hz : headV k n r = 0
  · rw [hz] at ch
    have hkz : kindB k = false ∧ sizedB k n r = true := by
      unfold headV at hz
      cases hk : kindB k with
      | true => rw [hk] at hz; cases hz
      | false => cases hs : sizedB k n r with
        | true => exact ⟨rfl, rfl⟩
        | false => rw [hk, hs] at hz; cases hz
    rw [show chk ⟨k, n, r, A, B, G, H⟩ = chkR ⟨k, n, r, A, B, G, H⟩ by unfold chk; simp only [hkz.1, hkz.2, cond_false, cond_true]]
    obtain ⟨hk, hs⟩ := hkz
    unfold kindB at hk
    rw [Bool.or_eq_false_iff] at hk
    have h1 := of_decide_eq_false hk.1
    have h7 := of_decide_eq_false hk.2
    unfold sizedB at hs
    rw [Bool.and_eq_true, Bool.not_eq_true', Bool.or_eq_false_iff] at hs
    have n1 := of_decide_eq_false hs.1.1
    have n8 := of_decide_eq_false hs.1.2
    have hr : 0 ≤ r ∧ r ≤ 3 := by
      have h := hs.2
      cases hl : likeZ k with
      | true => rw [hl, cond_true, Bool.and_eq_true] at h; have a := of_decide_eq_true h.1; have b := of_decide_eq_true h.2; omega
      | false => rw [hl, cond_false] at h; have a := of_decide_eq_true h; omega
    clear hs hk hz
    obtain ⟨k, rfl⟩ : ∃ k' : Nat, k = k' := ⟨k.toNat, by omega⟩
    obtain ⟨n, rfl⟩ : ∃ n' : Nat, n = n' := ⟨n.toNat, by omega⟩
    obtain ⟨r, rfl⟩ : ∃ r' : Nat, r = r' := ⟨r.toNat, by omega⟩
    obtain ⟨w0, w1, w2, w3⟩ := cnt_eq (k := k) (n := n) (r := r) (by omega) (by omega) (by omega)
    have cc := r5_countsr (k := k) (n := n) (r := r) (A := A) (B := B) (G := G) (H := H) (by omega) (by omega) (by omega) (by omega) (by omega)
    have nr : n * r ≤ 8 * 3 := Nat.mul_le_mul (by omega) (by omega)
    have bA : cnA k n ≤ 1000000 := by unfold cnA; split <;> omega
    have bB : cnB k n ≤ 1000000 := by unfold cnB; split <;> omega
    have bH : cnH k n r ≤ 1000000 := by unfold cnH; split <;> omega
    show Has Try.prog _ _ (.i (chkV (A.len (cnt k n r 0)) (B.len (cnt k n r 1)) (G.len (cnt k n r 2)) (H.len (cnt k n r 3)) A.sm B.sm G.sm H.sm (A.meets B)))
    rw [w0, w1, w2, w3]
    generalize ea : cnA k n = a at *
    generalize eb : cnB k n = b at *
    generalize eh : cnH k n r = h at *
    have q0 : decide ((A.m : Int) ≠ (a : Nat)) = !A.len (a : Nat) := by unfold PR.len; simp
    have q1 : decide ((B.m : Int) ≠ (b : Nat)) = !B.len (b : Nat) := by unfold PR.len; simp
    have q2 : decide ((G.m : Int) ≠ (h : Nat)) = !G.len (h : Nat) := by unfold PR.len; simp
    have q3 : decide ((H.m : Int) ≠ (h : Nat)) = !H.len (h : Nat) := by unfold PR.len; simp
    have p0 : (decide ((A.m : Int) ≠ (a : Nat)) == false) = A.len (a : Nat) := by rw [q0]; cases A.len (a : Nat) <;> rfl
    have p1 : (decide ((B.m : Int) ≠ (b : Nat)) == false) = B.len (b : Nat) := by rw [q1]; cases B.len (b : Nat) <;> rfl
    have p2 : (decide ((G.m : Int) ≠ (h : Nat)) == false) = G.len (h : Nat) := by rw [q2]; cases G.len (h : Nat) <;> rfl
    cases l0 : A.len (a : Nat) with
    | false =>
      rw [l0] at q0 p0
      refine has_of Try.func23 (by kernel_rfl) rfl Try.ntmps23 Try.results23 rfl rfl rfl ?_
      repeat(first|refine run1p ?_|((with_reducible apply st_call);exact rfl;exact rfl;exact rfl;first|(exact Has.ag (g7 rfl rfl rfl rfl rfl rfl rfl) ch))|((with_reducible apply st_callg);exact rfl;exact rfl;(first|exact rfl|assumption);exact rfl;exact rfl;exact rfl;first|(exact Has.ag (g7 rfl rfl rfl rfl rfl rfl rfl) ch)))
      refine awp_no rfl rfl ?_
      repeat(first|refine run1p ?_|((with_reducible apply st_call);exact rfl;exact rfl;exact rfl;first|(exact Has.ag (g7 rfl rfl rfl rfl rfl rfl rfl) cc))|((with_reducible apply st_callg);exact rfl;exact rfl;(first|exact rfl|assumption);exact rfl;exact rfl;exact rfl;first|(exact Has.ag (g7 rfl rfl rfl rfl rfl rfl rfl) cc)))
      refine awp_yes rfl rfl ?_
      refine run0p ?_
      exact ⟨.inr rfl, _, Imp.refl _, .one (.tmp rfl)⟩
    | true =>
    rw [l0] at q0 p0
    cases l1 : B.len (b : Nat) with
    | false =>
      rw [l1] at q1 p1
      refine has_of Try.func23 (by kernel_rfl) rfl Try.ntmps23 Try.results23 rfl rfl rfl ?_
      repeat(first|refine run1p ?_|((with_reducible apply st_call);exact rfl;exact rfl;exact rfl;first|(exact Has.ag (g7 rfl rfl rfl rfl rfl rfl rfl) ch))|((with_reducible apply st_callg);exact rfl;exact rfl;(first|exact rfl|assumption);exact rfl;exact rfl;exact rfl;first|(exact Has.ag (g7 rfl rfl rfl rfl rfl rfl rfl) ch)))
      refine awp_no rfl rfl ?_
      repeat(first|refine run1p ?_|((with_reducible apply st_call);exact rfl;exact rfl;exact rfl;first|(exact Has.ag (g7 rfl rfl rfl rfl rfl rfl rfl) cc))|((with_reducible apply st_callg);exact rfl;exact rfl;(first|exact rfl|assumption);exact rfl;exact rfl;exact rfl;first|(exact Has.ag (g7 rfl rfl rfl rfl rfl rfl rfl) cc)))
      refine awp_yes rfl rfl ?_
      refine run0p ?_
      exact ⟨.inr rfl, _, Imp.refl _, .one (.tmp rfl)⟩
    | true =>
    rw [l1] at q1 p1
    cases l2 : G.len (h : Nat) with
    | false =>
      rw [l2] at q2 p2
      refine has_of Try.func23 (by kernel_rfl) rfl Try.ntmps23 Try.results23 rfl rfl rfl ?_
      repeat(first|refine run1p ?_|((with_reducible apply st_call);exact rfl;exact rfl;exact rfl;first|(exact Has.ag (g7 rfl rfl rfl rfl rfl rfl rfl) ch))|((with_reducible apply st_callg);exact rfl;exact rfl;(first|exact rfl|assumption);exact rfl;exact rfl;exact rfl;first|(exact Has.ag (g7 rfl rfl rfl rfl rfl rfl rfl) ch)))
      refine awp_no rfl rfl ?_
      repeat(first|refine run1p ?_|((with_reducible apply st_call);exact rfl;exact rfl;exact rfl;first|(exact Has.ag (g7 rfl rfl rfl rfl rfl rfl rfl) cc))|((with_reducible apply st_callg);exact rfl;exact rfl;(first|exact rfl|assumption);exact rfl;exact rfl;exact rfl;first|(exact Has.ag (g7 rfl rfl rfl rfl rfl rfl rfl) cc)))
      refine awp_yes rfl rfl ?_
      refine run0p ?_
      exact ⟨.inr rfl, _, Imp.refl _, .one (.tmp rfl)⟩
    | true =>
    rw [l2] at q2 p2
    cases l3 : H.len (h : Nat) with
    | false =>
      rw [l3] at q3
      refine has_of Try.func23 (by kernel_rfl) rfl Try.ntmps23 Try.results23 rfl rfl rfl ?_
      repeat(first|refine run1p ?_|((with_reducible apply st_call);exact rfl;exact rfl;exact rfl;first|(exact Has.ag (g7 rfl rfl rfl rfl rfl rfl rfl) ch))|((with_reducible apply st_callg);exact rfl;exact rfl;(first|exact rfl|assumption);exact rfl;exact rfl;exact rfl;first|(exact Has.ag (g7 rfl rfl rfl rfl rfl rfl rfl) ch)))
      refine awp_no rfl rfl ?_
      repeat(first|refine run1p ?_|((with_reducible apply st_call);exact rfl;exact rfl;exact rfl;first|(exact Has.ag (g7 rfl rfl rfl rfl rfl rfl rfl) cc))|((with_reducible apply st_callg);exact rfl;exact rfl;(first|exact rfl|assumption);exact rfl;exact rfl;exact rfl;first|(exact Has.ag (g7 rfl rfl rfl rfl rfl rfl rfl) cc)))
      refine awp_yes rfl q3 ?_
      refine run0p ?_
      exact ⟨.inr rfl, _, Imp.refl _, .one (.tmp rfl)⟩
    | true =>
    rw [l3] at q3
    have m0 : A.m = a := by have := of_decide_eq_true l0; omega
    have m1 : B.m = b := by have := of_decide_eq_true l1; omega
    have m2 : G.m = h := by have := of_decide_eq_true l2; omega
    have m3 : H.m = h := by have := of_decide_eq_true l3; omega
    have c0 := r5_rightr fA (by omega); have c1 := r5_rightr fB (by omega); have c2 := r5_rightr fG (by omega); have c3 := r5_rightr fH (by omega)
    have spA := fun (hs : A.sm = true) (i : Nat) (hi : i < A.m) => PR.isp fA hs hi
    have spB := fun (hs : B.sm = true) (i : Nat) (hi : i < B.m) => PR.isp fB hs hi
    have hme : A.meets B = !decide (∀ i, i < A.m → B.has (A.s i) (A.f i) (A.g i) = false) := rfl
    cases s0 : A.sm with
    | false =>
      rw [s0] at c0
      refine has_of Try.func23 (by kernel_rfl) rfl Try.ntmps23 Try.results23 rfl rfl rfl ?_
      repeat(first|refine run1p ?_|((with_reducible apply st_call);exact rfl;exact rfl;exact rfl;first|(exact Has.ag (g7 rfl rfl rfl rfl rfl rfl rfl) ch))|((with_reducible apply st_callg);exact rfl;exact rfl;(first|exact rfl|assumption);exact rfl;exact rfl;exact rfl;first|(exact Has.ag (g7 rfl rfl rfl rfl rfl rfl rfl) ch)))
      refine awp_no rfl rfl ?_
      repeat(first|refine run1p ?_|((with_reducible apply st_call);exact rfl;exact rfl;exact rfl;first|(exact Has.ag (g7 rfl rfl rfl rfl rfl rfl rfl) cc))|((with_reducible apply st_callg);exact rfl;exact rfl;(first|exact rfl|assumption);exact rfl;exact rfl;exact rfl;first|(exact Has.ag (g7 rfl rfl rfl rfl rfl rfl rfl) cc)))
      refine awp_no rfl q3 ?_
      repeat(first|refine run1p ?_|((with_reducible apply st_call);exact rfl;exact rfl;exact rfl;first|(exact c0)|(exact c1)|(exact c2)|(exact c3))|((with_reducible apply st_callg);exact rfl;exact rfl;(first|exact rfl|assumption);exact rfl;exact rfl;exact rfl;first|(exact c0)|(exact c1)|(exact c2)|(exact c3)))
      refine awp_yes rfl rfl ?_
      refine run0p ?_
      exact ⟨.inr rfl, _, Imp.refl _, .one (.tmp rfl)⟩
    | true =>
    rw [s0] at c0
    cases s1 : B.sm with
    | false =>
      rw [s1] at c1
      refine has_of Try.func23 (by kernel_rfl) rfl Try.ntmps23 Try.results23 rfl rfl rfl ?_
      repeat(first|refine run1p ?_|((with_reducible apply st_call);exact rfl;exact rfl;exact rfl;first|(exact Has.ag (g7 rfl rfl rfl rfl rfl rfl rfl) ch))|((with_reducible apply st_callg);exact rfl;exact rfl;(first|exact rfl|assumption);exact rfl;exact rfl;exact rfl;first|(exact Has.ag (g7 rfl rfl rfl rfl rfl rfl rfl) ch)))
      refine awp_no rfl rfl ?_
      repeat(first|refine run1p ?_|((with_reducible apply st_call);exact rfl;exact rfl;exact rfl;first|(exact Has.ag (g7 rfl rfl rfl rfl rfl rfl rfl) cc))|((with_reducible apply st_callg);exact rfl;exact rfl;(first|exact rfl|assumption);exact rfl;exact rfl;exact rfl;first|(exact Has.ag (g7 rfl rfl rfl rfl rfl rfl rfl) cc)))
      refine awp_no rfl q3 ?_
      repeat(first|refine run1p ?_|((with_reducible apply st_call);exact rfl;exact rfl;exact rfl;first|(exact c0)|(exact c1)|(exact c2)|(exact c3))|((with_reducible apply st_callg);exact rfl;exact rfl;(first|exact rfl|assumption);exact rfl;exact rfl;exact rfl;first|(exact c0)|(exact c1)|(exact c2)|(exact c3)))
      refine awp_yes rfl rfl ?_
      refine run0p ?_
      exact ⟨.inr rfl, _, Imp.refl _, .one (.tmp rfl)⟩
    | true =>
    rw [s1] at c1
    cases s2 : G.sm with
    | false =>
      rw [s2] at c2
      refine has_of Try.func23 (by kernel_rfl) rfl Try.ntmps23 Try.results23 rfl rfl rfl ?_
      repeat(first|refine run1p ?_|((with_reducible apply st_call);exact rfl;exact rfl;exact rfl;first|(exact Has.ag (g7 rfl rfl rfl rfl rfl rfl rfl) ch))|((with_reducible apply st_callg);exact rfl;exact rfl;(first|exact rfl|assumption);exact rfl;exact rfl;exact rfl;first|(exact Has.ag (g7 rfl rfl rfl rfl rfl rfl rfl) ch)))
      refine awp_no rfl rfl ?_
      repeat(first|refine run1p ?_|((with_reducible apply st_call);exact rfl;exact rfl;exact rfl;first|(exact Has.ag (g7 rfl rfl rfl rfl rfl rfl rfl) cc))|((with_reducible apply st_callg);exact rfl;exact rfl;(first|exact rfl|assumption);exact rfl;exact rfl;exact rfl;first|(exact Has.ag (g7 rfl rfl rfl rfl rfl rfl rfl) cc)))
      refine awp_no rfl q3 ?_
      repeat(first|refine run1p ?_|((with_reducible apply st_call);exact rfl;exact rfl;exact rfl;first|(exact c0)|(exact c1)|(exact c2)|(exact c3))|((with_reducible apply st_callg);exact rfl;exact rfl;(first|exact rfl|assumption);exact rfl;exact rfl;exact rfl;first|(exact c0)|(exact c1)|(exact c2)|(exact c3)))
      refine awp_yes rfl rfl ?_
      refine run0p ?_
      exact ⟨.inr rfl, _, Imp.refl _, .one (.tmp rfl)⟩
    | true =>
    rw [s2] at c2
    cases s3 : H.sm with
    | false =>
      rw [s3] at c3
      refine has_of Try.func23 (by kernel_rfl) rfl Try.ntmps23 Try.results23 rfl rfl rfl ?_
      repeat(first|refine run1p ?_|((with_reducible apply st_call);exact rfl;exact rfl;exact rfl;first|(exact Has.ag (g7 rfl rfl rfl rfl rfl rfl rfl) ch))|((with_reducible apply st_callg);exact rfl;exact rfl;(first|exact rfl|assumption);exact rfl;exact rfl;exact rfl;first|(exact Has.ag (g7 rfl rfl rfl rfl rfl rfl rfl) ch)))
      refine awp_no rfl rfl ?_
      repeat(first|refine run1p ?_|((with_reducible apply st_call);exact rfl;exact rfl;exact rfl;first|(exact Has.ag (g7 rfl rfl rfl rfl rfl rfl rfl) cc))|((with_reducible apply st_callg);exact rfl;exact rfl;(first|exact rfl|assumption);exact rfl;exact rfl;exact rfl;first|(exact Has.ag (g7 rfl rfl rfl rfl rfl rfl rfl) cc)))
      refine awp_no rfl q3 ?_
      repeat(first|refine run1p ?_|((with_reducible apply st_call);exact rfl;exact rfl;exact rfl;first|(exact c0)|(exact c1)|(exact c2)|(exact c3))|((with_reducible apply st_callg);exact rfl;exact rfl;(first|exact rfl|assumption);exact rfl;exact rfl;exact rfl;first|(exact c0)|(exact c1)|(exact c2)|(exact c3)))
      refine awp_yes rfl rfl ?_
      refine run0p ?_
      exact ⟨.inr rfl, _, Imp.refl _, .one (.tmp rfl)⟩
    | true =>
    rw [s3] at c3
    have spA := spA s0
    have spB := spB s1
    refine has_of Try.func23 (by kernel_rfl) rfl Try.ntmps23 Try.results23 rfl rfl rfl ?_
    repeat(first|refine run1p ?_|((with_reducible apply st_call);exact rfl;exact rfl;exact rfl;first|(exact Has.ag (g7 rfl rfl rfl rfl rfl rfl rfl) ch))|((with_reducible apply st_callg);exact rfl;exact rfl;(first|exact rfl|assumption);exact rfl;exact rfl;exact rfl;first|(exact Has.ag (g7 rfl rfl rfl rfl rfl rfl rfl) ch)))
    refine awp_no rfl rfl ?_
    repeat(first|refine run1p ?_|((with_reducible apply st_call);exact rfl;exact rfl;exact rfl;first|(exact Has.ag (g7 rfl rfl rfl rfl rfl rfl rfl) cc))|((with_reducible apply st_callg);exact rfl;exact rfl;(first|exact rfl|assumption);exact rfl;exact rfl;exact rfl;first|(exact Has.ag (g7 rfl rfl rfl rfl rfl rfl rfl) cc)))
    refine awp_no rfl q3 ?_
    repeat(first|refine run1p ?_|((with_reducible apply st_call);exact rfl;exact rfl;exact rfl;first|(exact c0)|(exact c1)|(exact c2)|(exact c3))|((with_reducible apply st_callg);exact rfl;exact rfl;(first|exact rfl|assumption);exact rfl;exact rfl;exact rfl;first|(exact c0)|(exact c1)|(exact c2)|(exact c3)))
    refine awp_no rfl rfl ?_
    refine run0p ?_
    refine awp_loop (fun m' s => ∃ i, i ≤ A.m ∧ m' = A.m - i ∧ (∀ j, j < i → B.has (A.s j) (A.f j) (A.g j) = false) ∧ s = stl [(1, .ptr 1 0 0), (4, .i a), (5, .i b), (7, .i (i : Int))] [(1, (1, fun _ => .ones 26 7 (GR.f ⟨k, n, r, A, B, G, H⟩)))]) A.m _ (imp_id ?_ ?_) ⟨0, Nat.zero_le _, rfl, fun i hi => absurd hi (Nat.not_lt_zero _), rfl⟩ ?_
    · exact eA
    · exact allh rfl (by decide) (bleo rfl fun _ _ => Le.id rfl) (fun i _ => GR.fok _ _ i) True.intro
    rintro m' s ⟨i, hi, rfl, hprev, rfl⟩
    refine run0p ?_
    refine awp_if rfl (fun h1 => ?_) (fun h1 => ?_)
    · have h1 : i < A.m := by omega
      obtain ⟨p, p1, p2⟩ := spA i h1
      refine run0p ?_
      refine awp_loop (fun m' s => ∃ j, j ≤ B.m ∧ m' = B.m - j ∧ (∀ t, t < j → eqB (A.s i) (A.f i) (A.g i) (B.s t) (B.f t) (B.g t) = false) ∧ s = stl [(1, .ptr 1 0 0), (4, .i a), (5, .i b), (7, .i (i : Int)), (8, .i (j : Int))] [(1, (1, fun _ => .ones 26 7 (GR.f ⟨k, n, r, A, B, G, H⟩)))]) B.m _ (imp_id ?_ ?_) ⟨0, Nat.zero_le _, rfl, fun i hi => absurd hi (Nat.not_lt_zero _), rfl⟩ ?_
      · exact eA
      · exact allh rfl (by decide) (bleo rfl fun _ _ => Le.id rfl) (fun i _ => GR.fok _ _ i) True.intro
      rintro m' s ⟨j, hj, rfl, hprev2, rfl⟩
      refine run0p ?_
      refine awp_if rfl (fun h2 => ?_) (fun h2 => ?_)
      · have h2 : j < B.m := by omega
        obtain ⟨q, q1, q2⟩ := spB j h2
        have cs := pr_same p2 q2
        rw [← isp_eq p2 q2, p1, q1] at cs
        have f1 : ((i : Nat) : Int) < A.m := by omega
        have f2 : ((j : Nat) : Int) < B.m := by omega
        repeat(first|refine run1p ?_|((with_reducible apply st_call);exact rfl;exact rfl;exact rfl;first|(exact Has.p2 rfl rfl rfl rfl rfl rfl cs))|((with_reducible apply st_callg);exact rfl;exact rfl;(first|exact rfl|assumption);exact rfl;exact rfl;exact rfl;first|(exact Has.p2 rfl rfl rfl rfl rfl rfl cs)))
        cases hb : eqB (A.s i) (A.f i) (A.g i) (B.s j) (B.f j) (B.g j) with
        | true =>
          refine awp_yes rfl rfl ?_
          refine run0p ?_
          refine ⟨.inr rfl, _, Imp.refl _, ?_⟩
          rw [hme, decide_eq_false (fun h3 : ∀ i, i < A.m → B.has (A.s i) (A.f i) (A.g i) = false => by
            have h4 := h3 i h1
            unfold PR.has at h4
            rw [Bool.not_eq_false', decide_eq_true_iff] at h4
            rw [h4 j h2] at hb; cases hb)]
          exact .one (.tmp rfl)
        | false =>
          refine awp_no rfl rfl ?_
          refine run0p ?_
          refine q_loop ?_ (imp_id ?_ ?_) ⟨j + 1, ?_, rfl, fun t ht => ?_, rfl⟩
          · omega
          · exact eA
          · exact allh rfl (by decide) (bleo rfl fun _ _ => Le.id rfl) (fun i _ => GR.fok _ _ i) True.intro
          · omega
          · rcases Nat.lt_or_ge t j with h | h
            · exact hprev2 t h
            · rw [show t = j by omega]; exact hb
      · refine run0p ?_
        refine q_loop ?_ (imp_id ?_ ?_) ⟨i + 1, ?_, rfl, fun t ht => ?_, rfl⟩
        · omega
        · exact eA
        · exact allh rfl (by decide) (bleo rfl fun _ _ => Le.id rfl) (fun i _ => GR.fok _ _ i) True.intro
        · omega
        · rcases Nat.lt_or_ge t i with h | h
          · exact hprev t h
          · rw [show t = i by omega]
            unfold PR.has
            rw [decide_eq_true fun x hx => hprev2 x (by omega)]; rfl
    · refine run0p ?_
      refine ⟨.inr rfl, _, Imp.refl _, ?_⟩
      rw [hme, decide_eq_true fun i hi => hprev i (by omega)]
      exact .one (.tmp rfl)
  · have hz1 : decide (headV k n r ≠ 0) = true := decide_eq_true hz
    have e : chk ⟨k, n, r, A, B, G, H⟩ = headV k n r := by
      unfold headV at hz ⊢
      unfold chk
      cases hk : kindB k with
      | true => rfl
      | false => cases hs : sizedB k n r with
        | true => rw [hk, hs] at hz; exact absurd rfl hz
        | false => rfl
    rw [e]
    refine has_of Try.func23 (by kernel_rfl) rfl Try.ntmps23 Try.results23 rfl rfl rfl ?_
    repeat(first|refine run1p ?_|((with_reducible apply st_call);exact rfl;exact rfl;exact rfl;first|(exact Has.ag (g7 rfl rfl rfl rfl rfl rfl rfl) ch))|((with_reducible apply st_callg);exact rfl;exact rfl;(first|exact rfl|assumption);exact rfl;exact rfl;exact rfl;first|(exact Has.ag (g7 rfl rfl rfl rfl rfl rfl rfl) ch)))
    refine awp_yes rfl hz1 ?_
    refine run0p ?_
    exact ⟨.inr rfl, _, Imp.refl _, .one (.tmp rfl)⟩
end Go.Proofs.Ytpclkgjhfhhddaa.AM
/- Own limbs: made, laid behind, handed out. -/
namespace Go.Proofs.Ytpclkgjhfhhddaa.AM
open Go Go.RowKit Go.Proofs.Ytpclkgjhfhhddaa.PN Go.Proofs.Ytpclkgjhfhhddaa.V
set_option linter.unusedVariables false
set_option linter.unusedSimpArgs false
/-- It holds no limbs, and speaks not of family g. -/
def freeG (g : Nat) : AV → Bool
  | .v _ | .seq _ _ => true
  | .own q _ | .ptr q _ _ => !(Nat.beq q g)
  | _ => false
theorem freeG_rv {S S' : Nat → Prop} {B : Nat} {β β' : Nat → Nat → Value} {w w' : World} {O : Nat → Prop} {g : Nat} (hblk : ∀ i, i < w.heap.size → ¬ O i → w'.heap[i]? = w.heap[i]?) (hS : ∀ b, S b → b < w.heap.size → ¬ O b ∧ S' b) (hβ : ∀ q r, q ≠ g → β' q r = β q r) {x : AV} {v : Value} (hf : freeG g x = true) (h : RV S B β w x v) : RV S' B β' w' x v := by
  cases x <;> first | (cases hf; done) | skip
  case v y => exact h
  case seq k l =>
    obtain ⟨A, c, e1, e2, e3, e4⟩ := h
    refine ⟨A, c, e1, e2, e3, fun i hi => ?_⟩
    obtain ⟨p, a1, a2, a3⟩ := e4 i hi
    have hb : (p.add i).block = p.block := by unfold Addr.add; split <;> rfl
    have hlt := World.block_lt_of_cell? _ _ a3
    rw [hb] at hlt
    obtain ⟨q1, q2⟩ := hS _ a2 hlt
    exact ⟨p, a1, q2, (World.cell?_of_block (by rw [hb]; exact hblk _ hlt q1)).trans a3⟩
  case own q r =>
    have hne : q ≠ g := fun e => by simp [freeG, e] at hf
    exact ⟨by rw [hβ q r hne]; exact h.1, h.2⟩
  case ptr q r i =>
    have hne : q ≠ g := fun e => by simp [freeG, e] at hf
    obtain ⟨b, e1, e2⟩ := h
    exact ⟨b, by rw [hβ q r hne]; exact e1, e2⟩
/-- The rest of memory holds no limbs. -/
def FreeH (g : Nat) : List (Nat × Fam) → Prop
  | [] => True
  | (q, (n, F)) :: l => (q ≠ g ∧ ∀ r, r < n → ∃ T m f, F r = .ones T m f ∧ ∀ i, i < m → freeG g (f i) = true) ∧ FreeH g l
theorem FreeH.get {g : Nat} : ∀ {h : List (Nat × Fam)}, FreeH g h → ∀ {q n : Nat} {F : Nat → Blk}, lkp h q = some (n, F) → q ≠ g ∧ ∀ r, r < n → ∃ T m f, F r = .ones T m f ∧ ∀ i, i < m → freeG g (f i) = true
  | [], _, q, n, F, h => by cases h
  | (k, (m, G)) :: l, hf, q, n, F, h => by
    unfold lkp at h
    cases e : Nat.beq q k with
    | true =>
      rw [e, cond_true] at h
      cases h
      have := Nat.eq_of_beq_eq_true e
      subst this
      exact hf.1
    | false => rw [e, cond_false] at h; exact hf.2.get h
/-- What is kept of a state. -/
def SubE (g : Nat) (e0 : List (Nat × AV)) : List (Nat × AV) → Prop
  | [] => True
  | (t, x) :: l => (lkp e0 t = some x ∧ freeG g x = true) ∧ SubE g e0 l
theorem SubE.get {g : Nat} {e0 : List (Nat × AV)} : ∀ {e : List (Nat × AV)}, SubE g e0 e → ∀ {t : Nat} {x : AV}, lkp e t = some x → lkp e0 t = some x ∧ freeG g x = true
  | [], _, t, x, h => by cases h
  | (k, y) :: l, hf, t, x, h => by
    unfold lkp at h
    cases e : Nat.beq t k with
    | true =>
      rw [e, cond_true] at h
      cases h
      rw [Nat.eq_of_beq_eq_true e]
      exact hf.1
    | false => rw [e, cond_false] at h; exact hf.2.get h
theorem lkp_if {α : Type} {k : Nat} {x : α} {l : List (Nat × α)} {t : Nat} : lkp ((k, x) :: l) t = if t = k then some x else lkp l t := by
  show (bif Nat.beq t k then some x else lkp l t) = _
  by_cases h : t = k
  · subst h; rw [Nat.beq_refl, if_pos rfl]; rfl
  · have : Nat.beq t k = false := by cases e : Nat.beq t k with | false => rfl | true => exact absurd (Nat.eq_of_beq_eq_true e) h
    rw [this, if_neg h]
    rfl
/-- Own limbs have turned; nothing else that is told has. -/
theorem Sim.lims {W : Wd} {N : Nat} {β : Nat → Nat → Value} {w w' : World} {a : Act} {e0 e : List (Nat × AV)} {h : List (Nat × Fam)} {g n m : Nat} {f f' : Nat → Nat} {v' : Value} (hs : Sim W N β w a (stl e0 ((g, (1, fun _ => .lims n f)) :: h))) (he : SubE g e0 e) (hh : FreeH g h) (hgx : fx3 g = false)
    (hk : Kept W.w w') (hsz : w.heap.size ≤ w'.heap.size) (hblk : ∀ i, i < w.heap.size → ¬ ub (β g 0) = some i → w'.heap[i]? = w.heap[i]?) (hv : ∀ k, ub v' = some k → ub (β g 0) = some k ∨ w.heap.size ≤ k) (hb : ∀ (S : Nat → Prop) (β : Nat → Nat → Value), RB S W.w.heap.size β w' v' (.lims m f')) (a' : Act) (ha : a'.defers = []) (hN : a'.tmps.size = N)
    (hae : ∀ t x, lkp e t = some x → a'.tmps.getD t undef = a.tmps.getD t undef) :
    Sim W N (setv β g v') w' a' (stl e ((g, (1, fun _ => .lims m f')) :: h)) := by
  have hgh : (stl e0 ((g, (1, fun _ => .lims n f)) :: h)).heap g = some (1, fun _ => .lims n f) := by show lkp _ _ = _; rw [lkp_if, if_pos rfl]
  have hu : ∀ (e : List (Nat × AV)) (x : Nat × Fam), x.1 = g → ∀ q, (stl e (x :: h)).used q = memN q (g :: keys h) := fun e x hx q => by obtain ⟨k, y⟩ := x; cases hx; rfl
  have hq : ∀ (e : List (Nat × AV)) (x : Fam) (q : Nat), q ≠ g → (stl e ((g, x) :: h)).heap q = lkp h q := fun e x q hne => by show lkp _ _ = _; rw [lkp_if, if_neg hne]
  have hβ : ∀ q r, q ≠ g → setv β g v' q r = β q r := fun q r hne => by unfold setv; rw [if_neg hne]
  have hβg : ∀ r, setv β g v' g r = v' := fun r => by unfold setv; rw [if_pos rfl]
  -- own blocks, then and now
  have hown : ∀ i, Own (stl e ((g, (1, fun _ => .lims m f')) :: h)) (setv β g v') i → Own (stl e0 ((g, (1, fun _ => .lims n f)) :: h)) β i ∨ w.heap.size ≤ i := by
    rintro i ⟨q, n1, F1, r1, h1, h2, h3⟩
    by_cases c : q = g
    · subst c
      rw [hβg] at h3
      rcases hv i h3 with h4 | h4
      · exact .inl ⟨q, 1, _, 0, hgh, Nat.zero_lt_one, h4⟩
      · exact .inr h4
    · rw [hq _ _ _ c] at h1
      rw [hβ q r1 c] at h3
      exact .inl ⟨q, n1, F1, r1, by rw [hq _ _ _ c]; exact h1, h2, h3⟩
  have hS : ∀ b, notOwn W (stl e0 ((g, (1, fun _ => .lims n f)) :: h)) β b → b < w.heap.size → ¬ ub (β g 0) = some b ∧ notOwn W (stl e ((g, (1, fun _ => .lims m f')) :: h)) (setv β g v') b := by
    intro b hb hlt
    refine ⟨fun c => hb.2 ⟨g, 1, _, 0, hgh, Nat.zero_lt_one, c⟩, hb.1, fun ho => ?_⟩
    rcases hown b ho with h1 | h1
    · exact hb.2 h1
    · omega
  refine ⟨hk, ha, hN, fun t x hx => ?_, fun q n1 F1 r h1 h2 => ?_, fun q n1 F1 h1 => lkp_key h1, fun q n1 F1 r q' n2 F2 r' i h1 h2 h3 h4 h5 h6 => ?_, ?_, fun k ho hP => ?_, fun u hu' q hqx => ?_, fun u hu' q hqx => ?_⟩
  · obtain ⟨h1, h2⟩ := he.get (show lkp e t = some x from hx)
    obtain ⟨k1, k2⟩ := hs.env t x h1
    exact ⟨k1, by rw [hae t x hx]; exact freeG_rv hblk hS hβ h2 k2⟩
  · by_cases c : q = g
    · subst c
      have h1 : lkp ((q, ((1, fun _ => Blk.lims m f') : Fam)) :: h) q = some (n1, F1) := h1
      rw [lkp_if, if_pos rfl] at h1
      cases h1
      refine ⟨?_, by rw [hβg]; exact hb _ _⟩
      exact (hs.heap q 1 _ 0 hgh Nat.zero_lt_one).1
    · rw [hq _ _ _ c] at h1
      have h1' : (stl e0 ((g, (1, fun _ => .lims n f)) :: h)).heap q = some (n1, F1) := by rw [hq _ _ _ c]; exact h1
      obtain ⟨k1, k2⟩ := hs.heap q n1 F1 r h1' h2
      obtain ⟨_, hfr⟩ := hh.get h1
      obtain ⟨T, mm, ff, e1, e2⟩ := hfr r h2
      refine ⟨k1, ?_⟩
      rw [hβ q r c]
      rw [e1] at k2 ⊢
      obtain ⟨hT, k2⟩ := k2
      refine ⟨hT, ?_⟩
      rcases k2 with k2 | ⟨k, cs, q1, q2, q3, q4⟩
      · exact .inl k2
      · have hne : ¬ ub (β g 0) = some k := fun c2 => c (hs.inj q n1 F1 r g 1 _ 0 k h1' h2 hgh Nat.zero_lt_one (ub_at q3) c2).1
        exact .inr ⟨k, cs, q1, (hblk k q2.lt hne).trans q2, q3, fun i hi => by obtain ⟨y, a0, a1, a2⟩ := q4 i hi; exact ⟨y, a0, a1, freeG_rv hblk hS hβ (e2 i hi) a2⟩⟩
  · by_cases c : q = g <;> by_cases c' : q' = g
    · refine ⟨c.trans c'.symm, ?_⟩
      subst c
      have e1 : lkp ((q, ((1, fun _ => Blk.lims m f') : Fam)) :: h) q = some (n1, F1) := h1
      rw [lkp_if, if_pos rfl] at e1; cases e1
      subst c'
      have e2 : lkp ((q', ((1, fun _ => Blk.lims m f') : Fam)) :: h) q' = some (n2, F2) := h3
      rw [lkp_if, if_pos rfl] at e2; cases e2
      omega
    · exfalso
      subst c
      rw [hβg] at h5
      rw [hq _ _ _ c'] at h3
      rw [hβ q' r' c'] at h6
      have h3' : (stl e0 ((q, (1, fun _ => .lims n f)) :: h)).heap q' = some (n2, F2) := by rw [hq _ _ _ c']; exact h3
      rcases hv i h5 with h7 | h7
      · exact c' (hs.inj q' n2 F2 r' q 1 _ 0 i h3' h4 hgh Nat.zero_lt_one h6 h7).1
      · have := (own_lt hs ⟨q', n2, F2, r', h3', h4, h6⟩).2; omega
    · exfalso
      subst c'
      rw [hβg] at h6
      rw [hq _ _ _ c] at h1
      rw [hβ q r c] at h5
      have h1' : (stl e0 ((q', (1, fun _ => .lims n f)) :: h)).heap q = some (n1, F1) := by rw [hq _ _ _ c]; exact h1
      rcases hv i h6 with h7 | h7
      · exact c (hs.inj q n1 F1 r q' 1 _ 0 i h1' h2 hgh Nat.zero_lt_one h5 h7).1
      · have := (own_lt hs ⟨q, n1, F1, r, h1', h2, h5⟩).2; omega
    · rw [hq _ _ _ c] at h1; rw [hq _ _ _ c'] at h3
      rw [hβ q r c] at h5; rw [hβ q' r' c'] at h6
      exact hs.inj q n1 F1 r q' n2 F2 r' i (by rw [hq _ _ _ c]; exact h1) h2 (by rw [hq _ _ _ c']; exact h3) h4 h5 h6
  · refine ⟨Nat.le_trans hs.fix.size hsz, fun k hk hP => ?_⟩
    refine (hblk k (Nat.lt_of_lt_of_le hk hs.fix.size) fun c => ?_).trans (hs.fix.block k hk hP)
    exact hs.pin k ⟨g, 1, _, 0, hgh, Nat.zero_lt_one, c⟩ hP
  · rcases hown k ho with h1 | h1
    · exact hs.pin k h1 hP
    · have := W.lt k hP
      have := hs.fix.size
      omega
  · have hne : q ≠ g := fun c => by rw [c, hgx] at hqx; cases hqx
    rw [← hs.fixd u hu' q hqx]
    funext r
    exact hβ q r hne
  · have := hs.keep u hu' q hqx
    rw [hu _ _ rfl] at this
    rw [hu _ _ rfl]; exact this
/-- A limb is laid behind own ones. -/
theorem xok_append {o : Oper} {x y : Operand} {d g n : Nat} {f : Nat → Nat} {z : Nat} {e0 e : List (Nat × AV)} {h : List (Nat × Fam)} (ho : o.op = .call { callee := .builtin .append, args := #[x, y], argTypes := #[41, 41] }) (hd : o.dst = some d)
    (hx : avo (stl e0 ((g, (1, fun _ => .lims n f)) :: h)) x = some (.own g 0)) (hy : avo (stl e0 ((g, (1, fun _ => .lims n f)) :: h)) y = some (.lb [z])) (he : SubE g e0 e) (hde : memN d (keys e) = false) (hh : FreeH g h) (hgx : fx3 g = false) (hn : n ≤ 1000000) :
    XOK Try.prog o (stl e0 ((g, (1, fun _ => .lims n f)) :: h)) (stl ((d, .own g 0) :: e) ((g, (1, fun _ => .lims (n + 1) (glue n f fun _ => z))) :: h)) := by
  intro W N β w a hs hN K Q hK
  obtain ⟨i0, hi0, hz0, hz1, hz2⟩ := info_parts info_u32
  have hgh : (stl e0 ((g, (1, fun _ => .lims n f)) :: h)).heap g = some (1, fun _ => .lims n f) := by show lkp _ _ = _; rw [lkp_if, if_pos rfl]
  obtain ⟨_, e1, A0, n0, c0, e2⟩ := hs.opd hx
  obtain ⟨_, A, c, ey, hc, hcell⟩ := hs.opd hy
  obtain ⟨hok, hb⟩ := hs.heap g 1 _ 0 hgh Nat.zero_lt_one
  have hb : RB _ _ _ w (β g 0) (.lims n f) := hb
  have hown : ∃ xs, w.ownsRow W.w.heap.size U32 1 (β g 0) n xs ∧ ∀ i, i < n → xs[i]? = some (.int .u32 (f i : Nat)) := by
    rcases hb with ⟨e3, rfl⟩ | ⟨k, cs, hB, hrow, hat, hx⟩
    · exact ⟨[], by rw [e3]; exact World.ownsRow_nil _ _ _ _, fun i hi => absurd hi (Nat.not_lt_zero _)⟩
    · have hsz := at_size hat
      rcases hat with ⟨e3, _⟩ | ⟨cap, e3, h1, h2, h3⟩
      · rw [← e1, e2] at e3; cases e3
      · refine ⟨cs.toList.take (n * 1), ?_, fun i hi => ?_⟩
        · rw [e3]
          exact ⟨by simp; omega, .inr ⟨k, cap, cs, rfl, hB, hrow, h1, h2, h3, rfl⟩⟩
        · rw [List.getElem?_take_of_lt (by omega), Array.getElem?_toList]; exact hx i hi
  obtain ⟨xs, hown, hxs⟩ := hown
  have hxl : xs.length = n := by have := hown.1; omega
  obtain ⟨b1, off1, cs1, hA1, hr1, hc1⟩ := hcell 0 (by simp)
  have hc1 : cs1[off1 + 0]? = some (.int .u32 (z : Int)) := hc1
  obtain ⟨v', w', hrun, hown', hgrow, hwhere⟩ := append_core (P := Try.prog) w W.w.heap.size 41 o.type U32 i0 _ 1 4 Try.underlying41 hi0 hz0 hz1 hz2 (by rfl) (by decide) (β g 0) n xs hown A 1 c [.int .u32 (z : Int)] rfl (fun e => by rw [hA1] at e; cases e) (fun p hp j u hu => by
    rw [hA1] at hp; cases hp
    cases j with
    | zero =>
      cases hu
      rw [add_at, cell_of_row w b1 _ cs1 U32 (0, 0) hr1]; exact hc1
    | succ j => cases hu) (fun u hu => by simp at hu; rw [hu]; rfl) (by unfold maxLen; omega) (by omega) hs.kept.size
  have hubg : ub (β g 0) = (β g 0).ownBlock := by rw [← e1, e2]; exact ub_slice
  have hv' : ∃ A' n' c', v' = .slice A' n' c' := by
    rcases hown'.2 with ⟨e, _⟩ | ⟨_, _, _, e, _⟩ <;> exact ⟨_, _, _, e⟩
  obtain ⟨A', n', c', ev'⟩ := hv'
  have hub' : ub v' = v'.ownBlock := by rw [ev']; exact ub_slice
  have hop : (execOp a.eval o).run Try.prog w = .ok (.value v') w' := by
    unfold execOp; rw [ho]; simp only [resolve, List.map_toArray, List.map_cons, List.map_nil]; rw [e1, ey]
    simp only [Sem.run_bind, Sem.run_pure, Result.andThen_ok, invoke, builtin]
    rw [show ([z] : List Nat).length = 1 from rfl, hrun]
    rfl
  unfold Oper.wp
  rw [hop]
  have hlt := hN d hd
  have hput : a.put o.dst v' = { a with tmps := a.tmps.setIfInBounds d v' } := by rw [hd]; rfl
  have hsize : (a.put o.dst v').tmps.size = N := by rw [hput]; simp [hs.size]
  have hsim := hs.lims (w' := w') (m := n + 1) (f' := glue n f fun _ => z) (v' := v') (e := e) he hh hgx (Below.grown hs.kept hgrow hs.kept.size (fun k hk => (hown.lt k hk).1)) hgrow.size (fun i hi hne => hgrow.block i hi (fun c2 => hne (by rw [hubg]; exact c2.symm))) (fun k hk => by
      rw [hub'] at hk
      rcases hwhere with h1 | h1
      · left; rw [hubg, ← h1]; exact hk
      · rw [h1] at hk; cases hk; exact .inr (Nat.le_refl _)) (fun S β2 => by
      rcases hown'.2 with ⟨e3, h0⟩ | ⟨k, cap, cur, e3, hB, hrow, h1, h2, h3, h4⟩
      · exact .inl ⟨e3, h0⟩
      · refine .inr ⟨k, cur, hB, hrow, .inr ⟨cap, e3, h1, h2, by omega⟩, fun i hi => ?_⟩
        have hget : cur[i]? = (xs ++ [Value.int .u32 (z : Int)])[i]? := by rw [← h4, List.getElem?_take_of_lt (by omega), Array.getElem?_toList]
        rw [hget]
        unfold glue
        by_cases c2 : i < n
        · rw [if_pos c2, List.getElem?_append_left (by omega)]; exact hxs i c2
        · rw [if_neg c2, List.getElem?_append_right (by omega), show i - xs.length = 0 by omega]; rfl) (a.put o.dst v') (by rw [hput]; exact hs.nodef) hsize (fun t x hx => by
      have hne : t ≠ d := fun c2 => by
        have := lkp_key hx
        rw [c2, hde] at this; cases this
      rw [hput]
      exact getD_set_ne' (Ne.symm hne))
  refine hK (setv β g v') _ w' ?_
  have hnot : notOwn W (stl ((d, .own g 0) :: e) ((g, (1, fun _ => .lims (n + 1) (glue n f fun _ => z))) :: h)) (setv β g v') = notOwn W (stl e ((g, (1, fun _ => .lims (n + 1) (glue n f fun _ => z))) :: h)) (setv β g v') := rfl
  refine ⟨hsim.kept, hsim.nodef, hsim.size, fun t x hx => ?_, hsim.heap, hsim.live, hsim.inj, hsim.fix, hsim.pin, hsim.fixd, hsim.keep⟩
  have hx : lkp ((d, AV.own g 0) :: e) t = some x := hx
  rw [lkp_if] at hx
  by_cases c2 : t = d
  · subst c2
    rw [if_pos rfl] at hx
    cases hx
    refine ⟨by show memN g (g :: keys h) = true; unfold memN; rw [Nat.beq_refl]; rfl, ?_, A', n', c', ?_⟩
    · show (a.put o.dst v').tmps.getD t undef = setv β g v' g 0
      rw [hput, getD_set_same' (by rw [hs.size]; exact hlt)]
      unfold setv; rw [if_pos rfl]
    · show (a.put o.dst v').tmps.getD t undef = _
      rw [hput, getD_set_same' (by rw [hs.size]; exact hlt), ev']
  · rw [if_neg c2] at hx
    exact hsim.env t x hx
/-- An assignment in its own state. -/
theorem xok_lok {P : Program} {o : Oper} {s : St} {D : Dsc} (h : LOK P o s D) (hu : ∀ g, (∃ b, (g, b) ∈ D.upd) → g ∉ D.rd → s.used g = false) : XOK P o s (s.app o.dst D) := by
  intro W N β w a hs hN K Q hK
  exact h.2 s (fun _ _ => rfl) (fun _ _ => rfl) (fun _ _ h => h) hu W N β w a hs hN K Q hK
theorem xok_imp {P : Program} {o : Oper} {s s1 s2 : St} (hi : Imp s s1) (h : XOK P o s1 s2) : XOK P o s s2 := by
  intro W N β w a hs hN K Q hK
  obtain ⟨β', hs'⟩ := hi W N β w a hs
  exact h W N β' w a hs' hN K Q hK
/-- Limbs are made. -/
theorem xok_make {o : Oper} {s : St} {x y : Operand} {d g : Nat} {k k' : IntKind} {l c : Int} (ho : o.op = .makeSlice 41 x y) (hd : o.dst = some d) (hx : avo s x = some (.v (.int k l))) (hy : avo s y = some (.v (.int k' c))) (hg : s.used g = false) (h77 : s.used 77 = true) (h0 : 0 ≤ l) (hlc : l ≤ c) (hc : c ≤ 1000000000) :
    XOK Try.prog o s ⟨put s.env d (some (.own g 0)), put s.heap g (some (1, fun _ => .lims l.toNat (fun _ => 0))), mark s.used g⟩ := by
  intro W N β w a hs hN K Q hK
  have h1 : a.eval x = .int k l := hs.opv hx
  have h2 : a.eval y = .int k' c := hs.opv hy
  obtain ⟨i0, hi, hz0, hz1, hz2⟩ := info_parts info_u32
  have hrun := run_make (P := Try.prog) w 41 U32 i0 _ Try.underlying41 hi hz0 k k' l c h0 hlc (by rw [hz2]; omega) (by omega)
  rw [hz1] at hrun
  generalize hcs : madeCells _ (c.toNat * 1) = cs at hrun
  have hcsz : cs.size = c.toNat * 1 := by rw [← hcs]; exact size_madeCells _ _
  have hget : ∀ i, i < l.toNat → cs[i]? = some (.int .u32 ((0 : Nat) : Int)) := fun i hi' => by
    rw [← hcs, made_get (by omega) (by simp [Value.cells])]
    simp [Nat.mod_one, Value.cells]
  have hop : (execOp a.eval o).run Try.prog w = .ok (.value (.slice (some ⟨w.heap.size, 0, none⟩) l.toNat c.toNat)) (w.alloc (.cells cs U32)) := by
    unfold execOp; rw [ho]; simp only []; rw [h1, h2]; simp only [Sem.run_bind, hrun]; rfl
  have hk := Kept.alloc w (.cells cs U32)
  have hs' := hs.newfam hg none (fun o ho => by cases ho) (.slice (some ⟨w.heap.size, 0, none⟩) l.toNat c.toNat) (.lims l.toNat fun _ => 0) (O := fun _ => False) (hs.kept.then hk) (Ext.of_kept hk _) (fun i h => h.elim) (fun i hi => .inl (by cases hi; exact Nat.le_refl _)) (fun S' β' _ => ⟨h77, .inr ⟨w.heap.size, cs, hs.kept.size, row_new w cs U32, .inr ⟨c.toNat, rfl, by omega, by unfold maxLen; omega, hcsz⟩, hget⟩⟩)
  unfold Oper.wp
  rw [hop]
  have hs2 := hs'.putv (d := some d) (v := .slice (some ⟨w.heap.size, 0, none⟩) l.toNat c.toNat) (r := some (.own g 0)) (fun t ht => by cases ht; exact hN d hd) (fun z hz _ => by
    cases hz
    exact ⟨mark_same _ _, (show setv β g (.slice (some ⟨w.heap.size, 0, none⟩) l.toNat c.toNat) g 0 = _ from if_pos rfl).symm, _, _, _, rfl⟩)
  refine hK (setv β g (.slice (some ⟨w.heap.size, 0, none⟩) l.toNat c.toNat)) _ _ ?_
  rw [hd]
  exact hs2
/-- Family 77 tells that limbs may be own. -/
theorem imp_mark (s : St) (k : Nat) : Imp s ⟨s.env, s.heap, mark s.used k⟩ := by
  intro W N β w a hs
  refine ⟨β, hs.kept, hs.nodef, hs.size, fun t x hx => ⟨AV.ok_mono (fun g h => mark_mono _ _ _ h) (hs.env t x hx).1, (hs.env t x hx).2⟩, fun g n F r h1 h2 => ⟨Blk.ok_mono (fun g h => mark_mono _ _ _ h) (hs.heap g n F r h1 h2).1, (hs.heap g n F r h1 h2).2⟩, fun g n F h => mark_mono _ _ _ (hs.live g n F h), hs.inj, hs.fix, hs.pin, hs.fixd, fun u hu g hg => mark_mono _ _ _ (hs.keep u hu g hg)⟩
/-- Own limbs are handed out. -/
theorem imp_lims {s : St} (t : Nat) {g n : Nat} {F : Nat → Blk} {f : Nat → Nat} (l : List Nat) (hx : s.env t = some (.own g 0)) (hg : s.heap g = some (1, F)) (hF : F 0 = .lims n f) (hl : l.length = n) (hf : ∀ i, i < n → f i = l.getD i 0) : Imp s ⟨put s.env t (some (.lb l)), put s.heap g none, s.used⟩ :=
  imp_turn1 hx hg trivial fun W N β w a hs v hv hok hb S' h1 h2 => by
    rw [hF] at hb
    subst hl
    obtain ⟨e0, A, n', c, e⟩ := hv
    rcases hb with ⟨e', hn⟩ | ⟨kb, cs, hB, hr, hat, hx⟩
    · exact ⟨none, 0, by rw [hn]; exact e0.trans e', by omega, fun i hi => by omega⟩
    · rcases hat with ⟨e', _⟩ | ⟨cap, e', h3, h4, _⟩
      · rw [← e0, e] at e'; cases e'
      · exact ⟨_, cap, e0.trans e', h3, fun i hi => ⟨kb, 0, cs, rfl, hr, by rw [Nat.zero_add, hx i hi, hf i hi]⟩⟩
end Go.Proofs.Ytpclkgjhfhhddaa.AM

/- Joined texts, 23: RwE MkD LawVa GrG GcF Wthn OpR. -/
import Derived.Test.YtpclkgjhfhhddaaJLawGenChecks21
import Derived.Test.YtpclkgjhfhhddaaJLawGenChecks19
import Derived.Test.YtpclkgjhfhhddaaJLawGenChecks18
import Derived.ChangeSlices
import Derived.ChangeArms
import Derived.Deep.Strs
set_option linter.unusedVariables false
set_option linter.unusedSimpArgs false
/- The document's check of whatever comes in (printed by gen/gen_rwe.py). -/
namespace Go.Proofs.Ytpclkgjhfhhddaa.AM
open Go Go.RowKit Go.Proofs.Ytpclkgjhfhhddaa.PN Go.Proofs.Ytpclkgjhfhhddaa.V
set_option linter.unusedVariables false
set_option linter.unusedSimpArgs false
set_option maxRecDepth 8000
set_option maxHeartbeats 8000000
theorem r5_countsr {k n r : Nat} {A B G H : PR} (h1 : 1 ≤ k) (h7 : k ≤ 7) (n1 : 1 ≤ n) (n8 : n ≤ 8) (r3 : r ≤ 3) : Has Try.prog 31 [GR.v ⟨k, n, r, A, B, G, H⟩] (.tup3 (.i (cnA k n)) (.i (cnB k n)) (.i (cnH k n r))) := by
  have hk : k = 1 ∨ k = 2 ∨ k = 3 ∨ k = 4 ∨ k = 5 ∨ k = 6 ∨ k = 7 := by omega
  have em : (n : Int) * (r : Int) = ((n * r : Nat) : Int) := (Int.natCast_mul n r).symm
  have hnr : n * r ≤ 8 * 3 := Nat.mul_le_mul n8 r3
  have q1 : -9223372036854775808 ≤ (n : Int) * (r : Int) := by rw [em]; omega
  have q2 : (n : Int) * (r : Int) ≤ 9223372036854775807 := by rw [em]; omega
  refine has_of Try.func31 (by kernel_rfl) rfl Try.ntmps31 Try.results31 rfl rfl rfl ?_
  refine run0 ?_
  rcases hk with rfl | rfl | rfl | rfl | rfl | rfl | rfl
  · skip
    refine awp_yes rfl rfl ?_
    refine run0 ?_
    refine awp_yes rfl rfl ?_
    refine run0 ?_
    rw [show (2 : Int) * n - 1 = ((cnA 1 n : Nat) : Int) from by show (2 : Int) * n - 1 = ((2 * n - 1 : Nat) : Int); omega]
    exact ⟨.inr rfl, _, Imp.refl _, .three (.tmp rfl) (.tmp rfl) (.tmp rfl)⟩
  · skip
    refine awp_no rfl rfl ?_
    refine run0 ?_
    refine awp_yes rfl rfl ?_
    refine run0 ?_
    rw [show (2 : Int) * n - 1 = ((cnA 2 n : Nat) : Int) from by show (2 : Int) * n - 1 = ((2 * n - 1 : Nat) : Int); omega]
    exact ⟨.inr rfl, _, Imp.refl _, .three (.tmp rfl) (.tmp rfl) (.tmp rfl)⟩
  · skip
    refine awp_no rfl rfl ?_
    refine run0 ?_
    refine awp_no rfl rfl ?_
    refine run0 ?_
    refine awp_yes rfl rfl ?_
    refine run0 ?_
    refine awp_yes rfl rfl ?_
    refine run0 ?_
    exact ⟨.inr rfl, _, Imp.refl _, .three (.tmp rfl) (.tmp rfl) (.tmp rfl)⟩
  · skip
    refine awp_no rfl rfl ?_
    refine run0 ?_
    refine awp_no rfl rfl ?_
    refine run0 ?_
    refine awp_no rfl rfl ?_
    refine run0 ?_
    refine awp_yes rfl rfl ?_
    refine run0 ?_
    exact ⟨.inr rfl, _, Imp.refl _, .three (.tmp rfl) (.tmp rfl) (.tmp rfl)⟩
  · skip
    refine awp_no rfl rfl ?_
    refine run0 ?_
    refine awp_no rfl rfl ?_
    refine run0 ?_
    refine awp_no rfl rfl ?_
    refine run0 ?_
    refine awp_no rfl rfl ?_
    refine run0 ?_
    refine awp_yes rfl rfl ?_
    refine run0 ?_
    exact ⟨.inr rfl, _, Imp.refl _, .three (.tmp rfl) (.tmp rfl) (.tmp rfl)⟩
  · skip
    refine awp_no rfl rfl ?_
    refine run0 ?_
    refine awp_no rfl rfl ?_
    refine run0 ?_
    refine awp_no rfl rfl ?_
    refine run0 ?_
    refine awp_no rfl rfl ?_
    refine run0 ?_
    refine awp_no rfl rfl ?_
    refine run0 ?_
    refine awp_yes rfl rfl ?_
    refine run0 ?_
    rw [em]
    exact ⟨.inr rfl, _, Imp.refl _, .three (.tmp rfl) (.tmp rfl) (.tmp rfl)⟩
  · skip
    refine awp_no rfl rfl ?_
    refine run0 ?_
    refine awp_no rfl rfl ?_
    refine run0 ?_
    refine awp_no rfl rfl ?_
    refine run0 ?_
    refine awp_no rfl rfl ?_
    refine run0 ?_
    refine awp_no rfl rfl ?_
    refine run0 ?_
    refine awp_no rfl rfl ?_
    refine run0 ?_
    rw [em]
    exact ⟨.inr rfl, _, Imp.refl _, .three (.tmp rfl) (.tmp rfl) (.tmp rfl)⟩
/-- What the rows' lengths are. -/
theorem cnt_eq {k n r : Nat} (h1 : 1 ≤ k) (h7 : k ≤ 7) (n1 : 1 ≤ n) : cnt k n r 0 = (cnA k n : Nat) ∧ cnt k n r 1 = (cnB k n : Nat) ∧ cnt k n r 2 = (cnH k n r : Nat) ∧ cnt k n r 3 = (cnH k n r : Nat) := by
  have e : ((n * r : Nat) : Int) = (n : Int) * r := Int.natCast_mul n r
  have hk : k = 1 ∨ k = 2 ∨ k = 3 ∨ k = 4 ∨ k = 5 ∨ k = 6 ∨ k = 7 := by omega
  have c : ∀ (x y z n r : Int), x = 0 → y = 1 → z = 0 → x * n + y * n * r + z = n * r := by intro x y z n r hx hy hz; subst hx; subst hy; subst hz; simp
  have d : ∀ (x y z n r : Int), x = 1 → y = 0 → z = 0 → x * n + y * n * r + z = n := by intro x y z n r hx hy hz; subst hx; subst hy; subst hz; simp
  have f : ∀ (x y z n r : Int), x = 2 → y = 0 → z = -1 → x * n + y * n * r + z = 2 * n - 1 := by intro x y z n r hx hy hz; subst hx; subst hy; subst hz; simp; omega
  have z : ∀ (x y z n r : Int), x = 0 → y = 0 → z = 0 → x * n + y * n * r + z = 0 := by intro x y z n r hx hy hz; subst hx; subst hy; subst hz; simp
  unfold cnt
  rcases hk with rfl | rfl | rfl | rfl | rfl | rfl | rfl
  all_goals
    refine ⟨?_, ?_, ?_, ?_⟩
    all_goals
      simp only [cnA, cnB, cnH]
      first
        | (rw [z _ _ _ _ _ (by decide) (by decide) (by decide)] <;> omega)
        | (rw [f _ _ _ _ _ (by decide) (by decide) (by decide)] <;> omega)
        | (rw [d _ _ _ _ _ (by decide) (by decide) (by decide)] <;> omega)
        | (rw [c _ _ _ _ _ (by decide) (by decide) (by decide)] <;> omega)
theorem r5_rightr {r : PR} (hf : r.Fin) (hn : r.m ≤ 1000000) : Has Try.prog 56 [r.v] (.b r.sm) := by
  have step : ∀ i, i < r.m → ∀ (h : (i : Nat) < r.m), smB (r.s i) (r.f i) (r.g i) = (decide ((r.f i).length ≤ 4) && decide ((r.g i).length ≤ 4) && rgtB (r.s i) (r.f i) (r.g i)) := fun i hi h => rfl
  by_cases hall : ∀ i, i < r.m → smB (r.s i) (r.f i) (r.g i) = true
  · rw [show r.sm = true from decide_eq_true hall]
    refine has_of Try.func56 (by kernel_rfl) rfl Try.ntmps56 Try.results56 rfl rfl rfl ?_
    refine run0p ?_
    refine awp_loop (fun m' s => ∃ i, i ≤ r.m ∧ m' = r.m - i ∧ s = stl [(0, r.v), (3, .i (i : Int))] []) r.m _ (imp_id ?_ ?_) ⟨0, Nat.zero_le _, rfl, rfl⟩ ?_
    · refine alle rfl (Le.id rfl) True.intro ?_
      exact eA
    · exact hA
    rintro m' s ⟨i, hi, rfl, rfl⟩
    refine run0p ?_
    refine awp_if rfl (fun h => ?_) (fun h => ?_)
    · have h : i < r.m := by omega
      have hs := hall i h
      unfold smB at hs
      rw [Bool.and_eq_true, Bool.and_eq_true] at hs
      have l1 := of_decide_eq_true hs.1.1
      have l2 := of_decide_eq_true hs.1.2
      have cr := pr_rright (s := r.s i) (hf.f i h) (hf.g i h) (by omega) (by omega)
      rw [hs.2] at cr
      have f1 : decide ((4 : Int) < (((r.f i).length : Nat) : Int)) = false := decide_eq_false (by omega)
      have f2 : (decide ((4 : Int) < (((r.f i).length : Nat) : Int)) == false) = true := by rw [f1]; rfl
      have f3 : decide ((4 : Int) < (((r.g i).length : Nat) : Int)) = false := decide_eq_false (by omega)
      have f4 : (decide ((4 : Int) < (((r.g i).length : Nat) : Int)) == false) = true := by rw [f3]; rfl
      repeat(first|refine run1p ?_|((with_reducible apply st_call);exact rfl;exact rfl;exact rfl;first|(exact Has.p1 rfl rfl rfl cr))|((with_reducible apply st_callg);exact rfl;exact rfl;(first|exact rfl|assumption);exact rfl;exact rfl;exact rfl;first|(exact Has.p1 rfl rfl rfl cr)))
      refine awp_no rfl rfl ?_
      refine run0p ?_
      refine q_loop ?_ (imp_id ?_ ?_) ⟨i + 1, ?_, rfl, rfl⟩
      · omega
      · refine alle rfl (Le.id rfl) True.intro ?_
        exact eA
      · exact hA
      · omega
    · refine run0p ?_
      exact ⟨.inr rfl, _, Imp.refl _, .one (.tmp rfl)⟩
  · rw [show r.sm = false from decide_eq_false hall]
    obtain ⟨k0, hk0, hb0, hlt⟩ := first_true (b := fun i => !smB (r.s i) (r.f i) (r.g i)) r.m (fun h => hall fun i hi => by have := h i hi; simpa using this)
    have hlt : ∀ i, i < k0 → smB (r.s i) (r.f i) (r.g i) = true := fun i hi => by have := hlt i hi; simpa using this
    have hb0 : smB (r.s k0) (r.f k0) (r.g k0) = false := by simpa using hb0
    refine has_of Try.func56 (by kernel_rfl) rfl Try.ntmps56 Try.results56 rfl rfl rfl ?_
    refine run0p ?_
    refine awp_loop (fun m' s => ∃ i, i ≤ k0 ∧ m' = r.m - i ∧ s = stl [(0, r.v), (3, .i (i : Int))] []) r.m _ (imp_id ?_ ?_) ⟨0, Nat.zero_le _, rfl, rfl⟩ ?_
    · refine alle rfl (Le.id rfl) True.intro ?_
      exact eA
    · exact hA
    rintro m' s ⟨i, hi, rfl, rfl⟩
    have h : i < r.m := by omega
    refine run0p ?_
    refine awp_yes rfl (decide_eq_true (by omega)) ?_
    by_cases e : i = k0
    · subst e
      unfold smB at hb0
      by_cases l1 : (r.f i).length ≤ 4
      · have f1 : decide ((4 : Int) < (((r.f i).length : Nat) : Int)) = false := decide_eq_false (by omega)
        have f2 : (decide ((4 : Int) < (((r.f i).length : Nat) : Int)) == false) = true := by rw [f1]; rfl
        by_cases l2 : (r.g i).length ≤ 4
        · have f3 : decide ((4 : Int) < (((r.g i).length : Nat) : Int)) = false := decide_eq_false (by omega)
          have f4 : (decide ((4 : Int) < (((r.g i).length : Nat) : Int)) == false) = true := by rw [f3]; rfl
          have cr := pr_rright (s := r.s i) (hf.f i h) (hf.g i h) (by omega) (by omega)
          rw [decide_eq_true l1, decide_eq_true l2, Bool.true_and, Bool.true_and] at hb0
          rw [hb0] at cr
          repeat(first|refine run1p ?_|((with_reducible apply st_call);exact rfl;exact rfl;exact rfl;first|(exact Has.p1 rfl rfl rfl cr))|((with_reducible apply st_callg);exact rfl;exact rfl;(first|exact rfl|assumption);exact rfl;exact rfl;exact rfl;first|(exact Has.p1 rfl rfl rfl cr)))
          refine awp_yes rfl rfl ?_
          refine run0p ?_
          exact ⟨.inr rfl, _, Imp.refl _, .one (.tmp rfl)⟩
        · have f3 : decide ((4 : Int) < (((r.g i).length : Nat) : Int)) = true := decide_eq_true (by omega)
          have f4 : (decide ((4 : Int) < (((r.g i).length : Nat) : Int)) == false) = false := by rw [f3]; rfl
          refine run0p ?_
          refine awp_yes rfl rfl ?_
          refine run0p ?_
          exact ⟨.inr rfl, _, Imp.refl _, .one (.tmp rfl)⟩
      · have f1 : decide ((4 : Int) < (((r.f i).length : Nat) : Int)) = true := decide_eq_true (by omega)
        have f2 : (decide ((4 : Int) < (((r.f i).length : Nat) : Int)) == false) = false := by rw [f1]; rfl
        refine run0p ?_
        refine awp_yes rfl rfl ?_
        refine run0p ?_
        exact ⟨.inr rfl, _, Imp.refl _, .one (.tmp rfl)⟩
    · have hs := hlt i (by omega)
      unfold smB at hs
      rw [Bool.and_eq_true, Bool.and_eq_true] at hs
      have l1 := of_decide_eq_true hs.1.1
      have l2 := of_decide_eq_true hs.1.2
      have cr := pr_rright (s := r.s i) (hf.f i h) (hf.g i h) (by omega) (by omega)
      rw [hs.2] at cr
      have f1 : decide ((4 : Int) < (((r.f i).length : Nat) : Int)) = false := decide_eq_false (by omega)
      have f2 : (decide ((4 : Int) < (((r.f i).length : Nat) : Int)) == false) = true := by rw [f1]; rfl
      have f3 : decide ((4 : Int) < (((r.g i).length : Nat) : Int)) = false := decide_eq_false (by omega)
      have f4 : (decide ((4 : Int) < (((r.g i).length : Nat) : Int)) == false) = true := by rw [f3]; rfl
      repeat(first|refine run1p ?_|((with_reducible apply st_call);exact rfl;exact rfl;exact rfl;first|(exact Has.p1 rfl rfl rfl cr))|((with_reducible apply st_callg);exact rfl;exact rfl;(first|exact rfl|assumption);exact rfl;exact rfl;exact rfl;first|(exact Has.p1 rfl rfl rfl cr)))
      refine awp_no rfl rfl ?_
      refine run0p ?_
      refine q_loop ?_ (imp_id ?_ ?_) ⟨i + 1, ?_, rfl, rfl⟩
      · omega
      · refine alle rfl (Le.id rfl) True.intro ?_
        exact eA
      · exact hA
      · omega
/-- What is wrong with kind and size. -/
def headV (k n r : Int) : Int := bif kindB k then 2 else bif sizedB k n r then 0 else 1
theorem r5_likez {k : Int} : Has Try.prog 30 [.i k] (.b (likeZ k)) := by
  refine has_of Try.func30 (by kernel_rfl) rfl Try.ntmps30 Try.results30 rfl rfl rfl ?_
  by_cases h6 : k = 6
  · have e0 : decide (k = 6) = true := decide_eq_true h6
    have e1 : (decide (k = 6) == false) = false := by rw [e0]; rfl
    refine run0p ?_
    refine ⟨.inr rfl, _, Imp.refl _, ?_⟩
    rw [show likeZ k = true by unfold likeZ; rw [e0]; rfl]
    exact .one (.tmp rfl)
  · have e0 : decide (k = 6) = false := decide_eq_false h6
    have e1 : (decide (k = 6) == false) = true := by rw [e0]; rfl
    refine run0p ?_
    refine ⟨.inr rfl, _, Imp.refl _, ?_⟩
    rw [show likeZ k = decide (k = 7) by unfold likeZ; rw [e0]; rfl]
    exact .one (.tmp rfl)
theorem r5_headr (k n r : Int) (A B G H : PR) : Has Try.prog 43 [GR.v ⟨k, n, r, A, B, G, H⟩] (.i (headV k n r)) := by
  refine has_of Try.func43 (by kernel_rfl) rfl Try.ntmps43 Try.results43 rfl rfl rfl ?_
  by_cases h1 : k < 1
  · have e0 : decide (k < 1) = true := decide_eq_true h1
    have e1 : (decide (k < 1) == false) = false := by rw [e0]; rfl
    rw [show headV k n r = 2 by unfold headV kindB; rw [e0]; rfl]
    refine run0p ?_
    refine awp_yes rfl rfl ?_
    refine run0p ?_
    exact ⟨.inr rfl, _, Imp.refl _, .one (.tmp rfl)⟩
  have e0 : decide (k < 1) = false := decide_eq_false h1
  have e1 : (decide (k < 1) == false) = true := by rw [e0]; rfl
  refine run0p ?_
  by_cases h7 : 7 < k
  · have e2 : decide ((7 : Int) < k) = true := decide_eq_true h7
    rw [show headV k n r = 2 by unfold headV kindB; rw [e0, e2]; rfl]
    refine awp_yes rfl e2 ?_
    refine run0p ?_
    exact ⟨.inr rfl, _, Imp.refl _, .one (.tmp rfl)⟩
  have e2 : decide ((7 : Int) < k) = false := decide_eq_false h7
  refine awp_no rfl e2 ?_
  have cl := r5_likez (k := k)
  rw [show headV k n r = (bif sizedB k n r then 0 else 1) by unfold headV kindB; rw [e0, e2]; rfl]
  by_cases n1 : n < 1
  · have d0 : decide (n < 1) = true := decide_eq_true n1
    have d1 : (decide (n < 1) == false) = false := by rw [d0]; rfl
    rw [show sizedB k n r = false by unfold sizedB; rw [d0]; rfl]
    refine run0p ?_
    refine awp_yes rfl rfl ?_
    refine run0p ?_
    exact ⟨.inr rfl, _, Imp.refl _, .one (.tmp rfl)⟩
  have d0 : decide (n < 1) = false := decide_eq_false n1
  have d1 : (decide (n < 1) == false) = true := by rw [d0]; rfl
  by_cases n8 : 8 < n
  · have d2 : decide ((8 : Int) < n) = true := decide_eq_true n8
    have d3 : (decide ((8 : Int) < n) == false) = false := by rw [d2]; rfl
    rw [show sizedB k n r = false by unfold sizedB; rw [d2]; simp]
    refine run0p ?_
    refine awp_yes rfl rfl ?_
    refine run0p ?_
    exact ⟨.inr rfl, _, Imp.refl _, .one (.tmp rfl)⟩
  have d2 : decide ((8 : Int) < n) = false := decide_eq_false n8
  have d3 : (decide ((8 : Int) < n) == false) = true := by rw [d2]; rfl
  cases hk : likeZ k with
  | true =>
    rw [hk] at cl
    rw [show sizedB k n r = (decide (1 ≤ r) && decide (r ≤ 3)) by unfold sizedB; rw [d0, d2, hk]; rfl]
    by_cases r1 : r < 1
    · have a0 : decide (r < 1) = true := decide_eq_true r1
      have a1 : (decide (r < 1) == false) = false := by rw [a0]; rfl
      rw [decide_eq_false (by omega : ¬ 1 ≤ r)]
      repeat(first|refine run1p ?_|((with_reducible apply st_call);exact rfl;exact rfl;exact rfl;first|(exact cl))|((with_reducible apply st_callg);exact rfl;exact rfl;(first|exact rfl|assumption);exact rfl;exact rfl;exact rfl;first|(exact cl)))
      refine awp_yes rfl rfl ?_
      refine run0p ?_
      exact ⟨.inr rfl, _, Imp.refl _, .one (.tmp rfl)⟩
    have a0 : decide (r < 1) = false := decide_eq_false r1
    have a1 : (decide (r < 1) == false) = true := by rw [a0]; rfl
    by_cases r3 : 3 < r
    · have a2 : decide ((3 : Int) < r) = true := decide_eq_true r3
      have a3 : (decide ((3 : Int) < r) == false) = false := by rw [a2]; rfl
      rw [decide_eq_true (by omega : 1 ≤ r), decide_eq_false (by omega : ¬ r ≤ 3)]
      repeat(first|refine run1p ?_|((with_reducible apply st_call);exact rfl;exact rfl;exact rfl;first|(exact cl))|((with_reducible apply st_callg);exact rfl;exact rfl;(first|exact rfl|assumption);exact rfl;exact rfl;exact rfl;first|(exact cl)))
      refine awp_yes rfl rfl ?_
      refine run0p ?_
      exact ⟨.inr rfl, _, Imp.refl _, .one (.tmp rfl)⟩
    have a2 : decide ((3 : Int) < r) = false := decide_eq_false r3
    have a3 : (decide ((3 : Int) < r) == false) = true := by rw [a2]; rfl
    rw [decide_eq_true (by omega : 1 ≤ r), decide_eq_true (by omega : r ≤ 3)]
    repeat(first|refine run1p ?_|((with_reducible apply st_call);exact rfl;exact rfl;exact rfl;first|(exact cl))|((with_reducible apply st_callg);exact rfl;exact rfl;(first|exact rfl|assumption);exact rfl;exact rfl;exact rfl;first|(exact cl)))
    refine awp_no rfl rfl ?_
    refine run0p ?_
    exact ⟨.inr rfl, _, Imp.refl _, .one (.tmp rfl)⟩
  | false =>
    rw [hk] at cl
    rw [show sizedB k n r = decide (r = 0) by unfold sizedB; rw [d0, d2, hk]; rfl]
    by_cases r0 : r = 0
    · have a0 : decide (r ≠ 0) = false := decide_eq_false fun h => h r0
      have a1 : (decide (r ≠ 0) == false) = true := by rw [a0]; rfl
      rw [decide_eq_true r0]
      repeat(first|refine run1p ?_|((with_reducible apply st_call);exact rfl;exact rfl;exact rfl;first|(exact cl))|((with_reducible apply st_callg);exact rfl;exact rfl;(first|exact rfl|assumption);exact rfl;exact rfl;exact rfl;first|(exact cl)))
      refine awp_no rfl a0 ?_
      refine run0p ?_
      exact ⟨.inr rfl, _, Imp.refl _, .one (.tmp rfl)⟩
    · have a0 : decide (r ≠ 0) = true := decide_eq_true r0
      have a1 : (decide (r ≠ 0) == false) = false := by rw [a0]; rfl
      rw [decide_eq_false r0]
      repeat(first|refine run1p ?_|((with_reducible apply st_call);exact rfl;exact rfl;exact rfl;first|(exact cl))|((with_reducible apply st_callg);exact rfl;exact rfl;(first|exact rfl|assumption);exact rfl;exact rfl;exact rfl;first|(exact cl)))
      refine awp_yes rfl a0 ?_
      refine run0p ?_
      exact ⟨.inr rfl, _, Imp.refl _, .one (.tmp rfl)⟩
/-- Whatever comes in. -/
theorem r5_checkr {g : GR} (hf : g.Fin) : Has Try.prog 23 [g.v] (.i (chk g)) := by
  obtain ⟨k, n, r, A, B, G, H⟩ := g
  obtain ⟨fA, fB, fG, fH⟩ := hf
  change A.Fin at fA
  change B.Fin at fB
  change G.Fin at fG
  change H.Fin at fH
  have ch := r5_headr k n r A B G H
  by_cases hz : headV k n r = 0
  · rw [hz] at ch
    have hkz : kindB k = false ∧ sizedB k n r = true := by
      unfold headV at hz
      cases hk : kindB k with
      | true => rw [hk] at hz; cases hz
      | false => cases hs : sizedB k n r with
        | true => exact ⟨rfl, rfl⟩
        | false => rw [hk, hs] at hz; cases hz
    rw [show chk ⟨k, n, r, A, B, G, H⟩ = chkR ⟨k, n, r, A, B, G, H⟩ by unfold chk; simp only [hkz.1, hkz.2, cond_false, cond_true]]
    obtain ⟨hk, hs⟩ := hkz
    unfold kindB at hk
    rw [Bool.or_eq_false_iff] at hk
    have h1 := of_decide_eq_false hk.1
    have h7 := of_decide_eq_false hk.2
    unfold sizedB at hs
    rw [Bool.and_eq_true, Bool.not_eq_true', Bool.or_eq_false_iff] at hs
    have n1 := of_decide_eq_false hs.1.1
    have n8 := of_decide_eq_false hs.1.2
    have hr : 0 ≤ r ∧ r ≤ 3 := by
      have h := hs.2
      cases hl : likeZ k with
      | true => rw [hl, cond_true, Bool.and_eq_true] at h; have a := of_decide_eq_true h.1; have b := of_decide_eq_true h.2; omega
      | false => rw [hl, cond_false] at h; have a := of_decide_eq_true h; omega
    clear hs hk hz
    obtain ⟨k, rfl⟩ : ∃ k' : Nat, k = k' := ⟨k.toNat, by omega⟩
    obtain ⟨n, rfl⟩ : ∃ n' : Nat, n = n' := ⟨n.toNat, by omega⟩
    obtain ⟨r, rfl⟩ : ∃ r' : Nat, r = r' := ⟨r.toNat, by omega⟩
    obtain ⟨w0, w1, w2, w3⟩ := cnt_eq (k := k) (n := n) (r := r) (by omega) (by omega) (by omega)
    have cc := r5_countsr (k := k) (n := n) (r := r) (A := A) (B := B) (G := G) (H := H) (by omega) (by omega) (by omega) (by omega) (by omega)
    have nr : n * r ≤ 8 * 3 := Nat.mul_le_mul (by omega) (by omega)
    have bA : cnA k n ≤ 1000000 := by unfold cnA; split <;> omega
    have bB : cnB k n ≤ 1000000 := by unfold cnB; split <;> omega
    have bH : cnH k n r ≤ 1000000 := by unfold cnH; split <;> omega
    show Has Try.prog _ _ (.i (chkV (A.len (cnt k n r 0)) (B.len (cnt k n r 1)) (G.len (cnt k n r 2)) (H.len (cnt k n r 3)) A.sm B.sm G.sm H.sm (A.meets B)))
    rw [w0, w1, w2, w3]
    generalize ea : cnA k n = a at *
    generalize eb : cnB k n = b at *
    generalize eh : cnH k n r = h at *
    have q0 : decide ((A.m : Int) ≠ (a : Nat)) = !A.len (a : Nat) := by unfold PR.len; simp
    have q1 : decide ((B.m : Int) ≠ (b : Nat)) = !B.len (b : Nat) := by unfold PR.len; simp
    have q2 : decide ((G.m : Int) ≠ (h : Nat)) = !G.len (h : Nat) := by unfold PR.len; simp
    have q3 : decide ((H.m : Int) ≠ (h : Nat)) = !H.len (h : Nat) := by unfold PR.len; simp
    have p0 : (decide ((A.m : Int) ≠ (a : Nat)) == false) = A.len (a : Nat) := by rw [q0]; cases A.len (a : Nat) <;> rfl
    have p1 : (decide ((B.m : Int) ≠ (b : Nat)) == false) = B.len (b : Nat) := by rw [q1]; cases B.len (b : Nat) <;> rfl
    have p2 : (decide ((G.m : Int) ≠ (h : Nat)) == false) = G.len (h : Nat) := by rw [q2]; cases G.len (h : Nat) <;> rfl
    cases l0 : A.len (a : Nat) with
    | false =>
      rw [l0] at q0 p0
      refine has_of Try.func23 (by kernel_rfl) rfl Try.ntmps23 Try.results23 rfl rfl rfl ?_
      repeat(first|refine run1p ?_|((with_reducible apply st_call);exact rfl;exact rfl;exact rfl;first|(exact Has.ag (g7 rfl rfl rfl rfl rfl rfl rfl) ch))|((with_reducible apply st_callg);exact rfl;exact rfl;(first|exact rfl|assumption);exact rfl;exact rfl;exact rfl;first|(exact Has.ag (g7 rfl rfl rfl rfl rfl rfl rfl) ch)))
      refine awp_no rfl rfl ?_
      repeat(first|refine run1p ?_|((with_reducible apply st_call);exact rfl;exact rfl;exact rfl;first|(exact Has.ag (g7 rfl rfl rfl rfl rfl rfl rfl) cc))|((with_reducible apply st_callg);exact rfl;exact rfl;(first|exact rfl|assumption);exact rfl;exact rfl;exact rfl;first|(exact Has.ag (g7 rfl rfl rfl rfl rfl rfl rfl) cc)))
      refine awp_yes rfl rfl ?_
      refine run0p ?_
      exact ⟨.inr rfl, _, Imp.refl _, .one (.tmp rfl)⟩
    | true =>
    rw [l0] at q0 p0
    cases l1 : B.len (b : Nat) with
    | false =>
      rw [l1] at q1 p1
      refine has_of Try.func23 (by kernel_rfl) rfl Try.ntmps23 Try.results23 rfl rfl rfl ?_
      repeat(first|refine run1p ?_|((with_reducible apply st_call);exact rfl;exact rfl;exact rfl;first|(exact Has.ag (g7 rfl rfl rfl rfl rfl rfl rfl) ch))|((with_reducible apply st_callg);exact rfl;exact rfl;(first|exact rfl|assumption);exact rfl;exact rfl;exact rfl;first|(exact Has.ag (g7 rfl rfl rfl rfl rfl rfl rfl) ch)))
      refine awp_no rfl rfl ?_
      repeat(first|refine run1p ?_|((with_reducible apply st_call);exact rfl;exact rfl;exact rfl;first|(exact Has.ag (g7 rfl rfl rfl rfl rfl rfl rfl) cc))|((with_reducible apply st_callg);exact rfl;exact rfl;(first|exact rfl|assumption);exact rfl;exact rfl;exact rfl;first|(exact Has.ag (g7 rfl rfl rfl rfl rfl rfl rfl) cc)))
      refine awp_yes rfl rfl ?_
      refine run0p ?_
      exact ⟨.inr rfl, _, Imp.refl _, .one (.tmp rfl)⟩
    | true =>
    rw [l1] at q1 p1
    cases l2 : G.len (h : Nat) with
    | false =>
      rw [l2] at q2 p2
      refine has_of Try.func23 (by kernel_rfl) rfl Try.ntmps23 Try.results23 rfl rfl rfl ?_
      repeat(first|refine run1p ?_|((with_reducible apply st_call);exact rfl;exact rfl;exact rfl;first|(exact Has.ag (g7 rfl rfl rfl rfl rfl rfl rfl) ch))|((with_reducible apply st_callg);exact rfl;exact rfl;(first|exact rfl|assumption);exact rfl;exact rfl;exact rfl;first|(exact Has.ag (g7 rfl rfl rfl rfl rfl rfl rfl) ch)))
      refine awp_no rfl rfl ?_
      repeat(first|refine run1p ?_|((with_reducible apply st_call);exact rfl;exact rfl;exact rfl;first|(exact Has.ag (g7 rfl rfl rfl rfl rfl rfl rfl) cc))|((with_reducible apply st_callg);exact rfl;exact rfl;(first|exact rfl|assumption);exact rfl;exact rfl;exact rfl;first|(exact Has.ag (g7 rfl rfl rfl rfl rfl rfl rfl) cc)))
      refine awp_yes rfl rfl ?_
      refine run0p ?_
      exact ⟨.inr rfl, _, Imp.refl _, .one (.tmp rfl)⟩
    | true =>
    rw [l2] at q2 p2
    cases l3 : H.len (h : Nat) with
    | false =>
      rw [l3] at q3
      refine has_of Try.func23 (by kernel_rfl) rfl Try.ntmps23 Try.results23 rfl rfl rfl ?_
      repeat(first|refine run1p ?_|((with_reducible apply st_call);exact rfl;exact rfl;exact rfl;first|(exact Has.ag (g7 rfl rfl rfl rfl rfl rfl rfl) ch))|((with_reducible apply st_callg);exact rfl;exact rfl;(first|exact rfl|assumption);exact rfl;exact rfl;exact rfl;first|(exact Has.ag (g7 rfl rfl rfl rfl rfl rfl rfl) ch)))
      refine awp_no rfl rfl ?_
      repeat(first|refine run1p ?_|((with_reducible apply st_call);exact rfl;exact rfl;exact rfl;first|(exact Has.ag (g7 rfl rfl rfl rfl rfl rfl rfl) cc))|((with_reducible apply st_callg);exact rfl;exact rfl;(first|exact rfl|assumption);exact rfl;exact rfl;exact rfl;first|(exact Has.ag (g7 rfl rfl rfl rfl rfl rfl rfl) cc)))
      refine awp_yes rfl q3 ?_
      refine run0p ?_
      exact ⟨.inr rfl, _, Imp.refl _, .one (.tmp rfl)⟩
    | true =>
    rw [l3] at q3
    have m0 : A.m = a := by have := of_decide_eq_true l0; omega
    have m1 : B.m = b := by have := of_decide_eq_true l1; omega
    have m2 : G.m = h := by have := of_decide_eq_true l2; omega
    have m3 : H.m = h := by have := of_decide_eq_true l3; omega
    have c0 := r5_rightr fA (by omega); have c1 := r5_rightr fB (by omega); have c2 := r5_rightr fG (by omega); have c3 := r5_rightr fH (by omega)
    have spA := fun (hs : A.sm = true) (i : Nat) (hi : i < A.m) => PR.isp fA hs hi
    have spB := fun (hs : B.sm = true) (i : Nat) (hi : i < B.m) => PR.isp fB hs hi
    have hme : A.meets B = !decide (∀ i, i < A.m → B.has (A.s i) (A.f i) (A.g i) = false) := rfl
    cases s0 : A.sm with
    | false =>
      rw [s0] at c0
      refine has_of Try.func23 (by kernel_rfl) rfl Try.ntmps23 Try.results23 rfl rfl rfl ?_
      repeat(first|refine run1p ?_|((with_reducible apply st_call);exact rfl;exact rfl;exact rfl;first|(exact Has.ag (g7 rfl rfl rfl rfl rfl rfl rfl) ch))|((with_reducible apply st_callg);exact rfl;exact rfl;(first|exact rfl|assumption);exact rfl;exact rfl;exact rfl;first|(exact Has.ag (g7 rfl rfl rfl rfl rfl rfl rfl) ch)))
      refine awp_no rfl rfl ?_
      repeat(first|refine run1p ?_|((with_reducible apply st_call);exact rfl;exact rfl;exact rfl;first|(exact Has.ag (g7 rfl rfl rfl rfl rfl rfl rfl) cc))|((with_reducible apply st_callg);exact rfl;exact rfl;(first|exact rfl|assumption);exact rfl;exact rfl;exact rfl;first|(exact Has.ag (g7 rfl rfl rfl rfl rfl rfl rfl) cc)))
      refine awp_no rfl q3 ?_
      repeat(first|refine run1p ?_|((with_reducible apply st_call);exact rfl;exact rfl;exact rfl;first|(exact c0)|(exact c1)|(exact c2)|(exact c3))|((with_reducible apply st_callg);exact rfl;exact rfl;(first|exact rfl|assumption);exact rfl;exact rfl;exact rfl;first|(exact c0)|(exact c1)|(exact c2)|(exact c3)))
      refine awp_yes rfl rfl ?_
      refine run0p ?_
      exact ⟨.inr rfl, _, Imp.refl _, .one (.tmp rfl)⟩
    | true =>
    rw [s0] at c0
    cases s1 : B.sm with
    | false =>
      rw [s1] at c1
      refine has_of Try.func23 (by kernel_rfl) rfl Try.ntmps23 Try.results23 rfl rfl rfl ?_
      repeat(first|refine run1p ?_|((with_reducible apply st_call);exact rfl;exact rfl;exact rfl;first|(exact Has.ag (g7 rfl rfl rfl rfl rfl rfl rfl) ch))|((with_reducible apply st_callg);exact rfl;exact rfl;(first|exact rfl|assumption);exact rfl;exact rfl;exact rfl;first|(exact Has.ag (g7 rfl rfl rfl rfl rfl rfl rfl) ch)))
      refine awp_no rfl rfl ?_
      repeat(first|refine run1p ?_|((with_reducible apply st_call);exact rfl;exact rfl;exact rfl;first|(exact Has.ag (g7 rfl rfl rfl rfl rfl rfl rfl) cc))|((with_reducible apply st_callg);exact rfl;exact rfl;(first|exact rfl|assumption);exact rfl;exact rfl;exact rfl;first|(exact Has.ag (g7 rfl rfl rfl rfl rfl rfl rfl) cc)))
      refine awp_no rfl q3 ?_
      repeat(first|refine run1p ?_|((with_reducible apply st_call);exact rfl;exact rfl;exact rfl;first|(exact c0)|(exact c1)|(exact c2)|(exact c3))|((with_reducible apply st_callg);exact rfl;exact rfl;(first|exact rfl|assumption);exact rfl;exact rfl;exact rfl;first|(exact c0)|(exact c1)|(exact c2)|(exact c3)))
      refine awp_yes rfl rfl ?_
      refine run0p ?_
      exact ⟨.inr rfl, _, Imp.refl _, .one (.tmp rfl)⟩
    | true =>
    rw [s1] at c1
    cases s2 : G.sm with
    | false =>
      rw [s2] at c2
      refine has_of Try.func23 (by kernel_rfl) rfl Try.ntmps23 Try.results23 rfl rfl rfl ?_
      repeat(first|refine run1p ?_|((with_reducible apply st_call);exact rfl;exact rfl;exact rfl;first|(exact Has.ag (g7 rfl rfl rfl rfl rfl rfl rfl) ch))|((with_reducible apply st_callg);exact rfl;exact rfl;(first|exact rfl|assumption);exact rfl;exact rfl;exact rfl;first|(exact Has.ag (g7 rfl rfl rfl rfl rfl rfl rfl) ch)))
      refine awp_no rfl rfl ?_
      repeat(first|refine run1p ?_|((with_reducible apply st_call);exact rfl;exact rfl;exact rfl;first|(exact Has.ag (g7 rfl rfl rfl rfl rfl rfl rfl) cc))|((with_reducible apply st_callg);exact rfl;exact rfl;(first|exact rfl|assumption);exact rfl;exact rfl;exact rfl;first|(exact Has.ag (g7 rfl rfl rfl rfl rfl rfl rfl) cc)))
      refine awp_no rfl q3 ?_
      repeat(first|refine run1p ?_|((with_reducible apply st_call);exact rfl;exact rfl;exact rfl;first|(exact c0)|(exact c1)|(exact c2)|(exact c3))|((with_reducible apply st_callg);exact rfl;exact rfl;(first|exact rfl|assumption);exact rfl;exact rfl;exact rfl;first|(exact c0)|(exact c1)|(exact c2)|(exact c3)))
      refine awp_yes rfl rfl ?_
      refine run0p ?_
      exact ⟨.inr rfl, _, Imp.refl _, .one (.tmp rfl)⟩
    | true =>
    rw [s2] at c2
    cases s3 : H.sm with
    | false =>
      rw [s3] at c3
      refine has_of Try.func23 (by kernel_rfl) rfl Try.ntmps23 Try.results23 rfl rfl rfl ?_
      repeat(first|refine run1p ?_|((with_reducible apply st_call);exact rfl;exact rfl;exact rfl;first|(exact Has.ag (g7 rfl rfl rfl rfl rfl rfl rfl) ch))|((with_reducible apply st_callg);exact rfl;exact rfl;(first|exact rfl|assumption);exact rfl;exact rfl;exact rfl;first|(exact Has.ag (g7 rfl rfl rfl rfl rfl rfl rfl) ch)))
      refine awp_no rfl rfl ?_
      repeat(first|refine run1p ?_|((with_reducible apply st_call);exact rfl;exact rfl;exact rfl;first|(exact Has.ag (g7 rfl rfl rfl rfl rfl rfl rfl) cc))|((with_reducible apply st_callg);exact rfl;exact rfl;(first|exact rfl|assumption);exact rfl;exact rfl;exact rfl;first|(exact Has.ag (g7 rfl rfl rfl rfl rfl rfl rfl) cc)))
      refine awp_no rfl q3 ?_
      repeat(first|refine run1p ?_|((with_reducible apply st_call);exact rfl;exact rfl;exact rfl;first|(exact c0)|(exact c1)|(exact c2)|(exact c3))|((with_reducible apply st_callg);exact rfl;exact rfl;(first|exact rfl|assumption);exact rfl;exact rfl;exact rfl;first|(exact c0)|(exact c1)|(exact c2)|(exact c3)))
      refine awp_yes rfl rfl ?_
      refine run0p ?_
      exact ⟨.inr rfl, _, Imp.refl _, .one (.tmp rfl)⟩
    | true =>
    rw [s3] at c3
    have spA := spA s0
    have spB := spB s1
    refine has_of Try.func23 (by kernel_rfl) rfl Try.ntmps23 Try.results23 rfl rfl rfl ?_
    repeat(first|refine run1p ?_|((with_reducible apply st_call);exact rfl;exact rfl;exact rfl;first|(exact Has.ag (g7 rfl rfl rfl rfl rfl rfl rfl) ch))|((with_reducible apply st_callg);exact rfl;exact rfl;(first|exact rfl|assumption);exact rfl;exact rfl;exact rfl;first|(exact Has.ag (g7 rfl rfl rfl rfl rfl rfl rfl) ch)))
    refine awp_no rfl rfl ?_
    repeat(first|refine run1p ?_|((with_reducible apply st_call);exact rfl;exact rfl;exact rfl;first|(exact Has.ag (g7 rfl rfl rfl rfl rfl rfl rfl) cc))|((with_reducible apply st_callg);exact rfl;exact rfl;(first|exact rfl|assumption);exact rfl;exact rfl;exact rfl;first|(exact Has.ag (g7 rfl rfl rfl rfl rfl rfl rfl) cc)))
    refine awp_no rfl q3 ?_
    repeat(first|refine run1p ?_|((with_reducible apply st_call);exact rfl;exact rfl;exact rfl;first|(exact c0)|(exact c1)|(exact c2)|(exact c3))|((with_reducible apply st_callg);exact rfl;exact rfl;(first|exact rfl|assumption);exact rfl;exact rfl;exact rfl;first|(exact c0)|(exact c1)|(exact c2)|(exact c3)))
    refine awp_no rfl rfl ?_
    refine run0p ?_
    refine awp_loop (fun m' s => ∃ i, i ≤ A.m ∧ m' = A.m - i ∧ (∀ j, j < i → B.has (A.s j) (A.f j) (A.g j) = false) ∧ s = stl [(1, .ptr 1 0 0), (4, .i a), (5, .i b), (7, .i (i : Int))] [(1, (1, fun _ => .ones 26 7 (GR.f ⟨k, n, r, A, B, G, H⟩)))]) A.m _ (imp_id ?_ ?_) ⟨0, Nat.zero_le _, rfl, fun i hi => absurd hi (Nat.not_lt_zero _), rfl⟩ ?_
    · exact eA
    · exact allh rfl (by decide) (bleo rfl fun _ _ => Le.id rfl) (fun i _ => GR.fok _ _ i) True.intro
    rintro m' s ⟨i, hi, rfl, hprev, rfl⟩
    refine run0p ?_
    refine awp_if rfl (fun h1 => ?_) (fun h1 => ?_)
    · have h1 : i < A.m := by omega
      obtain ⟨p, p1, p2⟩ := spA i h1
      refine run0p ?_
      refine awp_loop (fun m' s => ∃ j, j ≤ B.m ∧ m' = B.m - j ∧ (∀ t, t < j → eqB (A.s i) (A.f i) (A.g i) (B.s t) (B.f t) (B.g t) = false) ∧ s = stl [(1, .ptr 1 0 0), (4, .i a), (5, .i b), (7, .i (i : Int)), (8, .i (j : Int))] [(1, (1, fun _ => .ones 26 7 (GR.f ⟨k, n, r, A, B, G, H⟩)))]) B.m _ (imp_id ?_ ?_) ⟨0, Nat.zero_le _, rfl, fun i hi => absurd hi (Nat.not_lt_zero _), rfl⟩ ?_
      · exact eA
      · exact allh rfl (by decide) (bleo rfl fun _ _ => Le.id rfl) (fun i _ => GR.fok _ _ i) True.intro
      rintro m' s ⟨j, hj, rfl, hprev2, rfl⟩
      refine run0p ?_
      refine awp_if rfl (fun h2 => ?_) (fun h2 => ?_)
      · have h2 : j < B.m := by omega
        obtain ⟨q, q1, q2⟩ := spB j h2
        have cs := pr_same p2 q2
        rw [← isp_eq p2 q2, p1, q1] at cs
        have f1 : ((i : Nat) : Int) < A.m := by omega
        have f2 : ((j : Nat) : Int) < B.m := by omega
        repeat(first|refine run1p ?_|((with_reducible apply st_call);exact rfl;exact rfl;exact rfl;first|(exact Has.p2 rfl rfl rfl rfl rfl rfl cs))|((with_reducible apply st_callg);exact rfl;exact rfl;(first|exact rfl|assumption);exact rfl;exact rfl;exact rfl;first|(exact Has.p2 rfl rfl rfl rfl rfl rfl cs)))
        cases hb : eqB (A.s i) (A.f i) (A.g i) (B.s j) (B.f j) (B.g j) with
        | true =>
          refine awp_yes rfl rfl ?_
          refine run0p ?_
          refine ⟨.inr rfl, _, Imp.refl _, ?_⟩
          rw [hme, decide_eq_false (fun h3 : ∀ i, i < A.m → B.has (A.s i) (A.f i) (A.g i) = false => by
            have h4 := h3 i h1
            unfold PR.has at h4
            rw [Bool.not_eq_false', decide_eq_true_iff] at h4
            rw [h4 j h2] at hb; cases hb)]
          exact .one (.tmp rfl)
        | false =>
          refine awp_no rfl rfl ?_
          refine run0p ?_
          refine q_loop ?_ (imp_id ?_ ?_) ⟨j + 1, ?_, rfl, fun t ht => ?_, rfl⟩
          · omega
          · exact eA
          · exact allh rfl (by decide) (bleo rfl fun _ _ => Le.id rfl) (fun i _ => GR.fok _ _ i) True.intro
          · omega
          · rcases Nat.lt_or_ge t j with h | h
            · exact hprev2 t h
            · rw [show t = j by omega]; exact hb
      · refine run0p ?_
        refine q_loop ?_ (imp_id ?_ ?_) ⟨i + 1, ?_, rfl, fun t ht => ?_, rfl⟩
        · omega
        · exact eA
        · exact allh rfl (by decide) (bleo rfl fun _ _ => Le.id rfl) (fun i _ => GR.fok _ _ i) True.intro
        · omega
        · rcases Nat.lt_or_ge t i with h | h
          · exact hprev t h
          · rw [show t = i by omega]
            unfold PR.has
            rw [decide_eq_true fun x hx => hprev2 x (by omega)]; rfl
    · refine run0p ?_
      refine ⟨.inr rfl, _, Imp.refl _, ?_⟩
      rw [hme, decide_eq_true fun i hi => hprev i (by omega)]
      exact .one (.tmp rfl)
  · have hz1 : decide (headV k n r ≠ 0) = true := decide_eq_true hz
    have e : chk ⟨k, n, r, A, B, G, H⟩ = headV k n r := by
      unfold headV at hz ⊢
      unfold chk
      cases hk : kindB k with
      | true => rfl
      | false => cases hs : sizedB k n r with
        | true => rw [hk, hs] at hz; exact absurd rfl hz
        | false => rfl
    rw [e]
    refine has_of Try.func23 (by kernel_rfl) rfl Try.ntmps23 Try.results23 rfl rfl rfl ?_
    repeat(first|refine run1p ?_|((with_reducible apply st_call);exact rfl;exact rfl;exact rfl;first|(exact Has.ag (g7 rfl rfl rfl rfl rfl rfl rfl) ch))|((with_reducible apply st_callg);exact rfl;exact rfl;(first|exact rfl|assumption);exact rfl;exact rfl;exact rfl;first|(exact Has.ag (g7 rfl rfl rfl rfl rfl rfl rfl) ch)))
    refine awp_yes rfl hz1 ?_
    refine run0p ?_
    exact ⟨.inr rfl, _, Imp.refl _, .one (.tmp rfl)⟩
end Go.Proofs.Ytpclkgjhfhhddaa.AM
/- Laws of systems: what is known. -/
namespace Go.Proofs.Ytpclkgjhfhhddaa.AM
open Go Go.RowKit Go.Proofs.Ytpclkgjhfhhddaa.PN Go.Proofs.Ytpclkgjhfhhddaa.V
open Go.Proofs.Ytpclkgjhfhhddaa.LA (S S_succ S_zero S_congr)
set_option linter.unusedVariables false
set_option linter.unusedSimpArgs false
set_option maxRecDepth 8000
set_option maxHeartbeats 8000000
theorem rv_agv {S : Nat → Prop} {B : Nat} {β : Nat → Nat → Value} {w : World} {n : Nat} {f f' : Nat → AV} (h : ∀ i, i < n → ∀ v, RV S B β w (f i) v → RV S B β w (f' i) v) (v : Value) (hv : RV S B β w (.ag n f) v) : RV S B β w (.ag n f') v := by
  obtain ⟨cs, e1, e2, e3⟩ := hv
  refine ⟨cs, e1, e2, fun i hi => ?_⟩
  obtain ⟨y, a0, a1, a2⟩ := e3 i hi
  exact ⟨y, a0, a1, h i hi y a2⟩
theorem Has.agv {P : Program} {f : FuncId} {n : Nat} {u u' : Nat → AV} {xs : List AV} {r : AV} (h : ∀ S B β w i, i < n → ∀ v, RV S B β w (u i) v → RV S B β w (u' i) v) (H : Has P f (.ag n u' :: xs) r) : Has P f (.ag n u :: xs) r :=
  Has.args H fun S B β w vs hv => rvs_cons (rv_agv (h S B β w)) rvs_same hv
theorem rv_nil0 {S : Nat → Prop} {B : Nat} {β : Nat → Nat → Value} {w : World} {f : Nat → RA} (v : Value) (hv : RV S B β w (.v (.slice none 0 0)) v) : RV S B β w (.row false 0 f) v :=
  ⟨none, 0, hv, Nat.le_refl _, Nat.zero_le _, fun i hi => absurd hi (Nat.not_lt_zero _)⟩
def kg : GD := ⟨3, 1, 0, 1, 0, 0, 0, fun _ => 5, fun _ => 0, fun _ => 0, fun _ => 0⟩
theorem kg_ok : kg.OK := by
  refine ⟨by decide, by decide, by decide, by decide, by decide, fun h => (by cases h), fun _ => rfl, ?_, ⟨fun i _ => by show wt 5 ≤ 4; decide, fun i hi => absurd hi (Nat.not_lt_zero _), fun i hi => absurd hi (Nat.not_lt_zero _), fun i hi => absurd hi (Nat.not_lt_zero _)⟩, fun i hi j hj => absurd hj (Nat.not_lt_zero _)⟩
  intro i hi
  have hi4 : i = 0 ∨ i = 1 ∨ i = 2 ∨ i = 3 := by omega
  rcases hi4 with rfl | rfl | rfl | rfl <;> decide
theorem kg_args {S : Nat → Prop} {B : Nat} {β : Nat → Nat → Value} {w : World} {u : Nat → AV} {q : Nat → RA} (h0 : u 0 = .i 3) (h1 : u 1 = .i 1) (h2 : u 2 = .i 0) (h3 : u 3 = .row false 1 q) (hq : q 0 = .q 5) (h4 : u 4 = .v (.slice none 0 0)) (h5 : u 5 = .v (.slice none 0 0)) (h6 : u 6 = .v (.slice none 0 0)) : ∀ i, i < 7 → ∀ v, RV S B β w (u i) v → RV S B β w (kg.f i) v := by
  intro i hi v hv
  match i, hi with
  | 0, _ => rw [h0] at hv; exact hv
  | 1, _ => rw [h1] at hv; exact hv
  | 2, _ => rw [h2] at hv; exact hv
  | 3, _ =>
    rw [h3] at hv
    refine rv_row (fun i hi => ?_) v hv
    have hi : i < 1 := hi
    obtain rfl : i = 0 := by omega
    exact hq
  | 4, _ => rw [h4] at hv; exact rv_nil0 v hv
  | 5, _ => rw [h5] at hv; exact rv_nil0 v hv
  | 6, _ => rw [h6] at hv; exact rv_nil0 v hv
theorem k_known5 : Has Try.prog 20 [] (.b true) := by
  have e5 : gent kg 0 0 = 5 := rfl
  have c5 := hs_int 5 (by decide) (by decide)
  refine has_of Try.func20 (by kernel_rfl) rfl Try.ntmps20 Try.results20 rfl rfl rfl ?_
  repeat(first|refine run1p ?_|((with_reducible apply st_call);exact rfl;exact rfl;exact rfl;first|(exact c5))|((with_reducible apply st_callg);exact rfl;exact rfl;(first|exact rfl|assumption);exact rfl;exact rfl;exact rfl;first|(exact c5)))
  repeat(first|refine run1p ?_|((with_reducible apply st_call);exact rfl;exact rfl;exact rfl;first|(exact Has.agv (fun S B β w => kg_args rfl rfl rfl rfl rfl rfl rfl rfl) (ge_expand kg_ok))|(exact Has.agv (fun S B β w => kg_args rfl rfl rfl rfl rfl rfl rfl rfl) (g_check kg_ok))|(exact c5)|(exact hs_same (p := gent kg 0 0) (q := 5) (by rw [e5]; decide) (by decide)))|((with_reducible apply st_callg);exact rfl;exact rfl;(first|exact rfl|assumption);exact rfl;exact rfl;exact rfl;first|(exact Has.agv (fun S B β w => kg_args rfl rfl rfl rfl rfl rfl rfl rfl) (ge_expand kg_ok))|(exact Has.agv (fun S B β w => kg_args rfl rfl rfl rfl rfl rfl rfl rfl) (g_check kg_ok))|(exact c5)|(exact hs_same (p := gent kg 0 0) (q := 5) (by rw [e5]; decide) (by decide))))
  refine ⟨.inr rfl, _, Imp.refl _, .one (.tmp ?_)⟩
  rfl
end Go.Proofs.Ytpclkgjhfhhddaa.AM
/- These systems are refused as they must. -/
namespace Go.Proofs.Ytpclkgjhfhhddaa.AM
open Go Go.RowKit Go.Proofs.Ytpclkgjhfhhddaa.PN Go.Proofs.Ytpclkgjhfhhddaa.V
set_option linter.unusedVariables false
set_option linter.unusedSimpArgs false
set_option maxRecDepth 8000
set_option maxHeartbeats 8000000
/-- A row, whatever it is. -/
def prOf : AV → Option PR
  | .row _ n f => some ⟨n, fun i => (f i).sgn, fun i => raN (f i), fun i => raD (f i)⟩
  | .v (.slice none 0 0) => some ⟨0, fun _ => false, fun _ => [], fun _ => []⟩
  | .prow n s f g => some ⟨n, s, f, g⟩
  | _ => none
theorem prOf_rv {S : Nat → Prop} {B : Nat} {β : Nat → Nat → Value} {w : World} {x : AV} {r : PR} {v : Value} (h : prOf x = some r) (hv : RV S B β w x v) : RV S B β w r.v v := by
  unfold prOf at h
  split at h
  · cases h; exact rv_prow v hv
  · cases h
    have hv : v = .slice none 0 0 := hv
    subst hv
    exact ⟨none, 0, rfl, Nat.le_refl _, Nat.zero_le _, fun i hi => absurd hi (Nat.not_lt_zero _)⟩
  · cases h; exact hv
  · cases h
def intOf : AV → Option Int
  | .v (.int .i64 k) => some k
  | _ => none
theorem intOf_eq {x : AV} {k : Int} (h : intOf x = some k) : x = .i k := by
  unfold intOf at h
  split at h
  · cases h; rfl
  · cases h
/-- A system, whatever it is. -/
def grOf (u : Nat → AV) : Option GR := match intOf (u 0), intOf (u 1), intOf (u 2), prOf (u 3), prOf (u 4), prOf (u 5), prOf (u 6) with
  | some k, some n, some r, some A, some B, some G, some H => some ⟨k, n, r, A, B, G, H⟩
  | _, _, _, _, _, _, _ => none
theorem grOf_rv {S : Nat → Prop} {B : Nat} {β : Nat → Nat → Value} {w : World} {u : Nat → AV} {g : GR} (h : grOf u = some g) (v : Value) (hv : RV S B β w (.ag 7 u) v) : RV S B β w g.v v := by
  unfold grOf at h
  split at h
  · rename_i e0 e1 e2 e3 e4 e5 e6
    cases h
    obtain ⟨cs, c1, c2, c3⟩ := hv
    refine ⟨cs, c1, c2, fun i hi => ?_⟩
    obtain ⟨y, a0, a1, a2⟩ := c3 i hi
    refine ⟨y, a0, a1, ?_⟩
    match i, hi with
    | 0, _ => rw [intOf_eq e0] at a2; exact a2
    | 1, _ => rw [intOf_eq e1] at a2; exact a2
    | 2, _ => rw [intOf_eq e2] at a2; exact a2
    | 3, _ => exact prOf_rv e3 a2
    | 4, _ => exact prOf_rv e4 a2
    | 5, _ => exact prOf_rv e5 a2
    | 6, _ => exact prOf_rv e6 a2
  · cases h
theorem Has.gr {P : Program} {f : FuncId} {u : Nat → AV} {g : GR} {xs : List AV} {r : AV} (h : grOf u = some g) (H : Has P f (g.v :: xs) r) : Has P f (.ag 7 u :: xs) r :=
  Has.args H fun S B β w vs hv => rvs_cons (grOf_rv h) rvs_same hv
instance (l : List Nat) : Decidable (LF l) := inferInstanceAs (Decidable (∀ x ∈ l, x < B))
def PR.finB (r : PR) : Bool := decide (∀ i, i < r.m → LF (r.f i)) && decide (∀ i, i < r.m → LF (r.g i))
def GR.finB (g : GR) : Bool := g.A.finB && g.B.finB && g.G.finB && g.H.finB
/-- Whole numbers in a row. -/
def zq (l : List Int) (i : Nat) : Rat := ((l.getD i 0 : Int) : Rat)
/-- The systems that are refused. -/
def nilA : AV := .v (.slice none 0 0)
def oneA : AV := .row false 1 fun i => .q (zq [1] i)
def rawA (s : Bool) (n d : List Nat) : AV := .row false 1 fun i => [RA.raw s n d].getD i ra0
def erL : List (List AV) := [
  [.i 0, .i 0, .i 0, nilA, nilA, nilA, nilA], [.i 8, .i 1, .i 0, nilA, nilA, nilA, nilA], [.i 1, .i 0, .i 0, nilA, nilA, nilA, nilA], [.i 1, .i 9, .i 0, nilA, nilA, nilA, nilA],
  [.i 3, .i 1, .i 1, oneA, nilA, nilA, nilA], [.i 6, .i 1, .i 0, nilA, nilA, oneA, oneA], [.i 7, .i 1, .i 4, nilA, nilA, nilA, nilA], [.i 1, .i 2, .i 0, oneA, nilA, nilA, nilA],
  [.i 3, .i 1, .i 0, oneA, oneA, nilA, nilA], [.i 5, .i 1, .i 0, oneA, oneA, nilA, nilA], [.i 5, .i 2, .i 0, .row false 2 fun i => .q (zq [1, 2] i), .row false 2 fun i => .q (zq [3, 2] i), nilA, nilA],
  [.i 3, .i 1, .i 0, rawA false [] [], nilA, nilA, nilA], [.i 3, .i 1, .i 0, rawA false [0, 0, 0, 0, 1] [1], nilA, nilA, nilA], [.i 3, .i 1, .i 0, rawA false [2] [4], nilA, nilA, nilA],
  [.i 6, .i 1, .i 1, nilA, nilA, oneA, rawA true [] [1]]]
def erW : List Int := [2, 2, 1, 1, 1, 1, 1, 3, 3, 5, 5, 1, 1, 1, 1]
def erU (i j : Nat) : AV := (erL.getD i []).getD j (.v undef)
def erG (i : Nat) : GR := (grOf (erU i)).getD ⟨0, 0, 0, ⟨0, fun _ => false, fun _ => [], fun _ => []⟩, ⟨0, fun _ => false, fun _ => [], fun _ => []⟩, ⟨0, fun _ => false, fun _ => [], fun _ => []⟩, ⟨0, fun _ => false, fun _ => [], fun _ => []⟩⟩
end Go.Proofs.Ytpclkgjhfhhddaa.AM
/- Systems, whatever they are, of right numbers. -/
namespace Go.Proofs.Ytpclkgjhfhhddaa.AM
open Go Go.RowKit Go.Proofs.Ytpclkgjhfhhddaa.PN Go.Proofs.Ytpclkgjhfhhddaa.V
set_option linter.unusedVariables false
set_option linter.unusedSimpArgs false
def prR (m : Nat) (f : Nat → RA) : PR := ⟨m, fun i => (f i).sgn, fun i => raN (f i), fun i => raD (f i)⟩
/-- A system's rows, whatever they are. -/
def grGD (g : GD) : GR := ⟨g.k, g.n, g.r, prR g.la (fun i => .q (g.A i)), prR g.lb (fun i => .q (g.B i)), prR g.lg (fun i => .q (g.G i)), prR g.lh (fun i => .q (g.H i))⟩
end Go.Proofs.Ytpclkgjhfhhddaa.AM
/- GenChecks: Few. -/
namespace Go.Proofs.Ytpclkgjhfhhddaa.AM
open Go Go.RowKit Go.Proofs.Ytpclkgjhfhhddaa.PN Go.Proofs.Ytpclkgjhfhhddaa.V
set_option linter.unusedVariables false
set_option linter.unusedSimpArgs false
set_option maxRecDepth 8000
set_option maxHeartbeats 4000000
def fewR (r : PR) : Bool := decide (r.m ≤ 30) && decide (∀ i : Nat, i < r.m → (r.f i).length ≤ 10 ∧ (r.g i).length ≤ 10)
def rwG (g : GR) (i : Nat) : PR := [g.A, g.B, g.G, g.H].getD i g.A
def fewG (g : GR) : Bool := decide (∀ i : Nat, i < 4 → fewR (rwG g i) = true)
theorem rwG_ok {g : GR} (U : Nat → Bool) (i : Nat) : ((rwG g i).v).ok U := trivial
theorem k_few (g : GR) : Has Try.prog 21 [g.v] (.b (fewG g)) := by
  refine has_of Try.func21 (by kernel_rfl) rfl Try.ntmps21 Try.results21 rfl rfl rfl ?_
  refine run0 ?_
  refine awp_loop (fun m' s => ∃ i, i ≤ 4 ∧ (∀ j, j < i → fewR (rwG g j) = true) ∧ m' = 4 - i ∧ s = stl [(3, .own 14 0), (4, .i (i : Int))] [(14, (1, fun _ => .ones WT 4 (fun j => (rwG g j).v)))]) 4 _ (imp_id ?_ ?_) ⟨0, Nat.zero_le _, fun j hj => absurd hj (Nat.not_lt_zero _), rfl, rfl⟩ ?_
  · exact eA
  · refine allh rfl (by decide) (bleo rfl fun i hi => ?_) (fun i hi => rwG_ok _ i) True.intro
    match i, hi with
    | 0, _ => exact Le.id rfl
    | 1, _ => exact Le.id rfl
    | 2, _ => exact Le.id rfl
    | 3, _ => exact Le.id rfl
  rintro m' s ⟨i, hi, hf, rfl, rfl⟩
  by_cases h1 : i < 4
  · have d1 : decide ((i : Int) < 4) = true := decide_eq_true (by omega)
    have eI : (i : Int).toNat = i := Int.toNat_natCast i
    refine run0 ?_
    refine awp_yes rfl d1 ?_
    refine run0 ?_
    rw [eI]
    have bad : fewR (rwG g i) = false → fewG g = false := fun hb => decide_eq_false fun hall => by rw [hall i h1] at hb; cases hb
    refine awp_if rfl (fun h => ?_) (fun h => ?_)
    · have hb : fewG g = false := bad (by unfold fewR; rw [decide_eq_false (by omega)]; rfl)
      refine run0 ?_
      rw [hb]
      exact ⟨.inr rfl, _, Imp.refl _, .one (.tmp rfl)⟩
    · have hm : (rwG g i).m ≤ 30 := by
        have h : ¬ (30 : Int) < ((rwG g i).m : Int) := h
        omega
      refine run0 ?_
      refine awp_loop (fun m' s => ∃ k, k ≤ (rwG g i).m ∧ (∀ t, t < k → ((rwG g i).f t).length ≤ 10 ∧ ((rwG g i).g t).length ≤ 10) ∧ m' = (rwG g i).m - k ∧ s = stl [(3, .own 14 0), (4, .i (i : Int)), (5, .i (k : Int))] [(14, (1, fun _ => .ones WT 4 (fun j => (rwG g j).v)))]) (rwG g i).m _ (imp_id ?_ ?_) ⟨0, Nat.zero_le _, fun j hj => absurd hj (Nat.not_lt_zero _), rfl, rfl⟩ ?_
      · exact eA
      · exact allh rfl (by decide) (bleo rfl fun i hi => Le.id rfl) (fun i hi => rwG_ok _ i) True.intro
      rintro m' s ⟨k, hk, hkf, rfl, rfl⟩
      have eK : (k : Int).toNat = k := Int.toNat_natCast k
      by_cases h2 : k < (rwG g i).m
      · have d2 : decide ((k : Int) < ((rwG g i).m : Int)) = true := decide_eq_true (by omega)
        refine run0 ?_
        rw [eI]
        refine awp_yes rfl d2 ?_
        have hm' : ((rwG g i).m : Int) ≤ 30 := by omega
        have k0 : (0 : Int) ≤ (k : Int) := by omega
        have k2 : (k : Int) < ((rwG g i).m : Int) := by omega
        by_cases q1 : ((rwG g i).f k).length ≤ 10
        · have e1 : decide ((10 : Int) < (((rwG g i).f k).length : Int)) = false := decide_eq_false (by omega)
          have e1' : (decide ((10 : Int) < (((rwG g i).f k).length : Int)) == false) = true := by rw [e1]; rfl
          by_cases q2 : ((rwG g i).g k).length ≤ 10
          · have e2 : decide ((10 : Int) < (((rwG g i).g k).length : Int)) = false := decide_eq_false (by omega)
            refine run0 ?_
            rw [eI, eK]
            refine awp_no rfl e2 ?_
            refine run0 ?_
            refine q_loop (m' := (rwG g i).m - (k + 1)) (by omega) (imp_id ?_ ?_) ⟨k + 1, by omega, fun j hj => ?_, rfl, rfl⟩
            · exact eA
            · exact allh rfl (by decide) (bleo rfl fun i hi => Le.id rfl) (fun i hi => rwG_ok _ i) True.intro
            · rcases Nat.lt_or_ge j k with c | c
              · exact hkf j c
              · obtain rfl : j = k := by omega
                exact ⟨q1, q2⟩
          · have e2 : decide ((10 : Int) < (((rwG g i).g k).length : Int)) = true := decide_eq_true (by omega)
            have hb : fewG g = false := bad (by unfold fewR; rw [decide_eq_true hm, decide_eq_false (fun hall => q2 (hall k h2).2)]; rfl)
            refine run0 ?_
            rw [eI, eK]
            refine awp_yes rfl e2 ?_
            refine run0 ?_
            rw [hb]
            exact ⟨.inr rfl, _, Imp.refl _, .one (.tmp rfl)⟩
        · have e1 : decide ((10 : Int) < (((rwG g i).f k).length : Int)) = true := decide_eq_true (by omega)
          have e1' : (decide ((10 : Int) < (((rwG g i).f k).length : Int)) == false) = false := by rw [e1]; rfl
          have hb : fewG g = false := bad (by unfold fewR; rw [decide_eq_true hm, decide_eq_false (fun hall => q1 (hall k h2).1)]; rfl)
          refine run0 ?_
          refine awp_yes rfl rfl ?_
          refine run0 ?_
          rw [hb]
          exact ⟨.inr rfl, _, Imp.refl _, .one (.tmp rfl)⟩
      · have d2 : decide ((k : Int) < ((rwG g i).m : Int)) = false := decide_eq_false (by omega)
        have hgood : fewR (rwG g i) = true := by
          unfold fewR
          rw [decide_eq_true hm, decide_eq_true fun t ht => hkf t (by omega)]; rfl
        refine run0 ?_
        rw [eI]
        refine awp_no rfl d2 ?_
        refine run0 ?_
        refine q_loop (m' := 4 - (i + 1)) (by omega) (imp_id ?_ ?_) ⟨i + 1, by omega, fun j hj => ?_, rfl, rfl⟩
        · exact eA
        · exact allh rfl (by decide) (bleo rfl fun i hi => Le.id rfl) (fun i hi => rwG_ok _ i) True.intro
        · rcases Nat.lt_or_ge j i with c | c
          · exact hf j c
          · obtain rfl : j = i := by omega
            exact hgood
  · have d1 : decide ((i : Int) < 4) = false := decide_eq_false (by omega)
    have hb : fewG g = true := decide_eq_true fun j hj => hf j (by omega)
    refine run0 ?_
    refine awp_no rfl d1 ?_
    refine run0 ?_
    rw [hb]
    exact ⟨.inr rfl, _, Imp.refl _, .one (.tmp rfl)⟩
end Go.Proofs.Ytpclkgjhfhhddaa.AM
/- Numbers from 0 to n - 1, in each package of laws. -/
namespace Go.Proofs.Ytpclkgjhfhhddaa.AM
open Go Go.RowKit Go.Proofs.Ytpclkgjhfhhddaa.PN Go.Proofs.Ytpclkgjhfhhddaa.V
set_option linter.unusedVariables false
set_option linter.unusedSimpArgs false
end Go.Proofs.Ytpclkgjhfhhddaa.AM
/- Numbers and systems that are handed in. -/
namespace Go.Proofs.Ytpclkgjhfhhddaa.AM
open Go Go.RowKit Go.Proofs.Ytpclkgjhfhhddaa.PN Go.Proofs.Ytpclkgjhfhhddaa.V Go.ChangeShapes
set_option linter.unusedVariables false
set_option linter.unusedSimpArgs false
set_option maxRecDepth 8000
section
variable {H : Type} {enc : TypeId × Value → H} {w : World} {spare : Nat → Bool} {held : Bool}
theorem addr_spot {w : World} {a : Addr} {v : Value} (h : w.cell? (a.add 0) = some v) : ∃ b off, a = ⟨b, off, none⟩ := by
  obtain ⟨b, off, sp⟩ := a
  cases sp with
  | none => exact ⟨b, off, rfl⟩
  | some s =>
    exfalso
    have h : w.cell? ⟨b, off, some s⟩ = some v := h
    unfold World.cell? at h
    split at h
    · simp at h
    · cases h
theorem trod_limbs {fuel : Nat} {cs : List Value} {x : DataW H × List MemPlace} (h : DataW.trod enc Try.prog w 0 spare held fuel 41 cs = some x) : ∃ v l, cs = [v] ∧ (LF l ∧ l.length ≤ 9223372036854775807) ∧ PLb (fun _ => True) w v l := by
  rcases open_ints Try.underlying41 Try.underlying53 (by kernel_rfl) h with ⟨rfl, _⟩ | ⟨a, len, cap, zs, rfl, _, hl, hm, hz, _, hcell, hw⟩
  · exact ⟨_, [], rfl, ⟨(fun x hx => by cases hx), Nat.zero_le _⟩, none, 0, rfl, Nat.le_refl _, fun i hi => absurd hi (Nat.not_lt_zero _)⟩
  · have hlen : len ≤ zs.length := by rw [hz]; split <;> omega
    have hfit : ∀ z ∈ zs, 0 ≤ z ∧ z < 4294967296 := fun z hz => by
      have h := hw z hz
      unfold Lit.wf at h
      rw [Bool.and_eq_true] at h
      have h1 := of_decide_eq_true h.1
      have h2 := of_decide_eq_true h.2
      have e1 : IntKind.u32.min = 0 := by decide
      have e2 : IntKind.u32.max = 4294967295 := by decide
      omega
    have hll : ((zs.take len).map Int.toNat).length = len := by simp; omega
    have hmx : maxLen = 9223372036854775807 := by decide
    refine ⟨_, (zs.take len).map Int.toNat, rfl, ⟨?_, by rw [hll]; omega⟩, some a, cap, by rw [hll], by rw [hll]; exact hl, fun i hi => ?_⟩
    · intro x hx
      obtain ⟨z, hz, rfl⟩ := List.mem_map.1 hx
      have := hfit z (List.mem_of_mem_take hz)
      show z.toNat < 4294967296
      omega
    · rw [hll] at hi
      have hc := hcell i (by omega)
      obtain ⟨b, off, rfl⟩ := addr_spot (hcell 0 (by omega))
      refine ⟨b, off, rfl, .inl trivial, ?_⟩
      rw [add_at] at hc
      rw [hc]
      have hg : zs.getD i 0 = zs[i]'(by omega) := by rw [List.getD_eq_getElem?_getD, List.getElem?_eq_getElem (by omega)]; rfl
      have := hfit (zs[i]'(by omega)) (List.getElem_mem _)
      have e : (((zs.take len).map Int.toNat).getD i 0 : Nat) = (zs.getD i 0).toNat := by
        rw [List.getD_eq_getElem?_getD, List.getElem?_map, List.getElem?_take_of_lt hi, List.getElem?_eq_getElem (by omega), hg]; rfl
      rw [e, hg, Int.toNat_of_nonneg this.1]
theorem trod_num {t : TypeId} (hu : ∃ f0 f1 f2 : Field, Try.prog.underlying t = some (.struct #[f0, f1, f2]) ∧ f0.type = 4 ∧ f1.type = 41 ∧ f2.type = 41 ∧ f0.offset = 0 ∧ f1.offset = 1 ∧ f2.offset = 2) (hc : Try.prog.cellsOf t = 3) (h1 : Try.prog.cellsOf 4 = 1) (h2 : Try.prog.cellsOf 41 = 1)
    {fuel : Nat} {cs : List Value} {x : DataW H × List MemPlace} (h : DataW.trod enc Try.prog w 0 spare held fuel t cs = some x) : ∃ s vn vd n d, cs = [.bool s, vn, vd] ∧ ((LF n ∧ n.length ≤ 9223372036854775807) ∧ PLb (fun _ => True) w vn n) ∧ (LF d ∧ d.length ≤ 9223372036854775807) ∧ PLb (fun _ => True) w vd d := by
  obtain ⟨f0, f1, f2, hu, t0, t1, t2, o0, o1, o2⟩ := hu
  obtain ⟨y0, y1, y2, m, _, hl, q0, q1, q2⟩ := Go.Deep.trod_struct3 hu h
  rw [t0, o0, h1] at q0; rw [t1, o1, h2] at q1; rw [t2, o2, h2] at q2
  rw [hc] at hl
  match cs, hl with
  | [a, b, c], _ =>
    have q0 : DataW.trod enc Try.prog w 0 spare held m 4 [a] = some y0 := q0
    have q1 : DataW.trod enc Try.prog w 0 spare held m 41 [b] = some y1 := q1
    have q2 : DataW.trod enc Try.prog w 0 spare held m 41 [c] = some y2 := q2
    obtain ⟨s, hs, _⟩ := DataW.trod_bool Try.underlying4 q0
    obtain ⟨vn, n, e1, e2⟩ := trod_limbs q1
    obtain ⟨vd, d, e3, e4⟩ := trod_limbs q2
    cases hs; cases e1; cases e3
    exact ⟨s, b, c, n, d, rfl, e2, e4⟩
theorem trod_nums {t : TypeId} (hu : Try.prog.underlying 24 = some (.slice t)) (hs : ∃ f0 f1 f2 : Field, Try.prog.underlying t = some (.struct #[f0, f1, f2]) ∧ f0.type = 4 ∧ f1.type = 41 ∧ f2.type = 41 ∧ f0.offset = 0 ∧ f1.offset = 1 ∧ f2.offset = 2) (hc : Try.prog.cellsOf t = 3) (h1 : Try.prog.cellsOf 4 = 1) (h2 : Try.prog.cellsOf 41 = 1)
    {fuel : Nat} {cs : List Value} {x : DataW H × List MemPlace} (h : DataW.trod enc Try.prog w 0 spare held fuel 24 cs = some x) (B : Nat) (β : Nat → Nat → Value) : ∃ v r, cs = [v] ∧ PR.Fin r ∧ RV (fun _ => True) B β w r.v v := by
  rcases DataW.trod_slice hu h with ⟨rfl, _⟩ | ⟨a, len, cap, elems, rest, n, _, rfl, _, _, hl, hm, hlen, hel, _, _⟩
  · exact ⟨_, ⟨0, fun _ => false, fun _ => [], fun _ => []⟩, rfl, ⟨fun i hi => absurd hi (Nat.not_lt_zero _), fun i hi => absurd hi (Nat.not_lt_zero _)⟩, none, 0, rfl, Nat.le_refl _, Nat.zero_le _, fun i hi => absurd hi (Nat.not_lt_zero _)⟩
  · have each : ∀ i, ∃ t : Bool × List Nat × List Nat, i < len → ((LF t.2.1 ∧ LF t.2.2) ∧ ∃ vn vd, w.cell? ((a.add (i * 3)).add 0) = some (.bool t.1) ∧ w.cell? ((a.add (i * 3)).add 1) = some vn ∧ w.cell? ((a.add (i * 3)).add 2) = some vd ∧ PLb (fun _ => True) w vn t.2.1 ∧ PLb (fun _ => True) w vd t.2.2) := by
      intro i
      by_cases hi : i < len
      · have he := hel i hi
        rw [hc, List.getElem?_eq_getElem (by omega), Option.bind_eq_some_iff] at he
        obtain ⟨cs', hcs, hy⟩ := he
        obtain ⟨s, vn, vd, n, d, rfl, ⟨⟨q1, _⟩, q2⟩, ⟨q3, _⟩, q4⟩ := trod_num hs hc h1 h2 hy
        obtain ⟨_, _, hg⟩ := World.cells?_some hcs
        exact ⟨(s, n, d), fun _ => ⟨⟨q1, q3⟩, vn, vd, hg 0 (by decide), hg 1 (by decide), hg 2 (by decide), q2, q4⟩⟩
      · exact ⟨(false, [], []), fun h => absurd h hi⟩
    obtain ⟨t, ht⟩ := Classical.axiomOfChoice each
    refine ⟨_, ⟨len, fun i => (t i).1, fun i => (t i).2.1, fun i => (t i).2.2⟩, rfl, ⟨fun i hi => (ht i hi).1.1, fun i hi => (ht i hi).1.2⟩, some a, cap, rfl, hl, hm, fun i hi => ?_⟩
    have hi : i < len := hi
    obtain ⟨_, vn0, vd0, z0, _⟩ := ht 0 (show 0 < len by omega)
    obtain ⟨b, off, rfl⟩ : ∃ b off, a = ⟨b, off, none⟩ := addr_spot (v := .bool (t 0).1) (by
      have e : ((a.add (0 * 3)).add 0) = a.add 0 := rfl
      rw [e] at z0; exact z0)
    obtain ⟨_, vn, vd, c0, c1, c2, c3, c4⟩ := ht i hi
    refine ⟨b, off, rfl, trivial, vn, vd, ?_, ?_, ?_, c3, c4⟩
    · rw [add_at, add_at, Nat.add_zero] at c0; exact c0
    · rw [add_at, add_at] at c1; exact c1
    · rw [add_at, add_at] at c2; exact c2
end
theorem cells3 {v a b c : Value} (h : v.cells.toList = [a, b, c]) : v = .agg #[a, b, c] := by
  cases v with
  | agg cs =>
    have h : cs.toList = [a, b, c] := h
    congr 1
    exact Array.ext' h
  | _ => cases h
theorem plb_cell {S : Nat → Prop} {w : World} {v : Value} {l : List Nat} (h : PLb S w v l) : v.oneCell' = true := by
  obtain ⟨A, c, rfl, _⟩ := h
  rfl
theorem rv_num {S : Nat → Prop} {B : Nat} {β : Nat → Nat → Value} {w : World} {s : Bool} {u v : Value} {n d : List Nat} (h : PLb S w u n) (k : PLb S w v d) : RV S B β w (.ag 3 (pag s n d)) (.agg #[.bool s, u, v]) :=
  ⟨#[.bool s, u, v], rfl, rfl, fun i hi => by
    match i, hi with
    | 0, _ => exact ⟨_, rfl, rfl, rfl⟩
    | 1, _ => exact ⟨_, rfl, plb_cell h, h⟩
    | 2, _ => exact ⟨_, rfl, plb_cell k, k⟩⟩
end Go.Proofs.Ytpclkgjhfhhddaa.AM

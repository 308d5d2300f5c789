/- Joined texts, 20: RwE MkD LawVa. -/
import Derived.Test.YtpclkgjhfhhddaaJLawGenErrs19
import Derived.Test.YtpclkgjhfhhddaaJLawGenErrs17
set_option linter.unusedVariables false
set_option linter.unusedSimpArgs false
/- The document's check of whatever comes in (printed by gen/gen_rwe.py). -/
namespace Go.Proofs.Ytpclkgjhfhhddaa.AM
open Go Go.RowKit Go.Proofs.Ytpclkgjhfhhddaa.PN Go.Proofs.Ytpclkgjhfhhddaa.V
set_option linter.unusedVariables false
set_option linter.unusedSimpArgs false
set_option maxRecDepth 8000
set_option maxHeartbeats 8000000
theorem r5_countsr {k n r : Nat} {A B G H : PR} (h1 : 1 ≤ k) (h7 : k ≤ 7) (n1 : 1 ≤ n) (n8 : n ≤ 8) (r3 : r ≤ 3) : Has Try.prog 31 [GR.v ⟨k, n, r, A, B, G, H⟩] (.tup3 (.i (cnA k n)) (.i (cnB k n)) (.i (cnH k n r))) := by
  have hk : k = 1 ∨ k = 2 ∨ k = 3 ∨ k = 4 ∨ k = 5 ∨ k = 6 ∨ k = 7 := by omega
  have em : (n : Int) * (r : Int) = ((n * r : Nat) : Int) := (Int.natCast_mul n r).symm
  have hnr : n * r ≤ 8 * 3 := Nat.mul_le_mul n8 r3
  have q1 : -9223372036854775808 ≤ (n : Int) * (r : Int) := by rw [em]; omega
  have q2 : (n : Int) * (r : Int) ≤ 9223372036854775807 := by rw [em]; omega
  refine has_of Try.func31 (by kernel_rfl) rfl Try.ntmps31 Try.results31 rfl rfl rfl ?_
  refine run0 ?_
  rcases hk with rfl | rfl | rfl | rfl | rfl | rfl | rfl
  · skip
    refine awp_yes rfl rfl ?_
    refine run0 ?_
    refine awp_yes rfl rfl ?_
    refine run0 ?_
    rw [show (2 : Int) * n - 1 = ((cnA 1 n : Nat) : Int) from by show (2 : Int) * n - 1 = ((2 * n - 1 : Nat) : Int); omega]
    exact ⟨.inr rfl, _, Imp.refl _, .three (.tmp rfl) (.tmp rfl) (.tmp rfl)⟩
  · skip
    refine awp_no rfl rfl ?_
    refine run0 ?_
    refine awp_yes rfl rfl ?_
    refine run0 ?_
    rw [show (2 : Int) * n - 1 = ((cnA 2 n : Nat) : Int) from by show (2 : Int) * n - 1 = ((2 * n - 1 : Nat) : Int); omega]
    exact ⟨.inr rfl, _, Imp.refl _, .three (.tmp rfl) (.tmp rfl) (.tmp rfl)⟩
  · skip
    refine awp_no rfl rfl ?_
    refine run0 ?_
    refine awp_no rfl rfl ?_
    refine run0 ?_
    refine awp_yes rfl rfl ?_
    refine run0 ?_
    refine awp_yes rfl rfl ?_
    refine run0 ?_
    exact ⟨.inr rfl, _, Imp.refl _, .three (.tmp rfl) (.tmp rfl) (.tmp rfl)⟩
  · skip
    refine awp_no rfl rfl ?_
    refine run0 ?_
    refine awp_no rfl rfl ?_
    refine run0 ?_
    refine awp_no rfl rfl ?_
    refine run0 ?_
    refine awp_yes rfl rfl ?_
    refine run0 ?_
    exact ⟨.inr rfl, _, Imp.refl _, .three (.tmp rfl) (.tmp rfl) (.tmp rfl)⟩
  · skip
    refine awp_no rfl rfl ?_
    refine run0 ?_
    refine awp_no rfl rfl ?_
    refine run0 ?_
    refine awp_no rfl rfl ?_
    refine run0 ?_
    refine awp_no rfl rfl ?_
    refine run0 ?_
    refine awp_yes rfl rfl ?_
    refine run0 ?_
    exact ⟨.inr rfl, _, Imp.refl _, .three (.tmp rfl) (.tmp rfl) (.tmp rfl)⟩
  · skip
    refine awp_no rfl rfl ?_
    refine run0 ?_
    refine awp_no rfl rfl ?_
    refine run0 ?_
    refine awp_no rfl rfl ?_
    refine run0 ?_
    refine awp_no rfl rfl ?_
    refine run0 ?_
    refine awp_no rfl rfl ?_
    refine run0 ?_
    refine awp_yes rfl rfl ?_
    refine run0 ?_
    rw [em]
    exact ⟨.inr rfl, _, Imp.refl _, .three (.tmp rfl) (.tmp rfl) (.tmp rfl)⟩
  · skip
    refine awp_no rfl rfl ?_
    refine run0 ?_
    refine awp_no rfl rfl ?_
    refine run0 ?_
    refine awp_no rfl rfl ?_
    refine run0 ?_
    refine awp_no rfl rfl ?_
    refine run0 ?_
    refine awp_no rfl rfl ?_
    refine run0 ?_
    refine awp_no rfl rfl ?_
    refine run0 ?_
    rw [em]
    exact ⟨.inr rfl, _, Imp.refl _, .three (.tmp rfl) (.tmp rfl) (.tmp rfl)⟩
/-- What the rows' lengths are. -/
theorem cnt_eq {k n r : Nat} (h1 : 1 ≤ k) (h7 : k ≤ 7) (n1 : 1 ≤ n) : cnt k n r 0 = (cnA k n : Nat) ∧ cnt k n r 1 = (cnB k n : Nat) ∧ cnt k n r 2 = (cnH k n r : Nat) ∧ cnt k n r 3 = (cnH k n r : Nat) := by
  have e : ((n * r : Nat) : Int) = (n : Int) * r := Int.natCast_mul n r
  have hk : k = 1 ∨ k = 2 ∨ k = 3 ∨ k = 4 ∨ k = 5 ∨ k = 6 ∨ k = 7 := by omega
  have c : ∀ (x y z n r : Int), x = 0 → y = 1 → z = 0 → x * n + y * n * r + z = n * r := by intro x y z n r hx hy hz; subst hx; subst hy; subst hz; simp
  have d : ∀ (x y z n r : Int), x = 1 → y = 0 → z = 0 → x * n + y * n * r + z = n := by intro x y z n r hx hy hz; subst hx; subst hy; subst hz; simp
  have f : ∀ (x y z n r : Int), x = 2 → y = 0 → z = -1 → x * n + y * n * r + z = 2 * n - 1 := by intro x y z n r hx hy hz; subst hx; subst hy; subst hz; simp; omega
  have z : ∀ (x y z n r : Int), x = 0 → y = 0 → z = 0 → x * n + y * n * r + z = 0 := by intro x y z n r hx hy hz; subst hx; subst hy; subst hz; simp
  unfold cnt
  rcases hk with rfl | rfl | rfl | rfl | rfl | rfl | rfl
  all_goals
    refine ⟨?_, ?_, ?_, ?_⟩
    all_goals
      simp only [cnA, cnB, cnH]
      first
        | (rw [z _ _ _ _ _ (by decide) (by decide) (by decide)] <;> omega)
        | (rw [f _ _ _ _ _ (by decide) (by decide) (by decide)] <;> omega)
        | (rw [d _ _ _ _ _ (by decide) (by decide) (by decide)] <;> omega)
        | (rw [c _ _ _ _ _ (by decide) (by decide) (by decide)] <;> omega)
theorem r5_rightr {r : PR} (hf : r.Fin) (hn : r.m ≤ 1000000) : Has Try.prog 56 [r.v] (.b r.sm) := by
  have step : ∀ i, i < r.m → ∀ (h : (i : Nat) < r.m), smB (r.s i) (r.f i) (r.g i) = (decide ((r.f i).length ≤ 4) && decide ((r.g i).length ≤ 4) && rgtB (r.s i) (r.f i) (r.g i)) := fun i hi h => rfl
  by_cases hall : ∀ i, i < r.m → smB (r.s i) (r.f i) (r.g i) = true
  · rw [show r.sm = true from decide_eq_true hall]
    refine has_of Try.func56 (by kernel_rfl) rfl Try.ntmps56 Try.results56 rfl rfl rfl ?_
    refine run0p ?_
    refine awp_loop (fun m' s => ∃ i, i ≤ r.m ∧ m' = r.m - i ∧ s = stl [(0, r.v), (3, .i (i : Int))] []) r.m _ (imp_id ?_ ?_) ⟨0, Nat.zero_le _, rfl, rfl⟩ ?_
    · refine alle rfl (Le.id rfl) True.intro ?_
      exact eA
    · exact hA
    rintro m' s ⟨i, hi, rfl, rfl⟩
    refine run0p ?_
    refine awp_if rfl (fun h => ?_) (fun h => ?_)
    · have h : i < r.m := by omega
      have hs := hall i h
      unfold smB at hs
      rw [Bool.and_eq_true, Bool.and_eq_true] at hs
      have l1 := of_decide_eq_true hs.1.1
      have l2 := of_decide_eq_true hs.1.2
      have cr := pr_rright (s := r.s i) (hf.f i h) (hf.g i h) (by omega) (by omega)
      rw [hs.2] at cr
      have f1 : decide ((4 : Int) < (((r.f i).length : Nat) : Int)) = false := decide_eq_false (by omega)
      have f2 : (decide ((4 : Int) < (((r.f i).length : Nat) : Int)) == false) = true := by rw [f1]; rfl
      have f3 : decide ((4 : Int) < (((r.g i).length : Nat) : Int)) = false := decide_eq_false (by omega)
      have f4 : (decide ((4 : Int) < (((r.g i).length : Nat) : Int)) == false) = true := by rw [f3]; rfl
      repeat(first|refine run1p ?_|((with_reducible apply st_call);exact rfl;exact rfl;exact rfl;first|(exact Has.p1 rfl rfl rfl cr))|((with_reducible apply st_callg);exact rfl;exact rfl;(first|exact rfl|assumption);exact rfl;exact rfl;exact rfl;first|(exact Has.p1 rfl rfl rfl cr)))
      refine awp_no rfl rfl ?_
      refine run0p ?_
      refine q_loop ?_ (imp_id ?_ ?_) ⟨i + 1, ?_, rfl, rfl⟩
      · omega
      · refine alle rfl (Le.id rfl) True.intro ?_
        exact eA
      · exact hA
      · omega
    · refine run0p ?_
      exact ⟨.inr rfl, _, Imp.refl _, .one (.tmp rfl)⟩
  · rw [show r.sm = false from decide_eq_false hall]
    obtain ⟨k0, hk0, hb0, hlt⟩ := first_true (b := fun i => !smB (r.s i) (r.f i) (r.g i)) r.m (fun h => hall fun i hi => by have := h i hi; simpa using this)
    have hlt : ∀ i, i < k0 → smB (r.s i) (r.f i) (r.g i) = true := fun i hi => by have := hlt i hi; simpa using this
    have hb0 : smB (r.s k0) (r.f k0) (r.g k0) = false := by simpa using hb0
    refine has_of Try.func56 (by kernel_rfl) rfl Try.ntmps56 Try.results56 rfl rfl rfl ?_
    refine run0p ?_
    refine awp_loop (fun m' s => ∃ i, i ≤ k0 ∧ m' = r.m - i ∧ s = stl [(0, r.v), (3, .i (i : Int))] []) r.m _ (imp_id ?_ ?_) ⟨0, Nat.zero_le _, rfl, rfl⟩ ?_
    · refine alle rfl (Le.id rfl) True.intro ?_
      exact eA
    · exact hA
    rintro m' s ⟨i, hi, rfl, rfl⟩
    have h : i < r.m := by omega
    refine run0p ?_
    refine awp_yes rfl (decide_eq_true (by omega)) ?_
    by_cases e : i = k0
    · subst e
      unfold smB at hb0
      by_cases l1 : (r.f i).length ≤ 4
      · have f1 : decide ((4 : Int) < (((r.f i).length : Nat) : Int)) = false := decide_eq_false (by omega)
        have f2 : (decide ((4 : Int) < (((r.f i).length : Nat) : Int)) == false) = true := by rw [f1]; rfl
        by_cases l2 : (r.g i).length ≤ 4
        · have f3 : decide ((4 : Int) < (((r.g i).length : Nat) : Int)) = false := decide_eq_false (by omega)
          have f4 : (decide ((4 : Int) < (((r.g i).length : Nat) : Int)) == false) = true := by rw [f3]; rfl
          have cr := pr_rright (s := r.s i) (hf.f i h) (hf.g i h) (by omega) (by omega)
          rw [decide_eq_true l1, decide_eq_true l2, Bool.true_and, Bool.true_and] at hb0
          rw [hb0] at cr
          repeat(first|refine run1p ?_|((with_reducible apply st_call);exact rfl;exact rfl;exact rfl;first|(exact Has.p1 rfl rfl rfl cr))|((with_reducible apply st_callg);exact rfl;exact rfl;(first|exact rfl|assumption);exact rfl;exact rfl;exact rfl;first|(exact Has.p1 rfl rfl rfl cr)))
          refine awp_yes rfl rfl ?_
          refine run0p ?_
          exact ⟨.inr rfl, _, Imp.refl _, .one (.tmp rfl)⟩
        · have f3 : decide ((4 : Int) < (((r.g i).length : Nat) : Int)) = true := decide_eq_true (by omega)
          have f4 : (decide ((4 : Int) < (((r.g i).length : Nat) : Int)) == false) = false := by rw [f3]; rfl
          refine run0p ?_
          refine awp_yes rfl rfl ?_
          refine run0p ?_
          exact ⟨.inr rfl, _, Imp.refl _, .one (.tmp rfl)⟩
      · have f1 : decide ((4 : Int) < (((r.f i).length : Nat) : Int)) = true := decide_eq_true (by omega)
        have f2 : (decide ((4 : Int) < (((r.f i).length : Nat) : Int)) == false) = false := by rw [f1]; rfl
        refine run0p ?_
        refine awp_yes rfl rfl ?_
        refine run0p ?_
        exact ⟨.inr rfl, _, Imp.refl _, .one (.tmp rfl)⟩
    · have hs := hlt i (by omega)
      unfold smB at hs
      rw [Bool.and_eq_true, Bool.and_eq_true] at hs
      have l1 := of_decide_eq_true hs.1.1
      have l2 := of_decide_eq_true hs.1.2
      have cr := pr_rright (s := r.s i) (hf.f i h) (hf.g i h) (by omega) (by omega)
      rw [hs.2] at cr
      have f1 : decide ((4 : Int) < (((r.f i).length : Nat) : Int)) = false := decide_eq_false (by omega)
      have f2 : (decide ((4 : Int) < (((r.f i).length : Nat) : Int)) == false) = true := by rw [f1]; rfl
      have f3 : decide ((4 : Int) < (((r.g i).length : Nat) : Int)) = false := decide_eq_false (by omega)
      have f4 : (decide ((4 : Int) < (((r.g i).length : Nat) : Int)) == false) = true := by rw [f3]; rfl
      repeat(first|refine run1p ?_|((with_reducible apply st_call);exact rfl;exact rfl;exact rfl;first|(exact Has.p1 rfl rfl rfl cr))|((with_reducible apply st_callg);exact rfl;exact rfl;(first|exact rfl|assumption);exact rfl;exact rfl;exact rfl;first|(exact Has.p1 rfl rfl rfl cr)))
      refine awp_no rfl rfl ?_
      refine run0p ?_
      refine q_loop ?_ (imp_id ?_ ?_) ⟨i + 1, ?_, rfl, rfl⟩
      · omega
      · refine alle rfl (Le.id rfl) True.intro ?_
        exact eA
      · exact hA
      · omega
/-- What is wrong with kind and size. -/
def headV (k n r : Int) : Int := bif kindB k then 2 else bif sizedB k n r then 0 else 1
theorem r5_likez {k : Int} : Has Try.prog 30 [.i k] (.b (likeZ k)) := by
  refine has_of Try.func30 (by kernel_rfl) rfl Try.ntmps30 Try.results30 rfl rfl rfl ?_
  by_cases h6 : k = 6
  · have e0 : decide (k = 6) = true := decide_eq_true h6
    have e1 : (decide (k = 6) == false) = false := by rw [e0]; rfl
    refine run0p ?_
    refine ⟨.inr rfl, _, Imp.refl _, ?_⟩
    rw [show likeZ k = true by unfold likeZ; rw [e0]; rfl]
    exact .one (.tmp rfl)
  · have e0 : decide (k = 6) = false := decide_eq_false h6
    have e1 : (decide (k = 6) == false) = true := by rw [e0]; rfl
    refine run0p ?_
    refine ⟨.inr rfl, _, Imp.refl _, ?_⟩
    rw [show likeZ k = decide (k = 7) by unfold likeZ; rw [e0]; rfl]
    exact .one (.tmp rfl)
theorem r5_headr (k n r : Int) (A B G H : PR) : Has Try.prog 43 [GR.v ⟨k, n, r, A, B, G, H⟩] (.i (headV k n r)) := by
  refine has_of Try.func43 (by kernel_rfl) rfl Try.ntmps43 Try.results43 rfl rfl rfl ?_
  by_cases h1 : k < 1
  · have e0 : decide (k < 1) = true := decide_eq_true h1
    have e1 : (decide (k < 1) == false) = false := by rw [e0]; rfl
    rw [show headV k n r = 2 by unfold headV kindB; rw [e0]; rfl]
    refine run0p ?_
    refine awp_yes rfl rfl ?_
    refine run0p ?_
    exact ⟨.inr rfl, _, Imp.refl _, .one (.tmp rfl)⟩
  have e0 : decide (k < 1) = false := decide_eq_false h1
  have e1 : (decide (k < 1) == false) = true := by rw [e0]; rfl
  refine run0p ?_
  by_cases h7 : 7 < k
  · have e2 : decide ((7 : Int) < k) = true := decide_eq_true h7
    rw [show headV k n r = 2 by unfold headV kindB; rw [e0, e2]; rfl]
    refine awp_yes rfl e2 ?_
    refine run0p ?_
    exact ⟨.inr rfl, _, Imp.refl _, .one (.tmp rfl)⟩
  have e2 : decide ((7 : Int) < k) = false := decide_eq_false h7
  refine awp_no rfl e2 ?_
  have cl := r5_likez (k := k)
  rw [show headV k n r = (bif sizedB k n r then 0 else 1) by unfold headV kindB; rw [e0, e2]; rfl]
  by_cases n1 : n < 1
  · have d0 : decide (n < 1) = true := decide_eq_true n1
    have d1 : (decide (n < 1) == false) = false := by rw [d0]; rfl
    rw [show sizedB k n r = false by unfold sizedB; rw [d0]; rfl]
    refine run0p ?_
    refine awp_yes rfl rfl ?_
    refine run0p ?_
    exact ⟨.inr rfl, _, Imp.refl _, .one (.tmp rfl)⟩
  have d0 : decide (n < 1) = false := decide_eq_false n1
  have d1 : (decide (n < 1) == false) = true := by rw [d0]; rfl
  by_cases n8 : 8 < n
  · have d2 : decide ((8 : Int) < n) = true := decide_eq_true n8
    have d3 : (decide ((8 : Int) < n) == false) = false := by rw [d2]; rfl
    rw [show sizedB k n r = false by unfold sizedB; rw [d2]; simp]
    refine run0p ?_
    refine awp_yes rfl rfl ?_
    refine run0p ?_
    exact ⟨.inr rfl, _, Imp.refl _, .one (.tmp rfl)⟩
  have d2 : decide ((8 : Int) < n) = false := decide_eq_false n8
  have d3 : (decide ((8 : Int) < n) == false) = true := by rw [d2]; rfl
  cases hk : likeZ k with
  | true =>
    rw [hk] at cl
    rw [show sizedB k n r = (decide (1 ≤ r) && decide (r ≤ 3)) by unfold sizedB; rw [d0, d2, hk]; rfl]
    by_cases r1 : r < 1
    · have a0 : decide (r < 1) = true := decide_eq_true r1
      have a1 : (decide (r < 1) == false) = false := by rw [a0]; rfl
      rw [decide_eq_false (by omega : ¬ 1 ≤ r)]
      repeat(first|refine run1p ?_|((with_reducible apply st_call);exact rfl;exact rfl;exact rfl;first|(exact cl))|((with_reducible apply st_callg);exact rfl;exact rfl;(first|exact rfl|assumption);exact rfl;exact rfl;exact rfl;first|(exact cl)))
      refine awp_yes rfl rfl ?_
      refine run0p ?_
      exact ⟨.inr rfl, _, Imp.refl _, .one (.tmp rfl)⟩
    have a0 : decide (r < 1) = false := decide_eq_false r1
    have a1 : (decide (r < 1) == false) = true := by rw [a0]; rfl
    by_cases r3 : 3 < r
    · have a2 : decide ((3 : Int) < r) = true := decide_eq_true r3
      have a3 : (decide ((3 : Int) < r) == false) = false := by rw [a2]; rfl
      rw [decide_eq_true (by omega : 1 ≤ r), decide_eq_false (by omega : ¬ r ≤ 3)]
      repeat(first|refine run1p ?_|((with_reducible apply st_call);exact rfl;exact rfl;exact rfl;first|(exact cl))|((with_reducible apply st_callg);exact rfl;exact rfl;(first|exact rfl|assumption);exact rfl;exact rfl;exact rfl;first|(exact cl)))
      refine awp_yes rfl rfl ?_
      refine run0p ?_
      exact ⟨.inr rfl, _, Imp.refl _, .one (.tmp rfl)⟩
    have a2 : decide ((3 : Int) < r) = false := decide_eq_false r3
    have a3 : (decide ((3 : Int) < r) == false) = true := by rw [a2]; rfl
    rw [decide_eq_true (by omega : 1 ≤ r), decide_eq_true (by omega : r ≤ 3)]
    repeat(first|refine run1p ?_|((with_reducible apply st_call);exact rfl;exact rfl;exact rfl;first|(exact cl))|((with_reducible apply st_callg);exact rfl;exact rfl;(first|exact rfl|assumption);exact rfl;exact rfl;exact rfl;first|(exact cl)))
    refine awp_no rfl rfl ?_
    refine run0p ?_
    exact ⟨.inr rfl, _, Imp.refl _, .one (.tmp rfl)⟩
  | false =>
    rw [hk] at cl
    rw [show sizedB k n r = decide (r = 0) by unfold sizedB; rw [d0, d2, hk]; rfl]
    by_cases r0 : r = 0
    · have a0 : decide (r ≠ 0) = false := decide_eq_false fun h => h r0
      have a1 : (decide (r ≠ 0) == false) = true := by rw [a0]; rfl
      rw [decide_eq_true r0]
      repeat(first|refine run1p ?_|((with_reducible apply st_call);exact rfl;exact rfl;exact rfl;first|(exact cl))|((with_reducible apply st_callg);exact rfl;exact rfl;(first|exact rfl|assumption);exact rfl;exact rfl;exact rfl;first|(exact cl)))
      refine awp_no rfl a0 ?_
      refine run0p ?_
      exact ⟨.inr rfl, _, Imp.refl _, .one (.tmp rfl)⟩
    · have a0 : decide (r ≠ 0) = true := decide_eq_true r0
      have a1 : (decide (r ≠ 0) == false) = false := by rw [a0]; rfl
      rw [decide_eq_false r0]
      repeat(first|refine run1p ?_|((with_reducible apply st_call);exact rfl;exact rfl;exact rfl;first|(exact cl))|((with_reducible apply st_callg);exact rfl;exact rfl;(first|exact rfl|assumption);exact rfl;exact rfl;exact rfl;first|(exact cl)))
      refine awp_yes rfl a0 ?_
      refine run0p ?_
      exact ⟨.inr rfl, _, Imp.refl _, .one (.tmp rfl)⟩
/-- Whatever comes in. -/
theorem r5_checkr {g : GR} (hf : g.Fin) : Has Try.prog 23 [g.v] (.i (chk g)) := by
  obtain ⟨k, n, r, A, B, G, H⟩ := g
  obtain ⟨fA, fB, fG, fH⟩ := hf
  change A.Fin at fA
  change B.Fin at fB
  change G.Fin at fG
  change H.Fin at fH
  have ch := r5_headr k n r A B G H
  by_cases hz : headV k n r = 0
  · rw [hz] at ch
    have hkz : kindB k = false ∧ sizedB k n r = true := by
      unfold headV at hz
      cases hk : kindB k with
      | true => rw [hk] at hz; cases hz
      | false => cases hs : sizedB k n r with
        | true => exact ⟨rfl, rfl⟩
        | false => rw [hk, hs] at hz; cases hz
    rw [show chk ⟨k, n, r, A, B, G, H⟩ = chkR ⟨k, n, r, A, B, G, H⟩ by unfold chk; simp only [hkz.1, hkz.2, cond_false, cond_true]]
    obtain ⟨hk, hs⟩ := hkz
    unfold kindB at hk
    rw [Bool.or_eq_false_iff] at hk
    have h1 := of_decide_eq_false hk.1
    have h7 := of_decide_eq_false hk.2
    unfold sizedB at hs
    rw [Bool.and_eq_true, Bool.not_eq_true', Bool.or_eq_false_iff] at hs
    have n1 := of_decide_eq_false hs.1.1
    have n8 := of_decide_eq_false hs.1.2
    have hr : 0 ≤ r ∧ r ≤ 3 := by
      have h := hs.2
      cases hl : likeZ k with
      | true => rw [hl, cond_true, Bool.and_eq_true] at h; have a := of_decide_eq_true h.1; have b := of_decide_eq_true h.2; omega
      | false => rw [hl, cond_false] at h; have a := of_decide_eq_true h; omega
    clear hs hk hz
    obtain ⟨k, rfl⟩ : ∃ k' : Nat, k = k' := ⟨k.toNat, by omega⟩
    obtain ⟨n, rfl⟩ : ∃ n' : Nat, n = n' := ⟨n.toNat, by omega⟩
    obtain ⟨r, rfl⟩ : ∃ r' : Nat, r = r' := ⟨r.toNat, by omega⟩
    obtain ⟨w0, w1, w2, w3⟩ := cnt_eq (k := k) (n := n) (r := r) (by omega) (by omega) (by omega)
    have cc := r5_countsr (k := k) (n := n) (r := r) (A := A) (B := B) (G := G) (H := H) (by omega) (by omega) (by omega) (by omega) (by omega)
    have nr : n * r ≤ 8 * 3 := Nat.mul_le_mul (by omega) (by omega)
    have bA : cnA k n ≤ 1000000 := by unfold cnA; split <;> omega
    have bB : cnB k n ≤ 1000000 := by unfold cnB; split <;> omega
    have bH : cnH k n r ≤ 1000000 := by unfold cnH; split <;> omega
    show Has Try.prog _ _ (.i (chkV (A.len (cnt k n r 0)) (B.len (cnt k n r 1)) (G.len (cnt k n r 2)) (H.len (cnt k n r 3)) A.sm B.sm G.sm H.sm (A.meets B)))
    rw [w0, w1, w2, w3]
    generalize ea : cnA k n = a at *
    generalize eb : cnB k n = b at *
    generalize eh : cnH k n r = h at *
    have q0 : decide ((A.m : Int) ≠ (a : Nat)) = !A.len (a : Nat) := by unfold PR.len; simp
    have q1 : decide ((B.m : Int) ≠ (b : Nat)) = !B.len (b : Nat) := by unfold PR.len; simp
    have q2 : decide ((G.m : Int) ≠ (h : Nat)) = !G.len (h : Nat) := by unfold PR.len; simp
    have q3 : decide ((H.m : Int) ≠ (h : Nat)) = !H.len (h : Nat) := by unfold PR.len; simp
    have p0 : (decide ((A.m : Int) ≠ (a : Nat)) == false) = A.len (a : Nat) := by rw [q0]; cases A.len (a : Nat) <;> rfl
    have p1 : (decide ((B.m : Int) ≠ (b : Nat)) == false) = B.len (b : Nat) := by rw [q1]; cases B.len (b : Nat) <;> rfl
    have p2 : (decide ((G.m : Int) ≠ (h : Nat)) == false) = G.len (h : Nat) := by rw [q2]; cases G.len (h : Nat) <;> rfl
    cases l0 : A.len (a : Nat) with
    | false =>
      rw [l0] at q0 p0
      refine has_of Try.func23 (by kernel_rfl) rfl Try.ntmps23 Try.results23 rfl rfl rfl ?_
      repeat(first|refine run1p ?_|((with_reducible apply st_call);exact rfl;exact rfl;exact rfl;first|(exact Has.ag (g7 rfl rfl rfl rfl rfl rfl rfl) ch))|((with_reducible apply st_callg);exact rfl;exact rfl;(first|exact rfl|assumption);exact rfl;exact rfl;exact rfl;first|(exact Has.ag (g7 rfl rfl rfl rfl rfl rfl rfl) ch)))
      refine awp_no rfl rfl ?_
      repeat(first|refine run1p ?_|((with_reducible apply st_call);exact rfl;exact rfl;exact rfl;first|(exact Has.ag (g7 rfl rfl rfl rfl rfl rfl rfl) cc))|((with_reducible apply st_callg);exact rfl;exact rfl;(first|exact rfl|assumption);exact rfl;exact rfl;exact rfl;first|(exact Has.ag (g7 rfl rfl rfl rfl rfl rfl rfl) cc)))
      refine awp_yes rfl rfl ?_
      refine run0p ?_
      exact ⟨.inr rfl, _, Imp.refl _, .one (.tmp rfl)⟩
    | true =>
    rw [l0] at q0 p0
    cases l1 : B.len (b : Nat) with
    | false =>
      rw [l1] at q1 p1
      refine has_of Try.func23 (by kernel_rfl) rfl Try.ntmps23 Try.results23 rfl rfl rfl ?_
      repeat(first|refine run1p ?_|((with_reducible apply st_call);exact rfl;exact rfl;exact rfl;first|(exact Has.ag (g7 rfl rfl rfl rfl rfl rfl rfl) ch))|((with_reducible apply st_callg);exact rfl;exact rfl;(first|exact rfl|assumption);exact rfl;exact rfl;exact rfl;first|(exact Has.ag (g7 rfl rfl rfl rfl rfl rfl rfl) ch)))
      refine awp_no rfl rfl ?_
      repeat(first|refine run1p ?_|((with_reducible apply st_call);exact rfl;exact rfl;exact rfl;first|(exact Has.ag (g7 rfl rfl rfl rfl rfl rfl rfl) cc))|((with_reducible apply st_callg);exact rfl;exact rfl;(first|exact rfl|assumption);exact rfl;exact rfl;exact rfl;first|(exact Has.ag (g7 rfl rfl rfl rfl rfl rfl rfl) cc)))
      refine awp_yes rfl rfl ?_
      refine run0p ?_
      exact ⟨.inr rfl, _, Imp.refl _, .one (.tmp rfl)⟩
    | true =>
    rw [l1] at q1 p1
    cases l2 : G.len (h : Nat) with
    | false =>
      rw [l2] at q2 p2
      refine has_of Try.func23 (by kernel_rfl) rfl Try.ntmps23 Try.results23 rfl rfl rfl ?_
      repeat(first|refine run1p ?_|((with_reducible apply st_call);exact rfl;exact rfl;exact rfl;first|(exact Has.ag (g7 rfl rfl rfl rfl rfl rfl rfl) ch))|((with_reducible apply st_callg);exact rfl;exact rfl;(first|exact rfl|assumption);exact rfl;exact rfl;exact rfl;first|(exact Has.ag (g7 rfl rfl rfl rfl rfl rfl rfl) ch)))
      refine awp_no rfl rfl ?_
      repeat(first|refine run1p ?_|((with_reducible apply st_call);exact rfl;exact rfl;exact rfl;first|(exact Has.ag (g7 rfl rfl rfl rfl rfl rfl rfl) cc))|((with_reducible apply st_callg);exact rfl;exact rfl;(first|exact rfl|assumption);exact rfl;exact rfl;exact rfl;first|(exact Has.ag (g7 rfl rfl rfl rfl rfl rfl rfl) cc)))
      refine awp_yes rfl rfl ?_
      refine run0p ?_
      exact ⟨.inr rfl, _, Imp.refl _, .one (.tmp rfl)⟩
    | true =>
    rw [l2] at q2 p2
    cases l3 : H.len (h : Nat) with
    | false =>
      rw [l3] at q3
      refine has_of Try.func23 (by kernel_rfl) rfl Try.ntmps23 Try.results23 rfl rfl rfl ?_
      repeat(first|refine run1p ?_|((with_reducible apply st_call);exact rfl;exact rfl;exact rfl;first|(exact Has.ag (g7 rfl rfl rfl rfl rfl rfl rfl) ch))|((with_reducible apply st_callg);exact rfl;exact rfl;(first|exact rfl|assumption);exact rfl;exact rfl;exact rfl;first|(exact Has.ag (g7 rfl rfl rfl rfl rfl rfl rfl) ch)))
      refine awp_no rfl rfl ?_
      repeat(first|refine run1p ?_|((with_reducible apply st_call);exact rfl;exact rfl;exact rfl;first|(exact Has.ag (g7 rfl rfl rfl rfl rfl rfl rfl) cc))|((with_reducible apply st_callg);exact rfl;exact rfl;(first|exact rfl|assumption);exact rfl;exact rfl;exact rfl;first|(exact Has.ag (g7 rfl rfl rfl rfl rfl rfl rfl) cc)))
      refine awp_yes rfl q3 ?_
      refine run0p ?_
      exact ⟨.inr rfl, _, Imp.refl _, .one (.tmp rfl)⟩
    | true =>
    rw [l3] at q3
    have m0 : A.m = a := by have := of_decide_eq_true l0; omega
    have m1 : B.m = b := by have := of_decide_eq_true l1; omega
    have m2 : G.m = h := by have := of_decide_eq_true l2; omega
    have m3 : H.m = h := by have := of_decide_eq_true l3; omega
    have c0 := r5_rightr fA (by omega); have c1 := r5_rightr fB (by omega); have c2 := r5_rightr fG (by omega); have c3 := r5_rightr fH (by omega)
    have spA := fun (hs : A.sm = true) (i : Nat) (hi : i < A.m) => PR.isp fA hs hi
    have spB := fun (hs : B.sm = true) (i : Nat) (hi : i < B.m) => PR.isp fB hs hi
    have hme : A.meets B = !decide (∀ i, i < A.m → B.has (A.s i) (A.f i) (A.g i) = false) := rfl
    cases s0 : A.sm with
    | false =>
      rw [s0] at c0
      refine has_of Try.func23 (by kernel_rfl) rfl Try.ntmps23 Try.results23 rfl rfl rfl ?_
      repeat(first|refine run1p ?_|((with_reducible apply st_call);exact rfl;exact rfl;exact rfl;first|(exact Has.ag (g7 rfl rfl rfl rfl rfl rfl rfl) ch))|((with_reducible apply st_callg);exact rfl;exact rfl;(first|exact rfl|assumption);exact rfl;exact rfl;exact rfl;first|(exact Has.ag (g7 rfl rfl rfl rfl rfl rfl rfl) ch)))
      refine awp_no rfl rfl ?_
      repeat(first|refine run1p ?_|((with_reducible apply st_call);exact rfl;exact rfl;exact rfl;first|(exact Has.ag (g7 rfl rfl rfl rfl rfl rfl rfl) cc))|((with_reducible apply st_callg);exact rfl;exact rfl;(first|exact rfl|assumption);exact rfl;exact rfl;exact rfl;first|(exact Has.ag (g7 rfl rfl rfl rfl rfl rfl rfl) cc)))
      refine awp_no rfl q3 ?_
      repeat(first|refine run1p ?_|((with_reducible apply st_call);exact rfl;exact rfl;exact rfl;first|(exact c0)|(exact c1)|(exact c2)|(exact c3))|((with_reducible apply st_callg);exact rfl;exact rfl;(first|exact rfl|assumption);exact rfl;exact rfl;exact rfl;first|(exact c0)|(exact c1)|(exact c2)|(exact c3)))
      refine awp_yes rfl rfl ?_
      refine run0p ?_
      exact ⟨.inr rfl, _, Imp.refl _, .one (.tmp rfl)⟩
    | true =>
    rw [s0] at c0
    cases s1 : B.sm with
    | false =>
      rw [s1] at c1
      refine has_of Try.func23 (by kernel_rfl) rfl Try.ntmps23 Try.results23 rfl rfl rfl ?_
      repeat(first|refine run1p ?_|((with_reducible apply st_call);exact rfl;exact rfl;exact rfl;first|(exact Has.ag (g7 rfl rfl rfl rfl rfl rfl rfl) ch))|((with_reducible apply st_callg);exact rfl;exact rfl;(first|exact rfl|assumption);exact rfl;exact rfl;exact rfl;first|(exact Has.ag (g7 rfl rfl rfl rfl rfl rfl rfl) ch)))
      refine awp_no rfl rfl ?_
      repeat(first|refine run1p ?_|((with_reducible apply st_call);exact rfl;exact rfl;exact rfl;first|(exact Has.ag (g7 rfl rfl rfl rfl rfl rfl rfl) cc))|((with_reducible apply st_callg);exact rfl;exact rfl;(first|exact rfl|assumption);exact rfl;exact rfl;exact rfl;first|(exact Has.ag (g7 rfl rfl rfl rfl rfl rfl rfl) cc)))
      refine awp_no rfl q3 ?_
      repeat(first|refine run1p ?_|((with_reducible apply st_call);exact rfl;exact rfl;exact rfl;first|(exact c0)|(exact c1)|(exact c2)|(exact c3))|((with_reducible apply st_callg);exact rfl;exact rfl;(first|exact rfl|assumption);exact rfl;exact rfl;exact rfl;first|(exact c0)|(exact c1)|(exact c2)|(exact c3)))
      refine awp_yes rfl rfl ?_
      refine run0p ?_
      exact ⟨.inr rfl, _, Imp.refl _, .one (.tmp rfl)⟩
    | true =>
    rw [s1] at c1
    cases s2 : G.sm with
    | false =>
      rw [s2] at c2
      refine has_of Try.func23 (by kernel_rfl) rfl Try.ntmps23 Try.results23 rfl rfl rfl ?_
      repeat(first|refine run1p ?_|((with_reducible apply st_call);exact rfl;exact rfl;exact rfl;first|(exact Has.ag (g7 rfl rfl rfl rfl rfl rfl rfl) ch))|((with_reducible apply st_callg);exact rfl;exact rfl;(first|exact rfl|assumption);exact rfl;exact rfl;exact rfl;first|(exact Has.ag (g7 rfl rfl rfl rfl rfl rfl rfl) ch)))
      refine awp_no rfl rfl ?_
      repeat(first|refine run1p ?_|((with_reducible apply st_call);exact rfl;exact rfl;exact rfl;first|(exact Has.ag (g7 rfl rfl rfl rfl rfl rfl rfl) cc))|((with_reducible apply st_callg);exact rfl;exact rfl;(first|exact rfl|assumption);exact rfl;exact rfl;exact rfl;first|(exact Has.ag (g7 rfl rfl rfl rfl rfl rfl rfl) cc)))
      refine awp_no rfl q3 ?_
      repeat(first|refine run1p ?_|((with_reducible apply st_call);exact rfl;exact rfl;exact rfl;first|(exact c0)|(exact c1)|(exact c2)|(exact c3))|((with_reducible apply st_callg);exact rfl;exact rfl;(first|exact rfl|assumption);exact rfl;exact rfl;exact rfl;first|(exact c0)|(exact c1)|(exact c2)|(exact c3)))
      refine awp_yes rfl rfl ?_
      refine run0p ?_
      exact ⟨.inr rfl, _, Imp.refl _, .one (.tmp rfl)⟩
    | true =>
    rw [s2] at c2
    cases s3 : H.sm with
    | false =>
      rw [s3] at c3
      refine has_of Try.func23 (by kernel_rfl) rfl Try.ntmps23 Try.results23 rfl rfl rfl ?_
      repeat(first|refine run1p ?_|((with_reducible apply st_call);exact rfl;exact rfl;exact rfl;first|(exact Has.ag (g7 rfl rfl rfl rfl rfl rfl rfl) ch))|((with_reducible apply st_callg);exact rfl;exact rfl;(first|exact rfl|assumption);exact rfl;exact rfl;exact rfl;first|(exact Has.ag (g7 rfl rfl rfl rfl rfl rfl rfl) ch)))
      refine awp_no rfl rfl ?_
      repeat(first|refine run1p ?_|((with_reducible apply st_call);exact rfl;exact rfl;exact rfl;first|(exact Has.ag (g7 rfl rfl rfl rfl rfl rfl rfl) cc))|((with_reducible apply st_callg);exact rfl;exact rfl;(first|exact rfl|assumption);exact rfl;exact rfl;exact rfl;first|(exact Has.ag (g7 rfl rfl rfl rfl rfl rfl rfl) cc)))
      refine awp_no rfl q3 ?_
      repeat(first|refine run1p ?_|((with_reducible apply st_call);exact rfl;exact rfl;exact rfl;first|(exact c0)|(exact c1)|(exact c2)|(exact c3))|((with_reducible apply st_callg);exact rfl;exact rfl;(first|exact rfl|assumption);exact rfl;exact rfl;exact rfl;first|(exact c0)|(exact c1)|(exact c2)|(exact c3)))
      refine awp_yes rfl rfl ?_
      refine run0p ?_
      exact ⟨.inr rfl, _, Imp.refl _, .one (.tmp rfl)⟩
    | true =>
    rw [s3] at c3
    have spA := spA s0
    have spB := spB s1
    refine has_of Try.func23 (by kernel_rfl) rfl Try.ntmps23 Try.results23 rfl rfl rfl ?_
    repeat(first|refine run1p ?_|((with_reducible apply st_call);exact rfl;exact rfl;exact rfl;first|(exact Has.ag (g7 rfl rfl rfl rfl rfl rfl rfl) ch))|((with_reducible apply st_callg);exact rfl;exact rfl;(first|exact rfl|assumption);exact rfl;exact rfl;exact rfl;first|(exact Has.ag (g7 rfl rfl rfl rfl rfl rfl rfl) ch)))
    refine awp_no rfl rfl ?_
    repeat(first|refine run1p ?_|((with_reducible apply st_call);exact rfl;exact rfl;exact rfl;first|(exact Has.ag (g7 rfl rfl rfl rfl rfl rfl rfl) cc))|((with_reducible apply st_callg);exact rfl;exact rfl;(first|exact rfl|assumption);exact rfl;exact rfl;exact rfl;first|(exact Has.ag (g7 rfl rfl rfl rfl rfl rfl rfl) cc)))
    refine awp_no rfl q3 ?_
    repeat(first|refine run1p ?_|((with_reducible apply st_call);exact rfl;exact rfl;exact rfl;first|(exact c0)|(exact c1)|(exact c2)|(exact c3))|((with_reducible apply st_callg);exact rfl;exact rfl;(first|exact rfl|assumption);exact rfl;exact rfl;exact rfl;first|(exact c0)|(exact c1)|(exact c2)|(exact c3)))
    refine awp_no rfl rfl ?_
    refine run0p ?_
    refine awp_loop (fun m' s => ∃ i, i ≤ A.m ∧ m' = A.m - i ∧ (∀ j, j < i → B.has (A.s j) (A.f j) (A.g j) = false) ∧ s = stl [(1, .ptr 1 0 0), (4, .i a), (5, .i b), (7, .i (i : Int))] [(1, (1, fun _ => .ones 26 7 (GR.f ⟨k, n, r, A, B, G, H⟩)))]) A.m _ (imp_id ?_ ?_) ⟨0, Nat.zero_le _, rfl, fun i hi => absurd hi (Nat.not_lt_zero _), rfl⟩ ?_
    · exact eA
    · exact allh rfl (by decide) (bleo rfl fun _ _ => Le.id rfl) (fun i _ => GR.fok _ _ i) True.intro
    rintro m' s ⟨i, hi, rfl, hprev, rfl⟩
    refine run0p ?_
    refine awp_if rfl (fun h1 => ?_) (fun h1 => ?_)
    · have h1 : i < A.m := by omega
      obtain ⟨p, p1, p2⟩ := spA i h1
      refine run0p ?_
      refine awp_loop (fun m' s => ∃ j, j ≤ B.m ∧ m' = B.m - j ∧ (∀ t, t < j → eqB (A.s i) (A.f i) (A.g i) (B.s t) (B.f t) (B.g t) = false) ∧ s = stl [(1, .ptr 1 0 0), (4, .i a), (5, .i b), (7, .i (i : Int)), (8, .i (j : Int))] [(1, (1, fun _ => .ones 26 7 (GR.f ⟨k, n, r, A, B, G, H⟩)))]) B.m _ (imp_id ?_ ?_) ⟨0, Nat.zero_le _, rfl, fun i hi => absurd hi (Nat.not_lt_zero _), rfl⟩ ?_
      · exact eA
      · exact allh rfl (by decide) (bleo rfl fun _ _ => Le.id rfl) (fun i _ => GR.fok _ _ i) True.intro
      rintro m' s ⟨j, hj, rfl, hprev2, rfl⟩
      refine run0p ?_
      refine awp_if rfl (fun h2 => ?_) (fun h2 => ?_)
      · have h2 : j < B.m := by omega
        obtain ⟨q, q1, q2⟩ := spB j h2
        have cs := pr_same p2 q2
        rw [← isp_eq p2 q2, p1, q1] at cs
        have f1 : ((i : Nat) : Int) < A.m := by omega
        have f2 : ((j : Nat) : Int) < B.m := by omega
        repeat(first|refine run1p ?_|((with_reducible apply st_call);exact rfl;exact rfl;exact rfl;first|(exact Has.p2 rfl rfl rfl rfl rfl rfl cs))|((with_reducible apply st_callg);exact rfl;exact rfl;(first|exact rfl|assumption);exact rfl;exact rfl;exact rfl;first|(exact Has.p2 rfl rfl rfl rfl rfl rfl cs)))
        cases hb : eqB (A.s i) (A.f i) (A.g i) (B.s j) (B.f j) (B.g j) with
        | true =>
          refine awp_yes rfl rfl ?_
          refine run0p ?_
          refine ⟨.inr rfl, _, Imp.refl _, ?_⟩
          rw [hme, decide_eq_false (fun h3 : ∀ i, i < A.m → B.has (A.s i) (A.f i) (A.g i) = false => by
            have h4 := h3 i h1
            unfold PR.has at h4
            rw [Bool.not_eq_false', decide_eq_true_iff] at h4
            rw [h4 j h2] at hb; cases hb)]
          exact .one (.tmp rfl)
        | false =>
          refine awp_no rfl rfl ?_
          refine run0p ?_
          refine q_loop ?_ (imp_id ?_ ?_) ⟨j + 1, ?_, rfl, fun t ht => ?_, rfl⟩
          · omega
          · exact eA
          · exact allh rfl (by decide) (bleo rfl fun _ _ => Le.id rfl) (fun i _ => GR.fok _ _ i) True.intro
          · omega
          · rcases Nat.lt_or_ge t j with h | h
            · exact hprev2 t h
            · rw [show t = j by omega]; exact hb
      · refine run0p ?_
        refine q_loop ?_ (imp_id ?_ ?_) ⟨i + 1, ?_, rfl, fun t ht => ?_, rfl⟩
        · omega
        · exact eA
        · exact allh rfl (by decide) (bleo rfl fun _ _ => Le.id rfl) (fun i _ => GR.fok _ _ i) True.intro
        · omega
        · rcases Nat.lt_or_ge t i with h | h
          · exact hprev t h
          · rw [show t = i by omega]
            unfold PR.has
            rw [decide_eq_true fun x hx => hprev2 x (by omega)]; rfl
    · refine run0p ?_
      refine ⟨.inr rfl, _, Imp.refl _, ?_⟩
      rw [hme, decide_eq_true fun i hi => hprev i (by omega)]
      exact .one (.tmp rfl)
  · have hz1 : decide (headV k n r ≠ 0) = true := decide_eq_true hz
    have e : chk ⟨k, n, r, A, B, G, H⟩ = headV k n r := by
      unfold headV at hz ⊢
      unfold chk
      cases hk : kindB k with
      | true => rfl
      | false => cases hs : sizedB k n r with
        | true => rw [hk, hs] at hz; exact absurd rfl hz
        | false => rfl
    rw [e]
    refine has_of Try.func23 (by kernel_rfl) rfl Try.ntmps23 Try.results23 rfl rfl rfl ?_
    repeat(first|refine run1p ?_|((with_reducible apply st_call);exact rfl;exact rfl;exact rfl;first|(exact Has.ag (g7 rfl rfl rfl rfl rfl rfl rfl) ch))|((with_reducible apply st_callg);exact rfl;exact rfl;(first|exact rfl|assumption);exact rfl;exact rfl;exact rfl;first|(exact Has.ag (g7 rfl rfl rfl rfl rfl rfl rfl) ch)))
    refine awp_yes rfl hz1 ?_
    refine run0p ?_
    exact ⟨.inr rfl, _, Imp.refl _, .one (.tmp rfl)⟩
end Go.Proofs.Ytpclkgjhfhhddaa.AM
/- Laws of systems: what is known. -/
namespace Go.Proofs.Ytpclkgjhfhhddaa.AM
open Go Go.RowKit Go.Proofs.Ytpclkgjhfhhddaa.PN Go.Proofs.Ytpclkgjhfhhddaa.V
open Go.Proofs.Ytpclkgjhfhhddaa.LA (S S_succ S_zero S_congr)
set_option linter.unusedVariables false
set_option linter.unusedSimpArgs false
set_option maxRecDepth 8000
set_option maxHeartbeats 8000000
theorem rv_agv {S : Nat → Prop} {B : Nat} {β : Nat → Nat → Value} {w : World} {n : Nat} {f f' : Nat → AV} (h : ∀ i, i < n → ∀ v, RV S B β w (f i) v → RV S B β w (f' i) v) (v : Value) (hv : RV S B β w (.ag n f) v) : RV S B β w (.ag n f') v := by
  obtain ⟨cs, e1, e2, e3⟩ := hv
  refine ⟨cs, e1, e2, fun i hi => ?_⟩
  obtain ⟨y, a0, a1, a2⟩ := e3 i hi
  exact ⟨y, a0, a1, h i hi y a2⟩
theorem Has.agv {P : Program} {f : FuncId} {n : Nat} {u u' : Nat → AV} {xs : List AV} {r : AV} (h : ∀ S B β w i, i < n → ∀ v, RV S B β w (u i) v → RV S B β w (u' i) v) (H : Has P f (.ag n u' :: xs) r) : Has P f (.ag n u :: xs) r :=
  Has.args H fun S B β w vs hv => rvs_cons (rv_agv (h S B β w)) rvs_same hv
theorem rv_nil0 {S : Nat → Prop} {B : Nat} {β : Nat → Nat → Value} {w : World} {f : Nat → RA} (v : Value) (hv : RV S B β w (.v (.slice none 0 0)) v) : RV S B β w (.row false 0 f) v :=
  ⟨none, 0, hv, Nat.le_refl _, Nat.zero_le _, fun i hi => absurd hi (Nat.not_lt_zero _)⟩
def kg : GD := ⟨3, 1, 0, 1, 0, 0, 0, fun _ => 5, fun _ => 0, fun _ => 0, fun _ => 0⟩
theorem kg_ok : kg.OK := by
  refine ⟨by decide, by decide, by decide, by decide, by decide, fun h => (by cases h), fun _ => rfl, ?_, ⟨fun i _ => by show wt 5 ≤ 4; decide, fun i hi => absurd hi (Nat.not_lt_zero _), fun i hi => absurd hi (Nat.not_lt_zero _), fun i hi => absurd hi (Nat.not_lt_zero _)⟩, fun i hi j hj => absurd hj (Nat.not_lt_zero _)⟩
  intro i hi
  have hi4 : i = 0 ∨ i = 1 ∨ i = 2 ∨ i = 3 := by omega
  rcases hi4 with rfl | rfl | rfl | rfl <;> decide
theorem kg_args {S : Nat → Prop} {B : Nat} {β : Nat → Nat → Value} {w : World} {u : Nat → AV} {q : Nat → RA} (h0 : u 0 = .i 3) (h1 : u 1 = .i 1) (h2 : u 2 = .i 0) (h3 : u 3 = .row false 1 q) (hq : q 0 = .q 5) (h4 : u 4 = .v (.slice none 0 0)) (h5 : u 5 = .v (.slice none 0 0)) (h6 : u 6 = .v (.slice none 0 0)) : ∀ i, i < 7 → ∀ v, RV S B β w (u i) v → RV S B β w (kg.f i) v := by
  intro i hi v hv
  match i, hi with
  | 0, _ => rw [h0] at hv; exact hv
  | 1, _ => rw [h1] at hv; exact hv
  | 2, _ => rw [h2] at hv; exact hv
  | 3, _ =>
    rw [h3] at hv
    refine rv_row (fun i hi => ?_) v hv
    have hi : i < 1 := hi
    obtain rfl : i = 0 := by omega
    exact hq
  | 4, _ => rw [h4] at hv; exact rv_nil0 v hv
  | 5, _ => rw [h5] at hv; exact rv_nil0 v hv
  | 6, _ => rw [h6] at hv; exact rv_nil0 v hv
theorem k_known5 : Has Try.prog 20 [] (.b true) := by
  have e5 : gent kg 0 0 = 5 := rfl
  have c5 := hs_int 5 (by decide) (by decide)
  refine has_of Try.func20 (by kernel_rfl) rfl Try.ntmps20 Try.results20 rfl rfl rfl ?_
  repeat(first|refine run1p ?_|((with_reducible apply st_call);exact rfl;exact rfl;exact rfl;first|(exact c5))|((with_reducible apply st_callg);exact rfl;exact rfl;(first|exact rfl|assumption);exact rfl;exact rfl;exact rfl;first|(exact c5)))
  repeat(first|refine run1p ?_|((with_reducible apply st_call);exact rfl;exact rfl;exact rfl;first|(exact Has.agv (fun S B β w => kg_args rfl rfl rfl rfl rfl rfl rfl rfl) (ge_expand kg_ok))|(exact Has.agv (fun S B β w => kg_args rfl rfl rfl rfl rfl rfl rfl rfl) (g_check kg_ok))|(exact c5)|(exact hs_same (p := gent kg 0 0) (q := 5) (by rw [e5]; decide) (by decide)))|((with_reducible apply st_callg);exact rfl;exact rfl;(first|exact rfl|assumption);exact rfl;exact rfl;exact rfl;first|(exact Has.agv (fun S B β w => kg_args rfl rfl rfl rfl rfl rfl rfl rfl) (ge_expand kg_ok))|(exact Has.agv (fun S B β w => kg_args rfl rfl rfl rfl rfl rfl rfl rfl) (g_check kg_ok))|(exact c5)|(exact hs_same (p := gent kg 0 0) (q := 5) (by rw [e5]; decide) (by decide))))
  refine ⟨.inr rfl, _, Imp.refl _, .one (.tmp ?_)⟩
  rfl
end Go.Proofs.Ytpclkgjhfhhddaa.AM
/- These systems are refused as they must. -/
namespace Go.Proofs.Ytpclkgjhfhhddaa.AM
open Go Go.RowKit Go.Proofs.Ytpclkgjhfhhddaa.PN Go.Proofs.Ytpclkgjhfhhddaa.V
set_option linter.unusedVariables false
set_option linter.unusedSimpArgs false
set_option maxRecDepth 8000
set_option maxHeartbeats 8000000
/-- A row, whatever it is. -/
def prOf : AV → Option PR
  | .row _ n f => some ⟨n, fun i => (f i).sgn, fun i => raN (f i), fun i => raD (f i)⟩
  | .v (.slice none 0 0) => some ⟨0, fun _ => false, fun _ => [], fun _ => []⟩
  | .prow n s f g => some ⟨n, s, f, g⟩
  | _ => none
theorem prOf_rv {S : Nat → Prop} {B : Nat} {β : Nat → Nat → Value} {w : World} {x : AV} {r : PR} {v : Value} (h : prOf x = some r) (hv : RV S B β w x v) : RV S B β w r.v v := by
  unfold prOf at h
  split at h
  · cases h; exact rv_prow v hv
  · cases h
    have hv : v = .slice none 0 0 := hv
    subst hv
    exact ⟨none, 0, rfl, Nat.le_refl _, Nat.zero_le _, fun i hi => absurd hi (Nat.not_lt_zero _)⟩
  · cases h; exact hv
  · cases h
def intOf : AV → Option Int
  | .v (.int .i64 k) => some k
  | _ => none
theorem intOf_eq {x : AV} {k : Int} (h : intOf x = some k) : x = .i k := by
  unfold intOf at h
  split at h
  · cases h; rfl
  · cases h
/-- A system, whatever it is. -/
def grOf (u : Nat → AV) : Option GR := match intOf (u 0), intOf (u 1), intOf (u 2), prOf (u 3), prOf (u 4), prOf (u 5), prOf (u 6) with
  | some k, some n, some r, some A, some B, some G, some H => some ⟨k, n, r, A, B, G, H⟩
  | _, _, _, _, _, _, _ => none
theorem grOf_rv {S : Nat → Prop} {B : Nat} {β : Nat → Nat → Value} {w : World} {u : Nat → AV} {g : GR} (h : grOf u = some g) (v : Value) (hv : RV S B β w (.ag 7 u) v) : RV S B β w g.v v := by
  unfold grOf at h
  split at h
  · rename_i e0 e1 e2 e3 e4 e5 e6
    cases h
    obtain ⟨cs, c1, c2, c3⟩ := hv
    refine ⟨cs, c1, c2, fun i hi => ?_⟩
    obtain ⟨y, a0, a1, a2⟩ := c3 i hi
    refine ⟨y, a0, a1, ?_⟩
    match i, hi with
    | 0, _ => rw [intOf_eq e0] at a2; exact a2
    | 1, _ => rw [intOf_eq e1] at a2; exact a2
    | 2, _ => rw [intOf_eq e2] at a2; exact a2
    | 3, _ => exact prOf_rv e3 a2
    | 4, _ => exact prOf_rv e4 a2
    | 5, _ => exact prOf_rv e5 a2
    | 6, _ => exact prOf_rv e6 a2
  · cases h
theorem Has.gr {P : Program} {f : FuncId} {u : Nat → AV} {g : GR} {xs : List AV} {r : AV} (h : grOf u = some g) (H : Has P f (g.v :: xs) r) : Has P f (.ag 7 u :: xs) r :=
  Has.args H fun S B β w vs hv => rvs_cons (grOf_rv h) rvs_same hv
instance (l : List Nat) : Decidable (LF l) := inferInstanceAs (Decidable (∀ x ∈ l, x < B))
def PR.finB (r : PR) : Bool := decide (∀ i, i < r.m → LF (r.f i)) && decide (∀ i, i < r.m → LF (r.g i))
theorem PR.fin_ok {r : PR} (h : r.finB = true) : r.Fin := by
  unfold PR.finB at h
  rw [Bool.and_eq_true] at h
  exact ⟨of_decide_eq_true h.1, of_decide_eq_true h.2⟩
def GR.finB (g : GR) : Bool := g.A.finB && g.B.finB && g.G.finB && g.H.finB
theorem GR.fin_ok {g : GR} (h : g.finB = true) : g.Fin := by
  unfold GR.finB at h
  rw [Bool.and_eq_true, Bool.and_eq_true, Bool.and_eq_true] at h
  exact ⟨PR.fin_ok h.1.1.1, PR.fin_ok h.1.1.2, PR.fin_ok h.1.2, PR.fin_ok h.2⟩
/-- Whole numbers in a row. -/
def zq (l : List Int) (i : Nat) : Rat := ((l.getD i 0 : Int) : Rat)
theorem k_ints5 {l : List Int} (hs : ∀ i, i < l.length → -1000 ≤ l.getD i 0 ∧ l.getD i 0 ≤ 1000) (hl : l.length ≤ 8) : Has Try.prog 27 [.seq .i64 l] (.row true l.length fun i => .q (zq l i)) := by
  refine has_of Try.func27 (by kernel_rfl) rfl Try.ntmps27 Try.results27 rfl rfl rfl ?_
  refine run0p ?_
  refine awp_loop (fun m' s => ∃ i, i ≤ l.length ∧ m' = l.length - i ∧ s = accS 3 (.rats i fun i => .q (zq l i)) [(0, .seq .i64 l), (4, .i (i : Int))] []) l.length _ (acc_start rfl rfl (by exact rfl) rfl (by decide) ?_ ?_) ⟨0, Nat.zero_le _, rfl, rfl⟩ ?_
  · exact eA
  · exact hA
  rintro m' s ⟨i, hi, rfl, rfl⟩
  refine run0p ?_
  refine awp_if rfl (fun h => ?_) (fun h => ?_)
  · have h : i < l.length := by omega
    have hz := hs i h
    have ci : Has Try.prog 25 [.i (l.getD i 0)] (.q (zq l i)) := hs_int _ (by omega) (by omega)
    repeat(first|refine run1p ?_|((with_reducible apply st_call);exact rfl;exact rfl;exact rfl;first|(exact ci))|((with_reducible apply st_callg);exact rfl;exact rfl;(first|exact rfl|assumption);exact rfl;exact rfl;exact rfl;first|(exact ci)))
    refine q_loop (m' := l.length - (i + 1)) (by omega) (acc_next (a := 18) rfl rfl rfl (glue_one rfl) (by exact True.intro) rfl rfl ?_ (by exact True.intro)) ⟨i + 1, by omega, rfl, rfl⟩
    exact alle rfl (Le.eq rfl rfl) True.intro (alle rfl (Le.eq rfl rfl) True.intro True.intro)
  obtain rfl : i = l.length := by omega
  refine run0p ?_
  exact ⟨.inr rfl, _, imp_rowv 2 (fun i => .q (zq l i)) rfl rfl rfl (fun i hi => rfl), .one (.tmp rfl)⟩
/-- The systems that are refused. -/
def nilA : AV := .v (.slice none 0 0)
def oneA : AV := .row false 1 fun i => .q (zq [1] i)
def rawA (s : Bool) (n d : List Nat) : AV := .row false 1 fun i => [RA.raw s n d].getD i ra0
def erL : List (List AV) := [
  [.i 0, .i 0, .i 0, nilA, nilA, nilA, nilA], [.i 8, .i 1, .i 0, nilA, nilA, nilA, nilA], [.i 1, .i 0, .i 0, nilA, nilA, nilA, nilA], [.i 1, .i 9, .i 0, nilA, nilA, nilA, nilA],
  [.i 3, .i 1, .i 1, oneA, nilA, nilA, nilA], [.i 6, .i 1, .i 0, nilA, nilA, oneA, oneA], [.i 7, .i 1, .i 4, nilA, nilA, nilA, nilA], [.i 1, .i 2, .i 0, oneA, nilA, nilA, nilA],
  [.i 3, .i 1, .i 0, oneA, oneA, nilA, nilA], [.i 5, .i 1, .i 0, oneA, oneA, nilA, nilA], [.i 5, .i 2, .i 0, .row false 2 fun i => .q (zq [1, 2] i), .row false 2 fun i => .q (zq [3, 2] i), nilA, nilA],
  [.i 3, .i 1, .i 0, rawA false [] [], nilA, nilA, nilA], [.i 3, .i 1, .i 0, rawA false [0, 0, 0, 0, 1] [1], nilA, nilA, nilA], [.i 3, .i 1, .i 0, rawA false [2] [4], nilA, nilA, nilA],
  [.i 6, .i 1, .i 1, nilA, nilA, oneA, rawA true [] [1]]]
def erW : List Int := [2, 2, 1, 1, 1, 1, 1, 3, 3, 5, 5, 1, 1, 1, 1]
def erU (i j : Nat) : AV := (erL.getD i []).getD j (.v undef)
def erG (i : Nat) : GR := (grOf (erU i)).getD ⟨0, 0, 0, ⟨0, fun _ => false, fun _ => [], fun _ => []⟩, ⟨0, fun _ => false, fun _ => [], fun _ => []⟩, ⟨0, fun _ => false, fun _ => [], fun _ => []⟩, ⟨0, fun _ => false, fun _ => [], fun _ => []⟩⟩
theorem er_fin : ∀ i, i < 15 → (erG i).finB = true := by decide +kernel
theorem er_chk : ∀ i, i < 15 → chk (erG i) = erW.getD i 0 := by decide +kernel
theorem er_some : ∀ i, i < 15 → grOf (erU i) = some (erG i) := by
  intro i hi
  match i, hi with
  | 0, _ | 1, _ | 2, _ | 3, _ | 4, _ | 5, _ | 6, _ | 7, _ | 8, _ | 9, _ | 10, _ | 11, _ | 12, _ | 13, _ | 14, _ => rfl
theorem er_gen {i : Nat} (hi : i < 15) : Has Try.prog 22 [.ag 7 (erU i)] (.i (erW.getD i 0)) := by
  rw [← er_chk i hi]
  exact Has.gr (er_some i hi) (g_checkr (GR.fin_ok (er_fin i hi)))
theorem er_ref {i : Nat} (hi : i < 15) : Has Try.prog 23 [.ag 7 (erU i)] (.i (erW.getD i 0)) := by
  rw [← er_chk i hi]
  exact Has.gr (er_some i hi) (r5_checkr (GR.fin_ok (er_fin i hi)))
theorem k_generrs {which n : Int} (hw : Fits .i64 which) (hn : Fits .i64 n) : Has Try.prog 10 [.i which, .i n] (.b true) := by
  have i1 := k_ints5 (l := [1]) (by decide) (by decide)
  have i2 := k_ints5 (l := [1, 2]) (by decide) (by decide)
  have i3 := k_ints5 (l := [3, 2]) (by decide) (by decide)
  have kw := k_within5 (a := which) (n := 15) (by decide) (by decide)
  have hz := wthn_lt (a := which) (n := 15) (by decide)
  generalize wthn which 15 = z at *
  obtain ⟨z, rfl⟩ : ∃ z' : Nat, z = z' := ⟨z.toNat, by omega⟩
  have hz : z < 15 := by omega
  refine has_of Try.func10 (by kernel_rfl) rfl Try.ntmps10 Try.results10 rfl rfl rfl ?_
  repeat(first|refine run1p ?_|((with_reducible apply st_call);exact rfl;exact rfl;exact rfl;first|(exact k_known5))|((with_reducible apply st_callg);exact rfl;exact rfl;(first|exact rfl|assumption);exact rfl;exact rfl;exact rfl;first|(exact k_known5)))
  refine awp_no rfl rfl ?_
  repeat(first|refine run1p ?_|((with_reducible apply st_call);exact rfl;exact rfl;exact rfl;first|(exact i1)|(exact i2)|(exact i3)|(exact kw))|((with_reducible apply st_callg);exact rfl;exact rfl;(first|exact rfl|assumption);exact rfl;exact rfl;exact rfl;first|(exact i1)|(exact i2)|(exact i3)|(exact kw)))
  clear kw
  match z, hz with
  | 0, _ =>
    have c1 := er_gen (i := 0) (by decide)
    have c2 := er_ref (i := 0) (by decide)
    repeat(first|refine run4p ?_|((with_reducible apply st_call);exact rfl;exact rfl;exact rfl;first|(exact Has.ag (u' := erU 0) (g7 rfl rfl rfl rfl rfl rfl rfl) c1)|(exact Has.ag (u' := erU 0) (g7 rfl rfl rfl rfl rfl rfl rfl) c2))|((with_reducible apply st_callg);exact rfl;exact rfl;(first|exact rfl|assumption);exact rfl;exact rfl;exact rfl;first|(exact Has.ag (u' := erU 0) (g7 rfl rfl rfl rfl rfl rfl rfl) c1)|(exact Has.ag (u' := erU 0) (g7 rfl rfl rfl rfl rfl rfl rfl) c2)))
    exact ⟨.inr rfl, _, Imp.refl _, .one (.tmp rfl)⟩
  | 1, _ =>
    have c1 := er_gen (i := 1) (by decide)
    have c2 := er_ref (i := 1) (by decide)
    repeat(first|refine run4p ?_|((with_reducible apply st_call);exact rfl;exact rfl;exact rfl;first|(exact Has.ag (u' := erU 1) (g7 rfl rfl rfl rfl rfl rfl rfl) c1)|(exact Has.ag (u' := erU 1) (g7 rfl rfl rfl rfl rfl rfl rfl) c2))|((with_reducible apply st_callg);exact rfl;exact rfl;(first|exact rfl|assumption);exact rfl;exact rfl;exact rfl;first|(exact Has.ag (u' := erU 1) (g7 rfl rfl rfl rfl rfl rfl rfl) c1)|(exact Has.ag (u' := erU 1) (g7 rfl rfl rfl rfl rfl rfl rfl) c2)))
    exact ⟨.inr rfl, _, Imp.refl _, .one (.tmp rfl)⟩
  | 2, _ =>
    have c1 := er_gen (i := 2) (by decide)
    have c2 := er_ref (i := 2) (by decide)
    repeat(first|refine run4p ?_|((with_reducible apply st_call);exact rfl;exact rfl;exact rfl;first|(exact Has.ag (u' := erU 2) (g7 rfl rfl rfl rfl rfl rfl rfl) c1)|(exact Has.ag (u' := erU 2) (g7 rfl rfl rfl rfl rfl rfl rfl) c2))|((with_reducible apply st_callg);exact rfl;exact rfl;(first|exact rfl|assumption);exact rfl;exact rfl;exact rfl;first|(exact Has.ag (u' := erU 2) (g7 rfl rfl rfl rfl rfl rfl rfl) c1)|(exact Has.ag (u' := erU 2) (g7 rfl rfl rfl rfl rfl rfl rfl) c2)))
    exact ⟨.inr rfl, _, Imp.refl _, .one (.tmp rfl)⟩
  | 3, _ =>
    have c1 := er_gen (i := 3) (by decide)
    have c2 := er_ref (i := 3) (by decide)
    repeat(first|refine run4p ?_|((with_reducible apply st_call);exact rfl;exact rfl;exact rfl;first|(exact Has.ag (u' := erU 3) (g7 rfl rfl rfl rfl rfl rfl rfl) c1)|(exact Has.ag (u' := erU 3) (g7 rfl rfl rfl rfl rfl rfl rfl) c2))|((with_reducible apply st_callg);exact rfl;exact rfl;(first|exact rfl|assumption);exact rfl;exact rfl;exact rfl;first|(exact Has.ag (u' := erU 3) (g7 rfl rfl rfl rfl rfl rfl rfl) c1)|(exact Has.ag (u' := erU 3) (g7 rfl rfl rfl rfl rfl rfl rfl) c2)))
    exact ⟨.inr rfl, _, Imp.refl _, .one (.tmp rfl)⟩
  | 4, _ =>
    have c1 := er_gen (i := 4) (by decide)
    have c2 := er_ref (i := 4) (by decide)
    repeat(first|refine run4p ?_|((with_reducible apply st_call);exact rfl;exact rfl;exact rfl;first|(exact Has.ag (u' := erU 4) (g7 rfl rfl rfl rfl rfl rfl rfl) c1)|(exact Has.ag (u' := erU 4) (g7 rfl rfl rfl rfl rfl rfl rfl) c2))|((with_reducible apply st_callg);exact rfl;exact rfl;(first|exact rfl|assumption);exact rfl;exact rfl;exact rfl;first|(exact Has.ag (u' := erU 4) (g7 rfl rfl rfl rfl rfl rfl rfl) c1)|(exact Has.ag (u' := erU 4) (g7 rfl rfl rfl rfl rfl rfl rfl) c2)))
    exact ⟨.inr rfl, _, Imp.refl _, .one (.tmp rfl)⟩
  | 5, _ =>
    have c1 := er_gen (i := 5) (by decide)
    have c2 := er_ref (i := 5) (by decide)
    repeat(first|refine run4p ?_|((with_reducible apply st_call);exact rfl;exact rfl;exact rfl;first|(exact Has.ag (u' := erU 5) (g7 rfl rfl rfl rfl rfl rfl rfl) c1)|(exact Has.ag (u' := erU 5) (g7 rfl rfl rfl rfl rfl rfl rfl) c2))|((with_reducible apply st_callg);exact rfl;exact rfl;(first|exact rfl|assumption);exact rfl;exact rfl;exact rfl;first|(exact Has.ag (u' := erU 5) (g7 rfl rfl rfl rfl rfl rfl rfl) c1)|(exact Has.ag (u' := erU 5) (g7 rfl rfl rfl rfl rfl rfl rfl) c2)))
    exact ⟨.inr rfl, _, Imp.refl _, .one (.tmp rfl)⟩
  | 6, _ =>
    have c1 := er_gen (i := 6) (by decide)
    have c2 := er_ref (i := 6) (by decide)
    repeat(first|refine run4p ?_|((with_reducible apply st_call);exact rfl;exact rfl;exact rfl;first|(exact Has.ag (u' := erU 6) (g7 rfl rfl rfl rfl rfl rfl rfl) c1)|(exact Has.ag (u' := erU 6) (g7 rfl rfl rfl rfl rfl rfl rfl) c2))|((with_reducible apply st_callg);exact rfl;exact rfl;(first|exact rfl|assumption);exact rfl;exact rfl;exact rfl;first|(exact Has.ag (u' := erU 6) (g7 rfl rfl rfl rfl rfl rfl rfl) c1)|(exact Has.ag (u' := erU 6) (g7 rfl rfl rfl rfl rfl rfl rfl) c2)))
    exact ⟨.inr rfl, _, Imp.refl _, .one (.tmp rfl)⟩
  | 7, _ =>
    have c1 := er_gen (i := 7) (by decide)
    have c2 := er_ref (i := 7) (by decide)
    repeat(first|refine run4p ?_|((with_reducible apply st_call);exact rfl;exact rfl;exact rfl;first|(exact Has.ag (u' := erU 7) (g7 rfl rfl rfl rfl rfl rfl rfl) c1)|(exact Has.ag (u' := erU 7) (g7 rfl rfl rfl rfl rfl rfl rfl) c2))|((with_reducible apply st_callg);exact rfl;exact rfl;(first|exact rfl|assumption);exact rfl;exact rfl;exact rfl;first|(exact Has.ag (u' := erU 7) (g7 rfl rfl rfl rfl rfl rfl rfl) c1)|(exact Has.ag (u' := erU 7) (g7 rfl rfl rfl rfl rfl rfl rfl) c2)))
    exact ⟨.inr rfl, _, Imp.refl _, .one (.tmp rfl)⟩
  | 8, _ =>
    have c1 := er_gen (i := 8) (by decide)
    have c2 := er_ref (i := 8) (by decide)
    repeat(first|refine run4p ?_|((with_reducible apply st_call);exact rfl;exact rfl;exact rfl;first|(exact Has.ag (u' := erU 8) (g7 rfl rfl rfl rfl rfl rfl rfl) c1)|(exact Has.ag (u' := erU 8) (g7 rfl rfl rfl rfl rfl rfl rfl) c2))|((with_reducible apply st_callg);exact rfl;exact rfl;(first|exact rfl|assumption);exact rfl;exact rfl;exact rfl;first|(exact Has.ag (u' := erU 8) (g7 rfl rfl rfl rfl rfl rfl rfl) c1)|(exact Has.ag (u' := erU 8) (g7 rfl rfl rfl rfl rfl rfl rfl) c2)))
    exact ⟨.inr rfl, _, Imp.refl _, .one (.tmp rfl)⟩
  | 9, _ =>
    have c1 := er_gen (i := 9) (by decide)
    have c2 := er_ref (i := 9) (by decide)
    repeat(first|refine run4p ?_|((with_reducible apply st_call);exact rfl;exact rfl;exact rfl;first|(exact Has.ag (u' := erU 9) (g7 rfl rfl rfl rfl rfl rfl rfl) c1)|(exact Has.ag (u' := erU 9) (g7 rfl rfl rfl rfl rfl rfl rfl) c2))|((with_reducible apply st_callg);exact rfl;exact rfl;(first|exact rfl|assumption);exact rfl;exact rfl;exact rfl;first|(exact Has.ag (u' := erU 9) (g7 rfl rfl rfl rfl rfl rfl rfl) c1)|(exact Has.ag (u' := erU 9) (g7 rfl rfl rfl rfl rfl rfl rfl) c2)))
    exact ⟨.inr rfl, _, Imp.refl _, .one (.tmp rfl)⟩
  | 10, _ =>
    have c1 := er_gen (i := 10) (by decide)
    have c2 := er_ref (i := 10) (by decide)
    repeat(first|refine run4p ?_|((with_reducible apply st_call);exact rfl;exact rfl;exact rfl;first|(exact Has.ag (u' := erU 10) (g7 rfl rfl rfl rfl rfl rfl rfl) c1)|(exact Has.ag (u' := erU 10) (g7 rfl rfl rfl rfl rfl rfl rfl) c2))|((with_reducible apply st_callg);exact rfl;exact rfl;(first|exact rfl|assumption);exact rfl;exact rfl;exact rfl;first|(exact Has.ag (u' := erU 10) (g7 rfl rfl rfl rfl rfl rfl rfl) c1)|(exact Has.ag (u' := erU 10) (g7 rfl rfl rfl rfl rfl rfl rfl) c2)))
    exact ⟨.inr rfl, _, Imp.refl _, .one (.tmp rfl)⟩
  | 11, _ =>
    have c1 := er_gen (i := 11) (by decide)
    have c2 := er_ref (i := 11) (by decide)
    repeat(first|refine run4p ?_|((with_reducible apply st_call);exact rfl;exact rfl;exact rfl;first|(exact Has.ag (u' := erU 11) (g7 rfl rfl rfl rfl rfl rfl rfl) c1)|(exact Has.ag (u' := erU 11) (g7 rfl rfl rfl rfl rfl rfl rfl) c2))|((with_reducible apply st_callg);exact rfl;exact rfl;(first|exact rfl|assumption);exact rfl;exact rfl;exact rfl;first|(exact Has.ag (u' := erU 11) (g7 rfl rfl rfl rfl rfl rfl rfl) c1)|(exact Has.ag (u' := erU 11) (g7 rfl rfl rfl rfl rfl rfl rfl) c2)))
    exact ⟨.inr rfl, _, Imp.refl _, .one (.tmp rfl)⟩
  | 12, _ =>
    have c1 := er_gen (i := 12) (by decide)
    have c2 := er_ref (i := 12) (by decide)
    repeat(first|refine run4p ?_|((with_reducible apply st_call);exact rfl;exact rfl;exact rfl;first|(exact Has.ag (u' := erU 12) (g7 rfl rfl rfl rfl rfl rfl rfl) c1)|(exact Has.ag (u' := erU 12) (g7 rfl rfl rfl rfl rfl rfl rfl) c2))|((with_reducible apply st_callg);exact rfl;exact rfl;(first|exact rfl|assumption);exact rfl;exact rfl;exact rfl;first|(exact Has.ag (u' := erU 12) (g7 rfl rfl rfl rfl rfl rfl rfl) c1)|(exact Has.ag (u' := erU 12) (g7 rfl rfl rfl rfl rfl rfl rfl) c2)))
    exact ⟨.inr rfl, _, Imp.refl _, .one (.tmp rfl)⟩
  | 13, _ =>
    have c1 := er_gen (i := 13) (by decide)
    have c2 := er_ref (i := 13) (by decide)
    repeat(first|refine run4p ?_|((with_reducible apply st_call);exact rfl;exact rfl;exact rfl;first|(exact Has.ag (u' := erU 13) (g7 rfl rfl rfl rfl rfl rfl rfl) c1)|(exact Has.ag (u' := erU 13) (g7 rfl rfl rfl rfl rfl rfl rfl) c2))|((with_reducible apply st_callg);exact rfl;exact rfl;(first|exact rfl|assumption);exact rfl;exact rfl;exact rfl;first|(exact Has.ag (u' := erU 13) (g7 rfl rfl rfl rfl rfl rfl rfl) c1)|(exact Has.ag (u' := erU 13) (g7 rfl rfl rfl rfl rfl rfl rfl) c2)))
    exact ⟨.inr rfl, _, Imp.refl _, .one (.tmp rfl)⟩
  | 14, _ =>
    have c1 := er_gen (i := 14) (by decide)
    have c2 := er_ref (i := 14) (by decide)
    repeat(first|refine run4p ?_|((with_reducible apply st_call);exact rfl;exact rfl;exact rfl;first|(exact Has.ag (u' := erU 14) (g7 rfl rfl rfl rfl rfl rfl rfl) c1)|(exact Has.ag (u' := erU 14) (g7 rfl rfl rfl rfl rfl rfl rfl) c2))|((with_reducible apply st_callg);exact rfl;exact rfl;(first|exact rfl|assumption);exact rfl;exact rfl;exact rfl;first|(exact Has.ag (u' := erU 14) (g7 rfl rfl rfl rfl rfl rfl rfl) c1)|(exact Has.ag (u' := erU 14) (g7 rfl rfl rfl rfl rfl rfl rfl) c2)))
    exact ⟨.inr rfl, _, Imp.refl _, .one (.tmp rfl)⟩
end Go.Proofs.Ytpclkgjhfhhddaa.AM

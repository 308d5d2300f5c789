/- Joined texts, 23: RwE QuZ FbB GrG MkD LawVa FbC. -/
import Derived.Test.YtpclkgjhfhhddaaGreatJLawFastBig22
import Derived.Test.YtpclkgjhfhhddaaGreatJLawFastBig18
import Derived.Test.YtpclkgjhfhhddaaGreatJLawFastBig3
import Derived.Test.YtpclkgjhfhhddaaGreatJLawFastBig21
set_option linter.unusedVariables false
set_option linter.unusedSimpArgs false
/- The document's check of whatever comes in (printed by gen/gen_rwe.py). -/
namespace Go.Proofs.YtpclkgjhfhhddaaGreat.AM
open Go Go.RowKit Go.Proofs.YtpclkgjhfhhddaaGreat.PN Go.Proofs.YtpclkgjhfhhddaaGreat.V
set_option linter.unusedVariables false
set_option linter.unusedSimpArgs false
set_option maxRecDepth 8000
set_option maxHeartbeats 8000000
theorem r5_countsr {k n r : Nat} {A B G H : PR} (h1 : 1 ≤ k) (h7 : k ≤ 7) (n1 : 1 ≤ n) (n8 : n ≤ 8) (r3 : r ≤ 3) : Has Tryz.prog 18 [GR.v ⟨k, n, r, A, B, G, H⟩] (.tup3 (.i (cnA k n)) (.i (cnB k n)) (.i (cnH k n r))) := by
  have hk : k = 1 ∨ k = 2 ∨ k = 3 ∨ k = 4 ∨ k = 5 ∨ k = 6 ∨ k = 7 := by omega
  have em : (n : Int) * (r : Int) = ((n * r : Nat) : Int) := (Int.natCast_mul n r).symm
  have hnr : n * r ≤ 8 * 3 := Nat.mul_le_mul n8 r3
  have q1 : -9223372036854775808 ≤ (n : Int) * (r : Int) := by rw [em]; omega
  have q2 : (n : Int) * (r : Int) ≤ 9223372036854775807 := by rw [em]; omega
  refine has_of Tryz.func18 (by kernel_rfl) rfl Tryz.ntmps18 Tryz.results18 rfl rfl rfl ?_
  refine run0 ?_
  rcases hk with rfl | rfl | rfl | rfl | rfl | rfl | rfl
  · skip
    refine awp_yes rfl rfl ?_
    refine run0 ?_
    refine awp_yes rfl rfl ?_
    refine run0 ?_
    rw [show (2 : Int) * n - 1 = ((cnA 1 n : Nat) : Int) from by show (2 : Int) * n - 1 = ((2 * n - 1 : Nat) : Int); omega]
    exact ⟨.inr rfl, _, Imp.refl _, .three (.tmp rfl) (.tmp rfl) (.tmp rfl)⟩
  · skip
    refine awp_no rfl rfl ?_
    refine run0 ?_
    refine awp_yes rfl rfl ?_
    refine run0 ?_
    rw [show (2 : Int) * n - 1 = ((cnA 2 n : Nat) : Int) from by show (2 : Int) * n - 1 = ((2 * n - 1 : Nat) : Int); omega]
    exact ⟨.inr rfl, _, Imp.refl _, .three (.tmp rfl) (.tmp rfl) (.tmp rfl)⟩
  · skip
    refine awp_no rfl rfl ?_
    refine run0 ?_
    refine awp_no rfl rfl ?_
    refine run0 ?_
    refine awp_yes rfl rfl ?_
    refine run0 ?_
    refine awp_yes rfl rfl ?_
    refine run0 ?_
    exact ⟨.inr rfl, _, Imp.refl _, .three (.tmp rfl) (.tmp rfl) (.tmp rfl)⟩
  · skip
    refine awp_no rfl rfl ?_
    refine run0 ?_
    refine awp_no rfl rfl ?_
    refine run0 ?_
    refine awp_no rfl rfl ?_
    refine run0 ?_
    refine awp_yes rfl rfl ?_
    refine run0 ?_
    exact ⟨.inr rfl, _, Imp.refl _, .three (.tmp rfl) (.tmp rfl) (.tmp rfl)⟩
  · skip
    refine awp_no rfl rfl ?_
    refine run0 ?_
    refine awp_no rfl rfl ?_
    refine run0 ?_
    refine awp_no rfl rfl ?_
    refine run0 ?_
    refine awp_no rfl rfl ?_
    refine run0 ?_
    refine awp_yes rfl rfl ?_
    refine run0 ?_
    exact ⟨.inr rfl, _, Imp.refl _, .three (.tmp rfl) (.tmp rfl) (.tmp rfl)⟩
  · skip
    refine awp_no rfl rfl ?_
    refine run0 ?_
    refine awp_no rfl rfl ?_
    refine run0 ?_
    refine awp_no rfl rfl ?_
    refine run0 ?_
    refine awp_no rfl rfl ?_
    refine run0 ?_
    refine awp_no rfl rfl ?_
    refine run0 ?_
    refine awp_yes rfl rfl ?_
    refine run0 ?_
    rw [em]
    exact ⟨.inr rfl, _, Imp.refl _, .three (.tmp rfl) (.tmp rfl) (.tmp rfl)⟩
  · skip
    refine awp_no rfl rfl ?_
    refine run0 ?_
    refine awp_no rfl rfl ?_
    refine run0 ?_
    refine awp_no rfl rfl ?_
    refine run0 ?_
    refine awp_no rfl rfl ?_
    refine run0 ?_
    refine awp_no rfl rfl ?_
    refine run0 ?_
    refine awp_no rfl rfl ?_
    refine run0 ?_
    rw [em]
    exact ⟨.inr rfl, _, Imp.refl _, .three (.tmp rfl) (.tmp rfl) (.tmp rfl)⟩
/-- What the rows' lengths are. -/
theorem cnt_eq {k n r : Nat} (h1 : 1 ≤ k) (h7 : k ≤ 7) (n1 : 1 ≤ n) : cnt k n r 0 = (cnA k n : Nat) ∧ cnt k n r 1 = (cnB k n : Nat) ∧ cnt k n r 2 = (cnH k n r : Nat) ∧ cnt k n r 3 = (cnH k n r : Nat) := by
  have e : ((n * r : Nat) : Int) = (n : Int) * r := Int.natCast_mul n r
  have hk : k = 1 ∨ k = 2 ∨ k = 3 ∨ k = 4 ∨ k = 5 ∨ k = 6 ∨ k = 7 := by omega
  have c : ∀ (x y z n r : Int), x = 0 → y = 1 → z = 0 → x * n + y * n * r + z = n * r := by intro x y z n r hx hy hz; subst hx; subst hy; subst hz; simp
  have d : ∀ (x y z n r : Int), x = 1 → y = 0 → z = 0 → x * n + y * n * r + z = n := by intro x y z n r hx hy hz; subst hx; subst hy; subst hz; simp
  have f : ∀ (x y z n r : Int), x = 2 → y = 0 → z = -1 → x * n + y * n * r + z = 2 * n - 1 := by intro x y z n r hx hy hz; subst hx; subst hy; subst hz; simp; omega
  have z : ∀ (x y z n r : Int), x = 0 → y = 0 → z = 0 → x * n + y * n * r + z = 0 := by intro x y z n r hx hy hz; subst hx; subst hy; subst hz; simp
  unfold cnt
  rcases hk with rfl | rfl | rfl | rfl | rfl | rfl | rfl
  all_goals
    refine ⟨?_, ?_, ?_, ?_⟩
    all_goals
      simp only [cnA, cnB, cnH]
      first
        | (rw [z _ _ _ _ _ (by decide) (by decide) (by decide)] <;> omega)
        | (rw [f _ _ _ _ _ (by decide) (by decide) (by decide)] <;> omega)
        | (rw [d _ _ _ _ _ (by decide) (by decide) (by decide)] <;> omega)
        | (rw [c _ _ _ _ _ (by decide) (by decide) (by decide)] <;> omega)
theorem r5_rightr {r : PR} (hf : r.Fin) (hn : r.m ≤ 1000000) : Has Tryz.prog 23 [r.v] (.b r.sm) := by
  have step : ∀ i, i < r.m → ∀ (h : (i : Nat) < r.m), smB (r.s i) (r.f i) (r.g i) = (decide ((r.f i).length ≤ 4) && decide ((r.g i).length ≤ 4) && rgtB (r.s i) (r.f i) (r.g i)) := fun i hi h => rfl
  by_cases hall : ∀ i, i < r.m → smB (r.s i) (r.f i) (r.g i) = true
  · rw [show r.sm = true from decide_eq_true hall]
    refine has_of Tryz.func23 (by kernel_rfl) rfl Tryz.ntmps23 Tryz.results23 rfl rfl rfl ?_
    refine run0p ?_
    refine awp_loop (fun m' s => ∃ i, i ≤ r.m ∧ m' = r.m - i ∧ s = stl [(0, r.v), (3, .i (i : Int))] []) r.m _ (imp_id ?_ ?_) ⟨0, Nat.zero_le _, rfl, rfl⟩ ?_
    · refine alle rfl (Le.id rfl) True.intro ?_
      exact eA
    · exact hA
    rintro m' s ⟨i, hi, rfl, rfl⟩
    refine run0p ?_
    refine awp_if rfl (fun h => ?_) (fun h => ?_)
    · have h : i < r.m := by omega
      have hs := hall i h
      unfold smB at hs
      rw [Bool.and_eq_true, Bool.and_eq_true] at hs
      have l1 := of_decide_eq_true hs.1.1
      have l2 := of_decide_eq_true hs.1.2
      have cr := pr_rright (s := r.s i) (hf.f i h) (hf.g i h) (by omega) (by omega)
      rw [hs.2] at cr
      have f1 : decide ((4 : Int) < (((r.f i).length : Nat) : Int)) = false := decide_eq_false (by omega)
      have f2 : (decide ((4 : Int) < (((r.f i).length : Nat) : Int)) == false) = true := by rw [f1]; rfl
      have f3 : decide ((4 : Int) < (((r.g i).length : Nat) : Int)) = false := decide_eq_false (by omega)
      have f4 : (decide ((4 : Int) < (((r.g i).length : Nat) : Int)) == false) = true := by rw [f3]; rfl
      repeat(first|refine run1p ?_|((with_reducible apply st_call);exact rfl;exact rfl;exact rfl;first|(exact Has.p1 rfl rfl rfl cr))|((with_reducible apply st_callg);exact rfl;exact rfl;(first|exact rfl|assumption);exact rfl;exact rfl;exact rfl;first|(exact Has.p1 rfl rfl rfl cr)))
      refine awp_no rfl rfl ?_
      refine run0p ?_
      refine q_loop ?_ (imp_id ?_ ?_) ⟨i + 1, ?_, rfl, rfl⟩
      · omega
      · refine alle rfl (Le.id rfl) True.intro ?_
        exact eA
      · exact hA
      · omega
    · refine run0p ?_
      exact ⟨.inr rfl, _, Imp.refl _, .one (.tmp rfl)⟩
  · rw [show r.sm = false from decide_eq_false hall]
    obtain ⟨k0, hk0, hb0, hlt⟩ := first_true (b := fun i => !smB (r.s i) (r.f i) (r.g i)) r.m (fun h => hall fun i hi => by have := h i hi; simpa using this)
    have hlt : ∀ i, i < k0 → smB (r.s i) (r.f i) (r.g i) = true := fun i hi => by have := hlt i hi; simpa using this
    have hb0 : smB (r.s k0) (r.f k0) (r.g k0) = false := by simpa using hb0
    refine has_of Tryz.func23 (by kernel_rfl) rfl Tryz.ntmps23 Tryz.results23 rfl rfl rfl ?_
    refine run0p ?_
    refine awp_loop (fun m' s => ∃ i, i ≤ k0 ∧ m' = r.m - i ∧ s = stl [(0, r.v), (3, .i (i : Int))] []) r.m _ (imp_id ?_ ?_) ⟨0, Nat.zero_le _, rfl, rfl⟩ ?_
    · refine alle rfl (Le.id rfl) True.intro ?_
      exact eA
    · exact hA
    rintro m' s ⟨i, hi, rfl, rfl⟩
    have h : i < r.m := by omega
    refine run0p ?_
    refine awp_yes rfl (decide_eq_true (by omega)) ?_
    by_cases e : i = k0
    · subst e
      unfold smB at hb0
      by_cases l1 : (r.f i).length ≤ 4
      · have f1 : decide ((4 : Int) < (((r.f i).length : Nat) : Int)) = false := decide_eq_false (by omega)
        have f2 : (decide ((4 : Int) < (((r.f i).length : Nat) : Int)) == false) = true := by rw [f1]; rfl
        by_cases l2 : (r.g i).length ≤ 4
        · have f3 : decide ((4 : Int) < (((r.g i).length : Nat) : Int)) = false := decide_eq_false (by omega)
          have f4 : (decide ((4 : Int) < (((r.g i).length : Nat) : Int)) == false) = true := by rw [f3]; rfl
          have cr := pr_rright (s := r.s i) (hf.f i h) (hf.g i h) (by omega) (by omega)
          rw [decide_eq_true l1, decide_eq_true l2, Bool.true_and, Bool.true_and] at hb0
          rw [hb0] at cr
          repeat(first|refine run1p ?_|((with_reducible apply st_call);exact rfl;exact rfl;exact rfl;first|(exact Has.p1 rfl rfl rfl cr))|((with_reducible apply st_callg);exact rfl;exact rfl;(first|exact rfl|assumption);exact rfl;exact rfl;exact rfl;first|(exact Has.p1 rfl rfl rfl cr)))
          refine awp_yes rfl rfl ?_
          refine run0p ?_
          exact ⟨.inr rfl, _, Imp.refl _, .one (.tmp rfl)⟩
        · have f3 : decide ((4 : Int) < (((r.g i).length : Nat) : Int)) = true := decide_eq_true (by omega)
          have f4 : (decide ((4 : Int) < (((r.g i).length : Nat) : Int)) == false) = false := by rw [f3]; rfl
          refine run0p ?_
          refine awp_yes rfl rfl ?_
          refine run0p ?_
          exact ⟨.inr rfl, _, Imp.refl _, .one (.tmp rfl)⟩
      · have f1 : decide ((4 : Int) < (((r.f i).length : Nat) : Int)) = true := decide_eq_true (by omega)
        have f2 : (decide ((4 : Int) < (((r.f i).length : Nat) : Int)) == false) = false := by rw [f1]; rfl
        refine run0p ?_
        refine awp_yes rfl rfl ?_
        refine run0p ?_
        exact ⟨.inr rfl, _, Imp.refl _, .one (.tmp rfl)⟩
    · have hs := hlt i (by omega)
      unfold smB at hs
      rw [Bool.and_eq_true, Bool.and_eq_true] at hs
      have l1 := of_decide_eq_true hs.1.1
      have l2 := of_decide_eq_true hs.1.2
      have cr := pr_rright (s := r.s i) (hf.f i h) (hf.g i h) (by omega) (by omega)
      rw [hs.2] at cr
      have f1 : decide ((4 : Int) < (((r.f i).length : Nat) : Int)) = false := decide_eq_false (by omega)
      have f2 : (decide ((4 : Int) < (((r.f i).length : Nat) : Int)) == false) = true := by rw [f1]; rfl
      have f3 : decide ((4 : Int) < (((r.g i).length : Nat) : Int)) = false := decide_eq_false (by omega)
      have f4 : (decide ((4 : Int) < (((r.g i).length : Nat) : Int)) == false) = true := by rw [f3]; rfl
      repeat(first|refine run1p ?_|((with_reducible apply st_call);exact rfl;exact rfl;exact rfl;first|(exact Has.p1 rfl rfl rfl cr))|((with_reducible apply st_callg);exact rfl;exact rfl;(first|exact rfl|assumption);exact rfl;exact rfl;exact rfl;first|(exact Has.p1 rfl rfl rfl cr)))
      refine awp_no rfl rfl ?_
      refine run0p ?_
      refine q_loop ?_ (imp_id ?_ ?_) ⟨i + 1, ?_, rfl, rfl⟩
      · omega
      · refine alle rfl (Le.id rfl) True.intro ?_
        exact eA
      · exact hA
      · omega
/-- What is wrong with kind and size. -/
def headV (k n r : Int) : Int := bif kindB k then 2 else bif sizedB k n r then 0 else 1
theorem r5_likez {k : Int} : Has Tryz.prog 17 [.i k] (.b (likeZ k)) := by
  refine has_of Tryz.func17 (by kernel_rfl) rfl Tryz.ntmps17 Tryz.results17 rfl rfl rfl ?_
  by_cases h6 : k = 6
  · have e0 : decide (k = 6) = true := decide_eq_true h6
    have e1 : (decide (k = 6) == false) = false := by rw [e0]; rfl
    refine run0p ?_
    refine ⟨.inr rfl, _, Imp.refl _, ?_⟩
    rw [show likeZ k = true by unfold likeZ; rw [e0]; rfl]
    exact .one (.tmp rfl)
  · have e0 : decide (k = 6) = false := decide_eq_false h6
    have e1 : (decide (k = 6) == false) = true := by rw [e0]; rfl
    refine run0p ?_
    refine ⟨.inr rfl, _, Imp.refl _, ?_⟩
    rw [show likeZ k = decide (k = 7) by unfold likeZ; rw [e0]; rfl]
    exact .one (.tmp rfl)
theorem r5_headr (k n r : Int) (A B G H : PR) : Has Tryz.prog 22 [GR.v ⟨k, n, r, A, B, G, H⟩] (.i (headV k n r)) := by
  refine has_of Tryz.func22 (by kernel_rfl) rfl Tryz.ntmps22 Tryz.results22 rfl rfl rfl ?_
  by_cases h1 : k < 1
  · have e0 : decide (k < 1) = true := decide_eq_true h1
    have e1 : (decide (k < 1) == false) = false := by rw [e0]; rfl
    rw [show headV k n r = 2 by unfold headV kindB; rw [e0]; rfl]
    refine run0p ?_
    refine awp_yes rfl rfl ?_
    refine run0p ?_
    exact ⟨.inr rfl, _, Imp.refl _, .one (.tmp rfl)⟩
  have e0 : decide (k < 1) = false := decide_eq_false h1
  have e1 : (decide (k < 1) == false) = true := by rw [e0]; rfl
  refine run0p ?_
  by_cases h7 : 7 < k
  · have e2 : decide ((7 : Int) < k) = true := decide_eq_true h7
    rw [show headV k n r = 2 by unfold headV kindB; rw [e0, e2]; rfl]
    refine awp_yes rfl e2 ?_
    refine run0p ?_
    exact ⟨.inr rfl, _, Imp.refl _, .one (.tmp rfl)⟩
  have e2 : decide ((7 : Int) < k) = false := decide_eq_false h7
  refine awp_no rfl e2 ?_
  have cl := r5_likez (k := k)
  rw [show headV k n r = (bif sizedB k n r then 0 else 1) by unfold headV kindB; rw [e0, e2]; rfl]
  by_cases n1 : n < 1
  · have d0 : decide (n < 1) = true := decide_eq_true n1
    have d1 : (decide (n < 1) == false) = false := by rw [d0]; rfl
    rw [show sizedB k n r = false by unfold sizedB; rw [d0]; rfl]
    refine run0p ?_
    refine awp_yes rfl rfl ?_
    refine run0p ?_
    exact ⟨.inr rfl, _, Imp.refl _, .one (.tmp rfl)⟩
  have d0 : decide (n < 1) = false := decide_eq_false n1
  have d1 : (decide (n < 1) == false) = true := by rw [d0]; rfl
  by_cases n8 : 8 < n
  · have d2 : decide ((8 : Int) < n) = true := decide_eq_true n8
    have d3 : (decide ((8 : Int) < n) == false) = false := by rw [d2]; rfl
    rw [show sizedB k n r = false by unfold sizedB; rw [d2]; simp]
    refine run0p ?_
    refine awp_yes rfl rfl ?_
    refine run0p ?_
    exact ⟨.inr rfl, _, Imp.refl _, .one (.tmp rfl)⟩
  have d2 : decide ((8 : Int) < n) = false := decide_eq_false n8
  have d3 : (decide ((8 : Int) < n) == false) = true := by rw [d2]; rfl
  cases hk : likeZ k with
  | true =>
    rw [hk] at cl
    rw [show sizedB k n r = (decide (1 ≤ r) && decide (r ≤ 3)) by unfold sizedB; rw [d0, d2, hk]; rfl]
    by_cases r1 : r < 1
    · have a0 : decide (r < 1) = true := decide_eq_true r1
      have a1 : (decide (r < 1) == false) = false := by rw [a0]; rfl
      rw [decide_eq_false (by omega : ¬ 1 ≤ r)]
      repeat(first|refine run1p ?_|((with_reducible apply st_call);exact rfl;exact rfl;exact rfl;first|(exact cl))|((with_reducible apply st_callg);exact rfl;exact rfl;(first|exact rfl|assumption);exact rfl;exact rfl;exact rfl;first|(exact cl)))
      refine awp_yes rfl rfl ?_
      refine run0p ?_
      exact ⟨.inr rfl, _, Imp.refl _, .one (.tmp rfl)⟩
    have a0 : decide (r < 1) = false := decide_eq_false r1
    have a1 : (decide (r < 1) == false) = true := by rw [a0]; rfl
    by_cases r3 : 3 < r
    · have a2 : decide ((3 : Int) < r) = true := decide_eq_true r3
      have a3 : (decide ((3 : Int) < r) == false) = false := by rw [a2]; rfl
      rw [decide_eq_true (by omega : 1 ≤ r), decide_eq_false (by omega : ¬ r ≤ 3)]
      repeat(first|refine run1p ?_|((with_reducible apply st_call);exact rfl;exact rfl;exact rfl;first|(exact cl))|((with_reducible apply st_callg);exact rfl;exact rfl;(first|exact rfl|assumption);exact rfl;exact rfl;exact rfl;first|(exact cl)))
      refine awp_yes rfl rfl ?_
      refine run0p ?_
      exact ⟨.inr rfl, _, Imp.refl _, .one (.tmp rfl)⟩
    have a2 : decide ((3 : Int) < r) = false := decide_eq_false r3
    have a3 : (decide ((3 : Int) < r) == false) = true := by rw [a2]; rfl
    rw [decide_eq_true (by omega : 1 ≤ r), decide_eq_true (by omega : r ≤ 3)]
    repeat(first|refine run1p ?_|((with_reducible apply st_call);exact rfl;exact rfl;exact rfl;first|(exact cl))|((with_reducible apply st_callg);exact rfl;exact rfl;(first|exact rfl|assumption);exact rfl;exact rfl;exact rfl;first|(exact cl)))
    refine awp_no rfl rfl ?_
    refine run0p ?_
    exact ⟨.inr rfl, _, Imp.refl _, .one (.tmp rfl)⟩
  | false =>
    rw [hk] at cl
    rw [show sizedB k n r = decide (r = 0) by unfold sizedB; rw [d0, d2, hk]; rfl]
    by_cases r0 : r = 0
    · have a0 : decide (r ≠ 0) = false := decide_eq_false fun h => h r0
      have a1 : (decide (r ≠ 0) == false) = true := by rw [a0]; rfl
      rw [decide_eq_true r0]
      repeat(first|refine run1p ?_|((with_reducible apply st_call);exact rfl;exact rfl;exact rfl;first|(exact cl))|((with_reducible apply st_callg);exact rfl;exact rfl;(first|exact rfl|assumption);exact rfl;exact rfl;exact rfl;first|(exact cl)))
      refine awp_no rfl a0 ?_
      refine run0p ?_
      exact ⟨.inr rfl, _, Imp.refl _, .one (.tmp rfl)⟩
    · have a0 : decide (r ≠ 0) = true := decide_eq_true r0
      have a1 : (decide (r ≠ 0) == false) = false := by rw [a0]; rfl
      rw [decide_eq_false r0]
      repeat(first|refine run1p ?_|((with_reducible apply st_call);exact rfl;exact rfl;exact rfl;first|(exact cl))|((with_reducible apply st_callg);exact rfl;exact rfl;(first|exact rfl|assumption);exact rfl;exact rfl;exact rfl;first|(exact cl)))
      refine awp_yes rfl a0 ?_
      refine run0p ?_
      exact ⟨.inr rfl, _, Imp.refl _, .one (.tmp rfl)⟩
/-- Whatever comes in. -/
theorem r5_checkr {g : GR} (hf : g.Fin) : Has Tryz.prog 8 [g.v] (.i (chk g)) := by
  obtain ⟨k, n, r, A, B, G, H⟩ := g
  obtain ⟨fA, fB, fG, fH⟩ := hf
  change A.Fin at fA
  change B.Fin at fB
  change G.Fin at fG
  change H.Fin at fH
  have ch := r5_headr k n r A B G H
  by_cases hz : headV k n r = 0
  · rw [hz] at ch
    have hkz : kindB k = false ∧ sizedB k n r = true := by
      unfold headV at hz
      cases hk : kindB k with
      | true => rw [hk] at hz; cases hz
      | false => cases hs : sizedB k n r with
        | true => exact ⟨rfl, rfl⟩
        | false => rw [hk, hs] at hz; cases hz
    rw [show chk ⟨k, n, r, A, B, G, H⟩ = chkR ⟨k, n, r, A, B, G, H⟩ by unfold chk; simp only [hkz.1, hkz.2, cond_false, cond_true]]
    obtain ⟨hk, hs⟩ := hkz
    unfold kindB at hk
    rw [Bool.or_eq_false_iff] at hk
    have h1 := of_decide_eq_false hk.1
    have h7 := of_decide_eq_false hk.2
    unfold sizedB at hs
    rw [Bool.and_eq_true, Bool.not_eq_true', Bool.or_eq_false_iff] at hs
    have n1 := of_decide_eq_false hs.1.1
    have n8 := of_decide_eq_false hs.1.2
    have hr : 0 ≤ r ∧ r ≤ 3 := by
      have h := hs.2
      cases hl : likeZ k with
      | true => rw [hl, cond_true, Bool.and_eq_true] at h; have a := of_decide_eq_true h.1; have b := of_decide_eq_true h.2; omega
      | false => rw [hl, cond_false] at h; have a := of_decide_eq_true h; omega
    clear hs hk hz
    obtain ⟨k, rfl⟩ : ∃ k' : Nat, k = k' := ⟨k.toNat, by omega⟩
    obtain ⟨n, rfl⟩ : ∃ n' : Nat, n = n' := ⟨n.toNat, by omega⟩
    obtain ⟨r, rfl⟩ : ∃ r' : Nat, r = r' := ⟨r.toNat, by omega⟩
    obtain ⟨w0, w1, w2, w3⟩ := cnt_eq (k := k) (n := n) (r := r) (by omega) (by omega) (by omega)
    have cc := r5_countsr (k := k) (n := n) (r := r) (A := A) (B := B) (G := G) (H := H) (by omega) (by omega) (by omega) (by omega) (by omega)
    have nr : n * r ≤ 8 * 3 := Nat.mul_le_mul (by omega) (by omega)
    have bA : cnA k n ≤ 1000000 := by unfold cnA; split <;> omega
    have bB : cnB k n ≤ 1000000 := by unfold cnB; split <;> omega
    have bH : cnH k n r ≤ 1000000 := by unfold cnH; split <;> omega
    show Has Tryz.prog _ _ (.i (chkV (A.len (cnt k n r 0)) (B.len (cnt k n r 1)) (G.len (cnt k n r 2)) (H.len (cnt k n r 3)) A.sm B.sm G.sm H.sm (A.meets B)))
    rw [w0, w1, w2, w3]
    generalize ea : cnA k n = a at *
    generalize eb : cnB k n = b at *
    generalize eh : cnH k n r = h at *
    have q0 : decide ((A.m : Int) ≠ (a : Nat)) = !A.len (a : Nat) := by unfold PR.len; simp
    have q1 : decide ((B.m : Int) ≠ (b : Nat)) = !B.len (b : Nat) := by unfold PR.len; simp
    have q2 : decide ((G.m : Int) ≠ (h : Nat)) = !G.len (h : Nat) := by unfold PR.len; simp
    have q3 : decide ((H.m : Int) ≠ (h : Nat)) = !H.len (h : Nat) := by unfold PR.len; simp
    have p0 : (decide ((A.m : Int) ≠ (a : Nat)) == false) = A.len (a : Nat) := by rw [q0]; cases A.len (a : Nat) <;> rfl
    have p1 : (decide ((B.m : Int) ≠ (b : Nat)) == false) = B.len (b : Nat) := by rw [q1]; cases B.len (b : Nat) <;> rfl
    have p2 : (decide ((G.m : Int) ≠ (h : Nat)) == false) = G.len (h : Nat) := by rw [q2]; cases G.len (h : Nat) <;> rfl
    cases l0 : A.len (a : Nat) with
    | false =>
      rw [l0] at q0 p0
      refine has_of Tryz.func8 (by kernel_rfl) rfl Tryz.ntmps8 Tryz.results8 rfl rfl rfl ?_
      repeat(first|refine run1p ?_|((with_reducible apply st_call);exact rfl;exact rfl;exact rfl;first|(exact Has.ag (g7 rfl rfl rfl rfl rfl rfl rfl) ch))|((with_reducible apply st_callg);exact rfl;exact rfl;(first|exact rfl|assumption);exact rfl;exact rfl;exact rfl;first|(exact Has.ag (g7 rfl rfl rfl rfl rfl rfl rfl) ch)))
      refine awp_no rfl rfl ?_
      repeat(first|refine run1p ?_|((with_reducible apply st_call);exact rfl;exact rfl;exact rfl;first|(exact Has.ag (g7 rfl rfl rfl rfl rfl rfl rfl) cc))|((with_reducible apply st_callg);exact rfl;exact rfl;(first|exact rfl|assumption);exact rfl;exact rfl;exact rfl;first|(exact Has.ag (g7 rfl rfl rfl rfl rfl rfl rfl) cc)))
      refine awp_yes rfl rfl ?_
      refine run0p ?_
      exact ⟨.inr rfl, _, Imp.refl _, .one (.tmp rfl)⟩
    | true =>
    rw [l0] at q0 p0
    cases l1 : B.len (b : Nat) with
    | false =>
      rw [l1] at q1 p1
      refine has_of Tryz.func8 (by kernel_rfl) rfl Tryz.ntmps8 Tryz.results8 rfl rfl rfl ?_
      repeat(first|refine run1p ?_|((with_reducible apply st_call);exact rfl;exact rfl;exact rfl;first|(exact Has.ag (g7 rfl rfl rfl rfl rfl rfl rfl) ch))|((with_reducible apply st_callg);exact rfl;exact rfl;(first|exact rfl|assumption);exact rfl;exact rfl;exact rfl;first|(exact Has.ag (g7 rfl rfl rfl rfl rfl rfl rfl) ch)))
      refine awp_no rfl rfl ?_
      repeat(first|refine run1p ?_|((with_reducible apply st_call);exact rfl;exact rfl;exact rfl;first|(exact Has.ag (g7 rfl rfl rfl rfl rfl rfl rfl) cc))|((with_reducible apply st_callg);exact rfl;exact rfl;(first|exact rfl|assumption);exact rfl;exact rfl;exact rfl;first|(exact Has.ag (g7 rfl rfl rfl rfl rfl rfl rfl) cc)))
      refine awp_yes rfl rfl ?_
      refine run0p ?_
      exact ⟨.inr rfl, _, Imp.refl _, .one (.tmp rfl)⟩
    | true =>
    rw [l1] at q1 p1
    cases l2 : G.len (h : Nat) with
    | false =>
      rw [l2] at q2 p2
      refine has_of Tryz.func8 (by kernel_rfl) rfl Tryz.ntmps8 Tryz.results8 rfl rfl rfl ?_
      repeat(first|refine run1p ?_|((with_reducible apply st_call);exact rfl;exact rfl;exact rfl;first|(exact Has.ag (g7 rfl rfl rfl rfl rfl rfl rfl) ch))|((with_reducible apply st_callg);exact rfl;exact rfl;(first|exact rfl|assumption);exact rfl;exact rfl;exact rfl;first|(exact Has.ag (g7 rfl rfl rfl rfl rfl rfl rfl) ch)))
      refine awp_no rfl rfl ?_
      repeat(first|refine run1p ?_|((with_reducible apply st_call);exact rfl;exact rfl;exact rfl;first|(exact Has.ag (g7 rfl rfl rfl rfl rfl rfl rfl) cc))|((with_reducible apply st_callg);exact rfl;exact rfl;(first|exact rfl|assumption);exact rfl;exact rfl;exact rfl;first|(exact Has.ag (g7 rfl rfl rfl rfl rfl rfl rfl) cc)))
      refine awp_yes rfl rfl ?_
      refine run0p ?_
      exact ⟨.inr rfl, _, Imp.refl _, .one (.tmp rfl)⟩
    | true =>
    rw [l2] at q2 p2
    cases l3 : H.len (h : Nat) with
    | false =>
      rw [l3] at q3
      refine has_of Tryz.func8 (by kernel_rfl) rfl Tryz.ntmps8 Tryz.results8 rfl rfl rfl ?_
      repeat(first|refine run1p ?_|((with_reducible apply st_call);exact rfl;exact rfl;exact rfl;first|(exact Has.ag (g7 rfl rfl rfl rfl rfl rfl rfl) ch))|((with_reducible apply st_callg);exact rfl;exact rfl;(first|exact rfl|assumption);exact rfl;exact rfl;exact rfl;first|(exact Has.ag (g7 rfl rfl rfl rfl rfl rfl rfl) ch)))
      refine awp_no rfl rfl ?_
      repeat(first|refine run1p ?_|((with_reducible apply st_call);exact rfl;exact rfl;exact rfl;first|(exact Has.ag (g7 rfl rfl rfl rfl rfl rfl rfl) cc))|((with_reducible apply st_callg);exact rfl;exact rfl;(first|exact rfl|assumption);exact rfl;exact rfl;exact rfl;first|(exact Has.ag (g7 rfl rfl rfl rfl rfl rfl rfl) cc)))
      refine awp_yes rfl q3 ?_
      refine run0p ?_
      exact ⟨.inr rfl, _, Imp.refl _, .one (.tmp rfl)⟩
    | true =>
    rw [l3] at q3
    have m0 : A.m = a := by have := of_decide_eq_true l0; omega
    have m1 : B.m = b := by have := of_decide_eq_true l1; omega
    have m2 : G.m = h := by have := of_decide_eq_true l2; omega
    have m3 : H.m = h := by have := of_decide_eq_true l3; omega
    have c0 := r5_rightr fA (by omega); have c1 := r5_rightr fB (by omega); have c2 := r5_rightr fG (by omega); have c3 := r5_rightr fH (by omega)
    have spA := fun (hs : A.sm = true) (i : Nat) (hi : i < A.m) => PR.isp fA hs hi
    have spB := fun (hs : B.sm = true) (i : Nat) (hi : i < B.m) => PR.isp fB hs hi
    have hme : A.meets B = !decide (∀ i, i < A.m → B.has (A.s i) (A.f i) (A.g i) = false) := rfl
    cases s0 : A.sm with
    | false =>
      rw [s0] at c0
      refine has_of Tryz.func8 (by kernel_rfl) rfl Tryz.ntmps8 Tryz.results8 rfl rfl rfl ?_
      repeat(first|refine run1p ?_|((with_reducible apply st_call);exact rfl;exact rfl;exact rfl;first|(exact Has.ag (g7 rfl rfl rfl rfl rfl rfl rfl) ch))|((with_reducible apply st_callg);exact rfl;exact rfl;(first|exact rfl|assumption);exact rfl;exact rfl;exact rfl;first|(exact Has.ag (g7 rfl rfl rfl rfl rfl rfl rfl) ch)))
      refine awp_no rfl rfl ?_
      repeat(first|refine run1p ?_|((with_reducible apply st_call);exact rfl;exact rfl;exact rfl;first|(exact Has.ag (g7 rfl rfl rfl rfl rfl rfl rfl) cc))|((with_reducible apply st_callg);exact rfl;exact rfl;(first|exact rfl|assumption);exact rfl;exact rfl;exact rfl;first|(exact Has.ag (g7 rfl rfl rfl rfl rfl rfl rfl) cc)))
      refine awp_no rfl q3 ?_
      repeat(first|refine run1p ?_|((with_reducible apply st_call);exact rfl;exact rfl;exact rfl;first|(exact c0)|(exact c1)|(exact c2)|(exact c3))|((with_reducible apply st_callg);exact rfl;exact rfl;(first|exact rfl|assumption);exact rfl;exact rfl;exact rfl;first|(exact c0)|(exact c1)|(exact c2)|(exact c3)))
      refine awp_yes rfl rfl ?_
      refine run0p ?_
      exact ⟨.inr rfl, _, Imp.refl _, .one (.tmp rfl)⟩
    | true =>
    rw [s0] at c0
    cases s1 : B.sm with
    | false =>
      rw [s1] at c1
      refine has_of Tryz.func8 (by kernel_rfl) rfl Tryz.ntmps8 Tryz.results8 rfl rfl rfl ?_
      repeat(first|refine run1p ?_|((with_reducible apply st_call);exact rfl;exact rfl;exact rfl;first|(exact Has.ag (g7 rfl rfl rfl rfl rfl rfl rfl) ch))|((with_reducible apply st_callg);exact rfl;exact rfl;(first|exact rfl|assumption);exact rfl;exact rfl;exact rfl;first|(exact Has.ag (g7 rfl rfl rfl rfl rfl rfl rfl) ch)))
      refine awp_no rfl rfl ?_
      repeat(first|refine run1p ?_|((with_reducible apply st_call);exact rfl;exact rfl;exact rfl;first|(exact Has.ag (g7 rfl rfl rfl rfl rfl rfl rfl) cc))|((with_reducible apply st_callg);exact rfl;exact rfl;(first|exact rfl|assumption);exact rfl;exact rfl;exact rfl;first|(exact Has.ag (g7 rfl rfl rfl rfl rfl rfl rfl) cc)))
      refine awp_no rfl q3 ?_
      repeat(first|refine run1p ?_|((with_reducible apply st_call);exact rfl;exact rfl;exact rfl;first|(exact c0)|(exact c1)|(exact c2)|(exact c3))|((with_reducible apply st_callg);exact rfl;exact rfl;(first|exact rfl|assumption);exact rfl;exact rfl;exact rfl;first|(exact c0)|(exact c1)|(exact c2)|(exact c3)))
      refine awp_yes rfl rfl ?_
      refine run0p ?_
      exact ⟨.inr rfl, _, Imp.refl _, .one (.tmp rfl)⟩
    | true =>
    rw [s1] at c1
    cases s2 : G.sm with
    | false =>
      rw [s2] at c2
      refine has_of Tryz.func8 (by kernel_rfl) rfl Tryz.ntmps8 Tryz.results8 rfl rfl rfl ?_
      repeat(first|refine run1p ?_|((with_reducible apply st_call);exact rfl;exact rfl;exact rfl;first|(exact Has.ag (g7 rfl rfl rfl rfl rfl rfl rfl) ch))|((with_reducible apply st_callg);exact rfl;exact rfl;(first|exact rfl|assumption);exact rfl;exact rfl;exact rfl;first|(exact Has.ag (g7 rfl rfl rfl rfl rfl rfl rfl) ch)))
      refine awp_no rfl rfl ?_
      repeat(first|refine run1p ?_|((with_reducible apply st_call);exact rfl;exact rfl;exact rfl;first|(exact Has.ag (g7 rfl rfl rfl rfl rfl rfl rfl) cc))|((with_reducible apply st_callg);exact rfl;exact rfl;(first|exact rfl|assumption);exact rfl;exact rfl;exact rfl;first|(exact Has.ag (g7 rfl rfl rfl rfl rfl rfl rfl) cc)))
      refine awp_no rfl q3 ?_
      repeat(first|refine run1p ?_|((with_reducible apply st_call);exact rfl;exact rfl;exact rfl;first|(exact c0)|(exact c1)|(exact c2)|(exact c3))|((with_reducible apply st_callg);exact rfl;exact rfl;(first|exact rfl|assumption);exact rfl;exact rfl;exact rfl;first|(exact c0)|(exact c1)|(exact c2)|(exact c3)))
      refine awp_yes rfl rfl ?_
      refine run0p ?_
      exact ⟨.inr rfl, _, Imp.refl _, .one (.tmp rfl)⟩
    | true =>
    rw [s2] at c2
    cases s3 : H.sm with
    | false =>
      rw [s3] at c3
      refine has_of Tryz.func8 (by kernel_rfl) rfl Tryz.ntmps8 Tryz.results8 rfl rfl rfl ?_
      repeat(first|refine run1p ?_|((with_reducible apply st_call);exact rfl;exact rfl;exact rfl;first|(exact Has.ag (g7 rfl rfl rfl rfl rfl rfl rfl) ch))|((with_reducible apply st_callg);exact rfl;exact rfl;(first|exact rfl|assumption);exact rfl;exact rfl;exact rfl;first|(exact Has.ag (g7 rfl rfl rfl rfl rfl rfl rfl) ch)))
      refine awp_no rfl rfl ?_
      repeat(first|refine run1p ?_|((with_reducible apply st_call);exact rfl;exact rfl;exact rfl;first|(exact Has.ag (g7 rfl rfl rfl rfl rfl rfl rfl) cc))|((with_reducible apply st_callg);exact rfl;exact rfl;(first|exact rfl|assumption);exact rfl;exact rfl;exact rfl;first|(exact Has.ag (g7 rfl rfl rfl rfl rfl rfl rfl) cc)))
      refine awp_no rfl q3 ?_
      repeat(first|refine run1p ?_|((with_reducible apply st_call);exact rfl;exact rfl;exact rfl;first|(exact c0)|(exact c1)|(exact c2)|(exact c3))|((with_reducible apply st_callg);exact rfl;exact rfl;(first|exact rfl|assumption);exact rfl;exact rfl;exact rfl;first|(exact c0)|(exact c1)|(exact c2)|(exact c3)))
      refine awp_yes rfl rfl ?_
      refine run0p ?_
      exact ⟨.inr rfl, _, Imp.refl _, .one (.tmp rfl)⟩
    | true =>
    rw [s3] at c3
    have spA := spA s0
    have spB := spB s1
    refine has_of Tryz.func8 (by kernel_rfl) rfl Tryz.ntmps8 Tryz.results8 rfl rfl rfl ?_
    repeat(first|refine run1p ?_|((with_reducible apply st_call);exact rfl;exact rfl;exact rfl;first|(exact Has.ag (g7 rfl rfl rfl rfl rfl rfl rfl) ch))|((with_reducible apply st_callg);exact rfl;exact rfl;(first|exact rfl|assumption);exact rfl;exact rfl;exact rfl;first|(exact Has.ag (g7 rfl rfl rfl rfl rfl rfl rfl) ch)))
    refine awp_no rfl rfl ?_
    repeat(first|refine run1p ?_|((with_reducible apply st_call);exact rfl;exact rfl;exact rfl;first|(exact Has.ag (g7 rfl rfl rfl rfl rfl rfl rfl) cc))|((with_reducible apply st_callg);exact rfl;exact rfl;(first|exact rfl|assumption);exact rfl;exact rfl;exact rfl;first|(exact Has.ag (g7 rfl rfl rfl rfl rfl rfl rfl) cc)))
    refine awp_no rfl q3 ?_
    repeat(first|refine run1p ?_|((with_reducible apply st_call);exact rfl;exact rfl;exact rfl;first|(exact c0)|(exact c1)|(exact c2)|(exact c3))|((with_reducible apply st_callg);exact rfl;exact rfl;(first|exact rfl|assumption);exact rfl;exact rfl;exact rfl;first|(exact c0)|(exact c1)|(exact c2)|(exact c3)))
    refine awp_no rfl rfl ?_
    refine run0p ?_
    refine awp_loop (fun m' s => ∃ i, i ≤ A.m ∧ m' = A.m - i ∧ (∀ j, j < i → B.has (A.s j) (A.f j) (A.g j) = false) ∧ s = stl [(1, .ptr 1 0 0), (4, .i a), (5, .i b), (7, .i (i : Int))] [(1, (1, fun _ => .ones 29 7 (GR.f ⟨k, n, r, A, B, G, H⟩)))]) A.m _ (imp_id ?_ ?_) ⟨0, Nat.zero_le _, rfl, fun i hi => absurd hi (Nat.not_lt_zero _), rfl⟩ ?_
    · exact eA
    · exact allh rfl (by decide) (bleo rfl fun _ _ => Le.id rfl) (fun i _ => GR.fok _ _ i) True.intro
    rintro m' s ⟨i, hi, rfl, hprev, rfl⟩
    refine run0p ?_
    refine awp_if rfl (fun h1 => ?_) (fun h1 => ?_)
    · have h1 : i < A.m := by omega
      obtain ⟨p, p1, p2⟩ := spA i h1
      refine run0p ?_
      refine awp_loop (fun m' s => ∃ j, j ≤ B.m ∧ m' = B.m - j ∧ (∀ t, t < j → eqB (A.s i) (A.f i) (A.g i) (B.s t) (B.f t) (B.g t) = false) ∧ s = stl [(1, .ptr 1 0 0), (4, .i a), (5, .i b), (7, .i (i : Int)), (8, .i (j : Int))] [(1, (1, fun _ => .ones 29 7 (GR.f ⟨k, n, r, A, B, G, H⟩)))]) B.m _ (imp_id ?_ ?_) ⟨0, Nat.zero_le _, rfl, fun i hi => absurd hi (Nat.not_lt_zero _), rfl⟩ ?_
      · exact eA
      · exact allh rfl (by decide) (bleo rfl fun _ _ => Le.id rfl) (fun i _ => GR.fok _ _ i) True.intro
      rintro m' s ⟨j, hj, rfl, hprev2, rfl⟩
      refine run0p ?_
      refine awp_if rfl (fun h2 => ?_) (fun h2 => ?_)
      · have h2 : j < B.m := by omega
        obtain ⟨q, q1, q2⟩ := spB j h2
        have cs := pr_same p2 q2
        rw [← isp_eq p2 q2, p1, q1] at cs
        have f1 : ((i : Nat) : Int) < A.m := by omega
        have f2 : ((j : Nat) : Int) < B.m := by omega
        repeat(first|refine run1p ?_|((with_reducible apply st_call);exact rfl;exact rfl;exact rfl;first|(exact Has.p2 rfl rfl rfl rfl rfl rfl cs))|((with_reducible apply st_callg);exact rfl;exact rfl;(first|exact rfl|assumption);exact rfl;exact rfl;exact rfl;first|(exact Has.p2 rfl rfl rfl rfl rfl rfl cs)))
        cases hb : eqB (A.s i) (A.f i) (A.g i) (B.s j) (B.f j) (B.g j) with
        | true =>
          refine awp_yes rfl rfl ?_
          refine run0p ?_
          refine ⟨.inr rfl, _, Imp.refl _, ?_⟩
          rw [hme, decide_eq_false (fun h3 : ∀ i, i < A.m → B.has (A.s i) (A.f i) (A.g i) = false => by
            have h4 := h3 i h1
            unfold PR.has at h4
            rw [Bool.not_eq_false', decide_eq_true_iff] at h4
            rw [h4 j h2] at hb; cases hb)]
          exact .one (.tmp rfl)
        | false =>
          refine awp_no rfl rfl ?_
          refine run0p ?_
          refine q_loop ?_ (imp_id ?_ ?_) ⟨j + 1, ?_, rfl, fun t ht => ?_, rfl⟩
          · omega
          · exact eA
          · exact allh rfl (by decide) (bleo rfl fun _ _ => Le.id rfl) (fun i _ => GR.fok _ _ i) True.intro
          · omega
          · rcases Nat.lt_or_ge t j with h | h
            · exact hprev2 t h
            · rw [show t = j by omega]; exact hb
      · refine run0p ?_
        refine q_loop ?_ (imp_id ?_ ?_) ⟨i + 1, ?_, rfl, fun t ht => ?_, rfl⟩
        · omega
        · exact eA
        · exact allh rfl (by decide) (bleo rfl fun _ _ => Le.id rfl) (fun i _ => GR.fok _ _ i) True.intro
        · omega
        · rcases Nat.lt_or_ge t i with h | h
          · exact hprev t h
          · rw [show t = i by omega]
            unfold PR.has
            rw [decide_eq_true fun x hx => hprev2 x (by omega)]; rfl
    · refine run0p ?_
      refine ⟨.inr rfl, _, Imp.refl _, ?_⟩
      rw [hme, decide_eq_true fun i hi => hprev i (by omega)]
      exact .one (.tmp rfl)
  · have hz1 : decide (headV k n r ≠ 0) = true := decide_eq_true hz
    have e : chk ⟨k, n, r, A, B, G, H⟩ = headV k n r := by
      unfold headV at hz ⊢
      unfold chk
      cases hk : kindB k with
      | true => rfl
      | false => cases hs : sizedB k n r with
        | true => rw [hk, hs] at hz; exact absurd rfl hz
        | false => rfl
    rw [e]
    refine has_of Tryz.func8 (by kernel_rfl) rfl Tryz.ntmps8 Tryz.results8 rfl rfl rfl ?_
    repeat(first|refine run1p ?_|((with_reducible apply st_call);exact rfl;exact rfl;exact rfl;first|(exact Has.ag (g7 rfl rfl rfl rfl rfl rfl rfl) ch))|((with_reducible apply st_callg);exact rfl;exact rfl;(first|exact rfl|assumption);exact rfl;exact rfl;exact rfl;first|(exact Has.ag (g7 rfl rfl rfl rfl rfl rfl rfl) ch)))
    refine awp_yes rfl hz1 ?_
    refine run0p ?_
    exact ⟨.inr rfl, _, Imp.refl _, .one (.tmp rfl)⟩
end Go.Proofs.YtpclkgjhfhhddaaGreat.AM
/- A quotient by nought is refused. -/
namespace Go.Proofs.YtpclkgjhfhhddaaGreat.AM
open Go Go.RowKit Go.Proofs.YtpclkgjhfhhddaaGreat.PN Go.Proofs.YtpclkgjhfhhddaaGreat.V
set_option linter.unusedVariables false
set_option linter.unusedSimpArgs false
set_option maxRecDepth 4000
theorem rvs3 {S : Nat → Prop} {B : Nat} {β : Nat → Nat → Value} {w : World} {x y z : AV} {vs : List Value} (h : RVs S B β w [x, y, z] vs) : ∃ v u t, vs = [v, u, t] ∧ RV S B β w x v ∧ RV S B β w y u ∧ RV S B β w z t := by
  match vs, h with
  | [v, u, t], h => exact ⟨v, u, t, rfl, h.2 0 x v rfl rfl, h.2 1 y u rfl rfl, h.2 2 z t rfl rfl⟩
  | [], h => exact absurd h.1 (by simp)
  | [_], h => exact absurd h.1 (by simp)
  | [_, _], h => exact absurd h.1 (by simp)
  | _ :: _ :: _ :: _ :: _, h => exact absurd h.1 (by simp)
end Go.Proofs.YtpclkgjhfhhddaaGreat.AM
/- The laws' raw numbers. -/
namespace Go.Proofs.YtpclkgjhfhhddaaGreat.AM
open Go Go.RowKit Go.Proofs.YtpclkgjhfhhddaaGreat.PN Go.Proofs.YtpclkgjhfhhddaaGreat.V
set_option linter.unusedVariables false
set_option linter.unusedSimpArgs false
set_option maxRecDepth 8000
set_option maxHeartbeats 4000000
theorem lf_take {l : List Nat} (h : LF l) (k : Nat) : LF (l.take k) := fun x hx => h x (List.mem_of_mem_take hx)
theorem a_make {l : List Nat} (hf : LF l) (hl : l.length ≤ 9223372036854775807) : Has Tryz.prog 20 [.plb l, .i 3] (.nat (lval (l.take 3))) := by
  refine ⟨by kernel_rfl, trivial, fun w S β vs hv => ?_⟩
  obtain ⟨v, u, rfl, q1, q2⟩ := rvs2 hv
  have q2 : u = .int .i64 3 := q2
  subst q2
  obtain ⟨A, c, rfl, hc, ha⟩ := plb_at q1 hf
  have hlen : (l.take 3).length = min l.length 3 := by rw [List.length_take, Nat.min_comm]
  have hs := lval_lt (lf_take hf 3)
  refine (l1_make A c (lval (l.take 3)) l.length (l.take 3).length w hc (by omega) (fun i hi => ?_) hs (by omega)).mono ?_
  · obtain ⟨b, off, e, hx⟩ := ha i (by omega)
    refine ⟨b, off, e, ?_⟩
    rw [lval_dig hf i (by omega)] at hx
    rw [lval_dig (lf_take hf 3) i hi]
    rw [List.getD_eq_getElem?_getD, List.getElem?_take, if_pos (by omega), ← List.getD_eq_getElem?_getD]
    exact hx
  · rintro e w' ⟨v, rfl, h1, h2⟩
    exact ⟨_, rfl, h2, h1.any⟩
/-- A number of raw ones. -/
def rwD (n d : List Nat) : Nat := if lval (d.take 3) = 0 then 1 + size (lval (n.take 3)) else lval (d.take 3)
def rwP (s : Bool) (n d : List Nat) : Rat := mk s (lval (n.take 3)) (rwD n d)
theorem size_take {l : List Nat} (h : LF l) : size (lval (l.take 3)) ≤ 3 := Nat.le_trans (size_lval (lf_take h 3)) (by rw [List.length_take]; omega)
theorem rwD_ne {n d : List Nat} : rwD n d ≠ 0 := by unfold rwD; split <;> omega
theorem rwD_size {n d : List Nat} (hn : LF n) (hd : LF d) : size (rwD n d) ≤ 3 := by
  unfold rwD
  split
  · have := size_take hn
    refine Nat.le_trans ((lt_iff _ 1).1 ?_) (by decide)
    show _ < B ^ 1
    have : B ^ 1 = 4294967296 := by decide
    omega
  · exact size_take hd
theorem rwP_wt {s : Bool} {n d : List Nat} (hn : LF n) (hd : LF d) : wt (rwP s n d) ≤ 3 := by
  have := wt_mk (n := lval (n.take 3)) s (rwD_ne (n := n) (d := d))
  have h1 := size_take hn; have h2 := rwD_size hn hd
  unfold rwP
  omega
theorem s_makeh {s : Bool} {n d : Nat} (hs : size n ≤ 32000) (hs' : size d ≤ 32000) (hd0 : d ≠ 0) : Has Tryz.prog 21 [.b s, .nat n, .nat d] (.tup (.q (mk s n d)) (.i 0)) := by
  refine ⟨by kernel_rfl, ⟨trivial, trivial⟩, fun w S β vs hv => ?_⟩
  obtain ⟨u, v, v', rfl, q0, q1, q2⟩ := rvs3 hv
  have q0 : u = .bool s := q0
  subst q0
  letI : NatAt w v n := ⟨q1⟩
  letI : NatAt w v' d := ⟨q2⟩
  refine (s_make (neg := s) (vn := v) (vd := v') (n := n) (d := d) hs hs' hd0).mono ?_
  rintro e w' ⟨s, vn, vd, rfl, h1, h2⟩
  exact ⟨_, rfl, h2, _, _, rfl, rat_rv h1, rfl⟩
theorem lb1_nat {S : Nat → Prop} {B : Nat} {β : Nat → Nat → Value} {w : World} {x : Nat} (h0 : x ≠ 0) (hx : x < 4294967296) (v : Value) (hv : RV S B β w (.lb [x]) v) : RV S B β w (.nat x) v := by
  obtain ⟨A, c, rfl, hc, hx'⟩ := hv
  have hsz : size x = 1 := by
    have h1 : size x ≤ 1 := (lt_iff x 1).1 (by show x < PN.B ^ 1; have : PN.B ^ 1 = 4294967296 := by decide
                                               omega)
    have h2 : size x ≠ 0 := fun e => h0 (by
      have := lt_size x
      rw [e] at this
      simpa using this)
    omega
  refine ⟨A, c, by rw [hsz]; rfl, by rw [hsz]; exact hc, fun i hi => ?_⟩
  rw [hsz] at hi
  obtain ⟨b, off, cs, e1, e2, e3⟩ := hx' i hi
  refine ⟨b, off, cs, e1, trivial, e2, ?_⟩
  rw [e3]
  obtain rfl : i = 0 := by omega
  have : dig x 0 = x := by
    unfold dig
    simp only [Nat.pow_zero, Nat.div_one]
    exact Nat.mod_eq_of_lt (by have : PN.B = 4294967296 := rfl
                               omega)
  rw [this]; rfl
theorem b_make {s : Bool} {n d : List Nat} {u : Nat → AV} (hu : ∀ i, i < 3 → u i = pag s n d i) (hn : LF n) (hd : LF d) (ln : n.length ≤ 9223372036854775807) (ld : d.length ≤ 9223372036854775807) : Has Tryz.prog 6 [.ag 3 u] (.q (rwP s n d)) := by
  refine Has.ag hu ?_
  have c1 := a_make hn ln
  have c2 := a_make hd ld
  have s1 := size_take hn; have s2 := size_take hd; have s3 := rwD_size hn hd
  have c3 := s_makeh (s := s) (n := lval (n.take 3)) (d := rwD n d) (by omega) (by omega) rwD_ne
  refine has_of Tryz.func6 (by kernel_rfl) rfl Tryz.ntmps6 Tryz.results6 rfl rfl rfl ?_
  repeat(first|refine run1p ?_|((with_reducible apply st_call);exact rfl;exact rfl;exact rfl;first|(exact c1)|(exact c2))|((with_reducible apply st_callg);exact rfl;exact rfl;(first|exact rfl|assumption);exact rfl;exact rfl;exact rfl;first|(exact c1)|(exact c2)))
  have hz : (size (lval (d.take 3)) : Int) = 0 ↔ lval (d.take 3) = 0 := by
    constructor
    · intro e
      have e : size (lval (d.take 3)) = 0 := by omega
      have := lt_size (lval (d.take 3))
      rw [e] at this
      simpa using this
    · intro e; rw [e]; rfl
  by_cases h0 : lval (d.take 3) = 0
  · have d1 : decide ((size (lval (d.take 3)) : Int) = 0) = true := decide_eq_true (hz.2 h0)
    have hD : rwD n d = 1 + size (lval (n.take 3)) := if_pos h0
    refine awp_yes rfl d1 ?_
    rw [hD] at c3
    have hb : PN.B = 4294967296 := rfl
    have c4 : Has Tryz.prog 21 [.b s, .nat (lval (n.take 3)), .lb [(1 + (size (lval (n.take 3)) : Int)).toNat]] (.tup (.q (mk s (lval (n.take 3)) (1 + size (lval (n.take 3))))) (.i 0)) := by
      have e : (1 + (size (lval (n.take 3)) : Int)).toNat = 1 + size (lval (n.take 3)) := by omega
      rw [e]
      exact c3.args fun S B β w vs hv => rvs_cons (fun v hv => hv) (fun us hu => rvs_cons (fun v hv => hv) (fun us hu => rvs_cons (lb1_nat (by omega) (by omega)) (fun us hu => hu) hu) hu) hv
    have ec : mk s (lval (n.take 3)) (1 + size (lval (n.take 3))) = rwP s n d := by unfold rwP; rw [hD]
    rw [ec] at c4
    refine run0p ?_
    refine st_ev rfl ⟨rfl, rfl, by decide, fun z hz => by
      have hz := List.mem_singleton.1 hz
      injection hz with hz
      injection hz with _ hz
      omega⟩ ?_
    repeat(first|refine run1p ?_|((with_reducible apply st_call);exact rfl;exact rfl;exact rfl;first|(exact c4))|((with_reducible apply st_callg);exact rfl;exact rfl;(first|exact rfl|assumption);exact rfl;exact rfl;exact rfl;first|(exact c4)))
    exact ⟨.inr rfl, _, Imp.refl _, .one (.rat rfl rfl (by decide) rfl (by decide) rfl)⟩
  · have d1 : decide ((size (lval (d.take 3)) : Int) = 0) = false := decide_eq_false (fun e => h0 (hz.1 e))
    have hD : rwD n d = lval (d.take 3) := if_neg h0
    rw [hD] at c3
    refine awp_no rfl d1 ?_
    have ec : mk s (lval (n.take 3)) (lval (d.take 3)) = rwP s n d := by unfold rwP; rw [hD]
    rw [ec] at c3
    repeat(first|refine run1p ?_|((with_reducible apply st_call);exact rfl;exact rfl;exact rfl;first|(exact c3))|((with_reducible apply st_callg);exact rfl;exact rfl;(first|exact rfl|assumption);exact rfl;exact rfl;exact rfl;first|(exact c3)))
    exact ⟨.inr rfl, _, Imp.refl _, .one (.rat rfl rfl (by decide) rfl (by decide) rfl)⟩
end Go.Proofs.YtpclkgjhfhhddaaGreat.AM
/- Systems, whatever they are, of right numbers. -/
namespace Go.Proofs.YtpclkgjhfhhddaaGreat.AM
open Go Go.RowKit Go.Proofs.YtpclkgjhfhhddaaGreat.PN Go.Proofs.YtpclkgjhfhhddaaGreat.V
set_option linter.unusedVariables false
set_option linter.unusedSimpArgs false
def prR (m : Nat) (f : Nat → RA) : PR := ⟨m, fun i => (f i).sgn, fun i => raN (f i), fun i => raD (f i)⟩
/-- A system's rows, whatever they are. -/
def grGD (g : GD) : GR := ⟨g.k, g.n, g.r, prR g.la (fun i => .q (g.A i)), prR g.lb (fun i => .q (g.B i)), prR g.lg (fun i => .q (g.G i)), prR g.lh (fun i => .q (g.H i))⟩
theorem isp_q {p : Rat} (h : wt p ≤ 4) : IsP (limbsOf (nm p)) (limbsOf p.den) p := by
  have h1 := wt_num p
  have h2 := wt_den p
  exact ⟨limbsOf_lf _, limbsOf_lf _, trim_limbsOf _, trim_limbsOf _, lval_limbsOf _, lval_limbsOf _, by rw [limbsOf_len]; omega, by rw [limbsOf_len]; omega⟩
theorem smB_q {p : Rat} (h : wt p ≤ 4) : smB (ng p) (limbsOf (nm p)) (limbsOf p.den) = true := by
  have h1 := wt_num p
  have h2 := wt_den p
  have hd : (limbsOf p.den).length ≠ 0 := fun e => p.den_nz (by
    have := (lval_nil (trim_limbsOf p.den)).1 e
    rwa [lval_limbsOf] at this)
  have hz : (limbsOf (nm p)).length = 0 → ng p = false := fun e => by
    have := (lval_nil (trim_limbsOf (nm p))).1 e
    rw [lval_limbsOf] at this
    have hn : p.num = 0 := Int.natAbs_eq_zero.1 this
    show decide (p.num < 0) = false
    rw [hn]; rfl
  unfold smB rgtB
  rw [trim_limbsOf, trim_limbsOf, lval_limbsOf, lval_limbsOf, decide_eq_true (by rw [limbsOf_len]; omega : (limbsOf (nm p)).length ≤ 4), decide_eq_true (by rw [limbsOf_len]; omega : (limbsOf p.den).length ≤ 4), decide_eq_true hd]
  have hg : gcd1 (nm p) p.den = true := by
    rw [gcd1, Nat.beq_eq]
    exact p.reduced
  rw [hg]
  by_cases e : (limbsOf (nm p)).length = 0
  · rw [hz e]; simp
  · rw [decide_eq_false e]; rfl
theorem sm_q {m : Nat} {f : Nat → Rat} (h : ∀ i, i < m → wt (f i) ≤ 4) : (prR m fun i => .q (f i)).sm = true := decide_eq_true fun i hi => smB_q (h i hi)
end Go.Proofs.YtpclkgjhfhhddaaGreat.AM
/- Laws of systems: what is known. -/
namespace Go.Proofs.YtpclkgjhfhhddaaGreat.AM
open Go Go.RowKit Go.Proofs.YtpclkgjhfhhddaaGreat.PN Go.Proofs.YtpclkgjhfhhddaaGreat.V
open Go.Proofs.YtpclkgjhfhhddaaGreat.LA (S S_succ S_zero S_congr)
set_option linter.unusedVariables false
set_option linter.unusedSimpArgs false
set_option maxRecDepth 8000
set_option maxHeartbeats 8000000
theorem rv_agv {S : Nat → Prop} {B : Nat} {β : Nat → Nat → Value} {w : World} {n : Nat} {f f' : Nat → AV} (h : ∀ i, i < n → ∀ v, RV S B β w (f i) v → RV S B β w (f' i) v) (v : Value) (hv : RV S B β w (.ag n f) v) : RV S B β w (.ag n f') v := by
  obtain ⟨cs, e1, e2, e3⟩ := hv
  refine ⟨cs, e1, e2, fun i hi => ?_⟩
  obtain ⟨y, a0, a1, a2⟩ := e3 i hi
  exact ⟨y, a0, a1, h i hi y a2⟩
theorem Has.agv {P : Program} {f : FuncId} {n : Nat} {u u' : Nat → AV} {xs : List AV} {r : AV} (h : ∀ S B β w i, i < n → ∀ v, RV S B β w (u i) v → RV S B β w (u' i) v) (H : Has P f (.ag n u' :: xs) r) : Has P f (.ag n u :: xs) r :=
  Has.args H fun S B β w vs hv => rvs_cons (rv_agv (h S B β w)) rvs_same hv
theorem rv_nil0 {S : Nat → Prop} {B : Nat} {β : Nat → Nat → Value} {w : World} {f : Nat → RA} (v : Value) (hv : RV S B β w (.v (.slice none 0 0)) v) : RV S B β w (.row false 0 f) v :=
  ⟨none, 0, hv, Nat.le_refl _, Nat.zero_le _, fun i hi => absurd hi (Nat.not_lt_zero _)⟩
def kg : GD := ⟨3, 1, 0, 1, 0, 0, 0, fun _ => 5, fun _ => 0, fun _ => 0, fun _ => 0⟩
end Go.Proofs.YtpclkgjhfhhddaaGreat.AM
/- These systems are refused as they must. -/
namespace Go.Proofs.YtpclkgjhfhhddaaGreat.AM
open Go Go.RowKit Go.Proofs.YtpclkgjhfhhddaaGreat.PN Go.Proofs.YtpclkgjhfhhddaaGreat.V
set_option linter.unusedVariables false
set_option linter.unusedSimpArgs false
set_option maxRecDepth 8000
set_option maxHeartbeats 8000000
/-- A row, whatever it is. -/
def prOf : AV → Option PR
  | .row _ n f => some ⟨n, fun i => (f i).sgn, fun i => raN (f i), fun i => raD (f i)⟩
  | .v (.slice none 0 0) => some ⟨0, fun _ => false, fun _ => [], fun _ => []⟩
  | .prow n s f g => some ⟨n, s, f, g⟩
  | _ => none
theorem prOf_rv {S : Nat → Prop} {B : Nat} {β : Nat → Nat → Value} {w : World} {x : AV} {r : PR} {v : Value} (h : prOf x = some r) (hv : RV S B β w x v) : RV S B β w r.v v := by
  unfold prOf at h
  split at h
  · cases h; exact rv_prow v hv
  · cases h
    have hv : v = .slice none 0 0 := hv
    subst hv
    exact ⟨none, 0, rfl, Nat.le_refl _, Nat.zero_le _, fun i hi => absurd hi (Nat.not_lt_zero _)⟩
  · cases h; exact hv
  · cases h
def intOf : AV → Option Int
  | .v (.int .i64 k) => some k
  | _ => none
theorem intOf_eq {x : AV} {k : Int} (h : intOf x = some k) : x = .i k := by
  unfold intOf at h
  split at h
  · cases h; rfl
  · cases h
/-- A system, whatever it is. -/
def grOf (u : Nat → AV) : Option GR := match intOf (u 0), intOf (u 1), intOf (u 2), prOf (u 3), prOf (u 4), prOf (u 5), prOf (u 6) with
  | some k, some n, some r, some A, some B, some G, some H => some ⟨k, n, r, A, B, G, H⟩
  | _, _, _, _, _, _, _ => none
theorem grOf_rv {S : Nat → Prop} {B : Nat} {β : Nat → Nat → Value} {w : World} {u : Nat → AV} {g : GR} (h : grOf u = some g) (v : Value) (hv : RV S B β w (.ag 7 u) v) : RV S B β w g.v v := by
  unfold grOf at h
  split at h
  · rename_i e0 e1 e2 e3 e4 e5 e6
    cases h
    obtain ⟨cs, c1, c2, c3⟩ := hv
    refine ⟨cs, c1, c2, fun i hi => ?_⟩
    obtain ⟨y, a0, a1, a2⟩ := c3 i hi
    refine ⟨y, a0, a1, ?_⟩
    match i, hi with
    | 0, _ => rw [intOf_eq e0] at a2; exact a2
    | 1, _ => rw [intOf_eq e1] at a2; exact a2
    | 2, _ => rw [intOf_eq e2] at a2; exact a2
    | 3, _ => exact prOf_rv e3 a2
    | 4, _ => exact prOf_rv e4 a2
    | 5, _ => exact prOf_rv e5 a2
    | 6, _ => exact prOf_rv e6 a2
  · cases h
theorem Has.gr {P : Program} {f : FuncId} {u : Nat → AV} {g : GR} {xs : List AV} {r : AV} (h : grOf u = some g) (H : Has P f (g.v :: xs) r) : Has P f (.ag 7 u :: xs) r :=
  Has.args H fun S B β w vs hv => rvs_cons (grOf_rv h) rvs_same hv
instance (l : List Nat) : Decidable (LF l) := inferInstanceAs (Decidable (∀ x ∈ l, x < B))
def PR.finB (r : PR) : Bool := decide (∀ i, i < r.m → LF (r.f i)) && decide (∀ i, i < r.m → LF (r.g i))
def GR.finB (g : GR) : Bool := g.A.finB && g.B.finB && g.G.finB && g.H.finB
/-- Whole numbers in a row. -/
def zq (l : List Int) (i : Nat) : Rat := ((l.getD i 0 : Int) : Rat)
/-- The systems that are refused. -/
def nilA : AV := .v (.slice none 0 0)
def oneA : AV := .row false 1 fun i => .q (zq [1] i)
def rawA (s : Bool) (n d : List Nat) : AV := .row false 1 fun i => [RA.raw s n d].getD i ra0
def erL : List (List AV) := [
  [.i 0, .i 0, .i 0, nilA, nilA, nilA, nilA], [.i 8, .i 1, .i 0, nilA, nilA, nilA, nilA], [.i 1, .i 0, .i 0, nilA, nilA, nilA, nilA], [.i 1, .i 9, .i 0, nilA, nilA, nilA, nilA],
  [.i 3, .i 1, .i 1, oneA, nilA, nilA, nilA], [.i 6, .i 1, .i 0, nilA, nilA, oneA, oneA], [.i 7, .i 1, .i 4, nilA, nilA, nilA, nilA], [.i 1, .i 2, .i 0, oneA, nilA, nilA, nilA],
  [.i 3, .i 1, .i 0, oneA, oneA, nilA, nilA], [.i 5, .i 1, .i 0, oneA, oneA, nilA, nilA], [.i 5, .i 2, .i 0, .row false 2 fun i => .q (zq [1, 2] i), .row false 2 fun i => .q (zq [3, 2] i), nilA, nilA],
  [.i 3, .i 1, .i 0, rawA false [] [], nilA, nilA, nilA], [.i 3, .i 1, .i 0, rawA false [0, 0, 0, 0, 1] [1], nilA, nilA, nilA], [.i 3, .i 1, .i 0, rawA false [2] [4], nilA, nilA, nilA],
  [.i 6, .i 1, .i 1, nilA, nilA, oneA, rawA true [] [1]]]
def erW : List Int := [2, 2, 1, 1, 1, 1, 1, 3, 3, 5, 5, 1, 1, 1, 1]
def erU (i j : Nat) : AV := (erL.getD i []).getD j (.v undef)
def erG (i : Nat) : GR := (grOf (erU i)).getD ⟨0, 0, 0, ⟨0, fun _ => false, fun _ => [], fun _ => []⟩, ⟨0, fun _ => false, fun _ => [], fun _ => []⟩, ⟨0, fun _ => false, fun _ => [], fun _ => []⟩, ⟨0, fun _ => false, fun _ => [], fun _ => []⟩⟩
end Go.Proofs.YtpclkgjhfhhddaaGreat.AM
/- Systems with other numbers at the ends of two rows: what is told of them. -/
namespace Go.Proofs.YtpclkgjhfhhddaaGreat.AM
open Go Go.RowKit Go.Proofs.YtpclkgjhfhhddaaGreat.PN Go.Proofs.YtpclkgjhfhhddaaGreat.V
set_option linter.unusedVariables false
set_option linter.unusedSimpArgs false
set_option maxRecDepth 8000
set_option maxHeartbeats 4000000
/-- Right but for the nodes. -/
structure GD.Ok' (g : GD) : Prop where
  k1 : 1 ≤ g.k
  k7 : g.k ≤ 7
  n1 : 1 ≤ g.n
  n8 : g.n ≤ 8
  r3 : g.r ≤ 3
  rk : likeB g.k = true → 1 ≤ g.r
  r0 : likeB g.k = false → g.r = 0
  len : ∀ i : Nat, i < 4 → ((g.len i : Nat) : Int) = mpz (cmap g.k i) 0 * g.n + mpz (cmap g.k i) 1 * g.n * g.r + mpz (cmap g.k i) 2
  sm : g.Sm
theorem head_gd' {g : GD} (o : g.Ok') : kindB (g.k : Int) = false ∧ sizedB (g.k : Int) g.n g.r = true := by
  have h1 := o.k1
  have h7 := o.k7
  have n1 := o.n1
  have n8 := o.n8
  have r3 := o.r3
  have e1 : kindB (g.k : Int) = false := by unfold kindB; rw [decide_eq_false (by omega), decide_eq_false (by omega)]; rfl
  have e2 : sizedB (g.k : Int) g.n g.r = true := by
    unfold sizedB
    rw [decide_eq_false (by omega), decide_eq_false (by omega), likeZ_nat]
    cases e : likeB g.k with
    | true => have := o.rk e; rw [cond_true, decide_eq_true (by omega), decide_eq_true (by omega)]; rfl
    | false => have := o.r0 e; rw [cond_false, decide_eq_true (by omega)]; rfl
  exact ⟨e1, e2⟩
/-- What is told of it. -/
theorem chk_gd' {g : GD} (o : g.Ok') : chk (grGD g) = if (∀ i, i < g.la → ∀ j, j < g.lb → g.A i ≠ g.B j) then 0 else 5 := by
  obtain ⟨e1, e2⟩ := head_gd' o
  unfold chk
  show (bif kindB (g.k : Int) then (2 : Int) else bif sizedB (g.k : Int) g.n g.r then chkR (grGD g) else 1) = _
  rw [e1, e2, cond_false, cond_true]
  unfold chkR
  have l0 : (grGD g).A.len (cnt (grGD g).k (grGD g).n (grGD g).r 0) = true := decide_eq_true (o.len 0 (by decide))
  have l1 : (grGD g).B.len (cnt (grGD g).k (grGD g).n (grGD g).r 1) = true := decide_eq_true (o.len 1 (by decide))
  have l2 : (grGD g).G.len (cnt (grGD g).k (grGD g).n (grGD g).r 2) = true := decide_eq_true (o.len 2 (by decide))
  have l3 : (grGD g).H.len (cnt (grGD g).k (grGD g).n (grGD g).r 3) = true := decide_eq_true (o.len 3 (by decide))
  have m : (grGD g).A.meets (grGD g).B = !decide (∀ i, i < g.la → ∀ j, j < g.lb → g.A i ≠ g.B j) := by
    show (!decide (∀ i, i < g.la → (grGD g).B.has (ng (g.A i)) (limbsOf (nm (g.A i))) (limbsOf (g.A i).den) = false)) = _
    congr 1
    rw [decide_eq_decide]
    refine forall_congr' fun i => forall_congr' fun hi => ?_
    show ((!decide (∀ j, j < g.lb → eqB (ng (g.A i)) (limbsOf (nm (g.A i))) (limbsOf (g.A i).den) (ng (g.B j)) (limbsOf (nm (g.B j))) (limbsOf (g.B j).den) = false)) = false) ↔ _
    rw [Bool.not_eq_false', decide_eq_true_iff]
    refine forall_congr' fun j => forall_congr' fun hj => ?_
    rw [isp_eq (isp_q (o.sm.A i hi)) (isp_q (o.sm.B j hj)), decide_eq_false_iff_not]
  rw [l0, l1, l2, l3, m, show (grGD g).A.sm = true from sm_q o.sm.A, show (grGD g).B.sm = true from sm_q o.sm.B, show (grGD g).G.sm = true from sm_q o.sm.G, show (grGD g).H.sm = true from sm_q o.sm.H]
  by_cases h : (∀ i, i < g.la → ∀ j, j < g.lb → g.A i ≠ g.B j)
  · rw [if_pos h, decide_eq_true h]; rfl
  · rw [if_neg h, decide_eq_false h]; rfl
theorem GD.Ok'.ok {g : GD} (o : g.Ok') (h : ∀ i, i < g.la → ∀ j, j < g.lb → g.A i ≠ g.B j) : g.OK := ⟨o.k1, o.k7, o.n1, o.n8, o.r3, o.rk, o.r0, o.len, o.sm, h⟩
theorem fin_q {m : Nat} {f : Nat → Rat} : (prR m fun i => .q (f i)).Fin := ⟨fun i _ => limbsOf_lf _, fun i _ => limbsOf_lf _⟩
theorem fin_gd {g : GD} : (grGD g).Fin := ⟨fin_q, fin_q, fin_q, fin_q⟩
theorem r5_checkd {g : GD} (o : g.Ok') : Has Tryz.prog 8 [g.v] (.i (if (∀ i, i < g.la → ∀ j, j < g.lb → g.A i ≠ g.B j) then 0 else 5)) := by
  have c := r5_checkr (g := grGD g) fin_gd
  rw [chk_gd' o] at c
  exact Has.gr (u := g.f) rfl c
/-- Numbers, with others at the ends. -/
def tnd (m : Nat) (x y : Rat) (f : Nat → Rat) (i : Nat) : Rat := if i + 1 = m then y else if i = 0 then x else f i
def gT (g : GD) (x y : Rat) : GD := ⟨g.k, g.n, g.r, g.la, g.lb, g.lg, g.lh, tnd g.la x y g.A, g.B, tnd g.lg x y g.G, g.H⟩
theorem gT_ok {g : GD} {x y : Rat} (o : g.OK) (hx : wt x ≤ 4) (hy : wt y ≤ 4) : (gT g x y).Ok' :=
  ⟨o.k1, o.k7, o.n1, o.n8, o.r3, o.rk, o.r0, o.len, ⟨fun i hi => by
    show wt (tnd g.la x y g.A i) ≤ 4
    have := o.sm.A i hi
    unfold tnd; split
    · exact hy
    · split
      · exact hx
      · exact this, o.sm.B, fun i hi => by
    show wt (tnd g.lg x y g.G i) ≤ 4
    have := o.sm.G i hi
    unfold tnd; split
    · exact hy
    · split
      · exact hx
      · exact this, o.sm.H⟩⟩
end Go.Proofs.YtpclkgjhfhhddaaGreat.AM

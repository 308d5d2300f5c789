/- Joined texts, 18: LawI LawJ AmW RowsB LawK PGauss PDet. -/
import Derived.Test.YtjmpanhacfjcaaaJ17
import Derived.Test.YtjmpanhacfjcaaaJ14
import Derived.Test.YtjmpanhacfjcaaaJ15
import Derived.Test.YtjmpanhacfjcaaaJ16
import Derived.Test.YtjmpanhacfjcaaaJ13
set_option linter.unusedVariables false
set_option linter.unusedSimpArgs false
/- The document's dense matrices: walked. -/
namespace Go.Proofs.Ytjmpanhacfjcaaa.AM
open Go Go.RowKit Go.Proofs.Ytjmpanhacfjcaaa.PN Go.Proofs.Ytjmpanhacfjcaaa.V
open Go.Proofs.Ytjmpanhacfjcaaa.LA (S S_succ S_zero S_congr)
set_option linter.unusedVariables false
set_option linter.unusedSimpArgs false
set_option maxRecDepth 4000
set_option maxHeartbeats 4000000
theorem Wt.sumn {K : Nat} {f : Nat → Rat} : ∀ {n : Nat}, (∀ i, i < n → Wt (f i) K) → Wt (S n f) (n * (K + 1) + 1)
  | 0, _ => by rw [S_zero, Nat.zero_mul]; exact (inferInstance : Wt 0 1)
  | n + 1, h => by
    have h1 := Wt.sumn (n := n) (fun i hi => h i (by omega))
    have h2 := h n (Nat.lt_succ_self n)
    rw [S_succ]
    exact (inferInstance : Wt (S n f + f n) _).mono (by rw [Nat.succ_mul]; omega)
theorem r7_apply {n m K L : Nat} {F : Nat → Nat → Rat} {v : Nat → Rat} [hf : ∀ i j, Wt (F i j) K] [hv : ∀ i, Wt (v i) L] (hK : m * (K + L + 1) + 1 ≤ 15000 ∧ K + L ≤ 15000) (hn : n ≤ 8) (hm : m ≤ 8) : Has Try.prog 27 [.mat false n (fun _ => m) (fun i j => .q (F i j)), .row false m (fun i => .q (v i))] (.row true n (fun i => .q (S m fun j => F i j * v j))) := by
  refine has_of Try.func27 (by kernel_rfl) rfl Try.ntmps27 Try.results27 rfl rfl rfl ?_
  refine run0 ?_
  refine awp_loop (fun m' s => ∃ k, k ≤ n ∧ m' = n - k ∧ s = accS 5 (.rats k (fun i => .q (S m fun j => F i j * v j))) [(0, .mat false n (fun _ => m) (fun i j => .q (F i j))), (1, .row false m (fun i => .q (v i))), (6, .i (k : Int))] []) n _ (acc_start rfl rfl (by exact rfl) rfl (by decide) ?_ ?_) ⟨0, Nat.zero_le _, rfl, rfl⟩ ?_
  · exact eA
  · exact hA
  · rintro m' s ⟨k, hk, rfl, rfl⟩
    refine run0 ?_
    refine awp_if rfl (fun h => ?_) (fun h => ?_)
    · have h : k < n := by omega
      repeat(first|refine run1 ?_|((with_reducible apply st_call);exact rfl;exact rfl;exact rfl;first|(exact hs_zero))|((with_reducible apply st_callg);exact rfl;exact rfl;(first|exact rfl|assumption);exact rfl;exact rfl;exact rfl;first|(exact hs_zero)))
      refine awp_loop (fun m' s => ∃ j, j ≤ m ∧ m' = m - j ∧ s = accS 5 (.rats k (fun i => .q (S m fun j => F i j * v j))) [(0, .mat false n (fun _ => m) (fun i j => .q (F i j))), (1, .row false m (fun i => .q (v i))), (6, .i (k : Int)), (7, .rptr 7 0 0), (8, .i (j : Int))] [(7, (1, fun _ => .rats 1 fun _ => .q (S j fun j => F k j * v j)))]) m _ (imp_id ?_ ?_) ⟨0, Nat.zero_le _, rfl, rfl⟩ ?_
      · exact eA
      · exact hA
      · rintro m' s ⟨j, hj, rfl, rfl⟩
        have w1 : Wt (S j fun j => F k j * v j) (m * (K + L + 1) + 1) := (Wt.sumn fun i _ => inferInstance).mono (Nat.succ_le_succ (Nat.mul_le_mul_right _ hj))
        refine run0 ?_
        refine awp_if rfl (fun h1 => ?_) (fun h1 => ?_)
        · have h1 : j < m := by omega
          repeat(first|refine run1 ?_|((with_reducible apply st_call);exact rfl;exact rfl;exact rfl;first|(exact cs_mul ⟨by omega, by omega⟩)|(exact cs_add ⟨by omega, by omega⟩))|((with_reducible apply st_callg);exact rfl;exact rfl;(first|exact rfl|assumption);exact rfl;exact rfl;exact rfl;first|(exact cs_mul ⟨by omega, by omega⟩)|(exact cs_add ⟨by omega, by omega⟩)))
          refine q_loop (m' := m - (j + 1)) (by omega) (imp_id (e := (5, .own 5 0) :: [(0, .mat false n (fun _ => m) (fun i j => .q (F i j))), (1, .row false m (fun i => .q (v i))), (6, .i (k : Int)), (7, .rptr 7 0 0), (8, .i ((j + 1 : Nat) : Int))]) (h := (5, (1, fun _ => .rats k (fun i => .q (S m fun j => F i j * v j)))) :: [(7, (1, fun _ => .rats 1 fun _ => .q (S (j + 1) fun j => F k j * v j)))]) ?_ ?_) ⟨j + 1, by omega, rfl, rfl⟩
          · exact eA
          · exact hA
        · obtain rfl : j = m := by omega
          refine run0 ?_
          refine q_loop (m' := n - (k + 1)) (by omega) (acc_next (a := 39) rfl rfl rfl (glue_one rfl) (by exact True.intro) rfl rfl ?_ (by exact True.intro)) ⟨k + 1, by omega, rfl, rfl⟩
          refine alle rfl (Le.eq rfl rfl) True.intro (alle rfl (Le.eq rfl rfl) True.intro (alle rfl (Le.eq rfl rfl) True.intro True.intro))
    · obtain rfl : k = n := by omega
      refine run0 ?_
      refine ⟨.inr rfl, _, imp_row 4 rfl rfl rfl, ?_⟩
      exact .one (.tmp rfl)
theorem r7_turn {n K : Nat} {F : Nat → Nat → Rat} [hf : ∀ i j, Wt (F i j) K] (hK : K ≤ 1000) (hn : n ≤ 8) : Has Try.prog 40 [.mat false n (fun _ => n) (fun i j => .q (F i j))] (.mat true n (fun _ => n) (fun i j => .q (F j i))) := by
  refine has_of Try.func40 (by kernel_rfl) rfl Try.ntmps40 Try.results40 rfl rfl rfl ?_
  refine run0 ?_
  refine awp_loop (fun m' s => ∃ k, k ≤ n ∧ m' = n - k ∧ s = accS 3 (.ones WT k (fun j => .row true n fun i => .q (F i j))) [(0, .mat false n (fun _ => n) (fun i j => .q (F i j))), (4, .i (k : Int))] []) n _ (acc_start rfl rfl (by exact ⟨by decide, rfl⟩) rfl (by decide) ?_ ?_) ⟨0, Nat.zero_le _, rfl, rfl⟩ ?_
  · exact eA
  · exact hA
  · rintro m' s ⟨k, hk, rfl, rfl⟩
    refine run0 ?_
    refine awp_if rfl (fun h => ?_) (fun h => ?_)
    · have h : k < n := by omega
      refine run0 ?_
      refine awp_loop (fun m' s => ∃ j, j ≤ n ∧ m' = n - j ∧ s = accS 5 (.rats j (fun i => .q (F i k))) [(0, .mat false n (fun _ => n) (fun i j => .q (F i j))), (3, .own 3 0), (4, .i (k : Int)), (6, .i (j : Int))] [(3, (1, fun _ => .ones WT k (fun j => .row true n fun i => .q (F i j))))]) n _ (acc_start rfl rfl (by exact rfl) rfl (by decide) ?_ ?_) ⟨0, Nat.zero_le _, rfl, rfl⟩ ?_
      · exact eA
      · exact hA
      · rintro m' s ⟨j, hj, rfl, rfl⟩
        refine run0 ?_
        refine awp_if rfl (fun h1 => ?_) (fun h1 => ?_)
        · have h1 : j < n := by omega
          repeat(first|refine run1 ?_|((with_reducible apply st_call);exact rfl;exact rfl;exact rfl;first|(exact k_copy (Nat.le_trans (hf _ _).le (by omega))))|((with_reducible apply st_callg);exact rfl;exact rfl;(first|exact rfl|assumption);exact rfl;exact rfl;exact rfl;first|(exact k_copy (Nat.le_trans (hf _ _).le (by omega)))))
          refine q_loop (m' := n - (j + 1)) (by omega) (acc_next (a := 29) rfl rfl rfl (glue_one rfl) (by exact True.intro) rfl rfl ?_ ?_) ⟨j + 1, by omega, rfl, rfl⟩
          · refine alle rfl (Le.eq rfl rfl) True.intro (alle rfl (Le.own (s1_ne (by decide))) rfl (alle rfl (Le.eq rfl rfl) True.intro (alle rfl (Le.eq rfl rfl) True.intro True.intro)))
          · refine allh rfl Nat.zero_lt_one (bleo rfl fun _ _ => Le.eq rfl rfl) (fun _ _ => True.intro) True.intro
        · obtain rfl : j = n := by omega
          refine run0 ?_
          refine q_loop (m' := j - (k + 1)) (by omega) (acc_pub (a := 33) (c := 5) rfl rfl rfl (fun i hi => if_pos hi) (by show (if _ then _ else _) = _; rw [if_neg (Nat.lt_irrefl _), Nat.sub_self]; rfl) rfl rfl (fun _ _ => rfl) rfl rfl (fun _ => by exact True.intro) (by decide) rfl rfl ?_ (by exact True.intro)) ⟨k + 1, by omega, rfl, rfl⟩
          refine alle rfl (Le.eq rfl rfl) True.intro (alle rfl (Le.eq rfl rfl) True.intro True.intro)
    · obtain rfl : k = n := by omega
      refine run0 ?_
      refine ⟨.inr rfl, _, imp_mat 2 (fun _ => k) (fun i j => .q (F j i)) rfl rfl rfl (fun _ _ => rfl), ?_⟩
      exact .one (.tmp rfl)
end Go.Proofs.Ytjmpanhacfjcaaa.AM
/- The document's dense matrices: the rest; leading minors: walked. -/
namespace Go.Proofs.Ytjmpanhacfjcaaa.AM
open Go Go.RowKit Go.Proofs.Ytjmpanhacfjcaaa.PN Go.Proofs.Ytjmpanhacfjcaaa.V
open Go.Proofs.Ytjmpanhacfjcaaa.LA (S S_succ S_zero S_congr)
set_option linter.unusedVariables false
set_option linter.unusedSimpArgs false
set_option maxRecDepth 4000
set_option maxHeartbeats 4000000
theorem stps_congr {n m : Nat} {all : Bool} {A A' : Nat → Nat → Rat} (h : ∀ i j, j < m → A i j = A' i j) : ∀ c, c ≤ m → (stps n m all A c).at' = (stps n m all A' c).at' ∧ (stps n m all A c).d = (stps n m all A' c).d ∧ (stps n m all A c).π = (stps n m all A' c).π ∧ ∀ i j, j < m → (stps n m all A c).A i j = (stps n m all A' c).A i j
  | 0, _ => ⟨rfl, rfl, rfl, h⟩
  | c + 1, hc => by
    obtain ⟨h1, h2, h3, h4⟩ := stps_congr h c (by omega)
    show (stp n m all (stps n m all A c) c).at' = (stp n m all (stps n m all A' c) c).at' ∧ (stp n m all (stps n m all A c) c).d = (stp n m all (stps n m all A' c) c).d ∧ (stp n m all (stps n m all A c) c).π = (stp n m all (stps n m all A' c) c).π ∧ ∀ i j, j < m → (stp n m all (stps n m all A c) c).A i j = (stp n m all (stps n m all A' c) c).A i j
    generalize stps n m all A c = s at *
    generalize stps n m all A' c = s' at *
    obtain ⟨a, d, π, B⟩ := s
    obtain ⟨a', d', π', B'⟩ := s'
    have h1 : a = a' := h1
    have h2 : d = d' := h2
    have h3 : π = π' := h3
    have k4 : ∀ i j, j < m → B i j = B' i j := h4
    clear h4
    subst h1; subst h2; subst h3
    have hp : (fun i => B (π i) c ≠ 0) = (fun i => B' (π i) c ≠ 0) := by funext i; rw [k4 _ _ (by omega)]
    unfold stp
    simp only [hp]
    split
    · refine ⟨rfl, ?_, rfl, fun i j hj => ?_⟩
      · show _ * B _ c = _ * B' _ c
        rw [k4 _ _ (by omega)]
      · show cln B _ _ _ _ _ _ i j = cln B' _ _ _ _ _ _ i j
        unfold cln
        rw [k4 i j hj, k4 i c (by omega), k4 _ c (by omega), k4 _ j hj]
    · exact ⟨rfl, rfl, rfl, k4⟩
theorem gs_eq (n : Nat) (F : Nat → Nat → Rat) : (stps n n false F n).at' = (gs n F).at' ∧ (stps n n false F n).d = (gs n F).d := by
  have h := stps_congr (n := n) (m := n) (all := false) (A := F) (A' := aug n F fun _ _ => 0) (fun i j hj => by unfold aug; rw [if_pos hj]) n (Nat.le_refl n)
  exact ⟨h.1, h.2.1⟩
theorem dd_gdet (n : Nat) (F : Nat → Nat → Rat) : dd n (stps n n false F n) = gdet n F := by
  obtain ⟨h1, h2⟩ := gs_eq n F
  unfold dd gdet
  rw [h1, h2]
theorem r7_det {n X : Nat} {F : Nat → Nat → Rat} (hB : TB n n X F) (hX : X ≤ 2400) (h0 : 0 < n) (hn : n ≤ 8) : Has Try.prog 26 [.mat false n (fun _ => n) (fun i j => .q (F i j))] (.q (gdet n F)) := by
  refine has_of Try.func26 (by kernel_rfl) rfl Try.ntmps26 Try.results26 rfl rfl rfl ?_
  have c := r7_triangle hB hX h0 hn (Nat.le_refl n) (by omega)
  rw [dd_gdet] at c
  repeat(first|refine run1 ?_|((with_reducible apply st_call);exact rfl;exact rfl;exact rfl;first|(exact c))|((with_reducible apply st_callg);exact rfl;exact rfl;(first|exact rfl|assumption);exact rfl;exact rfl;exact rfl;first|(exact c)))
  refine ⟨.inr rfl, _, Imp.refl _, ?_⟩
  exact .one (.rat rfl rfl (by decide) rfl (by decide) rfl)
theorem r7_rank {n X : Nat} {F : Nat → Nat → Rat} (hB : TB n n X F) (hX : X ≤ 2400) (h0 : 0 < n) (hn : n ≤ 8) : Has Try.prog 20 [.mat false n (fun _ => n) (fun i j => .q (F i j))] (.i (gs n F).at') := by
  refine has_of Try.func20 (by kernel_rfl) rfl Try.ntmps20 Try.results20 rfl rfl rfl ?_
  have c := r7_triangle hB hX h0 hn (Nat.le_refl n) (by omega)
  rw [(gs_eq n F).1] at c
  repeat(first|refine run1 ?_|((with_reducible apply st_call);exact rfl;exact rfl;exact rfl;first|(exact c))|((with_reducible apply st_callg);exact rfl;exact rfl;(first|exact rfl|assumption);exact rfl;exact rfl;exact rfl;first|(exact c)))
  refine ⟨.inr rfl, _, Imp.refl _, ?_⟩
  exact .one (.tmp rfl)
theorem r7_cut {n m k : Nat} {F : Nat → Nat → Rat} (hk : k ≤ n) (hm : k ≤ m) (hn : n ≤ 8) : Has Try.prog 31 [.mat false n (fun _ => m) (fun i j => .q (F i j)), .i k] (.mat true k (fun _ => k) (fun i j => .q (F i j))) := by
  refine has_of Try.func31 (by kernel_rfl) rfl Try.ntmps31 Try.results31 rfl rfl rfl ?_
  refine run0 ?_
  refine awp_loop (fun m' s => ∃ u, u ≤ k ∧ m' = k - u ∧ s = accS 5 (.ones WT u (fun i => .row true k fun j => .q (F i j))) [(0, .mat false n (fun _ => m) (fun i j => .q (F i j))), (1, .i k), (6, .i (u : Int))] []) k _ (acc_start rfl rfl (by exact ⟨by decide, rfl⟩) rfl (by decide) ?_ ?_) ⟨0, Nat.zero_le _, rfl, rfl⟩ ?_
  · exact eA
  · exact hA
  · rintro m' s ⟨u, hu, rfl, rfl⟩
    refine run0 ?_
    refine awp_if rfl (fun h => ?_) (fun h => ?_)
    · have h : u < k := by omega
      refine run0 ?_
      refine q_loop (m' := k - (u + 1)) (by omega) (acc_pub (a := 22) (c := 20) rfl rfl rfl (fun i hi => if_pos hi) (by show (if _ then _ else _) = _; rw [if_neg (Nat.lt_irrefl _), Nat.sub_self]; rfl) rfl rfl ?_ rfl (by omega) (fun _ => by exact True.intro) (by decide) rfl rfl ?_ (by exact True.intro)) ⟨u + 1, by omega, rfl, rfl⟩
      · intro j hj
        show glue _ _ _ j = _
        unfold glue
        rw [if_neg (Nat.not_lt_zero _), Nat.sub_zero]
        show RA.q (F u (0 + j)) = _
        rw [Nat.zero_add]
      · refine alle rfl (Le.eq rfl rfl) True.intro (alle rfl (Le.eq rfl rfl) True.intro (alle rfl (Le.eq rfl rfl) True.intro True.intro))
    · obtain rfl : u = k := by omega
      refine run0 ?_
      refine ⟨.inr rfl, _, imp_mat 4 (fun _ => u) (fun i j => .q (F i j)) rfl rfl rfl (fun _ _ => rfl), ?_⟩
      exact .one (.tmp rfl)
theorem r7_minors {n X : Nat} {F : Nat → Nat → Rat} (hB : ∀ k, 0 < k → k ≤ n → TB k k X F) (hX : X ≤ 2400) (hn : n ≤ 8) : Has Try.prog 41 [.mat false n (fun _ => n) (fun i j => .q (F i j))] (.row true n (fun i => .q (gdet (i + 1) F))) := by
  refine has_of Try.func41 (by kernel_rfl) rfl Try.ntmps41 Try.results41 rfl rfl rfl ?_
  refine run0 ?_
  refine awp_loop (fun m' s => ∃ u, u ≤ n ∧ m' = n - u ∧ s = accS 3 (.rats u (fun i => .q (gdet (i + 1) F))) [(0, .mat false n (fun _ => n) (fun i j => .q (F i j))), (4, .i ((u + 1 : Nat) : Int))] []) n _ (acc_start rfl rfl (by exact rfl) rfl (by decide) ?_ ?_) ⟨0, Nat.zero_le _, rfl, rfl⟩ ?_
  · exact eA
  · exact hA
  · rintro m' s ⟨u, hu, rfl, rfl⟩
    refine run0 ?_
    refine awp_if rfl (fun h => ?_) (fun h => ?_)
    · have h : u < n := by omega
      repeat(first|refine run1 ?_|((with_reducible apply st_call);exact rfl;exact rfl;exact rfl;first|(exact r7_cut (k := u + 1) (by omega) (by omega) hn)|(exact r7_det (hB (u + 1) (by omega) (by omega)) hX (by omega) (by omega)))|((with_reducible apply st_callg);exact rfl;exact rfl;(first|exact rfl|assumption);exact rfl;exact rfl;exact rfl;first|(exact r7_cut (k := u + 1) (by omega) (by omega) hn)|(exact r7_det (hB (u + 1) (by omega) (by omega)) hX (by omega) (by omega))))
      refine q_loop (m' := n - (u + 1)) (by omega) (acc_next (a := 17) rfl rfl rfl (glue_one rfl) (by exact True.intro) rfl rfl ?_ (by exact True.intro)) ⟨u + 1, by omega, rfl, rfl⟩
      refine alle rfl (Le.eq rfl rfl) True.intro (alle rfl (Le.eq rfl rfl) True.intro True.intro)
    · obtain rfl : u = n := by omega
      refine run0 ?_
      refine ⟨.inr rfl, _, imp_row 2 rfl rfl rfl, ?_⟩
      exact .one (.tmp rfl)
theorem r7_mul {n K : Nat} {F G : Nat → Nat → Rat} [hf : ∀ i j, Wt (F i j) K] [hg : ∀ i j, Wt (G i j) K] (hK : K ≤ 600) (hn : n ≤ 8) : Has Try.prog 39 [.mat false n (fun _ => n) (fun i j => .q (F i j)), .mat false n (fun _ => n) (fun i j => .q (G i j))] (.mat true n (fun _ => n) (fun i j => .q (S n fun l => G l j * F i l))) := by
  refine has_of Try.func39 (by kernel_rfl) rfl Try.ntmps39 Try.results39 rfl rfl rfl ?_
  have hgt : ∀ i j, Wt (G j i) K := fun i j => hg j i
  have hKK : n * (K + K + 1) + 1 ≤ 15000 ∧ K + K ≤ 15000 := by
    have := Nat.mul_le_mul_right (K + K + 1) hn
    omega
  repeat(first|refine run1 ?_|((with_reducible apply st_call);exact rfl;exact rfl;exact rfl;first|(exact r7_turn (hf := hg) (by omega) hn))|((with_reducible apply st_callg);exact rfl;exact rfl;(first|exact rfl|assumption);exact rfl;exact rfl;exact rfl;first|(exact r7_turn (hf := hg) (by omega) hn)))
  refine awp_loop (fun m' s => ∃ u, u ≤ n ∧ m' = n - u ∧ s = accS 6 (.ones WT u (fun i => .row true n fun j => .q (S n fun l => G l j * F i l))) [(0, .mat false n (fun _ => n) (fun i j => .q (F i j))), (5, .mat true n (fun _ => n) (fun i j => .q (G j i))), (7, .i (u : Int))] []) n _ (acc_start rfl rfl (by exact ⟨by decide, rfl⟩) rfl (by decide) ?_ ?_) ⟨0, Nat.zero_le _, rfl, rfl⟩ ?_
  · exact eA
  · exact hA
  · rintro m' s ⟨u, hu, rfl, rfl⟩
    refine run0 ?_
    refine awp_if rfl (fun h => ?_) (fun h => ?_)
    · have h : u < n := by omega
      repeat(first|refine run1 ?_|((with_reducible apply st_call);exact rfl;exact rfl;exact rfl;first|(exact r7_apply (F := fun i j => G j i) (v := fun l => F u l) (hf := hgt) (hv := fun l => hf u l) hKK hn hn))|((with_reducible apply st_callg);exact rfl;exact rfl;(first|exact rfl|assumption);exact rfl;exact rfl;exact rfl;first|(exact r7_apply (F := fun i j => G j i) (v := fun l => F u l) (hf := hgt) (hv := fun l => hf u l) hKK hn hn)))
      refine q_loop (m' := n - (u + 1)) (by omega) (acc_next (a := 24) rfl rfl rfl (glue_row (fun _ _ => Le.eq rfl rfl) (Le.eq rfl rfl)) (by exact fun _ _ => True.intro) rfl rfl ?_ (by exact True.intro)) ⟨u + 1, by omega, rfl, rfl⟩
      refine alle rfl (Le.eq rfl rfl) True.intro (alle rfl (Le.eq rfl rfl) True.intro (alle rfl (Le.eq rfl rfl) True.intro True.intro))
    · obtain rfl : u = n := by omega
      refine run0 ?_
      refine ⟨.inr rfl, _, imp_mat 4 (fun _ => u) (fun i j => .q (S u fun l => G l j * F i l)) rfl rfl rfl (fun _ _ => rfl), ?_⟩
      exact .one (.tmp rfl)
theorem d_lead {n k : Nat} {F : Nat → Nat → Rat} (hk : k ≤ n) (hn : n ≤ 8) : Has Try.prog 67 [.mat false n (fun _ => n) (fun i j => .q (F i j)), .i k] (.mat false k (fun _ => k) (fun i j => .q (F i j))) := by
  refine has_of Try.func67 (by kernel_rfl) rfl Try.ntmps67 Try.results67 rfl rfl rfl ?_
  refine run0 ?_
  refine awp_loop (fun m' s => ∃ u, u ≤ k ∧ m' = k - u ∧ s = accS 5 (.ones WT k (grow (fun i => .row false k fun j => .q (F i j)) (.v (.slice none 0 0)) u)) [(0, .mat false n (fun _ => n) (fun i j => .q (F i j))), (1, .i k), (10, .i k), (11, .i (u : Int))] []) k _ (acc_next (a := 8) rfl rfl rfl (by exact bleo rfl fun _ _ => Le.eq rfl rfl) (by exact fun i _ => grow_ok (v := fun i => AV.row false k fun j => RA.q (F i j)) (z := .v (.slice none 0 0)) (fun _ => True.intro) True.intro i) rfl rfl ?_ (by exact True.intro)) ⟨0, Nat.zero_le _, rfl, rfl⟩ ?_
  · refine alle rfl (Le.eq rfl rfl) True.intro (alle rfl (Le.eq rfl rfl) True.intro (alle rfl (Le.eq rfl rfl) True.intro (alle rfl (Le.eq rfl rfl) True.intro True.intro)))
  · rintro m' s ⟨u, hu, rfl, rfl⟩
    refine run0 ?_
    refine awp_if rfl (fun h => ?_) (fun h => ?_)
    · have h : u < k := by omega
      refine run0 ?_
      refine q_loop (m' := k - (u + 1)) (by omega) (imp_id (e := (5, .own 5 0) :: [(0, .mat false n (fun _ => n) (fun i j => .q (F i j))), (1, .i k), (10, .i k), (11, .i ((u + 1 : Nat) : Int))]) (h := [(5, (1, fun _ => .ones WT k (grow (fun i => .row false k fun j => .q (F i j)) (.v (.slice none 0 0)) (u + 1))))]) ?_ ?_) ⟨u + 1, by omega, rfl, rfl⟩
      · exact eA
      · refine allh rfl (by decide) (bleo rfl fun i hi => ?_) (fun i _ => grow_ok (v := fun i => AV.row false k fun j => RA.q (F i j)) (z := .v (.slice none 0 0)) (fun _ => True.intro) True.intro i) True.intro
        rw [← grow_step]
        show Le idR (updN _ _ _ i) (updN _ _ _ i)
        unfold updN
        by_cases e : i = u
        · rw [if_pos (show i = ((u : Int)).toNat from e), if_pos e]
          refine Le.row (by omega) (fun j hj => ?_) (fun h => h)
          show RA.q (F u (0 + j)) = _
          rw [Nat.zero_add]
        · rw [if_neg (show ¬ i = ((u : Int)).toNat from e), if_neg e]; exact Le.id rfl
    · obtain rfl : u = k := by omega
      refine run0 ?_
      refine ⟨.inr rfl, _, imp_matf 4 (fun _ => u) (fun i j => .q (F i j)) rfl rfl rfl (fun i hi => ⟨false, grow_full _ _ hi⟩), ?_⟩
      exact .one (.tmp rfl)
theorem d_minors {n K : Nat} {F : Nat → Nat → Rat} [hf : ∀ i j, Wt (F i j) K] (hK : K ≤ 399) (h0 : 0 < n) (hn : n ≤ 8) : Has Try.prog 30 [.mat false n (fun _ => n) (fun i j => .q (F i j))] (.row true n (fun i => .q (gdet (i + 1) F))) := by
  refine has_of Try.func30 (by kernel_rfl) rfl Try.ntmps30 Try.results30 rfl rfl rfl ?_
  repeat(first|refine run1 ?_|((with_reducible apply st_call);exact rfl;exact rfl;exact rfl;first|(exact d_square (hf := hf) (by omega) h0 (by omega)))|((with_reducible apply st_callg);exact rfl;exact rfl;(first|exact rfl|assumption);exact rfl;exact rfl;exact rfl;first|(exact d_square (hf := hf) (by omega) h0 (by omega))))
  refine awp_no rfl rfl ?_
  refine run0 ?_
  refine awp_loop (fun m' s => ∃ u, u ≤ n ∧ m' = n - u ∧ s = accS 3 (.rats n (grow (fun i => .q (gdet (i + 1) F)) ra0 u)) [(0, .mat false n (fun _ => n) (fun i j => .q (F i j))), (12, .i n), (13, .i (u : Int))] []) n _ (acc_next (a := 10) rfl rfl rfl (by exact blen rfl fun _ _ => rfl) (by exact True.intro) rfl rfl ?_ (by exact True.intro)) ⟨0, Nat.zero_le _, rfl, rfl⟩ ?_
  · refine alle rfl (Le.eq rfl rfl) True.intro (alle rfl (Le.eq rfl rfl) True.intro (alle rfl (Le.eq rfl rfl) True.intro True.intro))
  · rintro m' s ⟨u, hu, rfl, rfl⟩
    refine run0 ?_
    refine awp_if rfl (fun h => ?_) (fun h => ?_)
    · have h : u < n := by omega
      repeat(first|refine run1 ?_|((with_reducible apply st_call);exact rfl;exact rfl;exact rfl;first|(exact d_lead (k := u + 1) (by omega) hn)|(exact d_det (hf := hf) hK (by omega) (by omega)))|((with_reducible apply st_callg);exact rfl;exact rfl;(first|exact rfl|assumption);exact rfl;exact rfl;exact rfl;first|(exact d_lead (k := u + 1) (by omega) hn)|(exact d_det (hf := hf) hK (by omega) (by omega))))
      refine q_loop (m' := n - (u + 1)) (by omega) (imp_id (e := (3, .own 3 0) :: [(0, .mat false n (fun _ => n) (fun i j => .q (F i j))), (12, .i n), (13, .i ((u + 1 : Nat) : Int))]) (h := [(3, (1, fun _ => .rats n (grow (fun i => .q (gdet (i + 1) F)) ra0 (u + 1))))]) ?_ ?_) ⟨u + 1, by omega, rfl, rfl⟩
      · exact eA
      · refine allh rfl (by decide) (blen rfl fun i hi => grow_step _ _ u i) True.intro True.intro
    · obtain rfl : u = n := by omega
      refine run0 ?_
      refine ⟨.inr rfl, _, imp_rowv 2 (fun i => .q (gdet (i + 1) F)) rfl rfl rfl (fun i hi => grow_full _ _ hi), ?_⟩
      exact .one (.tmp rfl)
end Go.Proofs.Ytjmpanhacfjcaaa.AM
/- What a law is called with. -/
namespace Go.Proofs.Ytjmpanhacfjcaaa.V
open Go
def IsRow (k : IntKind) (w : World) (a : Option Addr) (len cap : Nat) (zs : List Int) : Prop :=
  (a = none ∧ len = 0 ∧ cap = 0 ∧ zs = []) ∨
  ∃ x, a = some x ∧ len ≤ cap ∧ cap ≤ maxLen ∧ zs.length = cap ∧ (∀ i, i < zs.length → w.cell? (x.add i) = some (.int k (zs.getD i 0))) ∧ ∀ n ∈ zs, (Lit.int k n).wf = true
end Go.Proofs.Ytjmpanhacfjcaaa.V
namespace Go.Proofs.Ytjmpanhacfjcaaa.AM
open Go Go.RowKit Go.Proofs.Ytjmpanhacfjcaaa.PN Go.Proofs.Ytjmpanhacfjcaaa.V
set_option linter.unusedVariables false
set_option linter.unusedSimpArgs false
def AllFit (zs : List Int) : Prop := ∀ i, i < zs.length → Fits .i64 (zs.getD i 0)
theorem fit_wf {n : Int} (h : (Lit.int .i64 n).wf = true) : Fits .i64 n := by
  unfold Lit.wf at h
  rw [Bool.and_eq_true] at h
  exact ⟨of_decide_eq_true h.1, of_decide_eq_true h.2⟩
theorem row_seq {W : World} {a : Option Addr} {len cap : Nat} {zs : List Int} (h : IsRow .i64 W a len cap zs) (B : Nat) (β : Nat → Nat → Value) : ∃ l, AllFit l ∧ RV (fun _ => True) B β W (.seq .i64 l) (.slice a len cap) := by
  rcases h with ⟨rfl, rfl, rfl, rfl⟩ | ⟨x, rfl, h1, h2, h3, h4, h5⟩
  · exact ⟨[], fun i hi => absurd hi (Nat.not_lt_zero _), none, 0, rfl, Nat.le_refl _, Nat.zero_le _, fun i hi => absurd hi (Nat.not_lt_zero _)⟩
  · have hl : (zs.take len).length = len := by simp; omega
    have hg : ∀ i, i < len → (zs.take len).getD i 0 = zs.getD i 0 := fun i hi => by
      rw [List.getD_eq_getElem?_getD, List.getD_eq_getElem?_getD, List.getElem?_take, if_pos hi]
    refine ⟨zs.take len, fun i hi => ?_, some x, cap, by rw [hl], by rw [hl]; exact h1, h2, fun i hi => ?_⟩
    · rw [hl] at hi
      rw [hg i hi]
      apply fit_wf
      apply h5
      rw [List.getD_eq_getElem?_getD, List.getElem?_eq_getElem (by omega)]
      exact List.getElem_mem _
    · rw [hl] at hi
      exact ⟨x, rfl, trivial, by rw [hg i hi]; exact h4 i (by omega)⟩
/-- The same of arguments that say no less. -/
theorem Has.args {P : Program} {f : FuncId} {xs xs' : List AV} {r : AV} (H : Has P f xs' r) (h : ∀ S B β w vs, RVs S B β w xs vs → RVs S B β w xs' vs) : Has P f xs r :=
  ⟨H.b, H.ok, fun w S β vs hv => H.run w S β vs (h _ _ _ _ _ hv)⟩
theorem rv_row {S : Nat → Prop} {B : Nat} {β : Nat → Nat → Value} {w : World} {fr : Bool} {n : Nat} {f g : Nat → RA} (h : ∀ i, i < n → f i = g i) (v : Value) (hv : RV S B β w (.row fr n f) v) : RV S B β w (.row fr n g) v := row_congr h hv
theorem rvs_cons {S : Nat → Prop} {B : Nat} {β : Nat → Nat → Value} {w : World} {x x' : AV} {xs xs' : List AV} {vs : List Value} (hx : ∀ v, RV S B β w x v → RV S B β w x' v) (h : ∀ us, RVs S B β w xs us → RVs S B β w xs' us) (k : RVs S B β w (x :: xs) vs) : RVs S B β w (x' :: xs') vs := by
  match vs, k with
  | [], k => exact absurd k.1 (by simp)
  | v :: us, k =>
    have k2 := h us ⟨by simpa using k.1, fun i y u hy hu => k.2 (i + 1) y u hy hu⟩
    refine ⟨by simpa using k2.1, fun i y u hy hu => ?_⟩
    cases i with
    | zero => cases hy; cases hu; exact hx _ (k.2 0 x v rfl rfl)
    | succ i => exact k2.2 i y u hy hu
end Go.Proofs.Ytjmpanhacfjcaaa.AM
/- Rows that are the same: the rest. -/
namespace Go.Proofs.Ytjmpanhacfjcaaa.AM
open Go Go.RowKit Go.Proofs.Ytjmpanhacfjcaaa.PN Go.Proofs.Ytjmpanhacfjcaaa.V
open Go.Proofs.Ytjmpanhacfjcaaa.LA (S S_succ S_zero S_congr)
set_option linter.unusedVariables false
set_option linter.unusedSimpArgs false
set_option maxRecDepth 4000
set_option maxHeartbeats 4000000
theorem k_rowsb {n K : Nat} {f g : Nat → Rat} (hf : ∀ i, i < n → Wt (f i) K) (hK1 : 1 ≤ K) (hK : K ≤ 1000000000000) (hn : n ≤ 1000) (h : ∀ i, i < n → f i = g i) : Has Try.prog 24 [.row false n (fun i => .q (f i)), .row false n (fun i => .q (g i))] (.b true) := by
  have w : ∀ i, Wt (if i < n then f i else 0) K := fun i => by
    split
    · rename_i h; exact hf i h
    · exact (inferInstance : Wt 0 1).mono hK1
  refine Has.args (k_rows (f := fun i => if i < n then f i else 0) (g := fun i => if i < n then f i else 0) (hf := w) hK hn (fun _ _ => rfl)) fun S B β w vs hv => rvs_cons (rv_row fun i hi => ?_) (fun us hu => rvs_cons (rv_row fun i hi => ?_) (fun us hu => hu) hu) hv
  · rw [if_pos hi]
  · rw [if_pos hi, h i hi]
end Go.Proofs.Ytjmpanhacfjcaaa.AM
/- Laws of dense matrices: DenseOps, walked. -/
namespace Go.Proofs.Ytjmpanhacfjcaaa.AM
open Go Go.RowKit Go.Proofs.Ytjmpanhacfjcaaa.PN Go.Proofs.Ytjmpanhacfjcaaa.V
open Go.Proofs.Ytjmpanhacfjcaaa.LA (S S_succ S_zero S_congr)
set_option linter.unusedVariables false
set_option linter.unusedSimpArgs false
set_option maxRecDepth 8000
set_option maxHeartbeats 8000000
instance mbase_bt (n : Nat) (zs : List Int) (i j : Nat) : Bt (mbase n zs i j) 5 := rowq_bt _ _
theorem nv_bt (n : Nat) (zs : List Int) (c : Nat) : Bt (nv n zs c) 11 := by
  unfold nv; split
  · exact (inferInstance : Bt (mbase n zs 0 c + mbase n zs (lb2 n) c) (5 + 5 + 1))
  · exact (mbase_bt n zs 0 c).mono (by decide)
theorem mkm_bt (n : Nat) (zs : List Int) (i j : Nat) : Bt (mkm n zs i j) 11 := by
  unfold mkm; split
  · unfold mx; split
    · exact nv_bt _ _ _
    · exact (mbase_bt _ _ _ _).mono (by decide)
  · exact (mbase_bt _ _ _ _).mono (by decide)
theorem mkm_TB {n k : Nat} {zs : List Int} (h0 : 0 < k) (hn : k ≤ 5) : TB k k 2400 (mkm n zs) := by
  refine TB.of (K := 11) h0 (by decide) (hA := fun i j => mkm_bt n zs i j) ?_
  have : 4 ^ (k - 1) ≤ 4 ^ 4 := Nat.pow_le_pow_right (by decide) (by omega)
  have e : 4 ^ 4 = 256 := rfl
  omega
theorem gdet_wt {n X : Nat} {F : Nat → Nat → Rat} (h : TB n n X F) : Wt (gdet n F) (X + 1) := by
  rw [← dd_gdet]
  have := h.d n (Nat.le_refl n)
  exact (dd_wt (h := this.mono (Nat.le_succ X)) (by omega))
theorem k_ops {n : Int} {ns ms vs : List Int} (_ : Fits .i64 n) (h1 : AllFit ns) (h2 : AllFit ms) (h3 : AllFit vs) : Has Try.prog 9 [.i n, .seq .i64 ns, .seq .i64 ms, .seq .i64 vs] (.b true) := by
  refine has_of Try.func9 (by kernel_rfl) rfl Try.ntmps9 Try.results9 rfl rfl rfl ?_
  obtain ⟨q1, q2⟩ := wthn_lt (a := n) (n := 5) (by decide)
  obtain ⟨N, hN⟩ : ∃ N : Nat, 1 + wthn n 5 = (N : Int) := ⟨(1 + wthn n 5).toNat, by omega⟩
  have hN0 : 0 < N := by omega
  have hN8 : N ≤ 8 := by omega
  repeat(first|refine run1 ?_|((with_reducible apply st_call);exact rfl;exact rfl;exact rfl;first|(exact k_known))|((with_reducible apply st_callg);exact rfl;exact rfl;(first|exact rfl|assumption);exact rfl;exact rfl;exact rfl;first|(exact k_known)))
  refine awp_no rfl rfl ?_
  repeat(first|refine run1 ?_|((with_reducible apply st_call);exact rfl;exact rfl;exact rfl;first|(exact k_within7 (by decide) (by decide)))|((with_reducible apply st_callg);exact rfl;exact rfl;(first|exact rfl|assumption);exact rfl;exact rfl;exact rfl;first|(exact k_within7 (by decide) (by decide))))
  rw [hN]
  have wA : ∀ i j, Wt (mkm N ns i j) 3 := fun i j => mkm_wt _ _ _ _
  have wB : ∀ i j, Wt (mkm N ms i j) 3 := fun i j => mkm_wt _ _ _ _
  have wv : ∀ i, Wt (rowq vs i) 1 := fun i => rowq_wt _ _
  have hT : ∀ k, 0 < k → k ≤ N → TB k k 2400 (mkm N ns) := fun k h0 hk => mkm_TB h0 (by omega)
  have m1 := k_make hN0 hN8 h1
  have m2 := k_make hN0 hN8 h2
  have m3 := k_row (zs := vs) (n := N) (by omega) h3
  generalize mkm N ns = A at *
  generalize mkm N ms = B at *
  generalize rowq vs = v at *
  have wAv : ∀ i, Wt (S N fun j => A i j * v j) 57 := fun i => (Wt.sum hN8 fun k _ => (inferInstance : Wt (A i k * v k) (3 + 1))).mono (by decide)
  have wAB : ∀ i j, Wt (S N fun k => A i k * B k j) 57 := fun i j => Wt.sum hN8 fun k _ => (inferInstance : Wt (A i k * B k j) (3 + 3))
  have wAt : ∀ i j, Wt (A j i) 3 := fun i j => wA j i
  have wd := gdet_wt (hT N hN0 (Nat.le_refl N))
  have wm : ∀ i, i < N → Wt (gdet (i + 1) A) 2401 := fun i hi => gdet_wt (hT (i + 1) (by omega) (by omega))
  have c1 := d_apply (hf := wA) (hv := wv) (by decide) (by decide) hN0 hN8
  have c2 := r7_apply (hf := wA) (hv := wv) (by omega) hN8 hN8
  have c3 := k_rows (hf := wAv) (by decide) (show N ≤ 1000 by omega) (fun i _ => rfl : ∀ i, i < N → (S N fun j => A i j * v j) = S N fun j => A i j * v j)
  have c4 := d_mul (hf := wA) (hg := wB) (by decide) (by decide) hN0 hN8
  have c5 := r7_mul (hf := wA) (hg := wB) (by decide) hN8
  have c6 := k_all (hf := wAB) (G := fun i j => S N fun l => B l j * A i l) (by decide) (show N ≤ 1000 by omega) (show N ≤ 1000 by omega) (fun i _ j _ => S_congr fun k _ => Rat.mul_comm _ _)
  have c7 := d_turn (hf := wA) (by decide) hN0 hN8
  have c8 := r7_turn (hf := wA) (by decide) hN8
  have c9 := k_all (hf := wAt) (by decide) (show N ≤ 1000 by omega) (show N ≤ 1000 by omega) (fun i _ j _ => rfl : ∀ i, i < N → ∀ j, j < N → A j i = A j i)
  have c10 := d_Det (hf := wA) (by decide) hN0 hN8
  have c11 := r7_det (hT N hN0 (Nat.le_refl N)) (by decide) hN0 hN8
  have c12 := cs_same (p := gdet N A) (q := gdet N A) ⟨by decide, by decide⟩
  rw [decide_eq_true (rfl : gdet N A = gdet N A)] at c12
  have c13 := d_Rank (hf := wA) (by decide) hN0 hN8
  have c14 := r7_rank (hT N hN0 (Nat.le_refl N)) (by decide) hN0 hN8
  have c15 := d_minors (hf := wA) (by decide) hN0 hN8
  have c16 := r7_minors hT (by decide) hN8
  have c17 := k_rowsb (f := fun i => gdet (i + 1) A) (g := fun i => gdet (i + 1) A) wm (by decide) (by decide) (show N ≤ 1000 by omega) (fun _ _ => rfl)
  have gR : decide (((gs N A).at' : Int) = ((gs N A).at' : Int)) = true := decide_eq_true rfl
  have gR2 : (decide (((gs N A).at' : Int) = ((gs N A).at' : Int)) == true) = true := by rw [gR]; rfl
  generalize gdet N A = dA at *
  generalize (gs N A).at' = rA at *
  repeat(first|refine run1 ?_|((with_reducible apply st_call);exact rfl;exact rfl;exact rfl;first|(exact m1)|(exact m2)|(exact m3)|(exact c1)|(exact c2)|(exact c3)|(exact c4)|(exact c5)|(exact c6)|(exact c7)|(exact c8)|(exact c9)|(exact c10)|(exact c11)|(exact c12)|(exact c13)|(exact c14)|(exact c15)|(exact c16)|(exact c17))|((with_reducible apply st_callg);exact rfl;exact rfl;(first|exact rfl|assumption);exact rfl;exact rfl;exact rfl;first|(exact m1)|(exact m2)|(exact m3)|(exact c1)|(exact c2)|(exact c3)|(exact c4)|(exact c5)|(exact c6)|(exact c7)|(exact c8)|(exact c9)|(exact c10)|(exact c11)|(exact c12)|(exact c13)|(exact c14)|(exact c15)|(exact c16)|(exact c17)))
  refine ⟨.inr rfl, _, Imp.refl _, ?_⟩
  exact .one (.tmp rfl)
end Go.Proofs.Ytjmpanhacfjcaaa.AM
/- What elimination tells: the determinant, the rank; what it leaves. -/
namespace Go.Proofs.Ytjmpanhacfjcaaa.AM
open Go.Proofs.Ytjmpanhacfjcaaa.LA (Mt S S_succ S_zero S_congr S_add S_mul S_mulr S_single S_null S_cut det det_congr det_swp det_addr det_low HasRank rank_swp rank_addr rank_congr addr upd upd_at upd_ne one inverse Eqn mul tr)
set_option linter.unusedVariables false
set_option linter.unusedSimpArgs false
/-- Rows exchanged, multiples of rows added to others: of n rows, m columns. -/
inductive RE (n m : Nat) : Mt → Mt → Rat → Prop where
  | refl {A B : Mt} (h : ∀ i j, i < n → j < m → A i j = B i j) : RE n m A B 1
  | swp {A B C : Mt} {σ : Rat} (a b : Nat) (ha : a < n) (hb : b < n) (hab : a ≠ b) (h : RE n m A B σ) (hC : ∀ i j, i < n → j < m → C i j = LA.swp B a b i j) : RE n m A C (-σ)
  | addr {A B C : Mt} {σ : Rat} (a b : Nat) (f : Rat) (ha : a < n) (hb : b < n) (hab : a ≠ b) (h : RE n m A B σ) (hC : ∀ i j, i < n → j < m → C i j = LA.addr B a b f i j) : RE n m A C σ
theorem RE.congr {n m : Nat} {A B C : Mt} {σ : Rat} (h : RE n m A B σ) (hc : ∀ i j, i < n → j < m → B i j = C i j) : RE n m A C σ := by
  cases h with
  | refl h => exact .refl fun i j hi hj => (h i j hi hj).trans (hc i j hi hj)
  | swp a b ha hb hab h hC => exact .swp a b ha hb hab h fun i j hi hj => (hc i j hi hj).symm.trans (hC i j hi hj)
  | addr a b f ha hb hab h hC => exact .addr a b f ha hb hab h fun i j hi hj => (hc i j hi hj).symm.trans (hC i j hi hj)
theorem RE.det {n m : Nat} {A B : Mt} {σ : Rat} (hnm : n ≤ m) (h : RE n m A B σ) : det n B = σ * det n A := by
  induction h with
  | refl h => rw [Rat.one_mul]; exact det_congr fun i j hi hj => (h i j hi (by omega)).symm
  | swp a b ha hb hab h hC ih => rw [det_congr (B := LA.swp _ a b) fun i j hi hj => hC i j hi (by omega), det_swp _ ha hb hab, ih, Rat.neg_mul]
  | addr a b f ha hb hab h hC ih => rw [det_congr (B := LA.addr _ a b f) fun i j hi hj => hC i j hi (by omega), det_addr _ ha hb hab, ih]
theorem RE.rank {n m : Nat} {A B : Mt} {σ : Rat} (hnm : n ≤ m) (h : RE n m A B σ) : ∀ {r : Nat}, HasRank n B r → HasRank n A r := by
  induction h with
  | refl h => exact fun k => rank_congr (fun i j hi hj => (h i j hi (by omega)).symm) k
  | swp a b ha hb hab h hC ih =>
    refine fun k => ih (rank_congr (fun i j hi hj => ?_) (rank_swp ha hb hab k))
    unfold LA.swp
    by_cases e1 : i = a
    · subst e1
      rw [if_pos rfl, hC b j hb (by omega)]
      unfold LA.swp
      rw [if_neg (Ne.symm hab), if_pos rfl]
    · rw [if_neg e1]
      by_cases e2 : i = b
      · subst e2
        rw [if_pos rfl, hC a j ha (by omega)]
        unfold LA.swp
        rw [if_pos rfl]
      · rw [if_neg e2, hC i j hi (by omega)]
        unfold LA.swp
        rw [if_neg e1, if_neg e2]
  | addr a b f ha hb hab h hC ih =>
    refine fun k => ih (rank_congr (fun i j hi hj => ?_) (rank_addr ha hb hab (-f) k))
    unfold LA.addr
    by_cases e1 : i = a
    · subst e1
      rw [upd_at, hC i j hi (by omega), hC b j hb (by omega)]
      unfold LA.addr
      rw [upd_at, upd_ne _ _ _ (Ne.symm hab)]
      grind
    · rw [upd_ne _ _ _ e1, hC i j hi (by omega)]
      unfold LA.addr
      rw [upd_ne _ _ _ e1]
/-- What all rows send to nought. -/
def Ker (n m : Nat) (A : Mt) (y : Nat → Rat) : Prop := ∀ r, r < n → S m (fun j => A r j * y j) = 0
theorem RE.ker {n m : Nat} {A B : Mt} {σ : Rat} (h : RE n m A B σ) {y : Nat → Rat} : Ker n m B y → Ker n m A y := by
  induction h with
  | refl h => intro k r hr; rw [S_congr fun j hj => by rw [h r j hr hj]]; exact k r hr
  | swp a b ha hb hab h hC ih =>
    rename_i B C σ
    intro k
    refine ih fun r hr => ?_
    have key : ∀ r r', r < n → r' < n → (∀ j, j < m → C r j = B r' j) → S m (fun j => B r' j * y j) = 0 := fun r r' h1 h2 h3 => by
      rw [S_congr (g := fun j => C r j * y j) fun j hj => by rw [h3 j hj]]; exact k r h1
    by_cases e1 : r = a
    · subst e1; exact key b r hb hr fun j hj => by rw [hC b j hb hj]; unfold LA.swp; rw [if_neg (Ne.symm hab), if_pos rfl]
    · by_cases e2 : r = b
      · subst e2; exact key a r ha hr fun j hj => by rw [hC a j ha hj]; unfold LA.swp; rw [if_pos rfl]
      · exact key r r hr hr fun j hj => by rw [hC r j hr hj]; unfold LA.swp; rw [if_neg e1, if_neg e2]
  | addr a b f ha hb hab h hC ih =>
    rename_i B C σ
    intro k
    refine ih fun r hr => ?_
    have kb : S m (fun j => B b j * y j) = 0 := by
      rw [S_congr (g := fun j => C b j * y j) fun j hj => by rw [hC b j hb hj]; unfold LA.addr; rw [upd_ne _ _ _ (Ne.symm hab)]]
      exact k b hb
    by_cases e1 : r = a
    · subst e1
      have k1 := k r hr
      rw [S_congr (g := fun j => B r j * y j + f * (B b j * y j)) fun j hj => by rw [hC r j hr hj]; unfold LA.addr; rw [upd_at]; grind, S_add, S_mul, kb] at k1
      grind
    · rw [S_congr (g := fun j => C r j * y j) fun j hj => by rw [hC r j hr hj]; unfold LA.addr; rw [upd_ne _ _ _ e1]]
      exact k r hr
theorem RE.sq {n m : Nat} {A B : Mt} {σ : Rat} (h : RE n m A B σ) : σ * σ = 1 := by
  induction h with
  | refl h => exact Rat.one_mul 1
  | swp a b ha hb hab h hC ih => rw [Rat.neg_mul, Rat.mul_neg, Rat.neg_neg]; exact ih
  | addr a b f ha hb hab h hC ih => exact ih
def prodP (f : Nat → Rat) : Nat → Rat
  | 0 => 1
  | k + 1 => prodP f k * f k
theorem prodP_congr {f g : Nat → Rat} : ∀ {k : Nat}, (∀ i, i < k → f i = g i) → prodP f k = prodP g k
  | 0, _ => rfl
  | k + 1, h => by unfold prodP; rw [prodP_congr fun i hi => h i (by omega), h k (Nat.lt_succ_self k)]
/-- The rows in their order. -/
def PR (s : ES) : Mt := fun r j => s.A (s.π r) j
/-- What holds behind c columns. -/
structure GI (n m c : Nat) (all : Bool) (A : Mt) (s : ES) (σ : Rat) (col : Nat → Nat) : Prop where
  re : RE n m A (PR s) σ
  d : s.d = σ * prodP (fun i => PR s i (col i)) s.at'
  low : ∀ r j, s.at' ≤ r → r < n → j < c → PR s r j = 0
  lt : ∀ i, i < s.at' → col i < c
  nz : ∀ i, i < s.at' → PR s i (col i) ≠ 0
  ahead : ∀ i, i < s.at' → ∀ j, j < col i → PR s i j = 0
  inc : ∀ i j, i < j → j < s.at' → col i < col j
  cl : all = true → ∀ i r, i < s.at' → r < n → r ≠ i → PR s r (col i) = 0
theorem cln_at {B : Nat → Nat → Rat} {π : Nat → Nat} {all : Bool} {a c m n r : Nat} (hinj : ∀ i j, i < n → j < n → π i = π j → i = j) (hr : r < n) (j : Nat) (hj : tst all a r ∧ c ≤ j ∧ j < m) : cln B π all a c m n (π r) j = B (π r) j - B (π r) c / B (π a) c * B (π a) j := by
  unfold cln; rw [if_pos ⟨⟨r, hr, hj.1, rfl⟩, hj.2⟩]
theorem cln_not {B : Nat → Nat → Rat} {π : Nat → Nat} {all : Bool} {a c m n r : Nat} (hinj : ∀ i j, i < n → j < n → π i = π j → i = j) (hr : r < n) (j : Nat) (hj : ¬ (tst all a r ∧ c ≤ j ∧ j < m)) : cln B π all a c m n (π r) j = B (π r) j := by
  unfold cln; rw [if_neg]
  rintro ⟨⟨i, h1, h2, h3⟩, h4⟩
  exact hj ⟨by rw [hinj r i hr h1 h3]; exact h2, h4⟩
/-- Rows from the one at a place on, cleaned, one by one. -/
theorem re_clean {n m c a : Nat} {all : Bool} {A Q : Mt} {σ : Rat} (h : RE n m A Q σ) (ha : a < n) (hz : ∀ j, j < c → Q a j = 0) (C : Mt)
    (h1 : ∀ r j, r < n → j < m → tst all a r → c ≤ j → C r j = Q r j - Q r c / Q a c * Q a j) (h2 : ∀ r j, r < n → j < m → ¬ (tst all a r ∧ c ≤ j) → C r j = Q r j) : RE n m A C σ := by
  have key : ∀ k, k ≤ n → RE n m A (fun r j => if r < k then C r j else Q r j) σ := by
    intro k
    induction k with
    | zero => intro _; exact h
    | succ k ih =>
      intro hk
      by_cases ht : tst all a k
      · refine .addr k a (-(Q k c / Q a c)) (by omega) ha (tst_ne ht) (ih (by omega)) fun i j hi hj => ?_
        unfold LA.addr
        have hCa : ∀ j, j < m → (if a < k then C a j else Q a j) = Q a j := fun j hj => by
          split
          · exact h2 a j ha hj fun e => tst_ne e.1 rfl
          · rfl
        by_cases e : i = k
        · subst e
          rw [upd_at]
          dsimp only
          rw [if_pos (Nat.lt_succ_self i), if_neg (Nat.lt_irrefl _), hCa j hj]
          by_cases hcj : c ≤ j
          · rw [h1 i j hi hj ht hcj]; grind
          · rw [h2 i j hi hj (fun e => hcj e.2), hz j (by omega)]; grind
        · rw [upd_ne _ _ _ e]
          by_cases e2 : i < k
          · rw [if_pos (by omega), if_pos e2]
          · rw [if_neg (by omega), if_neg e2]
      · refine (ih (by omega)).congr fun i j hi hj => ?_
        by_cases e : i = k
        · subst e; rw [if_neg (Nat.lt_irrefl _), if_pos (by omega), h2 i j hi hj (fun e => ht e.1)]
        · by_cases e2 : i < k
          · rw [if_pos e2, if_pos (by omega)]
          · rw [if_neg e2, if_neg (by omega)]
  exact (key n (Nat.le_refl n)).congr fun i j hi _ => if_pos hi
theorem det1_swp {d : Rat} {i a : Nat} : det1 d i a = (if i = a then 1 else -1) * d := by
  unfold det1
  split
  · rw [Rat.one_mul]
  · rw [Rat.neg_mul, Rat.one_mul]
theorem gi_step {n m c : Nat} {all : Bool} {A : Mt} {s : ES} {σ : Rat} {col : Nat → Nat} (hm : c < m) (hlt : ∀ i, i < n → s.π i < n) (hinj : ∀ i j, i < n → j < n → s.π i = s.π j → i = j) (h : GI n m c all A s σ col) :
    ∃ σ' col', GI n m (c + 1) all A (stp n m all s c) σ' col' := by
  obtain ⟨f1, f2, f3, f4⟩ := fnd_le (fun i => s.A (s.π i) c ≠ 0) (n - s.at') s.at'
  by_cases hfn : fnd (fun i => s.A (s.π i) c ≠ 0) (n - s.at') s.at' < n
  · have e : stp n m all s c = ⟨s.at' + 1, det1 s.d (fnd (fun i => s.A (s.π i) c ≠ 0) (n - s.at') s.at') s.at' * s.A (s.π (fnd (fun i => s.A (s.π i) c ≠ 0) (n - s.at') s.at')) c, swp s.π (fnd (fun i => s.A (s.π i) c ≠ 0) (n - s.at') s.at') s.at',
      cln s.A (swp s.π (fnd (fun i => s.A (s.π i) c ≠ 0) (n - s.at') s.at') s.at') all s.at' c m n⟩ := if_pos hfn
    rw [e]
    have hnz := f4 (by omega)
    clear e f2 f3 f4
    obtain ⟨a, d, π, B⟩ := s
    dsimp only at *
    generalize fnd (fun i => B (π i) c ≠ 0) (n - a) a = i0 at *
    have han : a < n := by omega
    have hinj' := swp_inj hinj hfn han
    have hP : ∀ r j, PR ⟨a, d, π, B⟩ r j = B (π r) j := fun _ _ => rfl
    -- the rows behind the exchange
    have hQa : ∀ j, B (swp π i0 a a) j = B (π i0) j := fun j => by rw [swp_at]
    have hQ : ∀ r, r ≠ a → ∃ r', (r' = if r = i0 then a else r) ∧ ∀ j, B (swp π i0 a r) j = B (π r') j := fun r hr => by
      refine ⟨_, rfl, fun j => ?_⟩
      unfold swp updN
      rw [if_neg hr]
      by_cases e : r = i0
      · rw [if_pos e, if_pos e]
      · rw [if_neg e, if_neg e]
    have hQi : ∀ r, r < a → ∀ j, B (swp π i0 a r) j = B (π r) j := fun r hr j => by
      obtain ⟨r', e, h2⟩ := hQ r (by omega)
      rw [if_neg (by omega)] at e
      rw [h2, e]
    have hQz : ∀ r j, a ≤ r → r < n → j < c → B (swp π i0 a r) j = 0 := fun r j h1 h2 h3 => by
      by_cases e : r = a
      · subst e; rw [hQa]; exact h.low i0 j f1 hfn h3
      · obtain ⟨r', e2, h4⟩ := hQ r e
        rw [h4]
        refine h.low r' j ?_ ?_ h3
        · show a ≤ r'; rw [e2]; split <;> omega
        · rw [e2]; split <;> omega
    have hre : RE n m A (fun r j => B (swp π i0 a r) j) ((if i0 = a then 1 else -1) * σ) := by
      by_cases e : i0 = a
      · rw [if_pos e, Rat.one_mul]
        exact h.re.congr fun i j _ _ => by rw [hP, e, swp_self]
      · rw [if_neg e, show (-1 : Rat) * σ = -σ by rw [Rat.neg_mul, Rat.one_mul]]
        refine .swp i0 a hfn han e h.re fun i j hi hj => ?_
        unfold LA.swp
        show B (swp π i0 a i) j = if i = i0 then B (π a) j else if i = a then B (π i0) j else B (π i) j
        unfold swp updN
        by_cases e1 : i = a
        · rw [if_pos e1]
          by_cases e2 : i = i0
          · exact absurd (e2.symm.trans e1) e
          · rw [if_neg e2, if_pos e1]
        · rw [if_neg e1]
          by_cases e2 : i = i0
          · rw [if_pos e2, if_pos e2]
          · rw [if_neg e2, if_neg e2, if_neg e1]
    have hpv : B (swp π i0 a a) c ≠ 0 := by rw [hQa]; exact hnz
    have hC1 : ∀ r j, r < n → j < m → tst all a r → c ≤ j → cln B (swp π i0 a) all a c m n (swp π i0 a r) j = B (swp π i0 a r) j - B (swp π i0 a r) c / B (swp π i0 a a) c * B (swp π i0 a a) j := fun r j hr hj ht hcj => cln_at hinj' hr j ⟨ht, hcj, hj⟩
    have hC2 : ∀ r j, r < n → ¬ (tst all a r ∧ c ≤ j) → cln B (swp π i0 a) all a c m n (swp π i0 a r) j = B (swp π i0 a r) j := fun r j hr hn => cln_not hinj' hr j fun e => hn ⟨e.1, e.2.1⟩
    have hcl0 : ∀ r, r < n → tst all a r → cln B (swp π i0 a) all a c m n (swp π i0 a r) c = 0 := fun r hr ht => by
      rw [hC1 r c hr hm ht (Nat.le_refl c), Rat.div_mul_cancel hpv]; grind
    have hPn : ∀ r j, PR ⟨a + 1, det1 d i0 a * B (π i0) c, swp π i0 a, cln B (swp π i0 a) all a c m n⟩ r j = cln B (swp π i0 a) all a c m n (swp π i0 a r) j := fun _ _ => rfl
    have hsame : ∀ i, i < a → ∀ j, j < c → cln B (swp π i0 a) all a c m n (swp π i0 a i) j = B (π i) j := fun i hi j hj => by
      rw [hC2 i j (by omega) (fun e => by omega), hQi i hi]
    have hrow : ∀ j, cln B (swp π i0 a) all a c m n (swp π i0 a a) j = B (π i0) j := fun j => by
      rw [hC2 a j han (fun e => tst_ne e.1 rfl), hQa]
    refine ⟨(if i0 = a then 1 else -1) * σ, fun i => if i = a then c else col i, ?_, ?_, ?_, ?_, ?_, ?_, ?_, ?_⟩
    · exact (re_clean hre han (fun j hj => hQz a j (Nat.le_refl a) han hj) (fun r j => cln B (swp π i0 a) all a c m n (swp π i0 a r) j) hC1 (fun r j hr _ hn => hC2 r j hr hn)).congr fun _ _ _ _ => rfl
    · show det1 d i0 a * B (π i0) c = (if i0 = a then 1 else -1) * σ * (prodP (fun i => cln B (swp π i0 a) all a c m n (swp π i0 a i) (if i = a then c else col i)) a * cln B (swp π i0 a) all a c m n (swp π i0 a a) (if a = a then c else col a))
      have hd : d = σ * prodP (fun i => B (π i) (col i)) a := h.d
      have e1 : prodP (fun i => cln B (swp π i0 a) all a c m n (swp π i0 a i) (if i = a then c else col i)) a = prodP (fun i => B (π i) (col i)) a := prodP_congr fun i hi => by
        rw [if_neg (show ¬ i = a by omega)]; exact hsame i hi _ (h.lt i hi)
      rw [e1, if_pos rfl, hrow, det1_swp, hd]
      grind
    · intro r j h1 h2 h3
      have h1 : a + 1 ≤ r := h1
      rw [hPn]
      by_cases e : j = c
      · subst e; exact hcl0 r h2 (.inl (by omega))
      · rw [hC2 r j h2 (fun e => by omega)]; exact hQz r j (by omega) h2 (by omega)
    · intro i hi
      have hi : i < a + 1 := hi
      split
      · omega
      · have := h.lt i (show i < a by omega); omega
    · intro i hi
      have hi : i < a + 1 := hi
      rw [hPn]
      by_cases e : i = a
      · subst e; rw [if_pos rfl, hrow]; exact hnz
      · rw [if_neg e, hsame i (by omega) _ (h.lt i (show i < a by omega))]; exact h.nz i (show i < a by omega)
    · intro i hi j hj
      have hi : i < a + 1 := hi
      rw [hPn]
      by_cases e : i = a
      · subst e; rw [if_pos rfl] at hj; rw [hrow]; exact h.low i0 j f1 hfn hj
      · rw [if_neg e] at hj
        have hia : i < a := by omega
        rw [hsame i hia j (by have := h.lt i hia; omega)]; exact h.ahead i hia j hj
    · intro i j hij hj
      have hj : j < a + 1 := hj
      rw [if_neg (show ¬ i = a by omega)]
      split
      · exact h.lt i (show i < a by omega)
      · exact h.inc i j hij (show j < a by omega)
    · intro hall i r hi hr hri
      have hi : i < a + 1 := hi
      rw [hPn]
      by_cases e : i = a
      · subst e
        rw [if_pos rfl]
        exact hcl0 r hr (by
          rcases Nat.lt_or_ge i r with h1 | h1
          · exact .inl h1
          · exact .inr ⟨hall, by omega⟩)
      · have hia : i < a := by omega
        have hci := h.lt i hia
        rw [if_neg e, hC2 r _ hr (fun e => by omega)]
        by_cases e2 : r < a
        · rw [hQi r e2]; exact h.cl hall i r hia hr hri
        · exact hQz r _ (by omega) hr hci
  · have e : stp n m all s c = s := if_neg hfn
    rw [e]
    refine ⟨σ, col, h.re, h.d, fun r j h1 h2 h3 => ?_, fun i hi => Nat.lt_succ_of_lt (h.lt i hi), h.nz, h.ahead, h.inc, h.cl⟩
    by_cases e : j = c
    · subst e; exact Classical.byContradiction fun hne => f3 r h1 (by omega) hne
    · exact h.low r j h1 h2 (by omega)
theorem stps_perm {n m : Nat} {all : Bool} {A : Nat → Nat → Rat} : ∀ c, (stps n m all A c).at' ≤ c ∧ (∀ i, i < n → (stps n m all A c).π i < n) ∧ ∀ i j, i < n → j < n → (stps n m all A c).π i = (stps n m all A c).π j → i = j
  | 0 => ⟨Nat.le_refl _, fun i hi => hi, fun i j _ _ e => e⟩
  | c + 1 => by
    obtain ⟨h1, h2, h3⟩ := stps_perm (n := n) (m := m) (all := all) (A := A) c
    show (stp n m all (stps n m all A c) c).at' ≤ c + 1 ∧ (∀ i, i < n → (stp n m all (stps n m all A c) c).π i < n) ∧ ∀ i j, i < n → j < n → (stp n m all (stps n m all A c) c).π i = (stp n m all (stps n m all A c) c).π j → i = j
    generalize stps n m all A c = s at *
    unfold stp
    split
    · rename_i hi
      have h4 := (fnd_le (fun i => s.A (s.π i) c ≠ 0) (n - s.at') s.at').1
      exact ⟨by show s.at' + 1 ≤ c + 1; omega, swp_lt h2 hi (by omega), swp_inj h3 hi (by omega)⟩
    · exact ⟨by omega, h2, h3⟩
theorem stps_gi {n m : Nat} {all : Bool} {A : Mt} : ∀ c, c ≤ m → ∃ σ col, GI n m c all A (stps n m all A c) σ col
  | 0, _ => ⟨1, fun _ => 0, .refl fun _ _ _ _ => rfl, (Rat.one_mul 1).symm, fun r j _ _ h => absurd h (Nat.not_lt_zero _), fun i h => absurd h (Nat.not_lt_zero _), fun i h => absurd h (Nat.not_lt_zero _), fun i h => absurd h (Nat.not_lt_zero _), fun i j _ h => absurd h (Nat.not_lt_zero _), fun _ i r h => absurd h (Nat.not_lt_zero _)⟩
  | c + 1, hc => by
    obtain ⟨σ, col, h⟩ := stps_gi (n := n) (m := m) (all := all) (A := A) c (by omega)
    obtain ⟨_, h2, h3⟩ := stps_perm (n := n) (m := m) (all := all) (A := A) c
    exact gi_step (by omega) h2 h3 h
theorem GI.le {n m c : Nat} {all : Bool} {A : Mt} {s : ES} {σ : Rat} {col : Nat → Nat} (h : GI n m c all A s σ col) : ∀ i, i < s.at' → i ≤ col i
  | 0, _ => Nat.zero_le _
  | i + 1, hi => by
    have h1 := h.le i (by omega)
    have h2 := h.inc i (i + 1) (by omega) hi
    omega
/-- Where all columns have a pivot each stands in its row. -/
theorem GI.full {n m : Nat} {all : Bool} {A : Mt} {s : ES} {σ : Rat} {col : Nat → Nat} (h : GI n m n all A s σ col) (hf : s.at' = n) : ∀ i, i < n → col i = i := by
  have hge : ∀ k i, i + k + 1 = n → col i ≤ i := by
    intro k
    induction k with
    | zero => intro i hi; have := h.lt i (by omega); omega
    | succ k ih =>
      intro i hi
      have h1 := ih (i + 1) (by omega)
      have h2 := h.inc i (i + 1) (by omega) (by omega)
      omega
  intro i hi
  have h1 := h.le i (by omega)
  have h2 := hge (n - 1 - i) i (by omega)
  omega
theorem prodP_fold (f : Nat → Rat) (n : Nat) : (List.range n).foldl (fun p i => p * f i) 1 = prodP f n := by
  induction n with
  | zero => rfl
  | succ n ih => rw [List.range_succ, List.foldl_append, ih]; rfl
theorem fin_det {n m : Nat} {all : Bool} {A : Mt} (hnm : n ≤ m) : (if (stps n m all A n).at' < n then 0 else (stps n m all A n).d) = det n A := by
  obtain ⟨σ, col, h⟩ := stps_gi (n := n) (m := m) (all := all) (A := A) n hnm
  obtain ⟨hle, _, _⟩ := stps_perm (n := n) (m := m) (all := all) (A := A) n
  generalize stps n m all A n = s at *
  have h1 := h.re.det hnm
  have h2 := h.re.sq
  split
  · rename_i hlt
    have h3 : det n (PR s) = 0 := LA.det_zero_row _ (a := n - 1) (by omega) fun j hj => h.low (n - 1) j (by omega) (by omega) hj
    rw [h3] at h1
    have : det n A = σ * (σ * det n A) := by rw [← Rat.mul_assoc, h2, Rat.one_mul]
    rw [this, ← h1, Rat.mul_zero]
  · have hf : s.at' = n := by omega
    have hcol := h.full hf
    have h3 : det n (PR s) = prodP (fun i => PR s i i) n := by
      rw [det_low n _ (fun i j hi hj => h.ahead i (by omega) j (by rw [hcol i hi]; exact hj)), prodP_fold]
    have h4 := h.d
    rw [hf, prodP_congr (g := fun i => PR s i i) (fun i hi => by rw [hcol i hi]), ← h3, h1] at h4
    rw [h4, ← Rat.mul_assoc, h2, Rat.one_mul]
theorem fin_rank {n m : Nat} {all : Bool} {A : Mt} (hnm : n ≤ m) : HasRank n A (stps n m all A n).at' := by
  obtain ⟨σ, col, h⟩ := stps_gi (n := n) (m := m) (all := all) (A := A) n hnm
  obtain ⟨hle, _, _⟩ := stps_perm (n := n) (m := m) (all := all) (A := A) n
  generalize stps n m all A n = s at *
  refine h.re.rank hnm ⟨⟨one, PR s, fun i j hi hj => ?_⟩, ?_⟩
  · by_cases e : i < s.at'
    · rw [S_single e (fun k hk hne => by unfold one; rw [if_neg (Ne.symm hne), Rat.zero_mul])]
      unfold one; rw [if_pos rfl, Rat.one_mul]
    · rw [h.low i j (by omega) hi (by omega), S_null fun k hk => by unfold one; rw [if_neg (by omega), Rat.zero_mul]]
  · -- the pivots' columns have a right inverse
    have hd : det s.at' (tr fun i k => PR s i (col k)) ≠ 0 := by
      rw [LA.det_tr, det_low s.at' _ (fun i j hi hj => h.ahead i hi (col j) (h.inc j i hj hi))]
      rw [prodP_fold]
      have : ∀ k, k ≤ s.at' → prodP (fun i => PR s i (col i)) k ≠ 0 := by
        intro k
        induction k with
        | zero => intro _; show (1 : Rat) ≠ 0; decide
        | succ k ih => intro hk; exact fun e => (Rat.mul_eq_zero.1 e).elim (ih (by omega)) (h.nz k (by omega))
      exact this s.at' (Nat.le_refl _)
    obtain ⟨X, hX⟩ := inverse _ hd
    refine ⟨one, fun j b => S s.at' fun k => if j = col k then X b k else 0, fun a b ha hb => ?_⟩
    have e1 : S n (fun i => S n (fun j => one a i * PR s i j * S s.at' fun k => if j = col k then X b k else 0)) = S n (fun j => PR s a j * S s.at' fun k => if j = col k then X b k else 0) := by
      rw [S_single (k := a) (by omega) (fun i _ hne => S_null fun j _ => by unfold one; rw [if_neg (Ne.symm hne), Rat.zero_mul, Rat.zero_mul])]
      exact S_congr fun j _ => by unfold one; rw [if_pos rfl, Rat.one_mul]
    rw [e1]
    have e2 : S n (fun j => PR s a j * S s.at' fun k => if j = col k then X b k else 0) = S s.at' (fun k => S n fun j => PR s a j * (if j = col k then X b k else 0)) := by
      rw [← LA.S_swap]
      exact S_congr fun j _ => (S_mul _ _ _).symm
    rw [e2]
    have e3 : S s.at' (fun k => S n fun j => PR s a j * (if j = col k then X b k else 0)) = S s.at' (fun k => X b k * PR s a (col k)) := S_congr fun k hk => by
      rw [S_single (k := col k) (h.lt k hk) (fun j _ hne => by rw [if_neg hne, Rat.mul_zero]), if_pos rfl, Rat.mul_comm]
    rw [e3, LA.one_symm]
    exact hX b a hb ha
end Go.Proofs.Ytjmpanhacfjcaaa.AM
/- Determinants and ranks: the plain laws. -/
namespace Go.Proofs.Ytjmpanhacfjcaaa.AM
open Go.Proofs.Ytjmpanhacfjcaaa.LA (Mt S S_succ S_zero S_congr det det_congr det_swp det_mul det_tr det_one HasRank rank_full rank_unique rank_tr)
set_option linter.unusedVariables false
set_option linter.unusedSimpArgs false
theorem gdet_det (n : Nat) (F : Nat → Nat → Rat) : gdet n F = det n F := by rw [← dd_gdet]; exact fin_det (Nat.le_refl n)
theorem gs_rank (n : Nat) (F : Nat → Nat → Rat) : HasRank n F (gs n F).at' := by rw [← (gs_eq n F).1]; exact fin_rank (Nat.le_refl n)
theorem gs_le (n : Nat) (F : Nat → Nat → Rat) : (gs n F).at' ≤ n := (rank_full (gs_rank n F)).1
theorem gs_of {n r : Nat} {F : Nat → Nat → Rat} (h : HasRank n F r) : (gs n F).at' = r := rank_unique (gs_rank n F) h
theorem gdet_mul (n : Nat) (A B : Nat → Nat → Rat) : gdet n (fun i j => S n fun k => A i k * B k j) = gdet n A * gdet n B := by
  rw [gdet_det, gdet_det, gdet_det]; exact det_mul n A B
theorem gdet_turn (n : Nat) (A : Nat → Nat → Rat) : gdet n (fun i j => A j i) = gdet n A := by
  rw [gdet_det, gdet_det]; exact det_tr n A
theorem rank_turn (n : Nat) (A : Nat → Nat → Rat) : (gs n fun i j => A j i).at' = (gs n A).at' := gs_of (rank_tr (gs_rank n A))
theorem gdet_zero (n : Nat) (A : Nat → Nat → Rat) : gdet n A = 0 ↔ (gs n A).at' < n := by
  obtain ⟨h1, h2⟩ := rank_full (gs_rank n A)
  rw [gdet_det]
  constructor
  · intro h
    rcases Nat.lt_or_ge (gs n A).at' n with h3 | h3
    · exact h3
    · exact absurd h (h2.1 (by omega))
  · intro h
    exact Classical.byContradiction fun h3 => by have := h2.2 h3; omega
theorem gdet_swap {n : Nat} (A : Nat → Nat → Rat) {i j : Nat} (hi : i < n) (hj : j < n) : gdet n (fun r c => A (swp (fun i => i) i j r) c) = if i = j then gdet n A else - gdet n A := by
  rw [gdet_det, gdet_det]
  by_cases e : i = j
  · subst e; rw [if_pos rfl]
    exact det_congr fun r c _ _ => by rw [swp_self]
  · rw [if_neg e, ← det_swp A hi hj e]
    refine det_congr fun r c _ _ => ?_
    unfold swp updN LA.swp
    by_cases e1 : r = j
    · subst e1; rw [if_pos rfl, if_neg (Ne.symm e), if_pos rfl]
    · rw [if_neg e1]
      by_cases e2 : r = i
      · subst e2; rw [if_pos rfl, if_pos rfl]
      · rw [if_neg e2, if_neg e2, if_neg e1]
theorem gdet_id (n : Nat) : gdet n idm = 1 := by rw [gdet_det]; exact det_one n
theorem rank_id (n : Nat) : (gs n idm).at' = n := by
  have h := (rank_full (gs_rank n idm)).2
  refine h.2 ?_
  rw [← gdet_det, gdet_id]; decide
end Go.Proofs.Ytjmpanhacfjcaaa.AM

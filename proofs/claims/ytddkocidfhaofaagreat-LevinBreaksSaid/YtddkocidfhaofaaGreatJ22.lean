/- Joined texts, 22: PBits LawI LawJ PDet PLev RowO MkA MkB. -/
import Derived.Test.YtddkocidfhaofaaGreatJ21
import Derived.Test.YtddkocidfhaofaaGreatJ15
import Derived.Test.YtddkocidfhaofaaGreatJ20
import Derived.Test.YtddkocidfhaofaaGreatJ14
import Derived.Test.YtddkocidfhaofaaGreatJ19
set_option linter.unusedVariables false
set_option linter.unusedSimpArgs false
/- How long numbers are, by bits: while the steps are done. -/
namespace Go.Proofs.YtddkocidfhaofaaGreat.AM
open Go.Proofs.YtddkocidfhaofaaGreat.PN
open Go.Proofs.YtddkocidfhaofaaGreat.LA (S S_succ S_zero S_congr)
set_option linter.unusedVariables false
set_option linter.unusedSimpArgs false
/-- How many bits numbers have when a pivots are found. -/
def gb (n K a : Nat) : Nat := 4 ^ (min a (n - 1)) * (K + 1)
theorem gb_pos (n K a : Nat) : K + 1 ≤ gb n K a := Nat.le_mul_of_pos_left _ (Nat.pow_pos (by decide))
theorem gb_last {n K a : Nat} (h : ¬ a + 1 ≤ n - 1) : gb n K (a + 1) = gb n K a ∨ a + 1 ≤ n - 1 := by
  unfold gb
  exact .inl (by rw [show min (a + 1) (n - 1) = min a (n - 1) by omega])
theorem gb_step {n K a : Nat} (h : a + 1 ≤ n - 1) : gb n K (a + 1) = 4 * gb n K a := by
  unfold gb
  rw [show min (a + 1) (n - 1) = min a (n - 1) + 1 by omega, Nat.pow_succ]
  ac_rfl
structure EB (n K : Nat) (s : ES) : Prop where
  A : ∀ i j, Bt (s.A i j) (gb n K s.at' - 1)
  d : Bt s.d (3 * gb n K s.at')
  d' : s.at' < n → Bt s.d (2 * gb n K s.at')
theorem det1_bt {d : Rat} {X i j : Nat} [h : Bt d X] : Bt (det1 d i j) X := by
  unfold det1; split
  · exact h
  · exact inferInstance
theorem stp_eb {n m c K : Nat} {s : ES} (hn : 0 < n) (h : EB n K s) : EB n K (stp n m false s c) := by
  unfold stp
  split
  · rename_i hi
    obtain ⟨h1, h2, _, _⟩ := fnd_le (fun i => s.A (s.π i) c ≠ 0) (n - s.at') s.at'
    generalize fnd (fun i => s.A (s.π i) c ≠ 0) (n - s.at') s.at' = i0 at *
    have han : s.at' < n := by omega
    have w1 := det1_bt (i := i0) (j := s.at') (h := h.d' han)
    have w2 := h.A (s.π i0) c
    have hp := gb_pos n K s.at'
    have w3 := Bt.mul (h := w1) (k := w2)
    by_cases hl : s.at' + 1 ≤ n - 1
    · have e := gb_step (K := K) hl
      refine ⟨fun i j => ?_, w3.mono ?_, fun _ => w3.mono ?_⟩
      · show Bt (cln _ _ _ _ _ _ _ i j) (gb n K (s.at' + 1) - 1)
        rw [e]
        unfold cln
        split
        · have hA := h.A
          exact (inferInstance : Bt (s.A i j - s.A i c / s.A (swp s.π i0 s.at' s.at') c * s.A (swp s.π i0 s.at' s.at') j) _).mono (by omega)
        · exact (h.A i j).mono (by omega)
      · show _ ≤ 3 * gb n K (s.at' + 1); omega
      · show _ ≤ 2 * gb n K (s.at' + 1); omega
    · have e : gb n K (s.at' + 1) = gb n K s.at' := (gb_last hl).resolve_right hl
      refine ⟨fun i j => ?_, w3.mono ?_, fun hlt => ?_⟩
      · show Bt (cln _ _ _ _ _ _ _ i j) (gb n K (s.at' + 1) - 1)
        rw [e]
        unfold cln
        rw [if_neg]
        · exact h.A i j
        · rintro ⟨⟨k, h3, h4, _⟩, _⟩
          rcases h4 with h4 | ⟨h4, _⟩
          · omega
          · cases h4
      · show _ ≤ 3 * gb n K (s.at' + 1); omega
      · have hlt : s.at' + 1 < n := hlt
        omega
  · exact h
theorem stps_eb {n m K : Nat} {A : Nat → Nat → Rat} (hn : 0 < n) (hK : 1 ≤ K) [hA : ∀ i j, Bt (A i j) K] : ∀ c, EB n K (stps n m false A c)
  | 0 => by
    have e : gb n K 0 = K + 1 := by unfold gb; rw [Nat.zero_min, Nat.pow_zero, Nat.one_mul]
    have h1 : Bt (1 : Rat) 1 := inferInstance
    refine ⟨fun i j => ?_, ?_, fun _ => ?_⟩
    · show Bt (A i j) (gb n K 0 - 1); rw [e]; exact hA i j
    · show Bt (1 : Rat) (3 * gb n K 0); rw [e]; exact h1.mono (by omega)
    · show Bt (1 : Rat) (2 * gb n K 0); rw [e]; exact h1.mono (by omega)
  | c + 1 => stp_eb hn (stps_eb hn hK c)
theorem gb_le (n K a : Nat) : gb n K a ≤ 4 ^ (n - 1) * (K + 1) := Nat.mul_le_mul_right _ (Nat.pow_le_pow_right (by decide) (Nat.min_le_right _ _))
theorem TB.of {n m K X : Nat} {A : Nat → Nat → Rat} (hn : 0 < n) (hK : 1 ≤ K) [hA : ∀ i j, Bt (A i j) K] (hX : (3 * (4 ^ (n - 1) * (K + 1))) / 32 + 1 ≤ X) : TB n m X A := by
  refine ⟨fun c _ => ?_, fun c _ i j => ?_⟩
  · have h := (stps_eb (m := m) hn hK (hA := hA) c).d
    have := gb_le n K (stps n m false A c).at'
    exact (h.mono (show _ ≤ 3 * (4 ^ (n - 1) * (K + 1)) by omega)).wt hX
  · have h := (stps_eb (m := m) hn hK (hA := hA) c).A i j
    have := gb_le n K (stps n m false A c).at'
    exact (h.mono (show _ ≤ 3 * (4 ^ (n - 1) * (K + 1)) by omega)).wt hX
end Go.Proofs.YtddkocidfhaofaaGreat.AM
/- The document's dense matrices: walked. -/
namespace Go.Proofs.YtddkocidfhaofaaGreat.AM
open Go Go.RowKit Go.Proofs.YtddkocidfhaofaaGreat.PN Go.Proofs.YtddkocidfhaofaaGreat.V
open Go.Proofs.YtddkocidfhaofaaGreat.LA (S S_succ S_zero S_congr)
set_option linter.unusedVariables false
set_option linter.unusedSimpArgs false
set_option maxRecDepth 4000
set_option maxHeartbeats 4000000
theorem Wt.sumn {K : Nat} {f : Nat → Rat} : ∀ {n : Nat}, (∀ i, i < n → Wt (f i) K) → Wt (S n f) (n * (K + 1) + 1)
  | 0, _ => by rw [S_zero, Nat.zero_mul]; exact (inferInstance : Wt 0 1)
  | n + 1, h => by
    have h1 := Wt.sumn (n := n) (fun i hi => h i (by omega))
    have h2 := h n (Nat.lt_succ_self n)
    rw [S_succ]
    exact (inferInstance : Wt (S n f + f n) _).mono (by rw [Nat.succ_mul]; omega)
theorem r7_apply {n m K L : Nat} {F : Nat → Nat → Rat} {v : Nat → Rat} [hf : ∀ i j, Wt (F i j) K] [hv : ∀ i, Wt (v i) L] (hK : m * (K + L + 1) + 1 ≤ 15000 ∧ K + L ≤ 15000) (hn : n ≤ 8) (hm : m ≤ 8) : Has Tryz.prog 13 [.mat false n (fun _ => m) (fun i j => .q (F i j)), .row false m (fun i => .q (v i))] (.row true n (fun i => .q (S m fun j => F i j * v j))) := by
  refine has_of Tryz.func13 (by kernel_rfl) rfl Tryz.ntmps13 Tryz.results13 rfl rfl rfl ?_
  refine run0 ?_
  refine awp_loop (fun m' s => ∃ k, k ≤ n ∧ m' = n - k ∧ s = accS 5 (.rats k (fun i => .q (S m fun j => F i j * v j))) [(0, .mat false n (fun _ => m) (fun i j => .q (F i j))), (1, .row false m (fun i => .q (v i))), (6, .i (k : Int))] []) n _ (acc_start rfl rfl (by exact rfl) rfl (by decide) ?_ ?_) ⟨0, Nat.zero_le _, rfl, rfl⟩ ?_
  · exact eA
  · exact hA
  · rintro m' s ⟨k, hk, rfl, rfl⟩
    refine run0 ?_
    refine awp_if rfl (fun h => ?_) (fun h => ?_)
    · have h : k < n := by omega
      repeat(first|refine run1 ?_|((with_reducible apply st_call);exact rfl;exact rfl;exact rfl;first|(exact hs_zero))|((with_reducible apply st_callg);exact rfl;exact rfl;(first|exact rfl|assumption);exact rfl;exact rfl;exact rfl;first|(exact hs_zero)))
      refine awp_loop (fun m' s => ∃ j, j ≤ m ∧ m' = m - j ∧ s = accS 5 (.rats k (fun i => .q (S m fun j => F i j * v j))) [(0, .mat false n (fun _ => m) (fun i j => .q (F i j))), (1, .row false m (fun i => .q (v i))), (6, .i (k : Int)), (7, .rptr 7 0 0), (8, .i (j : Int))] [(7, (1, fun _ => .rats 1 fun _ => .q (S j fun j => F k j * v j)))]) m _ (imp_id ?_ ?_) ⟨0, Nat.zero_le _, rfl, rfl⟩ ?_
      · exact eA
      · exact hA
      · rintro m' s ⟨j, hj, rfl, rfl⟩
        have w1 : Wt (S j fun j => F k j * v j) (m * (K + L + 1) + 1) := (Wt.sumn fun i _ => inferInstance).mono (Nat.succ_le_succ (Nat.mul_le_mul_right _ hj))
        refine run0 ?_
        refine awp_if rfl (fun h1 => ?_) (fun h1 => ?_)
        · have h1 : j < m := by omega
          repeat(first|refine run1 ?_|((with_reducible apply st_call);exact rfl;exact rfl;exact rfl;first|(exact cs_mul ⟨by omega, by omega⟩)|(exact cs_add ⟨by omega, by omega⟩))|((with_reducible apply st_callg);exact rfl;exact rfl;(first|exact rfl|assumption);exact rfl;exact rfl;exact rfl;first|(exact cs_mul ⟨by omega, by omega⟩)|(exact cs_add ⟨by omega, by omega⟩)))
          refine q_loop (m' := m - (j + 1)) (by omega) (imp_id (e := (5, .own 5 0) :: [(0, .mat false n (fun _ => m) (fun i j => .q (F i j))), (1, .row false m (fun i => .q (v i))), (6, .i (k : Int)), (7, .rptr 7 0 0), (8, .i ((j + 1 : Nat) : Int))]) (h := (5, (1, fun _ => .rats k (fun i => .q (S m fun j => F i j * v j)))) :: [(7, (1, fun _ => .rats 1 fun _ => .q (S (j + 1) fun j => F k j * v j)))]) ?_ ?_) ⟨j + 1, by omega, rfl, rfl⟩
          · exact eA
          · exact hA
        · obtain rfl : j = m := by omega
          refine run0 ?_
          refine q_loop (m' := n - (k + 1)) (by omega) (acc_next (a := 39) rfl rfl rfl (glue_one rfl) (by exact True.intro) rfl rfl ?_ (by exact True.intro)) ⟨k + 1, by omega, rfl, rfl⟩
          refine alle rfl (Le.eq rfl rfl) True.intro (alle rfl (Le.eq rfl rfl) True.intro (alle rfl (Le.eq rfl rfl) True.intro True.intro))
    · obtain rfl : k = n := by omega
      refine run0 ?_
      refine ⟨.inr rfl, _, imp_row 4 rfl rfl rfl, ?_⟩
      exact .one (.tmp rfl)
end Go.Proofs.YtddkocidfhaofaaGreat.AM
/- The document's dense matrices: the rest; leading minors: walked. -/
namespace Go.Proofs.YtddkocidfhaofaaGreat.AM
open Go Go.RowKit Go.Proofs.YtddkocidfhaofaaGreat.PN Go.Proofs.YtddkocidfhaofaaGreat.V
open Go.Proofs.YtddkocidfhaofaaGreat.LA (S S_succ S_zero S_congr)
set_option linter.unusedVariables false
set_option linter.unusedSimpArgs false
set_option maxRecDepth 4000
set_option maxHeartbeats 4000000
theorem stps_congr {n m : Nat} {all : Bool} {A A' : Nat → Nat → Rat} (h : ∀ i j, j < m → A i j = A' i j) : ∀ c, c ≤ m → (stps n m all A c).at' = (stps n m all A' c).at' ∧ (stps n m all A c).d = (stps n m all A' c).d ∧ (stps n m all A c).π = (stps n m all A' c).π ∧ ∀ i j, j < m → (stps n m all A c).A i j = (stps n m all A' c).A i j
  | 0, _ => ⟨rfl, rfl, rfl, h⟩
  | c + 1, hc => by
    obtain ⟨h1, h2, h3, h4⟩ := stps_congr h c (by omega)
    show (stp n m all (stps n m all A c) c).at' = (stp n m all (stps n m all A' c) c).at' ∧ (stp n m all (stps n m all A c) c).d = (stp n m all (stps n m all A' c) c).d ∧ (stp n m all (stps n m all A c) c).π = (stp n m all (stps n m all A' c) c).π ∧ ∀ i j, j < m → (stp n m all (stps n m all A c) c).A i j = (stp n m all (stps n m all A' c) c).A i j
    generalize stps n m all A c = s at *
    generalize stps n m all A' c = s' at *
    obtain ⟨a, d, π, B⟩ := s
    obtain ⟨a', d', π', B'⟩ := s'
    have h1 : a = a' := h1
    have h2 : d = d' := h2
    have h3 : π = π' := h3
    have k4 : ∀ i j, j < m → B i j = B' i j := h4
    clear h4
    subst h1; subst h2; subst h3
    have hp : (fun i => B (π i) c ≠ 0) = (fun i => B' (π i) c ≠ 0) := by funext i; rw [k4 _ _ (by omega)]
    unfold stp
    simp only [hp]
    split
    · refine ⟨rfl, ?_, rfl, fun i j hj => ?_⟩
      · show _ * B _ c = _ * B' _ c
        rw [k4 _ _ (by omega)]
      · show cln B _ _ _ _ _ _ i j = cln B' _ _ _ _ _ _ i j
        unfold cln
        rw [k4 i j hj, k4 i c (by omega), k4 _ c (by omega), k4 _ j hj]
    · exact ⟨rfl, rfl, rfl, k4⟩
theorem gs_eq (n : Nat) (F : Nat → Nat → Rat) : (stps n n false F n).at' = (gs n F).at' ∧ (stps n n false F n).d = (gs n F).d := by
  have h := stps_congr (n := n) (m := n) (all := false) (A := F) (A' := aug n F fun _ _ => 0) (fun i j hj => by unfold aug; rw [if_pos hj]) n (Nat.le_refl n)
  exact ⟨h.1, h.2.1⟩
theorem dd_gdet (n : Nat) (F : Nat → Nat → Rat) : dd n (stps n n false F n) = gdet n F := by
  obtain ⟨h1, h2⟩ := gs_eq n F
  unfold dd gdet
  rw [h1, h2]
theorem r7_det {n X : Nat} {F : Nat → Nat → Rat} (hB : TB n n X F) (hX : X ≤ 2400) (h0 : 0 < n) (hn : n ≤ 8) : Has Tryz.prog 40 [.mat false n (fun _ => n) (fun i j => .q (F i j))] (.q (gdet n F)) := by
  refine has_of Tryz.func40 (by kernel_rfl) rfl Tryz.ntmps40 Tryz.results40 rfl rfl rfl ?_
  have c := r7_triangle hB hX h0 hn (Nat.le_refl n) (by omega)
  rw [dd_gdet] at c
  repeat(first|refine run1 ?_|((with_reducible apply st_call);exact rfl;exact rfl;exact rfl;first|(exact c))|((with_reducible apply st_callg);exact rfl;exact rfl;(first|exact rfl|assumption);exact rfl;exact rfl;exact rfl;first|(exact c)))
  refine ⟨.inr rfl, _, Imp.refl _, ?_⟩
  exact .one (.rat rfl rfl (by decide) rfl (by decide) rfl)
theorem r7_cut {n m k : Nat} {F : Nat → Nat → Rat} (hk : k ≤ n) (hm : k ≤ m) (hn : n ≤ 8) : Has Tryz.prog 14 [.mat false n (fun _ => m) (fun i j => .q (F i j)), .i k] (.mat true k (fun _ => k) (fun i j => .q (F i j))) := by
  refine has_of Tryz.func14 (by kernel_rfl) rfl Tryz.ntmps14 Tryz.results14 rfl rfl rfl ?_
  refine run0 ?_
  refine awp_loop (fun m' s => ∃ u, u ≤ k ∧ m' = k - u ∧ s = accS 5 (.ones WT u (fun i => .row true k fun j => .q (F i j))) [(0, .mat false n (fun _ => m) (fun i j => .q (F i j))), (1, .i k), (6, .i (u : Int))] []) k _ (acc_start rfl rfl (by exact ⟨by decide, rfl⟩) rfl (by decide) ?_ ?_) ⟨0, Nat.zero_le _, rfl, rfl⟩ ?_
  · exact eA
  · exact hA
  · rintro m' s ⟨u, hu, rfl, rfl⟩
    refine run0 ?_
    refine awp_if rfl (fun h => ?_) (fun h => ?_)
    · have h : u < k := by omega
      refine run0 ?_
      refine q_loop (m' := k - (u + 1)) (by omega) (acc_pub (a := 22) (c := 20) rfl rfl rfl (fun i hi => if_pos hi) (by show (if _ then _ else _) = _; rw [if_neg (Nat.lt_irrefl _), Nat.sub_self]; rfl) rfl rfl ?_ rfl (by omega) (fun _ => by exact True.intro) (by decide) rfl rfl ?_ (by exact True.intro)) ⟨u + 1, by omega, rfl, rfl⟩
      · intro j hj
        show glue _ _ _ j = _
        unfold glue
        rw [if_neg (Nat.not_lt_zero _), Nat.sub_zero]
        show RA.q (F u (0 + j)) = _
        rw [Nat.zero_add]
      · refine alle rfl (Le.eq rfl rfl) True.intro (alle rfl (Le.eq rfl rfl) True.intro (alle rfl (Le.eq rfl rfl) True.intro True.intro))
    · obtain rfl : u = k := by omega
      refine run0 ?_
      refine ⟨.inr rfl, _, imp_mat 4 (fun _ => u) (fun i j => .q (F i j)) rfl rfl rfl (fun _ _ => rfl), ?_⟩
      exact .one (.tmp rfl)
theorem r7_minors {n X : Nat} {F : Nat → Nat → Rat} (hB : ∀ k, 0 < k → k ≤ n → TB k k X F) (hX : X ≤ 2400) (hn : n ≤ 8) : Has Tryz.prog 20 [.mat false n (fun _ => n) (fun i j => .q (F i j))] (.row true n (fun i => .q (gdet (i + 1) F))) := by
  refine has_of Tryz.func20 (by kernel_rfl) rfl Tryz.ntmps20 Tryz.results20 rfl rfl rfl ?_
  refine run0 ?_
  refine awp_loop (fun m' s => ∃ u, u ≤ n ∧ m' = n - u ∧ s = accS 3 (.rats u (fun i => .q (gdet (i + 1) F))) [(0, .mat false n (fun _ => n) (fun i j => .q (F i j))), (4, .i ((u + 1 : Nat) : Int))] []) n _ (acc_start rfl rfl (by exact rfl) rfl (by decide) ?_ ?_) ⟨0, Nat.zero_le _, rfl, rfl⟩ ?_
  · exact eA
  · exact hA
  · rintro m' s ⟨u, hu, rfl, rfl⟩
    refine run0 ?_
    refine awp_if rfl (fun h => ?_) (fun h => ?_)
    · have h : u < n := by omega
      repeat(first|refine run1 ?_|((with_reducible apply st_call);exact rfl;exact rfl;exact rfl;first|(exact r7_cut (k := u + 1) (by omega) (by omega) hn)|(exact r7_det (hB (u + 1) (by omega) (by omega)) hX (by omega) (by omega)))|((with_reducible apply st_callg);exact rfl;exact rfl;(first|exact rfl|assumption);exact rfl;exact rfl;exact rfl;first|(exact r7_cut (k := u + 1) (by omega) (by omega) hn)|(exact r7_det (hB (u + 1) (by omega) (by omega)) hX (by omega) (by omega))))
      refine q_loop (m' := n - (u + 1)) (by omega) (acc_next (a := 17) rfl rfl rfl (glue_one rfl) (by exact True.intro) rfl rfl ?_ (by exact True.intro)) ⟨u + 1, by omega, rfl, rfl⟩
      refine alle rfl (Le.eq rfl rfl) True.intro (alle rfl (Le.eq rfl rfl) True.intro True.intro)
    · obtain rfl : u = n := by omega
      refine run0 ?_
      refine ⟨.inr rfl, _, imp_row 2 rfl rfl rfl, ?_⟩
      exact .one (.tmp rfl)
end Go.Proofs.YtddkocidfhaofaaGreat.AM
/- Determinants and ranks: the plain laws. -/
namespace Go.Proofs.YtddkocidfhaofaaGreat.AM
open Go.Proofs.YtddkocidfhaofaaGreat.LA (Mt S S_succ S_zero S_congr det det_congr det_swp det_mul det_tr det_one HasRank rank_full rank_unique rank_tr)
set_option linter.unusedVariables false
set_option linter.unusedSimpArgs false
theorem gdet_det (n : Nat) (F : Nat → Nat → Rat) : gdet n F = det n F := by rw [← dd_gdet]; exact fin_det (Nat.le_refl n)
theorem gs_rank (n : Nat) (F : Nat → Nat → Rat) : HasRank n F (gs n F).at' := by rw [← (gs_eq n F).1]; exact fin_rank (Nat.le_refl n)
theorem gs_le (n : Nat) (F : Nat → Nat → Rat) : (gs n F).at' ≤ n := (rank_full (gs_rank n F)).1
theorem gs_of {n r : Nat} {F : Nat → Nat → Rat} (h : HasRank n F r) : (gs n F).at' = r := rank_unique (gs_rank n F) h
theorem gdet_mul (n : Nat) (A B : Nat → Nat → Rat) : gdet n (fun i j => S n fun k => A i k * B k j) = gdet n A * gdet n B := by
  rw [gdet_det, gdet_det, gdet_det]; exact det_mul n A B
theorem gdet_turn (n : Nat) (A : Nat → Nat → Rat) : gdet n (fun i j => A j i) = gdet n A := by
  rw [gdet_det, gdet_det]; exact det_tr n A
theorem rank_turn (n : Nat) (A : Nat → Nat → Rat) : (gs n fun i j => A j i).at' = (gs n A).at' := gs_of (rank_tr (gs_rank n A))
theorem gdet_zero (n : Nat) (A : Nat → Nat → Rat) : gdet n A = 0 ↔ (gs n A).at' < n := by
  obtain ⟨h1, h2⟩ := rank_full (gs_rank n A)
  rw [gdet_det]
  constructor
  · intro h
    rcases Nat.lt_or_ge (gs n A).at' n with h3 | h3
    · exact h3
    · exact absurd h (h2.1 (by omega))
  · intro h
    exact Classical.byContradiction fun h3 => by have := h2.2 h3; omega
theorem gdet_swap {n : Nat} (A : Nat → Nat → Rat) {i j : Nat} (hi : i < n) (hj : j < n) : gdet n (fun r c => A (swp (fun i => i) i j r) c) = if i = j then gdet n A else - gdet n A := by
  rw [gdet_det, gdet_det]
  by_cases e : i = j
  · subst e; rw [if_pos rfl]
    exact det_congr fun r c _ _ => by rw [swp_self]
  · rw [if_neg e, ← det_swp A hi hj e]
    refine det_congr fun r c _ _ => ?_
    unfold swp updN LA.swp
    by_cases e1 : r = j
    · subst e1; rw [if_pos rfl, if_neg (Ne.symm e), if_pos rfl]
    · rw [if_neg e1]
      by_cases e2 : r = i
      · subst e2; rw [if_pos rfl, if_pos rfl]
      · rw [if_neg e2, if_neg e2, if_neg e1]
theorem gdet_id (n : Nat) : gdet n idm = 1 := by rw [gdet_det]; exact det_one n
theorem rank_id (n : Nat) : (gs n idm).at' = n := by
  have h := (rank_full (gs_rank n idm)).2
  refine h.2 ?_
  rw [← gdet_det, gdet_id]; decide
end Go.Proofs.YtddkocidfhaofaaGreat.AM
/- Systems by leading parts: the plain laws. -/
namespace Go.Proofs.YtddkocidfhaofaaGreat.AM
open Go.Proofs.YtddkocidfhaofaaGreat.PN
open Go.Proofs.YtddkocidfhaofaaGreat.LA (Mt S S_succ S_zero S_congr app app_sub app_mul app_add det Toe Two two_step two_minor two_break longer later app_longer)
set_option linter.unusedVariables false
set_option linter.unusedSimpArgs false
set_option maxRecDepth 8000
set_option maxHeartbeats 8000000
theorem det_1 (F : Mt) : det 1 F = F 0 0 := by
  show S 1 (fun i => LA.sg i * F i 0 * det 0 (LA.del i F)) = _
  rw [S_succ, S_zero]
  show 0 + 1 * F 0 0 * 1 = _
  rw [Rat.zero_add, Rat.one_mul, Rat.mul_one]
theorem det_0 (F : Mt) : det 0 F = 1 := rfl
theorem mul_over {x : Rat} (h : x ≠ 0) : 1 / x * x = 1 := by rw [Rat.div_def, Rat.one_mul, Rat.inv_mul_cancel _ h]
variable {n : Nat} {F : Nat → Nat → Rat}
theorem lv_two (ht : Toe n F) : ∀ k, k + 1 ≤ n → (∀ j, j < k + 1 → lvd F j ≠ 0) → Two F (k + 1) (lvf F (k + 1)) (lvl F (k + 1)) ∧ det (k + 1) F ≠ 0 := by
  intro k
  induction k with
  | zero =>
    intro hn hd
    have h0 : F 0 0 ≠ 0 := hd 0 (by decide)
    have e : S 1 (fun j => F 0 j * (1 / F 0 0)) = 1 := by rw [S_succ, S_zero, Rat.zero_add, Rat.mul_comm]; exact mul_over h0
    refine ⟨⟨fun i hi => ?_, fun i hi => ?_⟩, by rw [det_1]; exact h0⟩
    · obtain rfl : i = 0 := by omega
      rw [if_pos rfl]; exact e
    · obtain rfl : i = 0 := by omega
      rw [if_pos rfl]; exact e
  | succ k ih =>
    intro hn hd
    obtain ⟨h1, h2⟩ := ih (by omega) fun j hj => hd j (by omega)
    have hD : lvd F (k + 1) ≠ 0 := hd (k + 1) (by omega)
    have eD : lvd F (k + 1) = 1 - lvx F (k + 1) * lvy F (k + 1) := if_neg (Nat.succ_ne_zero k)
    have := two_step (n := n) (x := lvx F (k + 1)) (y := lvy F (k + 1)) (by_ := 1 / lvd F (k + 1)) (Nat.succ_pos k) (by omega) ht h1 rfl rfl (by rw [← eD]; exact mul_over hD)
    have h3 : Two F (k + 1 + 1) (lvf F (k + 1 + 1)) (lvl F (k + 1 + 1)) := by
      have e1 : lvf F (k + 1 + 1) = fun j => (longer (k + 1) (lvf F (k + 1)) j - lvx F (k + 1) * later (lvl F (k + 1)) j) * (1 / lvd F (k + 1)) := funext fun i => lvf_succ F (Nat.succ_ne_zero k) i
      have e2 : lvl F (k + 1 + 1) = fun j => (later (lvl F (k + 1)) j - lvy F (k + 1) * longer (k + 1) (lvf F (k + 1)) j) * (1 / lvd F (k + 1)) := funext fun i => lvl_succ F (Nat.succ_ne_zero k) i
      rw [e1, e2]; exact this
    exact ⟨h3, two_minor h2 h3⟩
theorem lv_det (ht : Toe n F) {k : Nat} (hk : k ≤ n) (hd : ∀ j, j < k → lvd F j ≠ 0) : det k F ≠ 0 := by
  cases k with
  | zero => rw [det_0]; decide
  | succ k => exact (lv_two ht k hk hd).2
theorem lv_zero_det (ht : Toe n F) {k : Nat} (hk : k < n) (hd : ∀ j, j < k → lvd F j ≠ 0) (hz : lvd F k = 0) : det (k + 1) F = 0 := by
  cases k with
  | zero => rw [det_1]; exact hz
  | succ k =>
    have eD : lvd F (k + 1) = 1 - lvx F (k + 1) * lvy F (k + 1) := if_neg (Nat.succ_ne_zero k)
    exact two_break (n := n) (x := lvx F (k + 1)) (y := lvy F (k + 1)) hk ht (lv_two ht k (by omega) hd).1 (lv_det ht (by omega) fun j hj => hd j (by omega)) rfl rfl (by rw [← eD]; exact hz)
theorem lvs_app (ht : Toe n F) {b : Nat → Rat} : ∀ k, k ≤ n → (∀ j, j < k → lvd F j ≠ 0) → ∀ i, i < k → app k F (lvs F b k) i = b i := by
  intro k
  induction k with
  | zero => intro _ _ i hi; exact absurd hi (Nat.not_lt_zero _)
  | succ k ih =>
    intro hk hd i hi
    have ih := ih (by omega) fun j hj => hd j (by omega)
    obtain ⟨⟨_, hl⟩, _⟩ := lv_two ht k hk hd
    have e : lvs F b (k + 1) = fun j => longer k (lvs F b k) j - -(b k - S k fun j => F k j * lvs F b k j) * lvl F (k + 1) j := rfl
    rw [e, app_sub, app_mul, app_longer, hl i hi]
    by_cases h : i = k
    · subst h
      rw [if_pos rfl]
      show (S i fun j => F i j * lvs F b i j) - _ = _
      generalize (S i fun j => F i j * lvs F b i j) = x
      grind
    · rw [if_neg (by omega), ih i (by omega)]; grind
/-- The least leading minor that is nought. -/
noncomputable def lstD (F : Nat → Nat → Rat) (n : Nat) : Nat := if fnd (fun k => gdet (k + 1) F = 0) n 0 < n then fnd (fun k => gdet (k + 1) F = 0) n 0 + 1 else 0
theorem lst_cases (ht : Toe n F) : (lstD F n = 0 ∧ (∀ k, k < n → lvd F k ≠ 0) ∧ det n F ≠ 0) ∨ ∃ K, K < n ∧ lstD F n = K + 1 ∧ (∀ k, k < K → lvd F k ≠ 0) ∧ lvd F K = 0 := by
  obtain ⟨_, h2, h3, h4⟩ := fnd_le (fun k => gdet (k + 1) F = 0) n 0
  have key : ∀ K, K ≤ n → (∀ k, k < K → gdet (k + 1) F ≠ 0) → ∀ k, k < K → lvd F k ≠ 0 := by
    intro K hK h k
    induction k using Nat.strongRecOn with
    | _ k ih =>
      intro hk hz
      have := lv_zero_det ht (show k < n by omega) (fun j hj => ih j hj (by omega)) hz
      exact h k hk (by rw [gdet_det]; exact this)
  unfold lstD
  split
  · rename_i h
    refine .inr ⟨_, h, rfl, key _ (by omega) fun k hk => h3 k (Nat.zero_le _) hk, ?_⟩
    apply Classical.byContradiction
    intro hne
    have hall : ∀ j, j < fnd (fun k => gdet (k + 1) F = 0) n 0 + 1 → lvd F j ≠ 0 := fun j hj => by
      by_cases e : j = fnd (fun k => gdet (k + 1) F = 0) n 0
      · rw [e]; exact hne
      · exact key _ (by omega) (fun k hk => h3 k (Nat.zero_le _) hk) j (by omega)
    have hdet := lv_det ht (k := fnd (fun k => gdet (k + 1) F = 0) n 0 + 1) h hall
    have := h4 (by omega)
    rw [gdet_det] at this
    exact hdet this
  · rename_i h
    have hall := key n (Nat.le_refl _) fun k hk => h3 k (Nat.zero_le _) (by omega)
    exact .inl ⟨rfl, hall, lv_det ht (Nat.le_refl _) hall⟩
end Go.Proofs.YtddkocidfhaofaaGreat.AM
/- Rows of numbers as a caller's own. -/
namespace Go.Proofs.YtddkocidfhaofaaGreat.AM
open Go Go.RowKit Go.Proofs.YtddkocidfhaofaaGreat.PN Go.Proofs.YtddkocidfhaofaaGreat.V
open Go.Proofs.YtddkocidfhaofaaGreat.LA (S S_succ S_zero S_congr)
set_option linter.unusedVariables false
set_option linter.unusedSimpArgs false
set_option maxRecDepth 4000
set_option maxHeartbeats 4000000
theorem row_out {s : St} {n : Nat} {v f : Nat → RA} {F : Nat → Blk} {a : Nat} (h5 : s.env 4 = some (.own a 0)) (ha : s.heap a = some (1, F)) (hF : F 0 = .rats n f) (hf : ∀ i, i < n → f i = v i) (h60 : s.used 60 = false) : Imp s (stl [(4, .own 63 0)] [(63, (1, fun _ => .rats n v))]) := by
  refine imp_stl (h := [(63, (1, fun _ => .rats n v))]) (s1 63 a) (fun h => by rw [h60] at h; cases h) (fun g r g' r' h1 h2 => s1_inj 63 a g r g' r' h1 h2) ⟨⟨_, h5, Le.own (by unfold s1; rw [if_pos rfl]), rfl⟩, True.intro⟩ ⟨fun r hr => ?_, trivial⟩ (by rw [h60]; rfl)
  obtain rfl : r = 0 := by omega
  have e1 : s1 63 a 63 0 = (a, 0) := by unfold s1; rw [if_pos rfl]
  rw [e1]
  refine ⟨1, F, ha, Nat.zero_lt_one, ?_, trivial⟩
  show BLe _ (F 0) _
  rw [hF]; exact blen rfl hf
theorem k_rowo {zs : List Int} {n : Nat} (h0 : 0 < n) (hn : n ≤ 1000) (hz : ∀ i, i < zs.length → Fits .i64 (zs.getD i 0)) : HasH Tryz.prog 23 [] [.seq .i64 zs, .i n] (.own 63 0) [(63, (1, fun _ => .rats n (fun i => .q (rowq zs i))))] := by
  refine hasH_of Tryz.func23 (by kernel_rfl) rfl Tryz.ntmps23 Tryz.results23 rfl rfl rfl ?_
  refine run0 ?_
  refine awp_loop (fun m s => ∃ k, k ≤ n ∧ m = n - k ∧ s = rowS [(0, .seq .i64 zs), (1, .i n), (6, .i (k : Int))] (fun i => .q (rowq zs i)) k) n _ (imp_id (h := []) (e := [(5, .v (.slice none 0 0)), (0, .seq .i64 zs), (1, .i n), (6, .i ((0 : Nat) : Int))]) ?_ ?_) ⟨0, Nat.zero_le _, rfl, rfl⟩ ?_
  · exact eA
  · exact True.intro
  · rintro m s ⟨k, hk, rfl, rfl⟩
    have hx : ∀ k : Nat, k < zs.length → rowx zs k = zs.getD k 0 := fun k h => if_pos h
    have hy : ∀ k : Nat, ¬ k < zs.length → rowx zs k = 3 * (k : Int) + 1 := fun k h => if_neg h
    rcases k with _ | k
    · refine run0 ?_
      refine awp_if rfl (fun h => ?_) (fun h => ?_)
      · have h : 0 < n := by omega
        refine run0 ?_
        refine awp_if rfl (fun h1 => ?_) (fun h1 => ?_)
        · have h1' : (((0 : Nat) : Int)) < (zs.length : Int) := h1
          have h1 : 0 < zs.length := by omega
          have hf := hz 0 h1
          repeat(first|refine run1 ?_|((with_reducible apply st_call);exact rfl;exact rfl;exact rfl;first|(exact k_small hf))|((with_reducible apply st_callg);exact rfl;exact rfl;(first|exact rfl|assumption);exact rfl;exact rfl;exact rfl;first|(exact k_small hf)))
          refine q_loop ?_ (row_close (k := 0) (a := 28) rfl rfl rfl ?_ rfl ?_) ⟨0 + 1, ?_, rfl, rfl⟩
          · omega
          · intro i hi
            obtain rfl : i = 0 := by omega
            exact congrArg (fun x => RA.q (smal x)) (hx 0 h1).symm
          · refine alle rfl (Le.eq rfl rfl) True.intro (alle rfl (Le.eq rfl rfl) True.intro (alle rfl (Le.eq rfl rfl) True.intro True.intro))
          · omega
        · have h1' : ¬ (((0 : Nat) : Int)) < (zs.length : Int) := h1
          have h1 : ¬ 0 < zs.length := by omega
          have hf : Fits .i64 (3 * ((0 : Nat) : Int) + 1) := by show _ ∧ _; omega
          repeat(first|refine run1 ?_|((with_reducible apply st_call);exact rfl;exact rfl;exact rfl;first|(exact k_small hf))|((with_reducible apply st_callg);exact rfl;exact rfl;(first|exact rfl|assumption);exact rfl;exact rfl;exact rfl;first|(exact k_small hf)))
          refine q_loop ?_ (row_close (k := 0) (a := 28) rfl rfl rfl ?_ rfl ?_) ⟨0 + 1, ?_, rfl, rfl⟩
          · omega
          · intro i hi
            obtain rfl : i = 0 := by omega
            exact congrArg (fun x => RA.q (smal x)) (hy 0 h1).symm
          · refine alle rfl (Le.eq rfl rfl) True.intro (alle rfl (Le.eq rfl rfl) True.intro (alle rfl (Le.eq rfl rfl) True.intro True.intro))
          · omega
      · obtain rfl : 0 = n := by omega
        refine run0 ?_
        exact absurd h0 (Nat.lt_irrefl _)
    · refine run0 ?_
      refine awp_if rfl (fun h => ?_) (fun h => ?_)
      · have h : (k + 1) < n := by omega
        refine run0 ?_
        refine awp_if rfl (fun h1 => ?_) (fun h1 => ?_)
        · have h1' : ((((k + 1) : Nat) : Int)) < (zs.length : Int) := h1
          have h1 : (k + 1) < zs.length := by omega
          have hf := hz (k + 1) h1
          repeat(first|refine run1 ?_|((with_reducible apply st_call);exact rfl;exact rfl;exact rfl;first|(exact k_small hf))|((with_reducible apply st_callg);exact rfl;exact rfl;(first|exact rfl|assumption);exact rfl;exact rfl;exact rfl;first|(exact k_small hf)))
          refine q_loop ?_ (row_close (k := (k + 1)) (a := 28) rfl rfl rfl ?_ rfl ?_) ⟨(k + 1) + 1, ?_, rfl, rfl⟩
          · omega
          · intro i hi
            by_cases e : i < k + 1
            · exact if_pos e
            · obtain rfl : i = k + 1 := by omega
              refine (if_neg (Nat.lt_irrefl _)).trans ?_
              rw [Nat.sub_self]
              exact congrArg (fun x => RA.q (smal x)) (hx (k + 1) h1).symm
          · refine alle rfl (Le.eq rfl rfl) True.intro (alle rfl (Le.eq rfl rfl) True.intro (alle rfl (Le.eq rfl rfl) True.intro True.intro))
          · omega
        · have h1' : ¬ ((((k + 1) : Nat) : Int)) < (zs.length : Int) := h1
          have h1 : ¬ (k + 1) < zs.length := by omega
          have hf : Fits .i64 (3 * (((k + 1) : Nat) : Int) + 1) := by show _ ∧ _; omega
          repeat(first|refine run1 ?_|((with_reducible apply st_call);exact rfl;exact rfl;exact rfl;first|(exact k_small hf))|((with_reducible apply st_callg);exact rfl;exact rfl;(first|exact rfl|assumption);exact rfl;exact rfl;exact rfl;first|(exact k_small hf)))
          refine q_loop ?_ (row_close (k := (k + 1)) (a := 28) rfl rfl rfl ?_ rfl ?_) ⟨(k + 1) + 1, ?_, rfl, rfl⟩
          · omega
          · intro i hi
            by_cases e : i < k + 1
            · exact if_pos e
            · obtain rfl : i = k + 1 := by omega
              refine (if_neg (Nat.lt_irrefl _)).trans ?_
              rw [Nat.sub_self]
              exact congrArg (fun x => RA.q (smal x)) (hy (k + 1) h1).symm
          · refine alle rfl (Le.eq rfl rfl) True.intro (alle rfl (Le.eq rfl rfl) True.intro (alle rfl (Le.eq rfl rfl) True.intro True.intro))
          · omega
      · obtain rfl : (k + 1) = n := by omega
        refine run0 ?_
        exact ⟨.inr rfl, [(4, .own 63 0)], row_out rfl rfl rfl (fun _ _ => rfl) rfl, .one (.tmp rfl)⟩
end Go.Proofs.YtddkocidfhaofaaGreat.AM
/- Systems that are drawn: counts, the numbers' places. -/
namespace Go.Proofs.YtddkocidfhaofaaGreat.AM
open Go Go.RowKit Go.Proofs.YtddkocidfhaofaaGreat.PN Go.Proofs.YtddkocidfhaofaaGreat.V
open Go.Proofs.YtddkocidfhaofaaGreat.LA (S S_succ S_zero S_congr)
set_option linter.unusedVariables false
set_option linter.unusedSimpArgs false
set_option maxRecDepth 8000
set_option maxHeartbeats 8000000
theorem k_within5 {a n : Int} (hn : 0 < n) (hn' : n < 1000000000) : Has Tryz.prog 37 [.i a, .i n] (.i (wthn a n)) := by
  refine has_of Tryz.func37 (by kernel_rfl) rfl Tryz.ntmps37 Tryz.results37 rfl rfl rfl ?_
  have h1 := Int.tmod_lt_of_pos a hn
  have h2 : -n < a.tmod n := Int.lt_tmod_of_pos a hn
  refine run0 ?_
  refine awp_if rfl (fun h => ?_) (fun h => ?_)
  · have e : wthn a n = a.tmod n + n := if_pos h
    rw [e]
    refine run0 ?_
    refine ⟨.inr rfl, _, Imp.refl _, ?_⟩
    exact .one (.tmp rfl)
  · have e : wthn a n = a.tmod n := if_neg h
    rw [e]
    refine run0 ?_
    refine ⟨.inr rfl, _, Imp.refl _, ?_⟩
    exact .one (.tmp rfl)
theorem r5_like (k : Nat) : Has Tryz.prog 38 [.i k] (.b (likeB k)) := by
  refine has_of Tryz.func38 (by kernel_rfl) rfl Tryz.ntmps38 Tryz.results38 rfl rfl rfl ?_
  by_cases h6 : k = 6
  · have e0 : decide ((k : Int) = 6) = true := decide_eq_true (by omega)
    have e1 : (decide ((k : Int) = 6) == false) = false := by rw [e0]; rfl
    refine run0p ?_
    refine ⟨.inr rfl, _, Imp.refl _, ?_⟩
    rw [h6]
    exact .one (.tmp rfl)
  · have e0 : decide ((k : Int) = 6) = false := decide_eq_false (by omega)
    have e1 : (decide ((k : Int) = 6) == false) = true := by rw [e0]; rfl
    have e2 : decide ((k : Int) = 7) = likeB k := by
      unfold likeB
      rw [decide_eq_false h6, Bool.false_or]
      exact decide_eq_decide.2 (by omega)
    refine run0p ?_
    refine ⟨.inr rfl, _, Imp.refl _, ?_⟩
    rw [← e2]
    exact .one (.tmp rfl)
/-- How many numbers a system has in its rows. -/
def cnA (k n : Nat) : Nat := match k with | 1 | 2 => 2 * n - 1 | 6 => 0 | _ => n
def cnB (k n : Nat) : Nat := match k with | 5 | 7 => n | _ => 0
def cnH (k n r : Nat) : Nat := match k with | 6 | 7 => n * r | _ => 0
/-- A system of which only three numbers are known. -/
def hdf (k n r : Nat) (i : Nat) : AV := [AV.i k, .i n, .i r, .v (.slice none 0 0), .v (.slice none 0 0), .v (.slice none 0 0), .v (.slice none 0 0)].getD i (.v undef)
theorem r5_counts {k n r : Nat} (h1 : 1 ≤ k) (h7 : k ≤ 7) (n1 : 1 ≤ n) (n8 : n ≤ 8) (r3 : r ≤ 3) : Has Tryz.prog 39 [.ag 7 (hdf k n r)] (.tup3 (.i (cnA k n)) (.i (cnB k n)) (.i (cnH k n r))) := by
  have hk : k = 1 ∨ k = 2 ∨ k = 3 ∨ k = 4 ∨ k = 5 ∨ k = 6 ∨ k = 7 := by omega
  have em : (n : Int) * (r : Int) = ((n * r : Nat) : Int) := (Int.natCast_mul n r).symm
  have hnr : n * r ≤ 8 * 3 := Nat.mul_le_mul n8 r3
  have q1 : -9223372036854775808 ≤ (n : Int) * (r : Int) := by rw [em]; omega
  have q2 : (n : Int) * (r : Int) ≤ 9223372036854775807 := by rw [em]; omega
  refine has_of Tryz.func39 (by kernel_rfl) rfl Tryz.ntmps39 Tryz.results39 rfl rfl rfl ?_
  refine run0 ?_
  rcases hk with rfl | rfl | rfl | rfl | rfl | rfl | rfl
  · skip
    refine awp_yes rfl rfl ?_
    refine run0 ?_
    refine awp_yes rfl rfl ?_
    refine run0 ?_
    rw [show (2 : Int) * n - 1 = ((cnA 1 n : Nat) : Int) from by show (2 : Int) * n - 1 = ((2 * n - 1 : Nat) : Int); omega]
    exact ⟨.inr rfl, _, Imp.refl _, .three (.tmp rfl) (.tmp rfl) (.tmp rfl)⟩
  · skip
    refine awp_no rfl rfl ?_
    refine run0 ?_
    refine awp_yes rfl rfl ?_
    refine run0 ?_
    rw [show (2 : Int) * n - 1 = ((cnA 2 n : Nat) : Int) from by show (2 : Int) * n - 1 = ((2 * n - 1 : Nat) : Int); omega]
    exact ⟨.inr rfl, _, Imp.refl _, .three (.tmp rfl) (.tmp rfl) (.tmp rfl)⟩
  · skip
    refine awp_no rfl rfl ?_
    refine run0 ?_
    refine awp_no rfl rfl ?_
    refine run0 ?_
    refine awp_yes rfl rfl ?_
    refine run0 ?_
    refine awp_yes rfl rfl ?_
    refine run0 ?_
    exact ⟨.inr rfl, _, Imp.refl _, .three (.tmp rfl) (.tmp rfl) (.tmp rfl)⟩
  · skip
    refine awp_no rfl rfl ?_
    refine run0 ?_
    refine awp_no rfl rfl ?_
    refine run0 ?_
    refine awp_no rfl rfl ?_
    refine run0 ?_
    refine awp_yes rfl rfl ?_
    refine run0 ?_
    exact ⟨.inr rfl, _, Imp.refl _, .three (.tmp rfl) (.tmp rfl) (.tmp rfl)⟩
  · skip
    refine awp_no rfl rfl ?_
    refine run0 ?_
    refine awp_no rfl rfl ?_
    refine run0 ?_
    refine awp_no rfl rfl ?_
    refine run0 ?_
    refine awp_no rfl rfl ?_
    refine run0 ?_
    refine awp_yes rfl rfl ?_
    refine run0 ?_
    exact ⟨.inr rfl, _, Imp.refl _, .three (.tmp rfl) (.tmp rfl) (.tmp rfl)⟩
  · skip
    refine awp_no rfl rfl ?_
    refine run0 ?_
    refine awp_no rfl rfl ?_
    refine run0 ?_
    refine awp_no rfl rfl ?_
    refine run0 ?_
    refine awp_no rfl rfl ?_
    refine run0 ?_
    refine awp_no rfl rfl ?_
    refine run0 ?_
    refine awp_yes rfl rfl ?_
    refine run0 ?_
    rw [em]
    exact ⟨.inr rfl, _, Imp.refl _, .three (.tmp rfl) (.tmp rfl) (.tmp rfl)⟩
  · skip
    refine awp_no rfl rfl ?_
    refine run0 ?_
    refine awp_no rfl rfl ?_
    refine run0 ?_
    refine awp_no rfl rfl ?_
    refine run0 ?_
    refine awp_no rfl rfl ?_
    refine run0 ?_
    refine awp_no rfl rfl ?_
    refine run0 ?_
    refine awp_no rfl rfl ?_
    refine run0 ?_
    rw [em]
    exact ⟨.inr rfl, _, Imp.refl _, .three (.tmp rfl) (.tmp rfl) (.tmp rfl)⟩
end Go.Proofs.YtddkocidfhaofaaGreat.AM
/- Systems that are drawn: walked. -/
namespace Go.Proofs.YtddkocidfhaofaaGreat.AM
open Go Go.RowKit Go.Proofs.YtddkocidfhaofaaGreat.PN Go.Proofs.YtddkocidfhaofaaGreat.V
open Go.Proofs.YtddkocidfhaofaaGreat.LA (S S_succ S_zero S_congr)
set_option linter.unusedVariables false
set_option linter.unusedSimpArgs false
set_option maxRecDepth 8000
set_option maxHeartbeats 8000000
/-- A number of the second row behind r looks. -/
def bpart (A : Nat → Rat) (c : Nat) (x : Rat) : Nat → Rat
  | 0 => x
  | r + 1 => if A r = bpart A c x r then bpart A c x r + ((100 + c : Int) : Rat) else bpart A c x r
/-- The numbers when c columns are done and r rows of the next. -/
def mkL (zs : List Int) (a b c r i : Nat) : Rat :=
  if i < a then rowq zs i else if i < a + b then (if i - a < c then bpart (rowq zs) (i - a) (rowq zs i) a else if i - a = c then bpart (rowq zs) c (rowq zs i) r else rowq zs i) else rowq zs i
theorem mkL_start {zs : List Int} {a b : Nat} (i : Nat) : mkL zs a b 0 0 i = rowq zs i := by
  unfold mkL
  split
  · rfl
  · split
    · rw [if_neg (Nat.not_lt_zero _)]
      split
      · rfl
      · rfl
    · rfl
theorem mkL_next {zs : List Int} {a b c : Nat} (i : Nat) : mkL zs a b c a i = mkL zs a b (c + 1) 0 i := by
  unfold mkL
  split
  · rfl
  · split
    · by_cases h1 : i - a < c
      · rw [if_pos h1, if_pos (by omega)]
      · rw [if_neg h1]
        by_cases h2 : i - a = c
        · rw [if_pos h2, if_pos (by omega), h2]
        · rw [if_neg h2, if_neg (by omega)]
          split
          · rfl
          · rfl
    · rfl
theorem mkL_A {zs : List Int} {a b c r i : Nat} (h : i < a) : mkL zs a b c r i = rowq zs i := if_pos h
theorem mkL_B {zs : List Int} {a b c r : Nat} (h : c < b) : mkL zs a b c r (a + c) = bpart (rowq zs) c (rowq zs (a + c)) r := by
  unfold mkL
  rw [if_neg (by omega), if_pos (by omega), if_neg (by omega), if_pos (by omega)]
theorem mkL_row {zs : List Int} {a b c r i : Nat} (h : i ≠ a + c) (r' : Nat) : mkL zs a b c r i = mkL zs a b c r' i := by
  unfold mkL
  by_cases h0 : i < a
  · rw [if_pos h0, if_pos h0]
  · rw [if_neg h0, if_neg h0]
    by_cases h1 : i < a + b
    · rw [if_pos h1, if_pos h1]
      by_cases h2 : i - a < c
      · rw [if_pos h2, if_pos h2]
      · rw [if_neg h2, if_neg h2, if_neg (by omega), if_neg (by omega)]
    · rw [if_neg h1, if_neg h1]
/-- Which kind, how large, of which rank. -/
def mkK (kind : Int) : Nat := (1 + wthn kind 7).toNat
def mkN (n most : Int) : Nat := (1 + wthn n most).toNat
def mkR (k : Nat) (n : Int) : Nat := if likeB k then (1 + wthn (n.tdiv 8) 2).toNat else 0
def gmk (k m r : Nat) (zs : List Int) : GD :=
  ⟨k, m, r, cnA k m, cnB k m, cnH k m r, cnH k m r, fun i => mkL zs (cnA k m) (cnB k m) (cnB k m) 0 (0 + i), fun i => mkL zs (cnA k m) (cnB k m) (cnB k m) 0 (cnA k m + i), fun i => mkL zs (cnA k m) (cnB k m) (cnB k m) 0 (cnA k m + cnB k m + i), fun i => mkL zs (cnA k m) (cnB k m) (cnB k m) 0 (cnA k m + cnB k m + cnH k m r + i)⟩
def mkg (kind n : Int) (zs : List Int) (most : Int) : GD := gmk (mkK kind) (mkN n most) (mkR (mkK kind) n) zs
theorem hdf_ok (k n r : Nat) (U : Nat → Bool) : ∀ i, (hdf k n r i).ok U
  | 0 | 1 | 2 | 3 | 4 | 5 | 6 => trivial
  | _ + 7 => trivial
/-- .. as what a call has made. -/
def GD.ft (g : GD) (i : Nat) : AV := [AV.i g.k, .i g.n, .i g.r, .row true g.la (fun i => .q (g.A i)), .row true g.lb (fun i => .q (g.B i)), .row true g.lg (fun i => .q (g.G i)), .row true g.lh (fun i => .q (g.H i))].getD i (.v undef)
theorem ble7 {T : TypeId} {f f' : Nat → AV} (h0 : f 0 = f' 0) (h1 : f 1 = f' 1) (h2 : f 2 = f' 2) (h3 : f 3 = f' 3) (h4 : f 4 = f' 4) (h5 : f 5 = f' 5) (h6 : f 6 = f' 6) : BLe idR (.ones T 7 f) (.ones T 7 f') :=
  bleo rfl fun i hi => Le.id (g7 h0 h1 h2 h3 h4 h5 h6 i hi)
theorem sl_eq {g r o o' n n' : Nat} (h1 : o = o') (h2 : n = n') : AV.sl g r o n = AV.sl g r o' n' := by rw [h1, h2]
/-- A system whose rows are parts of one own slice. -/
def slf (k n r a b h : Nat) (i : Nat) : AV := [AV.i k, .i n, .i r, .sl 63 0 0 a, .sl 63 0 a b, .sl 63 0 (a + b) h, .sl 63 0 (a + b + h) h].getD i (.v undef)
theorem slf_ok {k n r a b h : Nat} {U : Nat → Bool} (hU : U 63 = true) : ∀ i, (slf k n r a b h i).ok U
  | 0 | 1 | 2 => trivial
  | 3 | 4 | 5 | 6 => hU
  | _ + 7 => trivial
theorem int_wt {z : Int} (h : 0 ≤ z ∧ z ≤ 200) : wt ((z : Int) : Rat) ≤ 1 := by
  have key : ∀ x : _root_.Fin 201, wt (((x.val : Int) : Int) : Rat) ≤ 1 := by decide +kernel
  have := key ⟨z.toNat, by omega⟩
  rw [show ((z.toNat : Nat) : Int) = z by omega] at this
  exact this
theorem bpart_wt {A : Nat → Rat} {c : Nat} {x : Rat} (hc : c ≤ 100) (hx : wt x ≤ 1) : ∀ r, wt (bpart A c x r) ≤ 1 + 2 * r
  | 0 => by show wt x ≤ _; omega
  | r + 1 => by
    have ih := bpart_wt (A := A) hc hx r
    show wt (if _ then _ else _) ≤ _
    split
    · have h1 := wt_add (bpart A c x r) ((100 + c : Int) : Rat)
      have h2 : wt ((100 + c : Int) : Rat) ≤ 1 := int_wt (by omega)
      omega
    · omega
theorem cn_le {k n r : Nat} (h1 : 1 ≤ k) (h7 : k ≤ 7) (n1 : 1 ≤ n) (n8 : n ≤ 8) (r3 : r ≤ 3) (hr : likeB k = true → 1 ≤ r) : cnA k n ≤ 15 ∧ cnB k n ≤ 8 ∧ cnH k n r ≤ 24 ∧ 0 < cnA k n + cnB k n + 2 * cnH k n r := by
  have hk : k = 1 ∨ k = 2 ∨ k = 3 ∨ k = 4 ∨ k = 5 ∨ k = 6 ∨ k = 7 := by omega
  have hnr : n * r ≤ 8 * 3 := Nat.mul_le_mul n8 r3
  rcases hk with rfl | rfl | rfl | rfl | rfl | rfl | rfl
  · show 2 * n - 1 ≤ 15 ∧ 0 ≤ 8 ∧ 0 ≤ 24 ∧ 0 < 2 * n - 1 + 0 + 2 * 0; omega
  · show 2 * n - 1 ≤ 15 ∧ 0 ≤ 8 ∧ 0 ≤ 24 ∧ 0 < 2 * n - 1 + 0 + 2 * 0; omega
  · show n ≤ 15 ∧ 0 ≤ 8 ∧ 0 ≤ 24 ∧ 0 < n + 0 + 2 * 0; omega
  · show n ≤ 15 ∧ 0 ≤ 8 ∧ 0 ≤ 24 ∧ 0 < n + 0 + 2 * 0; omega
  · show n ≤ 15 ∧ n ≤ 8 ∧ 0 ≤ 24 ∧ 0 < n + n + 2 * 0; omega
  · have : 1 ≤ n * r := Nat.mul_le_mul n1 (hr rfl)
    show 0 ≤ 15 ∧ 0 ≤ 8 ∧ n * r ≤ 24 ∧ 0 < 0 + 0 + 2 * (n * r); omega
  · show n ≤ 15 ∧ n ≤ 8 ∧ n * r ≤ 24 ∧ 0 < n + n + 2 * (n * r); omega
theorem k_mk {kind n most : Int} {zs : List Int} (hk : Fits .i64 kind) (hn : Fits .i64 n) (hz : AllFit zs) (m1 : 1 ≤ most) (m8 : most ≤ 8) : Has Tryz.prog 18 [.i kind, .i n, .seq .i64 zs, .i most] (.ag 7 (mkg kind n zs most).ft) := by
  obtain ⟨a1, a2⟩ := wthn_lt (a := kind) (n := 7) (by decide)
  obtain ⟨b1, b2⟩ := wthn_lt (a := n) (n := most) (by omega)
  obtain ⟨c1, c2⟩ := wthn_lt (a := n.tdiv 8) (n := 2) (by decide)
  have eK : 1 + wthn kind 7 = ((mkK kind : Nat) : Int) := by unfold mkK; omega
  have eN : 1 + wthn n most = ((mkN n most : Nat) : Int) := by unfold mkN; omega
  have hf : -9223372036854775808 ≤ n ∧ n ≤ 9223372036854775807 := hn
  have h5 : Fits .i64 (n.tdiv 8) := by
    have e1 : (n.tdiv 8).natAbs = n.natAbs / 8 := Int.natAbs_tdiv n 8
    show -9223372036854775808 ≤ _ ∧ _ ≤ (9223372036854775807 : Int)
    omega
  obtain ⟨h5a, h5b⟩ : -9223372036854775808 ≤ n.tdiv 8 ∧ n.tdiv 8 ≤ 9223372036854775807 := h5
  refine has_of Tryz.func18 (by kernel_rfl) rfl Tryz.ntmps18 Tryz.results18 rfl rfl rfl ?_
  repeat(first|refine run1p ?_|((with_reducible apply st_call);exact rfl;exact rfl;exact rfl;first|(exact k_within5 (by omega) (by omega)))|((with_reducible apply st_callg);exact rfl;exact rfl;(first|exact rfl|assumption);exact rfl;exact rfl;exact rfl;first|(exact k_within5 (by omega) (by omega))))
  rw [eK, eN]
  repeat(first|refine run1p ?_|((with_reducible apply st_call);exact rfl;exact rfl;exact rfl;first|(exact r5_like _))|((with_reducible apply st_callg);exact rfl;exact rfl;(first|exact rfl|assumption);exact rfl;exact rfl;exact rfl;first|(exact r5_like _)))
  refine awp_join (stl [(2, .seq .i64 zs), (8, .ptr 8 0 0), (9, .ptr 9 0 0)] [(8, (1, fun _ => .ones 26 7 (hdf 0 0 0))), (9, (1, fun _ => .ones 26 7 (hdf (mkK kind) (mkN n most) (mkR (mkK kind) n))))]) ?_ ?_
  · cases hl : likeB (mkK kind) with
    | true =>
      have eR : 1 + wthn (n.tdiv 8) 2 = ((mkR (mkK kind) n : Nat) : Int) := by unfold mkR; rw [if_pos hl]; omega
      refine awp_yes rfl rfl ?_
      repeat(first|refine run1p ?_|((with_reducible apply st_call);exact rfl;exact rfl;exact rfl;first|(exact k_within5 (by decide) (by decide)))|((with_reducible apply st_callg);exact rfl;exact rfl;(first|exact rfl|assumption);exact rfl;exact rfl;exact rfl;first|(exact k_within5 (by decide) (by decide))))
      rw [eR]
      refine run0p ?_
      refine ⟨rfl, imp_id ?_ ?_⟩
      · exact eA
      · exact allh rfl (by decide) (ble7 rfl rfl rfl rfl rfl rfl rfl) (fun i _ => hdf_ok _ _ _ _ i) (allh rfl (by decide) (ble7 rfl rfl rfl rfl rfl rfl rfl) (fun i _ => hdf_ok _ _ _ _ i) True.intro)
    | false =>
      have eR : (((mkR (mkK kind) n : Nat)) : Int) = 0 := by unfold mkR; rw [if_neg (by rw [hl]; decide)]; rfl
      refine awp_no rfl rfl ?_
      refine run0p ?_
      refine ⟨rfl, imp_id ?_ ?_⟩
      · exact eA
      · exact allh rfl (by decide) (ble7 rfl rfl rfl rfl rfl rfl rfl) (fun i _ => hdf_ok _ _ _ _ i) (allh rfl (by decide) (ble7 rfl rfl (by show AV.i 0 = AV.i _; rw [eR]) rfl rfl rfl rfl) (fun i _ => hdf_ok _ _ _ _ i) True.intro)
  · have k1 : 1 ≤ mkK kind := by omega
    have k7 : mkK kind ≤ 7 := by omega
    have n1 : 1 ≤ mkN n most := by omega
    have n8 : mkN n most ≤ 8 := by omega
    have r3 : mkR (mkK kind) n ≤ 3 := by unfold mkR; split <;> omega
    have rl : likeB (mkK kind) = true → 1 ≤ mkR (mkK kind) n := fun h => by unfold mkR; rw [if_pos h]; omega
    unfold mkg
    generalize mkR (mkK kind) n = R at *
    generalize mkK kind = K at *
    generalize mkN n most = N at *
    clear a1 a2 b1 b2 c1 c2 h5a h5b eK eN
    obtain ⟨t0, t1, t2, t3⟩ := cn_le k1 k7 n1 n8 r3 rl
    have c := r5_counts k1 k7 n1 n8 r3
    repeat(first|refine run1p ?_|((with_reducible apply st_call);exact rfl;exact rfl;exact rfl;first|(exact Has.ag (g7 rfl rfl rfl rfl rfl rfl rfl) c))|((with_reducible apply st_callg);exact rfl;exact rfl;(first|exact rfl|assumption);exact rfl;exact rfl;exact rfl;first|(exact Has.ag (g7 rfl rfl rfl rfl rfl rfl rfl) c)))
    rw [show ((cnA K N : Nat) : Int) + (cnB K N : Nat) + 2 * (cnH K N R : Nat) = ((cnA K N + cnB K N + 2 * cnH K N R : Nat) : Int) from by omega]
    ((with_reducible apply st_callH); exact rfl; exact rfl; exact rfl; exact (k_rowo (by omega) (by omega) hz); (first | exact True.intro | exact ⟨rfl, rfl, rfl, True.intro⟩); exact rfl; exact rfl; exact rfl; exact rfl; (focus (repeat (first | exact True.intro | refine ⟨(by first | exact True.intro | rfl | exact ok_none (closed_ok rfl)), ?_⟩))); (first | exact True.intro | exact okf_WH | exact okf_pf (by exact True.intro) (by exact True.intro)))
    refine run0p ?_
    have em : ∀ i, mkL zs (cnA K N) (cnB K N) 0 0 i = rowq zs i := mkL_start
    refine awp_loop (fun m' s => ∃ c, c ≤ cnB K N ∧ m' = cnB K N - c ∧ s = stl [(8, .ptr 8 0 0), (9, .ptr 9 0 0), (10, .i (cnA K N)), (11, .i (cnB K N)), (14, .i (c : Int))] [(8, (1, fun _ => .ones 26 7 (hdf 0 0 0))), (9, (1, fun _ => .ones 26 7 (slf K N R (cnA K N) (cnB K N) (cnH K N R)))), (63, (1, fun _ => .rats (cnA K N + cnB K N + 2 * cnH K N R) fun i => .q (mkL zs (cnA K N) (cnB K N) c 0 i)))]) (cnB K N) _ (imp_id ?_ ?_) ⟨0, Nat.zero_le _, rfl, rfl⟩ ?_
    · exact eA
    · refine allh rfl (by decide) (ble7 rfl rfl rfl rfl rfl rfl rfl) (fun i _ => hdf_ok _ _ _ _ i) (allh rfl (by decide) (ble7 rfl rfl rfl (sl_eq rfl (by omega)) (sl_eq (by omega) (by omega)) (sl_eq (by omega) (by omega)) (sl_eq (by omega) (by omega))) (fun i _ => slf_ok rfl i) (allh rfl (by decide) (blen rfl fun i _ => congrArg RA.q (em i).symm) True.intro True.intro))
    · rintro m' s ⟨c, hc, rfl, rfl⟩
      refine run0p ?_
      refine awp_if rfl (fun h' => ?_) (fun h' => ?_)
      · have h' : c < cnB K N := by omega
        refine run0p ?_
        refine awp_loop (fun m' s => ∃ r, r ≤ cnA K N ∧ m' = cnA K N - r ∧ s = stl [(8, .ptr 8 0 0), (9, .ptr 9 0 0), (10, .i (cnA K N)), (11, .i (cnB K N)), (14, .i (c : Int)), (15, .i (r : Int))] [(8, (1, fun _ => .ones 26 7 (hdf 0 0 0))), (9, (1, fun _ => .ones 26 7 (slf K N R (cnA K N) (cnB K N) (cnH K N R)))), (63, (1, fun _ => .rats (cnA K N + cnB K N + 2 * cnH K N R) fun i => .q (mkL zs (cnA K N) (cnB K N) c r i)))]) (cnA K N) _ (imp_id ?_ ?_) ⟨0, Nat.zero_le _, rfl, rfl⟩ ?_
        · exact eA
        · exact allh rfl (by decide) (ble7 rfl rfl rfl rfl rfl rfl rfl) (fun i _ => hdf_ok _ _ _ _ i) (allh rfl (by decide) (ble7 rfl rfl rfl rfl rfl rfl rfl) (fun i _ => slf_ok rfl i) (allh rfl (by decide) (blen rfl fun i _ => rfl) True.intro True.intro))
        · rintro m' s ⟨r, hr, rfl, rfl⟩
          refine run0p ?_
          refine awp_if rfl (fun h1 => ?_) (fun h1 => ?_)
          · have h1 : r < cnA K N := by omega
            have fA : mkL zs (cnA K N) (cnB K N) c r r = rowq zs r := mkL_A h1
            have fB : mkL zs (cnA K N) (cnB K N) c r (cnA K N + c) = bpart (rowq zs) c (rowq zs (cnA K N + c)) r := mkL_B h'
            have fB1 : mkL zs (cnA K N) (cnB K N) c (r + 1) (cnA K N + c) = bpart (rowq zs) c (rowq zs (cnA K N + c)) (r + 1) := mkL_B h'
            have w1 : wt (mkL zs (cnA K N) (cnB K N) c r r) ≤ 1 := by rw [fA]; exact (rowq_wt zs r).le
            have w2 : wt (mkL zs (cnA K N) (cnB K N) c r (cnA K N + c)) ≤ 31 := by rw [fB]; have := bpart_wt (A := rowq zs) (c := c) (x := rowq zs (cnA K N + c)) (by omega) (rowq_wt zs _).le r; omega
            have w3 : wt ((100 + c : Int) : Rat) ≤ 1 := int_wt (by omega)
            have ci := hs_int (100 + (c : Int)) (by omega) (by omega)
            refine run0p ?_
            rw [show 0 + ((r : Nat) : Int).toNat = r from by omega, show cnA K N + ((c : Nat) : Int).toNat = cnA K N + c from rfl]
            repeat(first|refine run1p ?_|((with_reducible apply st_call);exact rfl;exact rfl;exact rfl;first|(exact hs_same (p := mkL zs (cnA K N) (cnB K N) c r r) (q := mkL zs (cnA K N) (cnB K N) c r (cnA K N + c)) (by omega) (by omega)))|((with_reducible apply st_callg);exact rfl;exact rfl;(first|exact rfl|assumption);exact rfl;exact rfl;exact rfl;first|(exact hs_same (p := mkL zs (cnA K N) (cnB K N) c r r) (q := mkL zs (cnA K N) (cnB K N) c r (cnA K N + c)) (by omega) (by omega))))
            refine awp_if rfl (fun h2 => ?_) (fun h2 => ?_)
            · repeat(first|refine run1p ?_|((with_reducible apply st_call);exact rfl;exact rfl;exact rfl;first|(exact ci))|((with_reducible apply st_callg);exact rfl;exact rfl;(first|exact rfl|assumption);exact rfl;exact rfl;exact rfl;first|(exact ci)))
              rw [show cnA K N + ((c : Nat) : Int).toNat = cnA K N + c from rfl]
              repeat(first|refine run1p ?_|((with_reducible apply st_call);exact rfl;exact rfl;exact rfl;first|(exact ci)|(exact hs_add (p := mkL zs (cnA K N) (cnB K N) c r (cnA K N + c)) (q := ((100 + c : Int) : Rat)) (by omega) (by omega)))|((with_reducible apply st_callg);exact rfl;exact rfl;(first|exact rfl|assumption);exact rfl;exact rfl;exact rfl;first|(exact ci)|(exact hs_add (p := mkL zs (cnA K N) (cnB K N) c r (cnA K N + c)) (q := ((100 + c : Int) : Rat)) (by omega) (by omega))))
              refine q_loop ?_ (imp_id ?_ ?_) ⟨r + 1, ?_, rfl, rfl⟩
              · omega
              · exact eA
              · refine allh rfl (by decide) (ble7 rfl rfl rfl rfl rfl rfl rfl) (fun i _ => hdf_ok _ _ _ _ i) (allh rfl (by decide) (ble7 rfl rfl rfl rfl rfl rfl rfl) (fun i _ => slf_ok rfl i) (allh rfl (by decide) (blen rfl fun i _ => ?_) True.intro True.intro))
                by_cases e : i = cnA K N + c
                · subst e
                  refine (updN_same _ _ _).trans (congrArg RA.q ?_)
                  rw [fB1]
                  show _ = (if _ then _ else _)
                  rw [if_pos (by rw [← fA, ← fB]; exact h2), ← fB]
                · exact (updN_ne _ _ e).trans (congrArg RA.q (mkL_row e (r + 1)))
              · omega
            · refine run0p ?_
              refine q_loop ?_ (imp_id ?_ ?_) ⟨r + 1, ?_, rfl, rfl⟩
              · omega
              · exact eA
              · refine allh rfl (by decide) (ble7 rfl rfl rfl rfl rfl rfl rfl) (fun i _ => hdf_ok _ _ _ _ i) (allh rfl (by decide) (ble7 rfl rfl rfl rfl rfl rfl rfl) (fun i _ => slf_ok rfl i) (allh rfl (by decide) (blen rfl fun i _ => congrArg RA.q ?_) True.intro True.intro))
                by_cases e : i = cnA K N + c
                · subst e
                  rw [fB, fB1]
                  show _ = (if _ then _ else _)
                  rw [if_neg (by rw [← fA, ← fB]; exact h2)]
                · exact mkL_row e (r + 1)
              · omega
          · have er : r = cnA K N := by omega
            refine run0p ?_
            refine q_loop ?_ (imp_id ?_ ?_) ⟨c + 1, ?_, rfl, rfl⟩
            · omega
            · exact eA
            · refine allh rfl (by decide) (ble7 rfl rfl rfl rfl rfl rfl rfl) (fun i _ => hdf_ok _ _ _ _ i) (allh rfl (by decide) (ble7 rfl rfl rfl rfl rfl rfl rfl) (fun i _ => slf_ok rfl i) (allh rfl (by decide) (blen rfl fun i _ => congrArg RA.q ?_) True.intro True.intro))
              rw [er]; exact mkL_next i
            · omega
      · have ec : c = cnB K N := by omega
        subst ec
        refine run0p ?_
        refine ⟨.inr rfl, _, imp_pubsl 63 8 (f' := (gmk K N R zs).ft) rfl rfl rfl rfl (fun i hi => ?_) (by decide), .one (.agg rfl rfl rfl rfl (by decide) rfl rfl)⟩
        match i, hi with
        | 0, _ => exact .inl rfl
        | 1, _ => exact .inl rfl
        | 2, _ => exact .inl rfl
        | 3, _ => exact .inr ⟨0, cnA K N, rfl, by omega, rfl⟩
        | 4, _ => exact .inr ⟨cnA K N, cnB K N, rfl, by omega, rfl⟩
        | 5, _ => exact .inr ⟨cnA K N + cnB K N, cnH K N R, rfl, by omega, rfl⟩
        | 6, _ => exact .inr ⟨cnA K N + cnB K N + cnH K N R, cnH K N R, rfl, by omega, rfl⟩
end Go.Proofs.YtddkocidfhaofaaGreat.AM

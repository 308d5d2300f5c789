/- Joined texts, 19: LvD DnA DnB DnC DnD DnE DnF DnG PElim PGauss. -/
import Derived.Test.YtddkocidfhaofaaJ18
import Derived.Test.YtddkocidfhaofaaJ17
import Derived.Test.YtddkocidfhaofaaJ14
import Derived.Test.YtddkocidfhaofaaJ13
import Derived.Test.YtddkocidfhaofaaJ12
set_option linter.unusedVariables false
set_option linter.unusedSimpArgs false
/- Package levin: systems. -/
namespace Go.Proofs.Ytddkocidfhaofaa.AM
open Go Go.RowKit Go.Proofs.Ytddkocidfhaofaa.PN Go.Proofs.Ytddkocidfhaofaa.V
open Go.Proofs.Ytddkocidfhaofaa.LA (S S_succ S_zero S_congr longer later)
set_option linter.unusedVariables false
set_option linter.unusedSimpArgs false
set_option maxRecDepth 8000
set_option maxHeartbeats 8000000
def lvs (F : Nat → Nat → Rat) (b : Nat → Rat) : Nat → Nat → Rat
  | 0 => fun _ => 0
  | k + 1 => lvm F k (lvs F b k) b
def lvX : Nat → Nat
  | 0 => 1
  | k + 1 => lvX k + (100 + (k * (4 + lvX k + 1) + 1) + 1) + lvW (k + 1) + 1
theorem lvX_le {k : Nat} (h : k ≤ 8) : lvX k ≤ 1000000000 ∧ (k ≤ 7 → lvX k ≤ 100000000) := by
  have h : k = 0 ∨ k = 1 ∨ k = 2 ∨ k = 3 ∨ k = 4 ∨ k = 5 ∨ k = 6 ∨ k = 7 ∨ k = 8 := by omega
  rcases h with rfl | rfl | rfl | rfl | rfl | rfl | rfl | rfl | rfl <;> decide
theorem lvs_wt0 {F : Nat → Nat → Rat} {n : Nat} {b : Nat → Rat} (hF : ∀ i j, i < n → j < n → wt (F i j) ≤ 4) (hb : ∀ i, i < n → wt (b i) ≤ 100) : ∀ k, k ≤ n → ∀ i, i < k → wt (lvs F b k i) ≤ lvX k := by
  intro k
  induction k with
  | zero => intro _ i hi; exact absurd hi (Nat.not_lt_zero _)
  | succ k ih =>
    intro hk i hi
    have ih := ih (by omega)
    have hp : 1 ≤ lvX k := by
      cases k with
      | zero => exact Nat.le_refl _
      | succ k => unfold lvX; omega
    have h1 := longer_wt ih hp i
    have h2 : wt (S k fun j => F k j * lvs F b k j) ≤ k * (4 + lvX k + 1) + 1 := wt_sum (K := 4 + lvX k) fun u hu => by
      have h1 := wt_mul (F k u) (lvs F b k u); have h2 := hF k u (by omega) (by omega); have h3 := ih u hu
      omega
    have h3 := hb k (by omega)
    have h4 := wt_sub (b k) (S k fun j => F k j * lvs F b k j)
    have h5 := (lv_wt hF (k + 1) hk i hi).2
    have h6 := wt_mul (-(b k - S k fun j => F k j * lvs F b k j)) (lvl F (k + 1) i)
    rw [wt_neg] at h6
    have h7 := wt_sub (longer k (lvs F b k) i) (-(b k - S k fun j => F k j * lvs F b k j) * lvl F (k + 1) i)
    show wt (longer k (lvs F b k) i - -(b k - S k fun j => F k j * lvs F b k j) * lvl F (k + 1) i) ≤ lvX k + (100 + (k * (4 + lvX k + 1) + 1) + 1) + lvW (k + 1) + 1
    omega
theorem lvs_wt {F : Nat → Nat → Rat} {n : Nat} {b : Nat → Rat} (hF : ∀ i j, i < n → j < n → wt (F i j) ≤ 4) (hn : n ≤ 8) (hb : ∀ i, i < n → wt (b i) ≤ 100) : ∀ k, k < n → ∀ i, i < k → wt (lvs F b k i) ≤ 100000000 := fun k hk i hi =>
  Nat.le_trans (lvs_wt0 hF hb k (by omega) i hi) ((lvX_le (by omega)).2 (by omega))
theorem toe_wt {g : GD} (h : g.OK) (hk : g.k = 1) : ∀ i j, i < g.n → j < g.n → wt (gent g i j) ≤ 4 := fun i j hi hj => by
  obtain ⟨m1, _⟩ := ok_lens h
  have := h.sm.A (i + g.n - 1 - j) (by rw [m1 (.inl hk)]; omega)
  unfold gent; rw [hk]; exact this
theorem lv_solve {g : GD} {b : Nat → Rat} (h : g.OK) (hk : g.k = 1) (hb : ∀ i, i < g.n → wt (b i) ≤ 100) (hd : ∀ k, k < g.n → lvd (gent g) k ≠ 0) : Has Try.prog 12 [g.v, .row false g.n fun i => .q (b i)] (.tup3 (.row true g.n fun i => .q (lvs (gent g) b g.n i)) (.i 0) (.i 0)) := by
  have n8 := h.n8; have n1 := h.n1
  have hF := toe_wt h hk
  have hX := lvs_wt (b := b) hF n8 hb
  refine has_of Try.func12 (by kernel_rfl) rfl Try.ntmps12 Try.results12 rfl rfl rfl ?_
  refine run0 ?_
  ((with_reducible apply st_callH); exact rfl; exact rfl; exact rfl; exact (lv_of' h hk); (first | exact True.intro | exact ⟨rfl, rfl, rfl, True.intro⟩); exact rfl; exact rfl; exact rfl; exact rfl; (focus (repeat (first | exact True.intro | refine ⟨(by first | exact True.intro | rfl | exact ok_none (closed_ok rfl)), ?_⟩))); (first | exact True.intro | exact okf_WH | exact okf_pf (by exact True.intro) (by exact True.intro)))
  refine run0 ?_
  refine awp_no rfl rfl ?_
  refine run0 ?_
  refine awp_no rfl (decide_eq_false fun e => e rfl) ?_
  refine run0 ?_
  refine awp_loop (fun m' s => ∃ k, k ≤ g.n ∧ m' = g.n - k ∧ s = stl [(1, .row false g.n fun i => .q (b i)), (4, .own 63 0), (8, .bnd 27 (.ptr 60 0 0)), (9, .bnd 28 (.ptr 60 0 0)), (31, .i g.n), (32, .i (k : Int))] ((63, (1, fun _ => .rats k fun i => .q (lvs (gent g) b k i))) :: PFk g.n (gent g) k)) g.n _ ((imp_nil 4 63 (.rats 0 fun i => .q (lvs (gent g) b 0 i)) rfl rfl (by exact rfl)).trans (imp_id ?_ ?_)) ⟨0, Nat.zero_le _, rfl, rfl⟩ ?_
  · exact eA
  · exact allh rfl (by decide) (blen rfl fun _ _ => rfl) True.intro (allh rfl (by decide) (pf_le (Le.eq rfl rfl) Le.nilrow Le.nilrow) (fun i _ => prF_ok (by exact True.intro) (by exact True.intro) i) (allz (allz True.intro)))
  rintro m' s ⟨k, hk', rfl, rfl⟩
  refine run0 ?_
  refine awp_if rfl (fun h1 => ?_) (fun h1 => ?_)
  · have h1 : k < g.n := by omega
    skip
    have hkK : k < g.n := by omega
    refine run0 ?_
    ((with_reducible apply st_callH); exact rfl; exact rfl; exact rfl; exact (lv_next hF n8 h1 (hd k hkK)); (first | exact True.intro | exact ⟨rfl, rfl, rfl, True.intro⟩); exact rfl; exact rfl; exact rfl; exact rfl; (focus (repeat (first | exact True.intro | refine ⟨(by first | exact True.intro | rfl | exact ok_none (closed_ok rfl)), ?_⟩))); (first | exact True.intro | exact okf_WH | exact okf_pf (by exact True.intro) (by exact True.intro)))
    refine run0 ?_
    refine awp_no rfl rfl ?_
    repeat(first|(with_reducible first|refine awp_seq ?_|refine awp_block ?_|refine awp_skip ?_|refine awp_exit ?_|refine awp_ret ?_|refine q_then ?_|refine q_block ?_|refine q_then_exit ?_|refine q_then_ret ?_|refine q_block_exit ?_|refine q_block_ret ?_|refine q_loop_exit ?_|refine q_loop_ret ?_)|((with_reducible refine q_block_other ?_ ?_);exact rfl))
    refine awp_imp ((imp_rowv 4 (fun i => .q (lvs (gent g) b k i)) rfl rfl rfl (fun i hi => ?_)).trans (imp_id (e := [(1, .row false g.n fun i => .q (b i)), (4, .row true k fun i => .q (lvs (gent g) b k i)), (8, .bnd 27 (.ptr 60 0 0)), (9, .bnd 28 (.ptr 60 0 0)), (31, .i g.n), (32, .i (k : Int))]) (h := PFk g.n (gent g) (k + 1)) ?_ ?_)) ?_
    · rfl
    · exact eA
    · exact allh rfl (by decide) (pf_le (Le.eq rfl rfl) (Le.eq rfl rfl) (Le.eq rfl rfl)) (fun i _ => prF_ok (by exact True.intro) (by exact True.intro) i) (allz (allz True.intro))
    refine run0 ?_
    ((with_reducible apply st_callH); exact rfl; exact rfl; exact rfl; exact (lv_more hF n8 h1 (fun i hi => hX k (by omega) i hi) hb); (first | exact True.intro | exact ⟨rfl, rfl, rfl, True.intro⟩); exact rfl; exact rfl; exact rfl; exact rfl; (focus (repeat (first | exact True.intro | refine ⟨(by first | exact True.intro | rfl | exact ok_none (closed_ok rfl)), ?_⟩))); (first | exact True.intro | exact okf_WH | exact okf_pf (by exact True.intro) (by exact True.intro)))
    refine run0 ?_
    refine q_loop ?_ (imp_id ?_ ?_) ⟨k + 1, ?_, rfl, rfl⟩
    · omega
    · exact eA
    · exact allh rfl (by decide) (blen rfl fun _ _ => rfl) True.intro (allh rfl (by decide) (pf_le (Le.eq rfl rfl) (Le.eq rfl rfl) (Le.eq rfl rfl)) (fun i _ => prF_ok (by exact True.intro) (by exact True.intro) i) (allz (allz True.intro)))
    · omega
  · obtain ek : k = g.n := by omega
    subst ek
    refine run0 ?_
    exact ⟨.inr rfl, _, imp_rowv 4 (fun i => .q (lvs (gent g) b g.n i)) rfl rfl rfl (fun _ _ => rfl), .three (.tmp rfl) (.tmp rfl) (.tmp rfl)⟩
theorem lv_solveo {g : GD} {b : Nat → Rat} (h : g.OK) (hk : g.k = 1) (hb : ∀ i, i < g.n → wt (b i) ≤ 100) (hd : ∀ k, k < g.n → lvd (gent g) k ≠ 0) : HasH Try.prog 12 [] [g.v, .row false g.n fun i => .q (b i)] (.tup3 (.own 63 0) (.i 0) (.i 0)) ((63, (1, fun _ => .rats g.n fun i => .q (lvs (gent g) b g.n i))) :: PFk g.n (gent g) g.n) := by
  have n8 := h.n8; have n1 := h.n1
  have hF := toe_wt h hk
  have hX := lvs_wt (b := b) hF n8 hb
  refine hasH_of Try.func12 (by kernel_rfl) rfl Try.ntmps12 Try.results12 ⟨rfl, trivial, trivial⟩ rfl rfl ?_
  refine run0 ?_
  ((with_reducible apply st_callH); exact rfl; exact rfl; exact rfl; exact (lv_of' h hk); (first | exact True.intro | exact ⟨rfl, rfl, rfl, True.intro⟩); exact rfl; exact rfl; exact rfl; exact rfl; (focus (repeat (first | exact True.intro | refine ⟨(by first | exact True.intro | rfl | exact ok_none (closed_ok rfl)), ?_⟩))); (first | exact True.intro | exact okf_WH | exact okf_pf (by exact True.intro) (by exact True.intro)))
  refine run0 ?_
  refine awp_no rfl rfl ?_
  refine run0 ?_
  refine awp_no rfl (decide_eq_false fun e => e rfl) ?_
  refine run0 ?_
  refine awp_loop (fun m' s => ∃ k, k ≤ g.n ∧ m' = g.n - k ∧ s = stl [(1, .row false g.n fun i => .q (b i)), (4, .own 63 0), (8, .bnd 27 (.ptr 60 0 0)), (9, .bnd 28 (.ptr 60 0 0)), (31, .i g.n), (32, .i (k : Int))] ((63, (1, fun _ => .rats k fun i => .q (lvs (gent g) b k i))) :: PFk g.n (gent g) k)) g.n _ ((imp_nil 4 63 (.rats 0 fun i => .q (lvs (gent g) b 0 i)) rfl rfl (by exact rfl)).trans (imp_id ?_ ?_)) ⟨0, Nat.zero_le _, rfl, rfl⟩ ?_
  · exact eA
  · exact allh rfl (by decide) (blen rfl fun _ _ => rfl) True.intro (allh rfl (by decide) (pf_le (Le.eq rfl rfl) Le.nilrow Le.nilrow) (fun i _ => prF_ok (by exact True.intro) (by exact True.intro) i) (allz (allz True.intro)))
  rintro m' s ⟨k, hk', rfl, rfl⟩
  refine run0 ?_
  refine awp_if rfl (fun h1 => ?_) (fun h1 => ?_)
  · have h1 : k < g.n := by omega
    skip
    have hkK : k < g.n := by omega
    refine run0 ?_
    ((with_reducible apply st_callH); exact rfl; exact rfl; exact rfl; exact (lv_next hF n8 h1 (hd k hkK)); (first | exact True.intro | exact ⟨rfl, rfl, rfl, True.intro⟩); exact rfl; exact rfl; exact rfl; exact rfl; (focus (repeat (first | exact True.intro | refine ⟨(by first | exact True.intro | rfl | exact ok_none (closed_ok rfl)), ?_⟩))); (first | exact True.intro | exact okf_WH | exact okf_pf (by exact True.intro) (by exact True.intro)))
    refine run0 ?_
    refine awp_no rfl rfl ?_
    repeat(first|(with_reducible first|refine awp_seq ?_|refine awp_block ?_|refine awp_skip ?_|refine awp_exit ?_|refine awp_ret ?_|refine q_then ?_|refine q_block ?_|refine q_then_exit ?_|refine q_then_ret ?_|refine q_block_exit ?_|refine q_block_ret ?_|refine q_loop_exit ?_|refine q_loop_ret ?_)|((with_reducible refine q_block_other ?_ ?_);exact rfl))
    refine awp_imp ((imp_rowv 4 (fun i => .q (lvs (gent g) b k i)) rfl rfl rfl (fun i hi => ?_)).trans (imp_id (e := [(1, .row false g.n fun i => .q (b i)), (4, .row true k fun i => .q (lvs (gent g) b k i)), (8, .bnd 27 (.ptr 60 0 0)), (9, .bnd 28 (.ptr 60 0 0)), (31, .i g.n), (32, .i (k : Int))]) (h := PFk g.n (gent g) (k + 1)) ?_ ?_)) ?_
    · rfl
    · exact eA
    · exact allh rfl (by decide) (pf_le (Le.eq rfl rfl) (Le.eq rfl rfl) (Le.eq rfl rfl)) (fun i _ => prF_ok (by exact True.intro) (by exact True.intro) i) (allz (allz True.intro))
    refine run0 ?_
    ((with_reducible apply st_callH); exact rfl; exact rfl; exact rfl; exact (lv_more hF n8 h1 (fun i hi => hX k (by omega) i hi) hb); (first | exact True.intro | exact ⟨rfl, rfl, rfl, True.intro⟩); exact rfl; exact rfl; exact rfl; exact rfl; (focus (repeat (first | exact True.intro | refine ⟨(by first | exact True.intro | rfl | exact ok_none (closed_ok rfl)), ?_⟩))); (first | exact True.intro | exact okf_WH | exact okf_pf (by exact True.intro) (by exact True.intro)))
    refine run0 ?_
    refine q_loop ?_ (imp_id ?_ ?_) ⟨k + 1, ?_, rfl, rfl⟩
    · omega
    · exact eA
    · exact allh rfl (by decide) (blen rfl fun _ _ => rfl) True.intro (allh rfl (by decide) (pf_le (Le.eq rfl rfl) (Le.eq rfl rfl) (Le.eq rfl rfl)) (fun i _ => prF_ok (by exact True.intro) (by exact True.intro) i) (allz (allz True.intro)))
    · omega
  · obtain ek : k = g.n := by omega
    subst ek
    refine run0 ?_
    refine ⟨.inr rfl, [(4, .own 63 0), (5, .i 0), (6, .i 0)], imp_id ?_ ?_, .three (.tmp rfl) (.tmp rfl) (.tmp rfl)⟩
    · exact eA
    · exact allh rfl (by decide) (blen rfl fun _ _ => rfl) True.intro (allh rfl (by decide) (pf_le (Le.eq rfl rfl) (Le.eq rfl rfl) (Le.eq rfl rfl)) (fun i _ => prF_ok (by exact True.intro) (by exact True.intro) i) (allz (allz True.intro)))
theorem lv_solve_break {g : GD} {b : Nat → Rat} (h : g.OK) (hk : g.k = 1) (hb : ∀ i, i < g.n → wt (b i) ≤ 100) {K : Nat} (hK : K < g.n) (hd : ∀ k, k < K → lvd (gent g) k ≠ 0) (hz : lvd (gent g) K = 0) : Has Try.prog 12 [g.v, .row false g.n fun i => .q (b i)] (.tup3 (.v (.slice none 0 0)) (.i ((K + 1 : Nat) : Int)) (.i 8)) := by
  have n8 := h.n8; have n1 := h.n1
  have hF := toe_wt h hk
  have hX := lvs_wt (b := b) hF n8 hb
  refine has_of Try.func12 (by kernel_rfl) rfl Try.ntmps12 Try.results12 rfl rfl rfl ?_
  refine run0 ?_
  ((with_reducible apply st_callH); exact rfl; exact rfl; exact rfl; exact (lv_of' h hk); (first | exact True.intro | exact ⟨rfl, rfl, rfl, True.intro⟩); exact rfl; exact rfl; exact rfl; exact rfl; (focus (repeat (first | exact True.intro | refine ⟨(by first | exact True.intro | rfl | exact ok_none (closed_ok rfl)), ?_⟩))); (first | exact True.intro | exact okf_WH | exact okf_pf (by exact True.intro) (by exact True.intro)))
  refine run0 ?_
  refine awp_no rfl rfl ?_
  refine run0 ?_
  refine awp_no rfl (decide_eq_false fun e => e rfl) ?_
  refine run0 ?_
  refine awp_loop (fun m' s => ∃ k, k ≤ K ∧ m' = g.n - k ∧ s = stl [(1, .row false g.n fun i => .q (b i)), (4, .own 63 0), (8, .bnd 27 (.ptr 60 0 0)), (9, .bnd 28 (.ptr 60 0 0)), (31, .i g.n), (32, .i (k : Int))] ((63, (1, fun _ => .rats k fun i => .q (lvs (gent g) b k i))) :: PFk g.n (gent g) k)) g.n _ ((imp_nil 4 63 (.rats 0 fun i => .q (lvs (gent g) b 0 i)) rfl rfl (by exact rfl)).trans (imp_id ?_ ?_)) ⟨0, Nat.zero_le _, rfl, rfl⟩ ?_
  · exact eA
  · exact allh rfl (by decide) (blen rfl fun _ _ => rfl) True.intro (allh rfl (by decide) (pf_le (Le.eq rfl rfl) Le.nilrow Le.nilrow) (fun i _ => prF_ok (by exact True.intro) (by exact True.intro) i) (allz (allz True.intro)))
  rintro m' s ⟨k, hk', rfl, rfl⟩
  refine run0 ?_
  refine awp_if rfl (fun h1 => ?_) (fun h1 => ?_)
  · have h1 : k < g.n := by omega
    by_cases hkk : k = K
    · subst hkk
      obtain ⟨x, y, H⟩ := lv_next_no hF n8 h1 hz
      refine run0 ?_
      ((with_reducible apply st_callH); exact rfl; exact rfl; exact rfl; exact (H); (first | exact True.intro | exact ⟨rfl, rfl, rfl, True.intro⟩); exact rfl; exact rfl; exact rfl; exact rfl; (focus (repeat (first | exact True.intro | refine ⟨(by first | exact True.intro | rfl | exact ok_none (closed_ok rfl)), ?_⟩))); (first | exact True.intro | exact okf_WH | exact okf_pf (by exact True.intro) (by exact True.intro)))
      refine run0 ?_
      refine awp_yes rfl rfl ?_
      refine run0 ?_
      exact ⟨.inr rfl, _, Imp.refl _, .three (.tmp rfl) (.tmp rfl) (.tmp rfl)⟩
    have hkK : k < K := by omega
    refine run0 ?_
    ((with_reducible apply st_callH); exact rfl; exact rfl; exact rfl; exact (lv_next hF n8 h1 (hd k hkK)); (first | exact True.intro | exact ⟨rfl, rfl, rfl, True.intro⟩); exact rfl; exact rfl; exact rfl; exact rfl; (focus (repeat (first | exact True.intro | refine ⟨(by first | exact True.intro | rfl | exact ok_none (closed_ok rfl)), ?_⟩))); (first | exact True.intro | exact okf_WH | exact okf_pf (by exact True.intro) (by exact True.intro)))
    refine run0 ?_
    refine awp_no rfl rfl ?_
    repeat(first|(with_reducible first|refine awp_seq ?_|refine awp_block ?_|refine awp_skip ?_|refine awp_exit ?_|refine awp_ret ?_|refine q_then ?_|refine q_block ?_|refine q_then_exit ?_|refine q_then_ret ?_|refine q_block_exit ?_|refine q_block_ret ?_|refine q_loop_exit ?_|refine q_loop_ret ?_)|((with_reducible refine q_block_other ?_ ?_);exact rfl))
    refine awp_imp ((imp_rowv 4 (fun i => .q (lvs (gent g) b k i)) rfl rfl rfl (fun i hi => ?_)).trans (imp_id (e := [(1, .row false g.n fun i => .q (b i)), (4, .row true k fun i => .q (lvs (gent g) b k i)), (8, .bnd 27 (.ptr 60 0 0)), (9, .bnd 28 (.ptr 60 0 0)), (31, .i g.n), (32, .i (k : Int))]) (h := PFk g.n (gent g) (k + 1)) ?_ ?_)) ?_
    · rfl
    · exact eA
    · exact allh rfl (by decide) (pf_le (Le.eq rfl rfl) (Le.eq rfl rfl) (Le.eq rfl rfl)) (fun i _ => prF_ok (by exact True.intro) (by exact True.intro) i) (allz (allz True.intro))
    refine run0 ?_
    ((with_reducible apply st_callH); exact rfl; exact rfl; exact rfl; exact (lv_more hF n8 h1 (fun i hi => hX k (by omega) i hi) hb); (first | exact True.intro | exact ⟨rfl, rfl, rfl, True.intro⟩); exact rfl; exact rfl; exact rfl; exact rfl; (focus (repeat (first | exact True.intro | refine ⟨(by first | exact True.intro | rfl | exact ok_none (closed_ok rfl)), ?_⟩))); (first | exact True.intro | exact okf_WH | exact okf_pf (by exact True.intro) (by exact True.intro)))
    refine run0 ?_
    refine q_loop ?_ (imp_id ?_ ?_) ⟨k + 1, ?_, rfl, rfl⟩
    · omega
    · exact eA
    · exact allh rfl (by decide) (blen rfl fun _ _ => rfl) True.intro (allh rfl (by decide) (pf_le (Le.eq rfl rfl) (Le.eq rfl rfl) (Le.eq rfl rfl)) (fun i _ => prF_ok (by exact True.intro) (by exact True.intro) i) (allz (allz True.intro)))
    · omega
  · omega
theorem lv_solve_kind {g : GD} {m : Nat} {b : Nat → Rat} (hk : g.k ≠ 1) : Has Try.prog 12 [g.v, .row false m fun i => .q (b i)] (.tup3 (.v (.slice none 0 0)) (.i 0) (.i 2)) := by
  refine has_of Try.func12 (by kernel_rfl) rfl Try.ntmps12 Try.results12 rfl rfl rfl ?_
  repeat(first|refine run1 ?_|((with_reducible apply st_call);exact rfl;exact rfl;exact rfl;first|(exact Has.ag (g7 rfl rfl rfl rfl rfl rfl rfl) (lv_of_no hk)))|((with_reducible apply st_callg);exact rfl;exact rfl;(first|exact rfl|assumption);exact rfl;exact rfl;exact rfl;first|(exact Has.ag (g7 rfl rfl rfl rfl rfl rfl rfl) (lv_of_no hk))))
  refine awp_yes rfl rfl ?_
  refine run0 ?_
  exact ⟨.inr rfl, _, Imp.refl _, .three (.tmp rfl) (.tmp rfl) (.tmp rfl)⟩
theorem lv_solve_long {g : GD} {m : Nat} {b : Nat → Rat} (h : g.OK) (hk : g.k = 1) (hm : m ≠ g.n) : Has Try.prog 12 [g.v, .row false m fun i => .q (b i)] (.tup3 (.v (.slice none 0 0)) (.i 0) (.i 3)) := by
  refine has_of Try.func12 (by kernel_rfl) rfl Try.ntmps12 Try.results12 rfl rfl rfl ?_
  refine run0 ?_
  ((with_reducible apply st_callH); exact rfl; exact rfl; exact rfl; exact (lv_of' h hk); (first | exact True.intro | exact ⟨rfl, rfl, rfl, True.intro⟩); exact rfl; exact rfl; exact rfl; exact rfl; (focus (repeat (first | exact True.intro | refine ⟨(by first | exact True.intro | rfl | exact ok_none (closed_ok rfl)), ?_⟩))); (first | exact True.intro | exact okf_WH | exact okf_pf (by exact True.intro) (by exact True.intro)))
  refine run0 ?_
  refine awp_no rfl rfl ?_
  refine run0 ?_
  refine awp_yes rfl (decide_eq_true fun e => hm (by omega)) ?_
  refine run0 ?_
  exact ⟨.inr rfl, _, Imp.refl _, .three (.tmp rfl) (.tmp rfl) (.tmp rfl)⟩
end Go.Proofs.Ytddkocidfhaofaa.AM
/- Dense matrices: walks: zero, one, dot. -/
namespace Go.Proofs.Ytddkocidfhaofaa.AM
open Go Go.RowKit Go.Proofs.Ytddkocidfhaofaa.PN Go.Proofs.Ytddkocidfhaofaa.V
open Go.Proofs.Ytddkocidfhaofaa.LA (S S_succ S_zero S_congr)
set_option linter.unusedVariables false
set_option linter.unusedSimpArgs false
end Go.Proofs.Ytddkocidfhaofaa.AM
/- Dense matrices: walks: right rows, square matrices, products with vectors. -/
namespace Go.Proofs.Ytddkocidfhaofaa.AM
open Go Go.RowKit Go.Proofs.Ytddkocidfhaofaa.PN Go.Proofs.Ytddkocidfhaofaa.V
open Go.Proofs.Ytddkocidfhaofaa.LA (S S_succ S_zero S_congr)
set_option linter.unusedVariables false
set_option linter.unusedSimpArgs false
theorem int_u : Try.prog.underlying 3 = some (.int .i64) := by kernel_rfl
theorem int_info : (Try.prog.info? 3).map (fun i => (i.zero, i.size, i.bytes)) = some (some (.int .i64 0), 1, 8) := by kernel_rfl
theorem pair_vals {S : Nat → Prop} {B : Nat} {β : Nat → Nat → Value} {w : World} {f : Nat → AV} {v : Value} {a b : Int} (h : RV S B β w (.ag 2 f) v) (h0 : f 0 = .i a) (h1 : f 1 = .i b) : v = .agg #[.int .i64 a, .int .i64 b] := by
  obtain ⟨cs, rfl, h2, h3⟩ := h
  obtain ⟨y0, e0, _, r0⟩ := h3 0 (by decide)
  obtain ⟨y1, e1, _, r1⟩ := h3 1 (by decide)
  rw [h0] at r0; rw [h1] at r1
  have r0 : y0 = .int .i64 a := r0
  have r1 : y1 = .int .i64 b := r1
  subst r0; subst r1
  obtain ⟨cs⟩ := cs
  match cs, h2 with
  | [x, y], _ => cases e0; cases e1; rfl
end Go.Proofs.Ytddkocidfhaofaa.AM
/- Dense matrices: walks: square matrices, products with vectors. -/
namespace Go.Proofs.Ytddkocidfhaofaa.AM
open Go Go.RowKit Go.Proofs.Ytddkocidfhaofaa.PN Go.Proofs.Ytddkocidfhaofaa.V
open Go.Proofs.Ytddkocidfhaofaa.LA (S S_succ S_zero S_congr)
set_option linter.unusedVariables false
set_option linter.unusedSimpArgs false
end Go.Proofs.Ytddkocidfhaofaa.AM
/- Dense matrices: walks: made, Turn, Mul. -/
namespace Go.Proofs.Ytddkocidfhaofaa.AM
open Go Go.RowKit Go.Proofs.Ytddkocidfhaofaa.PN Go.Proofs.Ytddkocidfhaofaa.V
open Go.Proofs.Ytddkocidfhaofaa.LA (S S_succ S_zero S_congr)
set_option linter.unusedVariables false
set_option linter.unusedSimpArgs false
end Go.Proofs.Ytddkocidfhaofaa.AM
/- Dense matrices: walks: the steps on rows. -/
namespace Go.Proofs.Ytddkocidfhaofaa.AM
open Go Go.RowKit Go.Proofs.Ytddkocidfhaofaa.PN Go.Proofs.Ytddkocidfhaofaa.V
open Go.Proofs.Ytddkocidfhaofaa.LA (S S_succ S_zero S_congr)
set_option linter.unusedVariables false
set_option linter.unusedSimpArgs false
set_option maxRecDepth 4000
set_option maxHeartbeats 2000000
/-- The variable that bears rows, and a determinant. -/
def wk (d : Rat) : Nat → AV := fun i => match i with
  | 0 => .own 61 0
  | 1 => .rs (.q d)
  | 2 => .rn (.q d)
  | _ => .rd (.q d)
theorem wk_upd {d d' : Rat} : ∀ i, i < 4 → upd3 (wk d) 1 (.q d') i = wk d' i := fun i hi => by
  match i, hi with
  | 0, _ => rfl
  | 1, _ => rfl
  | 2, _ => rfl
  | 3, _ => rfl
theorem wk_ok {U : Nat → Bool} (hU : U 61 = true) (d : Rat) : ∀ i, (wk d i).ok U := fun i => by
  match i with
  | 0 => exact hU
  | 1 => trivial
  | 2 => trivial
  | _ + 3 => trivial
def swp (π : Nat → Nat) (i j : Nat) : Nat → Nat := updN (updN π i (π j)) j (π i)
theorem swp_own {π : Nat → Nat} {i j g : Nat} (k : Nat) : updN (updN (fun i => AV.own g (π i)) i (.own g (π j))) j (.own g (π i)) k = .own g (swp π i j k) := by
  unfold swp updN
  by_cases h1 : k = j
  · rw [if_pos h1, if_pos h1]
  · rw [if_neg h1, if_neg h1]
    by_cases h2 : k = i
    · rw [if_pos h2, if_pos h2]
    · rw [if_neg h2, if_neg h2]
theorem swp_self (π : Nat → Nat) (i k : Nat) : swp π i i k = π k := by
  unfold swp updN
  by_cases h : k = i
  · rw [if_pos h, h]
  · rw [if_neg h, if_neg h]
theorem swp_at (π : Nat → Nat) (i j : Nat) : swp π i j j = π i := updN_same _ _ _
def det1 (d : Rat) (i at' : Nat) : Rat := if i = at' then d else -d
end Go.Proofs.Ytddkocidfhaofaa.AM
/- Dense matrices: walks: a row is taken away from another one. -/
namespace Go.Proofs.Ytddkocidfhaofaa.AM
open Go Go.RowKit Go.Proofs.Ytddkocidfhaofaa.PN Go.Proofs.Ytddkocidfhaofaa.V
open Go.Proofs.Ytddkocidfhaofaa.LA (S S_succ S_zero S_congr)
set_option linter.unusedVariables false
set_option linter.unusedSimpArgs false
set_option maxRecDepth 4000
set_option maxHeartbeats 2000000
/-- A row, less a multiple of another one from a column on, up to k. -/
def clr (A : Nat → Nat → Rat) (q : Rat) (a b col k : Nat) : Nat → Nat → Rat := fun r j => if r = a ∧ col ≤ j ∧ j < k then A a j - q * A b j else A r j
theorem clr_wt {A : Nat → Nat → Rat} {q : Rat} {a b col k K : Nat} [hA : ∀ i j, Wt (A i j) K] [hq : Wt q (K + K)] (r j : Nat) : Wt (clr A q a b col k r j) (4 * K + 1) := by
  unfold clr
  split
  · exact (inferInstance : Wt (A a j - q * A b j) (K + (K + K + K) + 1)).mono (by omega)
  · exact (hA r j).mono (by omega)
theorem clr_step {A : Nat → Nat → Rat} {q : Rat} {a b col k : Nat} (hab : a ≠ b) (hk : col ≤ k) (r j : Nat) : (if r = a ∧ j = k then clr A q a b col k a k - q * clr A q a b col k b k else clr A q a b col k r j) = clr A q a b col (k + 1) r j := by
  unfold clr
  by_cases h1 : r = a
  · subst h1
    by_cases h2 : j = k
    · subst h2
      rw [if_pos ⟨rfl, rfl⟩, if_neg (by omega), if_neg (fun h => hab h.1.symm), if_pos ⟨rfl, hk, by omega⟩]
    · rw [if_neg (by omega)]
      by_cases h3 : col ≤ j ∧ j < k
      · rw [if_pos ⟨rfl, h3⟩, if_pos ⟨rfl, by omega, by omega⟩]
      · rw [if_neg (fun h => h3 h.2), if_neg (by omega)]
  · rw [if_neg (fun h => h1 h.1), if_neg (fun h => h1 h.1), if_neg (fun h => h1 h.1)]
theorem clr_none {A : Nat → Nat → Rat} {q : Rat} {a b col r j : Nat} : clr A q a b col col r j = A r j := by
  unfold clr; rw [if_neg (by omega)]
theorem clr_zero {A : Nat → Nat → Rat} {q : Rat} {a b col k r j : Nat} (h : q = 0) : clr A q a b col k r j = A r j := by
  unfold clr
  split
  · rename_i h1; rw [h, h1.1, Rat.zero_mul]; exact by rw [Rat.sub_eq_add_neg, Rat.neg_zero, Rat.add_zero]
  · rfl
theorem clr_blk {C C' : Nat → Nat → Rat} {m a k : Nat} {x : Rat} (h : ∀ r j, (if r = a ∧ j = k then x else C r j) = C' r j) (r : Nat) : BLe idR (updN (fun r => Blk.rats m fun j => .q (C r j)) a (.rats m (updN (fun j => .q (C a j)) k (.q x))) r) (.rats m fun j => .q (C' r j)) := by
  by_cases e : r = a
  · subst e
    rw [updN_same]
    refine blen rfl fun j hj => ?_
    rw [← h r j]
    unfold updN
    by_cases e2 : j = k
    · rw [if_pos e2, if_pos ⟨rfl, e2⟩]
    · rw [if_neg e2, if_neg (fun h => e2 h.2)]
  · rw [updN_ne _ _ e]
    refine blen rfl fun j hj => ?_
    rw [← h r j, if_neg (fun h => e h.1)]
end Go.Proofs.Ytddkocidfhaofaa.AM
/- Dense matrices: walks: rows on which steps are done. -/
namespace Go.Proofs.Ytddkocidfhaofaa.AM
open Go Go.RowKit Go.Proofs.Ytddkocidfhaofaa.PN Go.Proofs.Ytddkocidfhaofaa.V
open Go.Proofs.Ytddkocidfhaofaa.LA (S S_succ S_zero S_congr)
set_option linter.unusedVariables false
set_option linter.unusedSimpArgs false
set_option maxRecDepth 4000
set_option maxHeartbeats 2000000
theorem HasH.arg2 {P : Program} {f : FuncId} {h h' : List (Nat × Fam)} {a x x' r : AV} (H : HasH P f h [a, x'] r h') (hx : ∀ S B β w v, RV S B β w x v → RV S B β w x' v) (hok : x'.ok (fun _ => false)) : HasH P f h [a, x] r h' := by
  refine ⟨H.b, fun W β w vs hl hF hs => H.run W β w vs hl hF ⟨hs.kept, hs.nodef, hs.size, fun t y hy => ?_, hs.heap, hs.live, hs.inj, hs.fix, hs.pin, hs.fixd, hs.keep⟩⟩
  match t, hy with
  | 0, hy => exact hs.env 0 y hy
  | 1, hy => cases hy; exact ⟨ok_none hok, hx _ _ _ _ _ (hs.env 1 x rfl).2⟩
/-- Rows with something beside each. -/
def aug (n : Nat) (F G : Nat → Nat → Rat) : Nat → Nat → Rat := fun i j => if j < n then F i j else G i (j - n)
/-- The variable, before it bears rows. -/
def wk0 (y : AV) : Nat → AV := fun i => match i with
  | 0 => y
  | 1 => .rs (.q 1)
  | 2 => .rn (.q 1)
  | _ => .rd (.q 1)
theorem wk0_ok {U : Nat → Bool} {y : AV} (hy : y.ok U) : ∀ i, (wk0 y i).ok U := fun i => by
  match i with
  | 0 => exact hy
  | 1 => trivial
  | 2 => trivial
  | _ + 3 => trivial
def sg (k : Nat) : Ren := fun g r => if g = 12 then (if r < k then (12, r) else (32, r - k)) else if g = 11 then (34, r) else (g, r)
theorem sg_inj (k : Nat) (g r g' r' : Nat) (hg : memN g [10, 11, 12] = true) (hg' : memN g' [10, 11, 12] = true) (e : sg k g r = sg k g' r') : g = g' ∧ r = r' := by
  have m1 := memN_spec hg
  have m2 := memN_spec hg'
  simp only [List.mem_cons, List.not_mem_nil, or_false] at m1 m2
  unfold sg at e
  rcases m1 with rfl | rfl | rfl <;> rcases m2 with rfl | rfl | rfl <;> simp at e ⊢
  · exact e
  · split at e <;> simp at e
  · exact e
  · split at e <;> simp at e
  · split at e <;> simp at e
  · split at e <;> simp at e
  · split at e <;> split at e <;> simp at e <;> omega
def sf : Ren := fun g r => if g = 60 then (10, r) else if g = 61 then (11, r) else if g = 62 then (12, r) else (g, r)
theorem sf_inj (g r g' r' : Nat) (hg : memN g [60, 61, 62] = true) (hg' : memN g' [60, 61, 62] = true) (e : sf g r = sf g' r') : g = g' ∧ r = r' := by
  have m1 := memN_spec hg
  have m2 := memN_spec hg'
  simp only [List.mem_cons, List.not_mem_nil, or_false] at m1 m2
  unfold sf at e
  rcases m1 with rfl | rfl | rfl <;> rcases m2 with rfl | rfl | rfl <;> simp at e ⊢
  · exact e
  · exact e
  · exact e
end Go.Proofs.Ytddkocidfhaofaa.AM
/- Elimination, as plain functions: what the steps on rows make. -/
namespace Go.Proofs.Ytddkocidfhaofaa.AM
open Go.Proofs.Ytddkocidfhaofaa.LA (S S_succ S_zero S_congr)
open Classical
set_option linter.unusedVariables false
set_option linter.unusedSimpArgs false
/-- The first number from i on, at most k further, that has p. -/
noncomputable def fnd (p : Nat → Prop) : Nat → Nat → Nat
  | 0, i => i
  | k + 1, i => if p i then i else fnd p k (i + 1)
theorem fnd_le (p : Nat → Prop) : ∀ k i, i ≤ fnd p k i ∧ fnd p k i ≤ i + k ∧ (∀ j, i ≤ j → j < fnd p k i → ¬ p j) ∧ (fnd p k i < i + k → p (fnd p k i))
  | 0, i => ⟨Nat.le_refl _, Nat.le_refl _, fun j h1 h2 => absurd h2 (by unfold fnd; omega), fun h => absurd h (by unfold fnd; omega)⟩
  | k + 1, i => by
    unfold fnd
    by_cases h : p i
    · rw [if_pos h]; exact ⟨Nat.le_refl _, by omega, fun j h1 h2 => by omega, fun _ => h⟩
    · rw [if_neg h]
      obtain ⟨h1, h2, h3, h4⟩ := fnd_le p k (i + 1)
      refine ⟨by omega, by omega, fun j h5 h6 => ?_, fun h5 => h4 (by omega)⟩
      by_cases e : j = i
      · subst e; exact h
      · exact h3 j (by omega) h6
structure ES where
  at' : Nat
  d : Rat
  π : Nat → Nat
  A : Nat → Nat → Rat
/-- Which rows are cleaned. -/
def tst (all : Bool) (at' i : Nat) : Prop := at' < i ∨ (all = true ∧ i < at')
/-- The rows up to k cleaned. -/
noncomputable def cln (A : Nat → Nat → Rat) (π : Nat → Nat) (all : Bool) (at' col m k : Nat) : Nat → Nat → Rat := fun r j =>
  if (∃ i, i < k ∧ tst all at' i ∧ r = π i) ∧ col ≤ j ∧ j < m then A r j - A r col / A (π at') col * A (π at') j else A r j
theorem tst_ne {all : Bool} {at' i : Nat} (h : tst all at' i) : i ≠ at' := by
  rcases h with h | h <;> omega
theorem cln_zero (A : Nat → Nat → Rat) (π : Nat → Nat) (all : Bool) (at' col m : Nat) : cln A π all at' col m 0 = A := by
  funext r j
  unfold cln
  rw [if_neg]
  rintro ⟨⟨i, h, _⟩, _⟩
  omega
theorem cln_skip {A : Nat → Nat → Rat} {π : Nat → Nat} {all : Bool} {at' col m k : Nat} (h : ¬ tst all at' k) : cln A π all at' col m k = cln A π all at' col m (k + 1) := by
  funext r j
  unfold cln
  have e : (∃ i, i < k ∧ tst all at' i ∧ r = π i) ↔ (∃ i, i < k + 1 ∧ tst all at' i ∧ r = π i) := by
    constructor
    · rintro ⟨i, h1, h2, h3⟩; exact ⟨i, by omega, h2, h3⟩
    · rintro ⟨i, h1, h2, h3⟩
      refine ⟨i, ?_, h2, h3⟩
      rcases Nat.lt_or_ge i k with h4 | h4
      · exact h4
      · obtain rfl : i = k := by omega
        exact absurd h2 h
  simp only [e]
theorem cln_row {A : Nat → Nat → Rat} {π : Nat → Nat} {all : Bool} {at' col m k n r : Nat} (hr : ∀ i, i < k → tst all at' i → r ≠ π i) (j : Nat) : cln A π all at' col m k r j = A r j := by
  unfold cln
  rw [if_neg]
  rintro ⟨⟨i, h1, h2, h3⟩, _⟩
  exact hr i h1 h2 h3
theorem cln_step {A : Nat → Nat → Rat} {π : Nat → Nat} {all : Bool} {at' col m k n : Nat} (hinj : ∀ i j, i < n → j < n → π i = π j → i = j) (ha : at' < n) (hk : k < n) (ht : tst all at' k) :
    clr (cln A π all at' col m k) (cln A π all at' col m k (π k) col / cln A π all at' col m k (π at') col) (π k) (π at') col m = cln A π all at' col m (k + 1) := by
  have h1 : ∀ j, cln A π all at' col m k (π k) j = A (π k) j := cln_row (n := n) fun i h1 h2 h3 => by
    have := hinj k i hk (by omega) h3
    omega
  have h2 : ∀ j, cln A π all at' col m k (π at') j = A (π at') j := cln_row (n := n) fun i h1 h2 h3 => by
    have := hinj at' i ha (by omega) h3
    exact tst_ne h2 this.symm
  funext r j
  unfold clr
  rw [h1, h1, h2, h2]
  by_cases e : r = π k
  · subst e
    by_cases c : col ≤ j ∧ j < m
    · rw [if_pos ⟨rfl, c⟩]
      unfold cln
      rw [if_pos ⟨⟨k, by omega, ht, rfl⟩, c⟩]
    · rw [if_neg (fun h => c h.2), h1]
      unfold cln
      rw [if_neg (fun h => c h.2)]
  · rw [if_neg (fun h => e h.1)]
    unfold cln
    have e2 : (∃ i, i < k ∧ tst all at' i ∧ r = π i) ↔ (∃ i, i < k + 1 ∧ tst all at' i ∧ r = π i) := by
      constructor
      · rintro ⟨i, h1, h2, h3⟩; exact ⟨i, by omega, h2, h3⟩
      · rintro ⟨i, h1, h2, h3⟩
        refine ⟨i, ?_, h2, h3⟩
        rcases Nat.lt_or_ge i k with h4 | h4
        · exact h4
        · obtain rfl : i = k := by omega
          exact absurd h3 e
    simp only [e2]
/-- One column. -/
noncomputable def stp (n m : Nat) (all : Bool) (s : ES) (col : Nat) : ES :=
  if fnd (fun i => s.A (s.π i) col ≠ 0) (n - s.at') s.at' < n then
    ⟨s.at' + 1, det1 s.d (fnd (fun i => s.A (s.π i) col ≠ 0) (n - s.at') s.at') s.at' * s.A (s.π (fnd (fun i => s.A (s.π i) col ≠ 0) (n - s.at') s.at')) col, swp s.π (fnd (fun i => s.A (s.π i) col ≠ 0) (n - s.at') s.at') s.at',
      cln s.A (swp s.π (fnd (fun i => s.A (s.π i) col ≠ 0) (n - s.at') s.at') s.at') all s.at' col m n⟩
  else s
noncomputable def stps (n m : Nat) (all : Bool) (A : Nat → Nat → Rat) : Nat → ES
  | 0 => ⟨0, 1, fun i => i, A⟩
  | c + 1 => stp n m all (stps n m all A c) c
/-- What holds of the rows at all times. -/
structure EOK (n c X : Nat) (s : ES) : Prop where
  le : s.at' ≤ c
  lt : ∀ i, i < n → s.π i < n
  inj : ∀ i j, i < n → j < n → s.π i = s.π j → i = j
  wd : Wt s.d X
  wA : ∀ i j, Wt (s.A i j) X
theorem swp_lt {π : Nat → Nat} {n i j : Nat} (h : ∀ i, i < n → π i < n) (hi : i < n) (hj : j < n) (k : Nat) (hk : k < n) : swp π i j k < n := by
  unfold swp updN
  split
  · exact h i hi
  · split
    · exact h j hj
    · exact h k hk
theorem swp_inj {π : Nat → Nat} {n i j : Nat} (h : ∀ i j, i < n → j < n → π i = π j → i = j) (hi : i < n) (hj : j < n) (a b : Nat) (ha : a < n) (hb : b < n) (e : swp π i j a = swp π i j b) : a = b := by
  unfold swp updN at e
  split at e <;> split at e <;> (try split at e) <;> (try split at e) <;> (first | omega | (have := h _ _ (by assumption) (by assumption) e; omega))
theorem det1_wt {d : Rat} {X i j : Nat} [h : Wt d X] : Wt (det1 d i j) X := by
  unfold det1; split
  · exact h
  · exact inferInstance
theorem cln_wt {A : Nat → Nat → Rat} {π : Nat → Nat} {all : Bool} {at' col m k X : Nat} [h : ∀ i j, Wt (A i j) X] (r j : Nat) : Wt (cln A π all at' col m k r j) (4 * X + 1) := by
  unfold cln
  split
  · exact (inferInstance : Wt (A r j - A r col / A (π at') col * A (π at') j) (X + (X + X + X) + 1)).mono (by omega)
  · exact (h r j).mono (by omega)
theorem stp_ok {n m c X : Nat} {all : Bool} {s : ES} (hX : 1 ≤ X) (h : EOK n c X s) : EOK n (c + 1) (5 * X) (stp n m all s c) := by
  have hA := h.wA
  have hd := h.wd
  unfold stp
  split
  · rename_i hi
    obtain ⟨h1, h2, _, _⟩ := fnd_le (fun i => s.A (s.π i) c ≠ 0) (n - s.at') s.at'
    have h3 := h.le
    refine ⟨by show s.at' + 1 ≤ c + 1; omega, swp_lt h.lt hi (by omega), swp_inj h.inj hi (by omega), ?_, fun i j => (cln_wt i j).mono (by omega)⟩
    have w1 : Wt (det1 s.d (fnd (fun i => s.A (s.π i) c ≠ 0) (n - s.at') s.at') s.at') X := det1_wt
    exact (inferInstance : Wt (det1 s.d (fnd (fun i => s.A (s.π i) c ≠ 0) (n - s.at') s.at') s.at' * s.A (s.π (fnd (fun i => s.A (s.π i) c ≠ 0) (n - s.at') s.at')) c) (X + X)).mono (by omega)
  · exact ⟨by have := h.le; omega, h.lt, h.inj, h.wd.mono (by omega), fun i j => (h.wA i j).mono (by omega)⟩
theorem stps_ok {n m K : Nat} {all : Bool} {A : Nat → Nat → Rat} [hA : ∀ i j, Wt (A i j) K] : ∀ c, EOK n c (5 ^ c * (K + 1)) (stps n m all A c)
  | 0 => ⟨Nat.le_refl _, fun i hi => hi, fun i j _ _ e => e, (inferInstance : Wt 1 1).mono (by omega), fun i j => (hA i j).mono (by omega)⟩
  | c + 1 => by
    have h := stp_ok (m := m) (all := all) (Nat.mul_pos (Nat.pow_pos (by decide)) (Nat.succ_pos K)) (stps_ok (n := n) (m := m) (all := all) (A := A) c)
    rw [show 5 ^ (c + 1) * (K + 1) = 5 * (5 ^ c * (K + 1)) by rw [Nat.pow_succ]; ac_rfl]
    exact h
end Go.Proofs.Ytddkocidfhaofaa.AM
/- What elimination tells: the determinant, the rank; what it leaves. -/
namespace Go.Proofs.Ytddkocidfhaofaa.AM
open Go.Proofs.Ytddkocidfhaofaa.LA (Mt S S_succ S_zero S_congr S_add S_mul S_mulr S_single S_null S_cut det det_congr det_swp det_addr det_low HasRank rank_swp rank_addr rank_congr addr upd upd_at upd_ne one inverse Eqn mul tr)
set_option linter.unusedVariables false
set_option linter.unusedSimpArgs false
/-- Rows exchanged, multiples of rows added to others: of n rows, m columns. -/
inductive RE (n m : Nat) : Mt → Mt → Rat → Prop where
  | refl {A B : Mt} (h : ∀ i j, i < n → j < m → A i j = B i j) : RE n m A B 1
  | swp {A B C : Mt} {σ : Rat} (a b : Nat) (ha : a < n) (hb : b < n) (hab : a ≠ b) (h : RE n m A B σ) (hC : ∀ i j, i < n → j < m → C i j = LA.swp B a b i j) : RE n m A C (-σ)
  | addr {A B C : Mt} {σ : Rat} (a b : Nat) (f : Rat) (ha : a < n) (hb : b < n) (hab : a ≠ b) (h : RE n m A B σ) (hC : ∀ i j, i < n → j < m → C i j = LA.addr B a b f i j) : RE n m A C σ
theorem RE.congr {n m : Nat} {A B C : Mt} {σ : Rat} (h : RE n m A B σ) (hc : ∀ i j, i < n → j < m → B i j = C i j) : RE n m A C σ := by
  cases h with
  | refl h => exact .refl fun i j hi hj => (h i j hi hj).trans (hc i j hi hj)
  | swp a b ha hb hab h hC => exact .swp a b ha hb hab h fun i j hi hj => (hc i j hi hj).symm.trans (hC i j hi hj)
  | addr a b f ha hb hab h hC => exact .addr a b f ha hb hab h fun i j hi hj => (hc i j hi hj).symm.trans (hC i j hi hj)
theorem RE.det {n m : Nat} {A B : Mt} {σ : Rat} (hnm : n ≤ m) (h : RE n m A B σ) : det n B = σ * det n A := by
  induction h with
  | refl h => rw [Rat.one_mul]; exact det_congr fun i j hi hj => (h i j hi (by omega)).symm
  | swp a b ha hb hab h hC ih => rw [det_congr (B := LA.swp _ a b) fun i j hi hj => hC i j hi (by omega), det_swp _ ha hb hab, ih, Rat.neg_mul]
  | addr a b f ha hb hab h hC ih => rw [det_congr (B := LA.addr _ a b f) fun i j hi hj => hC i j hi (by omega), det_addr _ ha hb hab, ih]
theorem RE.rank {n m : Nat} {A B : Mt} {σ : Rat} (hnm : n ≤ m) (h : RE n m A B σ) : ∀ {r : Nat}, HasRank n B r → HasRank n A r := by
  induction h with
  | refl h => exact fun k => rank_congr (fun i j hi hj => (h i j hi (by omega)).symm) k
  | swp a b ha hb hab h hC ih =>
    refine fun k => ih (rank_congr (fun i j hi hj => ?_) (rank_swp ha hb hab k))
    unfold LA.swp
    by_cases e1 : i = a
    · subst e1
      rw [if_pos rfl, hC b j hb (by omega)]
      unfold LA.swp
      rw [if_neg (Ne.symm hab), if_pos rfl]
    · rw [if_neg e1]
      by_cases e2 : i = b
      · subst e2
        rw [if_pos rfl, hC a j ha (by omega)]
        unfold LA.swp
        rw [if_pos rfl]
      · rw [if_neg e2, hC i j hi (by omega)]
        unfold LA.swp
        rw [if_neg e1, if_neg e2]
  | addr a b f ha hb hab h hC ih =>
    refine fun k => ih (rank_congr (fun i j hi hj => ?_) (rank_addr ha hb hab (-f) k))
    unfold LA.addr
    by_cases e1 : i = a
    · subst e1
      rw [upd_at, hC i j hi (by omega), hC b j hb (by omega)]
      unfold LA.addr
      rw [upd_at, upd_ne _ _ _ (Ne.symm hab)]
      grind
    · rw [upd_ne _ _ _ e1, hC i j hi (by omega)]
      unfold LA.addr
      rw [upd_ne _ _ _ e1]
/-- What all rows send to nought. -/
def Ker (n m : Nat) (A : Mt) (y : Nat → Rat) : Prop := ∀ r, r < n → S m (fun j => A r j * y j) = 0
theorem RE.ker {n m : Nat} {A B : Mt} {σ : Rat} (h : RE n m A B σ) {y : Nat → Rat} : Ker n m B y → Ker n m A y := by
  induction h with
  | refl h => intro k r hr; rw [S_congr fun j hj => by rw [h r j hr hj]]; exact k r hr
  | swp a b ha hb hab h hC ih =>
    rename_i B C σ
    intro k
    refine ih fun r hr => ?_
    have key : ∀ r r', r < n → r' < n → (∀ j, j < m → C r j = B r' j) → S m (fun j => B r' j * y j) = 0 := fun r r' h1 h2 h3 => by
      rw [S_congr (g := fun j => C r j * y j) fun j hj => by rw [h3 j hj]]; exact k r h1
    by_cases e1 : r = a
    · subst e1; exact key b r hb hr fun j hj => by rw [hC b j hb hj]; unfold LA.swp; rw [if_neg (Ne.symm hab), if_pos rfl]
    · by_cases e2 : r = b
      · subst e2; exact key a r ha hr fun j hj => by rw [hC a j ha hj]; unfold LA.swp; rw [if_pos rfl]
      · exact key r r hr hr fun j hj => by rw [hC r j hr hj]; unfold LA.swp; rw [if_neg e1, if_neg e2]
  | addr a b f ha hb hab h hC ih =>
    rename_i B C σ
    intro k
    refine ih fun r hr => ?_
    have kb : S m (fun j => B b j * y j) = 0 := by
      rw [S_congr (g := fun j => C b j * y j) fun j hj => by rw [hC b j hb hj]; unfold LA.addr; rw [upd_ne _ _ _ (Ne.symm hab)]]
      exact k b hb
    by_cases e1 : r = a
    · subst e1
      have k1 := k r hr
      rw [S_congr (g := fun j => B r j * y j + f * (B b j * y j)) fun j hj => by rw [hC r j hr hj]; unfold LA.addr; rw [upd_at]; grind, S_add, S_mul, kb] at k1
      grind
    · rw [S_congr (g := fun j => C r j * y j) fun j hj => by rw [hC r j hr hj]; unfold LA.addr; rw [upd_ne _ _ _ e1]]
      exact k r hr
theorem RE.sq {n m : Nat} {A B : Mt} {σ : Rat} (h : RE n m A B σ) : σ * σ = 1 := by
  induction h with
  | refl h => exact Rat.one_mul 1
  | swp a b ha hb hab h hC ih => rw [Rat.neg_mul, Rat.mul_neg, Rat.neg_neg]; exact ih
  | addr a b f ha hb hab h hC ih => exact ih
def prodP (f : Nat → Rat) : Nat → Rat
  | 0 => 1
  | k + 1 => prodP f k * f k
theorem prodP_congr {f g : Nat → Rat} : ∀ {k : Nat}, (∀ i, i < k → f i = g i) → prodP f k = prodP g k
  | 0, _ => rfl
  | k + 1, h => by unfold prodP; rw [prodP_congr fun i hi => h i (by omega), h k (Nat.lt_succ_self k)]
/-- The rows in their order. -/
def PR (s : ES) : Mt := fun r j => s.A (s.π r) j
/-- What holds behind c columns. -/
structure GI (n m c : Nat) (all : Bool) (A : Mt) (s : ES) (σ : Rat) (col : Nat → Nat) : Prop where
  re : RE n m A (PR s) σ
  d : s.d = σ * prodP (fun i => PR s i (col i)) s.at'
  low : ∀ r j, s.at' ≤ r → r < n → j < c → PR s r j = 0
  lt : ∀ i, i < s.at' → col i < c
  nz : ∀ i, i < s.at' → PR s i (col i) ≠ 0
  ahead : ∀ i, i < s.at' → ∀ j, j < col i → PR s i j = 0
  inc : ∀ i j, i < j → j < s.at' → col i < col j
  cl : all = true → ∀ i r, i < s.at' → r < n → r ≠ i → PR s r (col i) = 0
theorem cln_at {B : Nat → Nat → Rat} {π : Nat → Nat} {all : Bool} {a c m n r : Nat} (hinj : ∀ i j, i < n → j < n → π i = π j → i = j) (hr : r < n) (j : Nat) (hj : tst all a r ∧ c ≤ j ∧ j < m) : cln B π all a c m n (π r) j = B (π r) j - B (π r) c / B (π a) c * B (π a) j := by
  unfold cln; rw [if_pos ⟨⟨r, hr, hj.1, rfl⟩, hj.2⟩]
theorem cln_not {B : Nat → Nat → Rat} {π : Nat → Nat} {all : Bool} {a c m n r : Nat} (hinj : ∀ i j, i < n → j < n → π i = π j → i = j) (hr : r < n) (j : Nat) (hj : ¬ (tst all a r ∧ c ≤ j ∧ j < m)) : cln B π all a c m n (π r) j = B (π r) j := by
  unfold cln; rw [if_neg]
  rintro ⟨⟨i, h1, h2, h3⟩, h4⟩
  exact hj ⟨by rw [hinj r i hr h1 h3]; exact h2, h4⟩
/-- Rows from the one at a place on, cleaned, one by one. -/
theorem re_clean {n m c a : Nat} {all : Bool} {A Q : Mt} {σ : Rat} (h : RE n m A Q σ) (ha : a < n) (hz : ∀ j, j < c → Q a j = 0) (C : Mt)
    (h1 : ∀ r j, r < n → j < m → tst all a r → c ≤ j → C r j = Q r j - Q r c / Q a c * Q a j) (h2 : ∀ r j, r < n → j < m → ¬ (tst all a r ∧ c ≤ j) → C r j = Q r j) : RE n m A C σ := by
  have key : ∀ k, k ≤ n → RE n m A (fun r j => if r < k then C r j else Q r j) σ := by
    intro k
    induction k with
    | zero => intro _; exact h
    | succ k ih =>
      intro hk
      by_cases ht : tst all a k
      · refine .addr k a (-(Q k c / Q a c)) (by omega) ha (tst_ne ht) (ih (by omega)) fun i j hi hj => ?_
        unfold LA.addr
        have hCa : ∀ j, j < m → (if a < k then C a j else Q a j) = Q a j := fun j hj => by
          split
          · exact h2 a j ha hj fun e => tst_ne e.1 rfl
          · rfl
        by_cases e : i = k
        · subst e
          rw [upd_at]
          dsimp only
          rw [if_pos (Nat.lt_succ_self i), if_neg (Nat.lt_irrefl _), hCa j hj]
          by_cases hcj : c ≤ j
          · rw [h1 i j hi hj ht hcj]; grind
          · rw [h2 i j hi hj (fun e => hcj e.2), hz j (by omega)]; grind
        · rw [upd_ne _ _ _ e]
          by_cases e2 : i < k
          · rw [if_pos (by omega), if_pos e2]
          · rw [if_neg (by omega), if_neg e2]
      · refine (ih (by omega)).congr fun i j hi hj => ?_
        by_cases e : i = k
        · subst e; rw [if_neg (Nat.lt_irrefl _), if_pos (by omega), h2 i j hi hj (fun e => ht e.1)]
        · by_cases e2 : i < k
          · rw [if_pos e2, if_pos (by omega)]
          · rw [if_neg e2, if_neg (by omega)]
  exact (key n (Nat.le_refl n)).congr fun i j hi _ => if_pos hi
theorem det1_swp {d : Rat} {i a : Nat} : det1 d i a = (if i = a then 1 else -1) * d := by
  unfold det1
  split
  · rw [Rat.one_mul]
  · rw [Rat.neg_mul, Rat.one_mul]
theorem gi_step {n m c : Nat} {all : Bool} {A : Mt} {s : ES} {σ : Rat} {col : Nat → Nat} (hm : c < m) (hlt : ∀ i, i < n → s.π i < n) (hinj : ∀ i j, i < n → j < n → s.π i = s.π j → i = j) (h : GI n m c all A s σ col) :
    ∃ σ' col', GI n m (c + 1) all A (stp n m all s c) σ' col' := by
  obtain ⟨f1, f2, f3, f4⟩ := fnd_le (fun i => s.A (s.π i) c ≠ 0) (n - s.at') s.at'
  by_cases hfn : fnd (fun i => s.A (s.π i) c ≠ 0) (n - s.at') s.at' < n
  · have e : stp n m all s c = ⟨s.at' + 1, det1 s.d (fnd (fun i => s.A (s.π i) c ≠ 0) (n - s.at') s.at') s.at' * s.A (s.π (fnd (fun i => s.A (s.π i) c ≠ 0) (n - s.at') s.at')) c, swp s.π (fnd (fun i => s.A (s.π i) c ≠ 0) (n - s.at') s.at') s.at',
      cln s.A (swp s.π (fnd (fun i => s.A (s.π i) c ≠ 0) (n - s.at') s.at') s.at') all s.at' c m n⟩ := if_pos hfn
    rw [e]
    have hnz := f4 (by omega)
    clear e f2 f3 f4
    obtain ⟨a, d, π, B⟩ := s
    dsimp only at *
    generalize fnd (fun i => B (π i) c ≠ 0) (n - a) a = i0 at *
    have han : a < n := by omega
    have hinj' := swp_inj hinj hfn han
    have hP : ∀ r j, PR ⟨a, d, π, B⟩ r j = B (π r) j := fun _ _ => rfl
    -- the rows behind the exchange
    have hQa : ∀ j, B (swp π i0 a a) j = B (π i0) j := fun j => by rw [swp_at]
    have hQ : ∀ r, r ≠ a → ∃ r', (r' = if r = i0 then a else r) ∧ ∀ j, B (swp π i0 a r) j = B (π r') j := fun r hr => by
      refine ⟨_, rfl, fun j => ?_⟩
      unfold swp updN
      rw [if_neg hr]
      by_cases e : r = i0
      · rw [if_pos e, if_pos e]
      · rw [if_neg e, if_neg e]
    have hQi : ∀ r, r < a → ∀ j, B (swp π i0 a r) j = B (π r) j := fun r hr j => by
      obtain ⟨r', e, h2⟩ := hQ r (by omega)
      rw [if_neg (by omega)] at e
      rw [h2, e]
    have hQz : ∀ r j, a ≤ r → r < n → j < c → B (swp π i0 a r) j = 0 := fun r j h1 h2 h3 => by
      by_cases e : r = a
      · subst e; rw [hQa]; exact h.low i0 j f1 hfn h3
      · obtain ⟨r', e2, h4⟩ := hQ r e
        rw [h4]
        refine h.low r' j ?_ ?_ h3
        · show a ≤ r'; rw [e2]; split <;> omega
        · rw [e2]; split <;> omega
    have hre : RE n m A (fun r j => B (swp π i0 a r) j) ((if i0 = a then 1 else -1) * σ) := by
      by_cases e : i0 = a
      · rw [if_pos e, Rat.one_mul]
        exact h.re.congr fun i j _ _ => by rw [hP, e, swp_self]
      · rw [if_neg e, show (-1 : Rat) * σ = -σ by rw [Rat.neg_mul, Rat.one_mul]]
        refine .swp i0 a hfn han e h.re fun i j hi hj => ?_
        unfold LA.swp
        show B (swp π i0 a i) j = if i = i0 then B (π a) j else if i = a then B (π i0) j else B (π i) j
        unfold swp updN
        by_cases e1 : i = a
        · rw [if_pos e1]
          by_cases e2 : i = i0
          · exact absurd (e2.symm.trans e1) e
          · rw [if_neg e2, if_pos e1]
        · rw [if_neg e1]
          by_cases e2 : i = i0
          · rw [if_pos e2, if_pos e2]
          · rw [if_neg e2, if_neg e2, if_neg e1]
    have hpv : B (swp π i0 a a) c ≠ 0 := by rw [hQa]; exact hnz
    have hC1 : ∀ r j, r < n → j < m → tst all a r → c ≤ j → cln B (swp π i0 a) all a c m n (swp π i0 a r) j = B (swp π i0 a r) j - B (swp π i0 a r) c / B (swp π i0 a a) c * B (swp π i0 a a) j := fun r j hr hj ht hcj => cln_at hinj' hr j ⟨ht, hcj, hj⟩
    have hC2 : ∀ r j, r < n → ¬ (tst all a r ∧ c ≤ j) → cln B (swp π i0 a) all a c m n (swp π i0 a r) j = B (swp π i0 a r) j := fun r j hr hn => cln_not hinj' hr j fun e => hn ⟨e.1, e.2.1⟩
    have hcl0 : ∀ r, r < n → tst all a r → cln B (swp π i0 a) all a c m n (swp π i0 a r) c = 0 := fun r hr ht => by
      rw [hC1 r c hr hm ht (Nat.le_refl c), Rat.div_mul_cancel hpv]; grind
    have hPn : ∀ r j, PR ⟨a + 1, det1 d i0 a * B (π i0) c, swp π i0 a, cln B (swp π i0 a) all a c m n⟩ r j = cln B (swp π i0 a) all a c m n (swp π i0 a r) j := fun _ _ => rfl
    have hsame : ∀ i, i < a → ∀ j, j < c → cln B (swp π i0 a) all a c m n (swp π i0 a i) j = B (π i) j := fun i hi j hj => by
      rw [hC2 i j (by omega) (fun e => by omega), hQi i hi]
    have hrow : ∀ j, cln B (swp π i0 a) all a c m n (swp π i0 a a) j = B (π i0) j := fun j => by
      rw [hC2 a j han (fun e => tst_ne e.1 rfl), hQa]
    refine ⟨(if i0 = a then 1 else -1) * σ, fun i => if i = a then c else col i, ?_, ?_, ?_, ?_, ?_, ?_, ?_, ?_⟩
    · exact (re_clean hre han (fun j hj => hQz a j (Nat.le_refl a) han hj) (fun r j => cln B (swp π i0 a) all a c m n (swp π i0 a r) j) hC1 (fun r j hr _ hn => hC2 r j hr hn)).congr fun _ _ _ _ => rfl
    · show det1 d i0 a * B (π i0) c = (if i0 = a then 1 else -1) * σ * (prodP (fun i => cln B (swp π i0 a) all a c m n (swp π i0 a i) (if i = a then c else col i)) a * cln B (swp π i0 a) all a c m n (swp π i0 a a) (if a = a then c else col a))
      have hd : d = σ * prodP (fun i => B (π i) (col i)) a := h.d
      have e1 : prodP (fun i => cln B (swp π i0 a) all a c m n (swp π i0 a i) (if i = a then c else col i)) a = prodP (fun i => B (π i) (col i)) a := prodP_congr fun i hi => by
        rw [if_neg (show ¬ i = a by omega)]; exact hsame i hi _ (h.lt i hi)
      rw [e1, if_pos rfl, hrow, det1_swp, hd]
      grind
    · intro r j h1 h2 h3
      have h1 : a + 1 ≤ r := h1
      rw [hPn]
      by_cases e : j = c
      · subst e; exact hcl0 r h2 (.inl (by omega))
      · rw [hC2 r j h2 (fun e => by omega)]; exact hQz r j (by omega) h2 (by omega)
    · intro i hi
      have hi : i < a + 1 := hi
      split
      · omega
      · have := h.lt i (show i < a by omega); omega
    · intro i hi
      have hi : i < a + 1 := hi
      rw [hPn]
      by_cases e : i = a
      · subst e; rw [if_pos rfl, hrow]; exact hnz
      · rw [if_neg e, hsame i (by omega) _ (h.lt i (show i < a by omega))]; exact h.nz i (show i < a by omega)
    · intro i hi j hj
      have hi : i < a + 1 := hi
      rw [hPn]
      by_cases e : i = a
      · subst e; rw [if_pos rfl] at hj; rw [hrow]; exact h.low i0 j f1 hfn hj
      · rw [if_neg e] at hj
        have hia : i < a := by omega
        rw [hsame i hia j (by have := h.lt i hia; omega)]; exact h.ahead i hia j hj
    · intro i j hij hj
      have hj : j < a + 1 := hj
      rw [if_neg (show ¬ i = a by omega)]
      split
      · exact h.lt i (show i < a by omega)
      · exact h.inc i j hij (show j < a by omega)
    · intro hall i r hi hr hri
      have hi : i < a + 1 := hi
      rw [hPn]
      by_cases e : i = a
      · subst e
        rw [if_pos rfl]
        exact hcl0 r hr (by
          rcases Nat.lt_or_ge i r with h1 | h1
          · exact .inl h1
          · exact .inr ⟨hall, by omega⟩)
      · have hia : i < a := by omega
        have hci := h.lt i hia
        rw [if_neg e, hC2 r _ hr (fun e => by omega)]
        by_cases e2 : r < a
        · rw [hQi r e2]; exact h.cl hall i r hia hr hri
        · exact hQz r _ (by omega) hr hci
  · have e : stp n m all s c = s := if_neg hfn
    rw [e]
    refine ⟨σ, col, h.re, h.d, fun r j h1 h2 h3 => ?_, fun i hi => Nat.lt_succ_of_lt (h.lt i hi), h.nz, h.ahead, h.inc, h.cl⟩
    by_cases e : j = c
    · subst e; exact Classical.byContradiction fun hne => f3 r h1 (by omega) hne
    · exact h.low r j h1 h2 (by omega)
theorem stps_perm {n m : Nat} {all : Bool} {A : Nat → Nat → Rat} : ∀ c, (stps n m all A c).at' ≤ c ∧ (∀ i, i < n → (stps n m all A c).π i < n) ∧ ∀ i j, i < n → j < n → (stps n m all A c).π i = (stps n m all A c).π j → i = j
  | 0 => ⟨Nat.le_refl _, fun i hi => hi, fun i j _ _ e => e⟩
  | c + 1 => by
    obtain ⟨h1, h2, h3⟩ := stps_perm (n := n) (m := m) (all := all) (A := A) c
    show (stp n m all (stps n m all A c) c).at' ≤ c + 1 ∧ (∀ i, i < n → (stp n m all (stps n m all A c) c).π i < n) ∧ ∀ i j, i < n → j < n → (stp n m all (stps n m all A c) c).π i = (stp n m all (stps n m all A c) c).π j → i = j
    generalize stps n m all A c = s at *
    unfold stp
    split
    · rename_i hi
      have h4 := (fnd_le (fun i => s.A (s.π i) c ≠ 0) (n - s.at') s.at').1
      exact ⟨by show s.at' + 1 ≤ c + 1; omega, swp_lt h2 hi (by omega), swp_inj h3 hi (by omega)⟩
    · exact ⟨by omega, h2, h3⟩
theorem stps_gi {n m : Nat} {all : Bool} {A : Mt} : ∀ c, c ≤ m → ∃ σ col, GI n m c all A (stps n m all A c) σ col
  | 0, _ => ⟨1, fun _ => 0, .refl fun _ _ _ _ => rfl, (Rat.one_mul 1).symm, fun r j _ _ h => absurd h (Nat.not_lt_zero _), fun i h => absurd h (Nat.not_lt_zero _), fun i h => absurd h (Nat.not_lt_zero _), fun i h => absurd h (Nat.not_lt_zero _), fun i j _ h => absurd h (Nat.not_lt_zero _), fun _ i r h => absurd h (Nat.not_lt_zero _)⟩
  | c + 1, hc => by
    obtain ⟨σ, col, h⟩ := stps_gi (n := n) (m := m) (all := all) (A := A) c (by omega)
    obtain ⟨_, h2, h3⟩ := stps_perm (n := n) (m := m) (all := all) (A := A) c
    exact gi_step (by omega) h2 h3 h
theorem GI.le {n m c : Nat} {all : Bool} {A : Mt} {s : ES} {σ : Rat} {col : Nat → Nat} (h : GI n m c all A s σ col) : ∀ i, i < s.at' → i ≤ col i
  | 0, _ => Nat.zero_le _
  | i + 1, hi => by
    have h1 := h.le i (by omega)
    have h2 := h.inc i (i + 1) (by omega) hi
    omega
/-- Where all columns have a pivot each stands in its row. -/
theorem GI.full {n m : Nat} {all : Bool} {A : Mt} {s : ES} {σ : Rat} {col : Nat → Nat} (h : GI n m n all A s σ col) (hf : s.at' = n) : ∀ i, i < n → col i = i := by
  have hge : ∀ k i, i + k + 1 = n → col i ≤ i := by
    intro k
    induction k with
    | zero => intro i hi; have := h.lt i (by omega); omega
    | succ k ih =>
      intro i hi
      have h1 := ih (i + 1) (by omega)
      have h2 := h.inc i (i + 1) (by omega) (by omega)
      omega
  intro i hi
  have h1 := h.le i (by omega)
  have h2 := hge (n - 1 - i) i (by omega)
  omega
theorem prodP_fold (f : Nat → Rat) (n : Nat) : (List.range n).foldl (fun p i => p * f i) 1 = prodP f n := by
  induction n with
  | zero => rfl
  | succ n ih => rw [List.range_succ, List.foldl_append, ih]; rfl
theorem fin_det {n m : Nat} {all : Bool} {A : Mt} (hnm : n ≤ m) : (if (stps n m all A n).at' < n then 0 else (stps n m all A n).d) = det n A := by
  obtain ⟨σ, col, h⟩ := stps_gi (n := n) (m := m) (all := all) (A := A) n hnm
  obtain ⟨hle, _, _⟩ := stps_perm (n := n) (m := m) (all := all) (A := A) n
  generalize stps n m all A n = s at *
  have h1 := h.re.det hnm
  have h2 := h.re.sq
  split
  · rename_i hlt
    have h3 : det n (PR s) = 0 := LA.det_zero_row _ (a := n - 1) (by omega) fun j hj => h.low (n - 1) j (by omega) (by omega) hj
    rw [h3] at h1
    have : det n A = σ * (σ * det n A) := by rw [← Rat.mul_assoc, h2, Rat.one_mul]
    rw [this, ← h1, Rat.mul_zero]
  · have hf : s.at' = n := by omega
    have hcol := h.full hf
    have h3 : det n (PR s) = prodP (fun i => PR s i i) n := by
      rw [det_low n _ (fun i j hi hj => h.ahead i (by omega) j (by rw [hcol i hi]; exact hj)), prodP_fold]
    have h4 := h.d
    rw [hf, prodP_congr (g := fun i => PR s i i) (fun i hi => by rw [hcol i hi]), ← h3, h1] at h4
    rw [h4, ← Rat.mul_assoc, h2, Rat.one_mul]
theorem fin_rank {n m : Nat} {all : Bool} {A : Mt} (hnm : n ≤ m) : HasRank n A (stps n m all A n).at' := by
  obtain ⟨σ, col, h⟩ := stps_gi (n := n) (m := m) (all := all) (A := A) n hnm
  obtain ⟨hle, _, _⟩ := stps_perm (n := n) (m := m) (all := all) (A := A) n
  generalize stps n m all A n = s at *
  refine h.re.rank hnm ⟨⟨one, PR s, fun i j hi hj => ?_⟩, ?_⟩
  · by_cases e : i < s.at'
    · rw [S_single e (fun k hk hne => by unfold one; rw [if_neg (Ne.symm hne), Rat.zero_mul])]
      unfold one; rw [if_pos rfl, Rat.one_mul]
    · rw [h.low i j (by omega) hi (by omega), S_null fun k hk => by unfold one; rw [if_neg (by omega), Rat.zero_mul]]
  · -- the pivots' columns have a right inverse
    have hd : det s.at' (tr fun i k => PR s i (col k)) ≠ 0 := by
      rw [LA.det_tr, det_low s.at' _ (fun i j hi hj => h.ahead i hi (col j) (h.inc j i hj hi))]
      rw [prodP_fold]
      have : ∀ k, k ≤ s.at' → prodP (fun i => PR s i (col i)) k ≠ 0 := by
        intro k
        induction k with
        | zero => intro _; show (1 : Rat) ≠ 0; decide
        | succ k ih => intro hk; exact fun e => (Rat.mul_eq_zero.1 e).elim (ih (by omega)) (h.nz k (by omega))
      exact this s.at' (Nat.le_refl _)
    obtain ⟨X, hX⟩ := inverse _ hd
    refine ⟨one, fun j b => S s.at' fun k => if j = col k then X b k else 0, fun a b ha hb => ?_⟩
    have e1 : S n (fun i => S n (fun j => one a i * PR s i j * S s.at' fun k => if j = col k then X b k else 0)) = S n (fun j => PR s a j * S s.at' fun k => if j = col k then X b k else 0) := by
      rw [S_single (k := a) (by omega) (fun i _ hne => S_null fun j _ => by unfold one; rw [if_neg (Ne.symm hne), Rat.zero_mul, Rat.zero_mul])]
      exact S_congr fun j _ => by unfold one; rw [if_pos rfl, Rat.one_mul]
    rw [e1]
    have e2 : S n (fun j => PR s a j * S s.at' fun k => if j = col k then X b k else 0) = S s.at' (fun k => S n fun j => PR s a j * (if j = col k then X b k else 0)) := by
      rw [← LA.S_swap]
      exact S_congr fun j _ => (S_mul _ _ _).symm
    rw [e2]
    have e3 : S s.at' (fun k => S n fun j => PR s a j * (if j = col k then X b k else 0)) = S s.at' (fun k => X b k * PR s a (col k)) := S_congr fun k hk => by
      rw [S_single (k := col k) (h.lt k hk) (fun j _ hne => by rw [if_neg hne, Rat.mul_zero]), if_pos rfl, Rat.mul_comm]
    rw [e3, LA.one_symm]
    exact hX b a hb ha
end Go.Proofs.Ytddkocidfhaofaa.AM

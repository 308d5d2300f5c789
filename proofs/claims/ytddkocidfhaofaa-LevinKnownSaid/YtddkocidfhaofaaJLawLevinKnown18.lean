/- Joined texts, 18: LvD DnA DnB DnC DnD DnE DnF DnG PElim PGauss LawC DnH DnI LawA LawD PRing LawE LawH PBt PBits LawI LawJ PDet PLev MkD LvE AmNf Wthn. -/
import Derived.Test.YtddkocidfhaofaaJLawLevinKnown17
import Derived.Test.YtddkocidfhaofaaJLawLevinKnown16
import Derived.Test.YtddkocidfhaofaaJLawLevinKnown13
import Derived.Test.YtddkocidfhaofaaJLawLevinKnown12
set_option linter.unusedVariables false
set_option linter.unusedSimpArgs false
/- Package levin: systems. -/
namespace Go.Proofs.Ytddkocidfhaofaa.AM
open Go Go.RowKit Go.Proofs.Ytddkocidfhaofaa.PN Go.Proofs.Ytddkocidfhaofaa.V
open Go.Proofs.Ytddkocidfhaofaa.LA (S S_succ S_zero S_congr longer later)
set_option linter.unusedVariables false
set_option linter.unusedSimpArgs false
set_option maxRecDepth 8000
set_option maxHeartbeats 8000000
def lvs (F : Nat → Nat → Rat) (b : Nat → Rat) : Nat → Nat → Rat
  | 0 => fun _ => 0
  | k + 1 => lvm F k (lvs F b k) b
def lvX : Nat → Nat
  | 0 => 1
  | k + 1 => lvX k + (100 + (k * (4 + lvX k + 1) + 1) + 1) + lvW (k + 1) + 1
theorem lvX_le {k : Nat} (h : k ≤ 8) : lvX k ≤ 1000000000 ∧ (k ≤ 7 → lvX k ≤ 100000000) := by
  have h : k = 0 ∨ k = 1 ∨ k = 2 ∨ k = 3 ∨ k = 4 ∨ k = 5 ∨ k = 6 ∨ k = 7 ∨ k = 8 := by omega
  rcases h with rfl | rfl | rfl | rfl | rfl | rfl | rfl | rfl | rfl <;> decide
theorem lvs_wt0 {F : Nat → Nat → Rat} {n : Nat} {b : Nat → Rat} (hF : ∀ i j, i < n → j < n → wt (F i j) ≤ 4) (hb : ∀ i, i < n → wt (b i) ≤ 100) : ∀ k, k ≤ n → ∀ i, i < k → wt (lvs F b k i) ≤ lvX k := by
  intro k
  induction k with
  | zero => intro _ i hi; exact absurd hi (Nat.not_lt_zero _)
  | succ k ih =>
    intro hk i hi
    have ih := ih (by omega)
    have hp : 1 ≤ lvX k := by
      cases k with
      | zero => exact Nat.le_refl _
      | succ k => unfold lvX; omega
    have h1 := longer_wt ih hp i
    have h2 : wt (S k fun j => F k j * lvs F b k j) ≤ k * (4 + lvX k + 1) + 1 := wt_sum (K := 4 + lvX k) fun u hu => by
      have h1 := wt_mul (F k u) (lvs F b k u); have h2 := hF k u (by omega) (by omega); have h3 := ih u hu
      omega
    have h3 := hb k (by omega)
    have h4 := wt_sub (b k) (S k fun j => F k j * lvs F b k j)
    have h5 := (lv_wt hF (k + 1) hk i hi).2
    have h6 := wt_mul (-(b k - S k fun j => F k j * lvs F b k j)) (lvl F (k + 1) i)
    rw [wt_neg] at h6
    have h7 := wt_sub (longer k (lvs F b k) i) (-(b k - S k fun j => F k j * lvs F b k j) * lvl F (k + 1) i)
    show wt (longer k (lvs F b k) i - -(b k - S k fun j => F k j * lvs F b k j) * lvl F (k + 1) i) ≤ lvX k + (100 + (k * (4 + lvX k + 1) + 1) + 1) + lvW (k + 1) + 1
    omega
theorem lvs_wt {F : Nat → Nat → Rat} {n : Nat} {b : Nat → Rat} (hF : ∀ i j, i < n → j < n → wt (F i j) ≤ 4) (hn : n ≤ 8) (hb : ∀ i, i < n → wt (b i) ≤ 100) : ∀ k, k < n → ∀ i, i < k → wt (lvs F b k i) ≤ 100000000 := fun k hk i hi =>
  Nat.le_trans (lvs_wt0 hF hb k (by omega) i hi) ((lvX_le (by omega)).2 (by omega))
theorem toe_wt {g : GD} (h : g.OK) (hk : g.k = 1) : ∀ i j, i < g.n → j < g.n → wt (gent g i j) ≤ 4 := fun i j hi hj => by
  obtain ⟨m1, _⟩ := ok_lens h
  have := h.sm.A (i + g.n - 1 - j) (by rw [m1 (.inl hk)]; omega)
  unfold gent; rw [hk]; exact this
theorem lv_solve {g : GD} {b : Nat → Rat} (h : g.OK) (hk : g.k = 1) (hb : ∀ i, i < g.n → wt (b i) ≤ 100) (hd : ∀ k, k < g.n → lvd (gent g) k ≠ 0) : Has Try.prog 12 [g.v, .row false g.n fun i => .q (b i)] (.tup3 (.row true g.n fun i => .q (lvs (gent g) b g.n i)) (.i 0) (.i 0)) := by
  have n8 := h.n8; have n1 := h.n1
  have hF := toe_wt h hk
  have hX := lvs_wt (b := b) hF n8 hb
  refine has_of Try.func12 (by kernel_rfl) rfl Try.ntmps12 Try.results12 rfl rfl rfl ?_
  refine run0 ?_
  ((with_reducible apply st_callH); exact rfl; exact rfl; exact rfl; exact (lv_of' h hk); (first | exact True.intro | exact ⟨rfl, rfl, rfl, True.intro⟩); exact rfl; exact rfl; exact rfl; exact rfl; (focus (repeat (first | exact True.intro | refine ⟨(by first | exact True.intro | rfl | exact ok_none (closed_ok rfl)), ?_⟩))); (first | exact True.intro | exact okf_WH | exact okf_pf (by exact True.intro) (by exact True.intro)))
  refine run0 ?_
  refine awp_no rfl rfl ?_
  refine run0 ?_
  refine awp_no rfl (decide_eq_false fun e => e rfl) ?_
  refine run0 ?_
  refine awp_loop (fun m' s => ∃ k, k ≤ g.n ∧ m' = g.n - k ∧ s = stl [(1, .row false g.n fun i => .q (b i)), (4, .own 63 0), (8, .bnd 27 (.ptr 60 0 0)), (9, .bnd 28 (.ptr 60 0 0)), (31, .i g.n), (32, .i (k : Int))] ((63, (1, fun _ => .rats k fun i => .q (lvs (gent g) b k i))) :: PFk g.n (gent g) k)) g.n _ ((imp_nil 4 63 (.rats 0 fun i => .q (lvs (gent g) b 0 i)) rfl rfl (by exact rfl)).trans (imp_id ?_ ?_)) ⟨0, Nat.zero_le _, rfl, rfl⟩ ?_
  · exact eA
  · exact allh rfl (by decide) (blen rfl fun _ _ => rfl) True.intro (allh rfl (by decide) (pf_le (Le.eq rfl rfl) Le.nilrow Le.nilrow) (fun i _ => prF_ok (by exact True.intro) (by exact True.intro) i) (allz (allz True.intro)))
  rintro m' s ⟨k, hk', rfl, rfl⟩
  refine run0 ?_
  refine awp_if rfl (fun h1 => ?_) (fun h1 => ?_)
  · have h1 : k < g.n := by omega
    skip
    have hkK : k < g.n := by omega
    refine run0 ?_
    ((with_reducible apply st_callH); exact rfl; exact rfl; exact rfl; exact (lv_next hF n8 h1 (hd k hkK)); (first | exact True.intro | exact ⟨rfl, rfl, rfl, True.intro⟩); exact rfl; exact rfl; exact rfl; exact rfl; (focus (repeat (first | exact True.intro | refine ⟨(by first | exact True.intro | rfl | exact ok_none (closed_ok rfl)), ?_⟩))); (first | exact True.intro | exact okf_WH | exact okf_pf (by exact True.intro) (by exact True.intro)))
    refine run0 ?_
    refine awp_no rfl rfl ?_
    repeat(first|(with_reducible first|refine awp_seq ?_|refine awp_block ?_|refine awp_skip ?_|refine awp_exit ?_|refine awp_ret ?_|refine q_then ?_|refine q_block ?_|refine q_then_exit ?_|refine q_then_ret ?_|refine q_block_exit ?_|refine q_block_ret ?_|refine q_loop_exit ?_|refine q_loop_ret ?_)|((with_reducible refine q_block_other ?_ ?_);exact rfl))
    refine awp_imp ((imp_rowv 4 (fun i => .q (lvs (gent g) b k i)) rfl rfl rfl (fun i hi => ?_)).trans (imp_id (e := [(1, .row false g.n fun i => .q (b i)), (4, .row true k fun i => .q (lvs (gent g) b k i)), (8, .bnd 27 (.ptr 60 0 0)), (9, .bnd 28 (.ptr 60 0 0)), (31, .i g.n), (32, .i (k : Int))]) (h := PFk g.n (gent g) (k + 1)) ?_ ?_)) ?_
    · rfl
    · exact eA
    · exact allh rfl (by decide) (pf_le (Le.eq rfl rfl) (Le.eq rfl rfl) (Le.eq rfl rfl)) (fun i _ => prF_ok (by exact True.intro) (by exact True.intro) i) (allz (allz True.intro))
    refine run0 ?_
    ((with_reducible apply st_callH); exact rfl; exact rfl; exact rfl; exact (lv_more hF n8 h1 (fun i hi => hX k (by omega) i hi) hb); (first | exact True.intro | exact ⟨rfl, rfl, rfl, True.intro⟩); exact rfl; exact rfl; exact rfl; exact rfl; (focus (repeat (first | exact True.intro | refine ⟨(by first | exact True.intro | rfl | exact ok_none (closed_ok rfl)), ?_⟩))); (first | exact True.intro | exact okf_WH | exact okf_pf (by exact True.intro) (by exact True.intro)))
    refine run0 ?_
    refine q_loop ?_ (imp_id ?_ ?_) ⟨k + 1, ?_, rfl, rfl⟩
    · omega
    · exact eA
    · exact allh rfl (by decide) (blen rfl fun _ _ => rfl) True.intro (allh rfl (by decide) (pf_le (Le.eq rfl rfl) (Le.eq rfl rfl) (Le.eq rfl rfl)) (fun i _ => prF_ok (by exact True.intro) (by exact True.intro) i) (allz (allz True.intro)))
    · omega
  · obtain ek : k = g.n := by omega
    subst ek
    refine run0 ?_
    exact ⟨.inr rfl, _, imp_rowv 4 (fun i => .q (lvs (gent g) b g.n i)) rfl rfl rfl (fun _ _ => rfl), .three (.tmp rfl) (.tmp rfl) (.tmp rfl)⟩
theorem lv_solve_break {g : GD} {b : Nat → Rat} (h : g.OK) (hk : g.k = 1) (hb : ∀ i, i < g.n → wt (b i) ≤ 100) {K : Nat} (hK : K < g.n) (hd : ∀ k, k < K → lvd (gent g) k ≠ 0) (hz : lvd (gent g) K = 0) : Has Try.prog 12 [g.v, .row false g.n fun i => .q (b i)] (.tup3 (.v (.slice none 0 0)) (.i ((K + 1 : Nat) : Int)) (.i 8)) := by
  have n8 := h.n8; have n1 := h.n1
  have hF := toe_wt h hk
  have hX := lvs_wt (b := b) hF n8 hb
  refine has_of Try.func12 (by kernel_rfl) rfl Try.ntmps12 Try.results12 rfl rfl rfl ?_
  refine run0 ?_
  ((with_reducible apply st_callH); exact rfl; exact rfl; exact rfl; exact (lv_of' h hk); (first | exact True.intro | exact ⟨rfl, rfl, rfl, True.intro⟩); exact rfl; exact rfl; exact rfl; exact rfl; (focus (repeat (first | exact True.intro | refine ⟨(by first | exact True.intro | rfl | exact ok_none (closed_ok rfl)), ?_⟩))); (first | exact True.intro | exact okf_WH | exact okf_pf (by exact True.intro) (by exact True.intro)))
  refine run0 ?_
  refine awp_no rfl rfl ?_
  refine run0 ?_
  refine awp_no rfl (decide_eq_false fun e => e rfl) ?_
  refine run0 ?_
  refine awp_loop (fun m' s => ∃ k, k ≤ K ∧ m' = g.n - k ∧ s = stl [(1, .row false g.n fun i => .q (b i)), (4, .own 63 0), (8, .bnd 27 (.ptr 60 0 0)), (9, .bnd 28 (.ptr 60 0 0)), (31, .i g.n), (32, .i (k : Int))] ((63, (1, fun _ => .rats k fun i => .q (lvs (gent g) b k i))) :: PFk g.n (gent g) k)) g.n _ ((imp_nil 4 63 (.rats 0 fun i => .q (lvs (gent g) b 0 i)) rfl rfl (by exact rfl)).trans (imp_id ?_ ?_)) ⟨0, Nat.zero_le _, rfl, rfl⟩ ?_
  · exact eA
  · exact allh rfl (by decide) (blen rfl fun _ _ => rfl) True.intro (allh rfl (by decide) (pf_le (Le.eq rfl rfl) Le.nilrow Le.nilrow) (fun i _ => prF_ok (by exact True.intro) (by exact True.intro) i) (allz (allz True.intro)))
  rintro m' s ⟨k, hk', rfl, rfl⟩
  refine run0 ?_
  refine awp_if rfl (fun h1 => ?_) (fun h1 => ?_)
  · have h1 : k < g.n := by omega
    by_cases hkk : k = K
    · subst hkk
      obtain ⟨x, y, H⟩ := lv_next_no hF n8 h1 hz
      refine run0 ?_
      ((with_reducible apply st_callH); exact rfl; exact rfl; exact rfl; exact (H); (first | exact True.intro | exact ⟨rfl, rfl, rfl, True.intro⟩); exact rfl; exact rfl; exact rfl; exact rfl; (focus (repeat (first | exact True.intro | refine ⟨(by first | exact True.intro | rfl | exact ok_none (closed_ok rfl)), ?_⟩))); (first | exact True.intro | exact okf_WH | exact okf_pf (by exact True.intro) (by exact True.intro)))
      refine run0 ?_
      refine awp_yes rfl rfl ?_
      refine run0 ?_
      exact ⟨.inr rfl, _, Imp.refl _, .three (.tmp rfl) (.tmp rfl) (.tmp rfl)⟩
    have hkK : k < K := by omega
    refine run0 ?_
    ((with_reducible apply st_callH); exact rfl; exact rfl; exact rfl; exact (lv_next hF n8 h1 (hd k hkK)); (first | exact True.intro | exact ⟨rfl, rfl, rfl, True.intro⟩); exact rfl; exact rfl; exact rfl; exact rfl; (focus (repeat (first | exact True.intro | refine ⟨(by first | exact True.intro | rfl | exact ok_none (closed_ok rfl)), ?_⟩))); (first | exact True.intro | exact okf_WH | exact okf_pf (by exact True.intro) (by exact True.intro)))
    refine run0 ?_
    refine awp_no rfl rfl ?_
    repeat(first|(with_reducible first|refine awp_seq ?_|refine awp_block ?_|refine awp_skip ?_|refine awp_exit ?_|refine awp_ret ?_|refine q_then ?_|refine q_block ?_|refine q_then_exit ?_|refine q_then_ret ?_|refine q_block_exit ?_|refine q_block_ret ?_|refine q_loop_exit ?_|refine q_loop_ret ?_)|((with_reducible refine q_block_other ?_ ?_);exact rfl))
    refine awp_imp ((imp_rowv 4 (fun i => .q (lvs (gent g) b k i)) rfl rfl rfl (fun i hi => ?_)).trans (imp_id (e := [(1, .row false g.n fun i => .q (b i)), (4, .row true k fun i => .q (lvs (gent g) b k i)), (8, .bnd 27 (.ptr 60 0 0)), (9, .bnd 28 (.ptr 60 0 0)), (31, .i g.n), (32, .i (k : Int))]) (h := PFk g.n (gent g) (k + 1)) ?_ ?_)) ?_
    · rfl
    · exact eA
    · exact allh rfl (by decide) (pf_le (Le.eq rfl rfl) (Le.eq rfl rfl) (Le.eq rfl rfl)) (fun i _ => prF_ok (by exact True.intro) (by exact True.intro) i) (allz (allz True.intro))
    refine run0 ?_
    ((with_reducible apply st_callH); exact rfl; exact rfl; exact rfl; exact (lv_more hF n8 h1 (fun i hi => hX k (by omega) i hi) hb); (first | exact True.intro | exact ⟨rfl, rfl, rfl, True.intro⟩); exact rfl; exact rfl; exact rfl; exact rfl; (focus (repeat (first | exact True.intro | refine ⟨(by first | exact True.intro | rfl | exact ok_none (closed_ok rfl)), ?_⟩))); (first | exact True.intro | exact okf_WH | exact okf_pf (by exact True.intro) (by exact True.intro)))
    refine run0 ?_
    refine q_loop ?_ (imp_id ?_ ?_) ⟨k + 1, ?_, rfl, rfl⟩
    · omega
    · exact eA
    · exact allh rfl (by decide) (blen rfl fun _ _ => rfl) True.intro (allh rfl (by decide) (pf_le (Le.eq rfl rfl) (Le.eq rfl rfl) (Le.eq rfl rfl)) (fun i _ => prF_ok (by exact True.intro) (by exact True.intro) i) (allz (allz True.intro)))
    · omega
  · omega
end Go.Proofs.Ytddkocidfhaofaa.AM
/- Dense matrices: walks: zero, one, dot. -/
namespace Go.Proofs.Ytddkocidfhaofaa.AM
open Go Go.RowKit Go.Proofs.Ytddkocidfhaofaa.PN Go.Proofs.Ytddkocidfhaofaa.V
open Go.Proofs.Ytddkocidfhaofaa.LA (S S_succ S_zero S_congr)
set_option linter.unusedVariables false
set_option linter.unusedSimpArgs false
end Go.Proofs.Ytddkocidfhaofaa.AM
/- Dense matrices: walks: right rows, square matrices, products with vectors. -/
namespace Go.Proofs.Ytddkocidfhaofaa.AM
open Go Go.RowKit Go.Proofs.Ytddkocidfhaofaa.PN Go.Proofs.Ytddkocidfhaofaa.V
open Go.Proofs.Ytddkocidfhaofaa.LA (S S_succ S_zero S_congr)
set_option linter.unusedVariables false
set_option linter.unusedSimpArgs false
end Go.Proofs.Ytddkocidfhaofaa.AM
/- Dense matrices: walks: square matrices, products with vectors. -/
namespace Go.Proofs.Ytddkocidfhaofaa.AM
open Go Go.RowKit Go.Proofs.Ytddkocidfhaofaa.PN Go.Proofs.Ytddkocidfhaofaa.V
open Go.Proofs.Ytddkocidfhaofaa.LA (S S_succ S_zero S_congr)
set_option linter.unusedVariables false
set_option linter.unusedSimpArgs false
end Go.Proofs.Ytddkocidfhaofaa.AM
/- Dense matrices: walks: made, Turn, Mul. -/
namespace Go.Proofs.Ytddkocidfhaofaa.AM
open Go Go.RowKit Go.Proofs.Ytddkocidfhaofaa.PN Go.Proofs.Ytddkocidfhaofaa.V
open Go.Proofs.Ytddkocidfhaofaa.LA (S S_succ S_zero S_congr)
set_option linter.unusedVariables false
set_option linter.unusedSimpArgs false
end Go.Proofs.Ytddkocidfhaofaa.AM
/- Dense matrices: walks: the steps on rows. -/
namespace Go.Proofs.Ytddkocidfhaofaa.AM
open Go Go.RowKit Go.Proofs.Ytddkocidfhaofaa.PN Go.Proofs.Ytddkocidfhaofaa.V
open Go.Proofs.Ytddkocidfhaofaa.LA (S S_succ S_zero S_congr)
set_option linter.unusedVariables false
set_option linter.unusedSimpArgs false
set_option maxRecDepth 4000
set_option maxHeartbeats 2000000
/-- The variable that bears rows, and a determinant. -/
def wk (d : Rat) : Nat → AV := fun i => match i with
  | 0 => .own 61 0
  | 1 => .rs (.q d)
  | 2 => .rn (.q d)
  | _ => .rd (.q d)
def swp (π : Nat → Nat) (i j : Nat) : Nat → Nat := updN (updN π i (π j)) j (π i)
def det1 (d : Rat) (i at' : Nat) : Rat := if i = at' then d else -d
end Go.Proofs.Ytddkocidfhaofaa.AM
/- Dense matrices: walks: a row is taken away from another one. -/
namespace Go.Proofs.Ytddkocidfhaofaa.AM
open Go Go.RowKit Go.Proofs.Ytddkocidfhaofaa.PN Go.Proofs.Ytddkocidfhaofaa.V
open Go.Proofs.Ytddkocidfhaofaa.LA (S S_succ S_zero S_congr)
set_option linter.unusedVariables false
set_option linter.unusedSimpArgs false
set_option maxRecDepth 4000
set_option maxHeartbeats 2000000
/-- A row, less a multiple of another one from a column on, up to k. -/
def clr (A : Nat → Nat → Rat) (q : Rat) (a b col k : Nat) : Nat → Nat → Rat := fun r j => if r = a ∧ col ≤ j ∧ j < k then A a j - q * A b j else A r j
end Go.Proofs.Ytddkocidfhaofaa.AM
/- Dense matrices: walks: rows on which steps are done. -/
namespace Go.Proofs.Ytddkocidfhaofaa.AM
open Go Go.RowKit Go.Proofs.Ytddkocidfhaofaa.PN Go.Proofs.Ytddkocidfhaofaa.V
open Go.Proofs.Ytddkocidfhaofaa.LA (S S_succ S_zero S_congr)
set_option linter.unusedVariables false
set_option linter.unusedSimpArgs false
set_option maxRecDepth 4000
set_option maxHeartbeats 2000000
/-- Rows with something beside each. -/
def aug (n : Nat) (F G : Nat → Nat → Rat) : Nat → Nat → Rat := fun i j => if j < n then F i j else G i (j - n)
/-- The variable, before it bears rows. -/
def wk0 (y : AV) : Nat → AV := fun i => match i with
  | 0 => y
  | 1 => .rs (.q 1)
  | 2 => .rn (.q 1)
  | _ => .rd (.q 1)
def sg (k : Nat) : Ren := fun g r => if g = 12 then (if r < k then (12, r) else (32, r - k)) else if g = 11 then (34, r) else (g, r)
def sf : Ren := fun g r => if g = 60 then (10, r) else if g = 61 then (11, r) else if g = 62 then (12, r) else (g, r)
end Go.Proofs.Ytddkocidfhaofaa.AM
/- Elimination, as plain functions: what the steps on rows make. -/
namespace Go.Proofs.Ytddkocidfhaofaa.AM
open Go.Proofs.Ytddkocidfhaofaa.LA (S S_succ S_zero S_congr)
open Classical
set_option linter.unusedVariables false
set_option linter.unusedSimpArgs false
/-- The first number from i on, at most k further, that has p. -/
noncomputable def fnd (p : Nat → Prop) : Nat → Nat → Nat
  | 0, i => i
  | k + 1, i => if p i then i else fnd p k (i + 1)
theorem fnd_le (p : Nat → Prop) : ∀ k i, i ≤ fnd p k i ∧ fnd p k i ≤ i + k ∧ (∀ j, i ≤ j → j < fnd p k i → ¬ p j) ∧ (fnd p k i < i + k → p (fnd p k i))
  | 0, i => ⟨Nat.le_refl _, Nat.le_refl _, fun j h1 h2 => absurd h2 (by unfold fnd; omega), fun h => absurd h (by unfold fnd; omega)⟩
  | k + 1, i => by
    unfold fnd
    by_cases h : p i
    · rw [if_pos h]; exact ⟨Nat.le_refl _, by omega, fun j h1 h2 => by omega, fun _ => h⟩
    · rw [if_neg h]
      obtain ⟨h1, h2, h3, h4⟩ := fnd_le p k (i + 1)
      refine ⟨by omega, by omega, fun j h5 h6 => ?_, fun h5 => h4 (by omega)⟩
      by_cases e : j = i
      · subst e; exact h
      · exact h3 j (by omega) h6
structure ES where
  at' : Nat
  d : Rat
  π : Nat → Nat
  A : Nat → Nat → Rat
/-- Which rows are cleaned. -/
def tst (all : Bool) (at' i : Nat) : Prop := at' < i ∨ (all = true ∧ i < at')
/-- The rows up to k cleaned. -/
noncomputable def cln (A : Nat → Nat → Rat) (π : Nat → Nat) (all : Bool) (at' col m k : Nat) : Nat → Nat → Rat := fun r j =>
  if (∃ i, i < k ∧ tst all at' i ∧ r = π i) ∧ col ≤ j ∧ j < m then A r j - A r col / A (π at') col * A (π at') j else A r j
/-- One column. -/
noncomputable def stp (n m : Nat) (all : Bool) (s : ES) (col : Nat) : ES :=
  if fnd (fun i => s.A (s.π i) col ≠ 0) (n - s.at') s.at' < n then
    ⟨s.at' + 1, det1 s.d (fnd (fun i => s.A (s.π i) col ≠ 0) (n - s.at') s.at') s.at' * s.A (s.π (fnd (fun i => s.A (s.π i) col ≠ 0) (n - s.at') s.at')) col, swp s.π (fnd (fun i => s.A (s.π i) col ≠ 0) (n - s.at') s.at') s.at',
      cln s.A (swp s.π (fnd (fun i => s.A (s.π i) col ≠ 0) (n - s.at') s.at') s.at') all s.at' col m n⟩
  else s
noncomputable def stps (n m : Nat) (all : Bool) (A : Nat → Nat → Rat) : Nat → ES
  | 0 => ⟨0, 1, fun i => i, A⟩
  | c + 1 => stp n m all (stps n m all A c) c
/-- What holds of the rows at all times. -/
structure EOK (n c X : Nat) (s : ES) : Prop where
  le : s.at' ≤ c
  lt : ∀ i, i < n → s.π i < n
  inj : ∀ i j, i < n → j < n → s.π i = s.π j → i = j
  wd : Wt s.d X
  wA : ∀ i j, Wt (s.A i j) X
end Go.Proofs.Ytddkocidfhaofaa.AM
/- What elimination tells: the determinant, the rank; what it leaves. -/
namespace Go.Proofs.Ytddkocidfhaofaa.AM
open Go.Proofs.Ytddkocidfhaofaa.LA (Mt S S_succ S_zero S_congr S_add S_mul S_mulr S_single S_null S_cut det det_congr det_swp det_addr det_low HasRank rank_swp rank_addr rank_congr addr upd upd_at upd_ne one inverse Eqn mul tr)
set_option linter.unusedVariables false
set_option linter.unusedSimpArgs false
/-- Rows exchanged, multiples of rows added to others: of n rows, m columns. -/
inductive RE (n m : Nat) : Mt → Mt → Rat → Prop where
  | refl {A B : Mt} (h : ∀ i j, i < n → j < m → A i j = B i j) : RE n m A B 1
  | swp {A B C : Mt} {σ : Rat} (a b : Nat) (ha : a < n) (hb : b < n) (hab : a ≠ b) (h : RE n m A B σ) (hC : ∀ i j, i < n → j < m → C i j = LA.swp B a b i j) : RE n m A C (-σ)
  | addr {A B C : Mt} {σ : Rat} (a b : Nat) (f : Rat) (ha : a < n) (hb : b < n) (hab : a ≠ b) (h : RE n m A B σ) (hC : ∀ i j, i < n → j < m → C i j = LA.addr B a b f i j) : RE n m A C σ
theorem RE.congr {n m : Nat} {A B C : Mt} {σ : Rat} (h : RE n m A B σ) (hc : ∀ i j, i < n → j < m → B i j = C i j) : RE n m A C σ := by
  cases h with
  | refl h => exact .refl fun i j hi hj => (h i j hi hj).trans (hc i j hi hj)
  | swp a b ha hb hab h hC => exact .swp a b ha hb hab h fun i j hi hj => (hc i j hi hj).symm.trans (hC i j hi hj)
  | addr a b f ha hb hab h hC => exact .addr a b f ha hb hab h fun i j hi hj => (hc i j hi hj).symm.trans (hC i j hi hj)
theorem RE.det {n m : Nat} {A B : Mt} {σ : Rat} (hnm : n ≤ m) (h : RE n m A B σ) : det n B = σ * det n A := by
  induction h with
  | refl h => rw [Rat.one_mul]; exact det_congr fun i j hi hj => (h i j hi (by omega)).symm
  | swp a b ha hb hab h hC ih => rw [det_congr (B := LA.swp _ a b) fun i j hi hj => hC i j hi (by omega), det_swp _ ha hb hab, ih, Rat.neg_mul]
  | addr a b f ha hb hab h hC ih => rw [det_congr (B := LA.addr _ a b f) fun i j hi hj => hC i j hi (by omega), det_addr _ ha hb hab, ih]
theorem RE.rank {n m : Nat} {A B : Mt} {σ : Rat} (hnm : n ≤ m) (h : RE n m A B σ) : ∀ {r : Nat}, HasRank n B r → HasRank n A r := by
  induction h with
  | refl h => exact fun k => rank_congr (fun i j hi hj => (h i j hi (by omega)).symm) k
  | swp a b ha hb hab h hC ih =>
    refine fun k => ih (rank_congr (fun i j hi hj => ?_) (rank_swp ha hb hab k))
    unfold LA.swp
    by_cases e1 : i = a
    · subst e1
      rw [if_pos rfl, hC b j hb (by omega)]
      unfold LA.swp
      rw [if_neg (Ne.symm hab), if_pos rfl]
    · rw [if_neg e1]
      by_cases e2 : i = b
      · subst e2
        rw [if_pos rfl, hC a j ha (by omega)]
        unfold LA.swp
        rw [if_pos rfl]
      · rw [if_neg e2, hC i j hi (by omega)]
        unfold LA.swp
        rw [if_neg e1, if_neg e2]
  | addr a b f ha hb hab h hC ih =>
    refine fun k => ih (rank_congr (fun i j hi hj => ?_) (rank_addr ha hb hab (-f) k))
    unfold LA.addr
    by_cases e1 : i = a
    · subst e1
      rw [upd_at, hC i j hi (by omega), hC b j hb (by omega)]
      unfold LA.addr
      rw [upd_at, upd_ne _ _ _ (Ne.symm hab)]
      grind
    · rw [upd_ne _ _ _ e1, hC i j hi (by omega)]
      unfold LA.addr
      rw [upd_ne _ _ _ e1]
/-- What all rows send to nought. -/
def Ker (n m : Nat) (A : Mt) (y : Nat → Rat) : Prop := ∀ r, r < n → S m (fun j => A r j * y j) = 0
def prodP (f : Nat → Rat) : Nat → Rat
  | 0 => 1
  | k + 1 => prodP f k * f k
/-- The rows in their order. -/
def PR (s : ES) : Mt := fun r j => s.A (s.π r) j
/-- What holds behind c columns. -/
structure GI (n m c : Nat) (all : Bool) (A : Mt) (s : ES) (σ : Rat) (col : Nat → Nat) : Prop where
  re : RE n m A (PR s) σ
  d : s.d = σ * prodP (fun i => PR s i (col i)) s.at'
  low : ∀ r j, s.at' ≤ r → r < n → j < c → PR s r j = 0
  lt : ∀ i, i < s.at' → col i < c
  nz : ∀ i, i < s.at' → PR s i (col i) ≠ 0
  ahead : ∀ i, i < s.at' → ∀ j, j < col i → PR s i j = 0
  inc : ∀ i j, i < j → j < s.at' → col i < col j
  cl : all = true → ∀ i r, i < s.at' → r < n → r ≠ i → PR s r (col i) = 0
theorem GI.le {n m c : Nat} {all : Bool} {A : Mt} {s : ES} {σ : Rat} {col : Nat → Nat} (h : GI n m c all A s σ col) : ∀ i, i < s.at' → i ≤ col i
  | 0, _ => Nat.zero_le _
  | i + 1, hi => by
    have h1 := h.le i (by omega)
    have h2 := h.inc i (i + 1) (by omega) hi
    omega
end Go.Proofs.Ytddkocidfhaofaa.AM
/- Laws of dense matrices: walks: rows and matrices that are the same; ones. -/
namespace Go.Proofs.Ytddkocidfhaofaa.AM
open Go Go.RowKit Go.Proofs.Ytddkocidfhaofaa.PN Go.Proofs.Ytddkocidfhaofaa.V
open Go.Proofs.Ytddkocidfhaofaa.LA (S S_succ S_zero S_congr)
set_option linter.unusedVariables false
set_option linter.unusedSimpArgs false
set_option maxRecDepth 4000
set_option maxHeartbeats 4000000
end Go.Proofs.Ytddkocidfhaofaa.AM
/- Dense matrices: walks: all steps. -/
namespace Go.Proofs.Ytddkocidfhaofaa.AM
open Go Go.RowKit Go.Proofs.Ytddkocidfhaofaa.PN Go.Proofs.Ytddkocidfhaofaa.V
open Go.Proofs.Ytddkocidfhaofaa.LA (S S_succ S_zero S_congr)
set_option linter.unusedVariables false
set_option linter.unusedSimpArgs false
set_option maxRecDepth 4000
set_option maxHeartbeats 4000000
end Go.Proofs.Ytddkocidfhaofaa.AM
/- Dense matrices: walks: determinants, ranks. -/
namespace Go.Proofs.Ytddkocidfhaofaa.AM
open Go Go.RowKit Go.Proofs.Ytddkocidfhaofaa.PN Go.Proofs.Ytddkocidfhaofaa.V
open Go.Proofs.Ytddkocidfhaofaa.LA (S S_succ S_zero S_congr)
set_option linter.unusedVariables false
set_option linter.unusedSimpArgs false
set_option maxRecDepth 4000
set_option maxHeartbeats 4000000
/-- What the steps make of a matrix. -/
noncomputable def gs (n : Nat) (F : Nat → Nat → Rat) : ES := stps n n false (aug n F fun _ _ => 0) n
noncomputable def gdet (n : Nat) (F : Nat → Nat → Rat) : Rat := if (gs n F).at' < n then 0 else (gs n F).d
end Go.Proofs.Ytddkocidfhaofaa.AM
/- Laws of dense matrices: walks: what they share. -/
namespace Go.Proofs.Ytddkocidfhaofaa.AM
open Go Go.RowKit Go.Proofs.Ytddkocidfhaofaa.PN Go.Proofs.Ytddkocidfhaofaa.V
open Go.Proofs.Ytddkocidfhaofaa.LA (S S_succ S_zero S_congr)
set_option linter.unusedVariables false
set_option linter.unusedSimpArgs false
set_option maxRecDepth 4000
set_option maxHeartbeats 4000000
end Go.Proofs.Ytddkocidfhaofaa.AM
/- Laws of dense matrices: walks: ones from corner to corner. -/
namespace Go.Proofs.Ytddkocidfhaofaa.AM
open Go Go.RowKit Go.Proofs.Ytddkocidfhaofaa.PN Go.Proofs.Ytddkocidfhaofaa.V
open Go.Proofs.Ytddkocidfhaofaa.LA (S S_succ S_zero S_congr)
set_option linter.unusedVariables false
set_option linter.unusedSimpArgs false
set_option maxRecDepth 4000
set_option maxHeartbeats 4000000
/-- Rows that are gathered in slot t: none, or k of them. -/
def matS (t : Nat) (e : List (Nat × AV)) (v : Nat → AV) : Nat → St
  | 0 => stl ((t, .v (.slice none 0 0)) :: e) []
  | k + 1 => stl ((t, .own t 0) :: e) [(t, (1, fun _ => .ones WT (k + 1) v))]
def idm (i j : Nat) : Rat := if i = j then 1 else 0
instance idm_wt (i j : Nat) : Wt (idm i j) 1 := ⟨by unfold idm; split <;> decide⟩
end Go.Proofs.Ytddkocidfhaofaa.AM
/- Products of matrices: the plain laws that DenseRing asks for. -/
namespace Go.Proofs.Ytddkocidfhaofaa.AM
open Go.Proofs.Ytddkocidfhaofaa.LA (S S_succ S_zero S_congr S_mul S_mulr S_swap S_single)
set_option linter.unusedVariables false
set_option linter.unusedSimpArgs false
end Go.Proofs.Ytddkocidfhaofaa.AM
/- Laws of dense matrices: walks: matrices of small numbers (under way). -/
namespace Go.Proofs.Ytddkocidfhaofaa.AM
open Go Go.RowKit Go.Proofs.Ytddkocidfhaofaa.PN Go.Proofs.Ytddkocidfhaofaa.V
open Go.Proofs.Ytddkocidfhaofaa.LA (S S_succ S_zero S_congr)
set_option linter.unusedVariables false
set_option linter.unusedSimpArgs false
set_option maxRecDepth 4000
set_option maxHeartbeats 4000000
/-- Rows that are gathered in slot 6, all of them own. -/
def famS (e : List (Nat × AV)) (m : Nat) (A : Nat → Nat → Rat) : Nat → St
  | 0 => stl ((6, .v (.slice none 0 0)) :: e) []
  | k + 1 => stl ((6, .own 6 0) :: e) [(6, (1, fun _ => .ones WT (k + 1) (fun i => .own 3 i))), (3, (k + 1, fun r => .rats m (fun j => .q (A r j))))]
def sm (k : Nat) : Ren := fun g r => if g = 3 then (if r < k then (3, r) else (31, r - k)) else if g = 6 then (33, r) else (g, r)
/-- The rows, as they are drawn. -/
def mbase (n : Nat) (zs : List Int) (i j : Nat) : Rat := rowq zs (i * n + j)
/-- The last row's place, and the one ahead of it. -/
def la (n : Nat) : Nat := ((n : Int) - 1).toNat
def lb2 (n : Nat) : Nat := ((n : Int) - 2).toNat
def nv (n : Nat) (zs : List Int) (c : Nat) : Rat := if 2 < n then mbase n zs 0 c + mbase n zs (lb2 n) c else mbase n zs 0 c
def mx (n : Nat) (zs : List Int) (j : Nat) : Nat → Nat → Rat := fun r c => if r = la n ∧ c < j then nv n zs c else mbase n zs r c
def mc (n : Nat) (zs : List Int) : Prop := 1 < n ∧ 2 < zs.length ∧ wthn (zs.getD 2 0) 3 = 0
open Classical in
/-- The matrix that is made. -/
noncomputable def mkm (n : Nat) (zs : List Int) (i j : Nat) : Rat := if mc n zs then mx n zs n i j else mbase n zs i j
def mx1 (n : Nat) (zs : List Int) (j : Nat) : Nat → Nat → Rat := fun r c => if r = la n ∧ c = j then mx n zs j 0 j else mx n zs j r c
instance mbase_wt (n : Nat) (zs : List Int) (i j : Nat) : Wt (mbase n zs i j) 1 := rowq_wt _ _
end Go.Proofs.Ytddkocidfhaofaa.AM
/- The document's elimination: walked. It does what the program's does. -/
namespace Go.Proofs.Ytddkocidfhaofaa.AM
open Go Go.RowKit Go.Proofs.Ytddkocidfhaofaa.PN Go.Proofs.Ytddkocidfhaofaa.V
open Go.Proofs.Ytddkocidfhaofaa.LA (S S_succ S_zero S_congr)
set_option linter.unusedVariables false
set_option linter.unusedSimpArgs false
set_option maxRecDepth 4000
set_option maxHeartbeats 4000000
/-- How long all numbers are while the steps are done. -/
structure TB (n m X : Nat) (A : Nat → Nat → Rat) : Prop where
  d : ∀ c, c ≤ n → Wt (stps n m false A c).d X
  A : ∀ c, c ≤ n → ∀ i j, Wt ((stps n m false A c).A i j) X
theorem TB.wt {n m X : Nat} {A : Nat → Nat → Rat} (h : TB n m X A) (i j : Nat) : Wt (A i j) X := h.A 0 (Nat.zero_le _) i j
/-- The determinant, as far as it is known. -/
def dd (c : Nat) (s : ES) : Rat := if s.at' < c then 0 else s.d
section
variable {p q : Rat} {a b : Nat} [hp : Wt p a] [hq : Wt q b]
end
end Go.Proofs.Ytddkocidfhaofaa.AM
/- How long numbers are, by bits. -/
namespace Go.Proofs.Ytddkocidfhaofaa.AM
open Go.Proofs.Ytddkocidfhaofaa.PN
set_option linter.unusedVariables false
set_option linter.unusedSimpArgs false
class Bt (q : Rat) (k : outParam Nat) : Prop where
  n : nm q < 2 ^ k
  d : q.den < 2 ^ k
theorem Bt.mono {q : Rat} {a b : Nat} (h : Bt q a) (k : a ≤ b) : Bt q b :=
  ⟨Nat.lt_of_lt_of_le h.n (Nat.pow_le_pow_right (by decide) k), Nat.lt_of_lt_of_le h.d (Nat.pow_le_pow_right (by decide) k)⟩
theorem Bt.of_mk {n d k : Nat} (s : Bool) (hd : d ≠ 0) (h1 : n < 2 ^ k) (h2 : d < 2 ^ k) : Bt (PN.mk s n d) k :=
  ⟨by rw [mk_num s hd]; exact Nat.lt_of_le_of_lt (Nat.div_le_self _ _) h1, by rw [mk_den s hd]; exact Nat.lt_of_le_of_lt (Nat.div_le_self _ _) h2⟩
theorem lt_mul {x y a b : Nat} (h : x < 2 ^ a) (k : y < 2 ^ b) : x * y < 2 ^ (a + b) := by rw [Nat.pow_add]; exact Nat.mul_lt_mul'' h k
instance Bt.mul {p q : Rat} {a b : Nat} [h : Bt p a] [k : Bt q b] : Bt (p * q) (a + b) := by
  rw [mul_parts]
  exact Bt.of_mk _ (Nat.mul_ne_zero (den_ne p) (den_ne q)) (lt_mul h.n k.n) (lt_mul h.d k.d)
theorem Bt.pos {q : Rat} {a : Nat} (h : Bt q a) : 0 < a := by
  rcases Nat.eq_zero_or_pos a with rfl | h0
  · have := h.d; have := q.den_pos; omega
  · exact h0
instance Bt.zero : Bt 0 1 := ⟨by decide, by decide⟩
instance Bt.one : Bt 1 1 := ⟨by decide, by decide⟩
instance Bt.div {p q : Rat} {a b : Nat} [h : Bt p a] [k : Bt q b] : Bt (p / q) (a + b) := by
  by_cases e : q = 0
  · rw [e, Rat.div_def, Rat.inv_zero, Rat.mul_zero]
    exact Bt.zero.mono (by have := h.pos; omega)
  · rw [div_parts p q e]
    exact Bt.of_mk _ (Nat.mul_ne_zero (den_ne p) (fun e' => e (nm_eq_zero.1 e'))) (lt_mul h.n k.d) (lt_mul h.d k.n)
instance Bt.add {p q : Rat} {a b : Nat} [h : Bt p a] [k : Bt q b] : Bt (p + q) (a + b + 1) := by
  have h1 := lt_mul h.n k.d
  have h2 : nm q * p.den < 2 ^ (a + b) := by rw [Nat.add_comm]; exact lt_mul k.n h.d
  have h3 := lt_mul h.d k.d
  have hp : 2 ^ (a + b + 1) = 2 ^ (a + b) * 2 := Nat.pow_succ ..
  have hd := Nat.mul_ne_zero (den_ne p) (den_ne q)
  by_cases e : ng p = ng q
  · rw [add_parts_same p q e]; exact Bt.of_mk _ hd (by omega) (by omega)
  · rcases Nat.le_total (nm q * p.den) (nm p * q.den) with hle | hle
    · rw [add_parts_ge p q e hle]; exact Bt.of_mk _ hd (by omega) (by omega)
    · rw [add_parts_lt p q e hle]; exact Bt.of_mk _ hd (by omega) (by omega)
instance Bt.neg {p : Rat} {a : Nat} [h : Bt p a] : Bt (-p) a := ⟨by rw [neg_nm]; exact h.n, by rw [neg_den]; exact h.d⟩
instance Bt.sub {p q : Rat} {a b : Nat} [h : Bt p a] [k : Bt q b] : Bt (p - q) (a + b + 1) := by
  rw [Rat.sub_eq_add_neg]; exact inferInstance
theorem Bt.wt {q : Rat} {k X : Nat} (h : Bt q k) (hX : k / 32 + 1 ≤ X) : Wt q X := by
  have hB : 2 ^ k ≤ B ^ (k / 32 + 1) := by
    rw [show B ^ (k / 32 + 1) = 2 ^ (32 * (k / 32 + 1)) by rw [Nat.pow_mul]]
    exact Nat.pow_le_pow_right (by decide) (by omega)
  refine ⟨Nat.le_trans ?_ hX⟩
  have h1 := (lt_iff (nm q) _).1 (Nat.lt_of_lt_of_le h.n hB)
  have h2 := (lt_iff q.den _).1 (Nat.lt_of_lt_of_le h.d hB)
  unfold PN.wt
  omega
theorem smal_bits : ∀ x : _root_.Fin 41, ∀ y : _root_.Fin 5, nm ((((x.val : Int) - 20 : Int) : Rat) / ((1 + (y.val : Int) : Int) : Rat)) < 2 ^ 5 ∧ ((((x.val : Int) - 20 : Int) : Rat) / ((1 + (y.val : Int) : Int) : Rat)).den < 2 ^ 5 := by decide +kernel
instance smal_bt (a : Int) : Bt (smal a) 5 := by
  obtain ⟨h1, h2⟩ := wthn_lt (a := a) (n := 41) (by decide)
  obtain ⟨h3, h4⟩ := wthn_lt (a := a.tdiv 41) (n := 5) (by decide)
  have := smal_bits ⟨(wthn a 41).toNat, by omega⟩ ⟨(wthn (a.tdiv 41) 5).toNat, by omega⟩
  rw [show (((wthn a 41).toNat : Nat) : Int) = wthn a 41 by omega, show (((wthn (a.tdiv 41) 5).toNat : Nat) : Int) = wthn (a.tdiv 41) 5 by omega] at this
  exact ⟨this.1, this.2⟩
instance rowq_bt (zs : List Int) (i : Nat) : Bt (rowq zs i) 5 := smal_bt _
end Go.Proofs.Ytddkocidfhaofaa.AM
/- How long numbers are, by bits: while the steps are done. -/
namespace Go.Proofs.Ytddkocidfhaofaa.AM
open Go.Proofs.Ytddkocidfhaofaa.PN
open Go.Proofs.Ytddkocidfhaofaa.LA (S S_succ S_zero S_congr)
set_option linter.unusedVariables false
set_option linter.unusedSimpArgs false
/-- How many bits numbers have when a pivots are found. -/
def gb (n K a : Nat) : Nat := 4 ^ (min a (n - 1)) * (K + 1)
theorem gb_pos (n K a : Nat) : K + 1 ≤ gb n K a := Nat.le_mul_of_pos_left _ (Nat.pow_pos (by decide))
theorem gb_last {n K a : Nat} (h : ¬ a + 1 ≤ n - 1) : gb n K (a + 1) = gb n K a ∨ a + 1 ≤ n - 1 := by
  unfold gb
  exact .inl (by rw [show min (a + 1) (n - 1) = min a (n - 1) by omega])
theorem gb_step {n K a : Nat} (h : a + 1 ≤ n - 1) : gb n K (a + 1) = 4 * gb n K a := by
  unfold gb
  rw [show min (a + 1) (n - 1) = min a (n - 1) + 1 by omega, Nat.pow_succ]
  ac_rfl
structure EB (n K : Nat) (s : ES) : Prop where
  A : ∀ i j, Bt (s.A i j) (gb n K s.at' - 1)
  d : Bt s.d (3 * gb n K s.at')
  d' : s.at' < n → Bt s.d (2 * gb n K s.at')
theorem det1_bt {d : Rat} {X i j : Nat} [h : Bt d X] : Bt (det1 d i j) X := by
  unfold det1; split
  · exact h
  · exact inferInstance
theorem stp_eb {n m c K : Nat} {s : ES} (hn : 0 < n) (h : EB n K s) : EB n K (stp n m false s c) := by
  unfold stp
  split
  · rename_i hi
    obtain ⟨h1, h2, _, _⟩ := fnd_le (fun i => s.A (s.π i) c ≠ 0) (n - s.at') s.at'
    generalize fnd (fun i => s.A (s.π i) c ≠ 0) (n - s.at') s.at' = i0 at *
    have han : s.at' < n := by omega
    have w1 := det1_bt (i := i0) (j := s.at') (h := h.d' han)
    have w2 := h.A (s.π i0) c
    have hp := gb_pos n K s.at'
    have w3 := Bt.mul (h := w1) (k := w2)
    by_cases hl : s.at' + 1 ≤ n - 1
    · have e := gb_step (K := K) hl
      refine ⟨fun i j => ?_, w3.mono ?_, fun _ => w3.mono ?_⟩
      · show Bt (cln _ _ _ _ _ _ _ i j) (gb n K (s.at' + 1) - 1)
        rw [e]
        unfold cln
        split
        · have hA := h.A
          exact (inferInstance : Bt (s.A i j - s.A i c / s.A (swp s.π i0 s.at' s.at') c * s.A (swp s.π i0 s.at' s.at') j) _).mono (by omega)
        · exact (h.A i j).mono (by omega)
      · show _ ≤ 3 * gb n K (s.at' + 1); omega
      · show _ ≤ 2 * gb n K (s.at' + 1); omega
    · have e : gb n K (s.at' + 1) = gb n K s.at' := (gb_last hl).resolve_right hl
      refine ⟨fun i j => ?_, w3.mono ?_, fun hlt => ?_⟩
      · show Bt (cln _ _ _ _ _ _ _ i j) (gb n K (s.at' + 1) - 1)
        rw [e]
        unfold cln
        rw [if_neg]
        · exact h.A i j
        · rintro ⟨⟨k, h3, h4, _⟩, _⟩
          rcases h4 with h4 | ⟨h4, _⟩
          · omega
          · cases h4
      · show _ ≤ 3 * gb n K (s.at' + 1); omega
      · have hlt : s.at' + 1 < n := hlt
        omega
  · exact h
theorem stps_eb {n m K : Nat} {A : Nat → Nat → Rat} (hn : 0 < n) (hK : 1 ≤ K) [hA : ∀ i j, Bt (A i j) K] : ∀ c, EB n K (stps n m false A c)
  | 0 => by
    have e : gb n K 0 = K + 1 := by unfold gb; rw [Nat.zero_min, Nat.pow_zero, Nat.one_mul]
    have h1 : Bt (1 : Rat) 1 := inferInstance
    refine ⟨fun i j => ?_, ?_, fun _ => ?_⟩
    · show Bt (A i j) (gb n K 0 - 1); rw [e]; exact hA i j
    · show Bt (1 : Rat) (3 * gb n K 0); rw [e]; exact h1.mono (by omega)
    · show Bt (1 : Rat) (2 * gb n K 0); rw [e]; exact h1.mono (by omega)
  | c + 1 => stp_eb hn (stps_eb hn hK c)
theorem gb_le (n K a : Nat) : gb n K a ≤ 4 ^ (n - 1) * (K + 1) := Nat.mul_le_mul_right _ (Nat.pow_le_pow_right (by decide) (Nat.min_le_right _ _))
theorem TB.of {n m K X : Nat} {A : Nat → Nat → Rat} (hn : 0 < n) (hK : 1 ≤ K) [hA : ∀ i j, Bt (A i j) K] (hX : (3 * (4 ^ (n - 1) * (K + 1))) / 32 + 1 ≤ X) : TB n m X A := by
  refine ⟨fun c _ => ?_, fun c _ i j => ?_⟩
  · have h := (stps_eb (m := m) hn hK (hA := hA) c).d
    have := gb_le n K (stps n m false A c).at'
    exact (h.mono (show _ ≤ 3 * (4 ^ (n - 1) * (K + 1)) by omega)).wt hX
  · have h := (stps_eb (m := m) hn hK (hA := hA) c).A i j
    have := gb_le n K (stps n m false A c).at'
    exact (h.mono (show _ ≤ 3 * (4 ^ (n - 1) * (K + 1)) by omega)).wt hX
end Go.Proofs.Ytddkocidfhaofaa.AM
/- The document's dense matrices: walked. -/
namespace Go.Proofs.Ytddkocidfhaofaa.AM
open Go Go.RowKit Go.Proofs.Ytddkocidfhaofaa.PN Go.Proofs.Ytddkocidfhaofaa.V
open Go.Proofs.Ytddkocidfhaofaa.LA (S S_succ S_zero S_congr)
set_option linter.unusedVariables false
set_option linter.unusedSimpArgs false
set_option maxRecDepth 4000
set_option maxHeartbeats 4000000
end Go.Proofs.Ytddkocidfhaofaa.AM
/- The document's dense matrices: the rest; leading minors: walked. -/
namespace Go.Proofs.Ytddkocidfhaofaa.AM
open Go Go.RowKit Go.Proofs.Ytddkocidfhaofaa.PN Go.Proofs.Ytddkocidfhaofaa.V
open Go.Proofs.Ytddkocidfhaofaa.LA (S S_succ S_zero S_congr)
set_option linter.unusedVariables false
set_option linter.unusedSimpArgs false
set_option maxRecDepth 4000
set_option maxHeartbeats 4000000
end Go.Proofs.Ytddkocidfhaofaa.AM
/- Determinants and ranks: the plain laws. -/
namespace Go.Proofs.Ytddkocidfhaofaa.AM
open Go.Proofs.Ytddkocidfhaofaa.LA (Mt S S_succ S_zero S_congr det det_congr det_swp det_mul det_tr det_one HasRank rank_full rank_unique rank_tr)
set_option linter.unusedVariables false
set_option linter.unusedSimpArgs false
end Go.Proofs.Ytddkocidfhaofaa.AM
/- Systems by leading parts: the plain laws. -/
namespace Go.Proofs.Ytddkocidfhaofaa.AM
open Go.Proofs.Ytddkocidfhaofaa.PN
open Go.Proofs.Ytddkocidfhaofaa.LA (Mt S S_succ S_zero S_congr app app_sub app_mul app_add det Toe Two two_step two_minor two_break longer later app_longer)
set_option linter.unusedVariables false
set_option linter.unusedSimpArgs false
set_option maxRecDepth 8000
set_option maxHeartbeats 8000000
variable {n : Nat} {F : Nat → Nat → Rat}
/-- The least leading minor that is nought. -/
noncomputable def lstD (F : Nat → Nat → Rat) (n : Nat) : Nat := if fnd (fun k => gdet (k + 1) F = 0) n 0 < n then fnd (fun k => gdet (k + 1) F = 0) n 0 + 1 else 0
end Go.Proofs.Ytddkocidfhaofaa.AM
/- Laws of systems: what is known. -/
namespace Go.Proofs.Ytddkocidfhaofaa.AM
open Go Go.RowKit Go.Proofs.Ytddkocidfhaofaa.PN Go.Proofs.Ytddkocidfhaofaa.V
open Go.Proofs.Ytddkocidfhaofaa.LA (S S_succ S_zero S_congr)
set_option linter.unusedVariables false
set_option linter.unusedSimpArgs false
set_option maxRecDepth 8000
set_option maxHeartbeats 8000000
theorem rv_agv {S : Nat → Prop} {B : Nat} {β : Nat → Nat → Value} {w : World} {n : Nat} {f f' : Nat → AV} (h : ∀ i, i < n → ∀ v, RV S B β w (f i) v → RV S B β w (f' i) v) (v : Value) (hv : RV S B β w (.ag n f) v) : RV S B β w (.ag n f') v := by
  obtain ⟨cs, e1, e2, e3⟩ := hv
  refine ⟨cs, e1, e2, fun i hi => ?_⟩
  obtain ⟨y, a0, a1, a2⟩ := e3 i hi
  exact ⟨y, a0, a1, h i hi y a2⟩
theorem Has.agv {P : Program} {f : FuncId} {n : Nat} {u u' : Nat → AV} {xs : List AV} {r : AV} (h : ∀ S B β w i, i < n → ∀ v, RV S B β w (u i) v → RV S B β w (u' i) v) (H : Has P f (.ag n u' :: xs) r) : Has P f (.ag n u :: xs) r :=
  Has.args H fun S B β w vs hv => rvs_cons (rv_agv (h S B β w)) rvs_same hv
theorem rv_nil0 {S : Nat → Prop} {B : Nat} {β : Nat → Nat → Value} {w : World} {f : Nat → RA} (v : Value) (hv : RV S B β w (.v (.slice none 0 0)) v) : RV S B β w (.row false 0 f) v :=
  ⟨none, 0, hv, Nat.le_refl _, Nat.zero_le _, fun i hi => absurd hi (Nat.not_lt_zero _)⟩
def kg : GD := ⟨3, 1, 0, 1, 0, 0, 0, fun _ => 5, fun _ => 0, fun _ => 0, fun _ => 0⟩
end Go.Proofs.Ytddkocidfhaofaa.AM
/- Package levin: steps; what law 10 knows. -/
namespace Go.Proofs.Ytddkocidfhaofaa.AM
open Go Go.RowKit Go.Proofs.Ytddkocidfhaofaa.PN Go.Proofs.Ytddkocidfhaofaa.V
open Go.Proofs.Ytddkocidfhaofaa.LA (S S_succ S_zero S_congr longer later)
set_option linter.unusedVariables false
set_option linter.unusedSimpArgs false
set_option maxRecDepth 8000
set_option maxHeartbeats 8000000
/-- An own slice, renamed; more memory beside. -/
theorem own_next {s : St} (t g : Nat) {a : Nat} {b b' : Blk} {F : Nat → Blk} {e : List (Nat × AV)} {l : List (Nat × Fam)} (ht : s.env t = some (.own a 0)) (ha : s.heap a = some (1, F)) (hF : F 0 = b') (hb : BLe (s1 g a) b' b) (hok : b.ok (fun _ => false)) (hg : fx3 g = false) (ha3 : fx3 a = false) (hn : notIn g a (keys l) = true)
    (he : AllE s (s1 g a) (fun x => memN x (g :: keys l)) e) (hl : AllH s (s1 g a) (fun x => memN x (g :: keys l)) l) (h9 : (!(s.used 60) || (memN 60 (g :: keys l) && memN 61 (g :: keys l) && memN 62 (g :: keys l))) = true := by exact rfl) : Imp s (stl ((t, .own g 0) :: e) ((g, (1, fun _ => b)) :: l)) := by
  refine imp_stl (h := (g, (1, fun _ => b)) :: l) (s1 g a) (fun _ x hx r => s1_ne (fun e => by subst e; rw [hg] at hx; cases hx)) (s1_injl hn) ⟨⟨_, ht, Le.own s1_t, memN_head _ _⟩, he⟩ ⟨fun r hr => ?_, hl⟩ h9
  obtain rfl : r = 0 := by omega
  rw [s1_t]
  exact ⟨1, F, ha, Nat.zero_lt_one, by rw [hF]; exact hb, Blk.ok_mono (fun g h => by cases h) hok⟩
theorem lv_steps {g : GD} (h : g.OK) (hk : g.k = 1) {K : Nat} (hK : K ≤ g.n) (hd : ∀ k, k < K → lvd (gent g) k ≠ 0) (hz : K < g.n → lvd (gent g) K = 0) : Has Try.prog 17 [g.v] (.tup3 (.mat true K (fun i => i + 1) (fun i j => .q (lvf (gent g) (i + 1) j * 1))) (.i (if K < g.n then ((K + 1 : Nat) : Int) else 0)) (.i (if K < g.n then 8 else 0))) := by
  have n8 := h.n8; have n1 := h.n1
  have hF := toe_wt h hk
  have hw := lv_wt hF
  refine has_of Try.func17 (by kernel_rfl) rfl Try.ntmps17 Try.results17 rfl rfl rfl ?_
  refine run0 ?_
  ((with_reducible apply st_callH); exact rfl; exact rfl; exact rfl; exact (lv_of' h hk); (first | exact True.intro | exact ⟨rfl, rfl, rfl, True.intro⟩); exact rfl; exact rfl; exact rfl; exact rfl; (focus (repeat (first | exact True.intro | refine ⟨(by first | exact True.intro | rfl | exact ok_none (closed_ok rfl)), ?_⟩))); (first | exact True.intro | exact okf_WH | exact okf_pf (by exact True.intro) (by exact True.intro)))
  refine run0 ?_
  refine awp_no rfl rfl ?_
  refine run0 ?_
  refine awp_loop (fun m' s => ∃ k, k ≤ K ∧ m' = g.n - k ∧ s = stl [(2, .own 63 0), (5, .ptr 60 0 0), (16, .i g.n), (17, .i (k : Int))] ((63, (1, fun _ => .ones WT k fun i => .row true (i + 1) fun j => .q (lvf (gent g) (i + 1) j * 1))) :: PFk g.n (gent g) k)) g.n _ ((imp_nil 2 63 (.ones WT 0 fun i => .row true (i + 1) fun j => .q (lvf (gent g) (i + 1) j * 1)) rfl rfl (by exact ⟨by decide, rfl⟩)).trans (imp_id ?_ ?_)) ⟨0, Nat.zero_le _, rfl, rfl⟩ ?_
  · exact eA
  · exact allh rfl (by decide) (bleo rfl fun i hi => absurd hi (Nat.not_lt_zero _)) (fun _ _ => True.intro) (allh rfl (by decide) (pf_le (Le.eq rfl rfl) Le.nilrow Le.nilrow) (fun i _ => prF_ok (by exact True.intro) (by exact True.intro) i) (allz (allz True.intro)))
  rintro m' s ⟨k, hk', rfl, rfl⟩
  refine run0 ?_
  refine awp_if rfl (fun h1 => ?_) (fun h1 => ?_)
  · have h1 : k < g.n := by omega
    by_cases hkk : k = K
    · subst hkk
      obtain ⟨x, y, H⟩ := lv_next_no hF n8 h1 (hz h1)
      rw [if_pos h1, if_pos h1]
      refine run0 ?_
      ((with_reducible apply st_callH); exact rfl; exact rfl; exact rfl; exact (H); (first | exact True.intro | exact ⟨rfl, rfl, rfl, True.intro⟩); exact rfl; exact rfl; exact rfl; exact rfl; (focus (repeat (first | exact True.intro | refine ⟨(by first | exact True.intro | rfl | exact ok_none (closed_ok rfl)), ?_⟩))); (first | exact True.intro | exact okf_WH | exact okf_pf (by exact True.intro) (by exact True.intro)))
      refine run0 ?_
      refine awp_yes rfl rfl ?_
      refine run0 ?_
      exact ⟨.inr rfl, _, imp_matn 2 (fun i => i + 1) (fun i j => .q (lvf (gent g) (i + 1) j * 1)) rfl rfl rfl (fun i hi => rfl) rfl, .three (.tmp rfl) (.tmp rfl) (.tmp rfl)⟩
    have hkK : k < K := by omega
    have hW := (lvW_le (k := k + 1) (by omega)).1
    have wf : ∀ i, i < k + 1 → wt (lvf (gent g) (k + 1) i) ≤ 600000000 := fun i hi => Nat.le_trans (hw (k + 1) (by omega) i hi).1 hW
    have cs := lv_scaled (n := k + 1) (v := lvf (gent g) (k + 1)) (t := 1) (K := 600000000) wf (by decide) (by decide) (by omega)
    refine run0 ?_
    ((with_reducible apply st_callH); exact rfl; exact rfl; exact rfl; exact (lv_next hF n8 h1 (hd k hkK)); (first | exact True.intro | exact ⟨rfl, rfl, rfl, True.intro⟩); exact rfl; exact rfl; exact rfl; exact rfl; (focus (repeat (first | exact True.intro | refine ⟨(by first | exact True.intro | rfl | exact ok_none (closed_ok rfl)), ?_⟩))); (first | exact True.intro | exact okf_WH | exact okf_pf (by exact True.intro) (by exact True.intro)))
    refine run0 ?_
    refine awp_no rfl rfl ?_
    repeat(first|refine run1 ?_|((with_reducible apply st_call);exact rfl;exact rfl;exact rfl;first|(exact lv_one)|(exact cs))|((with_reducible apply st_callg);exact rfl;exact rfl;(first|exact rfl|assumption);exact rfl;exact rfl;exact rfl;first|(exact lv_one)|(exact cs)))
    refine q_loop (m' := g.n - (k + 1)) (by omega) (own_next 2 63 (a := 34) rfl rfl rfl (glue_row (fun _ _ => Le.eq rfl rfl) (Le.eq rfl rfl)) (by exact fun _ _ => True.intro) rfl rfl rfl ?_ ?_) ⟨k + 1, by omega, rfl, rfl⟩
    · exact alle rfl (Le.ptr (s1_ne (by decide))) rfl (alle rfl (Le.eq rfl rfl) True.intro (alle rfl (Le.eq rfl rfl) True.intro True.intro))
    · exact allh rfl Nat.zero_lt_one (pf_le (Le.eq rfl rfl) (Le.eq rfl rfl) (Le.eq rfl rfl)) (fun i _ => prF_ok (by exact True.intro) (by exact True.intro) i) (allz (allz True.intro))
  · have ek : k = g.n := by omega
    have eK : K = k := by omega
    subst eK
    rw [if_neg (by omega), if_neg (by omega)]
    refine run0 ?_
    exact ⟨.inr rfl, _, imp_matn 2 (fun i => i + 1) (fun i j => .q (lvf (gent g) (i + 1) j * 1)) rfl rfl rfl (fun i hi => rfl) rfl, .three (.tmp rfl) (.tmp rfl) (.tmp rfl)⟩
def kgt : GD := ⟨1, 1, 0, 1, 0, 0, 0, fun _ => 2, fun _ => 0, fun _ => 0, fun _ => 0⟩
theorem kgt_ok : kgt.OK := by
  refine ⟨by decide, by decide, by decide, by decide, by decide, fun h => (by cases h), fun _ => rfl, ?_, ⟨fun i _ => by show wt 2 ≤ 4; decide, fun i hi => absurd hi (Nat.not_lt_zero _), fun i hi => absurd hi (Nat.not_lt_zero _), fun i hi => absurd hi (Nat.not_lt_zero _)⟩, fun i hi j hj => absurd hj (Nat.not_lt_zero _)⟩
  intro i hi
  have hi4 : i = 0 ∨ i = 1 ∨ i = 2 ∨ i = 3 := by omega
  rcases hi4 with rfl | rfl | rfl | rfl <;> decide
theorem kgt_args {S : Nat → Prop} {B : Nat} {β : Nat → Nat → Value} {w : World} {u : Nat → AV} {q : Nat → RA} (h0 : u 0 = .i 1) (h1 : u 1 = .i 1) (h2 : u 2 = .i 0) (h3 : u 3 = .row false 1 q) (hq : q 0 = .q 2) (h4 : u 4 = .v (.slice none 0 0)) (h5 : u 5 = .v (.slice none 0 0)) (h6 : u 6 = .v (.slice none 0 0)) : ∀ i, i < 7 → ∀ v, RV S B β w (u i) v → RV S B β w (kgt.f i) v := by
  intro i hi v hv
  match i, hi with
  | 0, _ => rw [h0] at hv; exact hv
  | 1, _ => rw [h1] at hv; exact hv
  | 2, _ => rw [h2] at hv; exact hv
  | 3, _ =>
    rw [h3] at hv
    refine rv_row (fun i hi => ?_) v hv
    have hi : i < 1 := hi
    obtain rfl : i = 0 := by omega
    exact hq
  | 4, _ => rw [h4] at hv; exact rv_nil0 v hv
  | 5, _ => rw [h5] at hv; exact rv_nil0 v hv
  | 6, _ => rw [h6] at hv; exact rv_nil0 v hv
theorem k_known10 : Has Try.prog 6 [] (.b true) := by
  have c2 := hs_int 2 (by decide) (by decide)
  have ch := hs_of 1 2 (by decide) (by decide) (by decide) (by decide)
  have cs : Has Try.prog 17 [kgt.v] (.tup3 (.mat true 1 (fun i => i + 1) (fun i j => .q (lvf (gent kgt) (i + 1) j * 1))) (.i 0) (.i 0)) := lv_steps kgt_ok rfl (K := 1) (Nat.le_refl 1) (fun k hk => by
    obtain rfl : k = 0 := by omega
    show (2 : Rat) ≠ 0
    decide) (fun h => absurd h (by decide))
  have ev : lvf (gent kgt) (0 + 1) 0 * 1 = ((1 : Int) : Rat) / ((2 : Int) : Rat) := by
    show (1 / 2 : Rat) * 1 = _
    decide +kernel
  have ce := hs_same (p := lvf (gent kgt) (0 + 1) 0 * 1) (q := ((1 : Int) : Rat) / ((2 : Int) : Rat)) (by rw [ev]; decide +kernel) (by decide +kernel)
  rw [decide_eq_true ev] at ce
  generalize lvf (gent kgt) = L at *
  refine has_of Try.func6 (by kernel_rfl) rfl Try.ntmps6 Try.results6 rfl rfl rfl ?_
  repeat(first|refine run1p ?_|((with_reducible apply st_call);exact rfl;exact rfl;exact rfl;first|(exact c2))|((with_reducible apply st_callg);exact rfl;exact rfl;(first|exact rfl|assumption);exact rfl;exact rfl;exact rfl;first|(exact c2)))
  repeat(first|refine run1p ?_|((with_reducible apply st_call);exact rfl;exact rfl;exact rfl;first|(exact Has.agv (fun S B β w => kgt_args rfl rfl rfl rfl rfl rfl rfl rfl) cs)|(exact ch)|(exact ce))|((with_reducible apply st_callg);exact rfl;exact rfl;(first|exact rfl|assumption);exact rfl;exact rfl;exact rfl;first|(exact Has.agv (fun S B β w => kgt_args rfl rfl rfl rfl rfl rfl rfl rfl) cs)|(exact ch)|(exact ce)))
  exact ⟨.inr rfl, _, Imp.refl _, .one (.tmp rfl)⟩
end Go.Proofs.Ytddkocidfhaofaa.AM
/- A slice of nothing, in a struct's cell, that is laid behind. -/
namespace Go.Proofs.Ytddkocidfhaofaa.AM
open Go Go.RowKit Go.Proofs.Ytddkocidfhaofaa.PN Go.Proofs.Ytddkocidfhaofaa.V
set_option linter.unusedVariables false
set_option linter.unusedSimpArgs false
theorem fld_next {s : St} {t a : Nat} {b b' : Blk} {F : Nat → Blk} {e : List (Nat × AV)} {l : List (Nat × Fam)} (ha : s.heap a = some (1, F)) (hF : F 0 = b') (hb : BLe (s1 t a) b' b) (hok : b.ok (fun _ => false)) (h60 : s.used 60 = false) (hn : notIn t a (keys l) = true)
    (he : AllE s (s1 t a) (fun g => memN g (t :: keys l)) e) (hl : AllH s (s1 t a) (fun g => memN g (t :: keys l)) l) : Imp s (stl e ((t, (1, fun _ => b)) :: l)) := by
  refine imp_stl (h := (t, (1, fun _ => b)) :: l) (s1 t a) (fun h => by rw [h60] at h; cases h) (s1_injl hn) he ⟨fun r hr => ?_, hl⟩ (by rw [h60]; rfl)
  obtain rfl : r = 0 := by omega
  rw [s1_t]
  exact ⟨1, F, ha, Nat.zero_lt_one, by rw [hF]; exact hb, Blk.ok_mono (fun g h => by cases h) hok⟩
theorem imp_nilf {s : St} (g h i : Nat) {n : Nat} {T : TypeId} {F : Nat → Blk} {f : Nat → AV} (q : Nat → RA) (hh : s.heap h = some (1, F)) (hF : F 0 = .ones T n f) (hi : i < n) (hfi : f i = .v (.slice none 0 0)) (hg : s.used g = false) :
    Imp s ⟨s.env, put (put s.heap g (some (1, fun _ => .rats 0 q))) h (some (1, fun _ => .ones T n (updN f i (.own g 0)))), mark s.used g⟩ := by
  intro W N β w a hs
  have hne : g ≠ h := fun e => by subst e; have := hs.live _ _ _ hh; rw [hg] at this; cases this
  have h2 := hs.newfam hg none (fun o ho => by cases ho) (.slice none 0 0) (.rats 0 q) (O := fun _ => False) hs.kept (Ext.refl _ _) (fun i h => h.elim) (fun i hi => by cases hi) (fun S' β' _ => ⟨trivial, .inl ⟨rfl, rfl⟩⟩)
  have h2 : Sim W N (setv β g (.slice none 0 0)) w a ⟨s.env, put s.heap g (some (1, fun _ => .rats 0 q)), mark s.used g⟩ := h2
  generalize hb' : setv β g (.slice none 0 0) = β' at *
  have hb0 : β' g 0 = .slice none 0 0 := by rw [← hb']; unfold setv; rw [if_pos rfl]
  have h3 : put s.heap g (some (1, fun _ => Blk.rats 0 q)) h = some (1, F) := (put_ne _ _ (Ne.symm hne)).trans hh
  generalize hs2 : (⟨s.env, put s.heap g (some (1, fun _ => .rats 0 q)), mark s.used g⟩ : St) = s2 at h2
  have e2 : s2.env = s.env := by rw [← hs2]
  have e3 : s2.heap h = some (1, F) := by rw [← hs2]; exact h3
  have e4 : s2.used = mark s.used g := by rw [← hs2]
  have e5 : put s.heap g (some (1, fun _ => Blk.rats 0 q)) = s2.heap := by rw [← hs2]
  rw [e5, ← e2, ← e4]
  have hheap : ∀ k n1 F1, put s2.heap h (some (1, fun _ => Blk.ones T n (updN f i (.own g 0)))) k = some (n1, F1) → ∃ F2, s2.heap k = some (n1, F2) ∧ (k = h → n1 = 1 ∧ F1 = fun _ => Blk.ones T n (updN f i (.own g 0))) ∧ (k ≠ h → F1 = F2) := by
    intro k n1 F1 e
    by_cases c : k = h
    · subst c
      rw [put_same] at e; cases e
      exact ⟨F, e3, fun _ => ⟨rfl, rfl⟩, fun e => absurd rfl e⟩
    · rw [put_ne _ _ c] at e
      exact ⟨F1, e, fun e => absurd e c, fun _ => rfl⟩
  have hown : ∀ k, Own ⟨s2.env, put s2.heap h (some (1, fun _ => Blk.ones T n (updN f i (.own g 0)))), s2.used⟩ β' k ↔ Own s2 β' k := by
    intro k
    constructor
    · rintro ⟨g', n1, F1, r, h1, h2', h3'⟩
      obtain ⟨F2, a1, _⟩ := hheap g' n1 F1 h1
      exact ⟨g', n1, F2, r, a1, h2', h3'⟩
    · rintro ⟨g', n1, F1, r, h1, h2', h3'⟩
      by_cases c : g' = h
      · subst c
        rw [e3] at h1; cases h1
        exact ⟨g', 1, _, r, put_same _ _ _, h2', h3'⟩
      · exact ⟨g', n1, F1, r, (put_ne _ _ c).trans h1, h2', h3'⟩
  have hS : notOwn W ⟨s2.env, put s2.heap h (some (1, fun _ => Blk.ones T n (updN f i (.own g 0)))), s2.used⟩ β' = notOwn W s2 β' := funext fun k => by unfold notOwn; rw [show Own _ β' k = Own s2 β' k from propext (hown k)]
  refine ⟨β', h2.kept, h2.nodef, h2.size, fun t z hz => by rw [hS]; exact h2.env t z hz, fun k n1 F1 r h1 h2' => ?_, fun k n1 F1 h1 => ?_, fun g1 n1 F1 r1 g2 n2 F2 r2 k h1 h2' h3' h4 h5 h6 => ?_, h2.fix, fun k ho => h2.pin k ((hown k).1 ho), h2.fixd, h2.keep⟩
  · obtain ⟨F2, a1, a2, a3⟩ := hheap k n1 F1 h1
    obtain ⟨q1, q2⟩ := h2.heap k n1 F2 r a1 h2'
    rw [hS]
    by_cases c : k = h
    · obtain ⟨rfl, rfl⟩ := a2 c
      subst c
      rw [e3] at a1; cases a1
      obtain rfl : r = 0 := by omega
      rw [hF] at q1 q2
      refine ⟨fun j hj => ?_, q2.1, ?_⟩
      · by_cases c2 : j = i
        · subst c2; rw [updN_same]; rw [e4]; exact mark_same _ _
        · rw [updN_ne _ _ c2]; exact q1 j hj
      · rcases q2.2 with e | ⟨k', cs, hB, hr, hat, hx⟩
        · exact .inl e
        · refine .inr ⟨k', cs, hB, hr, hat, fun j hj => ?_⟩
          obtain ⟨y, b1, b2, b3⟩ := hx j hj
          refine ⟨y, b1, b2, ?_⟩
          by_cases c2 : j = i
          · subst c2
            rw [hfi] at b3
            have b3 : y = .slice none 0 0 := b3
            rw [updN_same]
            exact ⟨by rw [b3, hb0], none, 0, 0, b3⟩
          · rw [updN_ne _ _ c2]; exact b3
    · rw [a3 c]; exact ⟨q1, q2⟩
  · obtain ⟨F2, a1, _⟩ := hheap k n1 F1 h1
    exact h2.live _ _ _ a1
  · obtain ⟨G1, a1, _⟩ := hheap g1 n1 F1 h1
    obtain ⟨G2, b1, _⟩ := hheap g2 n2 F2 h3'
    exact h2.inj _ _ _ _ _ _ _ _ k a1 h2' b1 h4 h5 h6
end Go.Proofs.Ytddkocidfhaofaa.AM
/- Numbers from 0 to n - 1, in each package of laws. -/
namespace Go.Proofs.Ytddkocidfhaofaa.AM
open Go Go.RowKit Go.Proofs.Ytddkocidfhaofaa.PN Go.Proofs.Ytddkocidfhaofaa.V
set_option linter.unusedVariables false
set_option linter.unusedSimpArgs false
theorem k_within10 {a n : Int} (hn : 0 < n) (hn' : n < 1000000000) : Has Try.prog 14 [.i a, .i n] (.i (wthn a n)) := by
  refine has_of Try.func14 (by kernel_rfl) rfl Try.ntmps14 Try.results14 rfl rfl rfl ?_
  have h1 := Int.tmod_lt_of_pos a hn
  have h2 : -n < a.tmod n := Int.lt_tmod_of_pos a hn
  refine run0 ?_
  refine awp_if rfl (fun h => ?_) (fun h => ?_)
  · have e : wthn a n = a.tmod n + n := if_pos h
    rw [e]
    refine run0 ?_
    refine ⟨.inr rfl, _, Imp.refl _, ?_⟩
    exact .one (.tmp rfl)
  · have e : wthn a n = a.tmod n := if_neg h
    rw [e]
    refine run0 ?_
    refine ⟨.inr rfl, _, Imp.refl _, ?_⟩
    exact .one (.tmp rfl)
end Go.Proofs.Ytddkocidfhaofaa.AM

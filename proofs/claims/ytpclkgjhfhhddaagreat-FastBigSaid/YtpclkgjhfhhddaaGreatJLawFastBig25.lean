/- Joined texts, 25: GenG LawC DnD DnE DnF DnG PElim DnH DnI LawA LawD PRing LawE LawH PBt PBits LawI FsC Wthn RowsB LawF0 OpR LawFd. -/
import Derived.Test.YtpclkgjhfhhddaaGreatJLawFastBig21
import Derived.Test.YtpclkgjhfhhddaaGreatJLawFastBig20
import Derived.Test.YtpclkgjhfhhddaaGreatJLawFastBig24
import Derived.Test.YtpclkgjhfhhddaaGreatJLawFastBig15
import Derived.Test.YtpclkgjhfhhddaaGreatJLawFastBig23
import Derived.ChangeSlices
import Derived.ChangeArms
import Derived.Deep.Strs
set_option linter.unusedVariables false
set_option linter.unusedSimpArgs false
/- The document's systems: the whole matrix. -/
namespace Go.Proofs.YtpclkgjhfhhddaaGreat.AM
open Go Go.RowKit Go.Proofs.YtpclkgjhfhhddaaGreat.PN Go.Proofs.YtpclkgjhfhhddaaGreat.V
open Go.Proofs.YtpclkgjhfhhddaaGreat.LA (S S_succ S_zero S_congr)
set_option linter.unusedVariables false
set_option linter.unusedSimpArgs false
set_option maxRecDepth 8000
set_option maxHeartbeats 8000000
theorem le_fok (g : GD) {σ : Ren} (i : Nat) (hi : i < 7) : Le σ (g.f i) (g.f i) := by
  match i, hi with
  | 0, _ | 1, _ | 2, _ | 3, _ | 4, _ | 5, _ | 6, _ => exact Le.eq rfl rfl
theorem r5_expand {g : GD} (h : g.OK) : Has Tryz.prog 28 [g.v] (.mat true g.n (fun _ => g.n) (fun i j => .q (gent g i j))) := by
  have n8 := h.n8; have n1 := h.n1
  have hG := h
  refine has_of Tryz.func28 (by kernel_rfl) rfl Tryz.ntmps28 Tryz.results28 rfl rfl rfl ?_
  refine run0 ?_
  refine awp_loop (fun m' s => ∃ r, r ≤ g.n ∧ m' = g.n - r ∧ s = accS 3 (.ones WT r fun i => .row true g.n fun j => .q (gent g i j)) [(1, .ptr 1 0 0), (4, .i (r : Int))] [(1, (1, fun _ => .ones 29 7 g.f))]) g.n _ (acc_start rfl rfl (by exact ⟨by decide, rfl⟩) rfl (by decide) ?_ ?_) ⟨0, Nat.zero_le _, rfl, rfl⟩ ?_
  · exact eA
  · exact allh rfl (by decide) (bleo rfl fun _ _ => Le.id rfl) (fun i _ => g.fok _ i) True.intro
  · rintro m' s ⟨r, hr, rfl, rfl⟩
    refine run0 ?_
    refine awp_if rfl (fun h => ?_) (fun h => ?_)
    · have h : r < g.n := by omega
      refine run0 ?_
      refine awp_loop (fun m' s => ∃ c, c ≤ g.n ∧ m' = g.n - c ∧ s = accS 5 (.rats c fun j => .q (gent g r j)) [(1, .ptr 1 0 0), (3, .own 3 0), (4, .i (r : Int)), (6, .i (c : Int))] [(1, (1, fun _ => .ones 29 7 g.f)), (3, (1, fun _ => .ones WT r fun i => .row true g.n fun j => .q (gent g i j)))]) g.n _ (acc_start rfl rfl (by exact rfl) rfl (by decide) ?_ ?_) ⟨0, Nat.zero_le _, rfl, rfl⟩ ?_
      · exact eA
      · exact allh rfl (by decide) (bleo rfl fun _ _ => Le.id rfl) (fun i _ => g.fok _ i) (allh rfl (by decide) (bleo rfl fun _ _ => Le.id rfl) (fun i _ => True.intro) True.intro)
      · rintro m' s ⟨c, hc, rfl, rfl⟩
        refine run0 ?_
        refine awp_if rfl (fun h1 => ?_) (fun h1 => ?_)
        · have h1 : c < g.n := by omega
          repeat(first|refine run1 ?_|((with_reducible apply st_call);exact rfl;exact rfl;exact rfl;first|(exact Has.ag (g7 rfl rfl rfl rfl rfl rfl rfl) (r5_entry hG h h1)))|((with_reducible apply st_callg);exact rfl;exact rfl;(first|exact rfl|assumption);exact rfl;exact rfl;exact rfl;first|(exact Has.ag (g7 rfl rfl rfl rfl rfl rfl rfl) (r5_entry hG h h1))))
          refine q_loop (m' := g.n - (c + 1)) (by omega) (acc_next (a := 25) rfl rfl rfl (glue_one rfl) (by exact True.intro) rfl rfl ?_ ?_) ⟨c + 1, by omega, rfl, rfl⟩
          · refine alle rfl (Le.ptr (s1_ne (by decide))) rfl (alle rfl (Le.own (s1_ne (by decide))) rfl (alle rfl (Le.eq rfl rfl) True.intro (alle rfl (Le.eq rfl rfl) True.intro True.intro)))
          · refine allh rfl Nat.zero_lt_one (bleo rfl fun i hi => le_fok g i hi) (fun i _ => g.fok _ i) (allh rfl Nat.zero_lt_one (bleo rfl fun _ _ => Le.eq rfl rfl) (fun _ _ => True.intro) True.intro)
        · have ec : c = g.n := by omega
          subst ec
          refine run0 ?_
          refine q_loop (m' := g.n - (r + 1)) (by omega) (acc_pub (a := 29) (c := 5) rfl rfl rfl (fun i hi => if_pos hi) (by show (if _ then _ else _) = _; rw [if_neg (Nat.lt_irrefl _), Nat.sub_self]; rfl) rfl rfl (fun _ _ => rfl) rfl rfl (fun _ => by exact True.intro) (by decide) rfl rfl ?_ ?_) ⟨r + 1, by omega, rfl, rfl⟩
          · refine alle rfl (Le.ptr (s1_ne (by decide))) rfl (alle rfl (Le.eq rfl rfl) True.intro True.intro)
          · exact allh rfl Nat.zero_lt_one (bleo rfl fun i hi => le_fok g i hi) (fun i _ => g.fok _ i) True.intro
    · have er : r = g.n := by omega
      subst er
      refine run0 ?_
      refine ⟨.inr rfl, _, imp_mat 2 (fun _ => g.n) (fun i j => .q (gent g i j)) rfl rfl rfl (fun _ _ => rfl), ?_⟩
      exact .one (.tmp rfl)
end Go.Proofs.YtpclkgjhfhhddaaGreat.AM
/- Laws of dense matrices: walks: rows and matrices that are the same; ones. -/
namespace Go.Proofs.YtpclkgjhfhhddaaGreat.AM
open Go Go.RowKit Go.Proofs.YtpclkgjhfhhddaaGreat.PN Go.Proofs.YtpclkgjhfhhddaaGreat.V
open Go.Proofs.YtpclkgjhfhhddaaGreat.LA (S S_succ S_zero S_congr)
set_option linter.unusedVariables false
set_option linter.unusedSimpArgs false
set_option maxRecDepth 4000
set_option maxHeartbeats 4000000
theorem k_rows {n K : Nat} {f g : Nat → Rat} [hf : ∀ i, Wt (f i) K] (hK : K ≤ 1000000000000) (hn : n ≤ 1000) (h : ∀ i, i < n → f i = g i) : Has Tryz.prog 12 [.row false n (fun i => .q (f i)), .row false n (fun i => .q (g i))] (.b true) := by
  refine has_of Tryz.func12 (by kernel_rfl) rfl Tryz.ntmps12 Tryz.results12 rfl rfl rfl ?_
  refine run0 ?_
  refine awp_no rfl (decide_eq_false (fun h => h rfl)) ?_
  refine run0 ?_
  refine awp_loop (fun m s => ∃ k, k ≤ n ∧ m = n - k ∧ s = stl [(0, .row false n (fun i => .q (f i))), (1, .row false n (fun i => .q (g i))), (5, .i (k : Int))] []) n _ (imp_id ?_ ?_) ⟨0, Nat.zero_le _, rfl, rfl⟩ ?_
  · exact eA
  · exact hA
  · rintro m s ⟨k, hk, rfl, rfl⟩
    refine run0 ?_
    refine awp_if rfl (fun h1 => ?_) (fun h1 => ?_)
    · have h1 : k < n := by omega
      have e := h k h1
      have wg : Wt (g k) K := by rw [← e]; exact hf k
      have C := cs_same (p := f k) (q := g k) ⟨hK, hK⟩
      rw [decide_eq_true e] at C
      repeat(first|refine run1 ?_|((with_reducible apply st_call);exact rfl;exact rfl;exact rfl;first|(exact C))|((with_reducible apply st_callg);exact rfl;exact rfl;(first|exact rfl|assumption);exact rfl;exact rfl;exact rfl;first|(exact C)))
      refine awp_no rfl rfl ?_
      refine run0 ?_
      refine q_loop ?_ (imp_id ?_ ?_) ⟨k + 1, ?_, rfl, rfl⟩
      · omega
      · exact eA
      · exact hA
      · omega
    · refine run0 ?_
      refine ⟨.inr rfl, _, Imp.refl _, ?_⟩
      exact .one (.tmp rfl)
end Go.Proofs.YtpclkgjhfhhddaaGreat.AM
/- Dense matrices: walks: made, Turn, Mul. -/
namespace Go.Proofs.YtpclkgjhfhhddaaGreat.AM
open Go Go.RowKit Go.Proofs.YtpclkgjhfhhddaaGreat.PN Go.Proofs.YtpclkgjhfhhddaaGreat.V
open Go.Proofs.YtpclkgjhfhhddaaGreat.LA (S S_succ S_zero S_congr)
set_option linter.unusedVariables false
set_option linter.unusedSimpArgs false
end Go.Proofs.YtpclkgjhfhhddaaGreat.AM
/- Dense matrices: walks: the steps on rows. -/
namespace Go.Proofs.YtpclkgjhfhhddaaGreat.AM
open Go Go.RowKit Go.Proofs.YtpclkgjhfhhddaaGreat.PN Go.Proofs.YtpclkgjhfhhddaaGreat.V
open Go.Proofs.YtpclkgjhfhhddaaGreat.LA (S S_succ S_zero S_congr)
set_option linter.unusedVariables false
set_option linter.unusedSimpArgs false
set_option maxRecDepth 4000
set_option maxHeartbeats 2000000
/-- The variable that bears rows, and a determinant. -/
def wk (d : Rat) : Nat → AV := fun i => match i with
  | 0 => .own 61 0
  | 1 => .rs (.q d)
  | 2 => .rn (.q d)
  | _ => .rd (.q d)
def swp (π : Nat → Nat) (i j : Nat) : Nat → Nat := updN (updN π i (π j)) j (π i)
def det1 (d : Rat) (i at' : Nat) : Rat := if i = at' then d else -d
end Go.Proofs.YtpclkgjhfhhddaaGreat.AM
/- Dense matrices: walks: a row is taken away from another one. -/
namespace Go.Proofs.YtpclkgjhfhhddaaGreat.AM
open Go Go.RowKit Go.Proofs.YtpclkgjhfhhddaaGreat.PN Go.Proofs.YtpclkgjhfhhddaaGreat.V
open Go.Proofs.YtpclkgjhfhhddaaGreat.LA (S S_succ S_zero S_congr)
set_option linter.unusedVariables false
set_option linter.unusedSimpArgs false
set_option maxRecDepth 4000
set_option maxHeartbeats 2000000
/-- A row, less a multiple of another one from a column on, up to k. -/
def clr (A : Nat → Nat → Rat) (q : Rat) (a b col k : Nat) : Nat → Nat → Rat := fun r j => if r = a ∧ col ≤ j ∧ j < k then A a j - q * A b j else A r j
end Go.Proofs.YtpclkgjhfhhddaaGreat.AM
/- Dense matrices: walks: rows on which steps are done. -/
namespace Go.Proofs.YtpclkgjhfhhddaaGreat.AM
open Go Go.RowKit Go.Proofs.YtpclkgjhfhhddaaGreat.PN Go.Proofs.YtpclkgjhfhhddaaGreat.V
open Go.Proofs.YtpclkgjhfhhddaaGreat.LA (S S_succ S_zero S_congr)
set_option linter.unusedVariables false
set_option linter.unusedSimpArgs false
set_option maxRecDepth 4000
set_option maxHeartbeats 2000000
/-- Rows with something beside each. -/
def aug (n : Nat) (F G : Nat → Nat → Rat) : Nat → Nat → Rat := fun i j => if j < n then F i j else G i (j - n)
/-- The variable, before it bears rows. -/
def wk0 (y : AV) : Nat → AV := fun i => match i with
  | 0 => y
  | 1 => .rs (.q 1)
  | 2 => .rn (.q 1)
  | _ => .rd (.q 1)
def sg (k : Nat) : Ren := fun g r => if g = 12 then (if r < k then (12, r) else (32, r - k)) else if g = 11 then (34, r) else (g, r)
def sf : Ren := fun g r => if g = 60 then (10, r) else if g = 61 then (11, r) else if g = 62 then (12, r) else (g, r)
end Go.Proofs.YtpclkgjhfhhddaaGreat.AM
/- Elimination, as plain functions: what the steps on rows make. -/
namespace Go.Proofs.YtpclkgjhfhhddaaGreat.AM
open Go.Proofs.YtpclkgjhfhhddaaGreat.LA (S S_succ S_zero S_congr)
open Classical
set_option linter.unusedVariables false
set_option linter.unusedSimpArgs false
/-- The first number from i on, at most k further, that has p. -/
noncomputable def fnd (p : Nat → Prop) : Nat → Nat → Nat
  | 0, i => i
  | k + 1, i => if p i then i else fnd p k (i + 1)
theorem fnd_le (p : Nat → Prop) : ∀ k i, i ≤ fnd p k i ∧ fnd p k i ≤ i + k ∧ (∀ j, i ≤ j → j < fnd p k i → ¬ p j) ∧ (fnd p k i < i + k → p (fnd p k i))
  | 0, i => ⟨Nat.le_refl _, Nat.le_refl _, fun j h1 h2 => absurd h2 (by unfold fnd; omega), fun h => absurd h (by unfold fnd; omega)⟩
  | k + 1, i => by
    unfold fnd
    by_cases h : p i
    · rw [if_pos h]; exact ⟨Nat.le_refl _, by omega, fun j h1 h2 => by omega, fun _ => h⟩
    · rw [if_neg h]
      obtain ⟨h1, h2, h3, h4⟩ := fnd_le p k (i + 1)
      refine ⟨by omega, by omega, fun j h5 h6 => ?_, fun h5 => h4 (by omega)⟩
      by_cases e : j = i
      · subst e; exact h
      · exact h3 j (by omega) h6
structure ES where
  at' : Nat
  d : Rat
  π : Nat → Nat
  A : Nat → Nat → Rat
/-- Which rows are cleaned. -/
def tst (all : Bool) (at' i : Nat) : Prop := at' < i ∨ (all = true ∧ i < at')
/-- The rows up to k cleaned. -/
noncomputable def cln (A : Nat → Nat → Rat) (π : Nat → Nat) (all : Bool) (at' col m k : Nat) : Nat → Nat → Rat := fun r j =>
  if (∃ i, i < k ∧ tst all at' i ∧ r = π i) ∧ col ≤ j ∧ j < m then A r j - A r col / A (π at') col * A (π at') j else A r j
/-- One column. -/
noncomputable def stp (n m : Nat) (all : Bool) (s : ES) (col : Nat) : ES :=
  if fnd (fun i => s.A (s.π i) col ≠ 0) (n - s.at') s.at' < n then
    ⟨s.at' + 1, det1 s.d (fnd (fun i => s.A (s.π i) col ≠ 0) (n - s.at') s.at') s.at' * s.A (s.π (fnd (fun i => s.A (s.π i) col ≠ 0) (n - s.at') s.at')) col, swp s.π (fnd (fun i => s.A (s.π i) col ≠ 0) (n - s.at') s.at') s.at',
      cln s.A (swp s.π (fnd (fun i => s.A (s.π i) col ≠ 0) (n - s.at') s.at') s.at') all s.at' col m n⟩
  else s
noncomputable def stps (n m : Nat) (all : Bool) (A : Nat → Nat → Rat) : Nat → ES
  | 0 => ⟨0, 1, fun i => i, A⟩
  | c + 1 => stp n m all (stps n m all A c) c
/-- What holds of the rows at all times. -/
structure EOK (n c X : Nat) (s : ES) : Prop where
  le : s.at' ≤ c
  lt : ∀ i, i < n → s.π i < n
  inj : ∀ i j, i < n → j < n → s.π i = s.π j → i = j
  wd : Wt s.d X
  wA : ∀ i j, Wt (s.A i j) X
end Go.Proofs.YtpclkgjhfhhddaaGreat.AM
/- Dense matrices: walks: all steps. -/
namespace Go.Proofs.YtpclkgjhfhhddaaGreat.AM
open Go Go.RowKit Go.Proofs.YtpclkgjhfhhddaaGreat.PN Go.Proofs.YtpclkgjhfhhddaaGreat.V
open Go.Proofs.YtpclkgjhfhhddaaGreat.LA (S S_succ S_zero S_congr)
set_option linter.unusedVariables false
set_option linter.unusedSimpArgs false
set_option maxRecDepth 4000
set_option maxHeartbeats 4000000
end Go.Proofs.YtpclkgjhfhhddaaGreat.AM
/- Dense matrices: walks: determinants, ranks. -/
namespace Go.Proofs.YtpclkgjhfhhddaaGreat.AM
open Go Go.RowKit Go.Proofs.YtpclkgjhfhhddaaGreat.PN Go.Proofs.YtpclkgjhfhhddaaGreat.V
open Go.Proofs.YtpclkgjhfhhddaaGreat.LA (S S_succ S_zero S_congr)
set_option linter.unusedVariables false
set_option linter.unusedSimpArgs false
set_option maxRecDepth 4000
set_option maxHeartbeats 4000000
/-- What the steps make of a matrix. -/
noncomputable def gs (n : Nat) (F : Nat → Nat → Rat) : ES := stps n n false (aug n F fun _ _ => 0) n
noncomputable def gdet (n : Nat) (F : Nat → Nat → Rat) : Rat := if (gs n F).at' < n then 0 else (gs n F).d
end Go.Proofs.YtpclkgjhfhhddaaGreat.AM
/- Laws of dense matrices: walks: what they share. -/
namespace Go.Proofs.YtpclkgjhfhhddaaGreat.AM
open Go Go.RowKit Go.Proofs.YtpclkgjhfhhddaaGreat.PN Go.Proofs.YtpclkgjhfhhddaaGreat.V
open Go.Proofs.YtpclkgjhfhhddaaGreat.LA (S S_succ S_zero S_congr)
set_option linter.unusedVariables false
set_option linter.unusedSimpArgs false
set_option maxRecDepth 4000
set_option maxHeartbeats 4000000
end Go.Proofs.YtpclkgjhfhhddaaGreat.AM
/- Laws of dense matrices: walks: ones from corner to corner. -/
namespace Go.Proofs.YtpclkgjhfhhddaaGreat.AM
open Go Go.RowKit Go.Proofs.YtpclkgjhfhhddaaGreat.PN Go.Proofs.YtpclkgjhfhhddaaGreat.V
open Go.Proofs.YtpclkgjhfhhddaaGreat.LA (S S_succ S_zero S_congr)
set_option linter.unusedVariables false
set_option linter.unusedSimpArgs false
set_option maxRecDepth 4000
set_option maxHeartbeats 4000000
/-- Rows that are gathered in slot t: none, or k of them. -/
def matS (t : Nat) (e : List (Nat × AV)) (v : Nat → AV) : Nat → St
  | 0 => stl ((t, .v (.slice none 0 0)) :: e) []
  | k + 1 => stl ((t, .own t 0) :: e) [(t, (1, fun _ => .ones WT (k + 1) v))]
def idm (i j : Nat) : Rat := if i = j then 1 else 0
instance idm_wt (i j : Nat) : Wt (idm i j) 1 := ⟨by unfold idm; split <;> decide⟩
end Go.Proofs.YtpclkgjhfhhddaaGreat.AM
/- Products of matrices: the plain laws that DenseRing asks for. -/
namespace Go.Proofs.YtpclkgjhfhhddaaGreat.AM
open Go.Proofs.YtpclkgjhfhhddaaGreat.LA (S S_succ S_zero S_congr S_mul S_mulr S_swap S_single)
set_option linter.unusedVariables false
set_option linter.unusedSimpArgs false
end Go.Proofs.YtpclkgjhfhhddaaGreat.AM
/- Laws of dense matrices: walks: matrices of small numbers (under way). -/
namespace Go.Proofs.YtpclkgjhfhhddaaGreat.AM
open Go Go.RowKit Go.Proofs.YtpclkgjhfhhddaaGreat.PN Go.Proofs.YtpclkgjhfhhddaaGreat.V
open Go.Proofs.YtpclkgjhfhhddaaGreat.LA (S S_succ S_zero S_congr)
set_option linter.unusedVariables false
set_option linter.unusedSimpArgs false
set_option maxRecDepth 4000
set_option maxHeartbeats 4000000
/-- Rows that are gathered in slot 6, all of them own. -/
def famS (e : List (Nat × AV)) (m : Nat) (A : Nat → Nat → Rat) : Nat → St
  | 0 => stl ((6, .v (.slice none 0 0)) :: e) []
  | k + 1 => stl ((6, .own 6 0) :: e) [(6, (1, fun _ => .ones WT (k + 1) (fun i => .own 3 i))), (3, (k + 1, fun r => .rats m (fun j => .q (A r j))))]
def sm (k : Nat) : Ren := fun g r => if g = 3 then (if r < k then (3, r) else (31, r - k)) else if g = 6 then (33, r) else (g, r)
/-- The rows, as they are drawn. -/
def mbase (n : Nat) (zs : List Int) (i j : Nat) : Rat := rowq zs (i * n + j)
/-- The last row's place, and the one ahead of it. -/
def la (n : Nat) : Nat := ((n : Int) - 1).toNat
def lb2 (n : Nat) : Nat := ((n : Int) - 2).toNat
def nv (n : Nat) (zs : List Int) (c : Nat) : Rat := if 2 < n then mbase n zs 0 c + mbase n zs (lb2 n) c else mbase n zs 0 c
def mx (n : Nat) (zs : List Int) (j : Nat) : Nat → Nat → Rat := fun r c => if r = la n ∧ c < j then nv n zs c else mbase n zs r c
def mc (n : Nat) (zs : List Int) : Prop := 1 < n ∧ 2 < zs.length ∧ wthn (zs.getD 2 0) 3 = 0
open Classical in
/-- The matrix that is made. -/
noncomputable def mkm (n : Nat) (zs : List Int) (i j : Nat) : Rat := if mc n zs then mx n zs n i j else mbase n zs i j
def mx1 (n : Nat) (zs : List Int) (j : Nat) : Nat → Nat → Rat := fun r c => if r = la n ∧ c = j then mx n zs j 0 j else mx n zs j r c
instance mbase_wt (n : Nat) (zs : List Int) (i j : Nat) : Wt (mbase n zs i j) 1 := rowq_wt _ _
end Go.Proofs.YtpclkgjhfhhddaaGreat.AM
/- The document's elimination: walked. It does what the program's does. -/
namespace Go.Proofs.YtpclkgjhfhhddaaGreat.AM
open Go Go.RowKit Go.Proofs.YtpclkgjhfhhddaaGreat.PN Go.Proofs.YtpclkgjhfhhddaaGreat.V
open Go.Proofs.YtpclkgjhfhhddaaGreat.LA (S S_succ S_zero S_congr)
set_option linter.unusedVariables false
set_option linter.unusedSimpArgs false
set_option maxRecDepth 4000
set_option maxHeartbeats 4000000
/-- How long all numbers are while the steps are done. -/
structure TB (n m X : Nat) (A : Nat → Nat → Rat) : Prop where
  d : ∀ c, c ≤ n → Wt (stps n m false A c).d X
  A : ∀ c, c ≤ n → ∀ i j, Wt ((stps n m false A c).A i j) X
theorem TB.wt {n m X : Nat} {A : Nat → Nat → Rat} (h : TB n m X A) (i j : Nat) : Wt (A i j) X := h.A 0 (Nat.zero_le _) i j
/-- The determinant, as far as it is known. -/
def dd (c : Nat) (s : ES) : Rat := if s.at' < c then 0 else s.d
section
variable {p q : Rat} {a b : Nat} [hp : Wt p a] [hq : Wt q b]
end
end Go.Proofs.YtpclkgjhfhhddaaGreat.AM
/- How long numbers are, by bits. -/
namespace Go.Proofs.YtpclkgjhfhhddaaGreat.AM
open Go.Proofs.YtpclkgjhfhhddaaGreat.PN
set_option linter.unusedVariables false
set_option linter.unusedSimpArgs false
class Bt (q : Rat) (k : outParam Nat) : Prop where
  n : nm q < 2 ^ k
  d : q.den < 2 ^ k
theorem Bt.mono {q : Rat} {a b : Nat} (h : Bt q a) (k : a ≤ b) : Bt q b :=
  ⟨Nat.lt_of_lt_of_le h.n (Nat.pow_le_pow_right (by decide) k), Nat.lt_of_lt_of_le h.d (Nat.pow_le_pow_right (by decide) k)⟩
theorem Bt.of_mk {n d k : Nat} (s : Bool) (hd : d ≠ 0) (h1 : n < 2 ^ k) (h2 : d < 2 ^ k) : Bt (PN.mk s n d) k :=
  ⟨by rw [mk_num s hd]; exact Nat.lt_of_le_of_lt (Nat.div_le_self _ _) h1, by rw [mk_den s hd]; exact Nat.lt_of_le_of_lt (Nat.div_le_self _ _) h2⟩
theorem lt_mul {x y a b : Nat} (h : x < 2 ^ a) (k : y < 2 ^ b) : x * y < 2 ^ (a + b) := by rw [Nat.pow_add]; exact Nat.mul_lt_mul'' h k
instance Bt.mul {p q : Rat} {a b : Nat} [h : Bt p a] [k : Bt q b] : Bt (p * q) (a + b) := by
  rw [mul_parts]
  exact Bt.of_mk _ (Nat.mul_ne_zero (den_ne p) (den_ne q)) (lt_mul h.n k.n) (lt_mul h.d k.d)
theorem Bt.pos {q : Rat} {a : Nat} (h : Bt q a) : 0 < a := by
  rcases Nat.eq_zero_or_pos a with rfl | h0
  · have := h.d; have := q.den_pos; omega
  · exact h0
instance Bt.zero : Bt 0 1 := ⟨by decide, by decide⟩
instance Bt.one : Bt 1 1 := ⟨by decide, by decide⟩
instance Bt.div {p q : Rat} {a b : Nat} [h : Bt p a] [k : Bt q b] : Bt (p / q) (a + b) := by
  by_cases e : q = 0
  · rw [e, Rat.div_def, Rat.inv_zero, Rat.mul_zero]
    exact Bt.zero.mono (by have := h.pos; omega)
  · rw [div_parts p q e]
    exact Bt.of_mk _ (Nat.mul_ne_zero (den_ne p) (fun e' => e (nm_eq_zero.1 e'))) (lt_mul h.n k.d) (lt_mul h.d k.n)
instance Bt.add {p q : Rat} {a b : Nat} [h : Bt p a] [k : Bt q b] : Bt (p + q) (a + b + 1) := by
  have h1 := lt_mul h.n k.d
  have h2 : nm q * p.den < 2 ^ (a + b) := by rw [Nat.add_comm]; exact lt_mul k.n h.d
  have h3 := lt_mul h.d k.d
  have hp : 2 ^ (a + b + 1) = 2 ^ (a + b) * 2 := Nat.pow_succ ..
  have hd := Nat.mul_ne_zero (den_ne p) (den_ne q)
  by_cases e : ng p = ng q
  · rw [add_parts_same p q e]; exact Bt.of_mk _ hd (by omega) (by omega)
  · rcases Nat.le_total (nm q * p.den) (nm p * q.den) with hle | hle
    · rw [add_parts_ge p q e hle]; exact Bt.of_mk _ hd (by omega) (by omega)
    · rw [add_parts_lt p q e hle]; exact Bt.of_mk _ hd (by omega) (by omega)
instance Bt.neg {p : Rat} {a : Nat} [h : Bt p a] : Bt (-p) a := ⟨by rw [neg_nm]; exact h.n, by rw [neg_den]; exact h.d⟩
instance Bt.sub {p q : Rat} {a b : Nat} [h : Bt p a] [k : Bt q b] : Bt (p - q) (a + b + 1) := by
  rw [Rat.sub_eq_add_neg]; exact inferInstance
theorem Bt.wt {q : Rat} {k X : Nat} (h : Bt q k) (hX : k / 32 + 1 ≤ X) : Wt q X := by
  have hB : 2 ^ k ≤ B ^ (k / 32 + 1) := by
    rw [show B ^ (k / 32 + 1) = 2 ^ (32 * (k / 32 + 1)) by rw [Nat.pow_mul]]
    exact Nat.pow_le_pow_right (by decide) (by omega)
  refine ⟨Nat.le_trans ?_ hX⟩
  have h1 := (lt_iff (nm q) _).1 (Nat.lt_of_lt_of_le h.n hB)
  have h2 := (lt_iff q.den _).1 (Nat.lt_of_lt_of_le h.d hB)
  unfold PN.wt
  omega
theorem smal_bits : ∀ x : _root_.Fin 41, ∀ y : _root_.Fin 5, nm ((((x.val : Int) - 20 : Int) : Rat) / ((1 + (y.val : Int) : Int) : Rat)) < 2 ^ 5 ∧ ((((x.val : Int) - 20 : Int) : Rat) / ((1 + (y.val : Int) : Int) : Rat)).den < 2 ^ 5 := by decide +kernel
instance smal_bt (a : Int) : Bt (smal a) 5 := by
  obtain ⟨h1, h2⟩ := wthn_lt (a := a) (n := 41) (by decide)
  obtain ⟨h3, h4⟩ := wthn_lt (a := a.tdiv 41) (n := 5) (by decide)
  have := smal_bits ⟨(wthn a 41).toNat, by omega⟩ ⟨(wthn (a.tdiv 41) 5).toNat, by omega⟩
  rw [show (((wthn a 41).toNat : Nat) : Int) = wthn a 41 by omega, show (((wthn (a.tdiv 41) 5).toNat : Nat) : Int) = wthn (a.tdiv 41) 5 by omega] at this
  exact ⟨this.1, this.2⟩
instance rowq_bt (zs : List Int) (i : Nat) : Bt (rowq zs i) 5 := smal_bt _
end Go.Proofs.YtpclkgjhfhhddaaGreat.AM
/- How long numbers are, by bits: while the steps are done. -/
namespace Go.Proofs.YtpclkgjhfhhddaaGreat.AM
open Go.Proofs.YtpclkgjhfhhddaaGreat.PN
open Go.Proofs.YtpclkgjhfhhddaaGreat.LA (S S_succ S_zero S_congr)
set_option linter.unusedVariables false
set_option linter.unusedSimpArgs false
/-- How many bits numbers have when a pivots are found. -/
def gb (n K a : Nat) : Nat := 4 ^ (min a (n - 1)) * (K + 1)
theorem gb_pos (n K a : Nat) : K + 1 ≤ gb n K a := Nat.le_mul_of_pos_left _ (Nat.pow_pos (by decide))
theorem gb_last {n K a : Nat} (h : ¬ a + 1 ≤ n - 1) : gb n K (a + 1) = gb n K a ∨ a + 1 ≤ n - 1 := by
  unfold gb
  exact .inl (by rw [show min (a + 1) (n - 1) = min a (n - 1) by omega])
theorem gb_step {n K a : Nat} (h : a + 1 ≤ n - 1) : gb n K (a + 1) = 4 * gb n K a := by
  unfold gb
  rw [show min (a + 1) (n - 1) = min a (n - 1) + 1 by omega, Nat.pow_succ]
  ac_rfl
structure EB (n K : Nat) (s : ES) : Prop where
  A : ∀ i j, Bt (s.A i j) (gb n K s.at' - 1)
  d : Bt s.d (3 * gb n K s.at')
  d' : s.at' < n → Bt s.d (2 * gb n K s.at')
theorem det1_bt {d : Rat} {X i j : Nat} [h : Bt d X] : Bt (det1 d i j) X := by
  unfold det1; split
  · exact h
  · exact inferInstance
theorem stp_eb {n m c K : Nat} {s : ES} (hn : 0 < n) (h : EB n K s) : EB n K (stp n m false s c) := by
  unfold stp
  split
  · rename_i hi
    obtain ⟨h1, h2, _, _⟩ := fnd_le (fun i => s.A (s.π i) c ≠ 0) (n - s.at') s.at'
    generalize fnd (fun i => s.A (s.π i) c ≠ 0) (n - s.at') s.at' = i0 at *
    have han : s.at' < n := by omega
    have w1 := det1_bt (i := i0) (j := s.at') (h := h.d' han)
    have w2 := h.A (s.π i0) c
    have hp := gb_pos n K s.at'
    have w3 := Bt.mul (h := w1) (k := w2)
    by_cases hl : s.at' + 1 ≤ n - 1
    · have e := gb_step (K := K) hl
      refine ⟨fun i j => ?_, w3.mono ?_, fun _ => w3.mono ?_⟩
      · show Bt (cln _ _ _ _ _ _ _ i j) (gb n K (s.at' + 1) - 1)
        rw [e]
        unfold cln
        split
        · have hA := h.A
          exact (inferInstance : Bt (s.A i j - s.A i c / s.A (swp s.π i0 s.at' s.at') c * s.A (swp s.π i0 s.at' s.at') j) _).mono (by omega)
        · exact (h.A i j).mono (by omega)
      · show _ ≤ 3 * gb n K (s.at' + 1); omega
      · show _ ≤ 2 * gb n K (s.at' + 1); omega
    · have e : gb n K (s.at' + 1) = gb n K s.at' := (gb_last hl).resolve_right hl
      refine ⟨fun i j => ?_, w3.mono ?_, fun hlt => ?_⟩
      · show Bt (cln _ _ _ _ _ _ _ i j) (gb n K (s.at' + 1) - 1)
        rw [e]
        unfold cln
        rw [if_neg]
        · exact h.A i j
        · rintro ⟨⟨k, h3, h4, _⟩, _⟩
          rcases h4 with h4 | ⟨h4, _⟩
          · omega
          · cases h4
      · show _ ≤ 3 * gb n K (s.at' + 1); omega
      · have hlt : s.at' + 1 < n := hlt
        omega
  · exact h
theorem stps_eb {n m K : Nat} {A : Nat → Nat → Rat} (hn : 0 < n) (hK : 1 ≤ K) [hA : ∀ i j, Bt (A i j) K] : ∀ c, EB n K (stps n m false A c)
  | 0 => by
    have e : gb n K 0 = K + 1 := by unfold gb; rw [Nat.zero_min, Nat.pow_zero, Nat.one_mul]
    have h1 : Bt (1 : Rat) 1 := inferInstance
    refine ⟨fun i j => ?_, ?_, fun _ => ?_⟩
    · show Bt (A i j) (gb n K 0 - 1); rw [e]; exact hA i j
    · show Bt (1 : Rat) (3 * gb n K 0); rw [e]; exact h1.mono (by omega)
    · show Bt (1 : Rat) (2 * gb n K 0); rw [e]; exact h1.mono (by omega)
  | c + 1 => stp_eb hn (stps_eb hn hK c)
theorem gb_le (n K a : Nat) : gb n K a ≤ 4 ^ (n - 1) * (K + 1) := Nat.mul_le_mul_right _ (Nat.pow_le_pow_right (by decide) (Nat.min_le_right _ _))
theorem TB.of {n m K X : Nat} {A : Nat → Nat → Rat} (hn : 0 < n) (hK : 1 ≤ K) [hA : ∀ i j, Bt (A i j) K] (hX : (3 * (4 ^ (n - 1) * (K + 1))) / 32 + 1 ≤ X) : TB n m X A := by
  refine ⟨fun c _ => ?_, fun c _ i j => ?_⟩
  · have h := (stps_eb (m := m) hn hK (hA := hA) c).d
    have := gb_le n K (stps n m false A c).at'
    exact (h.mono (show _ ≤ 3 * (4 ^ (n - 1) * (K + 1)) by omega)).wt hX
  · have h := (stps_eb (m := m) hn hK (hA := hA) c).A i j
    have := gb_le n K (stps n m false A c).at'
    exact (h.mono (show _ ≤ 3 * (4 ^ (n - 1) * (K + 1)) by omega)).wt hX
end Go.Proofs.YtpclkgjhfhhddaaGreat.AM
/- The document's dense matrices: walked. -/
namespace Go.Proofs.YtpclkgjhfhhddaaGreat.AM
open Go Go.RowKit Go.Proofs.YtpclkgjhfhhddaaGreat.PN Go.Proofs.YtpclkgjhfhhddaaGreat.V
open Go.Proofs.YtpclkgjhfhhddaaGreat.LA (S S_succ S_zero S_congr)
set_option linter.unusedVariables false
set_option linter.unusedSimpArgs false
set_option maxRecDepth 4000
set_option maxHeartbeats 4000000
theorem Wt.sumn {K : Nat} {f : Nat → Rat} : ∀ {n : Nat}, (∀ i, i < n → Wt (f i) K) → Wt (S n f) (n * (K + 1) + 1)
  | 0, _ => by rw [S_zero, Nat.zero_mul]; exact (inferInstance : Wt 0 1)
  | n + 1, h => by
    have h1 := Wt.sumn (n := n) (fun i hi => h i (by omega))
    have h2 := h n (Nat.lt_succ_self n)
    rw [S_succ]
    exact (inferInstance : Wt (S n f + f n) _).mono (by rw [Nat.succ_mul]; omega)
theorem r7_apply {n m K L : Nat} {F : Nat → Nat → Rat} {v : Nat → Rat} [hf : ∀ i j, Wt (F i j) K] [hv : ∀ i, Wt (v i) L] (hK : m * (K + L + 1) + 1 ≤ 15000 ∧ K + L ≤ 15000) (hn : n ≤ 8) (hm : m ≤ 8) : Has Tryz.prog 27 [.mat false n (fun _ => m) (fun i j => .q (F i j)), .row false m (fun i => .q (v i))] (.row true n (fun i => .q (S m fun j => F i j * v j))) := by
  refine has_of Tryz.func27 (by kernel_rfl) rfl Tryz.ntmps27 Tryz.results27 rfl rfl rfl ?_
  refine run0 ?_
  refine awp_loop (fun m' s => ∃ k, k ≤ n ∧ m' = n - k ∧ s = accS 5 (.rats k (fun i => .q (S m fun j => F i j * v j))) [(0, .mat false n (fun _ => m) (fun i j => .q (F i j))), (1, .row false m (fun i => .q (v i))), (6, .i (k : Int))] []) n _ (acc_start rfl rfl (by exact rfl) rfl (by decide) ?_ ?_) ⟨0, Nat.zero_le _, rfl, rfl⟩ ?_
  · exact eA
  · exact hA
  · rintro m' s ⟨k, hk, rfl, rfl⟩
    refine run0 ?_
    refine awp_if rfl (fun h => ?_) (fun h => ?_)
    · have h : k < n := by omega
      repeat(first|refine run1 ?_|((with_reducible apply st_call);exact rfl;exact rfl;exact rfl;first|(exact hs_zero))|((with_reducible apply st_callg);exact rfl;exact rfl;(first|exact rfl|assumption);exact rfl;exact rfl;exact rfl;first|(exact hs_zero)))
      refine awp_loop (fun m' s => ∃ j, j ≤ m ∧ m' = m - j ∧ s = accS 5 (.rats k (fun i => .q (S m fun j => F i j * v j))) [(0, .mat false n (fun _ => m) (fun i j => .q (F i j))), (1, .row false m (fun i => .q (v i))), (6, .i (k : Int)), (7, .rptr 7 0 0), (8, .i (j : Int))] [(7, (1, fun _ => .rats 1 fun _ => .q (S j fun j => F k j * v j)))]) m _ (imp_id ?_ ?_) ⟨0, Nat.zero_le _, rfl, rfl⟩ ?_
      · exact eA
      · exact hA
      · rintro m' s ⟨j, hj, rfl, rfl⟩
        have w1 : Wt (S j fun j => F k j * v j) (m * (K + L + 1) + 1) := (Wt.sumn fun i _ => inferInstance).mono (Nat.succ_le_succ (Nat.mul_le_mul_right _ hj))
        refine run0 ?_
        refine awp_if rfl (fun h1 => ?_) (fun h1 => ?_)
        · have h1 : j < m := by omega
          repeat(first|refine run1 ?_|((with_reducible apply st_call);exact rfl;exact rfl;exact rfl;first|(exact cs_mul ⟨by omega, by omega⟩)|(exact cs_add ⟨by omega, by omega⟩))|((with_reducible apply st_callg);exact rfl;exact rfl;(first|exact rfl|assumption);exact rfl;exact rfl;exact rfl;first|(exact cs_mul ⟨by omega, by omega⟩)|(exact cs_add ⟨by omega, by omega⟩)))
          refine q_loop (m' := m - (j + 1)) (by omega) (imp_id (e := (5, .own 5 0) :: [(0, .mat false n (fun _ => m) (fun i j => .q (F i j))), (1, .row false m (fun i => .q (v i))), (6, .i (k : Int)), (7, .rptr 7 0 0), (8, .i ((j + 1 : Nat) : Int))]) (h := (5, (1, fun _ => .rats k (fun i => .q (S m fun j => F i j * v j)))) :: [(7, (1, fun _ => .rats 1 fun _ => .q (S (j + 1) fun j => F k j * v j)))]) ?_ ?_) ⟨j + 1, by omega, rfl, rfl⟩
          · exact eA
          · exact hA
        · obtain rfl : j = m := by omega
          refine run0 ?_
          refine q_loop (m' := n - (k + 1)) (by omega) (acc_next (a := 39) rfl rfl rfl (glue_one rfl) (by exact True.intro) rfl rfl ?_ (by exact True.intro)) ⟨k + 1, by omega, rfl, rfl⟩
          refine alle rfl (Le.eq rfl rfl) True.intro (alle rfl (Le.eq rfl rfl) True.intro (alle rfl (Le.eq rfl rfl) True.intro True.intro))
    · obtain rfl : k = n := by omega
      refine run0 ?_
      refine ⟨.inr rfl, _, imp_row 4 rfl rfl rfl, ?_⟩
      exact .one (.tmp rfl)
end Go.Proofs.YtpclkgjhfhhddaaGreat.AM
/- The document's chapter 9: displaced matrices, applied ones; both. -/
namespace Go.Proofs.YtpclkgjhfhhddaaGreat.AM
open Go Go.RowKit Go.Proofs.YtpclkgjhfhhddaaGreat.PN Go.Proofs.YtpclkgjhfhhddaaGreat.V
open Go.Proofs.YtpclkgjhfhhddaaGreat.LA (S S_succ S_zero S_congr)
set_option linter.unusedVariables false
set_option linter.unusedSimpArgs false
set_option maxRecDepth 8000
set_option maxHeartbeats 8000000
theorem r9_apply {g : GD} {v : Nat → Rat} {n : Nat} (h : g.OK) (hv : ∀ i, Wt (v i) 200) (hn : n ≤ 1000) : Has Tryz.prog 11 [g.v, .row false n (fun i => .q (v i))] (if n = g.n then .tup (.row true g.n fun i => .q (S g.n fun j => gec g i j * v j)) (.i 0) else .tup (.v (.slice none 0 0)) (.i 3)) := by
  have n8 := h.n8; have n1 := h.n1
  have he := gec_wt h
  by_cases hl : n = g.n
  · rw [if_pos hl]
    subst hl
    have hK : g.n * (300 + 200 + 1) + 1 ≤ 15000 ∧ 300 + 200 ≤ 15000 := by
      have := Nat.mul_le_mul_right (300 + 200 + 1) n8
      omega
    refine has_of Tryz.func11 (by kernel_rfl) rfl Tryz.ntmps11 Tryz.results11 rfl rfl rfl ?_
    refine run0 ?_
    refine awp_no rfl (decide_eq_false fun e => e rfl) ?_
    repeat(first|refine run1 ?_|((with_reducible apply st_call);exact rfl;exact rfl;exact rfl;first|(exact Has.ag (g7 rfl rfl rfl rfl rfl rfl rfl) (r5_expand h))|(exact Has.gec (r7_apply (hf := he) (hv := hv) hK n8 n8)))|((with_reducible apply st_callg);exact rfl;exact rfl;(first|exact rfl|assumption);exact rfl;exact rfl;exact rfl;first|(exact Has.ag (g7 rfl rfl rfl rfl rfl rfl rfl) (r5_expand h))|(exact Has.gec (r7_apply (hf := he) (hv := hv) hK n8 n8))))
    exact ⟨.inr rfl, _, Imp.refl _, .two (.tmp rfl) (.tmp rfl)⟩
  · rw [if_neg hl]
    refine has_of Tryz.func11 (by kernel_rfl) rfl Tryz.ntmps11 Tryz.results11 rfl rfl rfl ?_
    refine run0 ?_
    refine awp_yes rfl (decide_eq_true fun e => hl (by omega)) ?_
    refine run0 ?_
    exact ⟨.inr rfl, _, Imp.refl _, .two (.tmp rfl) (.tmp rfl)⟩
end Go.Proofs.YtpclkgjhfhhddaaGreat.AM
/- Numbers from 0 to n - 1, in each package of laws. -/
namespace Go.Proofs.YtpclkgjhfhhddaaGreat.AM
open Go Go.RowKit Go.Proofs.YtpclkgjhfhhddaaGreat.PN Go.Proofs.YtpclkgjhfhhddaaGreat.V
set_option linter.unusedVariables false
set_option linter.unusedSimpArgs false
end Go.Proofs.YtpclkgjhfhhddaaGreat.AM
/- Rows that are the same: the rest. -/
namespace Go.Proofs.YtpclkgjhfhhddaaGreat.AM
open Go Go.RowKit Go.Proofs.YtpclkgjhfhhddaaGreat.PN Go.Proofs.YtpclkgjhfhhddaaGreat.V
open Go.Proofs.YtpclkgjhfhhddaaGreat.LA (S S_succ S_zero S_congr)
set_option linter.unusedVariables false
set_option linter.unusedSimpArgs false
set_option maxRecDepth 4000
set_option maxHeartbeats 4000000
theorem k_rowsb {n K : Nat} {f g : Nat → Rat} (hf : ∀ i, i < n → Wt (f i) K) (hK1 : 1 ≤ K) (hK : K ≤ 1000000000000) (hn : n ≤ 1000) (h : ∀ i, i < n → f i = g i) : Has Tryz.prog 12 [.row false n (fun i => .q (f i)), .row false n (fun i => .q (g i))] (.b true) := by
  have w : ∀ i, Wt (if i < n then f i else 0) K := fun i => by
    split
    · rename_i h; exact hf i h
    · exact (inferInstance : Wt 0 1).mono hK1
  refine Has.args (k_rows (f := fun i => if i < n then f i else 0) (g := fun i => if i < n then f i else 0) (hf := w) hK hn (fun _ _ => rfl)) fun S B β w vs hv => rvs_cons (rv_row fun i hi => ?_) (fun us hu => rvs_cons (rv_row fun i hi => ?_) (fun us hu => hu) hu) hv
  · rw [if_pos hi]
  · rw [if_pos hi, h i hi]
end Go.Proofs.YtpclkgjhfhhddaaGreat.AM
/- Laws of matrices that are applied: what is known. -/
namespace Go.Proofs.YtpclkgjhfhhddaaGreat.AM
open Go Go.RowKit Go.Proofs.YtpclkgjhfhhddaaGreat.PN Go.Proofs.YtpclkgjhfhhddaaGreat.V
open Go.Proofs.YtpclkgjhfhhddaaGreat.LA (S S_succ S_zero S_congr)
set_option linter.unusedVariables false
set_option linter.unusedSimpArgs false
set_option maxRecDepth 8000
set_option maxHeartbeats 8000000
inductive RowC : AV → Nat → (Nat → Rat) → Prop
  | nil {f : Nat → Rat} : RowC (.v (.slice none 0 0)) 0 f
  | row {n : Nat} {q : Nat → RA} {f : Nat → Rat} (h : ∀ i, i < n → q i = .q (f i)) : RowC (.row false n q) n f
theorem RowC.nil' {x : AV} {f : Nat → Rat} (h : x = .v (.slice none 0 0)) : RowC x 0 f := by rw [h]; exact .nil
theorem RowC.row' {x : AV} {n : Nat} {q : Nat → RA} {f : Nat → Rat} (h : x = .row false n q) (k : ∀ i, i < n → q i = .q (f i)) : RowC x n f := by rw [h]; exact .row k
theorem RowC.one {x : AV} {q : Nat → RA} {f : Nat → Rat} (h : x = .row false 1 q) (k : q 0 = .q (f 0)) : RowC x 1 f := .row' h fun i hi => by
  obtain rfl : i = 0 := by omega
  exact k
theorem RowC.rv {x : AV} {n : Nat} {f : Nat → Rat} (h : RowC x n f) {S : Nat → Prop} {B : Nat} {β : Nat → Nat → Value} {w : World} (v : Value) (hv : RV S B β w x v) : RV S B β w (.row false n fun i => .q (f i)) v := by
  cases h with
  | nil => exact rv_nil0 v hv
  | row h => exact rv_row h v hv
theorem gd_args {g : GD} {S : Nat → Prop} {B : Nat} {β : Nat → Nat → Value} {w : World} {u : Nat → AV} (h0 : u 0 = .i g.k) (h1 : u 1 = .i g.n) (h2 : u 2 = .i g.r) (h3 : RowC (u 3) g.la g.A) (h4 : RowC (u 4) g.lb g.B) (h5 : RowC (u 5) g.lg g.G) (h6 : RowC (u 6) g.lh g.H) : ∀ i, i < 7 → ∀ v, RV S B β w (u i) v → RV S B β w (g.f i) v := by
  intro i hi v hv
  match i, hi with
  | 0, _ => rw [h0] at hv; exact hv
  | 1, _ => rw [h1] at hv; exact hv
  | 2, _ => rw [h2] at hv; exact hv
  | 3, _ => exact h3.rv v hv
  | 4, _ => exact h4.rv v hv
  | 5, _ => exact h5.rv v hv
  | 6, _ => exact h6.rv v hv
def kg9 : GD := ⟨5, 1, 0, 1, 1, 0, 0, fun _ => 3, fun _ => 1, fun _ => 0, fun _ => 0⟩
theorem kg9_ok : kg9.OK := by
  refine ⟨by decide, by decide, by decide, by decide, by decide, fun h => (by cases h), fun _ => rfl, ?_, ⟨fun i _ => by show wt 3 ≤ 4; decide, fun i _ => by show wt 1 ≤ 4; decide, fun i hi => absurd hi (Nat.not_lt_zero _), fun i hi => absurd hi (Nat.not_lt_zero _)⟩, fun i hi j hj => by show (3 : Rat) ≠ 1; decide⟩
  intro i hi
  have hi4 : i = 0 ∨ i = 1 ∨ i = 2 ∨ i = 3 := by omega
  rcases hi4 with rfl | rfl | rfl | rfl <;> decide
theorem has_nil1 {P : Program} {f : FuncId} {x r : AV} {q : Nat → RA} (H : Has P f [x, .row false 0 q] r) : Has P f [x, .v (.slice none 0 0)] r :=
  Has.args H fun S B β w vs hv => rvs_cons (fun v hv => hv) (fun us hu => rvs_cons rv_nil0 (fun us hu => hu) hu) hv
theorem k_known9 : Has Tryz.prog 4 [] (.b true) := by
  have e1 : gdis kg9 0 0 = 1 := by decide +kernel
  have cs := hs_same (p := gdis kg9 0 0) (q := 1) (by rw [e1]; decide) (by decide)
  rw [decide_eq_true e1] at cs
  have cd : Has Tryz.prog 14 [kg9.v] (.mat true 1 (fun _ => 1) (fun i j => .q (gdis kg9 i j))) := fs_disp kg9_ok
  have c3 := hs_int 3 (by decide) (by decide)
  have c1 := hs_int 1 (by decide) (by decide)
  have ca := fs_apply (g := kg9) (v := fun _ => 0) (n := 0) kg9_ok (fun i => ⟨by decide⟩) (by decide)
  rw [if_neg (show ¬ (0 = kg9.n) from by decide)] at ca
  refine has_of Tryz.func4 (by kernel_rfl) rfl Tryz.ntmps4 Tryz.results4 rfl rfl rfl ?_
  repeat(first|refine run1p ?_|((with_reducible apply st_call);exact rfl;exact rfl;exact rfl;first|(exact c3)|(exact c1))|((with_reducible apply st_callg);exact rfl;exact rfl;(first|exact rfl|assumption);exact rfl;exact rfl;exact rfl;first|(exact c3)|(exact c1)))
  repeat(first|refine run1p ?_|((with_reducible apply st_call);exact rfl;exact rfl;exact rfl;first|(exact Has.agv (fun S B β w => gd_args (g := kg9) rfl rfl rfl (.one rfl rfl) (.one rfl rfl) (.nil' rfl) (.nil' rfl)) cd)|(exact Has.agv (fun S B β w => gd_args (g := kg9) rfl rfl rfl (.one rfl rfl) (.one rfl rfl) (.nil' rfl) (.nil' rfl)) (has_nil1 ca))|(exact c1)|(exact cs))|((with_reducible apply st_callg);exact rfl;exact rfl;(first|exact rfl|assumption);exact rfl;exact rfl;exact rfl;first|(exact Has.agv (fun S B β w => gd_args (g := kg9) rfl rfl rfl (.one rfl rfl) (.one rfl rfl) (.nil' rfl) (.nil' rfl)) cd)|(exact Has.agv (fun S B β w => gd_args (g := kg9) rfl rfl rfl (.one rfl rfl) (.one rfl rfl) (.nil' rfl) (.nil' rfl)) (has_nil1 ca))|(exact c1)|(exact cs)))
  refine ⟨.inr rfl, _, Imp.refl _, .one (.tmp ?_)⟩
  rfl
theorem app_wt {g : GD} (h : g.OK) {v : Nat → Rat} {L : Nat} (hL : L ≤ 200) (hv : ∀ i, Wt (v i) L) (i : Nat) : wt (S g.n fun j => gec g i j * v j) ≤ 5000 := by
  have n8 := h.n8
  have := wt_sum (n := g.n) (K := 500) (f := fun j => gec g i j * v j) fun u _ => by
    have h1 := wt_mul (gec g i u) (v u); have h2 := (gec_wt h i u).le; have h3 := (hv u).le
    omega
  have h4 := Nat.mul_le_mul_right (500 + 1) n8
  omega
end Go.Proofs.YtpclkgjhfhhddaaGreat.AM
/- Numbers and systems that are handed in. -/
namespace Go.Proofs.YtpclkgjhfhhddaaGreat.AM
open Go Go.RowKit Go.Proofs.YtpclkgjhfhhddaaGreat.PN Go.Proofs.YtpclkgjhfhhddaaGreat.V Go.ChangeShapes
set_option linter.unusedVariables false
set_option linter.unusedSimpArgs false
set_option maxRecDepth 8000
section
variable {H : Type} {enc : TypeId × Value → H} {w : World} {spare : Nat → Bool} {held : Bool}
theorem addr_spot {w : World} {a : Addr} {v : Value} (h : w.cell? (a.add 0) = some v) : ∃ b off, a = ⟨b, off, none⟩ := by
  obtain ⟨b, off, sp⟩ := a
  cases sp with
  | none => exact ⟨b, off, rfl⟩
  | some s =>
    exfalso
    have h : w.cell? ⟨b, off, some s⟩ = some v := h
    unfold World.cell? at h
    split at h
    · simp at h
    · cases h
theorem trod_limbs {fuel : Nat} {cs : List Value} {x : DataW H × List MemPlace} (h : DataW.trod enc Tryz.prog w 0 spare held fuel 22 cs = some x) : ∃ v l, cs = [v] ∧ (LF l ∧ l.length ≤ 9223372036854775807) ∧ PLb (fun _ => True) w v l := by
  rcases open_ints Tryz.underlying22 Tryz.underlying51 (by kernel_rfl) h with ⟨rfl, _⟩ | ⟨a, len, cap, zs, rfl, _, hl, hm, hz, _, hcell, hw⟩
  · exact ⟨_, [], rfl, ⟨(fun x hx => by cases hx), Nat.zero_le _⟩, none, 0, rfl, Nat.le_refl _, fun i hi => absurd hi (Nat.not_lt_zero _)⟩
  · have hlen : len ≤ zs.length := by rw [hz]; split <;> omega
    have hfit : ∀ z ∈ zs, 0 ≤ z ∧ z < 4294967296 := fun z hz => by
      have h := hw z hz
      unfold Lit.wf at h
      rw [Bool.and_eq_true] at h
      have h1 := of_decide_eq_true h.1
      have h2 := of_decide_eq_true h.2
      have e1 : IntKind.u32.min = 0 := by decide
      have e2 : IntKind.u32.max = 4294967295 := by decide
      omega
    have hll : ((zs.take len).map Int.toNat).length = len := by simp; omega
    have hmx : maxLen = 9223372036854775807 := by decide
    refine ⟨_, (zs.take len).map Int.toNat, rfl, ⟨?_, by rw [hll]; omega⟩, some a, cap, by rw [hll], by rw [hll]; exact hl, fun i hi => ?_⟩
    · intro x hx
      obtain ⟨z, hz, rfl⟩ := List.mem_map.1 hx
      have := hfit z (List.mem_of_mem_take hz)
      show z.toNat < 4294967296
      omega
    · rw [hll] at hi
      have hc := hcell i (by omega)
      obtain ⟨b, off, rfl⟩ := addr_spot (hcell 0 (by omega))
      refine ⟨b, off, rfl, .inl trivial, ?_⟩
      rw [add_at] at hc
      rw [hc]
      have hg : zs.getD i 0 = zs[i]'(by omega) := by rw [List.getD_eq_getElem?_getD, List.getElem?_eq_getElem (by omega)]; rfl
      have := hfit (zs[i]'(by omega)) (List.getElem_mem _)
      have e : (((zs.take len).map Int.toNat).getD i 0 : Nat) = (zs.getD i 0).toNat := by
        rw [List.getD_eq_getElem?_getD, List.getElem?_map, List.getElem?_take_of_lt hi, List.getElem?_eq_getElem (by omega), hg]; rfl
      rw [e, hg, Int.toNat_of_nonneg this.1]
theorem trod_num {t : TypeId} (hu : ∃ f0 f1 f2 : Field, Tryz.prog.underlying t = some (.struct #[f0, f1, f2]) ∧ f0.type = 4 ∧ f1.type = 22 ∧ f2.type = 22 ∧ f0.offset = 0 ∧ f1.offset = 1 ∧ f2.offset = 2) (hc : Tryz.prog.cellsOf t = 3) (h1 : Tryz.prog.cellsOf 4 = 1) (h2 : Tryz.prog.cellsOf 22 = 1)
    {fuel : Nat} {cs : List Value} {x : DataW H × List MemPlace} (h : DataW.trod enc Tryz.prog w 0 spare held fuel t cs = some x) : ∃ s vn vd n d, cs = [.bool s, vn, vd] ∧ ((LF n ∧ n.length ≤ 9223372036854775807) ∧ PLb (fun _ => True) w vn n) ∧ (LF d ∧ d.length ≤ 9223372036854775807) ∧ PLb (fun _ => True) w vd d := by
  obtain ⟨f0, f1, f2, hu, t0, t1, t2, o0, o1, o2⟩ := hu
  obtain ⟨y0, y1, y2, m, _, hl, q0, q1, q2⟩ := Go.Deep.trod_struct3 hu h
  rw [t0, o0, h1] at q0; rw [t1, o1, h2] at q1; rw [t2, o2, h2] at q2
  rw [hc] at hl
  match cs, hl with
  | [a, b, c], _ =>
    have q0 : DataW.trod enc Tryz.prog w 0 spare held m 4 [a] = some y0 := q0
    have q1 : DataW.trod enc Tryz.prog w 0 spare held m 22 [b] = some y1 := q1
    have q2 : DataW.trod enc Tryz.prog w 0 spare held m 22 [c] = some y2 := q2
    obtain ⟨s, hs, _⟩ := DataW.trod_bool Tryz.underlying4 q0
    obtain ⟨vn, n, e1, e2⟩ := trod_limbs q1
    obtain ⟨vd, d, e3, e4⟩ := trod_limbs q2
    cases hs; cases e1; cases e3
    exact ⟨s, b, c, n, d, rfl, e2, e4⟩
end
theorem cells3 {v a b c : Value} (h : v.cells.toList = [a, b, c]) : v = .agg #[a, b, c] := by
  cases v with
  | agg cs =>
    have h : cs.toList = [a, b, c] := h
    congr 1
    exact Array.ext' h
  | _ => cases h
theorem plb_cell {S : Nat → Prop} {w : World} {v : Value} {l : List Nat} (h : PLb S w v l) : v.oneCell' = true := by
  obtain ⟨A, c, rfl, _⟩ := h
  rfl
theorem rv_num {S : Nat → Prop} {B : Nat} {β : Nat → Nat → Value} {w : World} {s : Bool} {u v : Value} {n d : List Nat} (h : PLb S w u n) (k : PLb S w v d) : RV S B β w (.ag 3 (pag s n d)) (.agg #[.bool s, u, v]) :=
  ⟨#[.bool s, u, v], rfl, rfl, fun i hi => by
    match i, hi with
    | 0, _ => exact ⟨_, rfl, rfl, rfl⟩
    | 1, _ => exact ⟨_, rfl, plb_cell h, h⟩
    | 2, _ => exact ⟨_, rfl, plb_cell k, k⟩⟩
end Go.Proofs.YtpclkgjhfhhddaaGreat.AM
/- FastBig, walked. -/
namespace Go.Proofs.YtpclkgjhfhhddaaGreat.AM
open Go Go.RowKit Go.Proofs.YtpclkgjhfhhddaaGreat.PN Go.Proofs.YtpclkgjhfhhddaaGreat.V
open Go.Proofs.YtpclkgjhfhhddaaGreat.LA (S S_succ S_zero S_congr)
set_option linter.unusedVariables false
set_option linter.unusedSimpArgs false
set_option maxRecDepth 8000
set_option maxHeartbeats 8000000
theorem awp_bjoin9 {P : Program} {M id : Nat} {c y : Code} {Q : Exit → St → Prop} {s : St} (s1 : St) (h : AWP P M c (blockQ id (joinQ s1)) s) (k : AWP P M y Q s1) : AWP P M c (blockQ id (thenQ P M y Q)) s :=
  awp_mono h fun e s' hq => by
    unfold blockQ at hq ⊢
    have key : ∀ e, joinQ s1 e s' → thenQ P M y Q e s' := fun e ⟨he, hi⟩ => by subst he; exact awp_imp hi k
    split at hq
    · rename_i i
      cases hb : Nat.beq i id with
      | true => rw [hb] at hq; exact key _ hq
      | false => rw [hb] at hq; exact key _ hq
    · exact key _ hq
theorem pagk {s : Bool} {n d : List Nat} (U : Nat → Bool) : ∀ i, (pag s n d i).ok U
  | 0 | 1 | 2 => trivial
  | _ + 3 => trivial
/-- The two rows that are turned, ahead of the i-th turn. -/
def rowG (g : GD) (j : Nat) : AV := [AV.row false g.la (fun i => .q (g.A i)), .row false g.lg (fun i => .q (g.G i))].getD j (.v undef)
def bgL (g : GD) (x y : Rat) (i j : Nat) : AV := if j < i then rowG (gT g x y) j else rowG g j
theorem rowG_ok {g : GD} (U : Nat → Bool) : ∀ i, (rowG g i).ok U
  | 0 | 1 => trivial
  | _ + 2 => trivial
theorem bgL_ok {g : GD} {x y : Rat} {i : Nat} (U : Nat → Bool) (j : Nat) : (bgL g x y i j).ok U := by
  unfold bgL
  split
  · exact rowG_ok U j
  · exact rowG_ok U j
theorem bgL_at (g : GD) (x y : Rat) {i : Nat} (hi : i < 2) : ∃ L f, L ≤ g.la + g.lg ∧ bgL g x y i ((i : Int).toNat) = .row false L (fun t => .q (f t)) ∧ rowG (gT g x y) i = .row false L (fun t => .q (tnd L x y f t)) := by
  have e : bgL g x y i ((i : Int).toNat) = rowG g i := by
    unfold bgL
    rw [Int.toNat_natCast, if_neg (Nat.lt_irrefl i)]
  rw [e]
  match i, hi with
  | 0, _ => exact ⟨g.la, g.A, Nat.le_add_right _ _, rfl, rfl⟩
  | 1, _ => exact ⟨g.lg, g.G, Nat.le_add_left _ _, rfl, rfl⟩
theorem len_all : ∀ k : Nat, k < 8 → ∀ n : Nat, n < 9 → ∀ r : Nat, r < 4 → ∀ i : Nat, i < 4 → mpz (cmap k i) 0 * ((n : Nat) : Int) + mpz (cmap k i) 1 * (n : Nat) * (r : Nat) + mpz (cmap k i) 2 ≤ 50 := by decide +kernel
theorem len_le50 {g : GD} (o : g.OK) {i : Nat} (hi : i < 4) : g.len i ≤ 50 := by
  have h := o.len i hi
  have k7 := o.k7; have n8 := o.n8; have r3 := o.r3
  have := len_all g.k (by omega) g.n (by omega) g.r (by omega) i hi
  omega
theorem k_big {kind n : Int} {an ad bn bd : List Nat} {vs : List Int} (hk : Fits .i64 kind) (hn : Fits .i64 n) (s : Bool) (h1 : LF an) (h2 : LF ad) (l1 : an.length ≤ 9223372036854775807) (l2 : ad.length ≤ 9223372036854775807) (t : Bool) (h3 : LF bn) (h4 : LF bd) (l3 : bn.length ≤ 9223372036854775807) (l4 : bd.length ≤ 9223372036854775807) (hv : AllFit vs) :
    Has Tryz.prog 3 [.i kind, .i n, .ag 3 (pag s an ad), .ag 3 (pag t bn bd), .seq .i64 vs] (.b true) := by
  have m := k_mk (kind := kind) (n := n) (most := 4) (zs := []) hk hn (fun i hi => absurd hi (Nat.not_lt_zero _)) (by decide) (by decide)
  have o := mkg_ok (kind := kind) (n := n) (zs := []) (most := 4) (by decide) (by decide)
  generalize mkg kind n [] 4 = g at *
  have n8 := o.n8; have n1 := o.n1
  have c1 := b_make (u := pag s an ad) (fun _ _ => rfl) h1 h2 l1 l2
  have c2 := b_make (u := pag t bn bd) (fun _ _ => rfl) h3 h4 l3 l4
  have w1 := rwP_wt (s := s) h1 h2
  have w2 := rwP_wt (s := t) h3 h4
  generalize rwP s an ad = x at *
  generalize rwP t bn bd = y at *
  have m0 : Has Tryz.prog 5 [.i kind, .i n, .v (.slice none 0 0), .i 4] (.ag 7 g.ft) := m.args fun S B β w vs hv => rvs_cons (fun v hv => hv) (fun us hu => rvs_cons (fun v hv => hv) (fun us hu => rvs_cons (fun v hv => by
    have hv : v = .slice none 0 0 := hv
    subst hv
    exact ⟨none, 0, rfl, Nat.le_refl _, Nat.zero_le _, fun i hi => absurd hi (Nat.not_lt_zero _)⟩) rvs_same hu) hu) hv
  have cN := k_neg (p := y) (by omega)
  refine has_of Tryz.func3 (by kernel_rfl) rfl Tryz.ntmps3 Tryz.results3 rfl rfl rfl ?_
  repeat(first|refine run1 ?_|((with_reducible apply st_call);exact rfl;exact rfl;exact rfl;first|(exact k_known9))|((with_reducible apply st_callg);exact rfl;exact rfl;(first|exact rfl|assumption);exact rfl;exact rfl;exact rfl;first|(exact k_known9)))
  refine awp_no rfl rfl ?_
  refine run3 ?_
  repeat(first|refine run4p ?_|((with_reducible apply st_call);exact rfl;exact rfl;exact rfl;first|(exact m0))|((with_reducible apply st_callg);exact rfl;exact rfl;(first|exact rfl|assumption);exact rfl;exact rfl;exact rfl;first|(exact m0)))
  refine run2 ?_
  refine run2 ?_
  refine awp_loop (fun m' st => ∃ i, i ≤ 2 ∧ m' = 2 - i ∧ st = stl [(4, .seq .i64 vs), (7, .ptr 7 0 0), (8, .ptr 8 0 0), (11, .ptr 11 0 0), (12, .own 28 0), (13, .i (i : Int))] [(7, (1, fun _ => .ones 24 3 (pag s an ad))), (8, (1, fun _ => .ones 24 3 (pag t bn bd))), (11, (1, fun _ => .ones 29 7 g.ft)), (28, (1, fun _ => .ones WT 2 (bgL g x (-y) i)))]) 2 _ (imp_id ?_ ?_) ⟨0, Nat.zero_le _, rfl, rfl⟩ ?_
  · exact eA
  · refine allh rfl (by decide) (bleo rfl fun _ _ => Le.id rfl) (fun i hi => pagk _ i) (allh rfl (by decide) (bleo rfl fun _ _ => Le.id rfl) (fun i hi => pagk _ i) (allh rfl (by decide) (bleo rfl fun _ _ => Le.id rfl) (fun i hi => g.ftok _ i) (allh rfl (by decide) (bleo rfl fun i hi => ?_) (fun i hi => bgL_ok _ i) True.intro)))
    match i, hi with
    | 0, _ => exact Le.row rfl (fun _ _ => rfl) (fun h => by cases h)
    | 1, _ => exact Le.row rfl (fun _ _ => rfl) (fun h => by cases h)
  rintro m' st ⟨i, hi, rfl, rfl⟩
  by_cases hi2 : i < 2
  · have d1 : decide ((i : Int) < 2) = true := decide_eq_true (by omega)
    obtain ⟨L, f, hL, e1, e2⟩ := bgL_at g x (-y) hi2
    refine run0 ?_
    refine awp_yes rfl d1 ?_
    refine run0 ?_
    rw [e1]
    refine run0 ?_
    refine awp_bjoin9 (stl [(4, .seq .i64 vs), (7, .ptr 7 0 0), (8, .ptr 8 0 0), (11, .ptr 11 0 0), (12, .own 28 0), (13, .i (i : Int))] [(7, (1, fun _ => .ones 24 3 (pag s an ad))), (8, (1, fun _ => .ones 24 3 (pag t bn bd))), (11, (1, fun _ => .ones 29 7 g.ft)), (28, (1, fun _ => .ones WT 2 (bgL g x (-y) (i + 1))))]) ?_ ?_
    · refine awp_if rfl (fun h0 => ?_) (fun h0 => ?_)
      · have hL100 : L ≤ 1000 := by have a := len_le50 o (i := 0) (by decide); have b := len_le50 o (i := 2) (by decide); have a : g.la ≤ 50 := a; have b : g.lg ≤ 50 := b; omega
        refine run0 ?_
        rw [e1]
        refine run0 ?_
        rw [updN_same]
        repeat(first|refine run1 ?_|((with_reducible apply st_call);exact rfl;exact rfl;exact rfl;first|(exact Has.p1 rfl rfl rfl c1))|((with_reducible apply st_callg);exact rfl;exact rfl;(first|exact rfl|assumption);exact rfl;exact rfl;exact rfl;first|(exact Has.p1 rfl rfl rfl c1)))
        rw [updN_same]
        have hLp : 0 < L := by omega
        refine run0 ?_
        refine st_ev rfl ⟨rfl, by show (-9223372036854775808 : Int) ≤ ((0 + L : Nat) : Int) - 1 ∧ ((0 + L : Nat) : Int) - 1 ≤ 9223372036854775807; omega⟩ ?_
        repeat(first|refine run1 ?_|((with_reducible apply st_call);exact rfl;exact rfl;exact rfl;first|(exact Has.p1 rfl rfl rfl c2)|(exact cN))|((with_reducible apply st_callg);exact rfl;exact rfl;(first|exact rfl|assumption);exact rfl;exact rfl;exact rfl;first|(exact Has.p1 rfl rfl rfl c2)|(exact cN)))
        refine st_ev rfl ⟨by decide, by show (0 : Int) ≤ ((0 + L : Nat) : Int) - 1; omega, by show ((0 + L : Nat) : Int) - 1 < ((0 + L : Nat) : Int); omega⟩ ?_
        refine st_ev rfl ⟨by decide, by show (((0 + L : Nat) : Int) - 1).toNat < 0 + L; omega⟩ ?_
        refine run0 ?_
        refine ⟨rfl, (imp_pub 28 (i : Int).toNat rfl rfl (by omega) (updN_same _ _ _) rfl rfl (by decide)).trans (imp_id ?_ ?_)⟩
        · exact eA
        refine allh rfl (by decide) (bleo rfl fun _ _ => Le.id rfl) (fun i hi => pagk _ i) (allh rfl (by decide) (bleo rfl fun _ _ => Le.id rfl) (fun i hi => pagk _ i) (allh rfl (by decide) (bleo rfl fun _ _ => Le.id rfl) (fun i hi => g.ftok _ i) (allh rfl (by decide) (bleo rfl fun j hj => ?_) (fun i hi => bgL_ok _ i) True.intro)))
        have eI : (i : Int).toNat = i := Int.toNat_natCast i
        rw [eI]
        by_cases hji : j = i
        · subst hji
          rw [updN_same, show bgL g x (-y) (j + 1) j = .row false L fun t => .q (tnd L x (-y) f t) by rw [← e2]; unfold bgL; rw [if_pos (Nat.lt_succ_self j)]]
          refine Le.row (by omega) (fun t ht => ?_) (fun h => by cases h)
          show updN (updN (glue 0 (fun i => [].getD i ra0) fun t => RA.q (f t)) 0 (RA.q x)) (((0 + L : Nat) : Int) - 1).toNat (RA.q (-y)) t = .q (tnd L x (-y) f t)
          rw [show (((0 + L : Nat) : Int) - 1).toNat = L - 1 by omega]
          unfold tnd updN glue
          by_cases q1 : t = L - 1
          · rw [if_pos q1, if_pos (show t + 1 = L by omega)]
          · rw [if_neg q1, if_neg (show ¬ t + 1 = L by omega)]
            by_cases q2 : t = 0
            · rw [if_pos q2, if_pos q2]
            · rw [if_neg q2, if_neg q2, if_neg (Nat.not_lt_zero t)]; rfl
        · rw [updN_ne _ _ hji, updN_ne _ _ hji]
          refine Le.id ?_
          unfold bgL
          by_cases q : j < i
          · rw [if_pos q, if_pos (show j < i + 1 by omega)]
          · rw [if_neg q, if_neg (show ¬ j < i + 1 by omega)]
      · have h0 : ¬ (0 : Int) < (L : Int) := h0
        have hL0 : L = 0 := by omega
        subst hL0
        refine run0 ?_
        refine ⟨rfl, imp_id ?_ ?_⟩
        · exact eA
        refine allh rfl (by decide) (bleo rfl fun _ _ => Le.id rfl) (fun i hi => pagk _ i) (allh rfl (by decide) (bleo rfl fun _ _ => Le.id rfl) (fun i hi => pagk _ i) (allh rfl (by decide) (bleo rfl fun _ _ => Le.id rfl) (fun i hi => g.ftok _ i) (allh rfl (by decide) (bleo rfl fun j hj => ?_) (fun i hi => bgL_ok _ i) True.intro)))
        by_cases hji : j = i
        · subst hji
          rw [Int.toNat_natCast] at e1
          rw [e1, show bgL g x (-y) (j + 1) j = .row false 0 fun t => .q (tnd 0 x (-y) f t) by rw [← e2]; unfold bgL; rw [if_pos (Nat.lt_succ_self j)]]
          exact Le.row rfl (fun t ht => absurd ht (Nat.not_lt_zero t)) (fun h => by cases h)
        · refine Le.id ?_
          unfold bgL
          by_cases q : j < i
          · rw [if_pos q, if_pos (show j < i + 1 by omega)]
          · rw [if_neg q, if_neg (show ¬ j < i + 1 by omega)]
    · refine run0 ?_
      refine q_loop (m' := 2 - (i + 1)) (by omega) (imp_id ?_ ?_) ⟨i + 1, by omega, rfl, rfl⟩
      · exact eA
      · exact allh rfl (by decide) (bleo rfl fun _ _ => Le.id rfl) (fun i hi => pagk _ i) (allh rfl (by decide) (bleo rfl fun _ _ => Le.id rfl) (fun i hi => pagk _ i) (allh rfl (by decide) (bleo rfl fun _ _ => Le.id rfl) (fun i hi => g.ftok _ i) (allh rfl (by decide) (bleo rfl fun j hj => Le.id rfl) (fun i hi => bgL_ok _ i) True.intro)))
  · obtain rfl : i = 2 := by omega
    refine run0 ?_
    refine awp_no rfl rfl ?_
    repeat(first|(with_reducible first|refine awp_seq ?_|refine awp_block ?_|refine awp_skip ?_|refine awp_exit ?_|refine awp_ret ?_|refine q_then ?_|refine q_block ?_|refine q_then_exit ?_|refine q_then_ret ?_|refine q_block_exit ?_|refine q_block_ret ?_|refine q_loop_exit ?_|refine q_loop_ret ?_)|((with_reducible refine q_block_other ?_ ?_);exact rfl))
    refine run2 ?_
    refine awp_imp (s' := stl [(4, .seq .i64 vs), (8, .ptr 8 0 0), (11, .ptr 11 0 0)] [(8, (1, fun _ => .ones 24 3 (pag t bn bd))), (11, (1, fun _ => .ones 29 7 (gT g x (-y)).f))]) (imp_id ?_ ?_) ?_
    · exact eA
    · refine allh rfl (by decide) (bleo rfl fun _ _ => Le.id rfl) (fun i hi => pagk _ i) (allh rfl (by decide) (bleo rfl fun i hi => ?_) (fun i hi => GD.fok _ _ i) True.intro)
      match i, hi with
      | 0, _ => exact Le.id rfl
      | 1, _ => exact Le.id rfl
      | 2, _ => exact Le.id rfl
      | 3, _ => exact Le.id rfl
      | 4, _ => exact Le.row rfl (fun _ _ => rfl) (fun h => by cases h)
      | 5, _ => exact Le.id rfl
      | 6, _ => exact Le.row rfl (fun _ _ => rfl) (fun h => by cases h)
    have w3 := wt_neg y
    have o' := gT_ok (x := x) (y := -y) o (by omega) (by omega)
    have hn' : (gT g x (-y)).n = g.n := rfl
    generalize gT g x (-y) = g' at *
    have cC := r5_checkd o'
    by_cases hq : ∀ i, i < g'.la → ∀ j, j < g'.lb → g'.A i ≠ g'.B j
    · rw [if_pos hq] at cC
      have oo := o'.ok hq
      repeat(first|refine run1 ?_|((with_reducible apply st_call);exact rfl;exact rfl;exact rfl;first|(exact Has.ag (u' := g'.f) (g7 rfl rfl rfl rfl rfl rfl rfl) cC))|((with_reducible apply st_callg);exact rfl;exact rfl;(first|exact rfl|assumption);exact rfl;exact rfl;exact rfl;first|(exact Has.ag (u' := g'.f) (g7 rfl rfl rfl rfl rfl rfl rfl) cC)))
      refine awp_no rfl rfl ?_
      refine run0 ?_
      ((with_reducible apply st_callH); exact rfl; exact rfl; exact rfl; exact (k_rowo (by omega) (by omega) hv); (first | exact True.intro | exact ⟨rfl, rfl, rfl, True.intro⟩); exact rfl; exact rfl; exact rfl; exact rfl; (focus (repeat (first | exact True.intro | refine ⟨(by first | exact True.intro | rfl | exact ok_none (closed_ok rfl)), ?_⟩))); (first | exact True.intro | exact okf_WH | exact okf_pf (by exact True.intro) (by exact True.intro) | exact okf_rd | exact okf_pr))
      refine run0 ?_
      refine st_call rfl rfl rfl (Has.p1 rfl rfl rfl c2) ?_
      refine run4 ?_
      obtain ⟨v, hvd⟩ : ∃ v : Nat → Rat, v = fun i => if i = 0 then y else rowq vs i := ⟨_, rfl⟩
      refine awp_imp ((imp_row 14 rfl rfl rfl).trans (imp_id (e := [(11, .ptr 11 0 0), (14, .row true g'.n fun i => .q (v i))]) (h := [(11, (1, fun _ => .ones 29 7 g'.f))]) ?_ ?_)) ?_
      · refine alle rfl (Le.id rfl) (by rfl) (alle rfl (Le.row rfl (fun i hi => ?_) (fun h => h)) True.intro True.intro)
        show updN (fun i => RA.q (rowq vs i)) 0 (RA.q y) i = _
        rw [hvd]
        unfold updN
        show _ = RA.q (if i = 0 then y else rowq vs i)
        split <;> rfl
      · exact allh rfl (by decide) (bleo rfl fun _ _ => Le.id rfl) (fun i hi => GD.fok _ _ i) True.intro
      have hv1 : ∀ i, Wt (v i) 200 := fun i => by
        rw [hvd]
        show Wt (if i = 0 then y else rowq vs i) 200
        split
        · exact ⟨by omega⟩
        · exact ⟨by have := (rowq_wt vs i).le; omega⟩
      have n8' := oo.n8
      have n1' := oo.n1
      have rows : Has Tryz.prog 12 [.row false g'.n (fun i => .q (S g'.n fun j => gec g' i j * v j)), .row false g'.n (fun i => .q (S g'.n fun j => gec g' i j * v j))] (.b true) :=
        k_rowsb (K := 5000) (fun i _ => ⟨app_wt oo (L := 200) (by decide) hv1 i⟩) (by decide) (by decide) (by omega) fun _ _ => rfl
      have ca : Has Tryz.prog 10 [g'.v, .row false g'.n (fun i => .q (v i))] (if g'.n = g'.n then .tup (.row true g'.n fun i => .q (S g'.n fun j => gec g' i j * v j)) (.i 0) else .tup (.v (.slice none 0 0)) (.i 3)) := fs_apply oo hv1 (by omega)
      have cb : Has Tryz.prog 11 [g'.v, .row false g'.n (fun i => .q (v i))] (if g'.n = g'.n then .tup (.row true g'.n fun i => .q (S g'.n fun j => gec g' i j * v j)) (.i 0) else .tup (.v (.slice none 0 0)) (.i 3)) := r9_apply oo hv1 (by omega)
      rw [if_pos rfl] at ca cb
      repeat(first|refine run1p ?_|((with_reducible apply st_call);exact rfl;exact rfl;exact rfl;first|(exact Has.ag (u' := g'.f) (g7 rfl rfl rfl rfl rfl rfl rfl) ca)|(exact Has.ag (u' := g'.f) (g7 rfl rfl rfl rfl rfl rfl rfl) cb)|(exact rows))|((with_reducible apply st_callg);exact rfl;exact rfl;(first|exact rfl|assumption);exact rfl;exact rfl;exact rfl;first|(exact Has.ag (u' := g'.f) (g7 rfl rfl rfl rfl rfl rfl rfl) ca)|(exact Has.ag (u' := g'.f) (g7 rfl rfl rfl rfl rfl rfl rfl) cb)|(exact rows)))
      exact ⟨.inr rfl, _, Imp.refl _, .one (.tmp rfl)⟩
    · rw [if_neg hq] at cC
      repeat(first|refine run1 ?_|((with_reducible apply st_call);exact rfl;exact rfl;exact rfl;first|(exact Has.ag (u' := g'.f) (g7 rfl rfl rfl rfl rfl rfl rfl) cC))|((with_reducible apply st_callg);exact rfl;exact rfl;(first|exact rfl|assumption);exact rfl;exact rfl;exact rfl;first|(exact Has.ag (u' := g'.f) (g7 rfl rfl rfl rfl rfl rfl rfl) cC)))
      refine awp_yes rfl rfl ?_
      refine run0 ?_
      exact ⟨.inr rfl, _, Imp.refl _, .one (.tmp rfl)⟩
end Go.Proofs.YtpclkgjhfhhddaaGreat.AM

/- Joined texts, 21: DnH DnI LawA LawD PRing LawE LawH PBt PBits. -/
import Derived.Test.YtdnmoggifjlbiaaGreatJLawTurnedSums20
import Derived.Test.YtdnmoggifjlbiaaGreatJLawTurnedSums14
import Derived.Test.YtdnmoggifjlbiaaGreatJLawTurnedSums19
set_option linter.unusedVariables false
set_option linter.unusedSimpArgs false
/- Dense matrices: walks: all steps. -/
namespace Go.Proofs.YtdnmoggifjlbiaaGreat.AM
open Go Go.RowKit Go.Proofs.YtdnmoggifjlbiaaGreat.PN Go.Proofs.YtdnmoggifjlbiaaGreat.V
open Go.Proofs.YtdnmoggifjlbiaaGreat.LA (S S_succ S_zero S_congr)
set_option linter.unusedVariables false
set_option linter.unusedSimpArgs false
set_option maxRecDepth 4000
set_option maxHeartbeats 4000000
theorem okf_WH {n m : Nat} {d : Rat} {π : Nat → Nat} {A : Nat → Nat → Rat} : okf (fun g => memN g (keys (WH n m d π A))) (WH n m d π A) :=
  ⟨fun _ _ i _ => wk_ok rfl d i, fun _ _ _ _ => rfl, fun _ _ => True.intro, True.intro⟩
theorem stp_yes {n m col : Nat} {all : Bool} {s : ES} (h : fnd (fun i => s.A (s.π i) col ≠ 0) (n - s.at') s.at' < n) : stp n m all s col = ⟨s.at' + 1, det1 s.d (fnd (fun i => s.A (s.π i) col ≠ 0) (n - s.at') s.at') s.at' * s.A (s.π (fnd (fun i => s.A (s.π i) col ≠ 0) (n - s.at') s.at')) col, swp s.π (fnd (fun i => s.A (s.π i) col ≠ 0) (n - s.at') s.at') s.at',
      cln s.A (swp s.π (fnd (fun i => s.A (s.π i) col ≠ 0) (n - s.at') s.at') s.at') all s.at' col m n⟩ := if_pos h
theorem stp_no {n m col : Nat} {all : Bool} {s : ES} (h : ¬ fnd (fun i => s.A (s.π i) col ≠ 0) (n - s.at') s.at' < n) : stp n m all s col = s := if_neg h
theorem d_steps {n m K : Nat} {all : Bool} {A : Nat → Nat → Rat} [hA : ∀ i j, Wt (A i j) K] (hK : K ≤ 400) (hn : n ≤ 8) (hm : m ≤ 9) (hnm : n ≤ m) :
    HasH Tryz.prog 112 (WH n m 1 (fun i => i) A) [.ptr 60 0 0, .b all] (.i (stps n m all A n).at') (WH n m (stps n m all A n).d (stps n m all A n).π (stps n m all A n).A) := by
  refine hasH_of Tryz.func112 (by kernel_rfl) rfl Tryz.ntmps112 Tryz.results112 True.intro rfl rfl ?_
  refine run0 ?_
  refine awp_loop (fun m' s => ∃ c, c ≤ n ∧ m' = n - c ∧ s = stl [(0, .ptr 60 0 0), (1, .b all), (5, .i (stps n m all A c).at'), (6, .i (c : Int))] (WH n m (stps n m all A c).d (stps n m all A c).π (stps n m all A c).A)) n _ (imp_WH rfl rfl (fun _ _ => rfl) rfl rfl (fun _ _ => rfl) rfl (fun r hr => blen rfl fun _ _ => rfl) ?_) ⟨0, Nat.zero_le _, rfl, rfl⟩ ?_
  · exact eA
  · rintro m' s ⟨c, hc, rfl, rfl⟩
    have hok := stps_ok (n := n) (m := m) (all := all) (A := A) c
    have hnx : stps n m all A (c + 1) = stp n m all (stps n m all A c) c := rfl
    have hX : 5 ^ c * (K + 1) ≤ 390625 * 401 := Nat.mul_le_mul (Nat.pow_le_pow_right (by decide) (show c ≤ 8 by omega)) (by omega)
    generalize 5 ^ c * (K + 1) = X at hok hX
    generalize hT : stps n m all A c = T at *
    obtain ⟨a, d, π, B⟩ := T
    have hle : a ≤ c := hok.le
    have hlt : ∀ i, i < n → π i < n := hok.lt
    have hinj : ∀ i j, i < n → j < n → π i = π j → i = j := hok.inj
    have wd : Wt d X := hok.wd
    have wB : ∀ i j, Wt (B i j) X := hok.wA
    by_cases hcn : c < n
    · have hcn' : (c : Int) < (n : Int) := by omega
      have g1 : (decide ((c : Int) < (n : Int)) == true) = true := by rw [decide_eq_true hcn']; rfl
      have g2 : decide ((c : Int) < (n : Int)) = true := decide_eq_true hcn'
      refine run0 ?_
      refine awp_yes rfl ?_ ?_
      · exact decide_eq_true (show (a : Int) < n by omega)
      clear g1 g2
      refine run0 ?_
      have han : a < n := by omega
      obtain ⟨f1, f2, f3, f4⟩ := fnd_le (fun i => B (π i) c ≠ 0) (n - a) a
      by_cases hfn : fnd (fun i => B (π i) c ≠ 0) (n - a) a < n
      · have e1 := stp_yes (m := m) (all := all) (s := ⟨a, d, π, B⟩) (col := c) hfn
        have hnz := f4 (by omega)
        dsimp only at e1 hnz
        generalize fnd (fun i => B (π i) c ≠ 0) (n - a) a = i at *
        have hz : ∀ j, a ≤ j → j < i → B (π j) c = 0 := fun j h1 h2 => Classical.byContradiction fun h => f3 j h1 h2 h
        ((with_reducible apply st_callH); exact rfl; exact rfl; exact rfl; exact (d_pivot_yes (hA := wB) (hd := wd) (by omega) (by omega) hn hm (by omega) hlt f1 hfn hz hnz); (first | exact True.intro | exact ⟨rfl, rfl, rfl, True.intro⟩); exact rfl; exact rfl; exact rfl; exact rfl; (focus (repeat (first | exact True.intro | refine ⟨(by first | exact True.intro | rfl | exact ok_none (closed_ok rfl)), ?_⟩))); (first | exact True.intro | exact okf_WH | exact okf_pf (by exact True.intro) (by exact True.intro)))
        refine run0 ?_
        refine awp_no rfl rfl ?_
        refine run0 ?_
        have hlt' := swp_lt hlt hfn han
        have hinj' := swp_inj hinj hfn han
        have hat : swp π i a a = π i := swp_at π i a
        generalize swp π i a = π' at *
        generalize det1 d i a * B (π i) c = d' at *
        refine awp_loop (fun m' s => ∃ k, k ≤ n ∧ m' = n - k ∧ s = stl [(0, .ptr 60 0 0), (1, .b all), (5, .i (a : Int)), (6, .i (c : Int)), (35, .i (n : Int)), (36, .i (k : Int))] (WH n m d' π' (cln B π' all a c m k))) n _ (imp_WH rfl rfl (fun _ _ => rfl) rfl rfl (fun _ _ => rfl) rfl (fun r hr => blen rfl fun j _ => congrArg RA.q (congrFun (congrFun (cln_zero B π' all a c m).symm r) j)) ?_) ⟨0, Nat.zero_le _, rfl, rfl⟩ ?_
        · exact eA
        · rintro m' s ⟨k, hk, rfl, rfl⟩
          refine run0 ?_
          refine awp_if rfl (fun h => ?_) (fun h => ?_)
          · have hkn : k < n := by omega
            have wC : ∀ r j, Wt (cln B π' all a c m k r j) (4 * X + 1) := fun r j => cln_wt (h := wB) r j
            have hpk := hlt' k hkn
            have hpa := hlt' a han
            have hrow : cln B π' all a c m k (π' a) c = B (π' a) c := cln_row (n := n) (fun i h1 h2 h3 => tst_ne h2 (hinj' a i han (by omega) h3).symm) c
            have hne0 : cln B π' all a c m k (π' a) c ≠ 0 := by rw [hrow, hat]; exact hnz
            by_cases ht : tst all a k
            · have hne : π' k ≠ π' a := fun e => tst_ne ht (hinj' k a hkn han e)
              have est := cln_step (m := m) (all := all) (A := B) (col := c) hinj' han hkn ht
              rcases ht with h1 | ⟨hall, h1⟩
              · have hi1 : (a : Int) < (k : Int) := by omega
                have gA : (decide ((a : Int) < (k : Int)) == false) = false := by rw [decide_eq_true hi1]; rfl
                have pA : decide ((a : Int) < (k : Int)) = true := decide_eq_true hi1
                refine run0 ?_
                refine awp_yes rfl rfl ?_
                refine run0 ?_
                ((with_reducible apply st_callH); exact rfl; exact rfl; exact rfl; exact (d_clean (d := d') (hA := wC) (by omega) hn hm (by omega) hkn han hpk hpa hne hne0); (first | exact True.intro | exact ⟨rfl, rfl, rfl, True.intro⟩); exact rfl; exact rfl; exact rfl; exact rfl; (focus (repeat (first | exact True.intro | refine ⟨(by first | exact True.intro | rfl | exact ok_none (closed_ok rfl)), ?_⟩))); (first | exact True.intro | exact okf_WH | exact okf_pf (by exact True.intro) (by exact True.intro)))
                refine run0 ?_
                refine q_loop (m' := n - (k + 1)) (by omega) (imp_WH (e := [(0, .ptr 60 0 0), (1, .b all), (5, .i (a : Int)), (6, .i (c : Int)), (35, .i (n : Int)), (36, .i ((k + 1 : Nat) : Int))]) (n := n) (m := m) (d := d') (π := π') (A := cln B π' all a c m (k + 1)) rfl rfl (fun _ _ => rfl) rfl rfl (fun _ _ => rfl) rfl (fun r hr => blen rfl fun j _ => congrArg RA.q (congrFun (congrFun est r) j)) ?_) ⟨k + 1, by omega, rfl, rfl⟩
                exact eA
              · subst hall
                have hi1 : ¬ (a : Int) < (k : Int) := by omega
                have gA : (decide ((a : Int) < (k : Int)) == false) = true := by rw [decide_eq_false hi1]; rfl
                have pA : decide ((a : Int) < (k : Int)) = false := decide_eq_false hi1
                refine run0 ?_
                refine awp_yes rfl ?_ ?_
                · exact decide_eq_true (show (k : Int) < (a : Int) by omega)
                refine run0 ?_
                ((with_reducible apply st_callH); exact rfl; exact rfl; exact rfl; exact (d_clean (d := d') (hA := wC) (by omega) hn hm (by omega) hkn han hpk hpa hne hne0); (first | exact True.intro | exact ⟨rfl, rfl, rfl, True.intro⟩); exact rfl; exact rfl; exact rfl; exact rfl; (focus (repeat (first | exact True.intro | refine ⟨(by first | exact True.intro | rfl | exact ok_none (closed_ok rfl)), ?_⟩))); (first | exact True.intro | exact okf_WH | exact okf_pf (by exact True.intro) (by exact True.intro)))
                refine run0 ?_
                refine q_loop (m' := n - (k + 1)) (by omega) (imp_WH (e := [(0, .ptr 60 0 0), (1, .b true), (5, .i (a : Int)), (6, .i (c : Int)), (35, .i (n : Int)), (36, .i ((k + 1 : Nat) : Int))]) (n := n) (m := m) (d := d') (π := π') (A := cln B π' true a c m (k + 1)) rfl rfl (fun _ _ => rfl) rfl rfl (fun _ _ => rfl) rfl (fun r hr => blen rfl fun j _ => congrArg RA.q (congrFun (congrFun est r) j)) ?_) ⟨k + 1, by omega, rfl, rfl⟩
                exact eA
            · have est := cln_skip (A := B) (π := π') (col := c) (m := m) ht
              have hi1 : ¬ (a : Int) < (k : Int) := fun h => ht (.inl (by omega))
              have gA : (decide ((a : Int) < (k : Int)) == false) = true := by rw [decide_eq_false hi1]; rfl
              have pA : decide ((a : Int) < (k : Int)) = false := decide_eq_false hi1
              cases all with
              | false =>
                refine run0 ?_
                refine awp_no rfl rfl ?_
                refine run0 ?_
                refine q_loop (m' := n - (k + 1)) (by omega) (imp_WH (e := [(0, .ptr 60 0 0), (1, .b false), (5, .i (a : Int)), (6, .i (c : Int)), (35, .i (n : Int)), (36, .i ((k + 1 : Nat) : Int))]) (n := n) (m := m) (d := d') (π := π') (A := cln B π' false a c m (k + 1)) rfl rfl (fun _ _ => rfl) rfl rfl (fun _ _ => rfl) rfl (fun r hr => blen rfl fun j _ => congrArg RA.q (congrFun (congrFun est r) j)) ?_) ⟨k + 1, by omega, rfl, rfl⟩
                exact eA
              | true =>
                refine run0 ?_
                refine awp_no rfl ?_ ?_
                · exact decide_eq_false (show ¬ (k : Int) < (a : Int) from fun h => ht (.inr ⟨rfl, by omega⟩))
                refine run0 ?_
                refine q_loop (m' := n - (k + 1)) (by omega) (imp_WH (e := [(0, .ptr 60 0 0), (1, .b true), (5, .i (a : Int)), (6, .i (c : Int)), (35, .i (n : Int)), (36, .i ((k + 1 : Nat) : Int))]) (n := n) (m := m) (d := d') (π := π') (A := cln B π' true a c m (k + 1)) rfl rfl (fun _ _ => rfl) rfl rfl (fun _ _ => rfl) rfl (fun r hr => blen rfl fun j _ => congrArg RA.q (congrFun (congrFun est r) j)) ?_) ⟨k + 1, by omega, rfl, rfl⟩
                exact eA
          · obtain rfl : k = n := by omega
            refine run0 ?_
            refine q_loop (m' := k - (c + 1)) (by omega) (imp_WH (e := [(0, .ptr 60 0 0), (1, .b all), (5, .i ((a + 1 : Nat) : Int)), (6, .i ((c + 1 : Nat) : Int))]) (n := k) (m := m) (d := d') (π := π') (A := cln B π' all a c m k) rfl rfl (fun _ _ => rfl) rfl rfl (fun _ _ => rfl) rfl (fun r hr => blen rfl fun _ _ => rfl) ?_) ⟨c + 1, by omega, rfl, ?_⟩
            · exact eA
            · have e := hnx.trans e1
              rw [e]
      · have e1 := stp_no (m := m) (all := all) (s := ⟨a, d, π, B⟩) (col := c) hfn
        have hz : ∀ j, a ≤ j → j < n → B (π j) c = 0 := fun j h1 h2 => Classical.byContradiction fun h => f3 j h1 (by omega) h
        ((with_reducible apply st_callH); exact rfl; exact rfl; exact rfl; exact (d_pivot_no (d := d) (at' := a) (col := c) hn hm (by omega) hlt (by omega) hz); (first | exact True.intro | exact ⟨rfl, rfl, rfl, True.intro⟩); exact rfl; exact rfl; exact rfl; exact rfl; (focus (repeat (first | exact True.intro | refine ⟨(by first | exact True.intro | rfl | exact ok_none (closed_ok rfl)), ?_⟩))); (first | exact True.intro | exact okf_WH | exact okf_pf (by exact True.intro) (by exact True.intro)))
        refine run0 ?_
        refine awp_yes rfl rfl ?_
        refine run0 ?_
        refine q_loop (m' := n - (c + 1)) (by omega) (imp_WH (e := [(0, .ptr 60 0 0), (1, .b all), (5, .i (a : Int)), (6, .i ((c + 1 : Nat) : Int))]) (n := n) (m := m) (d := d) (π := π) (A := B) rfl rfl (fun _ _ => rfl) rfl rfl (fun _ _ => rfl) rfl (fun r hr => blen rfl fun _ _ => rfl) ?_) ⟨c + 1, by omega, rfl, ?_⟩
        · exact eA
        · have e := hnx.trans e1
          rw [e]
    · obtain rfl : c = n := by omega
      have hcn' : ¬ (c : Int) < (c : Int) := by omega
      have g1 : (decide ((c : Int) < (c : Int)) == true) = false := by rw [decide_eq_false hcn']; rfl
      have g2 : decide ((c : Int) < (c : Int)) = false := decide_eq_false hcn'
      refine run0 ?_
      refine awp_no rfl rfl ?_
      refine run0 ?_
      refine ⟨.inr rfl, [(4, .i (a : Int))], ?_, ?_⟩
      · rw [hT]
        refine imp_WH rfl rfl (fun _ _ => rfl) rfl rfl (fun _ _ => rfl) rfl (fun r hr => blen rfl fun _ _ => rfl) ?_
        exact eA
      · rw [hT]; exact .one (.tmp rfl)
end Go.Proofs.YtdnmoggifjlbiaaGreat.AM
/- Dense matrices: walks: determinants, ranks. -/
namespace Go.Proofs.YtdnmoggifjlbiaaGreat.AM
open Go Go.RowKit Go.Proofs.YtdnmoggifjlbiaaGreat.PN Go.Proofs.YtdnmoggifjlbiaaGreat.V
open Go.Proofs.YtdnmoggifjlbiaaGreat.LA (S S_succ S_zero S_congr)
set_option linter.unusedVariables false
set_option linter.unusedSimpArgs false
set_option maxRecDepth 4000
set_option maxHeartbeats 4000000
/-- What the steps make of a matrix. -/
noncomputable def gs (n : Nat) (F : Nat → Nat → Rat) : ES := stps n n false (aug n F fun _ _ => 0) n
noncomputable def gdet (n : Nat) (F : Nat → Nat → Rat) : Rat := if (gs n F).at' < n then 0 else (gs n F).d
end Go.Proofs.YtdnmoggifjlbiaaGreat.AM
/- Laws of dense matrices: walks: what they share. -/
namespace Go.Proofs.YtdnmoggifjlbiaaGreat.AM
open Go Go.RowKit Go.Proofs.YtdnmoggifjlbiaaGreat.PN Go.Proofs.YtdnmoggifjlbiaaGreat.V
open Go.Proofs.YtdnmoggifjlbiaaGreat.LA (S S_succ S_zero S_congr)
set_option linter.unusedVariables false
set_option linter.unusedSimpArgs false
set_option maxRecDepth 4000
set_option maxHeartbeats 4000000
end Go.Proofs.YtdnmoggifjlbiaaGreat.AM
/- Laws of dense matrices: walks: ones from corner to corner. -/
namespace Go.Proofs.YtdnmoggifjlbiaaGreat.AM
open Go Go.RowKit Go.Proofs.YtdnmoggifjlbiaaGreat.PN Go.Proofs.YtdnmoggifjlbiaaGreat.V
open Go.Proofs.YtdnmoggifjlbiaaGreat.LA (S S_succ S_zero S_congr)
set_option linter.unusedVariables false
set_option linter.unusedSimpArgs false
set_option maxRecDepth 4000
set_option maxHeartbeats 4000000
/-- Rows that are gathered in slot t: none, or k of them. -/
def matS (t : Nat) (e : List (Nat × AV)) (v : Nat → AV) : Nat → St
  | 0 => stl ((t, .v (.slice none 0 0)) :: e) []
  | k + 1 => stl ((t, .own t 0) :: e) [(t, (1, fun _ => .ones WT (k + 1) v))]
def idm (i j : Nat) : Rat := if i = j then 1 else 0
instance idm_wt (i j : Nat) : Wt (idm i j) 1 := ⟨by unfold idm; split <;> decide⟩
theorem c_unit : Has Tryz.prog 22 [.i 1] (.q 1) := by
  have h := hs_int 1 (by decide) (by decide)
  rw [show ((1 : Int) : Rat) = 1 from rfl] at h
  exact h
end Go.Proofs.YtdnmoggifjlbiaaGreat.AM
/- Products of matrices: the plain laws that DenseRing asks for. -/
namespace Go.Proofs.YtdnmoggifjlbiaaGreat.AM
open Go.Proofs.YtdnmoggifjlbiaaGreat.LA (S S_succ S_zero S_congr S_mul S_mulr S_swap S_single)
set_option linter.unusedVariables false
set_option linter.unusedSimpArgs false
end Go.Proofs.YtdnmoggifjlbiaaGreat.AM
/- Laws of dense matrices: walks: matrices of small numbers (under way). -/
namespace Go.Proofs.YtdnmoggifjlbiaaGreat.AM
open Go Go.RowKit Go.Proofs.YtdnmoggifjlbiaaGreat.PN Go.Proofs.YtdnmoggifjlbiaaGreat.V
open Go.Proofs.YtdnmoggifjlbiaaGreat.LA (S S_succ S_zero S_congr)
set_option linter.unusedVariables false
set_option linter.unusedSimpArgs false
set_option maxRecDepth 4000
set_option maxHeartbeats 4000000
/-- Rows that are gathered in slot 6, all of them own. -/
def famS (e : List (Nat × AV)) (m : Nat) (A : Nat → Nat → Rat) : Nat → St
  | 0 => stl ((6, .v (.slice none 0 0)) :: e) []
  | k + 1 => stl ((6, .own 6 0) :: e) [(6, (1, fun _ => .ones WT (k + 1) (fun i => .own 3 i))), (3, (k + 1, fun r => .rats m (fun j => .q (A r j))))]
def sm (k : Nat) : Ren := fun g r => if g = 3 then (if r < k then (3, r) else (31, r - k)) else if g = 6 then (33, r) else (g, r)
/-- The rows, as they are drawn. -/
def mbase (n : Nat) (zs : List Int) (i j : Nat) : Rat := rowq zs (i * n + j)
/-- The last row's place, and the one ahead of it. -/
def la (n : Nat) : Nat := ((n : Int) - 1).toNat
def lb2 (n : Nat) : Nat := ((n : Int) - 2).toNat
def nv (n : Nat) (zs : List Int) (c : Nat) : Rat := if 2 < n then mbase n zs 0 c + mbase n zs (lb2 n) c else mbase n zs 0 c
def mx (n : Nat) (zs : List Int) (j : Nat) : Nat → Nat → Rat := fun r c => if r = la n ∧ c < j then nv n zs c else mbase n zs r c
def mc (n : Nat) (zs : List Int) : Prop := 1 < n ∧ 2 < zs.length ∧ wthn (zs.getD 2 0) 3 = 0
open Classical in
/-- The matrix that is made. -/
noncomputable def mkm (n : Nat) (zs : List Int) (i j : Nat) : Rat := if mc n zs then mx n zs n i j else mbase n zs i j
def mx1 (n : Nat) (zs : List Int) (j : Nat) : Nat → Nat → Rat := fun r c => if r = la n ∧ c = j then mx n zs j 0 j else mx n zs j r c
instance mbase_wt (n : Nat) (zs : List Int) (i j : Nat) : Wt (mbase n zs i j) 1 := rowq_wt _ _
end Go.Proofs.YtdnmoggifjlbiaaGreat.AM
/- The document's elimination: walked. It does what the program's does. -/
namespace Go.Proofs.YtdnmoggifjlbiaaGreat.AM
open Go Go.RowKit Go.Proofs.YtdnmoggifjlbiaaGreat.PN Go.Proofs.YtdnmoggifjlbiaaGreat.V
open Go.Proofs.YtdnmoggifjlbiaaGreat.LA (S S_succ S_zero S_congr)
set_option linter.unusedVariables false
set_option linter.unusedSimpArgs false
set_option maxRecDepth 4000
set_option maxHeartbeats 4000000
/-- How long all numbers are while the steps are done. -/
structure TB (n m X : Nat) (A : Nat → Nat → Rat) : Prop where
  d : ∀ c, c ≤ n → Wt (stps n m false A c).d X
  A : ∀ c, c ≤ n → ∀ i j, Wt ((stps n m false A c).A i j) X
theorem TB.wt {n m X : Nat} {A : Nat → Nat → Rat} (h : TB n m X A) (i j : Nat) : Wt (A i j) X := h.A 0 (Nat.zero_le _) i j
/-- The determinant, as far as it is known. -/
def dd (c : Nat) (s : ES) : Rat := if s.at' < c then 0 else s.d
theorem cln_low {A : Nat → Nat → Rat} {π : Nat → Nat} {at' col m k : Nat} (h : k ≤ at' + 1) (r j : Nat) : cln A π false at' col m k r j = A r j := by
  unfold cln
  rw [if_neg]
  rintro ⟨⟨i, h1, h2, _⟩, _⟩
  rcases h2 with h2 | ⟨h2, _⟩
  · omega
  · cases h2
theorem dd_wt {c X : Nat} {s : ES} [h : Wt s.d X] (hX : 1 ≤ X) : Wt (dd c s) X := by
  unfold dd; split
  · exact (inferInstance : Wt 0 1).mono hX
  · exact h
theorem copy_blk {m : Nat} {σ : Ren} {z f : Nat → RA} {g : Nat → Rat} (h : ∀ j, j < m → f j = .q (g j)) : BLe σ (.rats (0 + m) (glue 0 z f)) (.rats m fun j => .q (g j)) := by
  refine blen (Nat.zero_add m) fun j hj => ?_
  unfold glue
  rw [if_neg (Nat.not_lt_zero _), Nat.sub_zero]
  exact h j (by omega)
section
variable {p q : Rat} {a b : Nat} [hp : Wt p a] [hq : Wt q b]
theorem cs_sub (h : a ≤ 15000 ∧ b ≤ 15000) : Has Tryz.prog 63 [.q p, .q q] (.q (p - q)) := k_sub (Nat.le_trans hp.le h.1) (Nat.le_trans hq.le h.2)
end
theorem cln_mix {A : Nat → Nat → Rat} {π : Nat → Nat} {all : Bool} {at' col m k n : Nat} (h : k ≤ n) (r j : Nat) : cln A π all at' col m k r j = A r j ∨ cln A π all at' col m k r j = cln A π all at' col m n r j := by
  unfold cln
  by_cases e : (∃ i, i < k ∧ tst all at' i ∧ r = π i) ∧ col ≤ j ∧ j < m
  · obtain ⟨⟨i, h1, h2, h3⟩, h4⟩ := e
    rw [if_pos ⟨⟨i, h1, h2, h3⟩, h4⟩, if_pos ⟨⟨i, by omega, h2, h3⟩, h4⟩]
    exact .inr rfl
  · rw [if_neg e]; exact .inl rfl
theorem dd_step {c a p : Nat} {d x : Rat} {π π' : Nat → Nat} {B B' : Nat → Nat → Rat} : det1 (dd c ⟨a, d, π, B⟩) p a * x = dd (c + 1) ⟨a + 1, det1 d p a * x, π', B'⟩ := by
  unfold dd
  show det1 (if a < c then 0 else d) p a * x = if a + 1 < c + 1 then 0 else det1 d p a * x
  by_cases h : a < c
  · rw [if_pos h, if_pos (by omega)]
    unfold det1
    split
    · exact Rat.zero_mul _
    · rw [Rat.neg_zero]; exact Rat.zero_mul _
  · rw [if_neg h, if_neg (by omega)]
theorem r7_triangle {n m X : Nat} {A : Nat → Nat → Rat} (hB : TB n m X A) (hX : X ≤ 2400) (h0 : 0 < n) (hn : n ≤ 8) (hnm : n ≤ m) (hm : m ≤ 9) :
    Has Tryz.prog 67 [.mat false n (fun _ => m) (fun i j => .q (A i j)), .i n] (.tup3 (.mat true n (fun _ => m) (fun i j => .q ((stps n m false A n).A ((stps n m false A n).π i) j))) (.q (dd n (stps n m false A n))) (.i (stps n m false A n).at')) := by
  have hX1 : 1 ≤ X := Nat.le_trans (wt_pos _) (hB.d 0 (Nat.zero_le _)).le
  have hwt := hB.wt
  refine has_of Tryz.func67 (by kernel_rfl) rfl Tryz.ntmps67 Tryz.results67 rfl rfl rfl ?_
  refine run0 ?_
  refine awp_loop (fun m' s => ∃ k, k ≤ n ∧ m' = n - k ∧ s = famT 7 3 [(0, .mat false n (fun _ => m) (fun i j => .q (A i j))), (1, .i n), (5, .rptr 5 0 0), (8, .i (k : Int))] [(5, (1, fun _ => .rats 1 fun _ => ra0))] m A k) n _ (imp_id (h := [(5, (1, fun _ => .rats 1 fun _ => ra0))]) (e := [(7, .v (.slice none 0 0)), (0, .mat false n (fun _ => m) (fun i j => .q (A i j))), (1, .i n), (5, .rptr 5 0 0), (8, .i ((0 : Nat) : Int))]) ?_ ?_) ⟨0, Nat.zero_le _, rfl, rfl⟩ ?_
  · exact eA
  · exact hA
  · rintro m' s ⟨k, hk, rfl, rfl⟩
    rcases k with _ | k
    · refine run0 ?_
      refine awp_if rfl (fun h => ?_) (fun h => absurd (show ((0 : Nat) : Int) < n by omega) h)
      refine run0 ?_
      refine q_loop ?_ (famT_close (k := 0) (a := 30) (b := 28) (F2 := fun _ => .rats 0 fun _ => ra0) rfl rfl rfl (fun i hi => absurd hi (Nat.not_lt_zero _)) rfl (fun h => absurd h (Nat.lt_irrefl _)) (fun r hr => absurd hr (Nat.not_lt_zero _)) rfl (copy_blk fun j hj => rfl) rfl (by decide) rfl ?_ ?_) ⟨0 + 1, ?_, rfl, rfl⟩
      · omega
      · refine alle rfl (Le.eq rfl rfl) True.intro (alle rfl (Le.eq rfl rfl) True.intro (alle rfl (Le.rptr rfl) rfl (alle rfl (Le.eq rfl rfl) True.intro True.intro)))
      · exact allh rfl Nat.zero_lt_one (ble1 rfl) True.intro True.intro
      · omega
    · refine run0 ?_
      refine awp_if rfl (fun h => ?_) (fun h => ?_)
      · have h : k + 1 < n := by omega
        refine run0 ?_
        refine q_loop ?_ (famT_close (k := k + 1) (a := 30) (b := 28) rfl rfl rfl (fun i hi => if_pos hi) ?_ (fun _ => rfl) (fun r hr => blen rfl fun j hj => rfl) rfl (copy_blk fun j hj => rfl) rfl (by decide) rfl ?_ ?_) ⟨k + 1 + 1, ?_, rfl, rfl⟩
        · omega
        · show (if _ then _ else _) = _
          rw [if_neg (Nat.lt_irrefl _), Nat.sub_self]; rfl
        · refine alle rfl (Le.eq rfl rfl) True.intro (alle rfl (Le.eq rfl rfl) True.intro (alle rfl (Le.rptr rfl) rfl (alle rfl (Le.eq rfl rfl) True.intro True.intro)))
        · exact allh rfl Nat.zero_lt_one (ble1 rfl) True.intro True.intro
        · omega
      · obtain rfl : k + 1 = n := by omega
        refine awp_imp (imp_TH (n := k + 1) (t := 7) (g := 3) (m := m) (π := fun i => i) (A := A) (e := [(1, .i ((k + 1 : Nat) : Int)), (5, .rptr 5 0 0), (7, .own 7 0)]) (l := [(5, (1, fun _ => .rats 1 fun _ => ra0))]) rfl rfl (fun _ _ => rfl) rfl (fun r hr => blen rfl fun _ _ => rfl) rfl ?_ ?_) ?_
        · exact eA
        · exact hA
        generalize hN : k + 1 = N at *
        repeat(first|refine run1 ?_|((with_reducible apply st_call);exact rfl;exact rfl;exact rfl;first|(exact c_unit))|((with_reducible apply st_callg);exact rfl;exact rfl;(first|exact rfl|assumption);exact rfl;exact rfl;exact rfl;first|(exact c_unit)))
        refine awp_loop (fun m' s => ∃ c, c ≤ N ∧ m' = N - c ∧ s = stl [(1, .i N), (5, .rptr 5 0 0), (7, .own 7 0), (9, .rptr 9 0 0), (10, .i (stps N m false A c).at'), (11, .i (c : Int))] (TH 7 3 N m (stps N m false A c).π (stps N m false A c).A [(5, (1, fun _ => .rats 1 fun _ => ra0)), (9, (1, fun _ => .rats 1 fun _ => .q (dd c (stps N m false A c))))])) N _ ?_ ⟨0, Nat.zero_le _, rfl, rfl⟩ ?_
        · refine imp_TH rfl rfl (fun _ _ => rfl) rfl (fun r hr => blen rfl fun _ _ => rfl) rfl ?_ ?_
          · exact eA
          · exact hA
        · rintro m' s ⟨c, hc, rfl, rfl⟩
          have hok := stps_ok (n := N) (m := m) (all := false) (hA := hwt) c
          have hnx : stps N m false A (c + 1) = stp N m false (stps N m false A c) c := rfl
          have wd := hB.d c hc
          have wB := hB.A c hc
          generalize hT : stps N m false A c = T at *
          obtain ⟨a, d, π, B⟩ := T
          have hle : a ≤ c := hok.le
          have hlt : ∀ i, i < N → π i < N := hok.lt
          have hinj : ∀ i j, i < N → j < N → π i = π j → i = j := hok.inj
          have wd : Wt d X := wd
          have wB : ∀ i j, Wt (B i j) X := wB
          refine run0 ?_
          refine awp_if rfl (fun h => ?_) (fun h => ?_)
          · have hcn : c < N := by omega
            have han : a < N := by omega
            refine run0 ?_
            obtain ⟨f1, f2, f3, f4⟩ := fnd_le (fun i => B (π i) c ≠ 0) (N - a) a
            have e1 := stp_yes (n := N) (m := m) (all := false) (s := ⟨a, d, π, B⟩) (col := c)
            have e2 := stp_no (n := N) (m := m) (all := false) (s := ⟨a, d, π, B⟩) (col := c)
            dsimp only at e1 e2
            generalize fnd (fun i => B (π i) c ≠ 0) (N - a) a = i0 at *
            have hz : ∀ j, a ≤ j → j < i0 → B (π j) c = 0 := fun j h1 h2 => Classical.byContradiction fun h => f3 j h1 h2 h
            refine awp_loop (fun m' s => ∃ p, a ≤ p ∧ p ≤ i0 ∧ m' = i0 - p ∧ s = stl [(1, .i N), (5, .rptr 5 0 0), (7, .own 7 0), (9, .rptr 9 0 0), (10, .i (a : Int)), (11, .i (c : Int)), (12, .i (p : Int))] (TH 7 3 N m π B [(5, (1, fun _ => .rats 1 fun _ => ra0)), (9, (1, fun _ => .rats 1 fun _ => .q (dd c ⟨a, d, π, B⟩)))])) (i0 - a) _ (imp_TH rfl rfl (fun _ _ => rfl) rfl (fun r hr => blen rfl fun _ _ => rfl) rfl ?_ ?_) ⟨a, Nat.le_refl _, f1, rfl, rfl⟩ ?_
            · exact eA
            · exact hA
            · rintro m' s ⟨p, hp1, hp, rfl, rfl⟩
              by_cases hpN : p < N
              · have hpN' : (p : Int) < (N : Int) := by omega
                have g1 : (decide ((p : Int) < (N : Int)) == true) = true := by rw [decide_eq_true hpN']; rfl
                have g2 : decide ((p : Int) < (N : Int)) = true := decide_eq_true hpN'
                have hpp := hlt p hpN
                repeat(first|refine run1 ?_|((with_reducible apply st_call);exact rfl;exact rfl;exact rfl;first|(exact hs_nought))|((with_reducible apply st_callg);exact rfl;exact rfl;(first|exact rfl|assumption);exact rfl;exact rfl;exact rfl;first|(exact hs_nought)))
                by_cases hpi : p < i0
                · refine awp_yes rfl ?_ ?_
                  · exact decide_eq_true (hz p hp1 hpi)
                  clear g1 g2
                  refine run0 ?_
                  refine q_loop (m' := i0 - (p + 1)) (by omega) (imp_TH rfl rfl (fun _ _ => rfl) rfl (fun r hr => blen rfl fun _ _ => rfl) rfl ?_ ?_) ⟨p + 1, by omega, by omega, rfl, rfl⟩
                  · exact eA
                  · exact hA
                · obtain rfl : p = i0 := by omega
                  have hnz := f4 (by omega)
                  refine awp_no rfl ?_ ?_
                  · exact decide_eq_false hnz
                  clear g1 g2
                  have e3 := e1 hpN
                  refine run0 ?_
                  refine awp_no rfl ?_ ?_
                  · exact decide_eq_false (show ¬ ((N : Int) ≤ p) by omega)
                  have hlt' := swp_lt hlt hpN han
                  have hinj' := swp_inj hinj hpN han
                  have hat : swp π p a a = π p := swp_at π p a
                  have hD : dd (c + 1) (stps N m false A (c + 1)) = det1 (dd c ⟨a, d, π, B⟩) p a * B (π p) c := by
                    rw [hnx.trans e3]; exact dd_step.symm
                  have wD : Wt (dd c ⟨a, d, π, B⟩) X := dd_wt (h := wd) hX1
                  have hfin := hnx.trans e3
                  generalize dd c ⟨a, d, π, B⟩ = D at *
                  have hpa := hlt a han
                  have hpp' := hlt' a han
                  refine run0 ?_
                  refine awp_join (stl [(1, .i N), (5, .rptr 5 0 0), (7, .own 7 0), (9, .rptr 9 0 0), (10, .i (a : Int)), (11, .i (c : Int))] (TH 7 3 N m (swp π p a) B [(5, (1, fun _ => .rats 1 fun _ => ra0)), (9, (1, fun _ => .rats 1 fun _ => .q (det1 D p a)))])) ?_ ?_
                  · refine awp_if rfl (fun h => ?_) (fun h => ?_)
                    · have e4 : det1 D p a = -D := if_neg (by omega)
                      rw [e4]
                      refine run2 ?_
                      refine run3 ?_
                      repeat(first|refine run4 ?_|((with_reducible apply st_call);exact rfl;exact rfl;exact rfl;first|(exact k_neg (Nat.le_trans wD.le (by omega))))|((with_reducible apply st_callg);exact rfl;exact rfl;(first|exact rfl|assumption);exact rfl;exact rfl;exact rfl;first|(exact k_neg (Nat.le_trans wD.le (by omega)))))
                      refine ⟨rfl, imp_TH rfl rfl (fun _ _ => swp_own _) rfl (fun r hr => blen rfl fun _ _ => rfl) rfl ?_ ?_⟩
                      · exact eA
                      · exact hA
                    · obtain rfl : p = a := by omega
                      have e4 : det1 D p p = D := if_pos rfl
                      rw [e4]
                      refine run0 ?_
                      refine ⟨rfl, imp_TH rfl rfl (fun _ _ => congrArg _ (swp_self _ _ _).symm) rfl (fun r hr => blen rfl fun _ _ => rfl) rfl ?_ ?_⟩
                      · exact eA
                      · exact hA
                  · have wD2 : Wt (det1 D p a) X := det1_wt (h := wD)
                    generalize det1 D p a = D2 at *
                    rw [← hat] at hD hnz
                    generalize swp π p a = π' at *
                    repeat(first|refine run1 ?_|((with_reducible apply st_call);exact rfl;exact rfl;exact rfl;first|(exact cs_mul ⟨by omega, by omega⟩))|((with_reducible apply st_callg);exact rfl;exact rfl;(first|exact rfl|assumption);exact rfl;exact rfl;exact rfl;first|(exact cs_mul ⟨by omega, by omega⟩)))
                    have wn : ∀ i j, Wt ((stps N m false A (c + 1)).A i j) X := hB.A (c + 1) (by omega)
                    rw [hfin] at wn
                    have wn : ∀ i j, Wt (cln B π' false a c m N i j) X := wn
                    refine awp_loop (fun m' s => ∃ k, a + 1 ≤ k ∧ k ≤ N ∧ m' = N - k ∧ s = stl [(1, .i N), (5, .rptr 5 0 0), (7, .own 7 0), (9, .rptr 9 0 0), (10, .i (a : Int)), (11, .i (c : Int)), (13, .i (k : Int))] (TH 7 3 N m π' (cln B π' false a c m k) [(5, (1, fun _ => .rats 1 fun _ => ra0)), (9, (1, fun _ => .rats 1 fun _ => .q (D2 * B (π' a) c)))])) (N - (a + 1)) _ (imp_TH rfl rfl (fun _ _ => rfl) rfl (fun r hr => blen rfl fun j _ => congrArg RA.q (cln_low (Nat.le_refl _) r j).symm) rfl ?_ ?_) ⟨a + 1, Nat.le_refl _, by omega, rfl, rfl⟩ ?_
                    · exact eA
                    · exact hA
                    · rintro m' s ⟨k, hk1, hk, rfl, rfl⟩
                      refine run0 ?_
                      refine awp_if rfl (fun h => ?_) (fun h => ?_)
                      · have h' : (k : Int) < (N : Int) := h
                        have hkN : k < N := by omega
                        have hpk := hlt' k hkN
                        have wC : ∀ r j, Wt (cln B π' false a c m k r j) X := fun r j => by
                          rcases cln_mix (A := B) (π := π') (all := false) (at' := a) (col := c) (m := m) hk r j with e | e
                          · rw [e]; exact wB r j
                          · rw [e]; exact wn r j
                        have ht : tst false a k := .inl (by omega)
                        have hne : π' k ≠ π' a := fun e => tst_ne ht (hinj' k a hkN han e)
                        have est := cln_step (m := m) (all := false) (A := B) (col := c) hinj' han hkN ht
                        have hrow : cln B π' false a c m k (π' a) c = B (π' a) c := cln_row (n := N) (fun i h1 h2 h3 => tst_ne h2 (hinj' a i han (by omega) h3).symm) c
                        have hne0 : cln B π' false a c m k (π' a) c ≠ 0 := by rw [hrow]; exact hnz
                        generalize cln B π' false a c m k = C at *
                        repeat(first|refine run1 ?_|((with_reducible apply st_call);exact rfl;exact rfl;exact rfl;first|(exact hs_nought))|((with_reducible apply st_callg);exact rfl;exact rfl;(first|exact rfl|assumption);exact rfl;exact rfl;exact rfl;first|(exact hs_nought)))
                        refine awp_if rfl (fun hq => ?_) (fun hq => ?_)
                        · have hq' : C (π' k) c = 0 := hq
                          rw [hq', show (0 : Rat) / C (π' a) c = 0 by rw [Rat.div_def, Rat.zero_mul]] at est
                          refine run0 ?_
                          refine q_loop (m' := N - (k + 1)) (by omega) (imp_TH rfl rfl (fun _ _ => rfl) rfl (fun r hr => blen rfl fun j _ => congrArg RA.q ?_) rfl ?_ ?_) ⟨k + 1, by omega, by omega, rfl, rfl⟩
                          · rw [← est, clr_zero rfl]
                          · exact eA
                          · exact hA
                        · repeat(first|refine run1 ?_|((with_reducible apply st_call);exact rfl;exact rfl;exact rfl;first|(exact cs_over ⟨by omega, by omega⟩ hne0))|((with_reducible apply st_callg);exact rfl;exact rfl;(first|exact rfl|assumption);exact rfl;exact rfl;exact rfl;first|(exact cs_over ⟨by omega, by omega⟩ hne0)))
                          have wq : Wt (C (π' k) c / C (π' a) c) (X + X) := inferInstance
                          generalize hq2 : C (π' k) c / C (π' a) c = q at *
                          refine awp_loop (fun m' s => ∃ u, c ≤ u ∧ u ≤ m ∧ m' = m - u ∧ s = stl [(1, .i N), (5, .rptr 5 0 0), (7, .own 7 0), (9, .rptr 9 0 0), (10, .i (a : Int)), (11, .i (c : Int)), (13, .i (k : Int)), (14, .rptr 14 0 0), (15, .i (u : Int))] (TH 7 3 N m π' (clr C q (π' k) (π' a) c u) [(5, (1, fun _ => .rats 1 fun _ => ra0)), (9, (1, fun _ => .rats 1 fun _ => .q (D2 * B (π' a) c))), (14, (1, fun _ => .rats 1 fun _ => .q q))])) (m - c) _ (imp_TH rfl rfl (fun _ _ => rfl) rfl (fun r hr => blen rfl fun j _ => congrArg RA.q clr_none.symm) rfl ?_ ?_) ⟨c, Nat.le_refl _, by omega, rfl, rfl⟩ ?_
                          · exact eA
                          · refine allh rfl (by decide) (ble1 rfl) True.intro (allh rfl (by decide) (ble1 rfl) True.intro (allh rfl (by decide) (ble1 (congrArg RA.q hq2)) True.intro True.intro))
                          · rintro m' s ⟨u, hu1, hu, rfl, rfl⟩
                            refine run0 ?_
                            refine awp_if rfl (fun h => ?_) (fun h => ?_)
                            · have h' : (u : Int) < m := h
                              have hum : u < m := by omega
                              have wk : ∀ r j, Wt (clr C q (π' k) (π' a) c u r j) (4 * X + 1) := fun r j => clr_wt r j
                              repeat(first|refine run1 ?_|((with_reducible apply st_call);exact rfl;exact rfl;exact rfl;first|(exact cs_mul ⟨by omega, by omega⟩)|(exact cs_sub ⟨by omega, by omega⟩))|((with_reducible apply st_callg);exact rfl;exact rfl;(first|exact rfl|assumption);exact rfl;exact rfl;exact rfl;first|(exact cs_mul ⟨by omega, by omega⟩)|(exact cs_sub ⟨by omega, by omega⟩)))
                              refine q_loop (m' := m - (u + 1)) (by omega) (imp_TH (t := 7) (g := 3) (n := N) (m := m) (π := π') (A := clr C q (π' k) (π' a) c (u + 1)) (e := [(1, .i N), (5, .rptr 5 0 0), (7, .own 7 0), (9, .rptr 9 0 0), (10, .i (a : Int)), (11, .i (c : Int)), (13, .i (k : Int)), (14, .rptr 14 0 0), (15, .i ((u + 1 : Nat) : Int))]) (l := [(5, (1, fun _ => .rats 1 fun _ => ra0)), (9, (1, fun _ => .rats 1 fun _ => .q (D2 * B (π' a) c))), (14, (1, fun _ => .rats 1 fun _ => .q q))]) rfl rfl (fun _ _ => rfl) rfl (fun r hr => clr_blk (clr_step hne hu1) r) rfl ?_ ?_) ⟨u + 1, by omega, by omega, rfl, rfl⟩
                              · exact eA
                              · exact hA
                            · have h' : ¬ (u : Int) < m := h
                              obtain rfl : u = m := by omega
                              refine run0 ?_
                              refine q_loop (m' := N - (k + 1)) (by omega) (imp_TH rfl rfl (fun _ _ => rfl) rfl (fun r hr => blen rfl fun j _ => congrArg RA.q (by rw [est])) rfl ?_ ?_) ⟨k + 1, by omega, by omega, rfl, rfl⟩
                              · exact eA
                              · exact hA
                      · have h' : ¬ (k : Int) < (N : Int) := h
                        obtain rfl : k = N := by omega
                        refine run0 ?_
                        refine q_loop (m' := k - (c + 1)) (by omega) (imp_TH (e := [(1, .i k), (5, .rptr 5 0 0), (7, .own 7 0), (9, .rptr 9 0 0), (10, .i ((a + 1 : Nat) : Int)), (11, .i ((c + 1 : Nat) : Int))]) (t := 7) (g := 3) (n := k) (m := m) (π := π') (A := cln B π' false a c m k) (l := [(5, (1, fun _ => .rats 1 fun _ => ra0)), (9, (1, fun _ => .rats 1 fun _ => .q (D2 * B (π' a) c)))]) rfl rfl (fun _ _ => rfl) rfl (fun r hr => blen rfl fun _ _ => rfl) rfl ?_ ?_) ⟨c + 1, by omega, rfl, ?_⟩
                        · exact eA
                        · exact hA
                        · rw [hD, hfin]
              · have hpN' : ¬ (p : Int) < (N : Int) := by omega
                have g1 : (decide ((p : Int) < (N : Int)) == true) = false := by rw [decide_eq_false hpN']; rfl
                have g2 : decide ((p : Int) < (N : Int)) = false := decide_eq_false hpN'
                obtain rfl : p = i0 := by omega
                have e3 := hnx.trans (e2 hpN)
                refine run0 ?_
                refine awp_no rfl rfl ?_
                refine run0 ?_
                refine awp_yes rfl ?_ ?_
                · exact decide_eq_true (show (N : Int) ≤ p by omega)
                clear g1 g2
                repeat(first|refine run1 ?_|((with_reducible apply st_call);exact rfl;exact rfl;exact rfl;first|(exact hs_zero))|((with_reducible apply st_callg);exact rfl;exact rfl;(first|exact rfl|assumption);exact rfl;exact rfl;exact rfl;first|(exact hs_zero)))
                refine q_loop (m' := N - (c + 1)) (by omega) (imp_TH (e := [(1, .i N), (5, .rptr 5 0 0), (7, .own 7 0), (9, .rptr 9 0 0), (10, .i (a : Int)), (11, .i ((c + 1 : Nat) : Int))]) (t := 7) (g := 3) (n := N) (m := m) (π := π) (A := B) (l := [(5, (1, fun _ => .rats 1 fun _ => ra0)), (9, (1, fun _ => .rats 1 fun _ => .q 0))]) rfl rfl (fun _ _ => rfl) rfl (fun r hr => blen rfl fun _ _ => rfl) rfl ?_ ?_) ⟨c + 1, by omega, rfl, ?_⟩
                · exact eA
                · exact hA
                · rw [e3, show dd (c + 1) ⟨a, d, π, B⟩ = 0 from if_pos (show a < c + 1 by omega)]
          · obtain rfl : c = N := by omega
            rw [hT]
            refine run0 ?_
            refine ⟨.inr rfl, _, (imp_stl (h := [(7, (1, fun _ => .ones WT c (fun i => .own 3 i))), (3, (c, fun r => .rats m (fun j => .q (B (π r) j)))), (5, (1, fun _ => .rats 1 fun _ => .q (dd c ⟨a, d, π, B⟩)))]) (e := [(4, .own 7 0), (5, .rptr 5 0 0), (6, .i (a : Int))]) (sP 3 c π) (fun h => by cases h) (fun g r g' r' _ _ => sP_inj hlt hinj g r g' r') ?_ ?_).trans (imp_mat2 4 (fun _ => m) (fun i j => .q (B (π i) j)) rfl rfl rfl (fun _ _ => rfl) rfl (fun _ _ => rfl) (by decide)), .three (.tmp rfl) (.rat rfl rfl (by decide) rfl (by decide) rfl) (.tmp rfl)⟩
            · exact alle rfl (Le.own (sP_ne (by decide) 0)) rfl (alle rfl (Le.rptr (sP_ne (by decide) 0)) rfl (alle rfl (Le.eq rfl rfl) True.intro True.intro))
            · refine ⟨fun r hr => ?_, fun r hr => ?_, fun r hr => ?_, True.intro⟩
              · obtain rfl : r = 0 := by omega
                rw [sP_ne (by decide)]
                exact ⟨1, _, rfl, Nat.zero_lt_one, bleo rfl fun i hi => Le.own (sP_g hi), fun i hi => rfl⟩
              · rw [sP_g hr]
                exact ⟨c, _, rfl, hlt r hr, blen rfl fun _ _ => rfl, True.intro⟩
              · obtain rfl : r = 0 := by omega
                rw [sP_ne (by decide)]
                exact ⟨1, _, rfl, Nat.zero_lt_one, ble1 rfl, True.intro⟩
end Go.Proofs.YtdnmoggifjlbiaaGreat.AM
/- How long numbers are, by bits. -/
namespace Go.Proofs.YtdnmoggifjlbiaaGreat.AM
open Go.Proofs.YtdnmoggifjlbiaaGreat.PN
set_option linter.unusedVariables false
set_option linter.unusedSimpArgs false
class Bt (q : Rat) (k : outParam Nat) : Prop where
  n : nm q < 2 ^ k
  d : q.den < 2 ^ k
theorem Bt.mono {q : Rat} {a b : Nat} (h : Bt q a) (k : a ≤ b) : Bt q b :=
  ⟨Nat.lt_of_lt_of_le h.n (Nat.pow_le_pow_right (by decide) k), Nat.lt_of_lt_of_le h.d (Nat.pow_le_pow_right (by decide) k)⟩
theorem Bt.of_mk {n d k : Nat} (s : Bool) (hd : d ≠ 0) (h1 : n < 2 ^ k) (h2 : d < 2 ^ k) : Bt (PN.mk s n d) k :=
  ⟨by rw [mk_num s hd]; exact Nat.lt_of_le_of_lt (Nat.div_le_self _ _) h1, by rw [mk_den s hd]; exact Nat.lt_of_le_of_lt (Nat.div_le_self _ _) h2⟩
theorem lt_mul {x y a b : Nat} (h : x < 2 ^ a) (k : y < 2 ^ b) : x * y < 2 ^ (a + b) := by rw [Nat.pow_add]; exact Nat.mul_lt_mul'' h k
instance Bt.mul {p q : Rat} {a b : Nat} [h : Bt p a] [k : Bt q b] : Bt (p * q) (a + b) := by
  rw [mul_parts]
  exact Bt.of_mk _ (Nat.mul_ne_zero (den_ne p) (den_ne q)) (lt_mul h.n k.n) (lt_mul h.d k.d)
theorem Bt.pos {q : Rat} {a : Nat} (h : Bt q a) : 0 < a := by
  rcases Nat.eq_zero_or_pos a with rfl | h0
  · have := h.d; have := q.den_pos; omega
  · exact h0
instance Bt.zero : Bt 0 1 := ⟨by decide, by decide⟩
instance Bt.one : Bt 1 1 := ⟨by decide, by decide⟩
instance Bt.div {p q : Rat} {a b : Nat} [h : Bt p a] [k : Bt q b] : Bt (p / q) (a + b) := by
  by_cases e : q = 0
  · rw [e, Rat.div_def, Rat.inv_zero, Rat.mul_zero]
    exact Bt.zero.mono (by have := h.pos; omega)
  · rw [div_parts p q e]
    exact Bt.of_mk _ (Nat.mul_ne_zero (den_ne p) (fun e' => e (nm_eq_zero.1 e'))) (lt_mul h.n k.d) (lt_mul h.d k.n)
instance Bt.add {p q : Rat} {a b : Nat} [h : Bt p a] [k : Bt q b] : Bt (p + q) (a + b + 1) := by
  have h1 := lt_mul h.n k.d
  have h2 : nm q * p.den < 2 ^ (a + b) := by rw [Nat.add_comm]; exact lt_mul k.n h.d
  have h3 := lt_mul h.d k.d
  have hp : 2 ^ (a + b + 1) = 2 ^ (a + b) * 2 := Nat.pow_succ ..
  have hd := Nat.mul_ne_zero (den_ne p) (den_ne q)
  by_cases e : ng p = ng q
  · rw [add_parts_same p q e]; exact Bt.of_mk _ hd (by omega) (by omega)
  · rcases Nat.le_total (nm q * p.den) (nm p * q.den) with hle | hle
    · rw [add_parts_ge p q e hle]; exact Bt.of_mk _ hd (by omega) (by omega)
    · rw [add_parts_lt p q e hle]; exact Bt.of_mk _ hd (by omega) (by omega)
instance Bt.neg {p : Rat} {a : Nat} [h : Bt p a] : Bt (-p) a := ⟨by rw [neg_nm]; exact h.n, by rw [neg_den]; exact h.d⟩
instance Bt.sub {p q : Rat} {a b : Nat} [h : Bt p a] [k : Bt q b] : Bt (p - q) (a + b + 1) := by
  rw [Rat.sub_eq_add_neg]; exact inferInstance
theorem Bt.wt {q : Rat} {k X : Nat} (h : Bt q k) (hX : k / 32 + 1 ≤ X) : Wt q X := by
  have hB : 2 ^ k ≤ B ^ (k / 32 + 1) := by
    rw [show B ^ (k / 32 + 1) = 2 ^ (32 * (k / 32 + 1)) by rw [Nat.pow_mul]]
    exact Nat.pow_le_pow_right (by decide) (by omega)
  refine ⟨Nat.le_trans ?_ hX⟩
  have h1 := (lt_iff (nm q) _).1 (Nat.lt_of_lt_of_le h.n hB)
  have h2 := (lt_iff q.den _).1 (Nat.lt_of_lt_of_le h.d hB)
  unfold PN.wt
  omega
theorem smal_bits : ∀ x : _root_.Fin 41, ∀ y : _root_.Fin 5, nm ((((x.val : Int) - 20 : Int) : Rat) / ((1 + (y.val : Int) : Int) : Rat)) < 2 ^ 5 ∧ ((((x.val : Int) - 20 : Int) : Rat) / ((1 + (y.val : Int) : Int) : Rat)).den < 2 ^ 5 := by decide +kernel
instance smal_bt (a : Int) : Bt (smal a) 5 := by
  obtain ⟨h1, h2⟩ := wthn_lt (a := a) (n := 41) (by decide)
  obtain ⟨h3, h4⟩ := wthn_lt (a := a.tdiv 41) (n := 5) (by decide)
  have := smal_bits ⟨(wthn a 41).toNat, by omega⟩ ⟨(wthn (a.tdiv 41) 5).toNat, by omega⟩
  rw [show (((wthn a 41).toNat : Nat) : Int) = wthn a 41 by omega, show (((wthn (a.tdiv 41) 5).toNat : Nat) : Int) = wthn (a.tdiv 41) 5 by omega] at this
  exact ⟨this.1, this.2⟩
instance rowq_bt (zs : List Int) (i : Nat) : Bt (rowq zs i) 5 := smal_bt _
end Go.Proofs.YtdnmoggifjlbiaaGreat.AM
/- How long numbers are, by bits: while the steps are done. -/
namespace Go.Proofs.YtdnmoggifjlbiaaGreat.AM
open Go.Proofs.YtdnmoggifjlbiaaGreat.PN
open Go.Proofs.YtdnmoggifjlbiaaGreat.LA (S S_succ S_zero S_congr)
set_option linter.unusedVariables false
set_option linter.unusedSimpArgs false
/-- How many bits numbers have when a pivots are found. -/
def gb (n K a : Nat) : Nat := 4 ^ (min a (n - 1)) * (K + 1)
theorem gb_pos (n K a : Nat) : K + 1 ≤ gb n K a := Nat.le_mul_of_pos_left _ (Nat.pow_pos (by decide))
theorem gb_last {n K a : Nat} (h : ¬ a + 1 ≤ n - 1) : gb n K (a + 1) = gb n K a ∨ a + 1 ≤ n - 1 := by
  unfold gb
  exact .inl (by rw [show min (a + 1) (n - 1) = min a (n - 1) by omega])
theorem gb_step {n K a : Nat} (h : a + 1 ≤ n - 1) : gb n K (a + 1) = 4 * gb n K a := by
  unfold gb
  rw [show min (a + 1) (n - 1) = min a (n - 1) + 1 by omega, Nat.pow_succ]
  ac_rfl
structure EB (n K : Nat) (s : ES) : Prop where
  A : ∀ i j, Bt (s.A i j) (gb n K s.at' - 1)
  d : Bt s.d (3 * gb n K s.at')
  d' : s.at' < n → Bt s.d (2 * gb n K s.at')
theorem det1_bt {d : Rat} {X i j : Nat} [h : Bt d X] : Bt (det1 d i j) X := by
  unfold det1; split
  · exact h
  · exact inferInstance
theorem stp_eb {n m c K : Nat} {s : ES} (hn : 0 < n) (h : EB n K s) : EB n K (stp n m false s c) := by
  unfold stp
  split
  · rename_i hi
    obtain ⟨h1, h2, _, _⟩ := fnd_le (fun i => s.A (s.π i) c ≠ 0) (n - s.at') s.at'
    generalize fnd (fun i => s.A (s.π i) c ≠ 0) (n - s.at') s.at' = i0 at *
    have han : s.at' < n := by omega
    have w1 := det1_bt (i := i0) (j := s.at') (h := h.d' han)
    have w2 := h.A (s.π i0) c
    have hp := gb_pos n K s.at'
    have w3 := Bt.mul (h := w1) (k := w2)
    by_cases hl : s.at' + 1 ≤ n - 1
    · have e := gb_step (K := K) hl
      refine ⟨fun i j => ?_, w3.mono ?_, fun _ => w3.mono ?_⟩
      · show Bt (cln _ _ _ _ _ _ _ i j) (gb n K (s.at' + 1) - 1)
        rw [e]
        unfold cln
        split
        · have hA := h.A
          exact (inferInstance : Bt (s.A i j - s.A i c / s.A (swp s.π i0 s.at' s.at') c * s.A (swp s.π i0 s.at' s.at') j) _).mono (by omega)
        · exact (h.A i j).mono (by omega)
      · show _ ≤ 3 * gb n K (s.at' + 1); omega
      · show _ ≤ 2 * gb n K (s.at' + 1); omega
    · have e : gb n K (s.at' + 1) = gb n K s.at' := (gb_last hl).resolve_right hl
      refine ⟨fun i j => ?_, w3.mono ?_, fun hlt => ?_⟩
      · show Bt (cln _ _ _ _ _ _ _ i j) (gb n K (s.at' + 1) - 1)
        rw [e]
        unfold cln
        rw [if_neg]
        · exact h.A i j
        · rintro ⟨⟨k, h3, h4, _⟩, _⟩
          rcases h4 with h4 | ⟨h4, _⟩
          · omega
          · cases h4
      · show _ ≤ 3 * gb n K (s.at' + 1); omega
      · have hlt : s.at' + 1 < n := hlt
        omega
  · exact h
theorem stps_eb {n m K : Nat} {A : Nat → Nat → Rat} (hn : 0 < n) (hK : 1 ≤ K) [hA : ∀ i j, Bt (A i j) K] : ∀ c, EB n K (stps n m false A c)
  | 0 => by
    have e : gb n K 0 = K + 1 := by unfold gb; rw [Nat.zero_min, Nat.pow_zero, Nat.one_mul]
    have h1 : Bt (1 : Rat) 1 := inferInstance
    refine ⟨fun i j => ?_, ?_, fun _ => ?_⟩
    · show Bt (A i j) (gb n K 0 - 1); rw [e]; exact hA i j
    · show Bt (1 : Rat) (3 * gb n K 0); rw [e]; exact h1.mono (by omega)
    · show Bt (1 : Rat) (2 * gb n K 0); rw [e]; exact h1.mono (by omega)
  | c + 1 => stp_eb hn (stps_eb hn hK c)
theorem gb_le (n K a : Nat) : gb n K a ≤ 4 ^ (n - 1) * (K + 1) := Nat.mul_le_mul_right _ (Nat.pow_le_pow_right (by decide) (Nat.min_le_right _ _))
theorem TB.of {n m K X : Nat} {A : Nat → Nat → Rat} (hn : 0 < n) (hK : 1 ≤ K) [hA : ∀ i j, Bt (A i j) K] (hX : (3 * (4 ^ (n - 1) * (K + 1))) / 32 + 1 ≤ X) : TB n m X A := by
  refine ⟨fun c _ => ?_, fun c _ i j => ?_⟩
  · have h := (stps_eb (m := m) hn hK (hA := hA) c).d
    have := gb_le n K (stps n m false A c).at'
    exact (h.mono (show _ ≤ 3 * (4 ^ (n - 1) * (K + 1)) by omega)).wt hX
  · have h := (stps_eb (m := m) hn hK (hA := hA) c).A i j
    have := gb_le n K (stps n m false A c).at'
    exact (h.mono (show _ ≤ 3 * (4 ^ (n - 1) * (K + 1)) by omega)).wt hX
end Go.Proofs.YtdnmoggifjlbiaaGreat.AM

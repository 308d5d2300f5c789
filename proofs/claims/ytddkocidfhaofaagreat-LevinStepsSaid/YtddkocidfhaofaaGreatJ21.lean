/- Joined texts, 21: Sml LawB LawC DnH DnI LawA LawD PRing LawE LawH PBt. -/
import Derived.Test.YtddkocidfhaofaaGreatJ15
import Derived.Test.YtddkocidfhaofaaGreatJ20
import Derived.Test.YtddkocidfhaofaaGreatJ14
set_option linter.unusedVariables false
set_option linter.unusedSimpArgs false
/- Small numbers that are drawn: walked. -/
namespace Go.Proofs.YtddkocidfhaofaaGreat.AM
open Go Go.RowKit Go.Proofs.YtddkocidfhaofaaGreat.PN Go.Proofs.YtddkocidfhaofaaGreat.V
open Go.Proofs.YtddkocidfhaofaaGreat.LA (S S_succ S_zero S_congr)
set_option linter.unusedVariables false
set_option linter.unusedSimpArgs false
set_option maxRecDepth 4000
set_option maxHeartbeats 4000000
/-! ### Numbers that are drawn -/
theorem hs_of (n d : Int) (h1 : -9223372036854775808 ≤ n) (h2 : n < 9223372036854775808) (h3 : 0 < d) (h4 : d < 9223372036854775808) : Has Tryz.prog 27 [.i n, .i d] (.tup (.q ((n : Rat) / (d : Rat))) (.i 0)) := by
  refine ⟨by kernel_rfl, ⟨trivial, trivial⟩, fun w S β vs hv => ?_⟩
  obtain ⟨v, u, rfl, e1, e2⟩ := rvs2 hv
  have e1 : v = .int .i64 n := e1
  have e2 : u = .int .i64 d := e2
  subst e1; subst e2
  refine (s_of n d w h1 h2 (by omega) h4 (by omega)).mono ?_
  rintro e w' ⟨s, vn, vd, rfl, h1, h2⟩
  refine ⟨_, rfl, h2, _, _, rfl, ?_, rfl⟩
  have hq : mk (decide (n < 0) != decide (d < 0)) n.natAbs d.natAbs = (n : Rat) / (d : Rat) := by
    have h5 : (decide (n < 0) != decide (d < 0)) = decide (n < 0) := by rw [decide_eq_false (show ¬ d < 0 by omega)]; simp
    rw [h5]
    have h6 : PN.sg (decide (n < 0)) n.natAbs = n := by
      unfold PN.sg
      by_cases h : n < 0
      · rw [decide_eq_true h]; simp; omega
      · rw [decide_eq_false h]; simp; omega
    unfold mk
    rw [h6, Rat.mkRat_eq_div]
    have h7 : ((d.natAbs : Nat) : Int) = d := by omega
    rw [show ((d.natAbs : Nat) : Rat) = (((d.natAbs : Nat) : Int) : Rat) from rfl, h7]
  rw [← hq]
  exact rat_rv h1
/-- A number from 0 to n - 1. -/
def wthn (a n : Int) : Int := if a.tmod n < 0 then a.tmod n + n else a.tmod n
theorem wthn_lt {a n : Int} (hn : 0 < n) : 0 ≤ wthn a n ∧ wthn a n < n := by
  unfold wthn
  have h1 := Int.tmod_lt_of_pos a hn
  have h2 : -n < a.tmod n := Int.lt_tmod_of_pos a hn
  split <;> omega
theorem k_within2 {a n : Int} (hn : 0 < n) (hn' : n < 1000000000) : Has Tryz.prog 66 [.i a, .i n] (.i (wthn a n)) := by
  refine has_of Tryz.func66 (by kernel_rfl) rfl Tryz.ntmps66 Tryz.results66 rfl rfl rfl ?_
  have h1 := Int.tmod_lt_of_pos a hn
  have h2 : -n < a.tmod n := Int.lt_tmod_of_pos a hn
  refine run0 ?_
  refine awp_if rfl (fun h => ?_) (fun h => ?_)
  · have e : wthn a n = a.tmod n + n := if_pos h
    rw [e]
    refine run0 ?_
    refine ⟨.inr rfl, _, Imp.refl _, ?_⟩
    exact .one (.tmp rfl)
  · have e : wthn a n = a.tmod n := if_neg h
    rw [e]
    refine run0 ?_
    refine ⟨.inr rfl, _, Imp.refl _, ?_⟩
    exact .one (.tmp rfl)
/-- A small number. -/
def smal (a : Int) : Rat := ((wthn a 41 - 20 : Int) : Rat) / ((1 + wthn (a.tdiv 41) 5 : Int) : Rat)
theorem smal_key : ∀ x : _root_.Fin 41, ∀ y : _root_.Fin 5, wt ((((x.val : Int) - 20 : Int) : Rat) / ((1 + (y.val : Int) : Int) : Rat)) ≤ 1 := by decide +kernel
instance smal_wt (a : Int) : Wt (smal a) 1 := ⟨by
  obtain ⟨h1, h2⟩ := wthn_lt (a := a) (n := 41) (by decide)
  obtain ⟨h3, h4⟩ := wthn_lt (a := a.tdiv 41) (n := 5) (by decide)
  have := smal_key ⟨(wthn a 41).toNat, by omega⟩ ⟨(wthn (a.tdiv 41) 5).toNat, by omega⟩
  rw [show (((wthn a 41).toNat : Nat) : Int) = wthn a 41 by omega, show (((wthn (a.tdiv 41) 5).toNat : Nat) : Int) = wthn (a.tdiv 41) 5 by omega] at this
  exact this⟩
theorem k_small {a : Int} (ha : Fits .i64 a) : Has Tryz.prog 43 [.i a] (.q (smal a)) := by
  refine has_of Tryz.func43 (by kernel_rfl) rfl Tryz.ntmps43 Tryz.results43 rfl rfl rfl ?_
  obtain ⟨h1, h2⟩ := wthn_lt (a := a) (n := 41) (by decide)
  obtain ⟨h3, h4⟩ := wthn_lt (a := a.tdiv 41) (n := 5) (by decide)
  have hf : -9223372036854775808 ≤ a ∧ a ≤ 9223372036854775807 := ha
  have h5 : Fits .i64 (a.tdiv 41) := by
    have e1 : (a.tdiv 41).natAbs = a.natAbs / 41 := Int.natAbs_tdiv a 41
    show -9223372036854775808 ≤ _ ∧ _ ≤ (9223372036854775807 : Int)
    omega
  obtain ⟨h5a, h5b⟩ : -9223372036854775808 ≤ a.tdiv 41 ∧ a.tdiv 41 ≤ 9223372036854775807 := h5
  repeat(first|refine run1 ?_|((with_reducible apply st_call);exact rfl;exact rfl;exact rfl;first|(exact k_within2 (by decide) (by decide))|(exact hs_of _ _ (by omega) (by omega) (by omega) (by omega)))|((with_reducible apply st_callg);exact rfl;exact rfl;(first|exact rfl|assumption);exact rfl;exact rfl;exact rfl;first|(exact k_within2 (by decide) (by decide))|(exact hs_of _ _ (by omega) (by omega) (by omega) (by omega))))
  refine ⟨.inr rfl, _, Imp.refl _, ?_⟩
  exact .one (.rat rfl rfl (by decide) rfl (by decide) rfl)
end Go.Proofs.YtddkocidfhaofaaGreat.AM
/- Laws of dense matrices: walks: rows of numbers. -/
namespace Go.Proofs.YtddkocidfhaofaaGreat.AM
open Go Go.RowKit Go.Proofs.YtddkocidfhaofaaGreat.PN Go.Proofs.YtddkocidfhaofaaGreat.V
open Go.Proofs.YtddkocidfhaofaaGreat.LA (S S_succ S_zero S_congr)
set_option linter.unusedVariables false
set_option linter.unusedSimpArgs false
set_option maxRecDepth 4000
set_option maxHeartbeats 4000000
/-- What a list of whole numbers says at a place. -/
def rowx (zs : List Int) (i : Nat) : Int := if i < zs.length then zs.getD i 0 else 3 * i + 1
def rowq (zs : List Int) (i : Nat) : Rat := smal (rowx zs i)
instance rowq_wt (zs : List Int) (i : Nat) : Wt (rowq zs i) 1 := smal_wt _
def rowS (e : List (Nat × AV)) (v : Nat → RA) : Nat → St
  | 0 => stl ((5, .v (.slice none 0 0)) :: e) []
  | k + 1 => stl ((5, .own 5 0) :: e) [(5, (1, fun _ => .rats (k + 1) v))]
theorem row_close {s : St} {e : List (Nat × AV)} {k : Nat} {v f : Nat → RA} {F : Nat → Blk} {a : Nat} (h5 : s.env 5 = some (.own a 0)) (ha : s.heap a = some (1, F)) (hF : F 0 = .rats (k + 1) f) (hf : ∀ i, i < k + 1 → f i = v i) (h60 : s.used 60 = false) (he : AllE s (s1 5 a) (fun g => memN g [5]) e) : Imp s (rowS e v (k + 1)) := by
  refine imp_stl (h := [(5, (1, fun _ => .rats (k + 1) v))]) (s1 5 a) (fun h => by rw [h60] at h; cases h) (fun g r g' r' h1 h2 => s1_inj 5 a g r g' r' h1 h2) ⟨⟨_, h5, Le.own (by unfold s1; rw [if_pos rfl]), rfl⟩, he⟩ ⟨fun r hr => ?_, trivial⟩ (by rw [h60]; rfl)
  obtain rfl : r = 0 := by omega
  have e1 : s1 5 a 5 0 = (a, 0) := by unfold s1; rw [if_pos rfl]
  rw [e1]
  refine ⟨1, F, ha, Nat.zero_lt_one, ?_, trivial⟩
  show BLe _ (F 0) _
  rw [hF]; exact blen rfl hf
theorem k_row {zs : List Int} {n : Nat} (hn : n ≤ 1000) (hz : ∀ i, i < zs.length → Fits .i64 (zs.getD i 0)) : Has Tryz.prog 23 [.seq .i64 zs, .i n] (.row true n (fun i => .q (rowq zs i))) := by
  refine has_of Tryz.func23 (by kernel_rfl) rfl Tryz.ntmps23 Tryz.results23 rfl rfl rfl ?_
  refine run0 ?_
  refine awp_loop (fun m s => ∃ k, k ≤ n ∧ m = n - k ∧ s = rowS [(0, .seq .i64 zs), (1, .i n), (6, .i (k : Int))] (fun i => .q (rowq zs i)) k) n _ (imp_id (h := []) (e := [(5, .v (.slice none 0 0)), (0, .seq .i64 zs), (1, .i n), (6, .i ((0 : Nat) : Int))]) ?_ ?_) ⟨0, Nat.zero_le _, rfl, rfl⟩ ?_
  · exact eA
  · exact True.intro
  · rintro m s ⟨k, hk, rfl, rfl⟩
    have hx : ∀ k : Nat, k < zs.length → rowx zs k = zs.getD k 0 := fun k h => if_pos h
    have hy : ∀ k : Nat, ¬ k < zs.length → rowx zs k = 3 * (k : Int) + 1 := fun k h => if_neg h
    rcases k with _ | k
    · refine run0 ?_
      refine awp_if rfl (fun h => ?_) (fun h => ?_)
      · have h : 0 < n := by omega
        refine run0 ?_
        refine awp_if rfl (fun h1 => ?_) (fun h1 => ?_)
        · have h1' : (((0 : Nat) : Int)) < (zs.length : Int) := h1
          have h1 : 0 < zs.length := by omega
          have hf := hz 0 h1
          repeat(first|refine run1 ?_|((with_reducible apply st_call);exact rfl;exact rfl;exact rfl;first|(exact k_small hf))|((with_reducible apply st_callg);exact rfl;exact rfl;(first|exact rfl|assumption);exact rfl;exact rfl;exact rfl;first|(exact k_small hf)))
          refine q_loop ?_ (row_close (k := 0) (a := 28) rfl rfl rfl ?_ rfl ?_) ⟨0 + 1, ?_, rfl, rfl⟩
          · omega
          · intro i hi
            obtain rfl : i = 0 := by omega
            exact congrArg (fun x => RA.q (smal x)) (hx 0 h1).symm
          · refine alle rfl (Le.eq rfl rfl) True.intro (alle rfl (Le.eq rfl rfl) True.intro (alle rfl (Le.eq rfl rfl) True.intro True.intro))
          · omega
        · have h1' : ¬ (((0 : Nat) : Int)) < (zs.length : Int) := h1
          have h1 : ¬ 0 < zs.length := by omega
          have hf : Fits .i64 (3 * ((0 : Nat) : Int) + 1) := by show _ ∧ _; omega
          repeat(first|refine run1 ?_|((with_reducible apply st_call);exact rfl;exact rfl;exact rfl;first|(exact k_small hf))|((with_reducible apply st_callg);exact rfl;exact rfl;(first|exact rfl|assumption);exact rfl;exact rfl;exact rfl;first|(exact k_small hf)))
          refine q_loop ?_ (row_close (k := 0) (a := 28) rfl rfl rfl ?_ rfl ?_) ⟨0 + 1, ?_, rfl, rfl⟩
          · omega
          · intro i hi
            obtain rfl : i = 0 := by omega
            exact congrArg (fun x => RA.q (smal x)) (hy 0 h1).symm
          · refine alle rfl (Le.eq rfl rfl) True.intro (alle rfl (Le.eq rfl rfl) True.intro (alle rfl (Le.eq rfl rfl) True.intro True.intro))
          · omega
      · obtain rfl : 0 = n := by omega
        refine run0 ?_
        refine ⟨.inr rfl, _, imp_slot (y := .row true 0 fun i => .q (rowq zs i)) 4 rfl True.intro Le.nilrow, ?_⟩
        exact .one (.tmp rfl)
    · refine run0 ?_
      refine awp_if rfl (fun h => ?_) (fun h => ?_)
      · have h : (k + 1) < n := by omega
        refine run0 ?_
        refine awp_if rfl (fun h1 => ?_) (fun h1 => ?_)
        · have h1' : ((((k + 1) : Nat) : Int)) < (zs.length : Int) := h1
          have h1 : (k + 1) < zs.length := by omega
          have hf := hz (k + 1) h1
          repeat(first|refine run1 ?_|((with_reducible apply st_call);exact rfl;exact rfl;exact rfl;first|(exact k_small hf))|((with_reducible apply st_callg);exact rfl;exact rfl;(first|exact rfl|assumption);exact rfl;exact rfl;exact rfl;first|(exact k_small hf)))
          refine q_loop ?_ (row_close (k := (k + 1)) (a := 28) rfl rfl rfl ?_ rfl ?_) ⟨(k + 1) + 1, ?_, rfl, rfl⟩
          · omega
          · intro i hi
            by_cases e : i < k + 1
            · exact if_pos e
            · obtain rfl : i = k + 1 := by omega
              refine (if_neg (Nat.lt_irrefl _)).trans ?_
              rw [Nat.sub_self]
              exact congrArg (fun x => RA.q (smal x)) (hx (k + 1) h1).symm
          · refine alle rfl (Le.eq rfl rfl) True.intro (alle rfl (Le.eq rfl rfl) True.intro (alle rfl (Le.eq rfl rfl) True.intro True.intro))
          · omega
        · have h1' : ¬ ((((k + 1) : Nat) : Int)) < (zs.length : Int) := h1
          have h1 : ¬ (k + 1) < zs.length := by omega
          have hf : Fits .i64 (3 * (((k + 1) : Nat) : Int) + 1) := by show _ ∧ _; omega
          repeat(first|refine run1 ?_|((with_reducible apply st_call);exact rfl;exact rfl;exact rfl;first|(exact k_small hf))|((with_reducible apply st_callg);exact rfl;exact rfl;(first|exact rfl|assumption);exact rfl;exact rfl;exact rfl;first|(exact k_small hf)))
          refine q_loop ?_ (row_close (k := (k + 1)) (a := 28) rfl rfl rfl ?_ rfl ?_) ⟨(k + 1) + 1, ?_, rfl, rfl⟩
          · omega
          · intro i hi
            by_cases e : i < k + 1
            · exact if_pos e
            · obtain rfl : i = k + 1 := by omega
              refine (if_neg (Nat.lt_irrefl _)).trans ?_
              rw [Nat.sub_self]
              exact congrArg (fun x => RA.q (smal x)) (hy (k + 1) h1).symm
          · refine alle rfl (Le.eq rfl rfl) True.intro (alle rfl (Le.eq rfl rfl) True.intro (alle rfl (Le.eq rfl rfl) True.intro True.intro))
          · omega
      · obtain rfl : (k + 1) = n := by omega
        refine run0 ?_
        refine ⟨.inr rfl, _, imp_row 4 rfl rfl rfl, ?_⟩
        exact .one (.tmp rfl)
end Go.Proofs.YtddkocidfhaofaaGreat.AM
/- Laws of dense matrices: walks: rows and matrices that are the same; ones. -/
namespace Go.Proofs.YtddkocidfhaofaaGreat.AM
open Go Go.RowKit Go.Proofs.YtddkocidfhaofaaGreat.PN Go.Proofs.YtddkocidfhaofaaGreat.V
open Go.Proofs.YtddkocidfhaofaaGreat.LA (S S_succ S_zero S_congr)
set_option linter.unusedVariables false
set_option linter.unusedSimpArgs false
set_option maxRecDepth 4000
set_option maxHeartbeats 4000000
theorem k_rows {n K : Nat} {f g : Nat → Rat} [hf : ∀ i, Wt (f i) K] (hK : K ≤ 1000000000000) (hn : n ≤ 1000) (h : ∀ i, i < n → f i = g i) : Has Tryz.prog 26 [.row false n (fun i => .q (f i)), .row false n (fun i => .q (g i))] (.b true) := by
  refine has_of Tryz.func26 (by kernel_rfl) rfl Tryz.ntmps26 Tryz.results26 rfl rfl rfl ?_
  refine run0 ?_
  refine awp_no rfl (decide_eq_false (fun h => h rfl)) ?_
  refine run0 ?_
  refine awp_loop (fun m s => ∃ k, k ≤ n ∧ m = n - k ∧ s = stl [(0, .row false n (fun i => .q (f i))), (1, .row false n (fun i => .q (g i))), (5, .i (k : Int))] []) n _ (imp_id ?_ ?_) ⟨0, Nat.zero_le _, rfl, rfl⟩ ?_
  · exact eA
  · exact hA
  · rintro m s ⟨k, hk, rfl, rfl⟩
    refine run0 ?_
    refine awp_if rfl (fun h1 => ?_) (fun h1 => ?_)
    · have h1 : k < n := by omega
      have e := h k h1
      have wg : Wt (g k) K := by rw [← e]; exact hf k
      have C := cs_same (p := f k) (q := g k) ⟨hK, hK⟩
      rw [decide_eq_true e] at C
      repeat(first|refine run1 ?_|((with_reducible apply st_call);exact rfl;exact rfl;exact rfl;first|(exact C))|((with_reducible apply st_callg);exact rfl;exact rfl;(first|exact rfl|assumption);exact rfl;exact rfl;exact rfl;first|(exact C)))
      refine awp_no rfl rfl ?_
      refine run0 ?_
      refine q_loop ?_ (imp_id ?_ ?_) ⟨k + 1, ?_, rfl, rfl⟩
      · omega
      · exact eA
      · exact hA
      · omega
    · refine run0 ?_
      refine ⟨.inr rfl, _, Imp.refl _, ?_⟩
      exact .one (.tmp rfl)
theorem k_all {n m K : Nat} {F G : Nat → Nat → Rat} [hf : ∀ i j, Wt (F i j) K] (hK : K ≤ 1000000000000) (hn : n ≤ 1000) (hm : m ≤ 1000) (h : ∀ i, i < n → ∀ j, j < m → F i j = G i j) : Has Tryz.prog 11 [.mat false n (fun _ => m) (fun i j => .q (F i j)), .mat false n (fun _ => m) (fun i j => .q (G i j))] (.b true) := by
  refine has_of Tryz.func11 (by kernel_rfl) rfl Tryz.ntmps11 Tryz.results11 rfl rfl rfl ?_
  refine run0 ?_
  refine awp_no rfl (decide_eq_false (fun h => h rfl)) ?_
  refine run0 ?_
  refine awp_loop (fun m' s => ∃ k, k ≤ n ∧ m' = n - k ∧ s = stl [(0, .mat false n (fun _ => m) (fun i j => .q (F i j))), (1, .mat false n (fun _ => m) (fun i j => .q (G i j))), (5, .i (k : Int))] []) n _ (imp_id ?_ ?_) ⟨0, Nat.zero_le _, rfl, rfl⟩ ?_
  · exact eA
  · exact hA
  · rintro m' s ⟨k, hk, rfl, rfl⟩
    refine run0 ?_
    refine awp_if rfl (fun h1 => ?_) (fun h1 => ?_)
    · have h1 : k < n := by omega
      repeat(first|refine run1 ?_|((with_reducible apply st_call);exact rfl;exact rfl;exact rfl;first|(exact k_rows (hf := hf k) hK hm (h k h1)))|((with_reducible apply st_callg);exact rfl;exact rfl;(first|exact rfl|assumption);exact rfl;exact rfl;exact rfl;first|(exact k_rows (hf := hf k) hK hm (h k h1))))
      refine awp_no rfl rfl ?_
      refine run0 ?_
      refine q_loop ?_ (imp_id ?_ ?_) ⟨k + 1, ?_, rfl, rfl⟩
      · omega
      · exact eA
      · exact hA
      · omega
    · refine run0 ?_
      refine ⟨.inr rfl, _, Imp.refl _, ?_⟩
      exact .one (.tmp rfl)
end Go.Proofs.YtddkocidfhaofaaGreat.AM
/- Dense matrices: walks: all steps. -/
namespace Go.Proofs.YtddkocidfhaofaaGreat.AM
open Go Go.RowKit Go.Proofs.YtddkocidfhaofaaGreat.PN Go.Proofs.YtddkocidfhaofaaGreat.V
open Go.Proofs.YtddkocidfhaofaaGreat.LA (S S_succ S_zero S_congr)
set_option linter.unusedVariables false
set_option linter.unusedSimpArgs false
set_option maxRecDepth 4000
set_option maxHeartbeats 4000000
theorem stp_yes {n m col : Nat} {all : Bool} {s : ES} (h : fnd (fun i => s.A (s.π i) col ≠ 0) (n - s.at') s.at' < n) : stp n m all s col = ⟨s.at' + 1, det1 s.d (fnd (fun i => s.A (s.π i) col ≠ 0) (n - s.at') s.at') s.at' * s.A (s.π (fnd (fun i => s.A (s.π i) col ≠ 0) (n - s.at') s.at')) col, swp s.π (fnd (fun i => s.A (s.π i) col ≠ 0) (n - s.at') s.at') s.at',
      cln s.A (swp s.π (fnd (fun i => s.A (s.π i) col ≠ 0) (n - s.at') s.at') s.at') all s.at' col m n⟩ := if_pos h
theorem stp_no {n m col : Nat} {all : Bool} {s : ES} (h : ¬ fnd (fun i => s.A (s.π i) col ≠ 0) (n - s.at') s.at' < n) : stp n m all s col = s := if_neg h
end Go.Proofs.YtddkocidfhaofaaGreat.AM
/- Dense matrices: walks: determinants, ranks. -/
namespace Go.Proofs.YtddkocidfhaofaaGreat.AM
open Go Go.RowKit Go.Proofs.YtddkocidfhaofaaGreat.PN Go.Proofs.YtddkocidfhaofaaGreat.V
open Go.Proofs.YtddkocidfhaofaaGreat.LA (S S_succ S_zero S_congr)
set_option linter.unusedVariables false
set_option linter.unusedSimpArgs false
set_option maxRecDepth 4000
set_option maxHeartbeats 4000000
theorem aug_wt {n K : Nat} {F : Nat → Nat → Rat} [hf : ∀ i j, Wt (F i j) K] (i j : Nat) : Wt (aug n F (fun _ _ => 0) i j) (K + 1) := by
  unfold aug
  split
  · exact (hf i j).mono (by omega)
  · exact (inferInstance : Wt 0 1).mono (by omega)
/-- What the steps make of a matrix. -/
noncomputable def gs (n : Nat) (F : Nat → Nat → Rat) : ES := stps n n false (aug n F fun _ _ => 0) n
noncomputable def gdet (n : Nat) (F : Nat → Nat → Rat) : Rat := if (gs n F).at' < n then 0 else (gs n F).d
end Go.Proofs.YtddkocidfhaofaaGreat.AM
/- Laws of dense matrices: walks: what they share. -/
namespace Go.Proofs.YtddkocidfhaofaaGreat.AM
open Go Go.RowKit Go.Proofs.YtddkocidfhaofaaGreat.PN Go.Proofs.YtddkocidfhaofaaGreat.V
open Go.Proofs.YtddkocidfhaofaaGreat.LA (S S_succ S_zero S_congr)
set_option linter.unusedVariables false
set_option linter.unusedSimpArgs false
set_option maxRecDepth 4000
set_option maxHeartbeats 4000000
theorem gdet_one {x : Rat} (h : x ≠ 0) : gdet 1 (fun _ _ => x) = x := by
  have e : gs 1 (fun _ _ => x) = ⟨1, x, swp (fun i => i) 0 0, cln (aug 1 (fun _ _ => x) fun _ _ => 0) (swp (fun i => i) 0 0) false 0 0 1 1⟩ := by
    show stp 1 1 false ⟨0, 1, fun i => i, aug 1 (fun _ _ => x) fun _ _ => 0⟩ 0 = _
    have hf : fnd (fun i => aug 1 (fun _ _ => x) (fun _ _ => 0) i 0 ≠ 0) 1 0 = 0 := by
      unfold fnd; rw [if_pos]; exact h
    unfold stp
    show (if fnd (fun i => aug 1 (fun _ _ => x) (fun _ _ => 0) i 0 ≠ 0) 1 0 < 1 then _ else _) = _
    rw [if_pos (by rw [hf]; decide)]
    show ES.mk _ _ _ _ = _
    simp only [show fnd (fun i => aug 1 (fun _ _ => x) (fun _ _ => 0) i 0 ≠ 0) (1 - 0) 0 = 0 from hf]
    congr 1
    show det1 1 0 0 * x = x
    unfold det1
    rw [if_pos rfl, Rat.one_mul]
  unfold gdet
  rw [e]
  exact if_neg (Nat.lt_irrefl 1)
theorem c_three : Has Tryz.prog 16 [.i 3] (.q 3) := by
  have h := hs_int 3 (by decide) (by decide)
  rw [show ((3 : Int) : Rat) = 3 from rfl] at h
  exact h
end Go.Proofs.YtddkocidfhaofaaGreat.AM
/- Laws of dense matrices: walks: ones from corner to corner. -/
namespace Go.Proofs.YtddkocidfhaofaaGreat.AM
open Go Go.RowKit Go.Proofs.YtddkocidfhaofaaGreat.PN Go.Proofs.YtddkocidfhaofaaGreat.V
open Go.Proofs.YtddkocidfhaofaaGreat.LA (S S_succ S_zero S_congr)
set_option linter.unusedVariables false
set_option linter.unusedSimpArgs false
set_option maxRecDepth 4000
set_option maxHeartbeats 4000000
/-- Rows that are gathered in slot t: none, or k of them. -/
def matS (t : Nat) (e : List (Nat × AV)) (v : Nat → AV) : Nat → St
  | 0 => stl ((t, .v (.slice none 0 0)) :: e) []
  | k + 1 => stl ((t, .own t 0) :: e) [(t, (1, fun _ => .ones WT (k + 1) v))]
theorem mat_close {s : St} {e : List (Nat × AV)} {k m t a b : Nat} {v f : Nat → AV} {w q : Nat → RA} {F F' : Nat → Blk} (ht : s.env t = some (.own a 0)) (ha : s.heap a = some (1, F)) (hF : F 0 = .ones WT (k + 1) f) (hf : ∀ i, i < k → f i = v i) (hk : f k = .own b 0)
    (hb : s.heap b = some (1, F')) (hF' : F' 0 = .rats m q) (hq : ∀ j, j < m → q j = w j) (hv : v k = .row true m w) (hok : ∀ i, (v i).ok (fun _ => false)) (hab : b ≠ a) (h60 : s.used 60 = false) (ht60 : t ≠ 60) (he : AllE s (s1 t a) (fun g => memN g [t]) e) : Imp s (matS t e v (k + 1)) := by
  refine (imp_pub a k ha hF (Nat.lt_succ_self k) hk hb hF' hab).trans ?_
  have e1 : s1 t a t 0 = (a, 0) := by unfold s1; rw [if_pos rfl]
  have hm : memN t [t] = true := by show (bif Nat.beq t t then true else false) = true; rw [Nat.beq_refl]; rfl
  refine imp_stl (h := [(t, (1, fun _ => .ones WT (k + 1) v))]) (s1 t a) (fun h => by have h : s.used 60 = true := h; rw [h60] at h; cases h) (fun g r g' r' h1 h2 => s1_inj t a g r g' r' h1 h2) ⟨⟨_, ht, Le.own e1, hm⟩, AllE.env (s := s) (by rfl) he⟩ ⟨fun r hr => ?_, trivial⟩ (by show (!(s.used 60) || _) = true; rw [h60]; rfl)
  obtain rfl : r = 0 := by omega
  rw [e1]
  refine ⟨1, _, put_same _ _ _, Nat.zero_lt_one, bleo rfl fun i hi => ?_, fun i _ => ok_none (hok i)⟩
  by_cases c : i = k
  · subst c
    rw [updN_same, hv]
    exact Le.row rfl hq fun h => h
  · rw [updN_ne _ _ c, hf i (by omega)]
    exact Le.same (hok i)
def idm (i j : Nat) : Rat := if i = j then 1 else 0
instance idm_wt (i j : Nat) : Wt (idm i j) 1 := ⟨by unfold idm; split <;> decide⟩
theorem c_unit : Has Tryz.prog 16 [.i 1] (.q 1) := by
  have h := hs_int 1 (by decide) (by decide)
  rw [show ((1 : Int) : Rat) = 1 from rfl] at h
  exact h
end Go.Proofs.YtddkocidfhaofaaGreat.AM
/- Products of matrices: the plain laws that DenseRing asks for. -/
namespace Go.Proofs.YtddkocidfhaofaaGreat.AM
open Go.Proofs.YtddkocidfhaofaaGreat.LA (S S_succ S_zero S_congr S_mul S_mulr S_swap S_single)
set_option linter.unusedVariables false
set_option linter.unusedSimpArgs false
theorem ring_assoc (n : Nat) (A B C : Nat → Nat → Rat) (i j : Nat) : (S n fun k => (S n fun l => A i l * B l k) * C k j) = S n fun l => A i l * S n fun k => B l k * C k j := by
  have h1 : (S n fun k => (S n fun l => A i l * B l k) * C k j) = S n fun k => S n fun l => A i l * (B l k * C k j) := S_congr fun k _ => by
    rw [← S_mulr]
    exact S_congr fun l _ => Rat.mul_assoc _ _ _
  rw [h1, S_swap]
  exact S_congr fun l _ => S_mul _ _ _
theorem ring_apply (n : Nat) (A B : Nat → Nat → Rat) (v : Nat → Rat) (i : Nat) : (S n fun k => (S n fun l => A i l * B l k) * v k) = S n fun l => A i l * S n fun k => B l k * v k :=
  ring_assoc n A B (fun k _ => v k) i 0
theorem ring_one {n : Nat} (A : Nat → Nat → Rat) (i : Nat) {j : Nat} (hj : j < n) : (S n fun k => A i k * idm k j) = A i j := by
  rw [S_single hj (fun k _ hk => by unfold idm; rw [if_neg hk, Rat.mul_zero])]
  unfold idm
  rw [if_pos rfl, Rat.mul_one]
theorem ring_turn (n : Nat) (A B : Nat → Nat → Rat) (i j : Nat) : (S n fun k => A j k * B k i) = S n fun k => B k i * A j k :=
  S_congr fun k _ => Rat.mul_comm _ _
end Go.Proofs.YtddkocidfhaofaaGreat.AM
/- Laws of dense matrices: walks: matrices of small numbers (under way). -/
namespace Go.Proofs.YtddkocidfhaofaaGreat.AM
open Go Go.RowKit Go.Proofs.YtddkocidfhaofaaGreat.PN Go.Proofs.YtddkocidfhaofaaGreat.V
open Go.Proofs.YtddkocidfhaofaaGreat.LA (S S_succ S_zero S_congr)
set_option linter.unusedVariables false
set_option linter.unusedSimpArgs false
set_option maxRecDepth 4000
set_option maxHeartbeats 4000000
/-- Rows that are gathered in slot 6, all of them own. -/
def famS (e : List (Nat × AV)) (m : Nat) (A : Nat → Nat → Rat) : Nat → St
  | 0 => stl ((6, .v (.slice none 0 0)) :: e) []
  | k + 1 => stl ((6, .own 6 0) :: e) [(6, (1, fun _ => .ones WT (k + 1) (fun i => .own 3 i))), (3, (k + 1, fun r => .rats m (fun j => .q (A r j))))]
def sm (k : Nat) : Ren := fun g r => if g = 3 then (if r < k then (3, r) else (31, r - k)) else if g = 6 then (33, r) else (g, r)
theorem sm_inj (k : Nat) (g r g' r' : Nat) (hg : memN g [6, 3] = true) (hg' : memN g' [6, 3] = true) (e : sm k g r = sm k g' r') : g = g' ∧ r = r' := by
  have m1 := memN_spec hg
  have m2 := memN_spec hg'
  simp only [List.mem_cons, List.not_mem_nil, or_false] at m1 m2
  unfold sm at e
  rcases m1 with rfl | rfl <;> rcases m2 with rfl | rfl <;> simp at e ⊢
  · exact e
  · split at e <;> simp at e
  · split at e <;> simp at e
  · split at e <;> split at e <;> simp at e <;> omega
theorem fam_close {s : St} {e : List (Nat × AV)} {k m : Nat} {A : Nat → Nat → Rat} {F1 F2 F3 : Nat → Blk} {f1 : Nat → AV} (h6 : s.env 6 = some (.own 33 0))
    (h33 : s.heap 33 = some (1, F1)) (e33 : F1 0 = .ones WT (k + 1) f1) (g33 : ∀ i, i < k → f1 i = .own 3 i) (g33' : f1 k = .own 31 0) (h3 : 0 < k → s.heap 3 = some (k, F2)) (g3 : ∀ r, r < k → BLe (sm k) (F2 r) (.rats m fun j => .q (A r j)))
    (h31 : s.heap 31 = some (1, F3)) (g31 : BLe (sm k) (F3 0) (.rats m fun j => .q (A k j))) (h60 : s.used 60 = false) (he : AllE s (sm k) (fun g => memN g [6, 3]) e) : Imp s (famS e m A (k + 1)) := by
  refine imp_stl (h := [(6, (1, fun _ => .ones WT (k + 1) (fun i => .own 3 i))), (3, (k + 1, fun r => .rats m (fun j => .q (A r j))))]) (sm k) (fun h => by rw [h60] at h; cases h) (fun g r g' r' h1 h2 => sm_inj k g r g' r' h1 h2) ⟨⟨_, h6, Le.own rfl, rfl⟩, he⟩ ⟨fun r hr => ?_, fun r hr => ?_, trivial⟩ (by rw [h60]; rfl)
  · obtain rfl : r = 0 := by omega
    refine ⟨1, F1, h33, Nat.zero_lt_one, ?_, fun i hi => rfl⟩
    show BLe (sm k) (F1 0) _
    rw [e33]
    refine bleo rfl fun i hi => ?_
    by_cases e : i < k
    · rw [g33 i e]; exact Le.own (by unfold sm; rw [if_pos rfl, if_pos e])
    · obtain rfl : i = k := by omega
      rw [g33']; exact Le.own (by unfold sm; rw [if_pos rfl, if_neg e, Nat.sub_self])
  · by_cases e : r < k
    · have e1 : sm k 3 r = (3, r) := by unfold sm; rw [if_pos rfl, if_pos e]
      rw [e1]
      exact ⟨k, F2, h3 (by omega), e, g3 r e, trivial⟩
    · obtain rfl : r = k := by omega
      have e1 : sm r 3 r = (31, 0) := by unfold sm; rw [if_pos rfl, if_neg e, Nat.sub_self]
      rw [e1]
      exact ⟨1, F3, h31, Nat.zero_lt_one, g31, trivial⟩
/-- The rows, as they are drawn. -/
def mbase (n : Nat) (zs : List Int) (i j : Nat) : Rat := rowq zs (i * n + j)
theorem mul_cast (n : Nat) : (n : Int) * (n : Int) = ((n * n : Nat) : Int) := (Int.natCast_mul n n).symm
theorem cut_blk {σ : Ren} {n k : Nat} {zs : List Int} {g : Nat → RA} : BLe σ (.rats (0 + ((k : Int) * (n : Int) + n - (k : Int) * (n : Int)).toNat) (glue 0 g (fun i => .q (rowq zs (((k : Int) * (n : Int)).toNat + i))))) (.rats n fun j => .q (mbase n zs k j)) := by
  have e : (k : Int) * (n : Int) = ((k * n : Nat) : Int) := (Int.natCast_mul k n).symm
  rw [e]
  refine blen (by omega) fun j hj => ?_
  unfold glue mbase
  rw [if_neg (Nat.not_lt_zero _), Nat.sub_zero]
  rfl
/-- The last row's place, and the one ahead of it. -/
def la (n : Nat) : Nat := ((n : Int) - 1).toNat
def lb2 (n : Nat) : Nat := ((n : Int) - 2).toNat
def nv (n : Nat) (zs : List Int) (c : Nat) : Rat := if 2 < n then mbase n zs 0 c + mbase n zs (lb2 n) c else mbase n zs 0 c
def mx (n : Nat) (zs : List Int) (j : Nat) : Nat → Nat → Rat := fun r c => if r = la n ∧ c < j then nv n zs c else mbase n zs r c
def mc (n : Nat) (zs : List Int) : Prop := 1 < n ∧ 2 < zs.length ∧ wthn (zs.getD 2 0) 3 = 0
open Classical in
/-- The matrix that is made. -/
noncomputable def mkm (n : Nat) (zs : List Int) (i j : Nat) : Rat := if mc n zs then mx n zs n i j else mbase n zs i j
theorem imp_fam {s : St} {e : List (Nat × AV)} {n m : Nat} {A : Nat → Nat → Rat} {F1 F2 : Nat → Blk} {f1 : Nat → AV} (h6 : s.heap 6 = some (1, F1)) (e6 : F1 0 = .ones WT n f1) (g6 : ∀ i, i < n → f1 i = .own 3 i) (h3 : s.heap 3 = some (n, F2)) (g3 : ∀ r, r < n → BLe idR (F2 r) (.rats m fun j => .q (A r j)))
    (h60 : s.used 60 = false) (he : AllE s idR (fun g => memN g [6, 3]) e) : Imp s (stl e [(6, (1, fun _ => .ones WT n (fun i => .own 3 i))), (3, (n, fun r => .rats m (fun j => .q (A r j))))]) := by
  refine imp_id he ⟨fun r hr => ?_, fun r hr => ⟨n, F2, h3, hr, g3 r hr, trivial⟩, trivial⟩ (by rw [h60]; rfl)
  obtain rfl : r = 0 := by omega
  refine ⟨1, F1, h6, by decide, ?_, fun i hi => rfl⟩
  show BLe idR (F1 0) _
  rw [e6]; exact bleo rfl fun i hi => Le.id (g6 i hi)
def mx1 (n : Nat) (zs : List Int) (j : Nat) : Nat → Nat → Rat := fun r c => if r = la n ∧ c = j then mx n zs j 0 j else mx n zs j r c
theorem mx_zero {n : Nat} {zs : List Int} {j r c : Nat} (h : r ≠ la n) : mx n zs j r c = mbase n zs r c := by
  unfold mx; rw [if_neg (fun e => h e.1)]
theorem mx_step {n : Nat} {zs : List Int} {j r c : Nat} (h1 : 1 < n) (h2 : 2 < n) : (if r = la n ∧ c = j then mx1 n zs j 0 j + mx1 n zs j (lb2 n) j else mx1 n zs j r c) = mx n zs (j + 1) r c := by
  have e0 : (0 : Nat) ≠ la n := by unfold la; omega
  have e2 : lb2 n ≠ la n := by unfold la lb2; omega
  have a0 : mx1 n zs j 0 j = mbase n zs 0 j := by unfold mx1; rw [if_neg (fun e => e0 e.1), mx_zero e0]
  have a2 : mx1 n zs j (lb2 n) j = mbase n zs (lb2 n) j := by unfold mx1; rw [if_neg (fun e => e2 e.1), mx_zero e2]
  rw [a0, a2]
  by_cases hr : r = la n
  · by_cases hc : c = j
    · rw [if_pos ⟨hr, hc⟩]; unfold mx; rw [if_pos ⟨hr, by omega⟩]; unfold nv; rw [if_pos h2, hc]
    · rw [if_neg (fun e => hc e.2)]
      unfold mx1; rw [if_neg (fun e => hc e.2)]
      unfold mx
      by_cases hl : c < j
      · rw [if_pos ⟨hr, hl⟩, if_pos ⟨hr, by omega⟩]
      · rw [if_neg (fun e => hl e.2), if_neg (by omega)]
  · rw [if_neg (fun e => hr e.1)]
    unfold mx1; rw [if_neg (fun e => hr e.1), mx_zero hr, mx_zero hr]
theorem mx_step2 {n : Nat} {zs : List Int} {j r c : Nat} (h1 : 1 < n) (h2 : ¬ 2 < n) : mx1 n zs j r c = mx n zs (j + 1) r c := by
  have e0 : (0 : Nat) ≠ la n := by unfold la; omega
  unfold mx1
  by_cases hr : r = la n
  · by_cases hc : c = j
    · rw [if_pos ⟨hr, hc⟩, mx_zero e0]; unfold mx; rw [if_pos ⟨hr, by omega⟩]; unfold nv; rw [if_neg h2, hc]
    · rw [if_neg (fun e => hc e.2)]
      unfold mx
      by_cases hl : c < j
      · rw [if_pos ⟨hr, hl⟩, if_pos ⟨hr, by omega⟩]
      · rw [if_neg (fun e => hl e.2), if_neg (by omega)]
  · rw [if_neg (fun e => hr e.1), mx_zero hr, mx_zero hr]
instance mbase_wt (n : Nat) (zs : List Int) (i j : Nat) : Wt (mbase n zs i j) 1 := rowq_wt _ _
theorem nv_wt (n : Nat) (zs : List Int) (c : Nat) : Wt (nv n zs c) 3 := by
  unfold nv; split
  · exact (inferInstance : Wt (mbase n zs 0 c + mbase n zs (lb2 n) c) (1 + 1 + 1))
  · exact (mbase_wt n zs 0 c).mono (by decide)
theorem mx_wt (n : Nat) (zs : List Int) (j r c : Nat) : Wt (mx n zs j r c) 3 := by
  unfold mx; split
  · exact nv_wt _ _ _
  · exact (mbase_wt _ _ _ _).mono (by decide)
theorem mx1_wt (n : Nat) (zs : List Int) (j r c : Nat) : Wt (mx1 n zs j r c) 3 := by
  unfold mx1; split
  · exact mx_wt _ _ _ _ _
  · exact mx_wt _ _ _ _ _
theorem mkm_wt (n : Nat) (zs : List Int) (i j : Nat) : Wt (mkm n zs i j) 3 := by
  unfold mkm; split
  · exact mx_wt _ _ _ _ _
  · exact (mbase_wt _ _ _ _).mono (by decide)
end Go.Proofs.YtddkocidfhaofaaGreat.AM
/- The document's elimination: walked. It does what the program's does. -/
namespace Go.Proofs.YtddkocidfhaofaaGreat.AM
open Go Go.RowKit Go.Proofs.YtddkocidfhaofaaGreat.PN Go.Proofs.YtddkocidfhaofaaGreat.V
open Go.Proofs.YtddkocidfhaofaaGreat.LA (S S_succ S_zero S_congr)
set_option linter.unusedVariables false
set_option linter.unusedSimpArgs false
set_option maxRecDepth 4000
set_option maxHeartbeats 4000000
/-- How long all numbers are while the steps are done. -/
structure TB (n m X : Nat) (A : Nat → Nat → Rat) : Prop where
  d : ∀ c, c ≤ n → Wt (stps n m false A c).d X
  A : ∀ c, c ≤ n → ∀ i j, Wt ((stps n m false A c).A i j) X
theorem TB.wt {n m X : Nat} {A : Nat → Nat → Rat} (h : TB n m X A) (i j : Nat) : Wt (A i j) X := h.A 0 (Nat.zero_le _) i j
/-- The determinant, as far as it is known. -/
def dd (c : Nat) (s : ES) : Rat := if s.at' < c then 0 else s.d
theorem cln_low {A : Nat → Nat → Rat} {π : Nat → Nat} {at' col m k : Nat} (h : k ≤ at' + 1) (r j : Nat) : cln A π false at' col m k r j = A r j := by
  unfold cln
  rw [if_neg]
  rintro ⟨⟨i, h1, h2, _⟩, _⟩
  rcases h2 with h2 | ⟨h2, _⟩
  · omega
  · cases h2
theorem dd_wt {c X : Nat} {s : ES} [h : Wt s.d X] (hX : 1 ≤ X) : Wt (dd c s) X := by
  unfold dd; split
  · exact (inferInstance : Wt 0 1).mono hX
  · exact h
theorem sub_zero_mul (x y : Rat) {q : Rat} (h : q = 0) : x - q * y = x := by
  rw [h, Rat.zero_mul, Rat.sub_eq_add_neg, Rat.neg_zero, Rat.add_zero]
theorem copy_blk {m : Nat} {σ : Ren} {z f : Nat → RA} {g : Nat → Rat} (h : ∀ j, j < m → f j = .q (g j)) : BLe σ (.rats (0 + m) (glue 0 z f)) (.rats m fun j => .q (g j)) := by
  refine blen (Nat.zero_add m) fun j hj => ?_
  unfold glue
  rw [if_neg (Nat.not_lt_zero _), Nat.sub_zero]
  exact h j (by omega)
section
variable {p q : Rat} {a b : Nat} [hp : Wt p a] [hq : Wt q b]
theorem cs_sub (h : a ≤ 15000 ∧ b ≤ 15000) : Has Tryz.prog 59 [.q p, .q q] (.q (p - q)) := k_sub (Nat.le_trans hp.le h.1) (Nat.le_trans hq.le h.2)
end
theorem cln_mix {A : Nat → Nat → Rat} {π : Nat → Nat} {all : Bool} {at' col m k n : Nat} (h : k ≤ n) (r j : Nat) : cln A π all at' col m k r j = A r j ∨ cln A π all at' col m k r j = cln A π all at' col m n r j := by
  unfold cln
  by_cases e : (∃ i, i < k ∧ tst all at' i ∧ r = π i) ∧ col ≤ j ∧ j < m
  · obtain ⟨⟨i, h1, h2, h3⟩, h4⟩ := e
    rw [if_pos ⟨⟨i, h1, h2, h3⟩, h4⟩, if_pos ⟨⟨i, by omega, h2, h3⟩, h4⟩]
    exact .inr rfl
  · rw [if_neg e]; exact .inl rfl
theorem dd_step {c a p : Nat} {d x : Rat} {π π' : Nat → Nat} {B B' : Nat → Nat → Rat} : det1 (dd c ⟨a, d, π, B⟩) p a * x = dd (c + 1) ⟨a + 1, det1 d p a * x, π', B'⟩ := by
  unfold dd
  show det1 (if a < c then 0 else d) p a * x = if a + 1 < c + 1 then 0 else det1 d p a * x
  by_cases h : a < c
  · rw [if_pos h, if_pos (by omega)]
    unfold det1
    split
    · exact Rat.zero_mul _
    · rw [Rat.neg_zero]; exact Rat.zero_mul _
  · rw [if_neg h, if_neg (by omega)]
theorem r7_triangle {n m X : Nat} {A : Nat → Nat → Rat} (hB : TB n m X A) (hX : X ≤ 2400) (h0 : 0 < n) (hn : n ≤ 8) (hnm : n ≤ m) (hm : m ≤ 9) :
    Has Tryz.prog 58 [.mat false n (fun _ => m) (fun i j => .q (A i j)), .i n] (.tup3 (.mat true n (fun _ => m) (fun i j => .q ((stps n m false A n).A ((stps n m false A n).π i) j))) (.q (dd n (stps n m false A n))) (.i (stps n m false A n).at')) := by
  have hX1 : 1 ≤ X := Nat.le_trans (wt_pos _) (hB.d 0 (Nat.zero_le _)).le
  have hwt := hB.wt
  refine has_of Tryz.func58 (by kernel_rfl) rfl Tryz.ntmps58 Tryz.results58 rfl rfl rfl ?_
  refine run0 ?_
  refine awp_loop (fun m' s => ∃ k, k ≤ n ∧ m' = n - k ∧ s = famT 7 3 [(0, .mat false n (fun _ => m) (fun i j => .q (A i j))), (1, .i n), (5, .rptr 5 0 0), (8, .i (k : Int))] [(5, (1, fun _ => .rats 1 fun _ => ra0))] m A k) n _ (imp_id (h := [(5, (1, fun _ => .rats 1 fun _ => ra0))]) (e := [(7, .v (.slice none 0 0)), (0, .mat false n (fun _ => m) (fun i j => .q (A i j))), (1, .i n), (5, .rptr 5 0 0), (8, .i ((0 : Nat) : Int))]) ?_ ?_) ⟨0, Nat.zero_le _, rfl, rfl⟩ ?_
  · exact eA
  · exact hA
  · rintro m' s ⟨k, hk, rfl, rfl⟩
    rcases k with _ | k
    · refine run0 ?_
      refine awp_if rfl (fun h => ?_) (fun h => absurd (show ((0 : Nat) : Int) < n by omega) h)
      refine run0 ?_
      refine q_loop ?_ (famT_close (k := 0) (a := 30) (b := 28) (F2 := fun _ => .rats 0 fun _ => ra0) rfl rfl rfl (fun i hi => absurd hi (Nat.not_lt_zero _)) rfl (fun h => absurd h (Nat.lt_irrefl _)) (fun r hr => absurd hr (Nat.not_lt_zero _)) rfl (copy_blk fun j hj => rfl) rfl (by decide) rfl ?_ ?_) ⟨0 + 1, ?_, rfl, rfl⟩
      · omega
      · refine alle rfl (Le.eq rfl rfl) True.intro (alle rfl (Le.eq rfl rfl) True.intro (alle rfl (Le.rptr rfl) rfl (alle rfl (Le.eq rfl rfl) True.intro True.intro)))
      · exact allh rfl Nat.zero_lt_one (ble1 rfl) True.intro True.intro
      · omega
    · refine run0 ?_
      refine awp_if rfl (fun h => ?_) (fun h => ?_)
      · have h : k + 1 < n := by omega
        refine run0 ?_
        refine q_loop ?_ (famT_close (k := k + 1) (a := 30) (b := 28) rfl rfl rfl (fun i hi => if_pos hi) ?_ (fun _ => rfl) (fun r hr => blen rfl fun j hj => rfl) rfl (copy_blk fun j hj => rfl) rfl (by decide) rfl ?_ ?_) ⟨k + 1 + 1, ?_, rfl, rfl⟩
        · omega
        · show (if _ then _ else _) = _
          rw [if_neg (Nat.lt_irrefl _), Nat.sub_self]; rfl
        · refine alle rfl (Le.eq rfl rfl) True.intro (alle rfl (Le.eq rfl rfl) True.intro (alle rfl (Le.rptr rfl) rfl (alle rfl (Le.eq rfl rfl) True.intro True.intro)))
        · exact allh rfl Nat.zero_lt_one (ble1 rfl) True.intro True.intro
        · omega
      · obtain rfl : k + 1 = n := by omega
        refine awp_imp (imp_TH (n := k + 1) (t := 7) (g := 3) (m := m) (π := fun i => i) (A := A) (e := [(1, .i ((k + 1 : Nat) : Int)), (5, .rptr 5 0 0), (7, .own 7 0)]) (l := [(5, (1, fun _ => .rats 1 fun _ => ra0))]) rfl rfl (fun _ _ => rfl) rfl (fun r hr => blen rfl fun _ _ => rfl) rfl ?_ ?_) ?_
        · exact eA
        · exact hA
        generalize hN : k + 1 = N at *
        repeat(first|refine run1 ?_|((with_reducible apply st_call);exact rfl;exact rfl;exact rfl;first|(exact c_unit))|((with_reducible apply st_callg);exact rfl;exact rfl;(first|exact rfl|assumption);exact rfl;exact rfl;exact rfl;first|(exact c_unit)))
        refine awp_loop (fun m' s => ∃ c, c ≤ N ∧ m' = N - c ∧ s = stl [(1, .i N), (5, .rptr 5 0 0), (7, .own 7 0), (9, .rptr 9 0 0), (10, .i (stps N m false A c).at'), (11, .i (c : Int))] (TH 7 3 N m (stps N m false A c).π (stps N m false A c).A [(5, (1, fun _ => .rats 1 fun _ => ra0)), (9, (1, fun _ => .rats 1 fun _ => .q (dd c (stps N m false A c))))])) N _ ?_ ⟨0, Nat.zero_le _, rfl, rfl⟩ ?_
        · refine imp_TH rfl rfl (fun _ _ => rfl) rfl (fun r hr => blen rfl fun _ _ => rfl) rfl ?_ ?_
          · exact eA
          · exact hA
        · rintro m' s ⟨c, hc, rfl, rfl⟩
          have hok := stps_ok (n := N) (m := m) (all := false) (hA := hwt) c
          have hnx : stps N m false A (c + 1) = stp N m false (stps N m false A c) c := rfl
          have wd := hB.d c hc
          have wB := hB.A c hc
          generalize hT : stps N m false A c = T at *
          obtain ⟨a, d, π, B⟩ := T
          have hle : a ≤ c := hok.le
          have hlt : ∀ i, i < N → π i < N := hok.lt
          have hinj : ∀ i j, i < N → j < N → π i = π j → i = j := hok.inj
          have wd : Wt d X := wd
          have wB : ∀ i j, Wt (B i j) X := wB
          refine run0 ?_
          refine awp_if rfl (fun h => ?_) (fun h => ?_)
          · have hcn : c < N := by omega
            have han : a < N := by omega
            refine run0 ?_
            obtain ⟨f1, f2, f3, f4⟩ := fnd_le (fun i => B (π i) c ≠ 0) (N - a) a
            have e1 := stp_yes (n := N) (m := m) (all := false) (s := ⟨a, d, π, B⟩) (col := c)
            have e2 := stp_no (n := N) (m := m) (all := false) (s := ⟨a, d, π, B⟩) (col := c)
            dsimp only at e1 e2
            generalize fnd (fun i => B (π i) c ≠ 0) (N - a) a = i0 at *
            have hz : ∀ j, a ≤ j → j < i0 → B (π j) c = 0 := fun j h1 h2 => Classical.byContradiction fun h => f3 j h1 h2 h
            refine awp_loop (fun m' s => ∃ p, a ≤ p ∧ p ≤ i0 ∧ m' = i0 - p ∧ s = stl [(1, .i N), (5, .rptr 5 0 0), (7, .own 7 0), (9, .rptr 9 0 0), (10, .i (a : Int)), (11, .i (c : Int)), (12, .i (p : Int))] (TH 7 3 N m π B [(5, (1, fun _ => .rats 1 fun _ => ra0)), (9, (1, fun _ => .rats 1 fun _ => .q (dd c ⟨a, d, π, B⟩)))])) (i0 - a) _ (imp_TH rfl rfl (fun _ _ => rfl) rfl (fun r hr => blen rfl fun _ _ => rfl) rfl ?_ ?_) ⟨a, Nat.le_refl _, f1, rfl, rfl⟩ ?_
            · exact eA
            · exact hA
            · rintro m' s ⟨p, hp1, hp, rfl, rfl⟩
              by_cases hpN : p < N
              · have hpN' : (p : Int) < (N : Int) := by omega
                have g1 : (decide ((p : Int) < (N : Int)) == true) = true := by rw [decide_eq_true hpN']; rfl
                have g2 : decide ((p : Int) < (N : Int)) = true := decide_eq_true hpN'
                have hpp := hlt p hpN
                repeat(first|refine run1 ?_|((with_reducible apply st_call);exact rfl;exact rfl;exact rfl;first|(exact hs_nought))|((with_reducible apply st_callg);exact rfl;exact rfl;(first|exact rfl|assumption);exact rfl;exact rfl;exact rfl;first|(exact hs_nought)))
                by_cases hpi : p < i0
                · refine awp_yes rfl ?_ ?_
                  · exact decide_eq_true (hz p hp1 hpi)
                  clear g1 g2
                  refine run0 ?_
                  refine q_loop (m' := i0 - (p + 1)) (by omega) (imp_TH rfl rfl (fun _ _ => rfl) rfl (fun r hr => blen rfl fun _ _ => rfl) rfl ?_ ?_) ⟨p + 1, by omega, by omega, rfl, rfl⟩
                  · exact eA
                  · exact hA
                · obtain rfl : p = i0 := by omega
                  have hnz := f4 (by omega)
                  refine awp_no rfl ?_ ?_
                  · exact decide_eq_false hnz
                  clear g1 g2
                  have e3 := e1 hpN
                  refine run0 ?_
                  refine awp_no rfl ?_ ?_
                  · exact decide_eq_false (show ¬ ((N : Int) ≤ p) by omega)
                  have hlt' := swp_lt hlt hpN han
                  have hinj' := swp_inj hinj hpN han
                  have hat : swp π p a a = π p := swp_at π p a
                  have hD : dd (c + 1) (stps N m false A (c + 1)) = det1 (dd c ⟨a, d, π, B⟩) p a * B (π p) c := by
                    rw [hnx.trans e3]; exact dd_step.symm
                  have wD : Wt (dd c ⟨a, d, π, B⟩) X := dd_wt (h := wd) hX1
                  have hfin := hnx.trans e3
                  generalize dd c ⟨a, d, π, B⟩ = D at *
                  have hpa := hlt a han
                  have hpp' := hlt' a han
                  refine run0 ?_
                  refine awp_join (stl [(1, .i N), (5, .rptr 5 0 0), (7, .own 7 0), (9, .rptr 9 0 0), (10, .i (a : Int)), (11, .i (c : Int))] (TH 7 3 N m (swp π p a) B [(5, (1, fun _ => .rats 1 fun _ => ra0)), (9, (1, fun _ => .rats 1 fun _ => .q (det1 D p a)))])) ?_ ?_
                  · refine awp_if rfl (fun h => ?_) (fun h => ?_)
                    · have e4 : det1 D p a = -D := if_neg (by omega)
                      rw [e4]
                      refine run2 ?_
                      refine run3 ?_
                      repeat(first|refine run4 ?_|((with_reducible apply st_call);exact rfl;exact rfl;exact rfl;first|(exact k_neg (Nat.le_trans wD.le (by omega))))|((with_reducible apply st_callg);exact rfl;exact rfl;(first|exact rfl|assumption);exact rfl;exact rfl;exact rfl;first|(exact k_neg (Nat.le_trans wD.le (by omega)))))
                      refine ⟨rfl, imp_TH rfl rfl (fun _ _ => swp_own _) rfl (fun r hr => blen rfl fun _ _ => rfl) rfl ?_ ?_⟩
                      · exact eA
                      · exact hA
                    · obtain rfl : p = a := by omega
                      have e4 : det1 D p p = D := if_pos rfl
                      rw [e4]
                      refine run0 ?_
                      refine ⟨rfl, imp_TH rfl rfl (fun _ _ => congrArg _ (swp_self _ _ _).symm) rfl (fun r hr => blen rfl fun _ _ => rfl) rfl ?_ ?_⟩
                      · exact eA
                      · exact hA
                  · have wD2 : Wt (det1 D p a) X := det1_wt (h := wD)
                    generalize det1 D p a = D2 at *
                    rw [← hat] at hD hnz
                    generalize swp π p a = π' at *
                    repeat(first|refine run1 ?_|((with_reducible apply st_call);exact rfl;exact rfl;exact rfl;first|(exact cs_mul ⟨by omega, by omega⟩))|((with_reducible apply st_callg);exact rfl;exact rfl;(first|exact rfl|assumption);exact rfl;exact rfl;exact rfl;first|(exact cs_mul ⟨by omega, by omega⟩)))
                    have wn : ∀ i j, Wt ((stps N m false A (c + 1)).A i j) X := hB.A (c + 1) (by omega)
                    rw [hfin] at wn
                    have wn : ∀ i j, Wt (cln B π' false a c m N i j) X := wn
                    refine awp_loop (fun m' s => ∃ k, a + 1 ≤ k ∧ k ≤ N ∧ m' = N - k ∧ s = stl [(1, .i N), (5, .rptr 5 0 0), (7, .own 7 0), (9, .rptr 9 0 0), (10, .i (a : Int)), (11, .i (c : Int)), (13, .i (k : Int))] (TH 7 3 N m π' (cln B π' false a c m k) [(5, (1, fun _ => .rats 1 fun _ => ra0)), (9, (1, fun _ => .rats 1 fun _ => .q (D2 * B (π' a) c)))])) (N - (a + 1)) _ (imp_TH rfl rfl (fun _ _ => rfl) rfl (fun r hr => blen rfl fun j _ => congrArg RA.q (cln_low (Nat.le_refl _) r j).symm) rfl ?_ ?_) ⟨a + 1, Nat.le_refl _, by omega, rfl, rfl⟩ ?_
                    · exact eA
                    · exact hA
                    · rintro m' s ⟨k, hk1, hk, rfl, rfl⟩
                      refine run0 ?_
                      refine awp_if rfl (fun h => ?_) (fun h => ?_)
                      · have h' : (k : Int) < (N : Int) := h
                        have hkN : k < N := by omega
                        have hpk := hlt' k hkN
                        have wC : ∀ r j, Wt (cln B π' false a c m k r j) X := fun r j => by
                          rcases cln_mix (A := B) (π := π') (all := false) (at' := a) (col := c) (m := m) hk r j with e | e
                          · rw [e]; exact wB r j
                          · rw [e]; exact wn r j
                        have ht : tst false a k := .inl (by omega)
                        have hne : π' k ≠ π' a := fun e => tst_ne ht (hinj' k a hkN han e)
                        have est := cln_step (m := m) (all := false) (A := B) (col := c) hinj' han hkN ht
                        have hrow : cln B π' false a c m k (π' a) c = B (π' a) c := cln_row (n := N) (fun i h1 h2 h3 => tst_ne h2 (hinj' a i han (by omega) h3).symm) c
                        have hne0 : cln B π' false a c m k (π' a) c ≠ 0 := by rw [hrow]; exact hnz
                        generalize cln B π' false a c m k = C at *
                        repeat(first|refine run1 ?_|((with_reducible apply st_call);exact rfl;exact rfl;exact rfl;first|(exact hs_nought))|((with_reducible apply st_callg);exact rfl;exact rfl;(first|exact rfl|assumption);exact rfl;exact rfl;exact rfl;first|(exact hs_nought)))
                        refine awp_if rfl (fun hq => ?_) (fun hq => ?_)
                        · have hq' : C (π' k) c = 0 := hq
                          rw [hq', show (0 : Rat) / C (π' a) c = 0 by rw [Rat.div_def, Rat.zero_mul]] at est
                          refine run0 ?_
                          refine q_loop (m' := N - (k + 1)) (by omega) (imp_TH rfl rfl (fun _ _ => rfl) rfl (fun r hr => blen rfl fun j _ => congrArg RA.q ?_) rfl ?_ ?_) ⟨k + 1, by omega, by omega, rfl, rfl⟩
                          · rw [← est, clr_zero rfl]
                          · exact eA
                          · exact hA
                        · repeat(first|refine run1 ?_|((with_reducible apply st_call);exact rfl;exact rfl;exact rfl;first|(exact cs_over ⟨by omega, by omega⟩ hne0))|((with_reducible apply st_callg);exact rfl;exact rfl;(first|exact rfl|assumption);exact rfl;exact rfl;exact rfl;first|(exact cs_over ⟨by omega, by omega⟩ hne0)))
                          have wq : Wt (C (π' k) c / C (π' a) c) (X + X) := inferInstance
                          generalize hq2 : C (π' k) c / C (π' a) c = q at *
                          refine awp_loop (fun m' s => ∃ u, c ≤ u ∧ u ≤ m ∧ m' = m - u ∧ s = stl [(1, .i N), (5, .rptr 5 0 0), (7, .own 7 0), (9, .rptr 9 0 0), (10, .i (a : Int)), (11, .i (c : Int)), (13, .i (k : Int)), (14, .rptr 14 0 0), (15, .i (u : Int))] (TH 7 3 N m π' (clr C q (π' k) (π' a) c u) [(5, (1, fun _ => .rats 1 fun _ => ra0)), (9, (1, fun _ => .rats 1 fun _ => .q (D2 * B (π' a) c))), (14, (1, fun _ => .rats 1 fun _ => .q q))])) (m - c) _ (imp_TH rfl rfl (fun _ _ => rfl) rfl (fun r hr => blen rfl fun j _ => congrArg RA.q clr_none.symm) rfl ?_ ?_) ⟨c, Nat.le_refl _, by omega, rfl, rfl⟩ ?_
                          · exact eA
                          · refine allh rfl (by decide) (ble1 rfl) True.intro (allh rfl (by decide) (ble1 rfl) True.intro (allh rfl (by decide) (ble1 (congrArg RA.q hq2)) True.intro True.intro))
                          · rintro m' s ⟨u, hu1, hu, rfl, rfl⟩
                            refine run0 ?_
                            refine awp_if rfl (fun h => ?_) (fun h => ?_)
                            · have h' : (u : Int) < m := h
                              have hum : u < m := by omega
                              have wk : ∀ r j, Wt (clr C q (π' k) (π' a) c u r j) (4 * X + 1) := fun r j => clr_wt r j
                              repeat(first|refine run1 ?_|((with_reducible apply st_call);exact rfl;exact rfl;exact rfl;first|(exact cs_mul ⟨by omega, by omega⟩)|(exact cs_sub ⟨by omega, by omega⟩))|((with_reducible apply st_callg);exact rfl;exact rfl;(first|exact rfl|assumption);exact rfl;exact rfl;exact rfl;first|(exact cs_mul ⟨by omega, by omega⟩)|(exact cs_sub ⟨by omega, by omega⟩)))
                              refine q_loop (m' := m - (u + 1)) (by omega) (imp_TH (t := 7) (g := 3) (n := N) (m := m) (π := π') (A := clr C q (π' k) (π' a) c (u + 1)) (e := [(1, .i N), (5, .rptr 5 0 0), (7, .own 7 0), (9, .rptr 9 0 0), (10, .i (a : Int)), (11, .i (c : Int)), (13, .i (k : Int)), (14, .rptr 14 0 0), (15, .i ((u + 1 : Nat) : Int))]) (l := [(5, (1, fun _ => .rats 1 fun _ => ra0)), (9, (1, fun _ => .rats 1 fun _ => .q (D2 * B (π' a) c))), (14, (1, fun _ => .rats 1 fun _ => .q q))]) rfl rfl (fun _ _ => rfl) rfl (fun r hr => clr_blk (clr_step hne hu1) r) rfl ?_ ?_) ⟨u + 1, by omega, by omega, rfl, rfl⟩
                              · exact eA
                              · exact hA
                            · have h' : ¬ (u : Int) < m := h
                              obtain rfl : u = m := by omega
                              refine run0 ?_
                              refine q_loop (m' := N - (k + 1)) (by omega) (imp_TH rfl rfl (fun _ _ => rfl) rfl (fun r hr => blen rfl fun j _ => congrArg RA.q (by rw [est])) rfl ?_ ?_) ⟨k + 1, by omega, by omega, rfl, rfl⟩
                              · exact eA
                              · exact hA
                      · have h' : ¬ (k : Int) < (N : Int) := h
                        obtain rfl : k = N := by omega
                        refine run0 ?_
                        refine q_loop (m' := k - (c + 1)) (by omega) (imp_TH (e := [(1, .i k), (5, .rptr 5 0 0), (7, .own 7 0), (9, .rptr 9 0 0), (10, .i ((a + 1 : Nat) : Int)), (11, .i ((c + 1 : Nat) : Int))]) (t := 7) (g := 3) (n := k) (m := m) (π := π') (A := cln B π' false a c m k) (l := [(5, (1, fun _ => .rats 1 fun _ => ra0)), (9, (1, fun _ => .rats 1 fun _ => .q (D2 * B (π' a) c)))]) rfl rfl (fun _ _ => rfl) rfl (fun r hr => blen rfl fun _ _ => rfl) rfl ?_ ?_) ⟨c + 1, by omega, rfl, ?_⟩
                        · exact eA
                        · exact hA
                        · rw [hD, hfin]
              · have hpN' : ¬ (p : Int) < (N : Int) := by omega
                have g1 : (decide ((p : Int) < (N : Int)) == true) = false := by rw [decide_eq_false hpN']; rfl
                have g2 : decide ((p : Int) < (N : Int)) = false := decide_eq_false hpN'
                obtain rfl : p = i0 := by omega
                have e3 := hnx.trans (e2 hpN)
                refine run0 ?_
                refine awp_no rfl rfl ?_
                refine run0 ?_
                refine awp_yes rfl ?_ ?_
                · exact decide_eq_true (show (N : Int) ≤ p by omega)
                clear g1 g2
                repeat(first|refine run1 ?_|((with_reducible apply st_call);exact rfl;exact rfl;exact rfl;first|(exact hs_zero))|((with_reducible apply st_callg);exact rfl;exact rfl;(first|exact rfl|assumption);exact rfl;exact rfl;exact rfl;first|(exact hs_zero)))
                refine q_loop (m' := N - (c + 1)) (by omega) (imp_TH (e := [(1, .i N), (5, .rptr 5 0 0), (7, .own 7 0), (9, .rptr 9 0 0), (10, .i (a : Int)), (11, .i ((c + 1 : Nat) : Int))]) (t := 7) (g := 3) (n := N) (m := m) (π := π) (A := B) (l := [(5, (1, fun _ => .rats 1 fun _ => ra0)), (9, (1, fun _ => .rats 1 fun _ => .q 0))]) rfl rfl (fun _ _ => rfl) rfl (fun r hr => blen rfl fun _ _ => rfl) rfl ?_ ?_) ⟨c + 1, by omega, rfl, ?_⟩
                · exact eA
                · exact hA
                · rw [e3, show dd (c + 1) ⟨a, d, π, B⟩ = 0 from if_pos (show a < c + 1 by omega)]
          · obtain rfl : c = N := by omega
            rw [hT]
            refine run0 ?_
            refine ⟨.inr rfl, _, (imp_stl (h := [(7, (1, fun _ => .ones WT c (fun i => .own 3 i))), (3, (c, fun r => .rats m (fun j => .q (B (π r) j)))), (5, (1, fun _ => .rats 1 fun _ => .q (dd c ⟨a, d, π, B⟩)))]) (e := [(4, .own 7 0), (5, .rptr 5 0 0), (6, .i (a : Int))]) (sP 3 c π) (fun h => by cases h) (fun g r g' r' _ _ => sP_inj hlt hinj g r g' r') ?_ ?_).trans (imp_mat2 4 (fun _ => m) (fun i j => .q (B (π i) j)) rfl rfl rfl (fun _ _ => rfl) rfl (fun _ _ => rfl) (by decide)), .three (.tmp rfl) (.rat rfl rfl (by decide) rfl (by decide) rfl) (.tmp rfl)⟩
            · exact alle rfl (Le.own (sP_ne (by decide) 0)) rfl (alle rfl (Le.rptr (sP_ne (by decide) 0)) rfl (alle rfl (Le.eq rfl rfl) True.intro True.intro))
            · refine ⟨fun r hr => ?_, fun r hr => ?_, fun r hr => ?_, True.intro⟩
              · obtain rfl : r = 0 := by omega
                rw [sP_ne (by decide)]
                exact ⟨1, _, rfl, Nat.zero_lt_one, bleo rfl fun i hi => Le.own (sP_g hi), fun i hi => rfl⟩
              · rw [sP_g hr]
                exact ⟨c, _, rfl, hlt r hr, blen rfl fun _ _ => rfl, True.intro⟩
              · obtain rfl : r = 0 := by omega
                rw [sP_ne (by decide)]
                exact ⟨1, _, rfl, Nat.zero_lt_one, ble1 rfl, True.intro⟩
end Go.Proofs.YtddkocidfhaofaaGreat.AM
/- How long numbers are, by bits. -/
namespace Go.Proofs.YtddkocidfhaofaaGreat.AM
open Go.Proofs.YtddkocidfhaofaaGreat.PN
set_option linter.unusedVariables false
set_option linter.unusedSimpArgs false
class Bt (q : Rat) (k : outParam Nat) : Prop where
  n : nm q < 2 ^ k
  d : q.den < 2 ^ k
theorem Bt.mono {q : Rat} {a b : Nat} (h : Bt q a) (k : a ≤ b) : Bt q b :=
  ⟨Nat.lt_of_lt_of_le h.n (Nat.pow_le_pow_right (by decide) k), Nat.lt_of_lt_of_le h.d (Nat.pow_le_pow_right (by decide) k)⟩
theorem Bt.of_mk {n d k : Nat} (s : Bool) (hd : d ≠ 0) (h1 : n < 2 ^ k) (h2 : d < 2 ^ k) : Bt (PN.mk s n d) k :=
  ⟨by rw [mk_num s hd]; exact Nat.lt_of_le_of_lt (Nat.div_le_self _ _) h1, by rw [mk_den s hd]; exact Nat.lt_of_le_of_lt (Nat.div_le_self _ _) h2⟩
theorem lt_mul {x y a b : Nat} (h : x < 2 ^ a) (k : y < 2 ^ b) : x * y < 2 ^ (a + b) := by rw [Nat.pow_add]; exact Nat.mul_lt_mul'' h k
instance Bt.mul {p q : Rat} {a b : Nat} [h : Bt p a] [k : Bt q b] : Bt (p * q) (a + b) := by
  rw [mul_parts]
  exact Bt.of_mk _ (Nat.mul_ne_zero (den_ne p) (den_ne q)) (lt_mul h.n k.n) (lt_mul h.d k.d)
theorem Bt.pos {q : Rat} {a : Nat} (h : Bt q a) : 0 < a := by
  rcases Nat.eq_zero_or_pos a with rfl | h0
  · have := h.d; have := q.den_pos; omega
  · exact h0
instance Bt.zero : Bt 0 1 := ⟨by decide, by decide⟩
instance Bt.one : Bt 1 1 := ⟨by decide, by decide⟩
instance Bt.div {p q : Rat} {a b : Nat} [h : Bt p a] [k : Bt q b] : Bt (p / q) (a + b) := by
  by_cases e : q = 0
  · rw [e, Rat.div_def, Rat.inv_zero, Rat.mul_zero]
    exact Bt.zero.mono (by have := h.pos; omega)
  · rw [div_parts p q e]
    exact Bt.of_mk _ (Nat.mul_ne_zero (den_ne p) (fun e' => e (nm_eq_zero.1 e'))) (lt_mul h.n k.d) (lt_mul h.d k.n)
instance Bt.add {p q : Rat} {a b : Nat} [h : Bt p a] [k : Bt q b] : Bt (p + q) (a + b + 1) := by
  have h1 := lt_mul h.n k.d
  have h2 : nm q * p.den < 2 ^ (a + b) := by rw [Nat.add_comm]; exact lt_mul k.n h.d
  have h3 := lt_mul h.d k.d
  have hp : 2 ^ (a + b + 1) = 2 ^ (a + b) * 2 := Nat.pow_succ ..
  have hd := Nat.mul_ne_zero (den_ne p) (den_ne q)
  by_cases e : ng p = ng q
  · rw [add_parts_same p q e]; exact Bt.of_mk _ hd (by omega) (by omega)
  · rcases Nat.le_total (nm q * p.den) (nm p * q.den) with hle | hle
    · rw [add_parts_ge p q e hle]; exact Bt.of_mk _ hd (by omega) (by omega)
    · rw [add_parts_lt p q e hle]; exact Bt.of_mk _ hd (by omega) (by omega)
instance Bt.neg {p : Rat} {a : Nat} [h : Bt p a] : Bt (-p) a := ⟨by rw [neg_nm]; exact h.n, by rw [neg_den]; exact h.d⟩
instance Bt.sub {p q : Rat} {a b : Nat} [h : Bt p a] [k : Bt q b] : Bt (p - q) (a + b + 1) := by
  rw [Rat.sub_eq_add_neg]; exact inferInstance
theorem Bt.wt {q : Rat} {k X : Nat} (h : Bt q k) (hX : k / 32 + 1 ≤ X) : Wt q X := by
  have hB : 2 ^ k ≤ B ^ (k / 32 + 1) := by
    rw [show B ^ (k / 32 + 1) = 2 ^ (32 * (k / 32 + 1)) by rw [Nat.pow_mul]]
    exact Nat.pow_le_pow_right (by decide) (by omega)
  refine ⟨Nat.le_trans ?_ hX⟩
  have h1 := (lt_iff (nm q) _).1 (Nat.lt_of_lt_of_le h.n hB)
  have h2 := (lt_iff q.den _).1 (Nat.lt_of_lt_of_le h.d hB)
  unfold PN.wt
  omega
theorem smal_bits : ∀ x : _root_.Fin 41, ∀ y : _root_.Fin 5, nm ((((x.val : Int) - 20 : Int) : Rat) / ((1 + (y.val : Int) : Int) : Rat)) < 2 ^ 5 ∧ ((((x.val : Int) - 20 : Int) : Rat) / ((1 + (y.val : Int) : Int) : Rat)).den < 2 ^ 5 := by decide +kernel
instance smal_bt (a : Int) : Bt (smal a) 5 := by
  obtain ⟨h1, h2⟩ := wthn_lt (a := a) (n := 41) (by decide)
  obtain ⟨h3, h4⟩ := wthn_lt (a := a.tdiv 41) (n := 5) (by decide)
  have := smal_bits ⟨(wthn a 41).toNat, by omega⟩ ⟨(wthn (a.tdiv 41) 5).toNat, by omega⟩
  rw [show (((wthn a 41).toNat : Nat) : Int) = wthn a 41 by omega, show (((wthn (a.tdiv 41) 5).toNat : Nat) : Int) = wthn (a.tdiv 41) 5 by omega] at this
  exact ⟨this.1, this.2⟩
instance rowq_bt (zs : List Int) (i : Nat) : Bt (rowq zs i) 5 := smal_bt _
end Go.Proofs.YtddkocidfhaofaaGreat.AM

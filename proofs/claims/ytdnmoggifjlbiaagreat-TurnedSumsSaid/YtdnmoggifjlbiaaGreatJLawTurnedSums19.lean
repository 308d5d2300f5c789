/- Joined texts, 19: Sml LawB RowO MkA MkB MkC MkE TuA MkD. -/
import Derived.Test.YtdnmoggifjlbiaaGreatJLawTurnedSums14
import Derived.Test.YtdnmoggifjlbiaaGreatJLawTurnedSums18
import Derived.Test.YtdnmoggifjlbiaaGreatJLawTurnedSums17
set_option linter.unusedVariables false
set_option linter.unusedSimpArgs false
/- Small numbers that are drawn: walked. -/
namespace Go.Proofs.YtdnmoggifjlbiaaGreat.AM
open Go Go.RowKit Go.Proofs.YtdnmoggifjlbiaaGreat.PN Go.Proofs.YtdnmoggifjlbiaaGreat.V
open Go.Proofs.YtdnmoggifjlbiaaGreat.LA (S S_succ S_zero S_congr)
set_option linter.unusedVariables false
set_option linter.unusedSimpArgs false
set_option maxRecDepth 4000
set_option maxHeartbeats 4000000
/-! ### Numbers that are drawn -/
theorem hs_of (n d : Int) (h1 : -9223372036854775808 ≤ n) (h2 : n < 9223372036854775808) (h3 : 0 < d) (h4 : d < 9223372036854775808) : Has Tryz.prog 61 [.i n, .i d] (.tup (.q ((n : Rat) / (d : Rat))) (.i 0)) := by
  refine ⟨by kernel_rfl, ⟨trivial, trivial⟩, fun w S β vs hv => ?_⟩
  obtain ⟨v, u, rfl, e1, e2⟩ := rvs2 hv
  have e1 : v = .int .i64 n := e1
  have e2 : u = .int .i64 d := e2
  subst e1; subst e2
  refine (s_of n d w h1 h2 (by omega) h4 (by omega)).mono ?_
  rintro e w' ⟨s, vn, vd, rfl, h1, h2⟩
  refine ⟨_, rfl, h2, _, _, rfl, ?_, rfl⟩
  have hq : mk (decide (n < 0) != decide (d < 0)) n.natAbs d.natAbs = (n : Rat) / (d : Rat) := by
    have h5 : (decide (n < 0) != decide (d < 0)) = decide (n < 0) := by rw [decide_eq_false (show ¬ d < 0 by omega)]; simp
    rw [h5]
    have h6 : PN.sg (decide (n < 0)) n.natAbs = n := by
      unfold PN.sg
      by_cases h : n < 0
      · rw [decide_eq_true h]; simp; omega
      · rw [decide_eq_false h]; simp; omega
    unfold mk
    rw [h6, Rat.mkRat_eq_div]
    have h7 : ((d.natAbs : Nat) : Int) = d := by omega
    rw [show ((d.natAbs : Nat) : Rat) = (((d.natAbs : Nat) : Int) : Rat) from rfl, h7]
  rw [← hq]
  exact rat_rv h1
/-- A number from 0 to n - 1. -/
def wthn (a n : Int) : Int := if a.tmod n < 0 then a.tmod n + n else a.tmod n
theorem wthn_lt {a n : Int} (hn : 0 < n) : 0 ≤ wthn a n ∧ wthn a n < n := by
  unfold wthn
  have h1 := Int.tmod_lt_of_pos a hn
  have h2 : -n < a.tmod n := Int.lt_tmod_of_pos a hn
  split <;> omega
theorem k_within2 {a n : Int} (hn : 0 < n) (hn' : n < 1000000000) : Has Tryz.prog 79 [.i a, .i n] (.i (wthn a n)) := by
  refine has_of Tryz.func79 (by kernel_rfl) rfl Tryz.ntmps79 Tryz.results79 rfl rfl rfl ?_
  have h1 := Int.tmod_lt_of_pos a hn
  have h2 : -n < a.tmod n := Int.lt_tmod_of_pos a hn
  refine run0 ?_
  refine awp_if rfl (fun h => ?_) (fun h => ?_)
  · have e : wthn a n = a.tmod n + n := if_pos h
    rw [e]
    refine run0 ?_
    refine ⟨.inr rfl, _, Imp.refl _, ?_⟩
    exact .one (.tmp rfl)
  · have e : wthn a n = a.tmod n := if_neg h
    rw [e]
    refine run0 ?_
    refine ⟨.inr rfl, _, Imp.refl _, ?_⟩
    exact .one (.tmp rfl)
/-- A small number. -/
def smal (a : Int) : Rat := ((wthn a 41 - 20 : Int) : Rat) / ((1 + wthn (a.tdiv 41) 5 : Int) : Rat)
theorem smal_key : ∀ x : _root_.Fin 41, ∀ y : _root_.Fin 5, wt ((((x.val : Int) - 20 : Int) : Rat) / ((1 + (y.val : Int) : Int) : Rat)) ≤ 1 := by decide +kernel
instance smal_wt (a : Int) : Wt (smal a) 1 := ⟨by
  obtain ⟨h1, h2⟩ := wthn_lt (a := a) (n := 41) (by decide)
  obtain ⟨h3, h4⟩ := wthn_lt (a := a.tdiv 41) (n := 5) (by decide)
  have := smal_key ⟨(wthn a 41).toNat, by omega⟩ ⟨(wthn (a.tdiv 41) 5).toNat, by omega⟩
  rw [show (((wthn a 41).toNat : Nat) : Int) = wthn a 41 by omega, show (((wthn (a.tdiv 41) 5).toNat : Nat) : Int) = wthn (a.tdiv 41) 5 by omega] at this
  exact this⟩
theorem k_small {a : Int} (ha : Fits .i64 a) : Has Tryz.prog 42 [.i a] (.q (smal a)) := by
  refine has_of Tryz.func42 (by kernel_rfl) rfl Tryz.ntmps42 Tryz.results42 rfl rfl rfl ?_
  obtain ⟨h1, h2⟩ := wthn_lt (a := a) (n := 41) (by decide)
  obtain ⟨h3, h4⟩ := wthn_lt (a := a.tdiv 41) (n := 5) (by decide)
  have hf : -9223372036854775808 ≤ a ∧ a ≤ 9223372036854775807 := ha
  have h5 : Fits .i64 (a.tdiv 41) := by
    have e1 : (a.tdiv 41).natAbs = a.natAbs / 41 := Int.natAbs_tdiv a 41
    show -9223372036854775808 ≤ _ ∧ _ ≤ (9223372036854775807 : Int)
    omega
  obtain ⟨h5a, h5b⟩ : -9223372036854775808 ≤ a.tdiv 41 ∧ a.tdiv 41 ≤ 9223372036854775807 := h5
  repeat(first|refine run1 ?_|((with_reducible apply st_call);exact rfl;exact rfl;exact rfl;first|(exact k_within2 (by decide) (by decide))|(exact hs_of _ _ (by omega) (by omega) (by omega) (by omega)))|((with_reducible apply st_callg);exact rfl;exact rfl;(first|exact rfl|assumption);exact rfl;exact rfl;exact rfl;first|(exact k_within2 (by decide) (by decide))|(exact hs_of _ _ (by omega) (by omega) (by omega) (by omega))))
  refine ⟨.inr rfl, _, Imp.refl _, ?_⟩
  exact .one (.rat rfl rfl (by decide) rfl (by decide) rfl)
end Go.Proofs.YtdnmoggifjlbiaaGreat.AM
/- Laws of dense matrices: walks: rows of numbers. -/
namespace Go.Proofs.YtdnmoggifjlbiaaGreat.AM
open Go Go.RowKit Go.Proofs.YtdnmoggifjlbiaaGreat.PN Go.Proofs.YtdnmoggifjlbiaaGreat.V
open Go.Proofs.YtdnmoggifjlbiaaGreat.LA (S S_succ S_zero S_congr)
set_option linter.unusedVariables false
set_option linter.unusedSimpArgs false
set_option maxRecDepth 4000
set_option maxHeartbeats 4000000
/-- What a list of whole numbers says at a place. -/
def rowx (zs : List Int) (i : Nat) : Int := if i < zs.length then zs.getD i 0 else 3 * i + 1
def rowq (zs : List Int) (i : Nat) : Rat := smal (rowx zs i)
instance rowq_wt (zs : List Int) (i : Nat) : Wt (rowq zs i) 1 := smal_wt _
def rowS (e : List (Nat × AV)) (v : Nat → RA) : Nat → St
  | 0 => stl ((5, .v (.slice none 0 0)) :: e) []
  | k + 1 => stl ((5, .own 5 0) :: e) [(5, (1, fun _ => .rats (k + 1) v))]
theorem row_close {s : St} {e : List (Nat × AV)} {k : Nat} {v f : Nat → RA} {F : Nat → Blk} {a : Nat} (h5 : s.env 5 = some (.own a 0)) (ha : s.heap a = some (1, F)) (hF : F 0 = .rats (k + 1) f) (hf : ∀ i, i < k + 1 → f i = v i) (h60 : s.used 60 = false) (he : AllE s (s1 5 a) (fun g => memN g [5]) e) : Imp s (rowS e v (k + 1)) := by
  refine imp_stl (h := [(5, (1, fun _ => .rats (k + 1) v))]) (s1 5 a) (fun h => by rw [h60] at h; cases h) (fun g r g' r' h1 h2 => s1_inj 5 a g r g' r' h1 h2) ⟨⟨_, h5, Le.own (by unfold s1; rw [if_pos rfl]), rfl⟩, he⟩ ⟨fun r hr => ?_, trivial⟩ (by rw [h60]; rfl)
  obtain rfl : r = 0 := by omega
  have e1 : s1 5 a 5 0 = (a, 0) := by unfold s1; rw [if_pos rfl]
  rw [e1]
  refine ⟨1, F, ha, Nat.zero_lt_one, ?_, trivial⟩
  show BLe _ (F 0) _
  rw [hF]; exact blen rfl hf
theorem k_row {zs : List Int} {n : Nat} (hn : n ≤ 1000) (hz : ∀ i, i < zs.length → Fits .i64 (zs.getD i 0)) : Has Tryz.prog 15 [.seq .i64 zs, .i n] (.row true n (fun i => .q (rowq zs i))) := by
  refine has_of Tryz.func15 (by kernel_rfl) rfl Tryz.ntmps15 Tryz.results15 rfl rfl rfl ?_
  refine run0 ?_
  refine awp_loop (fun m s => ∃ k, k ≤ n ∧ m = n - k ∧ s = rowS [(0, .seq .i64 zs), (1, .i n), (6, .i (k : Int))] (fun i => .q (rowq zs i)) k) n _ (imp_id (h := []) (e := [(5, .v (.slice none 0 0)), (0, .seq .i64 zs), (1, .i n), (6, .i ((0 : Nat) : Int))]) ?_ ?_) ⟨0, Nat.zero_le _, rfl, rfl⟩ ?_
  · exact eA
  · exact True.intro
  · rintro m s ⟨k, hk, rfl, rfl⟩
    have hx : ∀ k : Nat, k < zs.length → rowx zs k = zs.getD k 0 := fun k h => if_pos h
    have hy : ∀ k : Nat, ¬ k < zs.length → rowx zs k = 3 * (k : Int) + 1 := fun k h => if_neg h
    rcases k with _ | k
    · refine run0 ?_
      refine awp_if rfl (fun h => ?_) (fun h => ?_)
      · have h : 0 < n := by omega
        refine run0 ?_
        refine awp_if rfl (fun h1 => ?_) (fun h1 => ?_)
        · have h1' : (((0 : Nat) : Int)) < (zs.length : Int) := h1
          have h1 : 0 < zs.length := by omega
          have hf := hz 0 h1
          repeat(first|refine run1 ?_|((with_reducible apply st_call);exact rfl;exact rfl;exact rfl;first|(exact k_small hf))|((with_reducible apply st_callg);exact rfl;exact rfl;(first|exact rfl|assumption);exact rfl;exact rfl;exact rfl;first|(exact k_small hf)))
          refine q_loop ?_ (row_close (k := 0) (a := 28) rfl rfl rfl ?_ rfl ?_) ⟨0 + 1, ?_, rfl, rfl⟩
          · omega
          · intro i hi
            obtain rfl : i = 0 := by omega
            exact congrArg (fun x => RA.q (smal x)) (hx 0 h1).symm
          · refine alle rfl (Le.eq rfl rfl) True.intro (alle rfl (Le.eq rfl rfl) True.intro (alle rfl (Le.eq rfl rfl) True.intro True.intro))
          · omega
        · have h1' : ¬ (((0 : Nat) : Int)) < (zs.length : Int) := h1
          have h1 : ¬ 0 < zs.length := by omega
          have hf : Fits .i64 (3 * ((0 : Nat) : Int) + 1) := by show _ ∧ _; omega
          repeat(first|refine run1 ?_|((with_reducible apply st_call);exact rfl;exact rfl;exact rfl;first|(exact k_small hf))|((with_reducible apply st_callg);exact rfl;exact rfl;(first|exact rfl|assumption);exact rfl;exact rfl;exact rfl;first|(exact k_small hf)))
          refine q_loop ?_ (row_close (k := 0) (a := 28) rfl rfl rfl ?_ rfl ?_) ⟨0 + 1, ?_, rfl, rfl⟩
          · omega
          · intro i hi
            obtain rfl : i = 0 := by omega
            exact congrArg (fun x => RA.q (smal x)) (hy 0 h1).symm
          · refine alle rfl (Le.eq rfl rfl) True.intro (alle rfl (Le.eq rfl rfl) True.intro (alle rfl (Le.eq rfl rfl) True.intro True.intro))
          · omega
      · obtain rfl : 0 = n := by omega
        refine run0 ?_
        refine ⟨.inr rfl, _, imp_slot (y := .row true 0 fun i => .q (rowq zs i)) 4 rfl True.intro Le.nilrow, ?_⟩
        exact .one (.tmp rfl)
    · refine run0 ?_
      refine awp_if rfl (fun h => ?_) (fun h => ?_)
      · have h : (k + 1) < n := by omega
        refine run0 ?_
        refine awp_if rfl (fun h1 => ?_) (fun h1 => ?_)
        · have h1' : ((((k + 1) : Nat) : Int)) < (zs.length : Int) := h1
          have h1 : (k + 1) < zs.length := by omega
          have hf := hz (k + 1) h1
          repeat(first|refine run1 ?_|((with_reducible apply st_call);exact rfl;exact rfl;exact rfl;first|(exact k_small hf))|((with_reducible apply st_callg);exact rfl;exact rfl;(first|exact rfl|assumption);exact rfl;exact rfl;exact rfl;first|(exact k_small hf)))
          refine q_loop ?_ (row_close (k := (k + 1)) (a := 28) rfl rfl rfl ?_ rfl ?_) ⟨(k + 1) + 1, ?_, rfl, rfl⟩
          · omega
          · intro i hi
            by_cases e : i < k + 1
            · exact if_pos e
            · obtain rfl : i = k + 1 := by omega
              refine (if_neg (Nat.lt_irrefl _)).trans ?_
              rw [Nat.sub_self]
              exact congrArg (fun x => RA.q (smal x)) (hx (k + 1) h1).symm
          · refine alle rfl (Le.eq rfl rfl) True.intro (alle rfl (Le.eq rfl rfl) True.intro (alle rfl (Le.eq rfl rfl) True.intro True.intro))
          · omega
        · have h1' : ¬ ((((k + 1) : Nat) : Int)) < (zs.length : Int) := h1
          have h1 : ¬ (k + 1) < zs.length := by omega
          have hf : Fits .i64 (3 * (((k + 1) : Nat) : Int) + 1) := by show _ ∧ _; omega
          repeat(first|refine run1 ?_|((with_reducible apply st_call);exact rfl;exact rfl;exact rfl;first|(exact k_small hf))|((with_reducible apply st_callg);exact rfl;exact rfl;(first|exact rfl|assumption);exact rfl;exact rfl;exact rfl;first|(exact k_small hf)))
          refine q_loop ?_ (row_close (k := (k + 1)) (a := 28) rfl rfl rfl ?_ rfl ?_) ⟨(k + 1) + 1, ?_, rfl, rfl⟩
          · omega
          · intro i hi
            by_cases e : i < k + 1
            · exact if_pos e
            · obtain rfl : i = k + 1 := by omega
              refine (if_neg (Nat.lt_irrefl _)).trans ?_
              rw [Nat.sub_self]
              exact congrArg (fun x => RA.q (smal x)) (hy (k + 1) h1).symm
          · refine alle rfl (Le.eq rfl rfl) True.intro (alle rfl (Le.eq rfl rfl) True.intro (alle rfl (Le.eq rfl rfl) True.intro True.intro))
          · omega
      · obtain rfl : (k + 1) = n := by omega
        refine run0 ?_
        refine ⟨.inr rfl, _, imp_row 4 rfl rfl rfl, ?_⟩
        exact .one (.tmp rfl)
end Go.Proofs.YtdnmoggifjlbiaaGreat.AM
/- Rows of numbers as a caller's own. -/
namespace Go.Proofs.YtdnmoggifjlbiaaGreat.AM
open Go Go.RowKit Go.Proofs.YtdnmoggifjlbiaaGreat.PN Go.Proofs.YtdnmoggifjlbiaaGreat.V
open Go.Proofs.YtdnmoggifjlbiaaGreat.LA (S S_succ S_zero S_congr)
set_option linter.unusedVariables false
set_option linter.unusedSimpArgs false
set_option maxRecDepth 4000
set_option maxHeartbeats 4000000
theorem row_out {s : St} {n : Nat} {v f : Nat → RA} {F : Nat → Blk} {a : Nat} (h5 : s.env 4 = some (.own a 0)) (ha : s.heap a = some (1, F)) (hF : F 0 = .rats n f) (hf : ∀ i, i < n → f i = v i) (h60 : s.used 60 = false) : Imp s (stl [(4, .own 63 0)] [(63, (1, fun _ => .rats n v))]) := by
  refine imp_stl (h := [(63, (1, fun _ => .rats n v))]) (s1 63 a) (fun h => by rw [h60] at h; cases h) (fun g r g' r' h1 h2 => s1_inj 63 a g r g' r' h1 h2) ⟨⟨_, h5, Le.own (by unfold s1; rw [if_pos rfl]), rfl⟩, True.intro⟩ ⟨fun r hr => ?_, trivial⟩ (by rw [h60]; rfl)
  obtain rfl : r = 0 := by omega
  have e1 : s1 63 a 63 0 = (a, 0) := by unfold s1; rw [if_pos rfl]
  rw [e1]
  refine ⟨1, F, ha, Nat.zero_lt_one, ?_, trivial⟩
  show BLe _ (F 0) _
  rw [hF]; exact blen rfl hf
theorem k_rowo {zs : List Int} {n : Nat} (h0 : 0 < n) (hn : n ≤ 1000) (hz : ∀ i, i < zs.length → Fits .i64 (zs.getD i 0)) : HasH Tryz.prog 15 [] [.seq .i64 zs, .i n] (.own 63 0) [(63, (1, fun _ => .rats n (fun i => .q (rowq zs i))))] := by
  refine hasH_of Tryz.func15 (by kernel_rfl) rfl Tryz.ntmps15 Tryz.results15 rfl rfl rfl ?_
  refine run0 ?_
  refine awp_loop (fun m s => ∃ k, k ≤ n ∧ m = n - k ∧ s = rowS [(0, .seq .i64 zs), (1, .i n), (6, .i (k : Int))] (fun i => .q (rowq zs i)) k) n _ (imp_id (h := []) (e := [(5, .v (.slice none 0 0)), (0, .seq .i64 zs), (1, .i n), (6, .i ((0 : Nat) : Int))]) ?_ ?_) ⟨0, Nat.zero_le _, rfl, rfl⟩ ?_
  · exact eA
  · exact True.intro
  · rintro m s ⟨k, hk, rfl, rfl⟩
    have hx : ∀ k : Nat, k < zs.length → rowx zs k = zs.getD k 0 := fun k h => if_pos h
    have hy : ∀ k : Nat, ¬ k < zs.length → rowx zs k = 3 * (k : Int) + 1 := fun k h => if_neg h
    rcases k with _ | k
    · refine run0 ?_
      refine awp_if rfl (fun h => ?_) (fun h => ?_)
      · have h : 0 < n := by omega
        refine run0 ?_
        refine awp_if rfl (fun h1 => ?_) (fun h1 => ?_)
        · have h1' : (((0 : Nat) : Int)) < (zs.length : Int) := h1
          have h1 : 0 < zs.length := by omega
          have hf := hz 0 h1
          repeat(first|refine run1 ?_|((with_reducible apply st_call);exact rfl;exact rfl;exact rfl;first|(exact k_small hf))|((with_reducible apply st_callg);exact rfl;exact rfl;(first|exact rfl|assumption);exact rfl;exact rfl;exact rfl;first|(exact k_small hf)))
          refine q_loop ?_ (row_close (k := 0) (a := 28) rfl rfl rfl ?_ rfl ?_) ⟨0 + 1, ?_, rfl, rfl⟩
          · omega
          · intro i hi
            obtain rfl : i = 0 := by omega
            exact congrArg (fun x => RA.q (smal x)) (hx 0 h1).symm
          · refine alle rfl (Le.eq rfl rfl) True.intro (alle rfl (Le.eq rfl rfl) True.intro (alle rfl (Le.eq rfl rfl) True.intro True.intro))
          · omega
        · have h1' : ¬ (((0 : Nat) : Int)) < (zs.length : Int) := h1
          have h1 : ¬ 0 < zs.length := by omega
          have hf : Fits .i64 (3 * ((0 : Nat) : Int) + 1) := by show _ ∧ _; omega
          repeat(first|refine run1 ?_|((with_reducible apply st_call);exact rfl;exact rfl;exact rfl;first|(exact k_small hf))|((with_reducible apply st_callg);exact rfl;exact rfl;(first|exact rfl|assumption);exact rfl;exact rfl;exact rfl;first|(exact k_small hf)))
          refine q_loop ?_ (row_close (k := 0) (a := 28) rfl rfl rfl ?_ rfl ?_) ⟨0 + 1, ?_, rfl, rfl⟩
          · omega
          · intro i hi
            obtain rfl : i = 0 := by omega
            exact congrArg (fun x => RA.q (smal x)) (hy 0 h1).symm
          · refine alle rfl (Le.eq rfl rfl) True.intro (alle rfl (Le.eq rfl rfl) True.intro (alle rfl (Le.eq rfl rfl) True.intro True.intro))
          · omega
      · obtain rfl : 0 = n := by omega
        refine run0 ?_
        exact absurd h0 (Nat.lt_irrefl _)
    · refine run0 ?_
      refine awp_if rfl (fun h => ?_) (fun h => ?_)
      · have h : (k + 1) < n := by omega
        refine run0 ?_
        refine awp_if rfl (fun h1 => ?_) (fun h1 => ?_)
        · have h1' : ((((k + 1) : Nat) : Int)) < (zs.length : Int) := h1
          have h1 : (k + 1) < zs.length := by omega
          have hf := hz (k + 1) h1
          repeat(first|refine run1 ?_|((with_reducible apply st_call);exact rfl;exact rfl;exact rfl;first|(exact k_small hf))|((with_reducible apply st_callg);exact rfl;exact rfl;(first|exact rfl|assumption);exact rfl;exact rfl;exact rfl;first|(exact k_small hf)))
          refine q_loop ?_ (row_close (k := (k + 1)) (a := 28) rfl rfl rfl ?_ rfl ?_) ⟨(k + 1) + 1, ?_, rfl, rfl⟩
          · omega
          · intro i hi
            by_cases e : i < k + 1
            · exact if_pos e
            · obtain rfl : i = k + 1 := by omega
              refine (if_neg (Nat.lt_irrefl _)).trans ?_
              rw [Nat.sub_self]
              exact congrArg (fun x => RA.q (smal x)) (hx (k + 1) h1).symm
          · refine alle rfl (Le.eq rfl rfl) True.intro (alle rfl (Le.eq rfl rfl) True.intro (alle rfl (Le.eq rfl rfl) True.intro True.intro))
          · omega
        · have h1' : ¬ ((((k + 1) : Nat) : Int)) < (zs.length : Int) := h1
          have h1 : ¬ (k + 1) < zs.length := by omega
          have hf : Fits .i64 (3 * (((k + 1) : Nat) : Int) + 1) := by show _ ∧ _; omega
          repeat(first|refine run1 ?_|((with_reducible apply st_call);exact rfl;exact rfl;exact rfl;first|(exact k_small hf))|((with_reducible apply st_callg);exact rfl;exact rfl;(first|exact rfl|assumption);exact rfl;exact rfl;exact rfl;first|(exact k_small hf)))
          refine q_loop ?_ (row_close (k := (k + 1)) (a := 28) rfl rfl rfl ?_ rfl ?_) ⟨(k + 1) + 1, ?_, rfl, rfl⟩
          · omega
          · intro i hi
            by_cases e : i < k + 1
            · exact if_pos e
            · obtain rfl : i = k + 1 := by omega
              refine (if_neg (Nat.lt_irrefl _)).trans ?_
              rw [Nat.sub_self]
              exact congrArg (fun x => RA.q (smal x)) (hy (k + 1) h1).symm
          · refine alle rfl (Le.eq rfl rfl) True.intro (alle rfl (Le.eq rfl rfl) True.intro (alle rfl (Le.eq rfl rfl) True.intro True.intro))
          · omega
      · obtain rfl : (k + 1) = n := by omega
        refine run0 ?_
        exact ⟨.inr rfl, [(4, .own 63 0)], row_out rfl rfl rfl (fun _ _ => rfl) rfl, .one (.tmp rfl)⟩
end Go.Proofs.YtdnmoggifjlbiaaGreat.AM
/- Systems that are drawn: counts, the numbers' places. -/
namespace Go.Proofs.YtdnmoggifjlbiaaGreat.AM
open Go Go.RowKit Go.Proofs.YtdnmoggifjlbiaaGreat.PN Go.Proofs.YtdnmoggifjlbiaaGreat.V
open Go.Proofs.YtdnmoggifjlbiaaGreat.LA (S S_succ S_zero S_congr)
set_option linter.unusedVariables false
set_option linter.unusedSimpArgs false
set_option maxRecDepth 8000
set_option maxHeartbeats 8000000
theorem k_within5 {a n : Int} (hn : 0 < n) (hn' : n < 1000000000) : Has Tryz.prog 50 [.i a, .i n] (.i (wthn a n)) := by
  refine has_of Tryz.func50 (by kernel_rfl) rfl Tryz.ntmps50 Tryz.results50 rfl rfl rfl ?_
  have h1 := Int.tmod_lt_of_pos a hn
  have h2 : -n < a.tmod n := Int.lt_tmod_of_pos a hn
  refine run0 ?_
  refine awp_if rfl (fun h => ?_) (fun h => ?_)
  · have e : wthn a n = a.tmod n + n := if_pos h
    rw [e]
    refine run0 ?_
    refine ⟨.inr rfl, _, Imp.refl _, ?_⟩
    exact .one (.tmp rfl)
  · have e : wthn a n = a.tmod n := if_neg h
    rw [e]
    refine run0 ?_
    refine ⟨.inr rfl, _, Imp.refl _, ?_⟩
    exact .one (.tmp rfl)
theorem r5_like (k : Nat) : Has Tryz.prog 51 [.i k] (.b (likeB k)) := by
  refine has_of Tryz.func51 (by kernel_rfl) rfl Tryz.ntmps51 Tryz.results51 rfl rfl rfl ?_
  by_cases h6 : k = 6
  · have e0 : decide ((k : Int) = 6) = true := decide_eq_true (by omega)
    have e1 : (decide ((k : Int) = 6) == false) = false := by rw [e0]; rfl
    refine run0p ?_
    refine ⟨.inr rfl, _, Imp.refl _, ?_⟩
    rw [h6]
    exact .one (.tmp rfl)
  · have e0 : decide ((k : Int) = 6) = false := decide_eq_false (by omega)
    have e1 : (decide ((k : Int) = 6) == false) = true := by rw [e0]; rfl
    have e2 : decide ((k : Int) = 7) = likeB k := by
      unfold likeB
      rw [decide_eq_false h6, Bool.false_or]
      exact decide_eq_decide.2 (by omega)
    refine run0p ?_
    refine ⟨.inr rfl, _, Imp.refl _, ?_⟩
    rw [← e2]
    exact .one (.tmp rfl)
/-- How many numbers a system has in its rows. -/
def cnA (k n : Nat) : Nat := match k with | 1 | 2 => 2 * n - 1 | 6 => 0 | _ => n
def cnB (k n : Nat) : Nat := match k with | 5 | 7 => n | _ => 0
def cnH (k n r : Nat) : Nat := match k with | 6 | 7 => n * r | _ => 0
/-- A system of which only three numbers are known. -/
def hdf (k n r : Nat) (i : Nat) : AV := [AV.i k, .i n, .i r, .v (.slice none 0 0), .v (.slice none 0 0), .v (.slice none 0 0), .v (.slice none 0 0)].getD i (.v undef)
theorem r5_counts {k n r : Nat} (h1 : 1 ≤ k) (h7 : k ≤ 7) (n1 : 1 ≤ n) (n8 : n ≤ 8) (r3 : r ≤ 3) : Has Tryz.prog 52 [.ag 7 (hdf k n r)] (.tup3 (.i (cnA k n)) (.i (cnB k n)) (.i (cnH k n r))) := by
  have hk : k = 1 ∨ k = 2 ∨ k = 3 ∨ k = 4 ∨ k = 5 ∨ k = 6 ∨ k = 7 := by omega
  have em : (n : Int) * (r : Int) = ((n * r : Nat) : Int) := (Int.natCast_mul n r).symm
  have hnr : n * r ≤ 8 * 3 := Nat.mul_le_mul n8 r3
  have q1 : -9223372036854775808 ≤ (n : Int) * (r : Int) := by rw [em]; omega
  have q2 : (n : Int) * (r : Int) ≤ 9223372036854775807 := by rw [em]; omega
  refine has_of Tryz.func52 (by kernel_rfl) rfl Tryz.ntmps52 Tryz.results52 rfl rfl rfl ?_
  refine run0 ?_
  rcases hk with rfl | rfl | rfl | rfl | rfl | rfl | rfl
  · skip
    refine awp_yes rfl rfl ?_
    refine run0 ?_
    refine awp_yes rfl rfl ?_
    refine run0 ?_
    rw [show (2 : Int) * n - 1 = ((cnA 1 n : Nat) : Int) from by show (2 : Int) * n - 1 = ((2 * n - 1 : Nat) : Int); omega]
    exact ⟨.inr rfl, _, Imp.refl _, .three (.tmp rfl) (.tmp rfl) (.tmp rfl)⟩
  · skip
    refine awp_no rfl rfl ?_
    refine run0 ?_
    refine awp_yes rfl rfl ?_
    refine run0 ?_
    rw [show (2 : Int) * n - 1 = ((cnA 2 n : Nat) : Int) from by show (2 : Int) * n - 1 = ((2 * n - 1 : Nat) : Int); omega]
    exact ⟨.inr rfl, _, Imp.refl _, .three (.tmp rfl) (.tmp rfl) (.tmp rfl)⟩
  · skip
    refine awp_no rfl rfl ?_
    refine run0 ?_
    refine awp_no rfl rfl ?_
    refine run0 ?_
    refine awp_yes rfl rfl ?_
    refine run0 ?_
    refine awp_yes rfl rfl ?_
    refine run0 ?_
    exact ⟨.inr rfl, _, Imp.refl _, .three (.tmp rfl) (.tmp rfl) (.tmp rfl)⟩
  · skip
    refine awp_no rfl rfl ?_
    refine run0 ?_
    refine awp_no rfl rfl ?_
    refine run0 ?_
    refine awp_no rfl rfl ?_
    refine run0 ?_
    refine awp_yes rfl rfl ?_
    refine run0 ?_
    exact ⟨.inr rfl, _, Imp.refl _, .three (.tmp rfl) (.tmp rfl) (.tmp rfl)⟩
  · skip
    refine awp_no rfl rfl ?_
    refine run0 ?_
    refine awp_no rfl rfl ?_
    refine run0 ?_
    refine awp_no rfl rfl ?_
    refine run0 ?_
    refine awp_no rfl rfl ?_
    refine run0 ?_
    refine awp_yes rfl rfl ?_
    refine run0 ?_
    exact ⟨.inr rfl, _, Imp.refl _, .three (.tmp rfl) (.tmp rfl) (.tmp rfl)⟩
  · skip
    refine awp_no rfl rfl ?_
    refine run0 ?_
    refine awp_no rfl rfl ?_
    refine run0 ?_
    refine awp_no rfl rfl ?_
    refine run0 ?_
    refine awp_no rfl rfl ?_
    refine run0 ?_
    refine awp_no rfl rfl ?_
    refine run0 ?_
    refine awp_yes rfl rfl ?_
    refine run0 ?_
    rw [em]
    exact ⟨.inr rfl, _, Imp.refl _, .three (.tmp rfl) (.tmp rfl) (.tmp rfl)⟩
  · skip
    refine awp_no rfl rfl ?_
    refine run0 ?_
    refine awp_no rfl rfl ?_
    refine run0 ?_
    refine awp_no rfl rfl ?_
    refine run0 ?_
    refine awp_no rfl rfl ?_
    refine run0 ?_
    refine awp_no rfl rfl ?_
    refine run0 ?_
    refine awp_no rfl rfl ?_
    refine run0 ?_
    rw [em]
    exact ⟨.inr rfl, _, Imp.refl _, .three (.tmp rfl) (.tmp rfl) (.tmp rfl)⟩
end Go.Proofs.YtdnmoggifjlbiaaGreat.AM
/- Systems that are drawn: walked. -/
namespace Go.Proofs.YtdnmoggifjlbiaaGreat.AM
open Go Go.RowKit Go.Proofs.YtdnmoggifjlbiaaGreat.PN Go.Proofs.YtdnmoggifjlbiaaGreat.V
open Go.Proofs.YtdnmoggifjlbiaaGreat.LA (S S_succ S_zero S_congr)
set_option linter.unusedVariables false
set_option linter.unusedSimpArgs false
set_option maxRecDepth 8000
set_option maxHeartbeats 8000000
/-- A number of the second row behind r looks. -/
def bpart (A : Nat → Rat) (c : Nat) (x : Rat) : Nat → Rat
  | 0 => x
  | r + 1 => if A r = bpart A c x r then bpart A c x r + ((100 + c : Int) : Rat) else bpart A c x r
/-- The numbers when c columns are done and r rows of the next. -/
def mkL (zs : List Int) (a b c r i : Nat) : Rat :=
  if i < a then rowq zs i else if i < a + b then (if i - a < c then bpart (rowq zs) (i - a) (rowq zs i) a else if i - a = c then bpart (rowq zs) c (rowq zs i) r else rowq zs i) else rowq zs i
theorem mkL_start {zs : List Int} {a b : Nat} (i : Nat) : mkL zs a b 0 0 i = rowq zs i := by
  unfold mkL
  split
  · rfl
  · split
    · rw [if_neg (Nat.not_lt_zero _)]
      split
      · rfl
      · rfl
    · rfl
theorem mkL_next {zs : List Int} {a b c : Nat} (i : Nat) : mkL zs a b c a i = mkL zs a b (c + 1) 0 i := by
  unfold mkL
  split
  · rfl
  · split
    · by_cases h1 : i - a < c
      · rw [if_pos h1, if_pos (by omega)]
      · rw [if_neg h1]
        by_cases h2 : i - a = c
        · rw [if_pos h2, if_pos (by omega), h2]
        · rw [if_neg h2, if_neg (by omega)]
          split
          · rfl
          · rfl
    · rfl
theorem mkL_A {zs : List Int} {a b c r i : Nat} (h : i < a) : mkL zs a b c r i = rowq zs i := if_pos h
theorem mkL_B {zs : List Int} {a b c r : Nat} (h : c < b) : mkL zs a b c r (a + c) = bpart (rowq zs) c (rowq zs (a + c)) r := by
  unfold mkL
  rw [if_neg (by omega), if_pos (by omega), if_neg (by omega), if_pos (by omega)]
theorem mkL_row {zs : List Int} {a b c r i : Nat} (h : i ≠ a + c) (r' : Nat) : mkL zs a b c r i = mkL zs a b c r' i := by
  unfold mkL
  by_cases h0 : i < a
  · rw [if_pos h0, if_pos h0]
  · rw [if_neg h0, if_neg h0]
    by_cases h1 : i < a + b
    · rw [if_pos h1, if_pos h1]
      by_cases h2 : i - a < c
      · rw [if_pos h2, if_pos h2]
      · rw [if_neg h2, if_neg h2, if_neg (by omega), if_neg (by omega)]
    · rw [if_neg h1, if_neg h1]
/-- Which kind, how large, of which rank. -/
def mkK (kind : Int) : Nat := (1 + wthn kind 7).toNat
def mkN (n most : Int) : Nat := (1 + wthn n most).toNat
def mkR (k : Nat) (n : Int) : Nat := if likeB k then (1 + wthn (n.tdiv 8) 2).toNat else 0
def gmk (k m r : Nat) (zs : List Int) : GD :=
  ⟨k, m, r, cnA k m, cnB k m, cnH k m r, cnH k m r, fun i => mkL zs (cnA k m) (cnB k m) (cnB k m) 0 (0 + i), fun i => mkL zs (cnA k m) (cnB k m) (cnB k m) 0 (cnA k m + i), fun i => mkL zs (cnA k m) (cnB k m) (cnB k m) 0 (cnA k m + cnB k m + i), fun i => mkL zs (cnA k m) (cnB k m) (cnB k m) 0 (cnA k m + cnB k m + cnH k m r + i)⟩
def mkg (kind n : Int) (zs : List Int) (most : Int) : GD := gmk (mkK kind) (mkN n most) (mkR (mkK kind) n) zs
theorem hdf_ok (k n r : Nat) (U : Nat → Bool) : ∀ i, (hdf k n r i).ok U
  | 0 | 1 | 2 | 3 | 4 | 5 | 6 => trivial
  | _ + 7 => trivial
/-- .. as what a call has made. -/
def GD.ft (g : GD) (i : Nat) : AV := [AV.i g.k, .i g.n, .i g.r, .row true g.la (fun i => .q (g.A i)), .row true g.lb (fun i => .q (g.B i)), .row true g.lg (fun i => .q (g.G i)), .row true g.lh (fun i => .q (g.H i))].getD i (.v undef)
theorem ble7 {T : TypeId} {f f' : Nat → AV} (h0 : f 0 = f' 0) (h1 : f 1 = f' 1) (h2 : f 2 = f' 2) (h3 : f 3 = f' 3) (h4 : f 4 = f' 4) (h5 : f 5 = f' 5) (h6 : f 6 = f' 6) : BLe idR (.ones T 7 f) (.ones T 7 f') :=
  bleo rfl fun i hi => Le.id (g7 h0 h1 h2 h3 h4 h5 h6 i hi)
theorem sl_eq {g r o o' n n' : Nat} (h1 : o = o') (h2 : n = n') : AV.sl g r o n = AV.sl g r o' n' := by rw [h1, h2]
/-- A system whose rows are parts of one own slice. -/
def slf (k n r a b h : Nat) (i : Nat) : AV := [AV.i k, .i n, .i r, .sl 63 0 0 a, .sl 63 0 a b, .sl 63 0 (a + b) h, .sl 63 0 (a + b + h) h].getD i (.v undef)
theorem slf_ok {k n r a b h : Nat} {U : Nat → Bool} (hU : U 63 = true) : ∀ i, (slf k n r a b h i).ok U
  | 0 | 1 | 2 => trivial
  | 3 | 4 | 5 | 6 => hU
  | _ + 7 => trivial
theorem int_wt {z : Int} (h : 0 ≤ z ∧ z ≤ 200) : wt ((z : Int) : Rat) ≤ 1 := by
  have key : ∀ x : _root_.Fin 201, wt (((x.val : Int) : Int) : Rat) ≤ 1 := by decide +kernel
  have := key ⟨z.toNat, by omega⟩
  rw [show ((z.toNat : Nat) : Int) = z by omega] at this
  exact this
theorem bpart_wt {A : Nat → Rat} {c : Nat} {x : Rat} (hc : c ≤ 100) (hx : wt x ≤ 1) : ∀ r, wt (bpart A c x r) ≤ 1 + 2 * r
  | 0 => by show wt x ≤ _; omega
  | r + 1 => by
    have ih := bpart_wt (A := A) hc hx r
    show wt (if _ then _ else _) ≤ _
    split
    · have h1 := wt_add (bpart A c x r) ((100 + c : Int) : Rat)
      have h2 : wt ((100 + c : Int) : Rat) ≤ 1 := int_wt (by omega)
      omega
    · omega
theorem cn_le {k n r : Nat} (h1 : 1 ≤ k) (h7 : k ≤ 7) (n1 : 1 ≤ n) (n8 : n ≤ 8) (r3 : r ≤ 3) (hr : likeB k = true → 1 ≤ r) : cnA k n ≤ 15 ∧ cnB k n ≤ 8 ∧ cnH k n r ≤ 24 ∧ 0 < cnA k n + cnB k n + 2 * cnH k n r := by
  have hk : k = 1 ∨ k = 2 ∨ k = 3 ∨ k = 4 ∨ k = 5 ∨ k = 6 ∨ k = 7 := by omega
  have hnr : n * r ≤ 8 * 3 := Nat.mul_le_mul n8 r3
  rcases hk with rfl | rfl | rfl | rfl | rfl | rfl | rfl
  · show 2 * n - 1 ≤ 15 ∧ 0 ≤ 8 ∧ 0 ≤ 24 ∧ 0 < 2 * n - 1 + 0 + 2 * 0; omega
  · show 2 * n - 1 ≤ 15 ∧ 0 ≤ 8 ∧ 0 ≤ 24 ∧ 0 < 2 * n - 1 + 0 + 2 * 0; omega
  · show n ≤ 15 ∧ 0 ≤ 8 ∧ 0 ≤ 24 ∧ 0 < n + 0 + 2 * 0; omega
  · show n ≤ 15 ∧ 0 ≤ 8 ∧ 0 ≤ 24 ∧ 0 < n + 0 + 2 * 0; omega
  · show n ≤ 15 ∧ n ≤ 8 ∧ 0 ≤ 24 ∧ 0 < n + n + 2 * 0; omega
  · have : 1 ≤ n * r := Nat.mul_le_mul n1 (hr rfl)
    show 0 ≤ 15 ∧ 0 ≤ 8 ∧ n * r ≤ 24 ∧ 0 < 0 + 0 + 2 * (n * r); omega
  · show n ≤ 15 ∧ n ≤ 8 ∧ n * r ≤ 24 ∧ 0 < n + n + 2 * (n * r); omega
end Go.Proofs.YtdnmoggifjlbiaaGreat.AM
/- Systems that are drawn: they are right. -/
namespace Go.Proofs.YtdnmoggifjlbiaaGreat.AM
open Go Go.RowKit Go.Proofs.YtdnmoggifjlbiaaGreat.PN Go.Proofs.YtdnmoggifjlbiaaGreat.V
open Go.Proofs.YtdnmoggifjlbiaaGreat.LA (S S_succ S_zero S_congr)
set_option linter.unusedVariables false
set_option linter.unusedSimpArgs false
set_option maxRecDepth 8000
set_option maxHeartbeats 8000000
theorem smal_rng : ∀ x : _root_.Fin 41, ∀ y : _root_.Fin 5, -20 ≤ (((x.val : Int) - 20 : Int) : Rat) / ((1 + (y.val : Int) : Int) : Rat) ∧ (((x.val : Int) - 20 : Int) : Rat) / ((1 + (y.val : Int) : Int) : Rat) ≤ 20 := by decide +kernel
theorem smal_le (a : Int) : -20 ≤ smal a ∧ smal a ≤ 20 := by
  obtain ⟨h1, h2⟩ := wthn_lt (a := a) (n := 41) (by decide)
  obtain ⟨h3, h4⟩ := wthn_lt (a := a.tdiv 41) (n := 5) (by decide)
  have := smal_rng ⟨(wthn a 41).toNat, by omega⟩ ⟨(wthn (a.tdiv 41) 5).toNat, by omega⟩
  rw [show (((wthn a 41).toNat : Nat) : Int) = wthn a 41 by omega, show (((wthn (a.tdiv 41) 5).toNat : Nat) : Int) = wthn (a.tdiv 41) 5 by omega] at this
  exact this
theorem far {p x y : Rat} (hp : p ≤ 20) (hx : -20 ≤ x) (hy : 100 ≤ y) : p ≠ x + y := by
  intro e
  have h1 : -20 + y ≤ x + y := Rat.add_le_add_right.2 hx
  have h2 : -20 + 100 ≤ -20 + y := Rat.add_le_add_left.2 hy
  have h3 : (-20 + 100 : Rat) ≤ 20 := Rat.le_trans h2 (Rat.le_trans h1 (by rw [← e]; exact hp))
  exact absurd h3 (by decide +kernel)
theorem hun (c : Nat) : (100 : Rat) ≤ ((100 + c : Int) : Rat) := by
  have : ((100 : Int) : Rat) ≤ ((100 + c : Int) : Rat) := Rat.intCast_le_intCast.2 (by omega)
  exact this
/-- A number of the second row is none of the first row's. -/
theorem bpart_ne {A : Nat → Rat} {c : Nat} {x : Rat} (hA : ∀ i, A i ≤ 20) (hx : -20 ≤ x) : ∀ r, (bpart A c x r = x ∧ ∀ i, i < r → A i ≠ x) ∨ bpart A c x r = x + ((100 + c : Int) : Rat)
  | 0 => .inl ⟨rfl, fun i hi => absurd hi (Nat.not_lt_zero _)⟩
  | r + 1 => by
    show ((if _ then _ else _) = x ∧ _) ∨ (if _ then _ else _) = _
    rcases bpart_ne hA hx r with ⟨h1, h2⟩ | h1
    · rw [h1]
      by_cases e : A r = x
      · rw [if_pos e]; exact .inr rfl
      · rw [if_neg e]
        refine .inl ⟨rfl, fun i hi => ?_⟩
        by_cases h : i = r
        · rw [h]; exact e
        · exact h2 i (by omega)
    · rw [h1, if_neg (far (hA r) hx (hun c))]; exact .inr rfl
theorem bpart_out {A : Nat → Rat} {c n : Nat} {x : Rat} (hA : ∀ i, A i ≤ 20) (hx : -20 ≤ x) {i : Nat} (hi : i < n) : A i ≠ bpart A c x n := by
  rcases bpart_ne (c := c) hA hx n with ⟨h1, h2⟩ | h1
  · rw [h1]; exact h2 i hi
  · rw [h1]; exact far (hA i) hx (hun c)
theorem bpart_wt2 {A : Nat → Rat} {c n : Nat} {x : Rat} (hA : ∀ i, A i ≤ 20) (hx : -20 ≤ x) (hw : wt x ≤ 1) (hc : c ≤ 100) : wt (bpart A c x n) ≤ 3 := by
  rcases bpart_ne (c := c) hA hx n with ⟨h1, _⟩ | h1
  · rw [h1]; omega
  · rw [h1]
    have h1 := wt_add x ((100 + c : Int) : Rat)
    have h2 : wt ((100 + c : Int) : Rat) ≤ 1 := int_wt (by omega)
    omega
theorem mkL_wt {zs : List Int} {a b i : Nat} (hb : b ≤ 100) : wt (mkL zs a b b 0 i) ≤ 4 := by
  have h1 := (rowq_wt zs i).le
  unfold mkL
  split
  · omega
  · split
    · split
      · have := bpart_wt2 (A := rowq zs) (c := i - a) (n := a) (x := rowq zs i) (fun i => (smal_le _).2) (smal_le _).1 h1 (by omega)
        omega
      · split
        · have := bpart_wt2 (A := rowq zs) (c := b) (n := 0) (x := rowq zs i) (fun i => (smal_le _).2) (smal_le _).1 h1 (by omega)
          omega
        · omega
    · omega
theorem len_of {k i l n r : Nat} {x y z : Int} (h0 : mpz (cmap (k : Nat) (i : Nat)) 0 = x) (h1 : mpz (cmap (k : Nat) (i : Nat)) 1 = y) (h2 : mpz (cmap (k : Nat) (i : Nat)) 2 = z) (h : (l : Int) = x * n + y * n * r + z) : (l : Int) = mpz (cmap (k : Nat) (i : Nat)) 0 * n + mpz (cmap (k : Nat) (i : Nat)) 1 * n * r + mpz (cmap (k : Nat) (i : Nat)) 2 := by rw [h0, h1, h2]; exact h
theorem gmk_ok {k n r : Nat} {zs : List Int} (k1 : 1 ≤ k) (k7 : k ≤ 7) (n1 : 1 ≤ n) (n8 : n ≤ 8) (r3 : r ≤ 3) (rk : likeB k = true → 1 ≤ r) (r0 : likeB k = false → r = 0) : (gmk k n r zs).OK := by
  obtain ⟨t0, t1, t2, t3⟩ := cn_le k1 k7 n1 n8 r3 rk
  refine ⟨k1, k7, n1, n8, r3, rk, r0, fun i hi => ?_, ⟨fun i _ => mkL_wt (by omega), fun i _ => mkL_wt (by omega), fun i _ => mkL_wt (by omega), fun i _ => mkL_wt (by omega)⟩, fun i hi j hj => ?_⟩
  · have hk : k = 1 ∨ k = 2 ∨ k = 3 ∨ k = 4 ∨ k = 5 ∨ k = 6 ∨ k = 7 := by omega
    have hi4 : i = 0 ∨ i = 1 ∨ i = 2 ∨ i = 3 := by omega
    have em : ((n * r : Nat) : Int) = (n : Int) * r := Int.natCast_mul n r
    rcases hk with rfl | rfl | rfl | rfl | rfl | rfl | rfl
    · rcases hi4 with rfl | rfl | rfl | rfl
      · exact len_of (k := 1) (i := 0) (n := n) (r := r) (x := 2) (y := 0) (z := (-1)) (by decide) (by decide) (by decide) (by show ((2 * n - 1 : Nat) : Int) = _; omega)
      · exact len_of (k := 1) (i := 1) (n := n) (r := r) (x := 0) (y := 0) (z := 0) (by decide) (by decide) (by decide) (by show ((0 : Nat) : Int) = _; simp)
      · exact len_of (k := 1) (i := 2) (n := n) (r := r) (x := 0) (y := 0) (z := 0) (by decide) (by decide) (by decide) (by show ((0 : Nat) : Int) = _; simp)
      · exact len_of (k := 1) (i := 3) (n := n) (r := r) (x := 0) (y := 0) (z := 0) (by decide) (by decide) (by decide) (by show ((0 : Nat) : Int) = _; simp)
    · rcases hi4 with rfl | rfl | rfl | rfl
      · exact len_of (k := 2) (i := 0) (n := n) (r := r) (x := 2) (y := 0) (z := (-1)) (by decide) (by decide) (by decide) (by show ((2 * n - 1 : Nat) : Int) = _; omega)
      · exact len_of (k := 2) (i := 1) (n := n) (r := r) (x := 0) (y := 0) (z := 0) (by decide) (by decide) (by decide) (by show ((0 : Nat) : Int) = _; simp)
      · exact len_of (k := 2) (i := 2) (n := n) (r := r) (x := 0) (y := 0) (z := 0) (by decide) (by decide) (by decide) (by show ((0 : Nat) : Int) = _; simp)
      · exact len_of (k := 2) (i := 3) (n := n) (r := r) (x := 0) (y := 0) (z := 0) (by decide) (by decide) (by decide) (by show ((0 : Nat) : Int) = _; simp)
    · rcases hi4 with rfl | rfl | rfl | rfl
      · exact len_of (k := 3) (i := 0) (n := n) (r := r) (x := 1) (y := 0) (z := 0) (by decide) (by decide) (by decide) (by show ((n : Nat) : Int) = _; simp)
      · exact len_of (k := 3) (i := 1) (n := n) (r := r) (x := 0) (y := 0) (z := 0) (by decide) (by decide) (by decide) (by show ((0 : Nat) : Int) = _; simp)
      · exact len_of (k := 3) (i := 2) (n := n) (r := r) (x := 0) (y := 0) (z := 0) (by decide) (by decide) (by decide) (by show ((0 : Nat) : Int) = _; simp)
      · exact len_of (k := 3) (i := 3) (n := n) (r := r) (x := 0) (y := 0) (z := 0) (by decide) (by decide) (by decide) (by show ((0 : Nat) : Int) = _; simp)
    · rcases hi4 with rfl | rfl | rfl | rfl
      · exact len_of (k := 4) (i := 0) (n := n) (r := r) (x := 1) (y := 0) (z := 0) (by decide) (by decide) (by decide) (by show ((n : Nat) : Int) = _; simp)
      · exact len_of (k := 4) (i := 1) (n := n) (r := r) (x := 0) (y := 0) (z := 0) (by decide) (by decide) (by decide) (by show ((0 : Nat) : Int) = _; simp)
      · exact len_of (k := 4) (i := 2) (n := n) (r := r) (x := 0) (y := 0) (z := 0) (by decide) (by decide) (by decide) (by show ((0 : Nat) : Int) = _; simp)
      · exact len_of (k := 4) (i := 3) (n := n) (r := r) (x := 0) (y := 0) (z := 0) (by decide) (by decide) (by decide) (by show ((0 : Nat) : Int) = _; simp)
    · rcases hi4 with rfl | rfl | rfl | rfl
      · exact len_of (k := 5) (i := 0) (n := n) (r := r) (x := 1) (y := 0) (z := 0) (by decide) (by decide) (by decide) (by show ((n : Nat) : Int) = _; simp)
      · exact len_of (k := 5) (i := 1) (n := n) (r := r) (x := 1) (y := 0) (z := 0) (by decide) (by decide) (by decide) (by show ((n : Nat) : Int) = _; simp)
      · exact len_of (k := 5) (i := 2) (n := n) (r := r) (x := 0) (y := 0) (z := 0) (by decide) (by decide) (by decide) (by show ((0 : Nat) : Int) = _; simp)
      · exact len_of (k := 5) (i := 3) (n := n) (r := r) (x := 0) (y := 0) (z := 0) (by decide) (by decide) (by decide) (by show ((0 : Nat) : Int) = _; simp)
    · rcases hi4 with rfl | rfl | rfl | rfl
      · exact len_of (k := 6) (i := 0) (n := n) (r := r) (x := 0) (y := 0) (z := 0) (by decide) (by decide) (by decide) (by show ((0 : Nat) : Int) = _; simp)
      · exact len_of (k := 6) (i := 1) (n := n) (r := r) (x := 0) (y := 0) (z := 0) (by decide) (by decide) (by decide) (by show ((0 : Nat) : Int) = _; simp)
      · exact len_of (k := 6) (i := 2) (n := n) (r := r) (x := 0) (y := 1) (z := 0) (by decide) (by decide) (by decide) (by show ((n * r : Nat) : Int) = _; rw [em]; simp)
      · exact len_of (k := 6) (i := 3) (n := n) (r := r) (x := 0) (y := 1) (z := 0) (by decide) (by decide) (by decide) (by show ((n * r : Nat) : Int) = _; rw [em]; simp)
    · rcases hi4 with rfl | rfl | rfl | rfl
      · exact len_of (k := 7) (i := 0) (n := n) (r := r) (x := 1) (y := 0) (z := 0) (by decide) (by decide) (by decide) (by show ((n : Nat) : Int) = _; simp)
      · exact len_of (k := 7) (i := 1) (n := n) (r := r) (x := 1) (y := 0) (z := 0) (by decide) (by decide) (by decide) (by show ((n : Nat) : Int) = _; simp)
      · exact len_of (k := 7) (i := 2) (n := n) (r := r) (x := 0) (y := 1) (z := 0) (by decide) (by decide) (by decide) (by show ((n * r : Nat) : Int) = _; rw [em]; simp)
      · exact len_of (k := 7) (i := 3) (n := n) (r := r) (x := 0) (y := 1) (z := 0) (by decide) (by decide) (by decide) (by show ((n * r : Nat) : Int) = _; rw [em]; simp)
  · have hi : i < cnA k n := hi
    have hj : j < cnB k n := hj
    show mkL zs (cnA k n) (cnB k n) (cnB k n) 0 (0 + i) ≠ mkL zs (cnA k n) (cnB k n) (cnB k n) 0 (cnA k n + j)
    rw [Nat.zero_add, mkL_A hi]
    have e : mkL zs (cnA k n) (cnB k n) (cnB k n) 0 (cnA k n + j) = bpart (rowq zs) j (rowq zs (cnA k n + j)) (cnA k n) := by
      unfold mkL
      rw [if_neg (by omega), if_pos (by omega), if_pos (by omega), Nat.add_sub_cancel_left]
    rw [e]
    exact bpart_out (fun i => (smal_le _).2) (smal_le _).1 hi
theorem mkg_ok {kind n most : Int} {zs : List Int} (m1 : 1 ≤ most) (m8 : most ≤ 8) : (mkg kind n zs most).OK := by
  obtain ⟨a1, a2⟩ := wthn_lt (a := kind) (n := 7) (by decide)
  obtain ⟨b1, b2⟩ := wthn_lt (a := n) (n := most) (by omega)
  obtain ⟨c1, c2⟩ := wthn_lt (a := n.tdiv 8) (n := 2) (by decide)
  have eK : 1 + wthn kind 7 = ((mkK kind : Nat) : Int) := by unfold mkK; omega
  have eN : 1 + wthn n most = ((mkN n most : Nat) : Int) := by unfold mkN; omega
  refine gmk_ok (by omega) (by omega) (by omega) (by omega) ?_ (fun h => ?_) (fun h => ?_)
  · unfold mkR; split <;> omega
  · unfold mkR; rw [if_pos h]; omega
  · unfold mkR; rw [if_neg (by rw [h]; decide)]
end Go.Proofs.YtdnmoggifjlbiaaGreat.AM
/- Laws of systems: entries' weights; matrices of drawn systems. -/
namespace Go.Proofs.YtdnmoggifjlbiaaGreat.AM
open Go Go.RowKit Go.Proofs.YtdnmoggifjlbiaaGreat.PN Go.Proofs.YtdnmoggifjlbiaaGreat.V
open Go.Proofs.YtdnmoggifjlbiaaGreat.LA (S S_succ S_zero S_congr)
set_option linter.unusedVariables false
set_option linter.unusedSimpArgs false
set_option maxRecDepth 8000
set_option maxHeartbeats 8000000
theorem GD.ftok (g : GD) (U : Nat → Bool) : ∀ i, (g.ft i).ok U
  | 0 | 1 | 2 | 3 | 4 | 5 | 6 => trivial
  | _ + 7 => trivial
theorem le7 {σ : Ren} {T : TypeId} {f f' : Nat → AV} (h0 : Le σ (f 0) (f' 0)) (h1 : Le σ (f 1) (f' 1)) (h2 : Le σ (f 2) (f' 2)) (h3 : Le σ (f 3) (f' 3)) (h4 : Le σ (f 4) (f' 4)) (h5 : Le σ (f 5) (f' 5)) (h6 : Le σ (f 6) (f' 6)) : BLe σ (.ones T 7 f) (.ones T 7 f') :=
  bleo rfl fun i hi => by
    match i, hi with
    | 0, _ => exact h0
    | 1, _ => exact h1
    | 2, _ => exact h2
    | 3, _ => exact h3
    | 4, _ => exact h4
    | 5, _ => exact h5
    | 6, _ => exact h6
theorem GD.le_ft (g : GD) {σ : Ren} {T : TypeId} : BLe σ (.ones T 7 g.ft) (.ones T 7 g.ft) := le7 (Le.eq rfl rfl) (Le.eq rfl rfl) (Le.eq rfl rfl) (Le.eq rfl rfl) (Le.eq rfl rfl) (Le.eq rfl rfl) (Le.eq rfl rfl)
theorem pow_wt {p : Rat} (hp : wt p ≤ 4) : ∀ k, wt (p ^ k) ≤ 4 * k + 1 := by
  intro k
  induction k with
  | zero => rw [Rat.pow_zero]; decide
  | succ k ih => rw [Rat.pow_succ]; have := wt_mul (p ^ k) p; omega
theorem gent_wt {g : GD} (h : g.OK) {i j : Nat} (hi : i < g.n) (hj : j < g.n) : wt (gent g i j) ≤ 300 := by
  have n8 := h.n8; have r3 := h.r3; have k1 := h.k1; have k7 := h.k7; have sm := h.sm
  obtain ⟨m1, m2, m3, m4⟩ := ok_lens h
  have hk : g.k = 1 ∨ g.k = 2 ∨ g.k = 3 ∨ g.k = 4 ∨ g.k = 5 ∨ g.k = 6 ∨ g.k = 7 := by omega
  have row : ∀ u, u < g.n → u * g.r + g.r ≤ g.n * g.r := fun u hu => by rw [← Nat.succ_mul]; exact Nat.mul_le_mul_right _ hu
  have hne : g.k = 5 ∨ g.k = 7 → g.A i - g.B j ≠ 0 := fun hk e => h.ne i (by omega) j (by omega) (by rw [← Rat.sub_add_cancel (a := g.A i) (b := g.B j), e, Rat.zero_add])
  unfold gent
  rcases hk with hk | hk | hk | hk | hk | hk | hk
  · rw [hk]; have := sm.A (i + g.n - 1 - j) (by omega); show wt (g.A (i + g.n - 1 - j)) ≤ 300; omega
  · rw [hk]; have := sm.A (i + j) (by omega); show wt (g.A (i + j)) ≤ 300; omega
  · have hlt : (i + g.n - j) % g.n < g.n := Nat.mod_lt _ (by omega)
    rw [hk]; have := sm.A ((i + g.n - j) % g.n) (by omega); show wt (g.A ((i + g.n - j) % g.n)) ≤ 300; omega
  · rw [hk]; have := pow_wt (sm.A i (by omega)) j; show wt (g.A i ^ j) ≤ 300; omega
  · have h1 := wt_div 1 (g.A i - g.B j) (hne (.inl hk)); have h2 := wt_sub (g.A i) (g.B j); have h3 := sm.A i (by omega); have h4 := sm.B j (by omega)
    have h5 : wt 1 ≤ 1 := by decide
    rw [hk]; show wt (1 / (g.A i - g.B j)) ≤ 300; omega
  · obtain ⟨hg, hh⟩ := m4 (.inl hk)
    have := wt_sum (n := min i j + 1) (K := 28) (f := fun m => rdot g (i - m) (j - m)) fun u hu => by
      have h1 := row (i - u) (by omega); have h2 := row (j - u) (by omega)
      exact rdot_wt sm (by omega) (by omega) r3
    rw [hk]; show wt (S (min i j + 1) fun m => rdot g (i - m) (j - m)) ≤ 300; omega
  · obtain ⟨hg, hh⟩ := m4 (.inr hk)
    have h0 := row i hi; have h0' := row j hj
    have h1 := wt_div (rdot g i j) (g.A i - g.B j) (hne (.inr hk)); have h2 := wt_sub (g.A i) (g.B j); have h3 := sm.A i (by omega); have h4 := sm.B j (by omega)
    have h5 := rdot_wt (i := i) (j := j) sm (by omega) (by omega) r3
    rw [hk]; show wt (rdot g i j / (g.A i - g.B j)) ≤ 300; omega
end Go.Proofs.YtdnmoggifjlbiaaGreat.AM
/- Package turned: copies of numbers. -/
namespace Go.Proofs.YtdnmoggifjlbiaaGreat.AM
open Go Go.RowKit Go.Proofs.YtdnmoggifjlbiaaGreat.PN Go.Proofs.YtdnmoggifjlbiaaGreat.V
set_option linter.unusedVariables false
set_option linter.unusedSimpArgs false
set_option maxRecDepth 8000
set_option maxHeartbeats 8000000
/-- Whether limbs are none. -/
def nilOf2 : AV → Option (Bool × Prop)
  | .nat n => some (false, 0 < size n)
  | .v (.slice A _ _) => some (A.isNone, True)
  | _ => none
theorem nilOf2_ok {S : Nat → Prop} {B : Nat} {β : Nat → Nat → Value} {w : World} {x : AV} {v : Value} {b : Bool} {c : Prop} (h : RV S B β w x v) (hn : nilOf2 x = some (b, c)) (hc : c) : ∃ A n k, v = .slice A n k ∧ A.isNone = b := by
  unfold nilOf2 at hn
  split at hn
  · cases hn
    obtain ⟨A, k, e, _, hx⟩ := (h : NatS _ _ _ _)
    obtain ⟨b, off, cs, hA, _⟩ := hx 0 hc
    exact ⟨A, _, k, e, by rw [hA]; rfl⟩
  · cases hn
    exact ⟨_, _, _, h, rfl⟩
  · cases hn
section
variable {ops : Array Oper} {l : List Oper} {s : St} {acc : List Fp} {K : St → List Fp → Prop} {d : Option Tmp} {ty : TypeId} {ps : String} {aft : Array Edge}
theorem ok_eqnil2 {o : Oper} {s : St} {x : Operand} {T T' E : TypeId} {y : AV} {b : Bool} {c : Prop} (ho : o.op = .binOp .eql T x (.const (.slice none 0 0)) T') (hE : Tryz.prog.underlying T = some (.slice E)) (hx : avo s x = some y) (hn : nilOf2 y = some (b, c)) (hc : c) : LOK Tryz.prog o s ⟨some (.v (.bool b)), [], []⟩ := by
  refine lok_val fun s2 hl W N β w ac hs => ⟨.bool b, ?_, fun z hz => by cases hz; exact ⟨trivial, rfl⟩⟩
  obtain ⟨A, n, k, e, hb⟩ := nilOf2_ok (hs.opd (x := x) (by rw [hl.avo (by rw [ho]; simp [Op.operands])]; exact hx)).2 hn hc
  have h2 : ac.eval (.const (.slice none 0 0)) = .slice none 0 0 := rfl
  unfold execOp; rw [ho]; simp only []; rw [e, h2]
  have hg : (eqGuard .eql T x (.const (.slice none 0 0)) (.slice A n k) (.slice none 0 0)).run Tryz.prog w = .ok () w := by simp [eqGuard]
  have hb2 : (binOp .eql T (.slice A n k) (.slice none 0 0)).run Tryz.prog w = .ok (.bool b) w := by
    simp only [binOp, Sem.run_bind, run_eq_slice hE]
    rw [← hb]; rfl
  simp only [Sem.run_bind, hg, Result.andThen_ok, hb2]; rfl
theorem ok_app00 {o : Oper} {s : St} {x y : Operand} {A : Option Addr} {c : Nat} (ho : o.op = .call { callee := .builtin .append, args := #[x, y], argTypes := #[37, 37] }) (hx : avo s x = some .e0) (hy : avo s y = some (.v (.slice A 0 c))) : LOK Tryz.prog o s ⟨some (.nat 0), [], []⟩ := by
  refine lok_kept fun s2 hl W N β w a hsim K Q hK => ?_
  obtain ⟨_, g, h1, hr⟩ := hsim.opd (x := x) (by rw [hl.avo (by rw [ho]; simp [Op.operands, Call.operands])]; exact hx)
  obtain ⟨_, h2⟩ := hsim.opd (x := y) (by rw [hl.avo (by rw [ho]; simp [Op.operands, Call.operands])]; exact hy)
  have h2 : a.eval y = .slice A 0 c := h2
  have h3 : NatS w (fun _ => True) (a.eval y) 0 := ⟨A, c, h2, Nat.zero_le _, fun i hi => absurd hi (Nat.not_lt_zero _)⟩
  obtain ⟨v', w', hrun, hk, hv⟩ := run_app0 hr h3 (by decide) o.type
  have he : (execOp a.eval o).run Tryz.prog w = .ok (.value v') w' := by
    unfold execOp; rw [ho]; simp only [resolve, List.map_toArray, List.map_cons, List.map_nil]; rw [h1]
    simp only [Sem.run_bind, Sem.run_pure, Result.andThen_ok, invoke, builtin, hrun]
  unfold Oper.wp
  rw [he]
  exact hK _ _ hk fun x hx => by cases hx; exact ⟨trivial, hv⟩
end
theorem cl_u : Tryz.prog.underlying 37 = some (.slice U32) := Tryz.underlying37
theorem cl_v (A : Option Addr) (c : Nat) : Has Tryz.prog 126 [.v (.slice A 0 c)] (.nat 0) := by
  refine Has.imp (r := if A.isNone then .v (.slice none 0 0) else .nat 0) ?_ rfl (fun S B β w v hv => ?_)
  · refine has_of Tryz.func126 (by kernel_rfl) rfl Tryz.ntmps126 Tryz.results126 rfl (by split <;> rfl) rfl ?_
    refine run2 ?_
    refine run3 ?_
    refine st_ev rfl True.intro ?_
    refine st_lok (ok_eqnil2 rfl cl_u rfl rfl True.intro) ?_
    cases A with
    | none =>
      refine run0 ?_
      refine awp_yes rfl rfl ?_
      refine run0 ?_
      exact ⟨.inr rfl, _, Imp.refl _, .one (.tmp rfl)⟩
    | some a =>
      refine run0 ?_
      refine awp_no rfl rfl ?_
      refine run3 ?_
      refine st_build0 ?_
      refine st_ev rfl True.intro ?_
      refine st_lok (ok_app00 rfl rfl rfl) ?_
      refine run0 ?_
      exact ⟨.inr rfl, _, Imp.refl _, .one (.tmp rfl)⟩
  · split at hv
    · exact ⟨none, 0, hv, Nat.le_refl _, fun i hi => absurd hi (Nat.not_lt_zero _)⟩
    · exact hv
theorem h_clone {n : Nat} (hs : size n ≤ 1000000000000) : Has Tryz.prog 126 [.nat n] (.nat n) := by
  by_cases h0 : size n = 0
  · have hn : n = 0 := by have := size_eq_zero (s := n); omega
    subst hn
    refine ⟨by kernel_rfl, trivial, fun w S β vs hv => ?_⟩
    obtain ⟨v, rfl, A, c, rfl, _, _⟩ := rvs1 hv
    exact (cl_v A c).run w S β _ ⟨rfl, fun i x v hx hv => by
      cases i with
      | zero => cases hx; cases hv; rfl
      | succ i => cases hx⟩
  · refine has_of Tryz.func126 (by kernel_rfl) rfl Tryz.ntmps126 Tryz.results126 rfl rfl rfl ?_
    refine run2 ?_
    refine run3 ?_
    refine st_ev rfl True.intro ?_
    refine st_lok (ok_eqnil2 rfl cl_u rfl rfl (by omega)) ?_
    refine run0 ?_
    refine awp_no rfl rfl ?_
    refine run0 ?_
    exact ⟨.inr rfl, _, Imp.refl _, .one (.tmp rfl)⟩
theorem t_own {n : Nat} {f : Nat → Rat} (b : Bool) (hf : ∀ i, i < n → wt (f i) ≤ 100000) (hn : n ≤ 100) : Has Tryz.prog 87 [.row false n (fun i => .q (f i))] (if b then .rowx n (fun i => .q (f i)) else .row true n (fun i => .q (f i))) := by
  have hcl : (if b then AV.rowx n (fun i => .q (f i)) else .row true n (fun i => .q (f i))).closed = true := by cases b <;> rfl
  refine has_of Tryz.func87 (by kernel_rfl) rfl Tryz.ntmps87 Tryz.results87 rfl hcl rfl ?_
  refine run2 ?_
  refine run3 ?_
  refine st_ev rfl True.intro ?_
  refine st_ev rfl True.intro ?_
  refine st_lok (ok_make_ratx (g := 8) rfl rfl rfl (by omega) (by omega)) ?_
  repeat(first|(with_reducible first|refine awp_seq ?_|refine awp_block ?_|refine awp_skip ?_|refine awp_exit ?_|refine awp_ret ?_|refine q_then ?_|refine q_block ?_|refine q_then_exit ?_|refine q_then_ret ?_|refine q_block_exit ?_|refine q_block_ret ?_|refine q_loop_exit ?_|refine q_loop_ret ?_)|((with_reducible refine q_block_other ?_ ?_);exact rfl))
  refine run0 ?_
  refine st_lok (ok_clear rfl rfl rfl rfl (by decide) rfl) ?_
  refine run0 ?_
  refine awp_loop (fun m' s => ∃ k, k ≤ n ∧ m' = n - k ∧ s = stl [(3, .own 8 0), (8, .ownx 8 0), (10, .row false n fun i => .q (f i)), (11, .i n), (12, .i (k : Int))] [(8, (1, fun _ => .rats n (grow (fun i => .q (f i)) ra0 k)))]) n _ (imp_id ?_ ?_) ⟨0, Nat.zero_le _, rfl, rfl⟩ ?_
  · exact alle rfl (Le.ownx_own rfl) rfl (alle rfl (Le.ownx rfl) rfl (by exact eA))
  · exact allh rfl (by decide) (blen rfl fun i hi => rfl) True.intro True.intro
  rintro m' s ⟨k, hk, rfl, rfl⟩
  refine run0 ?_
  refine awp_if rfl (fun h => ?_) (fun h => ?_)
  · have h : k < n := by omega
    have w1 := hf k h; have b1 := wt_num (f k); have b2 := wt_den (f k)
    repeat(first|refine run1 ?_|((with_reducible apply st_call);exact rfl;exact rfl;exact rfl;first|(exact h_clone (n := nm (f k)) (by omega))|(exact h_clone (n := (f k).den) (by omega)))|((with_reducible apply st_callg);exact rfl;exact rfl;(first|exact rfl|assumption);exact rfl;exact rfl;exact rfl;first|(exact h_clone (n := nm (f k)) (by omega))|(exact h_clone (n := (f k).den) (by omega))))
    with_reducible apply st_lok
    · exact ok_build_num (f k) rfl rfl rfl rfl rfl rfl rfl rfl rfl
    refine run0 ?_
    refine q_loop ?_ (imp_id ?_ ?_) ⟨k + 1, ?_, rfl, rfl⟩
    · omega
    · exact alle rfl (Le.id rfl) rfl (alle rfl (Le.id rfl) rfl (by exact eA))
    · exact allh rfl (by decide) (blen rfl fun i hi => grow_step _ _ k i) True.intro True.intro
    · omega
  · obtain rfl : k = n := by omega
    refine run0 ?_
    cases b with
    | true => exact ⟨.inr rfl, _, imp_rowx 2 8 (fun i => .q (f i)) rfl rfl rfl rfl (fun i hi => grow_full _ _ hi), .one (.tmp rfl)⟩
    | false => exact ⟨.inr rfl, _, imp_rowv 2 (fun i => .q (f i)) rfl rfl rfl (fun i hi => grow_full _ _ hi), .one (.tmp rfl)⟩
end Go.Proofs.YtdnmoggifjlbiaaGreat.AM
/- Laws of systems: what is known. -/
namespace Go.Proofs.YtdnmoggifjlbiaaGreat.AM
open Go Go.RowKit Go.Proofs.YtdnmoggifjlbiaaGreat.PN Go.Proofs.YtdnmoggifjlbiaaGreat.V
open Go.Proofs.YtdnmoggifjlbiaaGreat.LA (S S_succ S_zero S_congr)
set_option linter.unusedVariables false
set_option linter.unusedSimpArgs false
set_option maxRecDepth 8000
set_option maxHeartbeats 8000000
theorem rv_agv {S : Nat → Prop} {B : Nat} {β : Nat → Nat → Value} {w : World} {n : Nat} {f f' : Nat → AV} (h : ∀ i, i < n → ∀ v, RV S B β w (f i) v → RV S B β w (f' i) v) (v : Value) (hv : RV S B β w (.ag n f) v) : RV S B β w (.ag n f') v := by
  obtain ⟨cs, e1, e2, e3⟩ := hv
  refine ⟨cs, e1, e2, fun i hi => ?_⟩
  obtain ⟨y, a0, a1, a2⟩ := e3 i hi
  exact ⟨y, a0, a1, h i hi y a2⟩
theorem Has.agv {P : Program} {f : FuncId} {n : Nat} {u u' : Nat → AV} {xs : List AV} {r : AV} (h : ∀ S B β w i, i < n → ∀ v, RV S B β w (u i) v → RV S B β w (u' i) v) (H : Has P f (.ag n u' :: xs) r) : Has P f (.ag n u :: xs) r :=
  Has.args H fun S B β w vs hv => rvs_cons (rv_agv (h S B β w)) rvs_same hv
theorem rv_nil0 {S : Nat → Prop} {B : Nat} {β : Nat → Nat → Value} {w : World} {f : Nat → RA} (v : Value) (hv : RV S B β w (.v (.slice none 0 0)) v) : RV S B β w (.row false 0 f) v :=
  ⟨none, 0, hv, Nat.le_refl _, Nat.zero_le _, fun i hi => absurd hi (Nat.not_lt_zero _)⟩
def kg : GD := ⟨3, 1, 0, 1, 0, 0, 0, fun _ => 5, fun _ => 0, fun _ => 0, fun _ => 0⟩
end Go.Proofs.YtdnmoggifjlbiaaGreat.AM

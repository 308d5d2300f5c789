/- Joined texts, 20: Sml LawB LawC DnH DnI LawA LawD PRing LawE LawH PBt PBits LawI LawJ PDet PLev RowO. -/
import Derived.Test.YtddkocidfhaofaaJ14
import Derived.Test.YtddkocidfhaofaaJ19
import Derived.Test.YtddkocidfhaofaaJ13
set_option linter.unusedVariables false
set_option linter.unusedSimpArgs false
/- Small numbers that are drawn: walked. -/
namespace Go.Proofs.Ytddkocidfhaofaa.AM
open Go Go.RowKit Go.Proofs.Ytddkocidfhaofaa.PN Go.Proofs.Ytddkocidfhaofaa.V
open Go.Proofs.Ytddkocidfhaofaa.LA (S S_succ S_zero S_congr)
set_option linter.unusedVariables false
set_option linter.unusedSimpArgs false
set_option maxRecDepth 4000
set_option maxHeartbeats 4000000
/-! ### Numbers that are drawn -/
theorem hs_of (n d : Int) (h1 : -9223372036854775808 ≤ n) (h2 : n < 9223372036854775808) (h3 : 0 < d) (h4 : d < 9223372036854775808) : Has Try.prog 18 [.i n, .i d] (.tup (.q ((n : Rat) / (d : Rat))) (.i 0)) := by
  refine ⟨by kernel_rfl, ⟨trivial, trivial⟩, fun w S β vs hv => ?_⟩
  obtain ⟨v, u, rfl, e1, e2⟩ := rvs2 hv
  have e1 : v = .int .i64 n := e1
  have e2 : u = .int .i64 d := e2
  subst e1; subst e2
  refine (s_of n d w h1 h2 (by omega) h4 (by omega)).mono ?_
  rintro e w' ⟨s, vn, vd, rfl, h1, h2⟩
  refine ⟨_, rfl, h2, _, _, rfl, ?_, rfl⟩
  have hq : mk (decide (n < 0) != decide (d < 0)) n.natAbs d.natAbs = (n : Rat) / (d : Rat) := by
    have h5 : (decide (n < 0) != decide (d < 0)) = decide (n < 0) := by rw [decide_eq_false (show ¬ d < 0 by omega)]; simp
    rw [h5]
    have h6 : PN.sg (decide (n < 0)) n.natAbs = n := by
      unfold PN.sg
      by_cases h : n < 0
      · rw [decide_eq_true h]; simp; omega
      · rw [decide_eq_false h]; simp; omega
    unfold mk
    rw [h6, Rat.mkRat_eq_div]
    have h7 : ((d.natAbs : Nat) : Int) = d := by omega
    rw [show ((d.natAbs : Nat) : Rat) = (((d.natAbs : Nat) : Int) : Rat) from rfl, h7]
  rw [← hq]
  exact rat_rv h1
/-- A number from 0 to n - 1. -/
def wthn (a n : Int) : Int := if a.tmod n < 0 then a.tmod n + n else a.tmod n
theorem wthn_lt {a n : Int} (hn : 0 < n) : 0 ≤ wthn a n ∧ wthn a n < n := by
  unfold wthn
  have h1 := Int.tmod_lt_of_pos a hn
  have h2 : -n < a.tmod n := Int.lt_tmod_of_pos a hn
  split <;> omega
theorem k_within2 {a n : Int} (hn : 0 < n) (hn' : n < 1000000000) : Has Try.prog 20 [.i a, .i n] (.i (wthn a n)) := by
  refine has_of Try.func20 (by kernel_rfl) rfl Try.ntmps20 Try.results20 rfl rfl rfl ?_
  have h1 := Int.tmod_lt_of_pos a hn
  have h2 : -n < a.tmod n := Int.lt_tmod_of_pos a hn
  refine run0 ?_
  refine awp_if rfl (fun h => ?_) (fun h => ?_)
  · have e : wthn a n = a.tmod n + n := if_pos h
    rw [e]
    refine run0 ?_
    refine ⟨.inr rfl, _, Imp.refl _, ?_⟩
    exact .one (.tmp rfl)
  · have e : wthn a n = a.tmod n := if_neg h
    rw [e]
    refine run0 ?_
    refine ⟨.inr rfl, _, Imp.refl _, ?_⟩
    exact .one (.tmp rfl)
/-- A small number. -/
def smal (a : Int) : Rat := ((wthn a 41 - 20 : Int) : Rat) / ((1 + wthn (a.tdiv 41) 5 : Int) : Rat)
theorem smal_key : ∀ x : _root_.Fin 41, ∀ y : _root_.Fin 5, wt ((((x.val : Int) - 20 : Int) : Rat) / ((1 + (y.val : Int) : Int) : Rat)) ≤ 1 := by decide +kernel
instance smal_wt (a : Int) : Wt (smal a) 1 := ⟨by
  obtain ⟨h1, h2⟩ := wthn_lt (a := a) (n := 41) (by decide)
  obtain ⟨h3, h4⟩ := wthn_lt (a := a.tdiv 41) (n := 5) (by decide)
  have := smal_key ⟨(wthn a 41).toNat, by omega⟩ ⟨(wthn (a.tdiv 41) 5).toNat, by omega⟩
  rw [show (((wthn a 41).toNat : Nat) : Int) = wthn a 41 by omega, show (((wthn (a.tdiv 41) 5).toNat : Nat) : Int) = wthn (a.tdiv 41) 5 by omega] at this
  exact this⟩
theorem k_small {a : Int} (ha : Fits .i64 a) : Has Try.prog 9 [.i a] (.q (smal a)) := by
  refine has_of Try.func9 (by kernel_rfl) rfl Try.ntmps9 Try.results9 rfl rfl rfl ?_
  obtain ⟨h1, h2⟩ := wthn_lt (a := a) (n := 41) (by decide)
  obtain ⟨h3, h4⟩ := wthn_lt (a := a.tdiv 41) (n := 5) (by decide)
  have hf : -9223372036854775808 ≤ a ∧ a ≤ 9223372036854775807 := ha
  have h5 : Fits .i64 (a.tdiv 41) := by
    have e1 : (a.tdiv 41).natAbs = a.natAbs / 41 := Int.natAbs_tdiv a 41
    show -9223372036854775808 ≤ _ ∧ _ ≤ (9223372036854775807 : Int)
    omega
  obtain ⟨h5a, h5b⟩ : -9223372036854775808 ≤ a.tdiv 41 ∧ a.tdiv 41 ≤ 9223372036854775807 := h5
  repeat(first|refine run1 ?_|((with_reducible apply st_call);exact rfl;exact rfl;exact rfl;first|(exact k_within2 (by decide) (by decide))|(exact hs_of _ _ (by omega) (by omega) (by omega) (by omega)))|((with_reducible apply st_callg);exact rfl;exact rfl;(first|exact rfl|assumption);exact rfl;exact rfl;exact rfl;first|(exact k_within2 (by decide) (by decide))|(exact hs_of _ _ (by omega) (by omega) (by omega) (by omega))))
  refine ⟨.inr rfl, _, Imp.refl _, ?_⟩
  exact .one (.rat rfl rfl (by decide) rfl (by decide) rfl)
end Go.Proofs.Ytddkocidfhaofaa.AM
/- Laws of dense matrices: walks: rows of numbers. -/
namespace Go.Proofs.Ytddkocidfhaofaa.AM
open Go Go.RowKit Go.Proofs.Ytddkocidfhaofaa.PN Go.Proofs.Ytddkocidfhaofaa.V
open Go.Proofs.Ytddkocidfhaofaa.LA (S S_succ S_zero S_congr)
set_option linter.unusedVariables false
set_option linter.unusedSimpArgs false
set_option maxRecDepth 4000
set_option maxHeartbeats 4000000
/-- What a list of whole numbers says at a place. -/
def rowx (zs : List Int) (i : Nat) : Int := if i < zs.length then zs.getD i 0 else 3 * i + 1
def rowq (zs : List Int) (i : Nat) : Rat := smal (rowx zs i)
instance rowq_wt (zs : List Int) (i : Nat) : Wt (rowq zs i) 1 := smal_wt _
def rowS (e : List (Nat × AV)) (v : Nat → RA) : Nat → St
  | 0 => stl ((5, .v (.slice none 0 0)) :: e) []
  | k + 1 => stl ((5, .own 5 0) :: e) [(5, (1, fun _ => .rats (k + 1) v))]
theorem row_close {s : St} {e : List (Nat × AV)} {k : Nat} {v f : Nat → RA} {F : Nat → Blk} {a : Nat} (h5 : s.env 5 = some (.own a 0)) (ha : s.heap a = some (1, F)) (hF : F 0 = .rats (k + 1) f) (hf : ∀ i, i < k + 1 → f i = v i) (h60 : s.used 60 = false) (he : AllE s (s1 5 a) (fun g => memN g [5]) e) : Imp s (rowS e v (k + 1)) := by
  refine imp_stl (h := [(5, (1, fun _ => .rats (k + 1) v))]) (s1 5 a) (fun h => by rw [h60] at h; cases h) (fun g r g' r' h1 h2 => s1_inj 5 a g r g' r' h1 h2) ⟨⟨_, h5, Le.own (by unfold s1; rw [if_pos rfl]), rfl⟩, he⟩ ⟨fun r hr => ?_, trivial⟩ (by rw [h60]; rfl)
  obtain rfl : r = 0 := by omega
  have e1 : s1 5 a 5 0 = (a, 0) := by unfold s1; rw [if_pos rfl]
  rw [e1]
  refine ⟨1, F, ha, Nat.zero_lt_one, ?_, trivial⟩
  show BLe _ (F 0) _
  rw [hF]; exact blen rfl hf
theorem k_row {zs : List Int} {n : Nat} (hn : n ≤ 1000) (hz : ∀ i, i < zs.length → Fits .i64 (zs.getD i 0)) : Has Try.prog 8 [.seq .i64 zs, .i n] (.row true n (fun i => .q (rowq zs i))) := by
  refine has_of Try.func8 (by kernel_rfl) rfl Try.ntmps8 Try.results8 rfl rfl rfl ?_
  refine run0 ?_
  refine awp_loop (fun m s => ∃ k, k ≤ n ∧ m = n - k ∧ s = rowS [(0, .seq .i64 zs), (1, .i n), (6, .i (k : Int))] (fun i => .q (rowq zs i)) k) n _ (imp_id (h := []) (e := [(5, .v (.slice none 0 0)), (0, .seq .i64 zs), (1, .i n), (6, .i ((0 : Nat) : Int))]) ?_ ?_) ⟨0, Nat.zero_le _, rfl, rfl⟩ ?_
  · exact eA
  · exact True.intro
  · rintro m s ⟨k, hk, rfl, rfl⟩
    have hx : ∀ k : Nat, k < zs.length → rowx zs k = zs.getD k 0 := fun k h => if_pos h
    have hy : ∀ k : Nat, ¬ k < zs.length → rowx zs k = 3 * (k : Int) + 1 := fun k h => if_neg h
    rcases k with _ | k
    · refine run0 ?_
      refine awp_if rfl (fun h => ?_) (fun h => ?_)
      · have h : 0 < n := by omega
        refine run0 ?_
        refine awp_if rfl (fun h1 => ?_) (fun h1 => ?_)
        · have h1' : (((0 : Nat) : Int)) < (zs.length : Int) := h1
          have h1 : 0 < zs.length := by omega
          have hf := hz 0 h1
          repeat(first|refine run1 ?_|((with_reducible apply st_call);exact rfl;exact rfl;exact rfl;first|(exact k_small hf))|((with_reducible apply st_callg);exact rfl;exact rfl;(first|exact rfl|assumption);exact rfl;exact rfl;exact rfl;first|(exact k_small hf)))
          refine q_loop ?_ (row_close (k := 0) (a := 28) rfl rfl rfl ?_ rfl ?_) ⟨0 + 1, ?_, rfl, rfl⟩
          · omega
          · intro i hi
            obtain rfl : i = 0 := by omega
            exact congrArg (fun x => RA.q (smal x)) (hx 0 h1).symm
          · refine alle rfl (Le.eq rfl rfl) True.intro (alle rfl (Le.eq rfl rfl) True.intro (alle rfl (Le.eq rfl rfl) True.intro True.intro))
          · omega
        · have h1' : ¬ (((0 : Nat) : Int)) < (zs.length : Int) := h1
          have h1 : ¬ 0 < zs.length := by omega
          have hf : Fits .i64 (3 * ((0 : Nat) : Int) + 1) := by show _ ∧ _; omega
          repeat(first|refine run1 ?_|((with_reducible apply st_call);exact rfl;exact rfl;exact rfl;first|(exact k_small hf))|((with_reducible apply st_callg);exact rfl;exact rfl;(first|exact rfl|assumption);exact rfl;exact rfl;exact rfl;first|(exact k_small hf)))
          refine q_loop ?_ (row_close (k := 0) (a := 28) rfl rfl rfl ?_ rfl ?_) ⟨0 + 1, ?_, rfl, rfl⟩
          · omega
          · intro i hi
            obtain rfl : i = 0 := by omega
            exact congrArg (fun x => RA.q (smal x)) (hy 0 h1).symm
          · refine alle rfl (Le.eq rfl rfl) True.intro (alle rfl (Le.eq rfl rfl) True.intro (alle rfl (Le.eq rfl rfl) True.intro True.intro))
          · omega
      · obtain rfl : 0 = n := by omega
        refine run0 ?_
        refine ⟨.inr rfl, _, imp_slot (y := .row true 0 fun i => .q (rowq zs i)) 4 rfl True.intro Le.nilrow, ?_⟩
        exact .one (.tmp rfl)
    · refine run0 ?_
      refine awp_if rfl (fun h => ?_) (fun h => ?_)
      · have h : (k + 1) < n := by omega
        refine run0 ?_
        refine awp_if rfl (fun h1 => ?_) (fun h1 => ?_)
        · have h1' : ((((k + 1) : Nat) : Int)) < (zs.length : Int) := h1
          have h1 : (k + 1) < zs.length := by omega
          have hf := hz (k + 1) h1
          repeat(first|refine run1 ?_|((with_reducible apply st_call);exact rfl;exact rfl;exact rfl;first|(exact k_small hf))|((with_reducible apply st_callg);exact rfl;exact rfl;(first|exact rfl|assumption);exact rfl;exact rfl;exact rfl;first|(exact k_small hf)))
          refine q_loop ?_ (row_close (k := (k + 1)) (a := 28) rfl rfl rfl ?_ rfl ?_) ⟨(k + 1) + 1, ?_, rfl, rfl⟩
          · omega
          · intro i hi
            by_cases e : i < k + 1
            · exact if_pos e
            · obtain rfl : i = k + 1 := by omega
              refine (if_neg (Nat.lt_irrefl _)).trans ?_
              rw [Nat.sub_self]
              exact congrArg (fun x => RA.q (smal x)) (hx (k + 1) h1).symm
          · refine alle rfl (Le.eq rfl rfl) True.intro (alle rfl (Le.eq rfl rfl) True.intro (alle rfl (Le.eq rfl rfl) True.intro True.intro))
          · omega
        · have h1' : ¬ ((((k + 1) : Nat) : Int)) < (zs.length : Int) := h1
          have h1 : ¬ (k + 1) < zs.length := by omega
          have hf : Fits .i64 (3 * (((k + 1) : Nat) : Int) + 1) := by show _ ∧ _; omega
          repeat(first|refine run1 ?_|((with_reducible apply st_call);exact rfl;exact rfl;exact rfl;first|(exact k_small hf))|((with_reducible apply st_callg);exact rfl;exact rfl;(first|exact rfl|assumption);exact rfl;exact rfl;exact rfl;first|(exact k_small hf)))
          refine q_loop ?_ (row_close (k := (k + 1)) (a := 28) rfl rfl rfl ?_ rfl ?_) ⟨(k + 1) + 1, ?_, rfl, rfl⟩
          · omega
          · intro i hi
            by_cases e : i < k + 1
            · exact if_pos e
            · obtain rfl : i = k + 1 := by omega
              refine (if_neg (Nat.lt_irrefl _)).trans ?_
              rw [Nat.sub_self]
              exact congrArg (fun x => RA.q (smal x)) (hy (k + 1) h1).symm
          · refine alle rfl (Le.eq rfl rfl) True.intro (alle rfl (Le.eq rfl rfl) True.intro (alle rfl (Le.eq rfl rfl) True.intro True.intro))
          · omega
      · obtain rfl : (k + 1) = n := by omega
        refine run0 ?_
        refine ⟨.inr rfl, _, imp_row 4 rfl rfl rfl, ?_⟩
        exact .one (.tmp rfl)
end Go.Proofs.Ytddkocidfhaofaa.AM
/- Laws of dense matrices: walks: rows and matrices that are the same; ones. -/
namespace Go.Proofs.Ytddkocidfhaofaa.AM
open Go Go.RowKit Go.Proofs.Ytddkocidfhaofaa.PN Go.Proofs.Ytddkocidfhaofaa.V
open Go.Proofs.Ytddkocidfhaofaa.LA (S S_succ S_zero S_congr)
set_option linter.unusedVariables false
set_option linter.unusedSimpArgs false
set_option maxRecDepth 4000
set_option maxHeartbeats 4000000
end Go.Proofs.Ytddkocidfhaofaa.AM
/- Dense matrices: walks: all steps. -/
namespace Go.Proofs.Ytddkocidfhaofaa.AM
open Go Go.RowKit Go.Proofs.Ytddkocidfhaofaa.PN Go.Proofs.Ytddkocidfhaofaa.V
open Go.Proofs.Ytddkocidfhaofaa.LA (S S_succ S_zero S_congr)
set_option linter.unusedVariables false
set_option linter.unusedSimpArgs false
set_option maxRecDepth 4000
set_option maxHeartbeats 4000000
theorem stp_yes {n m col : Nat} {all : Bool} {s : ES} (h : fnd (fun i => s.A (s.π i) col ≠ 0) (n - s.at') s.at' < n) : stp n m all s col = ⟨s.at' + 1, det1 s.d (fnd (fun i => s.A (s.π i) col ≠ 0) (n - s.at') s.at') s.at' * s.A (s.π (fnd (fun i => s.A (s.π i) col ≠ 0) (n - s.at') s.at')) col, swp s.π (fnd (fun i => s.A (s.π i) col ≠ 0) (n - s.at') s.at') s.at',
      cln s.A (swp s.π (fnd (fun i => s.A (s.π i) col ≠ 0) (n - s.at') s.at') s.at') all s.at' col m n⟩ := if_pos h
theorem stp_no {n m col : Nat} {all : Bool} {s : ES} (h : ¬ fnd (fun i => s.A (s.π i) col ≠ 0) (n - s.at') s.at' < n) : stp n m all s col = s := if_neg h
end Go.Proofs.Ytddkocidfhaofaa.AM
/- Dense matrices: walks: determinants, ranks. -/
namespace Go.Proofs.Ytddkocidfhaofaa.AM
open Go Go.RowKit Go.Proofs.Ytddkocidfhaofaa.PN Go.Proofs.Ytddkocidfhaofaa.V
open Go.Proofs.Ytddkocidfhaofaa.LA (S S_succ S_zero S_congr)
set_option linter.unusedVariables false
set_option linter.unusedSimpArgs false
set_option maxRecDepth 4000
set_option maxHeartbeats 4000000
theorem aug_wt {n K : Nat} {F : Nat → Nat → Rat} [hf : ∀ i j, Wt (F i j) K] (i j : Nat) : Wt (aug n F (fun _ _ => 0) i j) (K + 1) := by
  unfold aug
  split
  · exact (hf i j).mono (by omega)
  · exact (inferInstance : Wt 0 1).mono (by omega)
/-- What the steps make of a matrix. -/
noncomputable def gs (n : Nat) (F : Nat → Nat → Rat) : ES := stps n n false (aug n F fun _ _ => 0) n
noncomputable def gdet (n : Nat) (F : Nat → Nat → Rat) : Rat := if (gs n F).at' < n then 0 else (gs n F).d
end Go.Proofs.Ytddkocidfhaofaa.AM
/- Laws of dense matrices: walks: what they share. -/
namespace Go.Proofs.Ytddkocidfhaofaa.AM
open Go Go.RowKit Go.Proofs.Ytddkocidfhaofaa.PN Go.Proofs.Ytddkocidfhaofaa.V
open Go.Proofs.Ytddkocidfhaofaa.LA (S S_succ S_zero S_congr)
set_option linter.unusedVariables false
set_option linter.unusedSimpArgs false
set_option maxRecDepth 4000
set_option maxHeartbeats 4000000
theorem gdet_one {x : Rat} (h : x ≠ 0) : gdet 1 (fun _ _ => x) = x := by
  have e : gs 1 (fun _ _ => x) = ⟨1, x, swp (fun i => i) 0 0, cln (aug 1 (fun _ _ => x) fun _ _ => 0) (swp (fun i => i) 0 0) false 0 0 1 1⟩ := by
    show stp 1 1 false ⟨0, 1, fun i => i, aug 1 (fun _ _ => x) fun _ _ => 0⟩ 0 = _
    have hf : fnd (fun i => aug 1 (fun _ _ => x) (fun _ _ => 0) i 0 ≠ 0) 1 0 = 0 := by
      unfold fnd; rw [if_pos]; exact h
    unfold stp
    show (if fnd (fun i => aug 1 (fun _ _ => x) (fun _ _ => 0) i 0 ≠ 0) 1 0 < 1 then _ else _) = _
    rw [if_pos (by rw [hf]; decide)]
    show ES.mk _ _ _ _ = _
    simp only [show fnd (fun i => aug 1 (fun _ _ => x) (fun _ _ => 0) i 0 ≠ 0) (1 - 0) 0 = 0 from hf]
    congr 1
    show det1 1 0 0 * x = x
    unfold det1
    rw [if_pos rfl, Rat.one_mul]
  unfold gdet
  rw [e]
  exact if_neg (Nat.lt_irrefl 1)
theorem c_three : Has Try.prog 15 [.i 3] (.q 3) := by
  have h := hs_int 3 (by decide) (by decide)
  rw [show ((3 : Int) : Rat) = 3 from rfl] at h
  exact h
end Go.Proofs.Ytddkocidfhaofaa.AM
/- Laws of dense matrices: walks: ones from corner to corner. -/
namespace Go.Proofs.Ytddkocidfhaofaa.AM
open Go Go.RowKit Go.Proofs.Ytddkocidfhaofaa.PN Go.Proofs.Ytddkocidfhaofaa.V
open Go.Proofs.Ytddkocidfhaofaa.LA (S S_succ S_zero S_congr)
set_option linter.unusedVariables false
set_option linter.unusedSimpArgs false
set_option maxRecDepth 4000
set_option maxHeartbeats 4000000
/-- Rows that are gathered in slot t: none, or k of them. -/
def matS (t : Nat) (e : List (Nat × AV)) (v : Nat → AV) : Nat → St
  | 0 => stl ((t, .v (.slice none 0 0)) :: e) []
  | k + 1 => stl ((t, .own t 0) :: e) [(t, (1, fun _ => .ones WT (k + 1) v))]
theorem mat_close {s : St} {e : List (Nat × AV)} {k m t a b : Nat} {v f : Nat → AV} {w q : Nat → RA} {F F' : Nat → Blk} (ht : s.env t = some (.own a 0)) (ha : s.heap a = some (1, F)) (hF : F 0 = .ones WT (k + 1) f) (hf : ∀ i, i < k → f i = v i) (hk : f k = .own b 0)
    (hb : s.heap b = some (1, F')) (hF' : F' 0 = .rats m q) (hq : ∀ j, j < m → q j = w j) (hv : v k = .row true m w) (hok : ∀ i, (v i).ok (fun _ => false)) (hab : b ≠ a) (h60 : s.used 60 = false) (ht60 : t ≠ 60) (he : AllE s (s1 t a) (fun g => memN g [t]) e) : Imp s (matS t e v (k + 1)) := by
  refine (imp_pub a k ha hF (Nat.lt_succ_self k) hk hb hF' hab).trans ?_
  have e1 : s1 t a t 0 = (a, 0) := by unfold s1; rw [if_pos rfl]
  have hm : memN t [t] = true := by show (bif Nat.beq t t then true else false) = true; rw [Nat.beq_refl]; rfl
  refine imp_stl (h := [(t, (1, fun _ => .ones WT (k + 1) v))]) (s1 t a) (fun h => by have h : s.used 60 = true := h; rw [h60] at h; cases h) (fun g r g' r' h1 h2 => s1_inj t a g r g' r' h1 h2) ⟨⟨_, ht, Le.own e1, hm⟩, AllE.env (s := s) (by rfl) he⟩ ⟨fun r hr => ?_, trivial⟩ (by show (!(s.used 60) || _) = true; rw [h60]; rfl)
  obtain rfl : r = 0 := by omega
  rw [e1]
  refine ⟨1, _, put_same _ _ _, Nat.zero_lt_one, bleo rfl fun i hi => ?_, fun i _ => ok_none (hok i)⟩
  by_cases c : i = k
  · subst c
    rw [updN_same, hv]
    exact Le.row rfl hq fun h => h
  · rw [updN_ne _ _ c, hf i (by omega)]
    exact Le.same (hok i)
def idm (i j : Nat) : Rat := if i = j then 1 else 0
instance idm_wt (i j : Nat) : Wt (idm i j) 1 := ⟨by unfold idm; split <;> decide⟩
theorem c_unit : Has Try.prog 15 [.i 1] (.q 1) := by
  have h := hs_int 1 (by decide) (by decide)
  rw [show ((1 : Int) : Rat) = 1 from rfl] at h
  exact h
end Go.Proofs.Ytddkocidfhaofaa.AM
/- Products of matrices: the plain laws that DenseRing asks for. -/
namespace Go.Proofs.Ytddkocidfhaofaa.AM
open Go.Proofs.Ytddkocidfhaofaa.LA (S S_succ S_zero S_congr S_mul S_mulr S_swap S_single)
set_option linter.unusedVariables false
set_option linter.unusedSimpArgs false
theorem ring_assoc (n : Nat) (A B C : Nat → Nat → Rat) (i j : Nat) : (S n fun k => (S n fun l => A i l * B l k) * C k j) = S n fun l => A i l * S n fun k => B l k * C k j := by
  have h1 : (S n fun k => (S n fun l => A i l * B l k) * C k j) = S n fun k => S n fun l => A i l * (B l k * C k j) := S_congr fun k _ => by
    rw [← S_mulr]
    exact S_congr fun l _ => Rat.mul_assoc _ _ _
  rw [h1, S_swap]
  exact S_congr fun l _ => S_mul _ _ _
theorem ring_apply (n : Nat) (A B : Nat → Nat → Rat) (v : Nat → Rat) (i : Nat) : (S n fun k => (S n fun l => A i l * B l k) * v k) = S n fun l => A i l * S n fun k => B l k * v k :=
  ring_assoc n A B (fun k _ => v k) i 0
theorem ring_one {n : Nat} (A : Nat → Nat → Rat) (i : Nat) {j : Nat} (hj : j < n) : (S n fun k => A i k * idm k j) = A i j := by
  rw [S_single hj (fun k _ hk => by unfold idm; rw [if_neg hk, Rat.mul_zero])]
  unfold idm
  rw [if_pos rfl, Rat.mul_one]
theorem ring_turn (n : Nat) (A B : Nat → Nat → Rat) (i j : Nat) : (S n fun k => A j k * B k i) = S n fun k => B k i * A j k :=
  S_congr fun k _ => Rat.mul_comm _ _
end Go.Proofs.Ytddkocidfhaofaa.AM
/- Laws of dense matrices: walks: matrices of small numbers (under way). -/
namespace Go.Proofs.Ytddkocidfhaofaa.AM
open Go Go.RowKit Go.Proofs.Ytddkocidfhaofaa.PN Go.Proofs.Ytddkocidfhaofaa.V
open Go.Proofs.Ytddkocidfhaofaa.LA (S S_succ S_zero S_congr)
set_option linter.unusedVariables false
set_option linter.unusedSimpArgs false
set_option maxRecDepth 4000
set_option maxHeartbeats 4000000
/-- Rows that are gathered in slot 6, all of them own. -/
def famS (e : List (Nat × AV)) (m : Nat) (A : Nat → Nat → Rat) : Nat → St
  | 0 => stl ((6, .v (.slice none 0 0)) :: e) []
  | k + 1 => stl ((6, .own 6 0) :: e) [(6, (1, fun _ => .ones WT (k + 1) (fun i => .own 3 i))), (3, (k + 1, fun r => .rats m (fun j => .q (A r j))))]
def sm (k : Nat) : Ren := fun g r => if g = 3 then (if r < k then (3, r) else (31, r - k)) else if g = 6 then (33, r) else (g, r)
theorem sm_inj (k : Nat) (g r g' r' : Nat) (hg : memN g [6, 3] = true) (hg' : memN g' [6, 3] = true) (e : sm k g r = sm k g' r') : g = g' ∧ r = r' := by
  have m1 := memN_spec hg
  have m2 := memN_spec hg'
  simp only [List.mem_cons, List.not_mem_nil, or_false] at m1 m2
  unfold sm at e
  rcases m1 with rfl | rfl <;> rcases m2 with rfl | rfl <;> simp at e ⊢
  · exact e
  · split at e <;> simp at e
  · split at e <;> simp at e
  · split at e <;> split at e <;> simp at e <;> omega
theorem fam_close {s : St} {e : List (Nat × AV)} {k m : Nat} {A : Nat → Nat → Rat} {F1 F2 F3 : Nat → Blk} {f1 : Nat → AV} (h6 : s.env 6 = some (.own 33 0))
    (h33 : s.heap 33 = some (1, F1)) (e33 : F1 0 = .ones WT (k + 1) f1) (g33 : ∀ i, i < k → f1 i = .own 3 i) (g33' : f1 k = .own 31 0) (h3 : 0 < k → s.heap 3 = some (k, F2)) (g3 : ∀ r, r < k → BLe (sm k) (F2 r) (.rats m fun j => .q (A r j)))
    (h31 : s.heap 31 = some (1, F3)) (g31 : BLe (sm k) (F3 0) (.rats m fun j => .q (A k j))) (h60 : s.used 60 = false) (he : AllE s (sm k) (fun g => memN g [6, 3]) e) : Imp s (famS e m A (k + 1)) := by
  refine imp_stl (h := [(6, (1, fun _ => .ones WT (k + 1) (fun i => .own 3 i))), (3, (k + 1, fun r => .rats m (fun j => .q (A r j))))]) (sm k) (fun h => by rw [h60] at h; cases h) (fun g r g' r' h1 h2 => sm_inj k g r g' r' h1 h2) ⟨⟨_, h6, Le.own rfl, rfl⟩, he⟩ ⟨fun r hr => ?_, fun r hr => ?_, trivial⟩ (by rw [h60]; rfl)
  · obtain rfl : r = 0 := by omega
    refine ⟨1, F1, h33, Nat.zero_lt_one, ?_, fun i hi => rfl⟩
    show BLe (sm k) (F1 0) _
    rw [e33]
    refine bleo rfl fun i hi => ?_
    by_cases e : i < k
    · rw [g33 i e]; exact Le.own (by unfold sm; rw [if_pos rfl, if_pos e])
    · obtain rfl : i = k := by omega
      rw [g33']; exact Le.own (by unfold sm; rw [if_pos rfl, if_neg e, Nat.sub_self])
  · by_cases e : r < k
    · have e1 : sm k 3 r = (3, r) := by unfold sm; rw [if_pos rfl, if_pos e]
      rw [e1]
      exact ⟨k, F2, h3 (by omega), e, g3 r e, trivial⟩
    · obtain rfl : r = k := by omega
      have e1 : sm r 3 r = (31, 0) := by unfold sm; rw [if_pos rfl, if_neg e, Nat.sub_self]
      rw [e1]
      exact ⟨1, F3, h31, Nat.zero_lt_one, g31, trivial⟩
/-- The rows, as they are drawn. -/
def mbase (n : Nat) (zs : List Int) (i j : Nat) : Rat := rowq zs (i * n + j)
theorem mul_cast (n : Nat) : (n : Int) * (n : Int) = ((n * n : Nat) : Int) := (Int.natCast_mul n n).symm
theorem cut_blk {σ : Ren} {n k : Nat} {zs : List Int} {g : Nat → RA} : BLe σ (.rats (0 + ((k : Int) * (n : Int) + n - (k : Int) * (n : Int)).toNat) (glue 0 g (fun i => .q (rowq zs (((k : Int) * (n : Int)).toNat + i))))) (.rats n fun j => .q (mbase n zs k j)) := by
  have e : (k : Int) * (n : Int) = ((k * n : Nat) : Int) := (Int.natCast_mul k n).symm
  rw [e]
  refine blen (by omega) fun j hj => ?_
  unfold glue mbase
  rw [if_neg (Nat.not_lt_zero _), Nat.sub_zero]
  rfl
/-- The last row's place, and the one ahead of it. -/
def la (n : Nat) : Nat := ((n : Int) - 1).toNat
def lb2 (n : Nat) : Nat := ((n : Int) - 2).toNat
def nv (n : Nat) (zs : List Int) (c : Nat) : Rat := if 2 < n then mbase n zs 0 c + mbase n zs (lb2 n) c else mbase n zs 0 c
def mx (n : Nat) (zs : List Int) (j : Nat) : Nat → Nat → Rat := fun r c => if r = la n ∧ c < j then nv n zs c else mbase n zs r c
def mc (n : Nat) (zs : List Int) : Prop := 1 < n ∧ 2 < zs.length ∧ wthn (zs.getD 2 0) 3 = 0
open Classical in
/-- The matrix that is made. -/
noncomputable def mkm (n : Nat) (zs : List Int) (i j : Nat) : Rat := if mc n zs then mx n zs n i j else mbase n zs i j
theorem imp_fam {s : St} {e : List (Nat × AV)} {n m : Nat} {A : Nat → Nat → Rat} {F1 F2 : Nat → Blk} {f1 : Nat → AV} (h6 : s.heap 6 = some (1, F1)) (e6 : F1 0 = .ones WT n f1) (g6 : ∀ i, i < n → f1 i = .own 3 i) (h3 : s.heap 3 = some (n, F2)) (g3 : ∀ r, r < n → BLe idR (F2 r) (.rats m fun j => .q (A r j)))
    (h60 : s.used 60 = false) (he : AllE s idR (fun g => memN g [6, 3]) e) : Imp s (stl e [(6, (1, fun _ => .ones WT n (fun i => .own 3 i))), (3, (n, fun r => .rats m (fun j => .q (A r j))))]) := by
  refine imp_id he ⟨fun r hr => ?_, fun r hr => ⟨n, F2, h3, hr, g3 r hr, trivial⟩, trivial⟩ (by rw [h60]; rfl)
  obtain rfl : r = 0 := by omega
  refine ⟨1, F1, h6, by decide, ?_, fun i hi => rfl⟩
  show BLe idR (F1 0) _
  rw [e6]; exact bleo rfl fun i hi => Le.id (g6 i hi)
def mx1 (n : Nat) (zs : List Int) (j : Nat) : Nat → Nat → Rat := fun r c => if r = la n ∧ c = j then mx n zs j 0 j else mx n zs j r c
theorem mx_zero {n : Nat} {zs : List Int} {j r c : Nat} (h : r ≠ la n) : mx n zs j r c = mbase n zs r c := by
  unfold mx; rw [if_neg (fun e => h e.1)]
theorem mx_step {n : Nat} {zs : List Int} {j r c : Nat} (h1 : 1 < n) (h2 : 2 < n) : (if r = la n ∧ c = j then mx1 n zs j 0 j + mx1 n zs j (lb2 n) j else mx1 n zs j r c) = mx n zs (j + 1) r c := by
  have e0 : (0 : Nat) ≠ la n := by unfold la; omega
  have e2 : lb2 n ≠ la n := by unfold la lb2; omega
  have a0 : mx1 n zs j 0 j = mbase n zs 0 j := by unfold mx1; rw [if_neg (fun e => e0 e.1), mx_zero e0]
  have a2 : mx1 n zs j (lb2 n) j = mbase n zs (lb2 n) j := by unfold mx1; rw [if_neg (fun e => e2 e.1), mx_zero e2]
  rw [a0, a2]
  by_cases hr : r = la n
  · by_cases hc : c = j
    · rw [if_pos ⟨hr, hc⟩]; unfold mx; rw [if_pos ⟨hr, by omega⟩]; unfold nv; rw [if_pos h2, hc]
    · rw [if_neg (fun e => hc e.2)]
      unfold mx1; rw [if_neg (fun e => hc e.2)]
      unfold mx
      by_cases hl : c < j
      · rw [if_pos ⟨hr, hl⟩, if_pos ⟨hr, by omega⟩]
      · rw [if_neg (fun e => hl e.2), if_neg (by omega)]
  · rw [if_neg (fun e => hr e.1)]
    unfold mx1; rw [if_neg (fun e => hr e.1), mx_zero hr, mx_zero hr]
theorem mx_step2 {n : Nat} {zs : List Int} {j r c : Nat} (h1 : 1 < n) (h2 : ¬ 2 < n) : mx1 n zs j r c = mx n zs (j + 1) r c := by
  have e0 : (0 : Nat) ≠ la n := by unfold la; omega
  unfold mx1
  by_cases hr : r = la n
  · by_cases hc : c = j
    · rw [if_pos ⟨hr, hc⟩, mx_zero e0]; unfold mx; rw [if_pos ⟨hr, by omega⟩]; unfold nv; rw [if_neg h2, hc]
    · rw [if_neg (fun e => hc e.2)]
      unfold mx
      by_cases hl : c < j
      · rw [if_pos ⟨hr, hl⟩, if_pos ⟨hr, by omega⟩]
      · rw [if_neg (fun e => hl e.2), if_neg (by omega)]
  · rw [if_neg (fun e => hr e.1), mx_zero hr, mx_zero hr]
instance mbase_wt (n : Nat) (zs : List Int) (i j : Nat) : Wt (mbase n zs i j) 1 := rowq_wt _ _
theorem nv_wt (n : Nat) (zs : List Int) (c : Nat) : Wt (nv n zs c) 3 := by
  unfold nv; split
  · exact (inferInstance : Wt (mbase n zs 0 c + mbase n zs (lb2 n) c) (1 + 1 + 1))
  · exact (mbase_wt n zs 0 c).mono (by decide)
theorem mx_wt (n : Nat) (zs : List Int) (j r c : Nat) : Wt (mx n zs j r c) 3 := by
  unfold mx; split
  · exact nv_wt _ _ _
  · exact (mbase_wt _ _ _ _).mono (by decide)
theorem mx1_wt (n : Nat) (zs : List Int) (j r c : Nat) : Wt (mx1 n zs j r c) 3 := by
  unfold mx1; split
  · exact mx_wt _ _ _ _ _
  · exact mx_wt _ _ _ _ _
theorem mkm_wt (n : Nat) (zs : List Int) (i j : Nat) : Wt (mkm n zs i j) 3 := by
  unfold mkm; split
  · exact mx_wt _ _ _ _ _
  · exact (mbase_wt _ _ _ _).mono (by decide)
end Go.Proofs.Ytddkocidfhaofaa.AM
/- The document's elimination: walked. It does what the program's does. -/
namespace Go.Proofs.Ytddkocidfhaofaa.AM
open Go Go.RowKit Go.Proofs.Ytddkocidfhaofaa.PN Go.Proofs.Ytddkocidfhaofaa.V
open Go.Proofs.Ytddkocidfhaofaa.LA (S S_succ S_zero S_congr)
set_option linter.unusedVariables false
set_option linter.unusedSimpArgs false
set_option maxRecDepth 4000
set_option maxHeartbeats 4000000
/-- How long all numbers are while the steps are done. -/
structure TB (n m X : Nat) (A : Nat → Nat → Rat) : Prop where
  d : ∀ c, c ≤ n → Wt (stps n m false A c).d X
  A : ∀ c, c ≤ n → ∀ i j, Wt ((stps n m false A c).A i j) X
theorem TB.wt {n m X : Nat} {A : Nat → Nat → Rat} (h : TB n m X A) (i j : Nat) : Wt (A i j) X := h.A 0 (Nat.zero_le _) i j
/-- The determinant, as far as it is known. -/
def dd (c : Nat) (s : ES) : Rat := if s.at' < c then 0 else s.d
theorem cln_low {A : Nat → Nat → Rat} {π : Nat → Nat} {at' col m k : Nat} (h : k ≤ at' + 1) (r j : Nat) : cln A π false at' col m k r j = A r j := by
  unfold cln
  rw [if_neg]
  rintro ⟨⟨i, h1, h2, _⟩, _⟩
  rcases h2 with h2 | ⟨h2, _⟩
  · omega
  · cases h2
theorem dd_wt {c X : Nat} {s : ES} [h : Wt s.d X] (hX : 1 ≤ X) : Wt (dd c s) X := by
  unfold dd; split
  · exact (inferInstance : Wt 0 1).mono hX
  · exact h
theorem sub_zero_mul (x y : Rat) {q : Rat} (h : q = 0) : x - q * y = x := by
  rw [h, Rat.zero_mul, Rat.sub_eq_add_neg, Rat.neg_zero, Rat.add_zero]
theorem copy_blk {m : Nat} {σ : Ren} {z f : Nat → RA} {g : Nat → Rat} (h : ∀ j, j < m → f j = .q (g j)) : BLe σ (.rats (0 + m) (glue 0 z f)) (.rats m fun j => .q (g j)) := by
  refine blen (Nat.zero_add m) fun j hj => ?_
  unfold glue
  rw [if_neg (Nat.not_lt_zero _), Nat.sub_zero]
  exact h j (by omega)
section
variable {p q : Rat} {a b : Nat} [hp : Wt p a] [hq : Wt q b]
end
theorem cln_mix {A : Nat → Nat → Rat} {π : Nat → Nat} {all : Bool} {at' col m k n : Nat} (h : k ≤ n) (r j : Nat) : cln A π all at' col m k r j = A r j ∨ cln A π all at' col m k r j = cln A π all at' col m n r j := by
  unfold cln
  by_cases e : (∃ i, i < k ∧ tst all at' i ∧ r = π i) ∧ col ≤ j ∧ j < m
  · obtain ⟨⟨i, h1, h2, h3⟩, h4⟩ := e
    rw [if_pos ⟨⟨i, h1, h2, h3⟩, h4⟩, if_pos ⟨⟨i, by omega, h2, h3⟩, h4⟩]
    exact .inr rfl
  · rw [if_neg e]; exact .inl rfl
theorem dd_step {c a p : Nat} {d x : Rat} {π π' : Nat → Nat} {B B' : Nat → Nat → Rat} : det1 (dd c ⟨a, d, π, B⟩) p a * x = dd (c + 1) ⟨a + 1, det1 d p a * x, π', B'⟩ := by
  unfold dd
  show det1 (if a < c then 0 else d) p a * x = if a + 1 < c + 1 then 0 else det1 d p a * x
  by_cases h : a < c
  · rw [if_pos h, if_pos (by omega)]
    unfold det1
    split
    · exact Rat.zero_mul _
    · rw [Rat.neg_zero]; exact Rat.zero_mul _
  · rw [if_neg h, if_neg (by omega)]
end Go.Proofs.Ytddkocidfhaofaa.AM
/- How long numbers are, by bits. -/
namespace Go.Proofs.Ytddkocidfhaofaa.AM
open Go.Proofs.Ytddkocidfhaofaa.PN
set_option linter.unusedVariables false
set_option linter.unusedSimpArgs false
class Bt (q : Rat) (k : outParam Nat) : Prop where
  n : nm q < 2 ^ k
  d : q.den < 2 ^ k
theorem Bt.mono {q : Rat} {a b : Nat} (h : Bt q a) (k : a ≤ b) : Bt q b :=
  ⟨Nat.lt_of_lt_of_le h.n (Nat.pow_le_pow_right (by decide) k), Nat.lt_of_lt_of_le h.d (Nat.pow_le_pow_right (by decide) k)⟩
theorem Bt.of_mk {n d k : Nat} (s : Bool) (hd : d ≠ 0) (h1 : n < 2 ^ k) (h2 : d < 2 ^ k) : Bt (PN.mk s n d) k :=
  ⟨by rw [mk_num s hd]; exact Nat.lt_of_le_of_lt (Nat.div_le_self _ _) h1, by rw [mk_den s hd]; exact Nat.lt_of_le_of_lt (Nat.div_le_self _ _) h2⟩
theorem lt_mul {x y a b : Nat} (h : x < 2 ^ a) (k : y < 2 ^ b) : x * y < 2 ^ (a + b) := by rw [Nat.pow_add]; exact Nat.mul_lt_mul'' h k
instance Bt.mul {p q : Rat} {a b : Nat} [h : Bt p a] [k : Bt q b] : Bt (p * q) (a + b) := by
  rw [mul_parts]
  exact Bt.of_mk _ (Nat.mul_ne_zero (den_ne p) (den_ne q)) (lt_mul h.n k.n) (lt_mul h.d k.d)
theorem Bt.pos {q : Rat} {a : Nat} (h : Bt q a) : 0 < a := by
  rcases Nat.eq_zero_or_pos a with rfl | h0
  · have := h.d; have := q.den_pos; omega
  · exact h0
instance Bt.zero : Bt 0 1 := ⟨by decide, by decide⟩
instance Bt.one : Bt 1 1 := ⟨by decide, by decide⟩
instance Bt.div {p q : Rat} {a b : Nat} [h : Bt p a] [k : Bt q b] : Bt (p / q) (a + b) := by
  by_cases e : q = 0
  · rw [e, Rat.div_def, Rat.inv_zero, Rat.mul_zero]
    exact Bt.zero.mono (by have := h.pos; omega)
  · rw [div_parts p q e]
    exact Bt.of_mk _ (Nat.mul_ne_zero (den_ne p) (fun e' => e (nm_eq_zero.1 e'))) (lt_mul h.n k.d) (lt_mul h.d k.n)
instance Bt.add {p q : Rat} {a b : Nat} [h : Bt p a] [k : Bt q b] : Bt (p + q) (a + b + 1) := by
  have h1 := lt_mul h.n k.d
  have h2 : nm q * p.den < 2 ^ (a + b) := by rw [Nat.add_comm]; exact lt_mul k.n h.d
  have h3 := lt_mul h.d k.d
  have hp : 2 ^ (a + b + 1) = 2 ^ (a + b) * 2 := Nat.pow_succ ..
  have hd := Nat.mul_ne_zero (den_ne p) (den_ne q)
  by_cases e : ng p = ng q
  · rw [add_parts_same p q e]; exact Bt.of_mk _ hd (by omega) (by omega)
  · rcases Nat.le_total (nm q * p.den) (nm p * q.den) with hle | hle
    · rw [add_parts_ge p q e hle]; exact Bt.of_mk _ hd (by omega) (by omega)
    · rw [add_parts_lt p q e hle]; exact Bt.of_mk _ hd (by omega) (by omega)
instance Bt.neg {p : Rat} {a : Nat} [h : Bt p a] : Bt (-p) a := ⟨by rw [neg_nm]; exact h.n, by rw [neg_den]; exact h.d⟩
instance Bt.sub {p q : Rat} {a b : Nat} [h : Bt p a] [k : Bt q b] : Bt (p - q) (a + b + 1) := by
  rw [Rat.sub_eq_add_neg]; exact inferInstance
theorem Bt.wt {q : Rat} {k X : Nat} (h : Bt q k) (hX : k / 32 + 1 ≤ X) : Wt q X := by
  have hB : 2 ^ k ≤ B ^ (k / 32 + 1) := by
    rw [show B ^ (k / 32 + 1) = 2 ^ (32 * (k / 32 + 1)) by rw [Nat.pow_mul]]
    exact Nat.pow_le_pow_right (by decide) (by omega)
  refine ⟨Nat.le_trans ?_ hX⟩
  have h1 := (lt_iff (nm q) _).1 (Nat.lt_of_lt_of_le h.n hB)
  have h2 := (lt_iff q.den _).1 (Nat.lt_of_lt_of_le h.d hB)
  unfold PN.wt
  omega
theorem smal_bits : ∀ x : _root_.Fin 41, ∀ y : _root_.Fin 5, nm ((((x.val : Int) - 20 : Int) : Rat) / ((1 + (y.val : Int) : Int) : Rat)) < 2 ^ 5 ∧ ((((x.val : Int) - 20 : Int) : Rat) / ((1 + (y.val : Int) : Int) : Rat)).den < 2 ^ 5 := by decide +kernel
instance smal_bt (a : Int) : Bt (smal a) 5 := by
  obtain ⟨h1, h2⟩ := wthn_lt (a := a) (n := 41) (by decide)
  obtain ⟨h3, h4⟩ := wthn_lt (a := a.tdiv 41) (n := 5) (by decide)
  have := smal_bits ⟨(wthn a 41).toNat, by omega⟩ ⟨(wthn (a.tdiv 41) 5).toNat, by omega⟩
  rw [show (((wthn a 41).toNat : Nat) : Int) = wthn a 41 by omega, show (((wthn (a.tdiv 41) 5).toNat : Nat) : Int) = wthn (a.tdiv 41) 5 by omega] at this
  exact ⟨this.1, this.2⟩
instance rowq_bt (zs : List Int) (i : Nat) : Bt (rowq zs i) 5 := smal_bt _
end Go.Proofs.Ytddkocidfhaofaa.AM
/- How long numbers are, by bits: while the steps are done. -/
namespace Go.Proofs.Ytddkocidfhaofaa.AM
open Go.Proofs.Ytddkocidfhaofaa.PN
open Go.Proofs.Ytddkocidfhaofaa.LA (S S_succ S_zero S_congr)
set_option linter.unusedVariables false
set_option linter.unusedSimpArgs false
/-- How many bits numbers have when a pivots are found. -/
def gb (n K a : Nat) : Nat := 4 ^ (min a (n - 1)) * (K + 1)
theorem gb_pos (n K a : Nat) : K + 1 ≤ gb n K a := Nat.le_mul_of_pos_left _ (Nat.pow_pos (by decide))
theorem gb_last {n K a : Nat} (h : ¬ a + 1 ≤ n - 1) : gb n K (a + 1) = gb n K a ∨ a + 1 ≤ n - 1 := by
  unfold gb
  exact .inl (by rw [show min (a + 1) (n - 1) = min a (n - 1) by omega])
theorem gb_step {n K a : Nat} (h : a + 1 ≤ n - 1) : gb n K (a + 1) = 4 * gb n K a := by
  unfold gb
  rw [show min (a + 1) (n - 1) = min a (n - 1) + 1 by omega, Nat.pow_succ]
  ac_rfl
structure EB (n K : Nat) (s : ES) : Prop where
  A : ∀ i j, Bt (s.A i j) (gb n K s.at' - 1)
  d : Bt s.d (3 * gb n K s.at')
  d' : s.at' < n → Bt s.d (2 * gb n K s.at')
theorem det1_bt {d : Rat} {X i j : Nat} [h : Bt d X] : Bt (det1 d i j) X := by
  unfold det1; split
  · exact h
  · exact inferInstance
theorem stp_eb {n m c K : Nat} {s : ES} (hn : 0 < n) (h : EB n K s) : EB n K (stp n m false s c) := by
  unfold stp
  split
  · rename_i hi
    obtain ⟨h1, h2, _, _⟩ := fnd_le (fun i => s.A (s.π i) c ≠ 0) (n - s.at') s.at'
    generalize fnd (fun i => s.A (s.π i) c ≠ 0) (n - s.at') s.at' = i0 at *
    have han : s.at' < n := by omega
    have w1 := det1_bt (i := i0) (j := s.at') (h := h.d' han)
    have w2 := h.A (s.π i0) c
    have hp := gb_pos n K s.at'
    have w3 := Bt.mul (h := w1) (k := w2)
    by_cases hl : s.at' + 1 ≤ n - 1
    · have e := gb_step (K := K) hl
      refine ⟨fun i j => ?_, w3.mono ?_, fun _ => w3.mono ?_⟩
      · show Bt (cln _ _ _ _ _ _ _ i j) (gb n K (s.at' + 1) - 1)
        rw [e]
        unfold cln
        split
        · have hA := h.A
          exact (inferInstance : Bt (s.A i j - s.A i c / s.A (swp s.π i0 s.at' s.at') c * s.A (swp s.π i0 s.at' s.at') j) _).mono (by omega)
        · exact (h.A i j).mono (by omega)
      · show _ ≤ 3 * gb n K (s.at' + 1); omega
      · show _ ≤ 2 * gb n K (s.at' + 1); omega
    · have e : gb n K (s.at' + 1) = gb n K s.at' := (gb_last hl).resolve_right hl
      refine ⟨fun i j => ?_, w3.mono ?_, fun hlt => ?_⟩
      · show Bt (cln _ _ _ _ _ _ _ i j) (gb n K (s.at' + 1) - 1)
        rw [e]
        unfold cln
        rw [if_neg]
        · exact h.A i j
        · rintro ⟨⟨k, h3, h4, _⟩, _⟩
          rcases h4 with h4 | ⟨h4, _⟩
          · omega
          · cases h4
      · show _ ≤ 3 * gb n K (s.at' + 1); omega
      · have hlt : s.at' + 1 < n := hlt
        omega
  · exact h
theorem stps_eb {n m K : Nat} {A : Nat → Nat → Rat} (hn : 0 < n) (hK : 1 ≤ K) [hA : ∀ i j, Bt (A i j) K] : ∀ c, EB n K (stps n m false A c)
  | 0 => by
    have e : gb n K 0 = K + 1 := by unfold gb; rw [Nat.zero_min, Nat.pow_zero, Nat.one_mul]
    have h1 : Bt (1 : Rat) 1 := inferInstance
    refine ⟨fun i j => ?_, ?_, fun _ => ?_⟩
    · show Bt (A i j) (gb n K 0 - 1); rw [e]; exact hA i j
    · show Bt (1 : Rat) (3 * gb n K 0); rw [e]; exact h1.mono (by omega)
    · show Bt (1 : Rat) (2 * gb n K 0); rw [e]; exact h1.mono (by omega)
  | c + 1 => stp_eb hn (stps_eb hn hK c)
theorem gb_le (n K a : Nat) : gb n K a ≤ 4 ^ (n - 1) * (K + 1) := Nat.mul_le_mul_right _ (Nat.pow_le_pow_right (by decide) (Nat.min_le_right _ _))
theorem TB.of {n m K X : Nat} {A : Nat → Nat → Rat} (hn : 0 < n) (hK : 1 ≤ K) [hA : ∀ i j, Bt (A i j) K] (hX : (3 * (4 ^ (n - 1) * (K + 1))) / 32 + 1 ≤ X) : TB n m X A := by
  refine ⟨fun c _ => ?_, fun c _ i j => ?_⟩
  · have h := (stps_eb (m := m) hn hK (hA := hA) c).d
    have := gb_le n K (stps n m false A c).at'
    exact (h.mono (show _ ≤ 3 * (4 ^ (n - 1) * (K + 1)) by omega)).wt hX
  · have h := (stps_eb (m := m) hn hK (hA := hA) c).A i j
    have := gb_le n K (stps n m false A c).at'
    exact (h.mono (show _ ≤ 3 * (4 ^ (n - 1) * (K + 1)) by omega)).wt hX
end Go.Proofs.Ytddkocidfhaofaa.AM
/- The document's dense matrices: walked. -/
namespace Go.Proofs.Ytddkocidfhaofaa.AM
open Go Go.RowKit Go.Proofs.Ytddkocidfhaofaa.PN Go.Proofs.Ytddkocidfhaofaa.V
open Go.Proofs.Ytddkocidfhaofaa.LA (S S_succ S_zero S_congr)
set_option linter.unusedVariables false
set_option linter.unusedSimpArgs false
set_option maxRecDepth 4000
set_option maxHeartbeats 4000000
theorem Wt.sumn {K : Nat} {f : Nat → Rat} : ∀ {n : Nat}, (∀ i, i < n → Wt (f i) K) → Wt (S n f) (n * (K + 1) + 1)
  | 0, _ => by rw [S_zero, Nat.zero_mul]; exact (inferInstance : Wt 0 1)
  | n + 1, h => by
    have h1 := Wt.sumn (n := n) (fun i hi => h i (by omega))
    have h2 := h n (Nat.lt_succ_self n)
    rw [S_succ]
    exact (inferInstance : Wt (S n f + f n) _).mono (by rw [Nat.succ_mul]; omega)
end Go.Proofs.Ytddkocidfhaofaa.AM
/- The document's dense matrices: the rest; leading minors: walked. -/
namespace Go.Proofs.Ytddkocidfhaofaa.AM
open Go Go.RowKit Go.Proofs.Ytddkocidfhaofaa.PN Go.Proofs.Ytddkocidfhaofaa.V
open Go.Proofs.Ytddkocidfhaofaa.LA (S S_succ S_zero S_congr)
set_option linter.unusedVariables false
set_option linter.unusedSimpArgs false
set_option maxRecDepth 4000
set_option maxHeartbeats 4000000
theorem stps_congr {n m : Nat} {all : Bool} {A A' : Nat → Nat → Rat} (h : ∀ i j, j < m → A i j = A' i j) : ∀ c, c ≤ m → (stps n m all A c).at' = (stps n m all A' c).at' ∧ (stps n m all A c).d = (stps n m all A' c).d ∧ (stps n m all A c).π = (stps n m all A' c).π ∧ ∀ i j, j < m → (stps n m all A c).A i j = (stps n m all A' c).A i j
  | 0, _ => ⟨rfl, rfl, rfl, h⟩
  | c + 1, hc => by
    obtain ⟨h1, h2, h3, h4⟩ := stps_congr h c (by omega)
    show (stp n m all (stps n m all A c) c).at' = (stp n m all (stps n m all A' c) c).at' ∧ (stp n m all (stps n m all A c) c).d = (stp n m all (stps n m all A' c) c).d ∧ (stp n m all (stps n m all A c) c).π = (stp n m all (stps n m all A' c) c).π ∧ ∀ i j, j < m → (stp n m all (stps n m all A c) c).A i j = (stp n m all (stps n m all A' c) c).A i j
    generalize stps n m all A c = s at *
    generalize stps n m all A' c = s' at *
    obtain ⟨a, d, π, B⟩ := s
    obtain ⟨a', d', π', B'⟩ := s'
    have h1 : a = a' := h1
    have h2 : d = d' := h2
    have h3 : π = π' := h3
    have k4 : ∀ i j, j < m → B i j = B' i j := h4
    clear h4
    subst h1; subst h2; subst h3
    have hp : (fun i => B (π i) c ≠ 0) = (fun i => B' (π i) c ≠ 0) := by funext i; rw [k4 _ _ (by omega)]
    unfold stp
    simp only [hp]
    split
    · refine ⟨rfl, ?_, rfl, fun i j hj => ?_⟩
      · show _ * B _ c = _ * B' _ c
        rw [k4 _ _ (by omega)]
      · show cln B _ _ _ _ _ _ i j = cln B' _ _ _ _ _ _ i j
        unfold cln
        rw [k4 i j hj, k4 i c (by omega), k4 _ c (by omega), k4 _ j hj]
    · exact ⟨rfl, rfl, rfl, k4⟩
theorem gs_eq (n : Nat) (F : Nat → Nat → Rat) : (stps n n false F n).at' = (gs n F).at' ∧ (stps n n false F n).d = (gs n F).d := by
  have h := stps_congr (n := n) (m := n) (all := false) (A := F) (A' := aug n F fun _ _ => 0) (fun i j hj => by unfold aug; rw [if_pos hj]) n (Nat.le_refl n)
  exact ⟨h.1, h.2.1⟩
theorem dd_gdet (n : Nat) (F : Nat → Nat → Rat) : dd n (stps n n false F n) = gdet n F := by
  obtain ⟨h1, h2⟩ := gs_eq n F
  unfold dd gdet
  rw [h1, h2]
end Go.Proofs.Ytddkocidfhaofaa.AM
/- Determinants and ranks: the plain laws. -/
namespace Go.Proofs.Ytddkocidfhaofaa.AM
open Go.Proofs.Ytddkocidfhaofaa.LA (Mt S S_succ S_zero S_congr det det_congr det_swp det_mul det_tr det_one HasRank rank_full rank_unique rank_tr)
set_option linter.unusedVariables false
set_option linter.unusedSimpArgs false
theorem gdet_det (n : Nat) (F : Nat → Nat → Rat) : gdet n F = det n F := by rw [← dd_gdet]; exact fin_det (Nat.le_refl n)
theorem gs_rank (n : Nat) (F : Nat → Nat → Rat) : HasRank n F (gs n F).at' := by rw [← (gs_eq n F).1]; exact fin_rank (Nat.le_refl n)
theorem gs_le (n : Nat) (F : Nat → Nat → Rat) : (gs n F).at' ≤ n := (rank_full (gs_rank n F)).1
theorem gs_of {n r : Nat} {F : Nat → Nat → Rat} (h : HasRank n F r) : (gs n F).at' = r := rank_unique (gs_rank n F) h
theorem gdet_mul (n : Nat) (A B : Nat → Nat → Rat) : gdet n (fun i j => S n fun k => A i k * B k j) = gdet n A * gdet n B := by
  rw [gdet_det, gdet_det, gdet_det]; exact det_mul n A B
theorem gdet_turn (n : Nat) (A : Nat → Nat → Rat) : gdet n (fun i j => A j i) = gdet n A := by
  rw [gdet_det, gdet_det]; exact det_tr n A
theorem rank_turn (n : Nat) (A : Nat → Nat → Rat) : (gs n fun i j => A j i).at' = (gs n A).at' := gs_of (rank_tr (gs_rank n A))
theorem gdet_zero (n : Nat) (A : Nat → Nat → Rat) : gdet n A = 0 ↔ (gs n A).at' < n := by
  obtain ⟨h1, h2⟩ := rank_full (gs_rank n A)
  rw [gdet_det]
  constructor
  · intro h
    rcases Nat.lt_or_ge (gs n A).at' n with h3 | h3
    · exact h3
    · exact absurd h (h2.1 (by omega))
  · intro h
    exact Classical.byContradiction fun h3 => by have := h2.2 h3; omega
theorem gdet_swap {n : Nat} (A : Nat → Nat → Rat) {i j : Nat} (hi : i < n) (hj : j < n) : gdet n (fun r c => A (swp (fun i => i) i j r) c) = if i = j then gdet n A else - gdet n A := by
  rw [gdet_det, gdet_det]
  by_cases e : i = j
  · subst e; rw [if_pos rfl]
    exact det_congr fun r c _ _ => by rw [swp_self]
  · rw [if_neg e, ← det_swp A hi hj e]
    refine det_congr fun r c _ _ => ?_
    unfold swp updN LA.swp
    by_cases e1 : r = j
    · subst e1; rw [if_pos rfl, if_neg (Ne.symm e), if_pos rfl]
    · rw [if_neg e1]
      by_cases e2 : r = i
      · subst e2; rw [if_pos rfl, if_pos rfl]
      · rw [if_neg e2, if_neg e2, if_neg e1]
theorem gdet_id (n : Nat) : gdet n idm = 1 := by rw [gdet_det]; exact det_one n
theorem rank_id (n : Nat) : (gs n idm).at' = n := by
  have h := (rank_full (gs_rank n idm)).2
  refine h.2 ?_
  rw [← gdet_det, gdet_id]; decide
end Go.Proofs.Ytddkocidfhaofaa.AM
/- Systems by leading parts: the plain laws. -/
namespace Go.Proofs.Ytddkocidfhaofaa.AM
open Go.Proofs.Ytddkocidfhaofaa.PN
open Go.Proofs.Ytddkocidfhaofaa.LA (Mt S S_succ S_zero S_congr app app_sub app_mul app_add det Toe Two two_step two_minor two_break longer later app_longer)
set_option linter.unusedVariables false
set_option linter.unusedSimpArgs false
set_option maxRecDepth 8000
set_option maxHeartbeats 8000000
theorem det_1 (F : Mt) : det 1 F = F 0 0 := by
  show S 1 (fun i => LA.sg i * F i 0 * det 0 (LA.del i F)) = _
  rw [S_succ, S_zero]
  show 0 + 1 * F 0 0 * 1 = _
  rw [Rat.zero_add, Rat.one_mul, Rat.mul_one]
theorem det_0 (F : Mt) : det 0 F = 1 := rfl
theorem mul_over {x : Rat} (h : x ≠ 0) : 1 / x * x = 1 := by rw [Rat.div_def, Rat.one_mul, Rat.inv_mul_cancel _ h]
variable {n : Nat} {F : Nat → Nat → Rat}
theorem lv_two (ht : Toe n F) : ∀ k, k + 1 ≤ n → (∀ j, j < k + 1 → lvd F j ≠ 0) → Two F (k + 1) (lvf F (k + 1)) (lvl F (k + 1)) ∧ det (k + 1) F ≠ 0 := by
  intro k
  induction k with
  | zero =>
    intro hn hd
    have h0 : F 0 0 ≠ 0 := hd 0 (by decide)
    have e : S 1 (fun j => F 0 j * (1 / F 0 0)) = 1 := by rw [S_succ, S_zero, Rat.zero_add, Rat.mul_comm]; exact mul_over h0
    refine ⟨⟨fun i hi => ?_, fun i hi => ?_⟩, by rw [det_1]; exact h0⟩
    · obtain rfl : i = 0 := by omega
      rw [if_pos rfl]; exact e
    · obtain rfl : i = 0 := by omega
      rw [if_pos rfl]; exact e
  | succ k ih =>
    intro hn hd
    obtain ⟨h1, h2⟩ := ih (by omega) fun j hj => hd j (by omega)
    have hD : lvd F (k + 1) ≠ 0 := hd (k + 1) (by omega)
    have eD : lvd F (k + 1) = 1 - lvx F (k + 1) * lvy F (k + 1) := if_neg (Nat.succ_ne_zero k)
    have := two_step (n := n) (x := lvx F (k + 1)) (y := lvy F (k + 1)) (by_ := 1 / lvd F (k + 1)) (Nat.succ_pos k) (by omega) ht h1 rfl rfl (by rw [← eD]; exact mul_over hD)
    have h3 : Two F (k + 1 + 1) (lvf F (k + 1 + 1)) (lvl F (k + 1 + 1)) := by
      have e1 : lvf F (k + 1 + 1) = fun j => (longer (k + 1) (lvf F (k + 1)) j - lvx F (k + 1) * later (lvl F (k + 1)) j) * (1 / lvd F (k + 1)) := funext fun i => lvf_succ F (Nat.succ_ne_zero k) i
      have e2 : lvl F (k + 1 + 1) = fun j => (later (lvl F (k + 1)) j - lvy F (k + 1) * longer (k + 1) (lvf F (k + 1)) j) * (1 / lvd F (k + 1)) := funext fun i => lvl_succ F (Nat.succ_ne_zero k) i
      rw [e1, e2]; exact this
    exact ⟨h3, two_minor h2 h3⟩
theorem lv_det (ht : Toe n F) {k : Nat} (hk : k ≤ n) (hd : ∀ j, j < k → lvd F j ≠ 0) : det k F ≠ 0 := by
  cases k with
  | zero => rw [det_0]; decide
  | succ k => exact (lv_two ht k hk hd).2
theorem lv_zero_det (ht : Toe n F) {k : Nat} (hk : k < n) (hd : ∀ j, j < k → lvd F j ≠ 0) (hz : lvd F k = 0) : det (k + 1) F = 0 := by
  cases k with
  | zero => rw [det_1]; exact hz
  | succ k =>
    have eD : lvd F (k + 1) = 1 - lvx F (k + 1) * lvy F (k + 1) := if_neg (Nat.succ_ne_zero k)
    exact two_break (n := n) (x := lvx F (k + 1)) (y := lvy F (k + 1)) hk ht (lv_two ht k (by omega) hd).1 (lv_det ht (by omega) fun j hj => hd j (by omega)) rfl rfl (by rw [← eD]; exact hz)
theorem lvs_app (ht : Toe n F) {b : Nat → Rat} : ∀ k, k ≤ n → (∀ j, j < k → lvd F j ≠ 0) → ∀ i, i < k → app k F (lvs F b k) i = b i := by
  intro k
  induction k with
  | zero => intro _ _ i hi; exact absurd hi (Nat.not_lt_zero _)
  | succ k ih =>
    intro hk hd i hi
    have ih := ih (by omega) fun j hj => hd j (by omega)
    obtain ⟨⟨_, hl⟩, _⟩ := lv_two ht k hk hd
    have e : lvs F b (k + 1) = fun j => longer k (lvs F b k) j - -(b k - S k fun j => F k j * lvs F b k j) * lvl F (k + 1) j := rfl
    rw [e, app_sub, app_mul, app_longer, hl i hi]
    by_cases h : i = k
    · subst h
      rw [if_pos rfl]
      show (S i fun j => F i j * lvs F b i j) - _ = _
      generalize (S i fun j => F i j * lvs F b i j) = x
      grind
    · rw [if_neg (by omega), ih i (by omega)]; grind
/-- The least leading minor that is nought. -/
noncomputable def lstD (F : Nat → Nat → Rat) (n : Nat) : Nat := if fnd (fun k => gdet (k + 1) F = 0) n 0 < n then fnd (fun k => gdet (k + 1) F = 0) n 0 + 1 else 0
theorem lst_cases (ht : Toe n F) : (lstD F n = 0 ∧ (∀ k, k < n → lvd F k ≠ 0) ∧ det n F ≠ 0) ∨ ∃ K, K < n ∧ lstD F n = K + 1 ∧ (∀ k, k < K → lvd F k ≠ 0) ∧ lvd F K = 0 := by
  obtain ⟨_, h2, h3, h4⟩ := fnd_le (fun k => gdet (k + 1) F = 0) n 0
  have key : ∀ K, K ≤ n → (∀ k, k < K → gdet (k + 1) F ≠ 0) → ∀ k, k < K → lvd F k ≠ 0 := by
    intro K hK h k
    induction k using Nat.strongRecOn with
    | _ k ih =>
      intro hk hz
      have := lv_zero_det ht (show k < n by omega) (fun j hj => ih j hj (by omega)) hz
      exact h k hk (by rw [gdet_det]; exact this)
  unfold lstD
  split
  · rename_i h
    refine .inr ⟨_, h, rfl, key _ (by omega) fun k hk => h3 k (Nat.zero_le _) hk, ?_⟩
    apply Classical.byContradiction
    intro hne
    have hall : ∀ j, j < fnd (fun k => gdet (k + 1) F = 0) n 0 + 1 → lvd F j ≠ 0 := fun j hj => by
      by_cases e : j = fnd (fun k => gdet (k + 1) F = 0) n 0
      · rw [e]; exact hne
      · exact key _ (by omega) (fun k hk => h3 k (Nat.zero_le _) hk) j (by omega)
    have hdet := lv_det ht (k := fnd (fun k => gdet (k + 1) F = 0) n 0 + 1) h hall
    have := h4 (by omega)
    rw [gdet_det] at this
    exact hdet this
  · rename_i h
    have hall := key n (Nat.le_refl _) fun k hk => h3 k (Nat.zero_le _) (by omega)
    exact .inl ⟨rfl, hall, lv_det ht (Nat.le_refl _) hall⟩
end Go.Proofs.Ytddkocidfhaofaa.AM
/- Rows of numbers as a caller's own. -/
namespace Go.Proofs.Ytddkocidfhaofaa.AM
open Go Go.RowKit Go.Proofs.Ytddkocidfhaofaa.PN Go.Proofs.Ytddkocidfhaofaa.V
open Go.Proofs.Ytddkocidfhaofaa.LA (S S_succ S_zero S_congr)
set_option linter.unusedVariables false
set_option linter.unusedSimpArgs false
set_option maxRecDepth 4000
set_option maxHeartbeats 4000000
theorem row_out {s : St} {n : Nat} {v f : Nat → RA} {F : Nat → Blk} {a : Nat} (h5 : s.env 4 = some (.own a 0)) (ha : s.heap a = some (1, F)) (hF : F 0 = .rats n f) (hf : ∀ i, i < n → f i = v i) (h60 : s.used 60 = false) : Imp s (stl [(4, .own 63 0)] [(63, (1, fun _ => .rats n v))]) := by
  refine imp_stl (h := [(63, (1, fun _ => .rats n v))]) (s1 63 a) (fun h => by rw [h60] at h; cases h) (fun g r g' r' h1 h2 => s1_inj 63 a g r g' r' h1 h2) ⟨⟨_, h5, Le.own (by unfold s1; rw [if_pos rfl]), rfl⟩, True.intro⟩ ⟨fun r hr => ?_, trivial⟩ (by rw [h60]; rfl)
  obtain rfl : r = 0 := by omega
  have e1 : s1 63 a 63 0 = (a, 0) := by unfold s1; rw [if_pos rfl]
  rw [e1]
  refine ⟨1, F, ha, Nat.zero_lt_one, ?_, trivial⟩
  show BLe _ (F 0) _
  rw [hF]; exact blen rfl hf
theorem k_rowo {zs : List Int} {n : Nat} (h0 : 0 < n) (hn : n ≤ 1000) (hz : ∀ i, i < zs.length → Fits .i64 (zs.getD i 0)) : HasH Try.prog 8 [] [.seq .i64 zs, .i n] (.own 63 0) [(63, (1, fun _ => .rats n (fun i => .q (rowq zs i))))] := by
  refine hasH_of Try.func8 (by kernel_rfl) rfl Try.ntmps8 Try.results8 rfl rfl rfl ?_
  refine run0 ?_
  refine awp_loop (fun m s => ∃ k, k ≤ n ∧ m = n - k ∧ s = rowS [(0, .seq .i64 zs), (1, .i n), (6, .i (k : Int))] (fun i => .q (rowq zs i)) k) n _ (imp_id (h := []) (e := [(5, .v (.slice none 0 0)), (0, .seq .i64 zs), (1, .i n), (6, .i ((0 : Nat) : Int))]) ?_ ?_) ⟨0, Nat.zero_le _, rfl, rfl⟩ ?_
  · exact eA
  · exact True.intro
  · rintro m s ⟨k, hk, rfl, rfl⟩
    have hx : ∀ k : Nat, k < zs.length → rowx zs k = zs.getD k 0 := fun k h => if_pos h
    have hy : ∀ k : Nat, ¬ k < zs.length → rowx zs k = 3 * (k : Int) + 1 := fun k h => if_neg h
    rcases k with _ | k
    · refine run0 ?_
      refine awp_if rfl (fun h => ?_) (fun h => ?_)
      · have h : 0 < n := by omega
        refine run0 ?_
        refine awp_if rfl (fun h1 => ?_) (fun h1 => ?_)
        · have h1' : (((0 : Nat) : Int)) < (zs.length : Int) := h1
          have h1 : 0 < zs.length := by omega
          have hf := hz 0 h1
          repeat(first|refine run1 ?_|((with_reducible apply st_call);exact rfl;exact rfl;exact rfl;first|(exact k_small hf))|((with_reducible apply st_callg);exact rfl;exact rfl;(first|exact rfl|assumption);exact rfl;exact rfl;exact rfl;first|(exact k_small hf)))
          refine q_loop ?_ (row_close (k := 0) (a := 28) rfl rfl rfl ?_ rfl ?_) ⟨0 + 1, ?_, rfl, rfl⟩
          · omega
          · intro i hi
            obtain rfl : i = 0 := by omega
            exact congrArg (fun x => RA.q (smal x)) (hx 0 h1).symm
          · refine alle rfl (Le.eq rfl rfl) True.intro (alle rfl (Le.eq rfl rfl) True.intro (alle rfl (Le.eq rfl rfl) True.intro True.intro))
          · omega
        · have h1' : ¬ (((0 : Nat) : Int)) < (zs.length : Int) := h1
          have h1 : ¬ 0 < zs.length := by omega
          have hf : Fits .i64 (3 * ((0 : Nat) : Int) + 1) := by show _ ∧ _; omega
          repeat(first|refine run1 ?_|((with_reducible apply st_call);exact rfl;exact rfl;exact rfl;first|(exact k_small hf))|((with_reducible apply st_callg);exact rfl;exact rfl;(first|exact rfl|assumption);exact rfl;exact rfl;exact rfl;first|(exact k_small hf)))
          refine q_loop ?_ (row_close (k := 0) (a := 28) rfl rfl rfl ?_ rfl ?_) ⟨0 + 1, ?_, rfl, rfl⟩
          · omega
          · intro i hi
            obtain rfl : i = 0 := by omega
            exact congrArg (fun x => RA.q (smal x)) (hy 0 h1).symm
          · refine alle rfl (Le.eq rfl rfl) True.intro (alle rfl (Le.eq rfl rfl) True.intro (alle rfl (Le.eq rfl rfl) True.intro True.intro))
          · omega
      · obtain rfl : 0 = n := by omega
        refine run0 ?_
        exact absurd h0 (Nat.lt_irrefl _)
    · refine run0 ?_
      refine awp_if rfl (fun h => ?_) (fun h => ?_)
      · have h : (k + 1) < n := by omega
        refine run0 ?_
        refine awp_if rfl (fun h1 => ?_) (fun h1 => ?_)
        · have h1' : ((((k + 1) : Nat) : Int)) < (zs.length : Int) := h1
          have h1 : (k + 1) < zs.length := by omega
          have hf := hz (k + 1) h1
          repeat(first|refine run1 ?_|((with_reducible apply st_call);exact rfl;exact rfl;exact rfl;first|(exact k_small hf))|((with_reducible apply st_callg);exact rfl;exact rfl;(first|exact rfl|assumption);exact rfl;exact rfl;exact rfl;first|(exact k_small hf)))
          refine q_loop ?_ (row_close (k := (k + 1)) (a := 28) rfl rfl rfl ?_ rfl ?_) ⟨(k + 1) + 1, ?_, rfl, rfl⟩
          · omega
          · intro i hi
            by_cases e : i < k + 1
            · exact if_pos e
            · obtain rfl : i = k + 1 := by omega
              refine (if_neg (Nat.lt_irrefl _)).trans ?_
              rw [Nat.sub_self]
              exact congrArg (fun x => RA.q (smal x)) (hx (k + 1) h1).symm
          · refine alle rfl (Le.eq rfl rfl) True.intro (alle rfl (Le.eq rfl rfl) True.intro (alle rfl (Le.eq rfl rfl) True.intro True.intro))
          · omega
        · have h1' : ¬ ((((k + 1) : Nat) : Int)) < (zs.length : Int) := h1
          have h1 : ¬ (k + 1) < zs.length := by omega
          have hf : Fits .i64 (3 * (((k + 1) : Nat) : Int) + 1) := by show _ ∧ _; omega
          repeat(first|refine run1 ?_|((with_reducible apply st_call);exact rfl;exact rfl;exact rfl;first|(exact k_small hf))|((with_reducible apply st_callg);exact rfl;exact rfl;(first|exact rfl|assumption);exact rfl;exact rfl;exact rfl;first|(exact k_small hf)))
          refine q_loop ?_ (row_close (k := (k + 1)) (a := 28) rfl rfl rfl ?_ rfl ?_) ⟨(k + 1) + 1, ?_, rfl, rfl⟩
          · omega
          · intro i hi
            by_cases e : i < k + 1
            · exact if_pos e
            · obtain rfl : i = k + 1 := by omega
              refine (if_neg (Nat.lt_irrefl _)).trans ?_
              rw [Nat.sub_self]
              exact congrArg (fun x => RA.q (smal x)) (hy (k + 1) h1).symm
          · refine alle rfl (Le.eq rfl rfl) True.intro (alle rfl (Le.eq rfl rfl) True.intro (alle rfl (Le.eq rfl rfl) True.intro True.intro))
          · omega
      · obtain rfl : (k + 1) = n := by omega
        refine run0 ?_
        exact ⟨.inr rfl, [(4, .own 63 0)], row_out rfl rfl rfl (fun _ _ => rfl) rfl, .one (.tmp rfl)⟩
end Go.Proofs.Ytddkocidfhaofaa.AM

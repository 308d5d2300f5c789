/- Joined texts, 17: GenD GenE Sml LawB RowO MkA MkB MkC MkE TuA MkD TuB PFa FsA DnA DnB DnC FsB. -/
import Derived.Test.YtdnmoggifjlbiaaGreatJLawTurnedKnown16
import Derived.Test.YtdnmoggifjlbiaaGreatJLawTurnedKnown13
import Derived.Test.YtdnmoggifjlbiaaGreatJLawTurnedKnown15
import Derived.Test.YtdnmoggifjlbiaaGreatJLawTurnedKnown11
import Derived.Test.YtdnmoggifjlbiaaGreatJLawTurnedKnown12
set_option linter.unusedVariables false
set_option linter.unusedSimpArgs false
/- Package gen: entries, of each kind. -/
namespace Go.Proofs.YtdnmoggifjlbiaaGreat.AM
open Go Go.RowKit Go.Proofs.YtdnmoggifjlbiaaGreat.PN Go.Proofs.YtdnmoggifjlbiaaGreat.V
open Go.Proofs.YtdnmoggifjlbiaaGreat.LA (S S_succ S_zero S_congr)
set_option linter.unusedVariables false
set_option linter.unusedSimpArgs false
set_option maxRecDepth 8000
set_option maxHeartbeats 8000000
theorem kdec {k a : Nat} (h : k = a) {b : Int} (e : (a : Int) = b) : decide ((k : Int) = b) = true := decide_eq_true (by rw [h, e])
theorem kndec {k a : Nat} (h : k = a) {b : Int} (e : (a : Int) ≠ b) : decide ((k : Int) = b) = false := decide_eq_false (by rw [h]; exact e)
theorem ge_entry {g : GD} (h : g.OK) {i j : Nat} (hi : i < g.n) (hj : j < g.n) : Has Tryz.prog 88 [g.v, .i i, .i j] (.q (gent g i j)) := by
  have n8 := h.n8; have r3 := h.r3; have k1 := h.k1; have k7 := h.k7; have sm := h.sm
  obtain ⟨m1, m2, m3, m4⟩ := ok_lens h
  have hk : g.k = 1 ∨ g.k = 2 ∨ g.k = 3 ∨ g.k = 4 ∨ g.k = 5 ∨ g.k = 6 ∨ g.k = 7 := by omega
  have hin : i * g.r + g.r ≤ g.n * g.r := by rw [← Nat.succ_mul]; exact Nat.mul_le_mul_right _ hi
  have hjn : j * g.r + g.r ≤ g.n * g.r := by rw [← Nat.succ_mul]; exact Nat.mul_le_mul_right _ hj
  unfold gent
  refine has_of Tryz.func88 (by kernel_rfl) rfl Tryz.ntmps88 Tryz.results88 rfl rfl rfl ?_
  refine run0p ?_
  rcases hk with hk | hk | hk | hk | hk | hk | hk
  · have w := sm.A (i + g.n - 1 - j) (by omega)
    have e1 : ((i : Int) - (j : Int) + (g.n : Int) - 1).toNat = i + g.n - 1 - j := by omega
    have w0 : wt 0 ≤ 1 := by decide
    refine awp_yes rfl (kdec hk rfl) ?_
    refine run0p ?_
    rw [e1]
    repeat(first|refine run1p ?_|((with_reducible apply st_call);exact rfl;exact rfl;exact rfl;first|(exact ge_zero)|(exact h_add (by omega) (by omega)))|((with_reducible apply st_callg);exact rfl;exact rfl;(first|exact rfl|assumption);exact rfl;exact rfl;exact rfl;first|(exact ge_zero)|(exact h_add (by omega) (by omega))))
    refine ⟨.inr rfl, _, Imp.refl _, .one (.rat rfl rfl (by decide) rfl (by decide) ?_)⟩
    rw [hk]; exact congrArg RA.q (Rat.add_zero _)
  · have w := sm.A (i + j) (by omega)
    have e1 : ((i : Int) + (j : Int)).toNat = i + j := by omega
    have w0 : wt 0 ≤ 1 := by decide
    refine awp_no rfl (kndec hk (by decide)) ?_
    refine run0p ?_
    refine awp_yes rfl (kdec hk rfl) ?_
    refine run0p ?_
    rw [e1]
    repeat(first|refine run1p ?_|((with_reducible apply st_call);exact rfl;exact rfl;exact rfl;first|(exact ge_zero)|(exact h_add (by omega) (by omega)))|((with_reducible apply st_callg);exact rfl;exact rfl;(first|exact rfl|assumption);exact rfl;exact rfl;exact rfl;first|(exact ge_zero)|(exact h_add (by omega) (by omega))))
    refine ⟨.inr rfl, _, Imp.refl _, .one (.rat rfl rfl (by decide) rfl (by decide) ?_)⟩
    rw [hk]; exact congrArg RA.q (Rat.add_zero _)
  · have hlt : (i + g.n - j) % g.n < g.n := Nat.mod_lt _ (by omega)
    have w := sm.A ((i + g.n - j) % g.n) (by omega)
    have w0 : wt 0 ≤ 1 := by decide
    have e0 : Int.tmod ((i : Int) - (j : Int) + (g.n : Int)) (g.n : Int) = (((i + g.n - j) % g.n : Nat) : Int) := by
      rw [Int.tmod_eq_emod_of_nonneg (by omega), show ((i : Int) - (j : Int) + (g.n : Int)) = ((i + g.n - j : Nat) : Int) by omega]
      rfl
    have e1 : (Int.tmod ((i : Int) - (j : Int) + (g.n : Int)) (g.n : Int)).toNat = (i + g.n - j) % g.n := by rw [e0]; rfl
    have q1 : 0 ≤ Int.tmod ((i : Int) - (j : Int) + (g.n : Int)) (g.n : Int) := by rw [e0]; omega
    have q2 : Int.tmod ((i : Int) - (j : Int) + (g.n : Int)) (g.n : Int) < g.la := by rw [e0]; omega
    refine awp_no rfl (kndec hk (by decide)) ?_
    refine run0p ?_
    refine awp_no rfl (kndec hk (by decide)) ?_
    refine run0p ?_
    refine awp_yes rfl (kdec hk rfl) ?_
    refine run0p ?_
    rw [e1]
    repeat(first|refine run1p ?_|((with_reducible apply st_call);exact rfl;exact rfl;exact rfl;first|(exact ge_zero)|(exact h_add (by omega) (by omega)))|((with_reducible apply st_callg);exact rfl;exact rfl;(first|exact rfl|assumption);exact rfl;exact rfl;exact rfl;first|(exact ge_zero)|(exact h_add (by omega) (by omega))))
    refine ⟨.inr rfl, _, Imp.refl _, .one (.rat rfl rfl (by decide) rfl (by decide) ?_)⟩
    rw [hk]; exact congrArg RA.q (Rat.add_zero _)
  · have w := sm.A i (by omega)
    refine awp_no rfl (kndec hk (by decide)) ?_
    refine run0p ?_
    refine awp_no rfl (kndec hk (by decide)) ?_
    refine run0p ?_
    refine awp_no rfl (kndec hk (by decide)) ?_
    refine run0p ?_
    refine awp_yes rfl (kdec hk rfl) ?_
    repeat(first|refine run1p ?_|((with_reducible apply st_call);exact rfl;exact rfl;exact rfl;first|(exact ge_power (p := g.A i) (n := j) (by omega) (by omega)))|((with_reducible apply st_callg);exact rfl;exact rfl;(first|exact rfl|assumption);exact rfl;exact rfl;exact rfl;first|(exact ge_power (p := g.A i) (n := j) (by omega) (by omega))))
    refine ⟨.inr rfl, _, Imp.refl _, .one (.rat rfl rfl (by decide) rfl (by decide) ?_)⟩
    rw [hk]; rfl
  · have w0 : wt 1 ≤ 1 := by decide
    refine awp_no rfl (kndec hk (by decide)) ?_
    refine run0p ?_
    refine awp_no rfl (kndec hk (by decide)) ?_
    refine run0p ?_
    refine awp_no rfl (kndec hk (by decide)) ?_
    refine run0p ?_
    refine awp_no rfl (kndec hk (by decide)) ?_
    refine run0p ?_
    refine awp_yes rfl (kdec hk rfl) ?_
    repeat(first|refine run1p ?_|((with_reducible apply st_call);exact rfl;exact rfl;exact rfl;first|(exact ge_one)|(exact Has.ag (g7 rfl rfl rfl rfl rfl rfl rfl) (ge_over (a := 1) sm (by omega) (by omega) (by omega) (h.ne i (by omega) j (by omega)))))|((with_reducible apply st_callg);exact rfl;exact rfl;(first|exact rfl|assumption);exact rfl;exact rfl;exact rfl;first|(exact ge_one)|(exact Has.ag (g7 rfl rfl rfl rfl rfl rfl rfl) (ge_over (a := 1) sm (by omega) (by omega) (by omega) (h.ne i (by omega) j (by omega))))))
    refine ⟨.inr rfl, _, Imp.refl _, .one (.rat rfl rfl (by decide) rfl (by decide) ?_)⟩
    rw [hk]; rfl
  · obtain ⟨hg, hh⟩ := m4 (.inl hk)
    refine awp_no rfl (kndec hk (by decide)) ?_
    refine run0p ?_
    refine awp_no rfl (kndec hk (by decide)) ?_
    refine run0p ?_
    refine awp_no rfl (kndec hk (by decide)) ?_
    refine run0p ?_
    refine awp_no rfl (kndec hk (by decide)) ?_
    refine run0p ?_
    refine awp_no rfl (kndec hk (by decide)) ?_
    refine run0p ?_
    refine awp_no rfl (kndec hk (by decide)) ?_
    refine run0p ?_
    repeat(first|refine run1p ?_|((with_reducible apply st_call);exact rfl;exact rfl;exact rfl;first|(exact ge_zero))|((with_reducible apply st_callg);exact rfl;exact rfl;(first|exact rfl|assumption);exact rfl;exact rfl;exact rfl;first|(exact ge_zero)))
    have wS : ∀ m, m ≤ 8 → m ≤ min i j + 1 → wt (S m fun m => rdot g (i - m) (j - m)) ≤ 8 * 29 + 1 := fun m hm8 hm => by
      have := wt_sum (n := m) (K := 28) (f := fun m => rdot g (i - m) (j - m)) fun u hu => by
        have h1 : (i - u) * g.r + g.r ≤ g.n * g.r := by rw [← Nat.succ_mul]; exact Nat.mul_le_mul_right _ (by omega)
        have h2 : (j - u) * g.r + g.r ≤ g.n * g.r := by rw [← Nat.succ_mul]; exact Nat.mul_le_mul_right _ (by omega)
        exact rdot_wt sm (by omega) (by omega) r3
      omega
    refine awp_loop (fun m' s => ∃ m, m ≤ min i j + 1 ∧ m' = min i j + 1 - m ∧ s = stl [(1, .i i), (2, .i j), (3, .ptr 3 0 0), (6, .rptr 6 0 0), (7, .rptr 7 0 0), (8, .i (m : Int))] [(3, (1, fun _ => .ones 26 7 g.f)), (6, (1, fun _ => .rats 1 (fun _ => ra0))), (7, (1, fun _ => .rats 1 (fun _ => .q (S m fun m => rdot g (i - m) (j - m)))))]) (min i j + 1) _ (imp_id ?_ ?_) ⟨0, Nat.zero_le _, rfl, rfl⟩ ?_
    · exact eA
    · refine allh rfl (by decide) (bleo rfl fun _ _ => Le.id rfl) (fun i _ => g.fok _ i) ?_
      exact hA
    · rintro m' s ⟨m, hm, rfl, rfl⟩
      have w1 := wS m (by omega) hm
      refine run0p ?_
      refine awp_if rfl (fun h' => ?_) (fun h' => ?_)
      · have h' : m ≤ min i j := by omega
        have h1 : (i - m) * g.r + g.r ≤ g.n * g.r := by rw [← Nat.succ_mul]; exact Nat.mul_le_mul_right _ (by omega)
        have h2 : (j - m) * g.r + g.r ≤ g.n * g.r := by rw [← Nat.succ_mul]; exact Nat.mul_le_mul_right _ (by omega)
        have w2 := rdot_wt (g := g) (i := i - m) (j := j - m) sm (by omega) (by omega) r3
        have ei : (i : Int) - (m : Int) = ((i - m : Nat) : Int) := by omega
        have ej : (j : Int) - (m : Int) = ((j - m : Nat) : Int) := by omega
        refine run0p ?_
        rw [ei, ej]
        repeat(first|refine run1p ?_|((with_reducible apply st_call);exact rfl;exact rfl;exact rfl;first|(exact Has.ag (g7 rfl rfl rfl rfl rfl rfl rfl) (ge_dot (i := i - m) (j := j - m) sm r3 (by omega) (by omega) (by omega) (by omega)))|(exact h_add (by omega) (by omega)))|((with_reducible apply st_callg);exact rfl;exact rfl;(first|exact rfl|assumption);exact rfl;exact rfl;exact rfl;first|(exact Has.ag (g7 rfl rfl rfl rfl rfl rfl rfl) (ge_dot (i := i - m) (j := j - m) sm r3 (by omega) (by omega) (by omega) (by omega)))|(exact h_add (by omega) (by omega))))
        refine q_loop ?_ (imp_id ?_ ?_) ⟨m + 1, ?_, rfl, rfl⟩
        · omega
        · exact eA
        · refine allh rfl (by decide) (bleo rfl fun _ _ => Le.id rfl) (fun i _ => g.fok _ i) ?_
          exact hA
        · omega
      · have em : min i j + 1 = m := by omega
        refine run0p ?_
        refine ⟨.inr rfl, _, Imp.refl _, .one (.rat rfl rfl (by decide) rfl (by decide) ?_)⟩
        rw [hk, ← em]; rfl
  · obtain ⟨hg, hh⟩ := m4 (.inr hk)
    have w0 := rdot_wt (g := g) (i := i) (j := j) sm (by omega) (by omega) r3
    refine awp_no rfl (kndec hk (by decide)) ?_
    refine run0p ?_
    refine awp_no rfl (kndec hk (by decide)) ?_
    refine run0p ?_
    refine awp_no rfl (kndec hk (by decide)) ?_
    refine run0p ?_
    refine awp_no rfl (kndec hk (by decide)) ?_
    refine run0p ?_
    refine awp_no rfl (kndec hk (by decide)) ?_
    refine run0p ?_
    refine awp_yes rfl (kdec hk rfl) ?_
    repeat(first|refine run1p ?_|((with_reducible apply st_call);exact rfl;exact rfl;exact rfl;first|(exact Has.ag (g7 rfl rfl rfl rfl rfl rfl rfl) (ge_dot sm r3 (by omega) (by omega) (by omega) (by omega)))|(exact Has.ag (g7 rfl rfl rfl rfl rfl rfl rfl) (ge_over (a := rdot g i j) sm (by omega) (by omega) (by omega) (h.ne i (by omega) j (by omega)))))|((with_reducible apply st_callg);exact rfl;exact rfl;(first|exact rfl|assumption);exact rfl;exact rfl;exact rfl;first|(exact Has.ag (g7 rfl rfl rfl rfl rfl rfl rfl) (ge_dot sm r3 (by omega) (by omega) (by omega) (by omega)))|(exact Has.ag (g7 rfl rfl rfl rfl rfl rfl rfl) (ge_over (a := rdot g i j) sm (by omega) (by omega) (by omega) (h.ne i (by omega) j (by omega))))))
    refine ⟨.inr rfl, _, Imp.refl _, .one (.rat rfl rfl (by decide) rfl (by decide) ?_)⟩
    rw [hk]; rfl
end Go.Proofs.YtdnmoggifjlbiaaGreat.AM
/- Package gen: the whole matrix. -/
namespace Go.Proofs.YtdnmoggifjlbiaaGreat.AM
open Go Go.RowKit Go.Proofs.YtdnmoggifjlbiaaGreat.PN Go.Proofs.YtdnmoggifjlbiaaGreat.V
open Go.Proofs.YtdnmoggifjlbiaaGreat.LA (S S_succ S_zero S_congr)
set_option linter.unusedVariables false
set_option linter.unusedSimpArgs false
set_option maxRecDepth 8000
set_option maxHeartbeats 8000000
theorem ge_expand {g : GD} (h : g.OK) : Has Tryz.prog 53 [g.v] (.mat true g.n (fun _ => g.n) (fun i j => .q (gent g i j))) := by
  have n8 := h.n8; have n1 := h.n1
  have hrow : ∀ (k : Nat) (U : Nat → Bool) (i : Nat), (grow (fun i => AV.row true g.n (fun j => .q (gent g i j))) (.v (.slice none 0 0)) k i).ok U := fun k U i =>
    grow_ok (v := fun i => AV.row true g.n (fun j => RA.q (gent g i j))) (z := .v (.slice none 0 0)) (fun _ => True.intro) True.intro i
  refine has_of Tryz.func53 (by kernel_rfl) rfl Tryz.ntmps53 Tryz.results53 rfl rfl rfl ?_
  repeat(first|refine run1 ?_|((with_reducible apply st_call);exact rfl;exact rfl;exact rfl;first|(exact Has.ag (g7 rfl rfl rfl rfl rfl rfl rfl) (g_check h)))|((with_reducible apply st_callg);exact rfl;exact rfl;(first|exact rfl|assumption);exact rfl;exact rfl;exact rfl;first|(exact Has.ag (g7 rfl rfl rfl rfl rfl rfl rfl) (g_check h))))
  refine awp_no rfl rfl ?_
  refine run0 ?_
  refine awp_loop (fun m' s => ∃ k, k ≤ g.n ∧ m' = g.n - k ∧ s = stl [(1, .ptr 1 0 0), (3, .own 11 0), (13, .i g.n), (14, .i (k : Int))] [(1, (1, fun _ => .ones 26 7 g.f)), (11, (1, fun _ => .ones WT g.n (grow (fun i => .row true g.n (fun j => .q (gent g i j))) (.v (.slice none 0 0)) k)))]) g.n _ (imp_id ?_ ?_) ⟨0, Nat.zero_le _, rfl, rfl⟩ ?_
  · exact eA
  · refine allh rfl (by decide) (bleo rfl fun _ _ => Le.id rfl) (fun i _ => g.fok _ i) (allh rfl (by decide) (bleo rfl fun i hi => Le.id rfl) ?_ True.intro)
    intro i hi; exact True.intro
  · rintro m' s ⟨k, hk, rfl, rfl⟩
    refine run0 ?_
    refine awp_if rfl (fun h => ?_) (fun h => ?_)
    · have h : k < g.n := by omega
      refine run0 ?_
      rw [updN_same]
      refine run0 ?_
      refine awp_loop (fun m' s => ∃ j, j ≤ g.n ∧ m' = g.n - j ∧ s = stl [(1, .ptr 1 0 0), (3, .own 11 0), (4, .i (k : Int)), (13, .i g.n), (14, .i (k : Int)), (27, .i g.n), (28, .i (j : Int))] [(1, (1, fun _ => .ones 26 7 g.f)), (11, (1, fun _ => .ones WT g.n (updN (grow (fun i => .row true g.n (fun j => .q (gent g i j))) (.v (.slice none 0 0)) k) k (.own 21 0)))), (21, (1, fun _ => .rats g.n (grow (fun j => .q (gent g k j)) ra0 j)))]) g.n _ (imp_id ?_ ?_) ⟨0, Nat.zero_le _, rfl, rfl⟩ ?_
      · exact eA
      · refine allh rfl (by decide) (bleo rfl fun _ _ => Le.id rfl) (fun i _ => g.fok _ i) (allh rfl (by decide) (bleo rfl fun i hi => Le.id rfl) ?_ (allh rfl (by decide) (blen rfl fun i hi => rfl) True.intro True.intro))
        intro i hi
        by_cases e : i = k
        · subst e; rw [updN_same]; rfl
        · rw [updN_ne _ _ e]; exact hrow _ _ i
      · rintro m' s ⟨j, hj, rfl, rfl⟩
        refine run0 ?_
        refine awp_if rfl (fun h' => ?_) (fun h' => ?_)
        · have h' : j < g.n := by omega
          refine run0 ?_
          rw [show updN (grow (fun i => AV.row true g.n (fun j => .q (gent g i j))) (.v (.slice none 0 0)) k) k (.own 21 0) ((k : Int)).toNat = .own 21 0 from updN_same _ _ _]
          repeat(first|refine run1 ?_|((with_reducible apply st_call);exact rfl;exact rfl;exact rfl;first|(exact Has.ag (g7 rfl rfl rfl rfl rfl rfl rfl) (ge_entry (by assumption) h h')))|((with_reducible apply st_callg);exact rfl;exact rfl;(first|exact rfl|assumption);exact rfl;exact rfl;exact rfl;first|(exact Has.ag (g7 rfl rfl rfl rfl rfl rfl rfl) (ge_entry (by assumption) h h'))))
          refine q_loop ?_ (imp_id ?_ ?_) ⟨j + 1, ?_, rfl, rfl⟩
          · omega
          · exact eA
          · refine allh rfl (by decide) (bleo rfl fun _ _ => Le.id rfl) (fun i _ => g.fok _ i) (allh rfl (by decide) (bleo rfl fun i hi => Le.id rfl) ?_ (allh rfl (by decide) (blen rfl fun i hi => grow_step _ _ j i) True.intro True.intro))
            intro i hi
            by_cases e : i = k
            · subst e; rw [updN_same]; rfl
            · rw [updN_ne _ _ e]; exact hrow _ _ i
          · omega
        · have ej : j = g.n := by omega
          subst ej
          refine run0 ?_
          refine q_loop ?_ ((imp_pub 11 k rfl rfl h (updN_same _ _ _) rfl rfl (by decide)).trans (imp_id ?_ ?_)) ⟨k + 1, ?_, rfl, rfl⟩
          · omega
          · exact eA
          · refine allh rfl (by decide) (bleo rfl fun _ _ => Le.id rfl) (fun i _ => g.fok _ i) (allh rfl (by decide) (bleo rfl fun i hi => ?_) (fun i _ => hrow _ _ i) True.intro)
            by_cases e : i = k
            · subst e
              rw [updN_same, grow_full _ _ (Nat.lt_succ_self i)]
              exact Le.row rfl (fun j hj => grow_full _ _ hj) fun h => h
            · rw [updN_ne _ _ e, updN_ne _ _ e, ← grow_step, updN_ne _ _ e]
              exact Le.id rfl
          · omega
    · have ek : k = g.n := by omega
      subst ek
      refine run0 ?_
      refine ⟨.inr rfl, _, imp_mat 2 (fun _ => g.n) (fun i j => .q (gent g i j)) rfl rfl rfl (fun i hi => grow_full _ _ hi), ?_⟩
      exact .one (.tmp rfl)
end Go.Proofs.YtdnmoggifjlbiaaGreat.AM
/- Small numbers that are drawn: walked. -/
namespace Go.Proofs.YtdnmoggifjlbiaaGreat.AM
open Go Go.RowKit Go.Proofs.YtdnmoggifjlbiaaGreat.PN Go.Proofs.YtdnmoggifjlbiaaGreat.V
open Go.Proofs.YtdnmoggifjlbiaaGreat.LA (S S_succ S_zero S_congr)
set_option linter.unusedVariables false
set_option linter.unusedSimpArgs false
set_option maxRecDepth 4000
set_option maxHeartbeats 4000000
/-! ### Numbers that are drawn -/
/-- A number from 0 to n - 1. -/
def wthn (a n : Int) : Int := if a.tmod n < 0 then a.tmod n + n else a.tmod n
theorem wthn_lt {a n : Int} (hn : 0 < n) : 0 ≤ wthn a n ∧ wthn a n < n := by
  unfold wthn
  have h1 := Int.tmod_lt_of_pos a hn
  have h2 : -n < a.tmod n := Int.lt_tmod_of_pos a hn
  split <;> omega
/-- A small number. -/
def smal (a : Int) : Rat := ((wthn a 41 - 20 : Int) : Rat) / ((1 + wthn (a.tdiv 41) 5 : Int) : Rat)
theorem smal_key : ∀ x : _root_.Fin 41, ∀ y : _root_.Fin 5, wt ((((x.val : Int) - 20 : Int) : Rat) / ((1 + (y.val : Int) : Int) : Rat)) ≤ 1 := by decide +kernel
instance smal_wt (a : Int) : Wt (smal a) 1 := ⟨by
  obtain ⟨h1, h2⟩ := wthn_lt (a := a) (n := 41) (by decide)
  obtain ⟨h3, h4⟩ := wthn_lt (a := a.tdiv 41) (n := 5) (by decide)
  have := smal_key ⟨(wthn a 41).toNat, by omega⟩ ⟨(wthn (a.tdiv 41) 5).toNat, by omega⟩
  rw [show (((wthn a 41).toNat : Nat) : Int) = wthn a 41 by omega, show (((wthn (a.tdiv 41) 5).toNat : Nat) : Int) = wthn (a.tdiv 41) 5 by omega] at this
  exact this⟩
end Go.Proofs.YtdnmoggifjlbiaaGreat.AM
/- Laws of dense matrices: walks: rows of numbers. -/
namespace Go.Proofs.YtdnmoggifjlbiaaGreat.AM
open Go Go.RowKit Go.Proofs.YtdnmoggifjlbiaaGreat.PN Go.Proofs.YtdnmoggifjlbiaaGreat.V
open Go.Proofs.YtdnmoggifjlbiaaGreat.LA (S S_succ S_zero S_congr)
set_option linter.unusedVariables false
set_option linter.unusedSimpArgs false
set_option maxRecDepth 4000
set_option maxHeartbeats 4000000
/-- What a list of whole numbers says at a place. -/
def rowx (zs : List Int) (i : Nat) : Int := if i < zs.length then zs.getD i 0 else 3 * i + 1
def rowq (zs : List Int) (i : Nat) : Rat := smal (rowx zs i)
instance rowq_wt (zs : List Int) (i : Nat) : Wt (rowq zs i) 1 := smal_wt _
def rowS (e : List (Nat × AV)) (v : Nat → RA) : Nat → St
  | 0 => stl ((5, .v (.slice none 0 0)) :: e) []
  | k + 1 => stl ((5, .own 5 0) :: e) [(5, (1, fun _ => .rats (k + 1) v))]
end Go.Proofs.YtdnmoggifjlbiaaGreat.AM
/- Rows of numbers as a caller's own. -/
namespace Go.Proofs.YtdnmoggifjlbiaaGreat.AM
open Go Go.RowKit Go.Proofs.YtdnmoggifjlbiaaGreat.PN Go.Proofs.YtdnmoggifjlbiaaGreat.V
open Go.Proofs.YtdnmoggifjlbiaaGreat.LA (S S_succ S_zero S_congr)
set_option linter.unusedVariables false
set_option linter.unusedSimpArgs false
set_option maxRecDepth 4000
set_option maxHeartbeats 4000000
end Go.Proofs.YtdnmoggifjlbiaaGreat.AM
/- Systems that are drawn: counts, the numbers' places. -/
namespace Go.Proofs.YtdnmoggifjlbiaaGreat.AM
open Go Go.RowKit Go.Proofs.YtdnmoggifjlbiaaGreat.PN Go.Proofs.YtdnmoggifjlbiaaGreat.V
open Go.Proofs.YtdnmoggifjlbiaaGreat.LA (S S_succ S_zero S_congr)
set_option linter.unusedVariables false
set_option linter.unusedSimpArgs false
set_option maxRecDepth 8000
set_option maxHeartbeats 8000000
/-- How many numbers a system has in its rows. -/
def cnA (k n : Nat) : Nat := match k with | 1 | 2 => 2 * n - 1 | 6 => 0 | _ => n
def cnB (k n : Nat) : Nat := match k with | 5 | 7 => n | _ => 0
def cnH (k n r : Nat) : Nat := match k with | 6 | 7 => n * r | _ => 0
/-- A system of which only three numbers are known. -/
def hdf (k n r : Nat) (i : Nat) : AV := [AV.i k, .i n, .i r, .v (.slice none 0 0), .v (.slice none 0 0), .v (.slice none 0 0), .v (.slice none 0 0)].getD i (.v undef)
end Go.Proofs.YtdnmoggifjlbiaaGreat.AM
/- Systems that are drawn: walked. -/
namespace Go.Proofs.YtdnmoggifjlbiaaGreat.AM
open Go Go.RowKit Go.Proofs.YtdnmoggifjlbiaaGreat.PN Go.Proofs.YtdnmoggifjlbiaaGreat.V
open Go.Proofs.YtdnmoggifjlbiaaGreat.LA (S S_succ S_zero S_congr)
set_option linter.unusedVariables false
set_option linter.unusedSimpArgs false
set_option maxRecDepth 8000
set_option maxHeartbeats 8000000
/-- A number of the second row behind r looks. -/
def bpart (A : Nat → Rat) (c : Nat) (x : Rat) : Nat → Rat
  | 0 => x
  | r + 1 => if A r = bpart A c x r then bpart A c x r + ((100 + c : Int) : Rat) else bpart A c x r
/-- The numbers when c columns are done and r rows of the next. -/
def mkL (zs : List Int) (a b c r i : Nat) : Rat :=
  if i < a then rowq zs i else if i < a + b then (if i - a < c then bpart (rowq zs) (i - a) (rowq zs i) a else if i - a = c then bpart (rowq zs) c (rowq zs i) r else rowq zs i) else rowq zs i
/-- Which kind, how large, of which rank. -/
def mkK (kind : Int) : Nat := (1 + wthn kind 7).toNat
def mkN (n most : Int) : Nat := (1 + wthn n most).toNat
def mkR (k : Nat) (n : Int) : Nat := if likeB k then (1 + wthn (n.tdiv 8) 2).toNat else 0
def gmk (k m r : Nat) (zs : List Int) : GD :=
  ⟨k, m, r, cnA k m, cnB k m, cnH k m r, cnH k m r, fun i => mkL zs (cnA k m) (cnB k m) (cnB k m) 0 (0 + i), fun i => mkL zs (cnA k m) (cnB k m) (cnB k m) 0 (cnA k m + i), fun i => mkL zs (cnA k m) (cnB k m) (cnB k m) 0 (cnA k m + cnB k m + i), fun i => mkL zs (cnA k m) (cnB k m) (cnB k m) 0 (cnA k m + cnB k m + cnH k m r + i)⟩
def mkg (kind n : Int) (zs : List Int) (most : Int) : GD := gmk (mkK kind) (mkN n most) (mkR (mkK kind) n) zs
/-- .. as what a call has made. -/
def GD.ft (g : GD) (i : Nat) : AV := [AV.i g.k, .i g.n, .i g.r, .row true g.la (fun i => .q (g.A i)), .row true g.lb (fun i => .q (g.B i)), .row true g.lg (fun i => .q (g.G i)), .row true g.lh (fun i => .q (g.H i))].getD i (.v undef)
/-- A system whose rows are parts of one own slice. -/
def slf (k n r a b h : Nat) (i : Nat) : AV := [AV.i k, .i n, .i r, .sl 63 0 0 a, .sl 63 0 a b, .sl 63 0 (a + b) h, .sl 63 0 (a + b + h) h].getD i (.v undef)
end Go.Proofs.YtdnmoggifjlbiaaGreat.AM
/- Systems that are drawn: they are right. -/
namespace Go.Proofs.YtdnmoggifjlbiaaGreat.AM
open Go Go.RowKit Go.Proofs.YtdnmoggifjlbiaaGreat.PN Go.Proofs.YtdnmoggifjlbiaaGreat.V
open Go.Proofs.YtdnmoggifjlbiaaGreat.LA (S S_succ S_zero S_congr)
set_option linter.unusedVariables false
set_option linter.unusedSimpArgs false
set_option maxRecDepth 8000
set_option maxHeartbeats 8000000
theorem far {p x y : Rat} (hp : p ≤ 20) (hx : -20 ≤ x) (hy : 100 ≤ y) : p ≠ x + y := by
  intro e
  have h1 : -20 + y ≤ x + y := Rat.add_le_add_right.2 hx
  have h2 : -20 + 100 ≤ -20 + y := Rat.add_le_add_left.2 hy
  have h3 : (-20 + 100 : Rat) ≤ 20 := Rat.le_trans h2 (Rat.le_trans h1 (by rw [← e]; exact hp))
  exact absurd h3 (by decide +kernel)
end Go.Proofs.YtdnmoggifjlbiaaGreat.AM
/- Laws of systems: entries' weights; matrices of drawn systems. -/
namespace Go.Proofs.YtdnmoggifjlbiaaGreat.AM
open Go Go.RowKit Go.Proofs.YtdnmoggifjlbiaaGreat.PN Go.Proofs.YtdnmoggifjlbiaaGreat.V
open Go.Proofs.YtdnmoggifjlbiaaGreat.LA (S S_succ S_zero S_congr)
set_option linter.unusedVariables false
set_option linter.unusedSimpArgs false
set_option maxRecDepth 8000
set_option maxHeartbeats 8000000
theorem le7 {σ : Ren} {T : TypeId} {f f' : Nat → AV} (h0 : Le σ (f 0) (f' 0)) (h1 : Le σ (f 1) (f' 1)) (h2 : Le σ (f 2) (f' 2)) (h3 : Le σ (f 3) (f' 3)) (h4 : Le σ (f 4) (f' 4)) (h5 : Le σ (f 5) (f' 5)) (h6 : Le σ (f 6) (f' 6)) : BLe σ (.ones T 7 f) (.ones T 7 f') :=
  bleo rfl fun i hi => by
    match i, hi with
    | 0, _ => exact h0
    | 1, _ => exact h1
    | 2, _ => exact h2
    | 3, _ => exact h3
    | 4, _ => exact h4
    | 5, _ => exact h5
    | 6, _ => exact h6
theorem pow_wt {p : Rat} (hp : wt p ≤ 4) : ∀ k, wt (p ^ k) ≤ 4 * k + 1 := by
  intro k
  induction k with
  | zero => rw [Rat.pow_zero]; decide
  | succ k ih => rw [Rat.pow_succ]; have := wt_mul (p ^ k) p; omega
theorem gent_wt {g : GD} (h : g.OK) {i j : Nat} (hi : i < g.n) (hj : j < g.n) : wt (gent g i j) ≤ 300 := by
  have n8 := h.n8; have r3 := h.r3; have k1 := h.k1; have k7 := h.k7; have sm := h.sm
  obtain ⟨m1, m2, m3, m4⟩ := ok_lens h
  have hk : g.k = 1 ∨ g.k = 2 ∨ g.k = 3 ∨ g.k = 4 ∨ g.k = 5 ∨ g.k = 6 ∨ g.k = 7 := by omega
  have row : ∀ u, u < g.n → u * g.r + g.r ≤ g.n * g.r := fun u hu => by rw [← Nat.succ_mul]; exact Nat.mul_le_mul_right _ hu
  have hne : g.k = 5 ∨ g.k = 7 → g.A i - g.B j ≠ 0 := fun hk e => h.ne i (by omega) j (by omega) (by rw [← Rat.sub_add_cancel (a := g.A i) (b := g.B j), e, Rat.zero_add])
  unfold gent
  rcases hk with hk | hk | hk | hk | hk | hk | hk
  · rw [hk]; have := sm.A (i + g.n - 1 - j) (by omega); show wt (g.A (i + g.n - 1 - j)) ≤ 300; omega
  · rw [hk]; have := sm.A (i + j) (by omega); show wt (g.A (i + j)) ≤ 300; omega
  · have hlt : (i + g.n - j) % g.n < g.n := Nat.mod_lt _ (by omega)
    rw [hk]; have := sm.A ((i + g.n - j) % g.n) (by omega); show wt (g.A ((i + g.n - j) % g.n)) ≤ 300; omega
  · rw [hk]; have := pow_wt (sm.A i (by omega)) j; show wt (g.A i ^ j) ≤ 300; omega
  · have h1 := wt_div 1 (g.A i - g.B j) (hne (.inl hk)); have h2 := wt_sub (g.A i) (g.B j); have h3 := sm.A i (by omega); have h4 := sm.B j (by omega)
    have h5 : wt 1 ≤ 1 := by decide
    rw [hk]; show wt (1 / (g.A i - g.B j)) ≤ 300; omega
  · obtain ⟨hg, hh⟩ := m4 (.inl hk)
    have := wt_sum (n := min i j + 1) (K := 28) (f := fun m => rdot g (i - m) (j - m)) fun u hu => by
      have h1 := row (i - u) (by omega); have h2 := row (j - u) (by omega)
      exact rdot_wt sm (by omega) (by omega) r3
    rw [hk]; show wt (S (min i j + 1) fun m => rdot g (i - m) (j - m)) ≤ 300; omega
  · obtain ⟨hg, hh⟩ := m4 (.inr hk)
    have h0 := row i hi; have h0' := row j hj
    have h1 := wt_div (rdot g i j) (g.A i - g.B j) (hne (.inr hk)); have h2 := wt_sub (g.A i) (g.B j); have h3 := sm.A i (by omega); have h4 := sm.B j (by omega)
    have h5 := rdot_wt (i := i) (j := j) sm (by omega) (by omega) r3
    rw [hk]; show wt (rdot g i j / (g.A i - g.B j)) ≤ 300; omega
end Go.Proofs.YtdnmoggifjlbiaaGreat.AM
/- Package turned: copies of numbers. -/
namespace Go.Proofs.YtdnmoggifjlbiaaGreat.AM
open Go Go.RowKit Go.Proofs.YtdnmoggifjlbiaaGreat.PN Go.Proofs.YtdnmoggifjlbiaaGreat.V
set_option linter.unusedVariables false
set_option linter.unusedSimpArgs false
set_option maxRecDepth 8000
set_option maxHeartbeats 8000000
/-- Whether limbs are none. -/
def nilOf2 : AV → Option (Bool × Prop)
  | .nat n => some (false, 0 < size n)
  | .v (.slice A _ _) => some (A.isNone, True)
  | _ => none
theorem nilOf2_ok {S : Nat → Prop} {B : Nat} {β : Nat → Nat → Value} {w : World} {x : AV} {v : Value} {b : Bool} {c : Prop} (h : RV S B β w x v) (hn : nilOf2 x = some (b, c)) (hc : c) : ∃ A n k, v = .slice A n k ∧ A.isNone = b := by
  unfold nilOf2 at hn
  split at hn
  · cases hn
    obtain ⟨A, k, e, _, hx⟩ := (h : NatS _ _ _ _)
    obtain ⟨b, off, cs, hA, _⟩ := hx 0 hc
    exact ⟨A, _, k, e, by rw [hA]; rfl⟩
  · cases hn
    exact ⟨_, _, _, h, rfl⟩
  · cases hn
section
variable {ops : Array Oper} {l : List Oper} {s : St} {acc : List Fp} {K : St → List Fp → Prop} {d : Option Tmp} {ty : TypeId} {ps : String} {aft : Array Edge}
theorem ok_eqnil2 {o : Oper} {s : St} {x : Operand} {T T' E : TypeId} {y : AV} {b : Bool} {c : Prop} (ho : o.op = .binOp .eql T x (.const (.slice none 0 0)) T') (hE : Tryz.prog.underlying T = some (.slice E)) (hx : avo s x = some y) (hn : nilOf2 y = some (b, c)) (hc : c) : LOK Tryz.prog o s ⟨some (.v (.bool b)), [], []⟩ := by
  refine lok_val fun s2 hl W N β w ac hs => ⟨.bool b, ?_, fun z hz => by cases hz; exact ⟨trivial, rfl⟩⟩
  obtain ⟨A, n, k, e, hb⟩ := nilOf2_ok (hs.opd (x := x) (by rw [hl.avo (by rw [ho]; simp [Op.operands])]; exact hx)).2 hn hc
  have h2 : ac.eval (.const (.slice none 0 0)) = .slice none 0 0 := rfl
  unfold execOp; rw [ho]; simp only []; rw [e, h2]
  have hg : (eqGuard .eql T x (.const (.slice none 0 0)) (.slice A n k) (.slice none 0 0)).run Tryz.prog w = .ok () w := by simp [eqGuard]
  have hb2 : (binOp .eql T (.slice A n k) (.slice none 0 0)).run Tryz.prog w = .ok (.bool b) w := by
    simp only [binOp, Sem.run_bind, run_eq_slice hE]
    rw [← hb]; rfl
  simp only [Sem.run_bind, hg, Result.andThen_ok, hb2]; rfl
theorem ok_app00 {o : Oper} {s : St} {x y : Operand} {A : Option Addr} {c : Nat} (ho : o.op = .call { callee := .builtin .append, args := #[x, y], argTypes := #[37, 37] }) (hx : avo s x = some .e0) (hy : avo s y = some (.v (.slice A 0 c))) : LOK Tryz.prog o s ⟨some (.nat 0), [], []⟩ := by
  refine lok_kept fun s2 hl W N β w a hsim K Q hK => ?_
  obtain ⟨_, g, h1, hr⟩ := hsim.opd (x := x) (by rw [hl.avo (by rw [ho]; simp [Op.operands, Call.operands])]; exact hx)
  obtain ⟨_, h2⟩ := hsim.opd (x := y) (by rw [hl.avo (by rw [ho]; simp [Op.operands, Call.operands])]; exact hy)
  have h2 : a.eval y = .slice A 0 c := h2
  have h3 : NatS w (fun _ => True) (a.eval y) 0 := ⟨A, c, h2, Nat.zero_le _, fun i hi => absurd hi (Nat.not_lt_zero _)⟩
  obtain ⟨v', w', hrun, hk, hv⟩ := run_app0 hr h3 (by decide) o.type
  have he : (execOp a.eval o).run Tryz.prog w = .ok (.value v') w' := by
    unfold execOp; rw [ho]; simp only [resolve, List.map_toArray, List.map_cons, List.map_nil]; rw [h1]
    simp only [Sem.run_bind, Sem.run_pure, Result.andThen_ok, invoke, builtin, hrun]
  unfold Oper.wp
  rw [he]
  exact hK _ _ hk fun x hx => by cases hx; exact ⟨trivial, hv⟩
end
theorem cl_u : Tryz.prog.underlying 37 = some (.slice U32) := Tryz.underlying37
theorem cl_v (A : Option Addr) (c : Nat) : Has Tryz.prog 126 [.v (.slice A 0 c)] (.nat 0) := by
  refine Has.imp (r := if A.isNone then .v (.slice none 0 0) else .nat 0) ?_ rfl (fun S B β w v hv => ?_)
  · refine has_of Tryz.func126 (by kernel_rfl) rfl Tryz.ntmps126 Tryz.results126 rfl (by split <;> rfl) rfl ?_
    refine run2 ?_
    refine run3 ?_
    refine st_ev rfl True.intro ?_
    refine st_lok (ok_eqnil2 rfl cl_u rfl rfl True.intro) ?_
    cases A with
    | none =>
      refine run0 ?_
      refine awp_yes rfl rfl ?_
      refine run0 ?_
      exact ⟨.inr rfl, _, Imp.refl _, .one (.tmp rfl)⟩
    | some a =>
      refine run0 ?_
      refine awp_no rfl rfl ?_
      refine run3 ?_
      refine st_build0 ?_
      refine st_ev rfl True.intro ?_
      refine st_lok (ok_app00 rfl rfl rfl) ?_
      refine run0 ?_
      exact ⟨.inr rfl, _, Imp.refl _, .one (.tmp rfl)⟩
  · split at hv
    · exact ⟨none, 0, hv, Nat.le_refl _, fun i hi => absurd hi (Nat.not_lt_zero _)⟩
    · exact hv
theorem h_clone {n : Nat} (hs : size n ≤ 1000000000000) : Has Tryz.prog 126 [.nat n] (.nat n) := by
  by_cases h0 : size n = 0
  · have hn : n = 0 := by have := size_eq_zero (s := n); omega
    subst hn
    refine ⟨by kernel_rfl, trivial, fun w S β vs hv => ?_⟩
    obtain ⟨v, rfl, A, c, rfl, _, _⟩ := rvs1 hv
    exact (cl_v A c).run w S β _ ⟨rfl, fun i x v hx hv => by
      cases i with
      | zero => cases hx; cases hv; rfl
      | succ i => cases hx⟩
  · refine has_of Tryz.func126 (by kernel_rfl) rfl Tryz.ntmps126 Tryz.results126 rfl rfl rfl ?_
    refine run2 ?_
    refine run3 ?_
    refine st_ev rfl True.intro ?_
    refine st_lok (ok_eqnil2 rfl cl_u rfl rfl (by omega)) ?_
    refine run0 ?_
    refine awp_no rfl rfl ?_
    refine run0 ?_
    exact ⟨.inr rfl, _, Imp.refl _, .one (.tmp rfl)⟩
theorem t_own {n : Nat} {f : Nat → Rat} (b : Bool) (hf : ∀ i, i < n → wt (f i) ≤ 100000) (hn : n ≤ 100) : Has Tryz.prog 87 [.row false n (fun i => .q (f i))] (if b then .rowx n (fun i => .q (f i)) else .row true n (fun i => .q (f i))) := by
  have hcl : (if b then AV.rowx n (fun i => .q (f i)) else .row true n (fun i => .q (f i))).closed = true := by cases b <;> rfl
  refine has_of Tryz.func87 (by kernel_rfl) rfl Tryz.ntmps87 Tryz.results87 rfl hcl rfl ?_
  refine run2 ?_
  refine run3 ?_
  refine st_ev rfl True.intro ?_
  refine st_ev rfl True.intro ?_
  refine st_lok (ok_make_ratx (g := 8) rfl rfl rfl (by omega) (by omega)) ?_
  repeat(first|(with_reducible first|refine awp_seq ?_|refine awp_block ?_|refine awp_skip ?_|refine awp_exit ?_|refine awp_ret ?_|refine q_then ?_|refine q_block ?_|refine q_then_exit ?_|refine q_then_ret ?_|refine q_block_exit ?_|refine q_block_ret ?_|refine q_loop_exit ?_|refine q_loop_ret ?_)|((with_reducible refine q_block_other ?_ ?_);exact rfl))
  refine run0 ?_
  refine st_lok (ok_clear rfl rfl rfl rfl (by decide) rfl) ?_
  refine run0 ?_
  refine awp_loop (fun m' s => ∃ k, k ≤ n ∧ m' = n - k ∧ s = stl [(3, .own 8 0), (8, .ownx 8 0), (10, .row false n fun i => .q (f i)), (11, .i n), (12, .i (k : Int))] [(8, (1, fun _ => .rats n (grow (fun i => .q (f i)) ra0 k)))]) n _ (imp_id ?_ ?_) ⟨0, Nat.zero_le _, rfl, rfl⟩ ?_
  · exact alle rfl (Le.ownx_own rfl) rfl (alle rfl (Le.ownx rfl) rfl (by exact eA))
  · exact allh rfl (by decide) (blen rfl fun i hi => rfl) True.intro True.intro
  rintro m' s ⟨k, hk, rfl, rfl⟩
  refine run0 ?_
  refine awp_if rfl (fun h => ?_) (fun h => ?_)
  · have h : k < n := by omega
    have w1 := hf k h; have b1 := wt_num (f k); have b2 := wt_den (f k)
    repeat(first|refine run1 ?_|((with_reducible apply st_call);exact rfl;exact rfl;exact rfl;first|(exact h_clone (n := nm (f k)) (by omega))|(exact h_clone (n := (f k).den) (by omega)))|((with_reducible apply st_callg);exact rfl;exact rfl;(first|exact rfl|assumption);exact rfl;exact rfl;exact rfl;first|(exact h_clone (n := nm (f k)) (by omega))|(exact h_clone (n := (f k).den) (by omega))))
    with_reducible apply st_lok
    · exact ok_build_num (f k) rfl rfl rfl rfl rfl rfl rfl rfl rfl
    refine run0 ?_
    refine q_loop ?_ (imp_id ?_ ?_) ⟨k + 1, ?_, rfl, rfl⟩
    · omega
    · exact alle rfl (Le.id rfl) rfl (alle rfl (Le.id rfl) rfl (by exact eA))
    · exact allh rfl (by decide) (blen rfl fun i hi => grow_step _ _ k i) True.intro True.intro
    · omega
  · obtain rfl : k = n := by omega
    refine run0 ?_
    cases b with
    | true => exact ⟨.inr rfl, _, imp_rowx 2 8 (fun i => .q (f i)) rfl rfl rfl rfl (fun i hi => grow_full _ _ hi), .one (.tmp rfl)⟩
    | false => exact ⟨.inr rfl, _, imp_rowv 2 (fun i => .q (f i)) rfl rfl rfl (fun i hi => grow_full _ _ hi), .one (.tmp rfl)⟩
end Go.Proofs.YtdnmoggifjlbiaaGreat.AM
/- Laws of systems: what is known. -/
namespace Go.Proofs.YtdnmoggifjlbiaaGreat.AM
open Go Go.RowKit Go.Proofs.YtdnmoggifjlbiaaGreat.PN Go.Proofs.YtdnmoggifjlbiaaGreat.V
open Go.Proofs.YtdnmoggifjlbiaaGreat.LA (S S_succ S_zero S_congr)
set_option linter.unusedVariables false
set_option linter.unusedSimpArgs false
set_option maxRecDepth 8000
set_option maxHeartbeats 8000000
theorem rv_agv {S : Nat → Prop} {B : Nat} {β : Nat → Nat → Value} {w : World} {n : Nat} {f f' : Nat → AV} (h : ∀ i, i < n → ∀ v, RV S B β w (f i) v → RV S B β w (f' i) v) (v : Value) (hv : RV S B β w (.ag n f) v) : RV S B β w (.ag n f') v := by
  obtain ⟨cs, e1, e2, e3⟩ := hv
  refine ⟨cs, e1, e2, fun i hi => ?_⟩
  obtain ⟨y, a0, a1, a2⟩ := e3 i hi
  exact ⟨y, a0, a1, h i hi y a2⟩
theorem Has.agv {P : Program} {f : FuncId} {n : Nat} {u u' : Nat → AV} {xs : List AV} {r : AV} (h : ∀ S B β w i, i < n → ∀ v, RV S B β w (u i) v → RV S B β w (u' i) v) (H : Has P f (.ag n u' :: xs) r) : Has P f (.ag n u :: xs) r :=
  Has.args H fun S B β w vs hv => rvs_cons (rv_agv (h S B β w)) rvs_same hv
theorem rv_nil0 {S : Nat → Prop} {B : Nat} {β : Nat → Nat → Value} {w : World} {f : Nat → RA} (v : Value) (hv : RV S B β w (.v (.slice none 0 0)) v) : RV S B β w (.row false 0 f) v :=
  ⟨none, 0, hv, Nat.le_refl _, Nat.zero_le _, fun i hi => absurd hi (Nat.not_lt_zero _)⟩
def kg : GD := ⟨3, 1, 0, 1, 0, 0, 0, fun _ => 5, fun _ => 0, fun _ => 0, fun _ => 0⟩
end Go.Proofs.YtdnmoggifjlbiaaGreat.AM
/- Package turned: what a system is as a Toeplitz one. -/
namespace Go.Proofs.YtdnmoggifjlbiaaGreat.AM
open Go Go.RowKit Go.Proofs.YtdnmoggifjlbiaaGreat.PN Go.Proofs.YtdnmoggifjlbiaaGreat.V
open Go.Proofs.YtdnmoggifjlbiaaGreat.LA (S S_succ S_zero S_congr)
set_option linter.unusedVariables false
set_option linter.unusedSimpArgs false
set_option maxRecDepth 8000
set_option maxHeartbeats 8000000
def gT (g : GD) : GD := ⟨1, g.n, 0, 2 * g.n - 1, 0, 0, 0, fun i => if g.k = 3 then g.A ((i + 1) % g.n) else g.A i, fun _ => 0, fun _ => 0, fun _ => 0⟩
theorem gT_ok {g : GD} (h : g.OK) (hk : g.k ≤ 3) : (gT g).OK := by
  have n1 := h.n1; have n8 := h.n8; have k1 := h.k1
  obtain ⟨m1, m2, _, _⟩ := ok_lens h
  refine ⟨show (1 : Nat) ≤ 1 by decide, show (1 : Nat) ≤ 7 by decide, n1, n8, show (0 : Nat) ≤ 3 by decide, fun h => (by cases h), fun _ => rfl, ?_, ⟨fun i hi => ?_, fun i hi => absurd hi (Nat.not_lt_zero _), fun i hi => absurd hi (Nat.not_lt_zero _), fun i hi => absurd hi (Nat.not_lt_zero _)⟩, fun i hi j hj => absurd hj (Nat.not_lt_zero _)⟩
  · have z : ∀ (x y z n r : Int), x = 0 → y = 0 → z = 0 → (0 : Int) = x * n + y * n * r + z := by intro x y z n r hx hy hz; subst hx; subst hy; subst hz; simp
    have f : ∀ (x y z n r : Int), x = 2 → y = 0 → z = -1 → 2 * n - 1 = x * n + y * n * r + z := by intro x y z n r hx hy hz; subst hx; subst hy; subst hz; simp; omega
    intro i hi
    have hi4 : i = 0 ∨ i = 1 ∨ i = 2 ∨ i = 3 := by omega
    rcases hi4 with rfl | rfl | rfl | rfl
    · show ((2 * g.n - 1 : Nat) : Int) = mpz (cmap (1 : Nat) (0 : Nat)) 0 * (g.n : Int) + mpz (cmap (1 : Nat) (0 : Nat)) 1 * (g.n : Int) * ((0 : Nat) : Int) + mpz (cmap (1 : Nat) (0 : Nat)) 2
      rw [← f _ _ _ _ _ (by decide) (by decide) (by decide)]; omega
    · show (0 : Int) = mpz (cmap (1 : Nat) (1 : Nat)) 0 * (g.n : Int) + mpz (cmap (1 : Nat) (1 : Nat)) 1 * (g.n : Int) * ((0 : Nat) : Int) + mpz (cmap (1 : Nat) (1 : Nat)) 2
      exact z _ _ _ _ _ (by decide) (by decide) (by decide)
    · show (0 : Int) = mpz (cmap (1 : Nat) (2 : Nat)) 0 * (g.n : Int) + mpz (cmap (1 : Nat) (2 : Nat)) 1 * (g.n : Int) * ((0 : Nat) : Int) + mpz (cmap (1 : Nat) (2 : Nat)) 2
      exact z _ _ _ _ _ (by decide) (by decide) (by decide)
    · show (0 : Int) = mpz (cmap (1 : Nat) (3 : Nat)) 0 * (g.n : Int) + mpz (cmap (1 : Nat) (3 : Nat)) 1 * (g.n : Int) * ((0 : Nat) : Int) + mpz (cmap (1 : Nat) (3 : Nat)) 2
      exact z _ _ _ _ _ (by decide) (by decide) (by decide)
  · have hi : i < 2 * g.n - 1 := hi
    show wt (if g.k = 3 then g.A ((i + 1) % g.n) else g.A i) ≤ 4
    by_cases e : g.k = 3
    · rw [if_pos e]
      exact h.sm.A _ (by rw [m2 (.inl e)]; exact Nat.mod_lt _ (by omega))
    · rw [if_neg e]
      exact h.sm.A _ (by rw [m1 (by omega)]; omega)
/-- A Toeplitz struct, its first row as it stands. -/
def fT (n : Nat) (x : AV) (i : Nat) : AV := [AV.i 1, .i n, .i 0, x, .v (.slice none 0 0), .v (.slice none 0 0), .v (.slice none 0 0)].getD i (.v undef)
theorem fTok {n : Nat} {x : AV} {U : Nat → Bool} (hx : x.ok U) : ∀ i, (fT n x i).ok U
  | 0 | 1 | 2 | 4 | 5 | 6 => trivial
  | 3 => hx
  | _ + 7 => trivial
/-- .. and none. -/
def f00 (i : Nat) : AV := [AV.i 0, .i 0, .i 0, .v (.slice none 0 0), .v (.slice none 0 0), .v (.slice none 0 0), .v (.slice none 0 0)].getD i (.v undef)
theorem f00ok {U : Nat → Bool} : ∀ i, (f00 i).ok U
  | 0 | 1 | 2 | 3 | 4 | 5 | 6 => trivial
  | _ + 7 => trivial
abbrev gTv (g : GD) : AV := .ag 7 (fT g.n (.row true (2 * g.n - 1) fun i => .q ((gT g).A i)))
theorem gT_args {S : Nat → Prop} {B : Nat} {β : Nat → Nat → Value} {w : World} {g : GD} {u : Nat → AV} {q : Nat → RA} (h0 : u 0 = .i 1) (h1 : u 1 = .i g.n) (h2 : u 2 = .i 0) (h3 : u 3 = .row false (2 * g.n - 1) q) (hq : ∀ i, i < 2 * g.n - 1 → q i = .q ((gT g).A i)) (h4 : u 4 = .v (.slice none 0 0)) (h5 : u 5 = .v (.slice none 0 0)) (h6 : u 6 = .v (.slice none 0 0)) : ∀ i, i < 7 → ∀ v, RV S B β w (u i) v → RV S B β w ((gT g).f i) v := by
  intro i hi v hv
  match i, hi with
  | 0, _ => rw [h0] at hv; exact hv
  | 1, _ => rw [h1] at hv; exact hv
  | 2, _ => rw [h2] at hv; exact hv
  | 3, _ => rw [h3] at hv; exact rv_row hq v hv
  | 4, _ => rw [h4] at hv; exact rv_nil0 v hv
  | 5, _ => rw [h5] at hv; exact rv_nil0 v hv
  | 6, _ => rw [h6] at hv; exact rv_nil0 v hv
theorem t_toe {g : GD} (h : g.OK) (hk : g.k ≤ 3) : Has Tryz.prog 49 [g.v] (gTv g) := by
  have n1 := h.n1; have n8 := h.n8; have k1 := h.k1
  obtain ⟨m1, m2, _, _⟩ := ok_lens h
  have hcl : (gTv g).closed = true := rfl
  refine has_of Tryz.func49 (by kernel_rfl) rfl Tryz.ntmps49 Tryz.results49 rfl hcl rfl ?_
  repeat(first|refine run1p ?_|((with_reducible apply st_call);exact rfl;exact rfl;exact rfl;first|(exact Has.ag (g7 rfl rfl rfl rfl rfl rfl rfl) (g_check h)))|((with_reducible apply st_callg);exact rfl;exact rfl;(first|exact rfl|assumption);exact rfl;exact rfl;exact rfl;first|(exact Has.ag (g7 rfl rfl rfl rfl rfl rfl rfl) (g_check h))))
  refine awp_no rfl rfl ?_
  refine run0p ?_
  by_cases e3 : g.k = 3
  · have hla : g.la = g.n := m2 (.inl e3)
    obtain ⟨m, hm⟩ : ∃ m, g.n = m + 1 := ⟨g.n - 1, by omega⟩
    have hla2 : g.la = m + 1 := by omega
    have cx : Has Tryz.prog 87 [.row false g.la (fun i => .q (g.A i))] (.rowx (m + 1) fun i => .q (g.A i)) := by
      rw [← hla2]
      exact t_own (n := g.la) (f := g.A) true (fun i hi => Nat.le_trans (h.sm.A i hi) (by decide)) (by omega)
    have cr : Has Tryz.prog 87 [.row false g.la (fun i => .q (g.A i))] (.row true g.la fun i => .q (g.A i)) := t_own (n := g.la) (f := g.A) false (fun i hi => Nat.le_trans (h.sm.A i hi) (by decide)) (by omega)
    refine awp_no rfl (decide_eq_false (by omega)) ?_
    refine run0p ?_
    refine awp_no rfl (decide_eq_false (by omega)) ?_
    refine run0p ?_
    refine awp_yes rfl (decide_eq_true (by omega)) ?_
    repeat(first|refine run1p ?_|((with_reducible apply st_call);exact rfl;exact rfl;exact rfl;first|(exact cx))|((with_reducible apply st_callg);exact rfl;exact rfl;(first|exact rfl|assumption);exact rfl;exact rfl;exact rfl;first|(exact cx)))
    refine st_lok (ok_slice_tail rfl rfl) ?_
    repeat(first|refine run1p ?_|((with_reducible apply st_call);exact rfl;exact rfl;exact rfl;first|(exact cr))|((with_reducible apply st_callg);exact rfl;exact rfl;(first|exact rfl|assumption);exact rfl;exact rfl;exact rfl;first|(exact cr)))
    refine st_lok (ok_append_full (g := 30) (m := g.la) rfl rfl rfl rfl rfl (by decide) (by omega) (by omega)) ?_
    refine run0p ?_
    refine ⟨.inr rfl, stl [(2, .ptr 2 0 0)] [(2, (1, fun _ => .ones 26 7 (fT g.n (.row true (2 * g.n - 1) fun i => .q ((gT g).A i)))))], (imp_pub 2 3 rfl rfl (by decide) rfl rfl rfl (by decide)).trans (imp_id ?_ ?_), .one (.agg rfl rfl rfl rfl (by decide) rfl rfl)⟩
    · exact eA
    · refine allh rfl (by decide) (le7 (Le.id rfl) (Le.id rfl) (Le.id rfl) (Le.row (by omega) (fun i hi => ?_) fun h => h) (Le.id rfl) (Le.id rfl) (Le.id rfl)) (fun i _ => fTok (by exact True.intro) i) True.intro
      show glue m (fun i => RA.q (g.A (i + 1))) (fun i => RA.q (g.A i)) i = RA.q (if g.k = 3 then g.A ((i + 1) % g.n) else g.A i)
      have hi : i < m + g.la := hi
      rw [if_pos e3]
      unfold glue
      by_cases c : i < m
      · rw [if_pos c, Nat.mod_eq_of_lt (show i + 1 < g.n by omega)]
      · rw [if_neg c, show i + 1 = (i - m) + g.n by omega, Nat.add_mod_right, Nat.mod_eq_of_lt (show i - m < g.n by omega)]
  · have hla : g.la = 2 * g.n - 1 := m1 (by omega)
    have cr : Has Tryz.prog 87 [.row false g.la (fun i => .q (g.A i))] (.row true g.la fun i => .q (g.A i)) := t_own (n := g.la) (f := g.A) false (fun i hi => Nat.le_trans (h.sm.A i hi) (by decide)) (by omega)
    by_cases e1 : g.k = 1
    · refine awp_yes rfl (decide_eq_true (by omega)) ?_
      refine run0p ?_
      refine awp_yes rfl (decide_eq_true (by omega)) ?_
      repeat(first|refine run1p ?_|((with_reducible apply st_call);exact rfl;exact rfl;exact rfl;first|(exact cr))|((with_reducible apply st_callg);exact rfl;exact rfl;(first|exact rfl|assumption);exact rfl;exact rfl;exact rfl;first|(exact cr)))
      refine ⟨.inr rfl, stl [(2, .ptr 2 0 0)] [(2, (1, fun _ => .ones 26 7 (fT g.n (.row true (2 * g.n - 1) fun i => .q ((gT g).A i)))))], imp_id ?_ ?_, .one (.agg rfl rfl rfl rfl (by decide) rfl rfl)⟩
      · exact eA
      · exact allh rfl (by decide) (le7 (Le.id rfl) (Le.id rfl) (Le.id rfl) (Le.row (by omega) (fun i hi => congrArg RA.q (show g.A i = if g.k = 3 then g.A ((i + 1) % g.n) else g.A i by rw [if_neg e3])) fun h => h) (Le.id rfl) (Le.id rfl) (Le.id rfl)) (fun i _ => fTok (by exact True.intro) i) True.intro
    · refine awp_no rfl (decide_eq_false (by omega)) ?_
      refine run0p ?_
      refine awp_yes rfl (decide_eq_true (by omega)) ?_
      repeat(first|refine run1p ?_|((with_reducible apply st_call);exact rfl;exact rfl;exact rfl;first|(exact cr))|((with_reducible apply st_callg);exact rfl;exact rfl;(first|exact rfl|assumption);exact rfl;exact rfl;exact rfl;first|(exact cr)))
      refine ⟨.inr rfl, stl [(2, .ptr 2 0 0)] [(2, (1, fun _ => .ones 26 7 (fT g.n (.row true (2 * g.n - 1) fun i => .q ((gT g).A i)))))], imp_id ?_ ?_, .one (.agg rfl rfl rfl rfl (by decide) rfl rfl)⟩
      · exact eA
      · exact allh rfl (by decide) (le7 (Le.id rfl) (Le.id rfl) (Le.id rfl) (Le.row (by omega) (fun i hi => congrArg RA.q (show g.A i = if g.k = 3 then g.A ((i + 1) % g.n) else g.A i by rw [if_neg e3])) fun h => h) (Le.id rfl) (Le.id rfl) (Le.id rfl)) (fun i _ => fTok (by exact True.intro) i) True.intro
theorem t_toe_no {g : GD} (h : g.OK) (hk : 3 < g.k) : Has Tryz.prog 49 [g.v] (.ag 7 f00) := by
  refine has_of Tryz.func49 (by kernel_rfl) rfl Tryz.ntmps49 Tryz.results49 rfl (by rfl) rfl ?_
  repeat(first|refine run1p ?_|((with_reducible apply st_call);exact rfl;exact rfl;exact rfl;first|(exact Has.ag (g7 rfl rfl rfl rfl rfl rfl rfl) (g_check h)))|((with_reducible apply st_callg);exact rfl;exact rfl;(first|exact rfl|assumption);exact rfl;exact rfl;exact rfl;first|(exact Has.ag (g7 rfl rfl rfl rfl rfl rfl rfl) (g_check h))))
  refine awp_no rfl rfl ?_
  refine run0p ?_
  refine awp_no rfl (decide_eq_false (by omega)) ?_
  refine run0p ?_
  refine awp_no rfl (decide_eq_false (by omega)) ?_
  refine run0p ?_
  refine awp_no rfl (decide_eq_false (by omega)) ?_
  refine run0p ?_
  refine ⟨.inr rfl, stl [(2, .ptr 2 0 0)] [(2, (1, fun _ => .ones 26 7 f00))], imp_id ?_ ?_, .one (.agg rfl rfl rfl rfl (by decide) rfl rfl)⟩
  · exact eA
  · exact allh rfl (by decide) (le7 (Le.id rfl) (Le.id rfl) (Le.id rfl) (Le.id rfl) (Le.id rfl) (Le.id rfl) (Le.id rfl)) (fun i _ => f00ok i) True.intro
end Go.Proofs.YtdnmoggifjlbiaaGreat.AM
/- Displaced matrices. -/
namespace Go.Proofs.YtdnmoggifjlbiaaGreat.AM
open Go.Proofs.YtdnmoggifjlbiaaGreat.PN
open Go.Proofs.YtdnmoggifjlbiaaGreat.LA (S S_succ S_zero S_congr S_first S_null Mt HasRank rank_le)
set_option linter.unusedVariables false
set_option linter.unusedSimpArgs false
set_option maxRecDepth 8000
set_option maxHeartbeats 8000000
/-- An entry; nought outside. -/
def gat (g : GD) (a b : Int) : Rat := if a < 0 ∨ b < 0 ∨ (g.n : Int) ≤ a ∨ (g.n : Int) ≤ b then 0 else gent g a.toNat b.toNat
/-- The displaced matrix. -/
def gdis (g : GD) (i j : Nat) : Rat :=
  match g.k with
  | 2 => gat g ((i : Int) - 1) j - gat g i ((j : Int) - 1)
  | 4 => g.A i * gat g i j - gat g i ((j : Int) + 1)
  | 5 => (g.A i - g.B j) * gat g i j
  | 7 => (g.A i - g.B j) * gat g i j
  | _ => gat g i j - gat g ((i : Int) - 1) ((j : Int) - 1)
/-- .. as a whole matrix. -/
def gdc (g : GD) (i j : Nat) : Rat := if i < g.n ∧ j < g.n then gdis g i j else 0
end Go.Proofs.YtdnmoggifjlbiaaGreat.AM
/- Package fast: entries, displaced. -/
namespace Go.Proofs.YtdnmoggifjlbiaaGreat.AM
open Go Go.RowKit Go.Proofs.YtdnmoggifjlbiaaGreat.PN Go.Proofs.YtdnmoggifjlbiaaGreat.V
open Go.Proofs.YtdnmoggifjlbiaaGreat.LA (S S_succ S_zero S_congr)
set_option linter.unusedVariables false
set_option linter.unusedSimpArgs false
set_option maxRecDepth 8000
set_option maxHeartbeats 8000000
/-- A system, and its matrix. -/
def GD.bd (g : GD) (i : Nat) : AV := [AV.i g.k, .i g.n, .i g.r, .row false g.la (fun i => .q (g.A i)), .row false g.lb (fun i => .q (g.B i)), .row false g.lg (fun i => .q (g.G i)), .row false g.lh (fun i => .q (g.H i)), .mat false g.n (fun _ => g.n) (fun i j => .q (gent g i j))].getD i (.v undef)
def GD.bv (g : GD) : AV := .ag 8 g.bd
/-- How a kind is displaced. -/
def wayF (i : Nat) : FuncId := match i with
  | 1 => 99
  | 3 => 100
  | 4 => 101
  | 6 => 101
  | _ => 98
def wayT : List (Int × FuncId) := [(1, 98), (3, 98), (6, 98), (2, 99), (4, 100), (5, 101), (7, 101)]
end Go.Proofs.YtdnmoggifjlbiaaGreat.AM
/- Dense matrices: walks: zero, one, dot. -/
namespace Go.Proofs.YtdnmoggifjlbiaaGreat.AM
open Go Go.RowKit Go.Proofs.YtdnmoggifjlbiaaGreat.PN Go.Proofs.YtdnmoggifjlbiaaGreat.V
open Go.Proofs.YtdnmoggifjlbiaaGreat.LA (S S_succ S_zero S_congr)
set_option linter.unusedVariables false
set_option linter.unusedSimpArgs false
theorem d_one : Has Tryz.prog 144 [] (.q 1) := by
  refine Has.imp (r := .ra (.raw false [1] [1])) ?_ rfl (fun S B β w v => rv_one)
  refine has_of Tryz.func144 (by kernel_rfl) rfl Tryz.ntmps144 Tryz.results144 rfl rfl rfl ?_
  refine run0 ?_
  refine ⟨.inr rfl, _, Imp.refl _, ?_⟩
  exact .one (.rat rfl rfl (by decide) rfl (by decide) rfl)
end Go.Proofs.YtdnmoggifjlbiaaGreat.AM
/- Dense matrices: walks: right rows, square matrices, products with vectors. -/
namespace Go.Proofs.YtdnmoggifjlbiaaGreat.AM
open Go Go.RowKit Go.Proofs.YtdnmoggifjlbiaaGreat.PN Go.Proofs.YtdnmoggifjlbiaaGreat.V
open Go.Proofs.YtdnmoggifjlbiaaGreat.LA (S S_succ S_zero S_congr)
set_option linter.unusedVariables false
set_option linter.unusedSimpArgs false
theorem shape_u : Tryz.prog.underlying 137 = some (.array 2 3) := by kernel_rfl
theorem int_u : Tryz.prog.underlying 3 = some (.int .i64) := by kernel_rfl
theorem int_info : (Tryz.prog.info? 3).map (fun i => (i.zero, i.size, i.bytes)) = some (some (.int .i64 0), 1, 8) := by kernel_rfl
theorem run_eq_shape (w : World) (a b c d : Int) : (Op.equal 137 (.agg #[.int .i64 a, .int .i64 b]) (.agg #[.int .i64 c, .int .i64 d])).run Tryz.prog w = .ok (decide (a = c) && decide (b = d)) w := by
  obtain ⟨i0, hi, hz0, hz1, hz2⟩ := info_parts int_info
  have hint : ∀ (n : Nat) (x y : Int), (Op.equalIn (n + 1) 3 (.int .i64 x) (.int .i64 y)).run Tryz.prog w = .ok (decide (x = y)) w := by
    intro n x y
    simp [Op.equalIn, run_underlying int_u, beq_dec]
  have hp : ∀ (xs : Array Value) (o : Nat) (v : Value), xs[o]? = some v → (part 3 xs o).run Tryz.prog w = .ok v w := by
    intro xs o v h
    simp [part, isAgg, run_underlying int_u, h]
  have hp0 : ∀ x y : Int, (part 3 #[.int .i64 x, .int .i64 y] 0).run Tryz.prog w = .ok (.int .i64 x) w := fun x y => hp _ 0 _ rfl
  have hp1 : ∀ x y : Int, (part 3 #[.int .i64 x, .int .i64 y] 1).run Tryz.prog w = .ok (.int .i64 y) w := fun x y => hp _ 1 _ rfl
  unfold Op.equal
  rw [show Op.maxDepth = 9998 + 1 + 1 from rfl]
  unfold Op.equalIn
  rw [Sem.run_bind, run_underlying shape_u w]
  by_cases h1 : a = c <;> by_cases h2 : b = d <;>
  simp [sizeOf, typeInfo, hi, hz1, hint, hp0, hp1, h1, h2, Std.Legacy.Range.forIn_eq_forIn_range', List.range'_succ]
theorem pair_vals {S : Nat → Prop} {B : Nat} {β : Nat → Nat → Value} {w : World} {f : Nat → AV} {v : Value} {a b : Int} (h : RV S B β w (.ag 2 f) v) (h0 : f 0 = .i a) (h1 : f 1 = .i b) : v = .agg #[.int .i64 a, .int .i64 b] := by
  obtain ⟨cs, rfl, h2, h3⟩ := h
  obtain ⟨y0, e0, _, r0⟩ := h3 0 (by decide)
  obtain ⟨y1, e1, _, r1⟩ := h3 1 (by decide)
  rw [h0] at r0; rw [h1] at r1
  have r0 : y0 = .int .i64 a := r0
  have r1 : y1 = .int .i64 b := r1
  subst r0; subst r1
  obtain ⟨cs⟩ := cs
  match cs, h2 with
  | [x, y], _ => cases e0; cases e1; rfl
theorem ok_neq_shape {o : Oper} {s : St} {x y : Operand} {T' : TypeId} {f g : Nat → AV} {a b c d : Int} (ho : o.op = .binOp .neq 137 x y T') (hx : avo s x = some (.ag 2 f)) (hy : avo s y = some (.ag 2 g)) (h0 : f 0 = .i a) (h1 : f 1 = .i b) (h2 : g 0 = .i c) (h3 : g 1 = .i d) :
    LOK Tryz.prog o s ⟨some (.b (!(decide (a = c) && decide (b = d)))), [], []⟩ := by
  refine lok_val fun s2 hl W N β w ac hs => ⟨.bool (!(decide (a = c) && decide (b = d))), ?_, fun z hz => by cases hz; exact ⟨trivial, rfl⟩⟩
  have e1 := pair_vals (hs.opd (x := x) (by rw [hl.avo (by rw [ho]; simp [Op.operands])]; exact hx)).2 h0 h1
  have e2 := pair_vals (hs.opd (x := y) (by rw [hl.avo (by rw [ho]; simp [Op.operands])]; exact hy)).2 h2 h3
  have hg : (Tryz.prog.eqGuardType Tryz.prog.depth 137) = false := by kernel_rfl
  unfold execOp; rw [ho]; simp only []; rw [e1, e2]
  simp [eqGuard, binOp, program, Sem.run, hg, run_eq_shape]
theorem d_right {n K : Nat} {f : Nat → Rat} [hf : ∀ i, Wt (f i) K] (hK : K ≤ 1000000000000) (hn : n ≤ 1000000) : Has Tryz.prog 90 [.row false n (fun i => .q (f i))] (.b true) := by
  refine has_of Tryz.func90 (by kernel_rfl) rfl Tryz.ntmps90 Tryz.results90 rfl rfl rfl ?_
  refine run0 ?_
  refine awp_loop (fun m s => ∃ k, k ≤ n ∧ m = n - k ∧ s = stl [(0, .row false n (fun i => .q (f i))), (5, .row false n (fun i => .q (f i))), (6, .i (n : Int)), (7, .i (k : Int))] []) n _ (imp_id ?_ ?_) ⟨0, Nat.zero_le _, rfl, rfl⟩ ?_
  · exact eA
  · exact hA
  · rintro m s ⟨k, hk, rfl, rfl⟩
    refine run0 ?_
    refine awp_if rfl (fun h => ?_) (fun h => ?_)
    · have h : k < n := by omega
      repeat(first|refine run1 ?_|((with_reducible apply st_call);exact rfl;exact rfl;exact rfl;first|(exact c_right hK))|((with_reducible apply st_callg);exact rfl;exact rfl;(first|exact rfl|assumption);exact rfl;exact rfl;exact rfl;first|(exact c_right hK)))
      refine awp_no rfl rfl ?_
      refine run0 ?_
      refine q_loop ?_ (imp_id ?_ ?_) ⟨k + 1, ?_, rfl, rfl⟩
      · omega
      · exact eA
      · exact hA
      · omega
    · refine run0 ?_
      refine ⟨.inr rfl, _, Imp.refl _, ?_⟩
      exact .one (.tmp rfl)
end Go.Proofs.YtdnmoggifjlbiaaGreat.AM
/- Dense matrices: walks: square matrices, products with vectors. -/
namespace Go.Proofs.YtdnmoggifjlbiaaGreat.AM
open Go Go.RowKit Go.Proofs.YtdnmoggifjlbiaaGreat.PN Go.Proofs.YtdnmoggifjlbiaaGreat.V
open Go.Proofs.YtdnmoggifjlbiaaGreat.LA (S S_succ S_zero S_congr)
set_option linter.unusedVariables false
set_option linter.unusedSimpArgs false
theorem d_square {n K : Nat} {F : Nat → Nat → Rat} [hf : ∀ i j, Wt (F i j) K] (hK : K ≤ 1000000000000) (h0 : 0 < n) (hn : n ≤ 1000000) : Has Tryz.prog 89 [.mat false n (fun _ => n) (fun i j => .q (F i j))] (.b true) := by
  refine has_of Tryz.func89 (by kernel_rfl) rfl Tryz.ntmps89 Tryz.results89 rfl rfl rfl ?_
  refine run0 ?_
  refine awp_loop (fun m s => ∃ k, k ≤ n ∧ m = n - k ∧ s = stl [(0, .mat false n (fun _ => n) (fun i j => .q (F i j))), (3, .i (n : Int)), (8, .mat false n (fun _ => n) (fun i j => .q (F i j))), (9, .i (n : Int)), (10, .i (k : Int))] []) n _ (imp_id ?_ ?_) ⟨0, Nat.zero_le _, rfl, rfl⟩ ?_
  · exact eA
  · exact hA
  · rintro m s ⟨k, hk, rfl, rfl⟩
    refine run0 ?_
    refine awp_if rfl (fun h => ?_) (fun h => ?_)
    · have h : k < n := by omega
      refine run0 ?_
      with_reducible apply st_lok
      · exact ok_neq_shape (a := n) (b := n) (c := n) (d := n) rfl rfl rfl rfl rfl rfl rfl
      have e1 : (!(decide ((n : Int) = n) && decide ((n : Int) = n))) = false := by simp
      rw [e1]
      repeat(first|refine run1 ?_|((with_reducible apply st_call);exact rfl;exact rfl;exact rfl;first|(exact d_right hK hn))|((with_reducible apply st_callg);exact rfl;exact rfl;(first|exact rfl|assumption);exact rfl;exact rfl;exact rfl;first|(exact d_right hK hn)))
      refine awp_no rfl rfl ?_
      refine run0 ?_
      refine q_loop ?_ (imp_id ?_ ?_) ⟨k + 1, ?_, rfl, rfl⟩
      · omega
      · exact eA
      · exact hA
      · omega
    · refine run0 ?_
      refine ⟨.inr rfl, _, Imp.refl _, ?_⟩
      have e : (some (AV.b (decide (0 < (n : Int))))) = some (.b true) := by congr 2; simp; omega
      exact .one (.tmp e)
end Go.Proofs.YtdnmoggifjlbiaaGreat.AM
/- Package fast: displaced matrices, applied ones. -/
namespace Go.Proofs.YtdnmoggifjlbiaaGreat.AM
open Go Go.RowKit Go.Proofs.YtdnmoggifjlbiaaGreat.PN Go.Proofs.YtdnmoggifjlbiaaGreat.V
open Go.Proofs.YtdnmoggifjlbiaaGreat.LA (S S_succ S_zero S_congr)
set_option linter.unusedVariables false
set_option linter.unusedSimpArgs false
set_option maxRecDepth 8000
set_option maxHeartbeats 8000000
/-- The matrix; nought outside. -/
def gec (g : GD) (i j : Nat) : Rat := if i < g.n ∧ j < g.n then gent g i j else 0
theorem gec_in {g : GD} {i j : Nat} (hi : i < g.n) (hj : j < g.n) : gec g i j = gent g i j := if_pos ⟨hi, hj⟩
theorem gec_wt {g : GD} (h : g.OK) (i j : Nat) : Wt (gec g i j) 300 := by
  unfold gec
  split
  · exact ⟨gent_wt h (by omega) (by omega)⟩
  · exact ⟨by decide⟩
theorem Has.gec {P : Program} {f : FuncId} {g : GD} {xs : List AV} {r : AV} (H : Has P f (.mat false g.n (fun _ => g.n) (fun i j => .q (gec g i j)) :: xs) r) : Has P f (.mat false g.n (fun _ => g.n) (fun i j => .q (gent g i j)) :: xs) r :=
  Has.args H fun S B β w vs hv => rvs_cons (rv_mat fun i hi j hj => by rw [gec_in hi hj]) rvs_same hv
end Go.Proofs.YtdnmoggifjlbiaaGreat.AM

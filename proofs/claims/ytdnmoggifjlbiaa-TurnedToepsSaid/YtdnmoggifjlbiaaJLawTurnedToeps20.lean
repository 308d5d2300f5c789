/- Joined texts, 20: GenF GenG LvR TuD MkT LvT TuE CkA EqA GenH GenI. -/
import Derived.Test.YtdnmoggifjlbiaaJLawTurnedToeps18
import Derived.Test.YtdnmoggifjlbiaaJLawTurnedToeps13
import Derived.Test.YtdnmoggifjlbiaaJLawTurnedToeps19
import Derived.Test.YtdnmoggifjlbiaaJLawTurnedToeps10
import Derived.Test.YtdnmoggifjlbiaaJLawTurnedToeps0
import Derived.Test.YtdnmoggifjlbiaaJLawTurnedToeps17
set_option linter.unusedVariables false
set_option linter.unusedSimpArgs false
/- The document's systems: entries. -/
namespace Go.Proofs.Ytdnmoggifjlbiaa.AM
open Go Go.RowKit Go.Proofs.Ytdnmoggifjlbiaa.PN Go.Proofs.Ytdnmoggifjlbiaa.V
open Go.Proofs.Ytdnmoggifjlbiaa.LA (S S_succ S_zero S_congr)
set_option linter.unusedVariables false
set_option linter.unusedSimpArgs false
set_option maxRecDepth 8000
set_option maxHeartbeats 8000000
theorem r5_row {g : GD} {i j : Nat} (sm : g.Sm) (hr : g.r ≤ 3) (hi : i < 8) (hj : j < 8) (hg : i * g.r + g.r ≤ g.lg) (hh : j * g.r + g.r ≤ g.lh) : Has Try.prog 53 [g.v, .i i, .i j] (.q (rdot g i j)) := by
  have hI : i * g.r ≤ 8 * 3 := Nat.mul_le_mul (by omega) hr
  have hJ : j * g.r ≤ 8 * 3 := Nat.mul_le_mul (by omega) hr
  have eI : (i : Int) * (g.r : Int) = ((i * g.r : Nat) : Int) := (Int.natCast_mul i g.r).symm
  have eJ : (j : Int) * (g.r : Int) = ((j * g.r : Nat) : Int) := (Int.natCast_mul j g.r).symm
  refine has_of Try.func53 (by kernel_rfl) rfl Try.ntmps53 Try.results53 rfl rfl rfl ?_
  repeat(first|refine run1 ?_|((with_reducible apply st_call);exact rfl;exact rfl;exact rfl;first|(exact hs_zero))|((with_reducible apply st_callg);exact rfl;exact rfl;(first|exact rfl|assumption);exact rfl;exact rfl;exact rfl;first|(exact hs_zero)))
  refine awp_loop (fun m s => ∃ k, k ≤ g.r ∧ m = g.r - k ∧ s = stl [(1, .i i), (2, .i j), (3, .ptr 3 0 0), (6, .rptr 6 0 0), (7, .rptr 7 0 0), (8, .i (k : Int))] [(3, (1, fun _ => .ones 26 7 g.f)), (6, (1, fun _ => .rats 1 (fun _ => ra0))), (7, (1, fun _ => .rats 1 (fun _ => .q (S k fun k => g.G (i * g.r + k) * g.H (j * g.r + k)))))]) g.r _ (imp_id ?_ ?_) ⟨0, Nat.zero_le _, rfl, rfl⟩ ?_
  · exact eA
  · refine allh rfl (by decide) (bleo rfl fun _ _ => Le.id rfl) (fun i _ => g.fok _ i) ?_
    exact hA
  · rintro m s ⟨k, hk, rfl, rfl⟩
    refine run0 ?_
    refine awp_if rfl (fun h => ?_) (fun h => ?_)
    · have h : k < g.r := by omega
      have w1 : wt (S k fun k => g.G (i * g.r + k) * g.H (j * g.r + k)) ≤ k * 9 + 1 := wt_sum (K := 8) fun u hu => by
        have h1 := wt_mul (g.G (i * g.r + u)) (g.H (j * g.r + u)); have h2 := sm.G (i * g.r + u) (by omega); have h3 := sm.H (j * g.r + u) (by omega)
        omega
      have w2 := sm.G (i * g.r + k) (by omega); have w3 := sm.H (j * g.r + k) (by omega)
      have w4 := wt_mul (g.G (i * g.r + k)) (g.H (j * g.r + k))
      have q1 : 0 ≤ (i : Int) * (g.r : Int) := by rw [eI]; omega
      have q2 : (i : Int) * (g.r : Int) ≤ 24 := by rw [eI]; omega
      have q3 : (i : Int) * (g.r : Int) + k < g.lg := by rw [eI]; omega
      have q4 : 0 ≤ (j : Int) * (g.r : Int) := by rw [eJ]; omega
      have q5 : (j : Int) * (g.r : Int) ≤ 24 := by rw [eJ]; omega
      have q6 : (j : Int) * (g.r : Int) + k < g.lh := by rw [eJ]; omega
      have e1 : ((i : Int) * (g.r : Int) + (k : Int)).toNat = i * g.r + k := by rw [eI]; omega
      have e2 : ((j : Int) * (g.r : Int) + (k : Int)).toNat = j * g.r + k := by rw [eJ]; omega
      refine run0 ?_
      rw [e1, e2]
      repeat(first|refine run1 ?_|((with_reducible apply st_call);exact rfl;exact rfl;exact rfl;first|(exact hs_mul (by omega) (by omega))|(exact hs_add (by omega) (by omega)))|((with_reducible apply st_callg);exact rfl;exact rfl;(first|exact rfl|assumption);exact rfl;exact rfl;exact rfl;first|(exact hs_mul (by omega) (by omega))|(exact hs_add (by omega) (by omega))))
      refine q_loop ?_ (imp_id ?_ ?_) ⟨k + 1, ?_, rfl, rfl⟩
      · omega
      · exact eA
      · refine allh rfl (by decide) (bleo rfl fun _ _ => Le.id rfl) (fun i _ => g.fok _ i) ?_
        exact hA
      · omega
    · have ek : k = g.r := by omega
      unfold rdot
      rw [← ek]
      refine run0 ?_
      refine ⟨.inr rfl, _, Imp.refl _, ?_⟩
      exact .one (.rat rfl rfl (by decide) rfl (by decide) rfl)
theorem r5_entry {g : GD} (h : g.OK) {i j : Nat} (hi : i < g.n) (hj : j < g.n) : Has Try.prog 27 [g.v, .i i, .i j] (.q (gent g i j)) := by
  have n8 := h.n8; have r3 := h.r3; have k1 := h.k1; have k7 := h.k7; have sm := h.sm
  obtain ⟨m1, m2, m3, m4⟩ := ok_lens h
  have hk : g.k = 1 ∨ g.k = 2 ∨ g.k = 3 ∨ g.k = 4 ∨ g.k = 5 ∨ g.k = 6 ∨ g.k = 7 := by omega
  have hin : i * g.r + g.r ≤ g.n * g.r := by rw [← Nat.succ_mul]; exact Nat.mul_le_mul_right _ hi
  have hjn : j * g.r + g.r ≤ g.n * g.r := by rw [← Nat.succ_mul]; exact Nat.mul_le_mul_right _ hj
  unfold gent
  refine has_of Try.func27 (by kernel_rfl) rfl Try.ntmps27 Try.results27 rfl rfl rfl ?_
  refine run0p ?_
  rcases hk with hk | hk | hk | hk | hk | hk | hk
  · have w := sm.A (i + g.n - 1 - j) (by omega)
    have e1 : ((i : Int) - (j : Int) + (g.n : Int) - 1).toNat = i + g.n - 1 - j := by omega
    have w0 : wt 0 ≤ 1 := by decide
    refine awp_yes rfl (kdec hk rfl) ?_
    refine run0p ?_
    rw [e1]
    repeat(first|refine run1p ?_|((with_reducible apply st_call);exact rfl;exact rfl;exact rfl;first|(exact k_copy (by omega)))|((with_reducible apply st_callg);exact rfl;exact rfl;(first|exact rfl|assumption);exact rfl;exact rfl;exact rfl;first|(exact k_copy (by omega))))
    refine ⟨.inr rfl, _, Imp.refl _, .one (.rat rfl rfl (by decide) rfl (by decide) ?_)⟩
    rw [hk]; rfl
  · have w := sm.A (i + j) (by omega)
    have e1 : ((i : Int) + (j : Int)).toNat = i + j := by omega
    have w0 : wt 0 ≤ 1 := by decide
    refine awp_no rfl (kndec hk (by decide)) ?_
    refine run0p ?_
    refine awp_yes rfl (kdec hk rfl) ?_
    refine run0p ?_
    rw [e1]
    repeat(first|refine run1p ?_|((with_reducible apply st_call);exact rfl;exact rfl;exact rfl;first|(exact k_copy (by omega)))|((with_reducible apply st_callg);exact rfl;exact rfl;(first|exact rfl|assumption);exact rfl;exact rfl;exact rfl;first|(exact k_copy (by omega))))
    refine ⟨.inr rfl, _, Imp.refl _, .one (.rat rfl rfl (by decide) rfl (by decide) ?_)⟩
    rw [hk]; rfl
  · have hlt : (i + g.n - j) % g.n < g.n := Nat.mod_lt _ (by omega)
    have w := sm.A ((i + g.n - j) % g.n) (by omega)
    have w0 : wt 0 ≤ 1 := by decide
    have e0 : Int.tmod ((i : Int) - (j : Int) + (g.n : Int)) (g.n : Int) = (((i + g.n - j) % g.n : Nat) : Int) := by
      rw [Int.tmod_eq_emod_of_nonneg (by omega), show ((i : Int) - (j : Int) + (g.n : Int)) = ((i + g.n - j : Nat) : Int) by omega]
      rfl
    have e1 : (Int.tmod ((i : Int) - (j : Int) + (g.n : Int)) (g.n : Int)).toNat = (i + g.n - j) % g.n := by rw [e0]; rfl
    have q1 : 0 ≤ Int.tmod ((i : Int) - (j : Int) + (g.n : Int)) (g.n : Int) := by rw [e0]; omega
    have q2 : Int.tmod ((i : Int) - (j : Int) + (g.n : Int)) (g.n : Int) < g.la := by rw [e0]; omega
    refine awp_no rfl (kndec hk (by decide)) ?_
    refine run0p ?_
    refine awp_no rfl (kndec hk (by decide)) ?_
    refine run0p ?_
    refine awp_yes rfl (kdec hk rfl) ?_
    refine run0p ?_
    rw [e1]
    repeat(first|refine run1p ?_|((with_reducible apply st_call);exact rfl;exact rfl;exact rfl;first|(exact k_copy (by omega)))|((with_reducible apply st_callg);exact rfl;exact rfl;(first|exact rfl|assumption);exact rfl;exact rfl;exact rfl;first|(exact k_copy (by omega))))
    refine ⟨.inr rfl, _, Imp.refl _, .one (.rat rfl rfl (by decide) rfl (by decide) ?_)⟩
    rw [hk]; rfl
  · have w := sm.A i (by omega)
    refine awp_no rfl (kndec hk (by decide)) ?_
    refine run0p ?_
    refine awp_no rfl (kndec hk (by decide)) ?_
    refine run0p ?_
    refine awp_no rfl (kndec hk (by decide)) ?_
    refine run0p ?_
    refine awp_yes rfl (kdec hk rfl) ?_
    repeat(first|refine run1p ?_|((with_reducible apply st_call);exact rfl;exact rfl;exact rfl;first|(exact hs_int 1 (by decide) (by decide)))|((with_reducible apply st_callg);exact rfl;exact rfl;(first|exact rfl|assumption);exact rfl;exact rfl;exact rfl;first|(exact hs_int 1 (by decide) (by decide))))
    refine awp_loop (fun m s => ∃ k, k ≤ j ∧ m = j - k ∧ s = stl [(1, .i i), (2, .i j), (3, .ptr 3 0 0), (6, .rptr 6 0 0), (7, .rptr 7 0 0), (8, .i (k : Int))] [(3, (1, fun _ => .ones 26 7 g.f)), (6, (1, fun _ => .rats 1 (fun _ => ra0))), (7, (1, fun _ => .rats 1 (fun _ => .q (g.A i ^ k))))]) j _ (imp_id ?_ ?_) ⟨0, Nat.zero_le _, rfl, rfl⟩ ?_
    · exact eA
    · refine allh rfl (by decide) (bleo rfl fun _ _ => Le.id rfl) (fun i _ => g.fok _ i) (allh rfl (by decide) (ble1 rfl) True.intro (allh rfl (by decide) (ble1 (by rw [Rat.pow_zero]; rfl)) True.intro True.intro))
    · rintro m s ⟨k, hk', rfl, rfl⟩
      have w1 := pow_wt w k
      refine run0p ?_
      refine awp_if rfl (fun h' => ?_) (fun h' => ?_)
      · have h' : k < j := by omega
        repeat(first|refine run1p ?_|((with_reducible apply st_call);exact rfl;exact rfl;exact rfl;first|(exact hs_mul (p := g.A i ^ k) (q := g.A i) (by omega) (by omega)))|((with_reducible apply st_callg);exact rfl;exact rfl;(first|exact rfl|assumption);exact rfl;exact rfl;exact rfl;first|(exact hs_mul (p := g.A i ^ k) (q := g.A i) (by omega) (by omega))))
        refine q_loop ?_ (imp_id ?_ ?_) ⟨k + 1, ?_, rfl, rfl⟩
        · omega
        · exact eA
        · refine allh rfl (by decide) (bleo rfl fun _ _ => Le.id rfl) (fun i _ => g.fok _ i) (allh rfl (by decide) (ble1 rfl) True.intro (allh rfl (by decide) (ble1 (by rw [Rat.pow_succ]; rfl)) True.intro True.intro))
        · omega
      · have ek : k = j := by omega
        refine run0p ?_
        refine ⟨.inr rfl, _, Imp.refl _, .one (.rat rfl rfl (by decide) rfl (by decide) ?_)⟩
        rw [hk, ek]; rfl
  · have w0 : wt 1 ≤ 1 := by decide
    refine awp_no rfl (kndec hk (by decide)) ?_
    refine run0p ?_
    refine awp_no rfl (kndec hk (by decide)) ?_
    refine run0p ?_
    refine awp_no rfl (kndec hk (by decide)) ?_
    refine run0p ?_
    refine awp_no rfl (kndec hk (by decide)) ?_
    refine run0p ?_
    refine awp_yes rfl (kdec hk rfl) ?_
    have u1 := sm.A i (by omega); have u2 := sm.B j (by omega)
    have u3 := wt_sub (g.A i) (g.B j)
    have hne : g.A i - g.B j ≠ 0 := fun e => h.ne i (by omega) j (by omega) (by rw [← Rat.sub_add_cancel (a := g.A i) (b := g.B j), e, Rat.zero_add])
    repeat(first|refine run1p ?_|((with_reducible apply st_call);exact rfl;exact rfl;exact rfl;first|(exact hs_int 1 (by decide) (by decide))|(exact k_sub (p := g.A i) (q := g.B j) (by omega) (by omega))|(exact hs_over (p := 1) (q := g.A i - g.B j) (by omega) (by omega) hne))|((with_reducible apply st_callg);exact rfl;exact rfl;(first|exact rfl|assumption);exact rfl;exact rfl;exact rfl;first|(exact hs_int 1 (by decide) (by decide))|(exact k_sub (p := g.A i) (q := g.B j) (by omega) (by omega))|(exact hs_over (p := 1) (q := g.A i - g.B j) (by omega) (by omega) hne)))
    refine ⟨.inr rfl, _, Imp.refl _, .one (.rat rfl rfl (by decide) rfl (by decide) ?_)⟩
    rw [hk]; rfl
  · obtain ⟨hg, hh⟩ := m4 (.inl hk)
    refine awp_no rfl (kndec hk (by decide)) ?_
    refine run0p ?_
    refine awp_no rfl (kndec hk (by decide)) ?_
    refine run0p ?_
    refine awp_no rfl (kndec hk (by decide)) ?_
    refine run0p ?_
    refine awp_no rfl (kndec hk (by decide)) ?_
    refine run0p ?_
    refine awp_no rfl (kndec hk (by decide)) ?_
    refine run0p ?_
    refine awp_yes rfl (kdec hk rfl) ?_
    repeat(first|refine run1p ?_|((with_reducible apply st_call);exact rfl;exact rfl;exact rfl;first|(exact hs_zero))|((with_reducible apply st_callg);exact rfl;exact rfl;(first|exact rfl|assumption);exact rfl;exact rfl;exact rfl;first|(exact hs_zero)))
    have wS : ∀ m, m ≤ 8 → m ≤ min i j + 1 → wt (S m fun m => rdot g (i - m) (j - m)) ≤ 8 * 29 + 1 := fun m hm8 hm => by
      have := wt_sum (n := m) (K := 28) (f := fun m => rdot g (i - m) (j - m)) fun u hu => by
        have h1 : (i - u) * g.r + g.r ≤ g.n * g.r := by rw [← Nat.succ_mul]; exact Nat.mul_le_mul_right _ (by omega)
        have h2 : (j - u) * g.r + g.r ≤ g.n * g.r := by rw [← Nat.succ_mul]; exact Nat.mul_le_mul_right _ (by omega)
        exact rdot_wt sm (by omega) (by omega) r3
      omega
    refine awp_loop (fun m' s => ∃ m, m ≤ min i j + 1 ∧ m' = min i j + 1 - m ∧ s = stl [(1, .i i), (2, .i j), (3, .ptr 3 0 0), (6, .rptr 6 0 0), (9, .rptr 9 0 0), (10, .i (m : Int))] [(3, (1, fun _ => .ones 26 7 g.f)), (6, (1, fun _ => .rats 1 (fun _ => ra0))), (9, (1, fun _ => .rats 1 (fun _ => .q (S m fun m => rdot g (i - m) (j - m)))))]) (min i j + 1) _ (imp_id ?_ ?_) ⟨0, Nat.zero_le _, rfl, rfl⟩ ?_
    · exact eA
    · refine allh rfl (by decide) (bleo rfl fun _ _ => Le.id rfl) (fun i _ => g.fok _ i) ?_
      exact hA
    · rintro m' s ⟨m, hm, rfl, rfl⟩
      have w1 := wS m (by omega) hm
      refine run0p ?_
      refine awp_if rfl (fun h' => ?_) (fun h' => ?_)
      · have h' : m ≤ min i j := by omega
        have h1 : (i - m) * g.r + g.r ≤ g.n * g.r := by rw [← Nat.succ_mul]; exact Nat.mul_le_mul_right _ (by omega)
        have h2 : (j - m) * g.r + g.r ≤ g.n * g.r := by rw [← Nat.succ_mul]; exact Nat.mul_le_mul_right _ (by omega)
        have w2 := rdot_wt (g := g) (i := i - m) (j := j - m) sm (by omega) (by omega) r3
        have ei : (i : Int) - (m : Int) = ((i - m : Nat) : Int) := by omega
        have ej : (j : Int) - (m : Int) = ((j - m : Nat) : Int) := by omega
        refine run0p ?_
        rw [ei, ej]
        repeat(first|refine run1p ?_|((with_reducible apply st_call);exact rfl;exact rfl;exact rfl;first|(exact Has.ag (g7 rfl rfl rfl rfl rfl rfl rfl) (r5_row (i := i - m) (j := j - m) sm r3 (by omega) (by omega) (by omega) (by omega)))|(exact hs_add (by omega) (by omega)))|((with_reducible apply st_callg);exact rfl;exact rfl;(first|exact rfl|assumption);exact rfl;exact rfl;exact rfl;first|(exact Has.ag (g7 rfl rfl rfl rfl rfl rfl rfl) (r5_row (i := i - m) (j := j - m) sm r3 (by omega) (by omega) (by omega) (by omega)))|(exact hs_add (by omega) (by omega))))
        refine q_loop ?_ (imp_id ?_ ?_) ⟨m + 1, ?_, rfl, rfl⟩
        · omega
        · exact eA
        · refine allh rfl (by decide) (bleo rfl fun _ _ => Le.id rfl) (fun i _ => g.fok _ i) ?_
          exact hA
        · omega
      · have em : min i j + 1 = m := by omega
        refine run0p ?_
        refine ⟨.inr rfl, _, Imp.refl _, .one (.rat rfl rfl (by decide) rfl (by decide) ?_)⟩
        rw [hk, ← em]; rfl
  · obtain ⟨hg, hh⟩ := m4 (.inr hk)
    have w0 := rdot_wt (g := g) (i := i) (j := j) sm (by omega) (by omega) r3
    refine awp_no rfl (kndec hk (by decide)) ?_
    refine run0p ?_
    refine awp_no rfl (kndec hk (by decide)) ?_
    refine run0p ?_
    refine awp_no rfl (kndec hk (by decide)) ?_
    refine run0p ?_
    refine awp_no rfl (kndec hk (by decide)) ?_
    refine run0p ?_
    refine awp_no rfl (kndec hk (by decide)) ?_
    refine run0p ?_
    refine awp_no rfl (kndec hk (by decide)) ?_
    have u1 := sm.A i (by omega); have u2 := sm.B j (by omega)
    have u3 := wt_sub (g.A i) (g.B j)
    have hne : g.A i - g.B j ≠ 0 := fun e => h.ne i (by omega) j (by omega) (by rw [← Rat.sub_add_cancel (a := g.A i) (b := g.B j), e, Rat.zero_add])
    repeat(first|refine run1p ?_|((with_reducible apply st_call);exact rfl;exact rfl;exact rfl;first|(exact Has.ag (g7 rfl rfl rfl rfl rfl rfl rfl) (r5_row sm r3 (by omega) (by omega) (by omega) (by omega)))|(exact k_sub (p := g.A i) (q := g.B j) (by omega) (by omega))|(exact hs_over (p := rdot g i j) (q := g.A i - g.B j) (by omega) (by omega) hne))|((with_reducible apply st_callg);exact rfl;exact rfl;(first|exact rfl|assumption);exact rfl;exact rfl;exact rfl;first|(exact Has.ag (g7 rfl rfl rfl rfl rfl rfl rfl) (r5_row sm r3 (by omega) (by omega) (by omega) (by omega)))|(exact k_sub (p := g.A i) (q := g.B j) (by omega) (by omega))|(exact hs_over (p := rdot g i j) (q := g.A i - g.B j) (by omega) (by omega) hne)))
    refine ⟨.inr rfl, _, Imp.refl _, .one (.rat rfl rfl (by decide) rfl (by decide) ?_)⟩
    rw [hk]; rfl
end Go.Proofs.Ytdnmoggifjlbiaa.AM
/- The document's systems: the whole matrix. -/
namespace Go.Proofs.Ytdnmoggifjlbiaa.AM
open Go Go.RowKit Go.Proofs.Ytdnmoggifjlbiaa.PN Go.Proofs.Ytdnmoggifjlbiaa.V
open Go.Proofs.Ytdnmoggifjlbiaa.LA (S S_succ S_zero S_congr)
set_option linter.unusedVariables false
set_option linter.unusedSimpArgs false
set_option maxRecDepth 8000
set_option maxHeartbeats 8000000
theorem le_fok (g : GD) {σ : Ren} (i : Nat) (hi : i < 7) : Le σ (g.f i) (g.f i) := by
  match i, hi with
  | 0, _ | 1, _ | 2, _ | 3, _ | 4, _ | 5, _ | 6, _ => exact Le.eq rfl rfl
theorem r5_expand {g : GD} (h : g.OK) : Has Try.prog 10 [g.v] (.mat true g.n (fun _ => g.n) (fun i j => .q (gent g i j))) := by
  have n8 := h.n8; have n1 := h.n1
  have hG := h
  refine has_of Try.func10 (by kernel_rfl) rfl Try.ntmps10 Try.results10 rfl rfl rfl ?_
  refine run0 ?_
  refine awp_loop (fun m' s => ∃ r, r ≤ g.n ∧ m' = g.n - r ∧ s = accS 3 (.ones WT r fun i => .row true g.n fun j => .q (gent g i j)) [(1, .ptr 1 0 0), (4, .i (r : Int))] [(1, (1, fun _ => .ones 26 7 g.f))]) g.n _ (acc_start rfl rfl (by exact ⟨by decide, rfl⟩) rfl (by decide) ?_ ?_) ⟨0, Nat.zero_le _, rfl, rfl⟩ ?_
  · exact eA
  · exact allh rfl (by decide) (bleo rfl fun _ _ => Le.id rfl) (fun i _ => g.fok _ i) True.intro
  · rintro m' s ⟨r, hr, rfl, rfl⟩
    refine run0 ?_
    refine awp_if rfl (fun h => ?_) (fun h => ?_)
    · have h : r < g.n := by omega
      refine run0 ?_
      refine awp_loop (fun m' s => ∃ c, c ≤ g.n ∧ m' = g.n - c ∧ s = accS 5 (.rats c fun j => .q (gent g r j)) [(1, .ptr 1 0 0), (3, .own 3 0), (4, .i (r : Int)), (6, .i (c : Int))] [(1, (1, fun _ => .ones 26 7 g.f)), (3, (1, fun _ => .ones WT r fun i => .row true g.n fun j => .q (gent g i j)))]) g.n _ (acc_start rfl rfl (by exact rfl) rfl (by decide) ?_ ?_) ⟨0, Nat.zero_le _, rfl, rfl⟩ ?_
      · exact eA
      · exact allh rfl (by decide) (bleo rfl fun _ _ => Le.id rfl) (fun i _ => g.fok _ i) (allh rfl (by decide) (bleo rfl fun _ _ => Le.id rfl) (fun i _ => True.intro) True.intro)
      · rintro m' s ⟨c, hc, rfl, rfl⟩
        refine run0 ?_
        refine awp_if rfl (fun h1 => ?_) (fun h1 => ?_)
        · have h1 : c < g.n := by omega
          repeat(first|refine run1 ?_|((with_reducible apply st_call);exact rfl;exact rfl;exact rfl;first|(exact Has.ag (g7 rfl rfl rfl rfl rfl rfl rfl) (r5_entry hG h h1)))|((with_reducible apply st_callg);exact rfl;exact rfl;(first|exact rfl|assumption);exact rfl;exact rfl;exact rfl;first|(exact Has.ag (g7 rfl rfl rfl rfl rfl rfl rfl) (r5_entry hG h h1))))
          refine q_loop (m' := g.n - (c + 1)) (by omega) (acc_next (a := 25) rfl rfl rfl (glue_one rfl) (by exact True.intro) rfl rfl ?_ ?_) ⟨c + 1, by omega, rfl, rfl⟩
          · refine alle rfl (Le.ptr (s1_ne (by decide))) rfl (alle rfl (Le.own (s1_ne (by decide))) rfl (alle rfl (Le.eq rfl rfl) True.intro (alle rfl (Le.eq rfl rfl) True.intro True.intro)))
          · refine allh rfl Nat.zero_lt_one (bleo rfl fun i hi => le_fok g i hi) (fun i _ => g.fok _ i) (allh rfl Nat.zero_lt_one (bleo rfl fun _ _ => Le.eq rfl rfl) (fun _ _ => True.intro) True.intro)
        · have ec : c = g.n := by omega
          subst ec
          refine run0 ?_
          refine q_loop (m' := g.n - (r + 1)) (by omega) (acc_pub (a := 29) (c := 5) rfl rfl rfl (fun i hi => if_pos hi) (by show (if _ then _ else _) = _; rw [if_neg (Nat.lt_irrefl _), Nat.sub_self]; rfl) rfl rfl (fun _ _ => rfl) rfl rfl (fun _ => by exact True.intro) (by decide) rfl rfl ?_ ?_) ⟨r + 1, by omega, rfl, rfl⟩
          · refine alle rfl (Le.ptr (s1_ne (by decide))) rfl (alle rfl (Le.eq rfl rfl) True.intro True.intro)
          · exact allh rfl Nat.zero_lt_one (bleo rfl fun i hi => le_fok g i hi) (fun i _ => g.fok _ i) True.intro
    · have er : r = g.n := by omega
      subst er
      refine run0 ?_
      refine ⟨.inr rfl, _, imp_mat 2 (fun _ => g.n) (fun i j => .q (gent g i j)) rfl rfl rfl (fun _ _ => rfl), ?_⟩
      exact .one (.tmp rfl)
end Go.Proofs.Ytdnmoggifjlbiaa.AM
/- The document's chapter 10: the least leading minor that is nought; systems. -/
namespace Go.Proofs.Ytdnmoggifjlbiaa.AM
open Go Go.RowKit Go.Proofs.Ytdnmoggifjlbiaa.PN Go.Proofs.Ytdnmoggifjlbiaa.V
open Go.Proofs.Ytdnmoggifjlbiaa.LA (S S_succ S_zero S_congr app det unique)
set_option linter.unusedVariables false
set_option linter.unusedSimpArgs false
set_option maxRecDepth 8000
set_option maxHeartbeats 8000000
/-- What is known of a small Toeplitz system, and of a right side. -/
structure TS (g : GD) (b : Nat → Rat) : Prop where
  ok : g.OK
  k : g.k = 1
  n6 : g.n ≤ 6
  F : ∀ i j, Fq 60 1200 (gec g i j)
  Ft : ∀ i j, Bt (gec g i j) 5
  bq : ∀ i, Fq 60 1200 (b i)
  bt : ∀ i, Bt (b i) 5
end Go.Proofs.Ytdnmoggifjlbiaa.AM
/- The document's chapter 12; what law 12 knows. -/
namespace Go.Proofs.Ytdnmoggifjlbiaa.AM
open Go Go.RowKit Go.Proofs.Ytdnmoggifjlbiaa.PN Go.Proofs.Ytdnmoggifjlbiaa.V
open Go.Proofs.Ytdnmoggifjlbiaa.LA (S S_succ S_zero S_congr)
set_option linter.unusedVariables false
set_option linter.unusedSimpArgs false
set_option maxRecDepth 8000
set_option maxHeartbeats 8000000
theorem r12_toe {g : GD} (h : g.OK) (hk : g.k ≤ 3) : Has Try.prog 9 [g.v] (gTv g) := by
  have n1 := h.n1; have n8 := h.n8; have k1 := h.k1
  obtain ⟨m1, m2, _, _⟩ := ok_lens h
  have hcl : (gTv g).closed = true := rfl
  refine has_of Try.func9 (by kernel_rfl) rfl Try.ntmps9 Try.results9 rfl hcl rfl ?_
  refine run0p ?_
  refine awp_loop (fun m' s => ∃ i, i ≤ 2 * g.n - 1 ∧ m' = 2 * g.n - 1 - i ∧ s = stl [(1, .ptr 1 0 0), (2, .ptr 2 0 0), (3, .ptr 3 0 0), (4, .i (i : Int))] [(70, (1, fun _ => .rats i fun i => .q ((gT g).A i))), (1, (1, fun _ => .ones 26 7 g.f)), (2, (1, fun _ => .ones 26 7 f00)), (3, (1, fun _ => .ones 26 7 (fT g.n (.own 70 0))))]) (2 * g.n - 1) _ ((imp_nilf 70 3 3 (fun i => .q ((gT g).A i)) rfl rfl (by decide) rfl rfl).trans (imp_id ?_ ?_)) ⟨0, Nat.zero_le _, rfl, rfl⟩ ?_
  · exact eA
  · exact allh rfl (by decide) (blen rfl fun i hi => absurd hi (Nat.not_lt_zero _)) True.intro (allh rfl (by decide) (bleo rfl fun _ _ => Le.id rfl) (fun i _ => g.fok _ i) (allh rfl (by decide) (le7 (Le.id rfl) (Le.id rfl) (Le.id rfl) (Le.id rfl) (Le.id rfl) (Le.id rfl) (Le.id rfl)) (fun i _ => f00ok i) (allh rfl (by decide) (le7 (Le.id rfl) (Le.id rfl) (Le.id rfl) (Le.id rfl) (Le.id rfl) (Le.id rfl) (Le.id rfl)) (fun i _ => fTok (by exact rfl) i) True.intro)))
  rintro m' s ⟨i, hi, rfl, rfl⟩
  refine run0p ?_
  refine awp_if rfl (fun h1 => ?_) (fun h1 => ?_)
  · have h1 : i < 2 * g.n - 1 := by omega
    by_cases e3 : g.k = 3
    · have hla : g.la = g.n := m2 (.inl e3)
      have hA : (gT g).A i = g.A ((i + 1) % g.n) := if_pos e3
      have hlt := Nat.mod_lt (i + 1) (show 0 < g.n by omega)
      have hw := h.sm.A ((i + 1) % g.n) (by omega)
      have hdiv : (((i : Int) + 1).tmod (g.n : Int)) = (((i + 1) % g.n : Nat) : Int) := by
        rw [show (i : Int) + 1 = ((i + 1 : Nat) : Int) by omega]; exact (Int.ofNat_tmod (i + 1) g.n).symm
      have cc := k_copy (p := g.A ((i + 1) % g.n)) (by omega)
      refine run0p ?_
      refine awp_no rfl (decide_eq_false (by omega)) ?_
      refine run0p ?_
      refine awp_no rfl (decide_eq_false (by omega)) ?_
      refine run0p ?_
      refine awp_yes rfl (decide_eq_true (by omega)) ?_
      refine run0p ?_
      rw [hdiv]
      repeat(first|refine run1p ?_|((with_reducible apply st_call);exact rfl;exact rfl;exact rfl;first|(exact cc))|((with_reducible apply st_callg);exact rfl;exact rfl;(first|exact rfl|assumption);exact rfl;exact rfl;exact rfl;first|(exact cc)))
      refine q_loop (m' := 2 * g.n - 1 - (i + 1)) (by omega) (fld_next (t := 70) (a := 1060) rfl rfl (glue_one (congrArg RA.q hA.symm)) (by exact True.intro) rfl rfl ?_ ?_) ⟨i + 1, by omega, rfl, rfl⟩
      · exact alle rfl (Le.ptr (s1_ne (by decide))) rfl (alle rfl (Le.ptr (s1_ne (by decide))) rfl (alle rfl (Le.ptr (s1_ne (by decide))) rfl (alle rfl (Le.eq rfl rfl) True.intro True.intro)))
      · exact allh rfl Nat.zero_lt_one (bleo rfl fun i hi => Le.same (g.fok _ i)) (fun i _ => g.fok _ i) (allh rfl Nat.zero_lt_one (bleo rfl fun i hi => Le.same (f00ok i)) (fun i _ => f00ok i) (allh rfl Nat.zero_lt_one (le7 (Le.eq rfl rfl) (Le.eq rfl rfl) (Le.eq rfl rfl) (Le.own s1_t) (Le.eq rfl rfl) (Le.eq rfl rfl) (Le.eq rfl rfl)) (fun i _ => fTok (by exact rfl) i) True.intro))
    · have hla : g.la = 2 * g.n - 1 := m1 (by omega)
      have hA : (gT g).A i = g.A i := if_neg e3
      have hw := h.sm.A i (by omega)
      have cc := k_copy (p := g.A i) (by omega)
      by_cases e1 : g.k = 1
      · refine run0p ?_
        refine awp_yes rfl (decide_eq_true (by omega)) ?_
        repeat(first|refine run1p ?_|((with_reducible apply st_call);exact rfl;exact rfl;exact rfl;first|(exact cc))|((with_reducible apply st_callg);exact rfl;exact rfl;(first|exact rfl|assumption);exact rfl;exact rfl;exact rfl;first|(exact cc)))
        refine q_loop (m' := 2 * g.n - 1 - (i + 1)) (by omega) (fld_next (t := 70) (a := 30) rfl rfl (glue_one (congrArg RA.q hA.symm)) (by exact True.intro) rfl rfl ?_ ?_) ⟨i + 1, by omega, rfl, rfl⟩
        · exact alle rfl (Le.ptr (s1_ne (by decide))) rfl (alle rfl (Le.ptr (s1_ne (by decide))) rfl (alle rfl (Le.ptr (s1_ne (by decide))) rfl (alle rfl (Le.eq rfl rfl) True.intro True.intro)))
        · exact allh rfl Nat.zero_lt_one (bleo rfl fun i hi => Le.same (g.fok _ i)) (fun i _ => g.fok _ i) (allh rfl Nat.zero_lt_one (bleo rfl fun i hi => Le.same (f00ok i)) (fun i _ => f00ok i) (allh rfl Nat.zero_lt_one (le7 (Le.eq rfl rfl) (Le.eq rfl rfl) (Le.eq rfl rfl) (Le.own s1_t) (Le.eq rfl rfl) (Le.eq rfl rfl) (Le.eq rfl rfl)) (fun i _ => fTok (by exact rfl) i) True.intro))
      · refine run0p ?_
        refine awp_no rfl (decide_eq_false (by omega)) ?_
        refine run0p ?_
        refine awp_yes rfl (decide_eq_true (by omega)) ?_
        repeat(first|refine run1p ?_|((with_reducible apply st_call);exact rfl;exact rfl;exact rfl;first|(exact cc))|((with_reducible apply st_callg);exact rfl;exact rfl;(first|exact rfl|assumption);exact rfl;exact rfl;exact rfl;first|(exact cc)))
        refine q_loop (m' := 2 * g.n - 1 - (i + 1)) (by omega) (fld_next (t := 70) (a := 43) rfl rfl (glue_one (congrArg RA.q hA.symm)) (by exact True.intro) rfl rfl ?_ ?_) ⟨i + 1, by omega, rfl, rfl⟩
        · exact alle rfl (Le.ptr (s1_ne (by decide))) rfl (alle rfl (Le.ptr (s1_ne (by decide))) rfl (alle rfl (Le.ptr (s1_ne (by decide))) rfl (alle rfl (Le.eq rfl rfl) True.intro True.intro)))
        · exact allh rfl Nat.zero_lt_one (bleo rfl fun i hi => Le.same (g.fok _ i)) (fun i _ => g.fok _ i) (allh rfl Nat.zero_lt_one (bleo rfl fun i hi => Le.same (f00ok i)) (fun i _ => f00ok i) (allh rfl Nat.zero_lt_one (le7 (Le.eq rfl rfl) (Le.eq rfl rfl) (Le.eq rfl rfl) (Le.own s1_t) (Le.eq rfl rfl) (Le.eq rfl rfl) (Le.eq rfl rfl)) (fun i _ => fTok (by exact rfl) i) True.intro))
  · have ei : i = 2 * g.n - 1 := by omega
    subst ei
    repeat(first|(with_reducible first|refine awp_seq ?_|refine awp_block ?_|refine awp_skip ?_|refine awp_exit ?_|refine awp_ret ?_|refine q_then ?_|refine q_block ?_|refine q_then_exit ?_|refine q_then_ret ?_|refine q_block_exit ?_|refine q_block_ret ?_|refine q_loop_exit ?_|refine q_loop_ret ?_)|((with_reducible refine q_block_other ?_ ?_);exact rfl))
    refine awp_imp ((imp_pub 3 3 rfl rfl (by decide) rfl rfl rfl (by decide)).trans (imp_id (e := [(2, .ptr 2 0 0), (3, .ptr 3 0 0)]) (h := [(2, (1, fun _ => .ones 26 7 f00)), (3, (1, fun _ => .ones 26 7 (fT g.n (.row true (2 * g.n - 1) fun i => .q ((gT g).A i)))))]) ?_ ?_)) ?_
    · exact eA
    · exact allh rfl (by decide) (bleo rfl fun _ _ => Le.id rfl) (fun i _ => f00ok i) (allh rfl (by decide) (le7 (Le.id rfl) (Le.id rfl) (Le.id rfl) (Le.id rfl) (Le.id rfl) (Le.id rfl) (Le.id rfl)) (fun i _ => fTok (by exact True.intro) i) True.intro)
    refine run0p ?_
    exact ⟨.inr rfl, _, Imp.refl _, .one (.agg rfl rfl rfl rfl (by decide) rfl rfl)⟩
theorem r12_toe_no {g : GD} (h : g.OK) (hk : 3 < g.k) : Has Try.prog 9 [g.v] (.ag 7 f00) := by
  have n1 := h.n1; have n8 := h.n8
  refine has_of Try.func9 (by kernel_rfl) rfl Try.ntmps9 Try.results9 rfl (by rfl) rfl ?_
  refine run0p ?_
  refine awp_loop (fun m' s => m' = 1 ∧ s = stl [(1, .ptr 1 0 0), (2, .ptr 2 0 0), (4, .i 0)] [(1, (1, fun _ => .ones 26 7 g.f)), (2, (1, fun _ => .ones 26 7 f00))]) 1 _ (imp_id ?_ ?_) ⟨rfl, rfl⟩ ?_
  · exact eA
  · exact allh rfl (by decide) (bleo rfl fun _ _ => Le.id rfl) (fun i _ => g.fok _ i) (allh rfl (by decide) (le7 (Le.id rfl) (Le.id rfl) (Le.id rfl) (Le.id rfl) (Le.id rfl) (Le.id rfl) (Le.id rfl)) (fun i _ => f00ok i) True.intro)
  rintro m' s ⟨rfl, rfl⟩
  refine run0p ?_
  refine awp_yes rfl (decide_eq_true (by omega)) ?_
  refine run0p ?_
  refine awp_no rfl (decide_eq_false (by omega)) ?_
  refine run0p ?_
  refine awp_no rfl (decide_eq_false (by omega)) ?_
  refine run0p ?_
  refine awp_no rfl (decide_eq_false (by omega)) ?_
  refine run0p ?_
  refine ⟨.inr rfl, stl [(2, .ptr 2 0 0)] [(2, (1, fun _ => .ones 26 7 f00))], imp_id ?_ ?_, .one (.agg rfl rfl rfl rfl (by decide) rfl rfl)⟩
  · exact eA
  · exact allh rfl (by decide) (le7 (Le.id rfl) (Le.id rfl) (Le.id rfl) (Le.id rfl) (Le.id rfl) (Le.id rfl) (Le.id rfl)) (fun i _ => f00ok i) True.intro
end Go.Proofs.Ytdnmoggifjlbiaa.AM
/- Systems that are drawn: Toeplitz ones with small whole numbers now and then. -/
namespace Go.Proofs.Ytdnmoggifjlbiaa.AM
open Go Go.RowKit Go.Proofs.Ytdnmoggifjlbiaa.PN Go.Proofs.Ytdnmoggifjlbiaa.V
open Go.Proofs.Ytdnmoggifjlbiaa.LA (S S_succ S_zero S_congr)
set_option linter.unusedVariables false
set_option linter.unusedSimpArgs false
set_option maxRecDepth 8000
set_option maxHeartbeats 8000000
/-- Small whole numbers. -/
def trA (zs : List Int) (i : Nat) : Rat := ((wthn (if i < zs.length then (zs.getD i 0).tdiv 2 else (i : Int)) 3 - 1 : Int) : Rat)
def trB (zs : List Int) : Bool := decide (0 < zs.length) && decide (wthn (zs.getD 0 0) 2 = 0)
def mkt (n : Int) (zs : List Int) (most : Int) : GD := let g := mkg 0 n zs most; { g with A := fun i => if trB zs then trA zs i else g.A i }
/-- A system's struct with another first row. -/
def GD.fA (g : GD) (x : AV) (i : Nat) : AV := [AV.i g.k, .i g.n, .i g.r, x, .row true g.lb (fun i => .q (g.B i)), .row true g.lg (fun i => .q (g.G i)), .row true g.lh (fun i => .q (g.H i))].getD i (.v undef)
end Go.Proofs.Ytdnmoggifjlbiaa.AM
/- Drawn Toeplitz systems: how long their numbers are; answers. -/
namespace Go.Proofs.Ytdnmoggifjlbiaa.AM
open Go.Proofs.Ytdnmoggifjlbiaa.PN
open Go.Proofs.Ytdnmoggifjlbiaa.LA (Mt S S_succ S_zero S_congr app app_congr app_sub app_mul app_add det unique)
set_option linter.unusedVariables false
set_option linter.unusedSimpArgs false
set_option maxRecDepth 8000
set_option maxHeartbeats 8000000
end Go.Proofs.Ytdnmoggifjlbiaa.AM
/- Laws of turned systems: what is known; Hankel ones that are drawn. -/
namespace Go.Proofs.Ytdnmoggifjlbiaa.AM
open Go Go.RowKit Go.Proofs.Ytdnmoggifjlbiaa.PN Go.Proofs.Ytdnmoggifjlbiaa.V
open Go.Proofs.Ytdnmoggifjlbiaa.LA (S S_succ S_zero S_congr S_rev app det unique)
set_option linter.unusedVariables false
set_option linter.unusedSimpArgs false
set_option maxRecDepth 8000
set_option maxHeartbeats 8000000
def kL (k : Nat) (x : Rat) : GD := ⟨k, 1, 0, 1, 0, 0, 0, fun _ => x, fun _ => 0, fun _ => 0, fun _ => 0⟩
theorem kL4_ok : (kL 4 1).OK := by
  refine ⟨by decide, by decide, by decide, by decide, by decide, fun h => (by cases h), fun _ => rfl, ?_, ⟨fun i _ => by show wt 1 ≤ 4; decide, fun i hi => absurd hi (Nat.not_lt_zero _), fun i hi => absurd hi (Nat.not_lt_zero _), fun i hi => absurd hi (Nat.not_lt_zero _)⟩, fun i hi j hj => absurd hj (Nat.not_lt_zero _)⟩
  intro i hi
  have hi4 : i = 0 ∨ i = 1 ∨ i = 2 ∨ i = 3 := by omega
  rcases hi4 with rfl | rfl | rfl | rfl <;> decide
theorem kL3_ok : (kL 3 3).OK := by
  refine ⟨by decide, by decide, by decide, by decide, by decide, fun h => (by cases h), fun _ => rfl, ?_, ⟨fun i _ => by show wt 3 ≤ 4; decide, fun i hi => absurd hi (Nat.not_lt_zero _), fun i hi => absurd hi (Nat.not_lt_zero _), fun i hi => absurd hi (Nat.not_lt_zero _)⟩, fun i hi j hj => absurd hj (Nat.not_lt_zero _)⟩
  intro i hi
  have hi4 : i = 0 ∨ i = 1 ∨ i = 2 ∨ i = 3 := by omega
  rcases hi4 with rfl | rfl | rfl | rfl <;> decide
theorem kL_args {S : Nat → Prop} {B : Nat} {β : Nat → Nat → Value} {w : World} {k : Nat} {x : Rat} {u : Nat → AV} {q : Nat → RA} (h0 : u 0 = .i k) (h1 : u 1 = .i 1) (h2 : u 2 = .i 0) (h3 : u 3 = .row false 1 q) (hq : q 0 = .q x) (h4 : u 4 = .v (.slice none 0 0)) (h5 : u 5 = .v (.slice none 0 0)) (h6 : u 6 = .v (.slice none 0 0)) : ∀ i, i < 7 → ∀ v, RV S B β w (u i) v → RV S B β w ((kL k x).f i) v := by
  intro i hi v hv
  match i, hi with
  | 0, _ => rw [h0] at hv; exact hv
  | 1, _ => rw [h1] at hv; exact hv
  | 2, _ => rw [h2] at hv; exact hv
  | 3, _ =>
    rw [h3] at hv
    refine rv_row (fun i hi => ?_) v hv
    have hi : i < 1 := hi
    obtain rfl : i = 0 := by omega
    exact hq
  | 4, _ => rw [h4] at hv; exact rv_nil0 v hv
  | 5, _ => rw [h5] at hv; exact rv_nil0 v hv
  | 6, _ => rw [h6] at hv; exact rv_nil0 v hv
theorem k_known12 : Has Try.prog 5 [] (.b true) := by
  have c1 := hs_int 1 (by decide) (by decide)
  have c3 := hs_int 3 (by decide) (by decide)
  have ct := t_toe_no kL4_ok (by decide)
  have cc : Has Try.prog 7 [(kL 3 3).v] (.ag 7 (fT 1 (.row true 1 fun i => .q ((gT (kL 3 3)).A i)))) := t_toe kL3_ok (by decide)
  generalize (gT (kL 3 3)).A = A at *
  refine has_of Try.func5 (by kernel_rfl) rfl Try.ntmps5 Try.results5 rfl rfl rfl ?_
  repeat(first|refine run1p ?_|((with_reducible apply st_call);exact rfl;exact rfl;exact rfl;first|(exact c1)|(exact c3)|(exact Has.agv (u' := (kL 4 1).f) (fun S B β w => kL_args rfl rfl rfl rfl rfl rfl rfl rfl) ct)|(exact Has.agv (u' := (kL 3 3).f) (fun S B β w => kL_args rfl rfl rfl rfl rfl rfl rfl rfl) cc))|((with_reducible apply st_callg);exact rfl;exact rfl;(first|exact rfl|assumption);exact rfl;exact rfl;exact rfl;first|(exact c1)|(exact c3)|(exact Has.agv (u' := (kL 4 1).f) (fun S B β w => kL_args rfl rfl rfl rfl rfl rfl rfl rfl) ct)|(exact Has.agv (u' := (kL 3 3).f) (fun S B β w => kL_args rfl rfl rfl rfl rfl rfl rfl rfl) cc)))
  exact ⟨.inr rfl, _, Imp.refl _, .one (.tmp rfl)⟩
/-- A Toeplitz system, taken for a Hankel one. -/
def gH (g : GD) : GD := { g with k := 2 }
/-- A Hankel matrix is a Toeplitz one with its columns turned about. -/
theorem hank_toe {g : GD} (hk : g.k = 2) {i j : Nat} (hi : i < g.n) (hj : j < g.n) : gent g i j = gent (gT g) i (g.n - 1 - j) := by
  unfold gent
  rw [hk]
  show g.A (i + j) = if g.k = 3 then g.A ((i + g.n - 1 - (g.n - 1 - j) + 1) % g.n) else g.A (i + g.n - 1 - (g.n - 1 - j))
  rw [hk, if_neg (by decide)]
  congr 1; omega
end Go.Proofs.Ytdnmoggifjlbiaa.AM
/- The document's check of a system. -/
namespace Go.Proofs.Ytdnmoggifjlbiaa.V
open Go Go.RowKit Go.Proofs.Ytdnmoggifjlbiaa.PN
set_option linter.unusedVariables false
set_option linter.unusedSimpArgs false
set_option maxHeartbeats 1000000 in
theorem r_right_any (A : Option Addr) (c s n : Nat) (w : World) (ha : At w A s n) (hs : s < B ^ n) (hn : n ≤ 17592186044416) :
    Calls Try.prog 72 #[.slice A n c] w fun e w' => e = .returned (.bool (decide (n = size s))) ∧ w = w' := by
  rcases Nat.eq_zero_or_pos n with h | h
  · subst h
    have h1 : decide (0 = size s) = true := by have := (lt_iff s 0).1 hs; simp; omega
    rw [h1]
    clear ha hs h1
    go_enter Try.func72, Try.ntmps72
    go_wp2
    go_ret
    simp
  · obtain ⟨k, rfl⟩ : ∃ k, n = k + 1 := ⟨n - 1, by omega⟩
    obtain ⟨b, off, rfl, hcell⟩ := ha k (by omega)
    have h1 : decide (k + 1 = size s) = !decide ((dig s k : Int) = 0) := by
      by_cases h0 : dig s k = 0
      · have := (lt_iff s k).1 (size_cut hs h0)
        rw [h0]; simp; omega
      · rw [size_of_top hs h0]; simp; exact h0
    rw [h1]
    have hk : ((k : Int) + 1 == 0) = false := by simp; omega
    clear ha hs h1
    generalize dig s k = d at *
    go_enter Try.func72, Try.ntmps72
    go_wp2
    go_ret
    exact ⟨congrArg (fun b => Ending.returned (.bool b)) (by rw [Bool.eq_iff_iff]; simp), rfl⟩
theorem r_right_v {w : World} {va : Value} {a : Nat} [ha : NatAt w va a] (hn : size a ≤ 4398046511103) : Calls Try.prog 72 #[va] w fun e w' => e = .returned (.bool true) ∧ w = w' := by
  obtain ⟨A, c, rfl, hc, h1⟩ := ha.at
  have h := r_right_any A c a (size a) w h1 (lt_size a) (by omega)
  simpa using h
end Go.Proofs.Ytdnmoggifjlbiaa.V
namespace Go.Proofs.Ytdnmoggifjlbiaa.AM
open Go Go.RowKit Go.Proofs.Ytdnmoggifjlbiaa.PN Go.Proofs.Ytdnmoggifjlbiaa.V
open Go.Proofs.Ytdnmoggifjlbiaa.LA (S S_succ S_zero S_congr)
set_option linter.unusedVariables false
set_option linter.unusedSimpArgs false
set_option maxRecDepth 8000
set_option maxHeartbeats 8000000
theorem hr_right {a : Nat} (ha : size a ≤ 4398046511103) : Has Try.prog 72 [.nat a] (.b true) := by
  refine ⟨by kernel_rfl, trivial, fun w S β vs hv => ?_⟩
  obtain ⟨v, rfl, h1⟩ := rvs1 hv
  haveI : NatAt w v a := ⟨h1⟩
  refine (r_right_v ha).mono ?_
  rintro e w' ⟨rfl, rfl⟩
  exact ⟨_, rfl, Below.refl _ _, rfl⟩
theorem hr_gcd {a b : Nat} (ha : size a ≤ 32000) (hb : size b ≤ 32000) : Has Try.prog 73 [.nat a, .nat b] (.nat (Nat.gcd a b)) := by
  refine ⟨by kernel_rfl, trivial, fun w S β vs hv => ?_⟩
  obtain ⟨v, u, rfl, h1, h2⟩ := rvs2 hv
  haveI : NatAt w v a := ⟨h1⟩
  haveI : NatAt w u b := ⟨h2⟩
  refine (r_gcd ha hb).mono ?_
  rintro e w' ⟨v, rfl, h1, h2⟩
  exact ⟨_, rfl, h2, h1.any⟩
theorem hr_cmp {a b : Nat} (ha : size a ≤ 4398046511103) (hb : size b ≤ 4398046511103) : Has Try.prog 28 [.nat a, .nat b] (.i (cmpI a b)) := by
  refine ⟨by kernel_rfl, trivial, fun w S β vs hv => ?_⟩
  obtain ⟨v, u, rfl, h1, h2⟩ := rvs2 hv
  haveI : NatAt w v a := ⟨h1⟩
  haveI : NatAt w u b := ⟨h2⟩
  refine (r_cmp_v ha hb).mono ?_
  rintro e w' ⟨rfl, h2⟩
  exact ⟨_, rfl, h2, rfl⟩
theorem h2_one : Has Try.prog 35 [] (.nat 1) := by
  refine ⟨by kernel_rfl, trivial, fun w S β vs hv => ?_⟩
  have hv0 : vs = [] := by have := hv.1; exact List.eq_nil_of_length_eq_zero this.symm
  subst hv0
  refine (s_one w).mono ?_
  rintro e w' ⟨v, rfl, h1, h2⟩
  exact ⟨_, rfl, h2, h1.any⟩
theorem hs_right {p : Rat} (hs : wt p ≤ 32000) : Has Try.prog 54 [.q p] (.b true) := by
  have b1 := wt_num p; have b2 := wt_den p
  have c1 := hr_right (a := nm p) (by omega)
  have c2 := hr_right (a := p.den) (by omega)
  have c3 := hr_gcd (a := nm p) (b := p.den) (by omega) (by omega)
  rw [show Nat.gcd (nm p) p.den = 1 from p.reduced] at c3
  have c4 : Has Try.prog 28 [.nat 1, .nat 1] (.i 0) := hr_cmp (a := 1) (b := 1) (by decide) (by decide)
  have hd := size_pos p.den_nz
  have f1 : decide (((size p.den : Nat) : Int) = 0) = false := decide_eq_false (by omega)
  have f2 : (decide (((size p.den : Nat) : Int) = 0) == false) = true := by rw [f1]; rfl
  refine has_of Try.func54 (by kernel_rfl) rfl Try.ntmps54 Try.results54 rfl rfl rfl ?_
  by_cases h0 : size (nm p) = 0
  · have f3 : decide (((size (nm p) : Nat) : Int) = 0) = true := decide_eq_true (by omega)
    have f4 : (decide (((size (nm p) : Nat) : Int) = 0) == true) = true := by rw [f3]; rfl
    have hn : ng p = false := by
      have hz : nm p = 0 := size_eq_zero.1 h0
      have hp := nm_eq_zero.1 hz
      rw [hp]; rfl
    repeat(first|refine run1p ?_|((with_reducible apply st_call);exact rfl;exact rfl;exact rfl;first|(exact c1)|(exact c2))|((with_reducible apply st_callg);exact rfl;exact rfl;(first|exact rfl|assumption);exact rfl;exact rfl;exact rfl;first|(exact c1)|(exact c2)))
    refine awp_no rfl hn ?_
    repeat(first|refine run1p ?_|((with_reducible apply st_call);exact rfl;exact rfl;exact rfl;first|(exact c3)|(exact h2_one)|(exact c4))|((with_reducible apply st_callg);exact rfl;exact rfl;(first|exact rfl|assumption);exact rfl;exact rfl;exact rfl;first|(exact c3)|(exact h2_one)|(exact c4)))
    exact ⟨.inr rfl, _, Imp.refl _, .one (.tmp rfl)⟩
  · have f3 : decide (((size (nm p) : Nat) : Int) = 0) = false := decide_eq_false (by omega)
    have f4 : (decide (((size (nm p) : Nat) : Int) = 0) == true) = false := by rw [f3]; rfl
    repeat(first|refine run1p ?_|((with_reducible apply st_call);exact rfl;exact rfl;exact rfl;first|(exact c1)|(exact c2))|((with_reducible apply st_callg);exact rfl;exact rfl;(first|exact rfl|assumption);exact rfl;exact rfl;exact rfl;first|(exact c1)|(exact c2)))
    refine awp_no rfl rfl ?_
    repeat(first|refine run1p ?_|((with_reducible apply st_call);exact rfl;exact rfl;exact rfl;first|(exact c3)|(exact h2_one)|(exact c4))|((with_reducible apply st_callg);exact rfl;exact rfl;(first|exact rfl|assumption);exact rfl;exact rfl;exact rfl;first|(exact c3)|(exact h2_one)|(exact c4)))
    exact ⟨.inr rfl, _, Imp.refl _, .one (.tmp rfl)⟩
theorem r5_countsg {k n r la lb lg lh : Nat} {A B G H : Nat → Rat} (h1 : 1 ≤ k) (h7 : k ≤ 7) (n1 : 1 ≤ n) (n8 : n ≤ 8) (r3 : r ≤ 3) : Has Try.prog 22 [GD.v ⟨k, n, r, la, lb, lg, lh, A, B, G, H⟩] (.tup3 (.i (cnA k n)) (.i (cnB k n)) (.i (cnH k n r))) := by
  have hk : k = 1 ∨ k = 2 ∨ k = 3 ∨ k = 4 ∨ k = 5 ∨ k = 6 ∨ k = 7 := by omega
  have em : (n : Int) * (r : Int) = ((n * r : Nat) : Int) := (Int.natCast_mul n r).symm
  have hnr : n * r ≤ 8 * 3 := Nat.mul_le_mul n8 r3
  have q1 : -9223372036854775808 ≤ (n : Int) * (r : Int) := by rw [em]; omega
  have q2 : (n : Int) * (r : Int) ≤ 9223372036854775807 := by rw [em]; omega
  refine has_of Try.func22 (by kernel_rfl) rfl Try.ntmps22 Try.results22 rfl rfl rfl ?_
  refine run0 ?_
  rcases hk with rfl | rfl | rfl | rfl | rfl | rfl | rfl
  · skip
    refine awp_yes rfl rfl ?_
    refine run0 ?_
    refine awp_yes rfl rfl ?_
    refine run0 ?_
    rw [show (2 : Int) * n - 1 = ((cnA 1 n : Nat) : Int) from by show (2 : Int) * n - 1 = ((2 * n - 1 : Nat) : Int); omega]
    exact ⟨.inr rfl, _, Imp.refl _, .three (.tmp rfl) (.tmp rfl) (.tmp rfl)⟩
  · skip
    refine awp_no rfl rfl ?_
    refine run0 ?_
    refine awp_yes rfl rfl ?_
    refine run0 ?_
    rw [show (2 : Int) * n - 1 = ((cnA 2 n : Nat) : Int) from by show (2 : Int) * n - 1 = ((2 * n - 1 : Nat) : Int); omega]
    exact ⟨.inr rfl, _, Imp.refl _, .three (.tmp rfl) (.tmp rfl) (.tmp rfl)⟩
  · skip
    refine awp_no rfl rfl ?_
    refine run0 ?_
    refine awp_no rfl rfl ?_
    refine run0 ?_
    refine awp_yes rfl rfl ?_
    refine run0 ?_
    refine awp_yes rfl rfl ?_
    refine run0 ?_
    exact ⟨.inr rfl, _, Imp.refl _, .three (.tmp rfl) (.tmp rfl) (.tmp rfl)⟩
  · skip
    refine awp_no rfl rfl ?_
    refine run0 ?_
    refine awp_no rfl rfl ?_
    refine run0 ?_
    refine awp_no rfl rfl ?_
    refine run0 ?_
    refine awp_yes rfl rfl ?_
    refine run0 ?_
    exact ⟨.inr rfl, _, Imp.refl _, .three (.tmp rfl) (.tmp rfl) (.tmp rfl)⟩
  · skip
    refine awp_no rfl rfl ?_
    refine run0 ?_
    refine awp_no rfl rfl ?_
    refine run0 ?_
    refine awp_no rfl rfl ?_
    refine run0 ?_
    refine awp_no rfl rfl ?_
    refine run0 ?_
    refine awp_yes rfl rfl ?_
    refine run0 ?_
    exact ⟨.inr rfl, _, Imp.refl _, .three (.tmp rfl) (.tmp rfl) (.tmp rfl)⟩
  · skip
    refine awp_no rfl rfl ?_
    refine run0 ?_
    refine awp_no rfl rfl ?_
    refine run0 ?_
    refine awp_no rfl rfl ?_
    refine run0 ?_
    refine awp_no rfl rfl ?_
    refine run0 ?_
    refine awp_no rfl rfl ?_
    refine run0 ?_
    refine awp_yes rfl rfl ?_
    refine run0 ?_
    rw [em]
    exact ⟨.inr rfl, _, Imp.refl _, .three (.tmp rfl) (.tmp rfl) (.tmp rfl)⟩
  · skip
    refine awp_no rfl rfl ?_
    refine run0 ?_
    refine awp_no rfl rfl ?_
    refine run0 ?_
    refine awp_no rfl rfl ?_
    refine run0 ?_
    refine awp_no rfl rfl ?_
    refine run0 ?_
    refine awp_no rfl rfl ?_
    refine run0 ?_
    refine awp_no rfl rfl ?_
    refine run0 ?_
    rw [em]
    exact ⟨.inr rfl, _, Imp.refl _, .three (.tmp rfl) (.tmp rfl) (.tmp rfl)⟩
theorem r5_right {n : Nat} {f : Nat → Rat} (hf : ∀ i, i < n → wt (f i) ≤ 4) (hn : n ≤ 1000000) : Has Try.prog 30 [.row false n fun i => .q (f i)] (.b true) := by
  refine has_of Try.func30 (by kernel_rfl) rfl Try.ntmps30 Try.results30 rfl rfl rfl ?_
  refine run0p ?_
  refine awp_loop (fun m' s => ∃ i, i ≤ n ∧ m' = n - i ∧ s = stl [(0, .row false n fun i => .q (f i)), (3, .i (i : Int))] []) n _ (imp_id ?_ ?_) ⟨0, Nat.zero_le _, rfl, rfl⟩ ?_
  · exact eA
  · exact hA
  rintro m' s ⟨i, hi, rfl, rfl⟩
  refine run0p ?_
  refine awp_if rfl (fun h => ?_) (fun h => ?_)
  · have h : i < n := by omega
    have w1 := hf i h
    have b1 := wt_num (f i); have b2 := wt_den (f i)
    have f1 : decide ((4 : Int) < ((size (nm (f i)) : Nat) : Int)) = false := decide_eq_false (by omega)
    have f2 : (decide ((4 : Int) < ((size (nm (f i)) : Nat) : Int)) == false) = true := by rw [f1]; rfl
    have f3 : decide ((4 : Int) < ((size (f i).den : Nat) : Int)) = false := decide_eq_false (by omega)
    have f4 : (decide ((4 : Int) < ((size (f i).den : Nat) : Int)) == false) = true := by rw [f3]; rfl
    repeat(first|refine run1p ?_|((with_reducible apply st_call);exact rfl;exact rfl;exact rfl;first|(exact hs_right (p := f i) (by omega)))|((with_reducible apply st_callg);exact rfl;exact rfl;(first|exact rfl|assumption);exact rfl;exact rfl;exact rfl;first|(exact hs_right (p := f i) (by omega))))
    refine awp_no rfl rfl ?_
    refine run0p ?_
    refine q_loop ?_ (imp_id ?_ ?_) ⟨i + 1, ?_, rfl, rfl⟩
    · omega
    · exact eA
    · exact hA
    · omega
  · refine run0p ?_
    exact ⟨.inr rfl, _, Imp.refl _, .one (.tmp rfl)⟩
theorem r5_head {g : GD} (h : g.OK) : Has Try.prog 29 [g.v] (.i 0) := by
  have n1 := h.n1; have n8 := h.n8; have r3 := h.r3; have k1 := h.k1; have k7 := h.k7
  have e0 : decide ((g.k : Int) < 1) = false := decide_eq_false (by omega)
  have e1 : (decide ((g.k : Int) < 1) == false) = true := by rw [e0]; rfl
  have e2 : decide ((7 : Int) < g.k) = false := decide_eq_false (by omega)
  have n0 : decide ((g.n : Int) < 1) = false := decide_eq_false (by omega)
  have n2 : (decide ((g.n : Int) < 1) == false) = true := by rw [n0]; rfl
  have n3 : decide ((8 : Int) < g.n) = false := decide_eq_false (by omega)
  have n4 : (decide ((8 : Int) < g.n) == false) = true := by rw [n3]; rfl
  refine has_of Try.func29 (by kernel_rfl) rfl Try.ntmps29 Try.results29 rfl rfl rfl ?_
  refine run0p ?_
  refine awp_no rfl e2 ?_
  cases hk : likeB g.k with
  | true =>
    have hr := h.rk hk
    have a0 : decide ((g.r : Int) < 1) = false := decide_eq_false (by omega)
    have a1 : (decide ((g.r : Int) < 1) == false) = true := by rw [a0]; rfl
    have a2 : decide ((3 : Int) < g.r) = false := decide_eq_false (by omega)
    have a3 : (decide ((3 : Int) < g.r) == false) = true := by rw [a2]; rfl
    have cl := r5_like g.k
    rw [hk] at cl
    repeat(first|refine run1p ?_|((with_reducible apply st_call);exact rfl;exact rfl;exact rfl;first|(exact cl))|((with_reducible apply st_callg);exact rfl;exact rfl;(first|exact rfl|assumption);exact rfl;exact rfl;exact rfl;first|(exact cl)))
    refine awp_no rfl rfl ?_
    refine run0p ?_
    exact ⟨.inr rfl, _, Imp.refl _, .one (.tmp rfl)⟩
  | false =>
    have hr := h.r0 hk
    have a0 : decide ((g.r : Int) ≠ 0) = false := decide_eq_false (by omega)
    have a1 : (decide ((g.r : Int) ≠ 0) == false) = true := by rw [a0]; rfl
    have cl := r5_like g.k
    rw [hk] at cl
    repeat(first|refine run1p ?_|((with_reducible apply st_call);exact rfl;exact rfl;exact rfl;first|(exact cl))|((with_reducible apply st_callg);exact rfl;exact rfl;(first|exact rfl|assumption);exact rfl;exact rfl;exact rfl;first|(exact cl)))
    refine awp_no rfl a0 ?_
    refine run0p ?_
    exact ⟨.inr rfl, _, Imp.refl _, .one (.tmp rfl)⟩
theorem cn_lens {g : GD} (h : g.OK) : g.la = cnA g.k g.n ∧ g.lb = cnB g.k g.n ∧ g.lg = cnH g.k g.n g.r ∧ g.lh = cnH g.k g.n g.r := by
  have h1 := h.k1; have h7 := h.k7; have n1 := h.n1
  have l0 := h.len 0 (by omega); have l1 := h.len 1 (by omega); have l2 := h.len 2 (by omega); have l3 := h.len 3 (by omega)
  have e : ((g.n * g.r : Nat) : Int) = (g.n : Int) * g.r := Int.natCast_mul g.n g.r
  have hk : g.k = 1 ∨ g.k = 2 ∨ g.k = 3 ∨ g.k = 4 ∨ g.k = 5 ∨ g.k = 6 ∨ g.k = 7 := by omega
  have c : ∀ (x y z n r : Int), x = 0 → y = 1 → z = 0 → x * n + y * n * r + z = n * r := by intro x y z n r hx hy hz; subst hx; subst hy; subst hz; simp
  have d : ∀ (x y z n r : Int), x = 1 → y = 0 → z = 0 → x * n + y * n * r + z = n := by intro x y z n r hx hy hz; subst hx; subst hy; subst hz; simp
  have f : ∀ (x y z n r : Int), x = 2 → y = 0 → z = -1 → x * n + y * n * r + z = 2 * n - 1 := by intro x y z n r hx hy hz; subst hx; subst hy; subst hz; simp; omega
  have z : ∀ (x y z n r : Int), x = 0 → y = 0 → z = 0 → x * n + y * n * r + z = 0 := by intro x y z n r hx hy hz; subst hx; subst hy; subst hz; simp
  change (g.la : Int) = _ at l0
  change (g.lb : Int) = _ at l1
  change (g.lg : Int) = _ at l2
  change (g.lh : Int) = _ at l3
  rcases hk with hk | hk | hk | hk | hk | hk | hk <;> rw [hk] at l0 l1 l2 l3 ⊢
  all_goals
    simp only [cnA, cnB, cnH]
    first
      | (rw [f _ _ _ _ _ (by decide) (by decide) (by decide)] at l0; rw [z _ _ _ _ _ (by decide) (by decide) (by decide)] at l1 l2 l3; omega)
      | (rw [d _ _ _ _ _ (by decide) (by decide) (by decide)] at l0; rw [z _ _ _ _ _ (by decide) (by decide) (by decide)] at l1 l2 l3; omega)
      | (rw [d _ _ _ _ _ (by decide) (by decide) (by decide)] at l0 l1; rw [z _ _ _ _ _ (by decide) (by decide) (by decide)] at l2 l3; omega)
      | (rw [z _ _ _ _ _ (by decide) (by decide) (by decide)] at l0 l1; rw [c _ _ _ _ _ (by decide) (by decide) (by decide)] at l2 l3; omega)
      | (rw [d _ _ _ _ _ (by decide) (by decide) (by decide)] at l0 l1; rw [c _ _ _ _ _ (by decide) (by decide) (by decide)] at l2 l3; omega)
theorem r5_check {g : GD} (h : g.OK) : Has Try.prog 12 [g.v] (.i 0) := by
  have n1 := h.n1; have n8 := h.n8; have r3 := h.r3; have k1 := h.k1; have k7 := h.k7
  have hle : ∀ i : Nat, i < 4 → g.len i ≤ 1000000 := fun i hi => h.lenle i hi
  have la : g.la ≤ 1000000 := hle 0 (by omega)
  have lb : g.lb ≤ 1000000 := hle 1 (by omega)
  have lg : g.lg ≤ 1000000 := hle 2 (by omega)
  have lh : g.lh ≤ 1000000 := hle 3 (by omega)
  obtain ⟨q1, q2, q3, q4⟩ := cn_lens h
  have cc : Has Try.prog 22 [g.v] (.tup3 (.i g.la) (.i g.lb) (.i g.lg)) := by
    rw [q1, q2, q3]
    exact r5_countsg k1 k7 n1 n8 r3
  have q5 : g.lh = g.lg := by omega
  have ne : ∀ x : Nat, decide ((x : Int) ≠ x) = false := fun x => decide_eq_false fun h => h rfl
  have f1 := ne g.la; have f2 := ne g.lb; have f3 := ne g.lg
  have f4 : decide ((g.lh : Int) ≠ g.lg) = false := by rw [q5]; exact f3
  have g1 : (decide ((g.la : Int) ≠ g.la) == false) = true := by rw [f1]; rfl
  have g2 : (decide ((g.lb : Int) ≠ g.lb) == false) = true := by rw [f2]; rfl
  have g3 : (decide ((g.lg : Int) ≠ g.lg) == false) = true := by rw [f3]; rfl
  have cA := r5_right (n := g.la) h.sm.A la
  have cB := r5_right (n := g.lb) h.sm.B lb
  have cG := r5_right (n := g.lg) h.sm.G lg
  have cH := r5_right (n := g.lh) h.sm.H lh
  refine has_of Try.func12 (by kernel_rfl) rfl Try.ntmps12 Try.results12 rfl rfl rfl ?_
  repeat(first|refine run1p ?_|((with_reducible apply st_call);exact rfl;exact rfl;exact rfl;first|(exact Has.ag (g7 rfl rfl rfl rfl rfl rfl rfl) (r5_head h)))|((with_reducible apply st_callg);exact rfl;exact rfl;(first|exact rfl|assumption);exact rfl;exact rfl;exact rfl;first|(exact Has.ag (g7 rfl rfl rfl rfl rfl rfl rfl) (r5_head h))))
  refine awp_no rfl rfl ?_
  repeat(first|refine run1p ?_|((with_reducible apply st_call);exact rfl;exact rfl;exact rfl;first|(exact Has.ag (g7 rfl rfl rfl rfl rfl rfl rfl) cc))|((with_reducible apply st_callg);exact rfl;exact rfl;(first|exact rfl|assumption);exact rfl;exact rfl;exact rfl;first|(exact Has.ag (g7 rfl rfl rfl rfl rfl rfl rfl) cc)))
  refine awp_no rfl f4 ?_
  repeat(first|refine run1p ?_|((with_reducible apply st_call);exact rfl;exact rfl;exact rfl;first|(exact cA)|(exact cB)|(exact cG)|(exact cH))|((with_reducible apply st_callg);exact rfl;exact rfl;(first|exact rfl|assumption);exact rfl;exact rfl;exact rfl;first|(exact cA)|(exact cB)|(exact cG)|(exact cH)))
  refine awp_no rfl rfl ?_
  refine run0p ?_
  refine awp_loop (fun m' s => ∃ i, i ≤ g.la ∧ m' = g.la - i ∧ s = stl [(1, .ptr 1 0 0), (4, .i g.la), (5, .i g.lb), (7, .i (i : Int))] [(1, (1, fun _ => .ones 26 7 g.f))]) g.la _ (imp_id ?_ ?_) ⟨0, Nat.zero_le _, rfl, rfl⟩ ?_
  · exact eA
  · exact allh rfl (by decide) (bleo rfl fun _ _ => Le.id rfl) (fun i _ => g.fok _ i) True.intro
  rintro m' s ⟨i, hi, rfl, rfl⟩
  refine run0p ?_
  refine awp_if rfl (fun h1 => ?_) (fun h1 => ?_)
  · have h1 : i < g.la := by omega
    refine run0p ?_
    refine awp_loop (fun m' s => ∃ j, j ≤ g.lb ∧ m' = g.lb - j ∧ s = stl [(1, .ptr 1 0 0), (4, .i g.la), (5, .i g.lb), (7, .i (i : Int)), (8, .i (j : Int))] [(1, (1, fun _ => .ones 26 7 g.f))]) g.lb _ (imp_id ?_ ?_) ⟨0, Nat.zero_le _, rfl, rfl⟩ ?_
    · exact eA
    · exact allh rfl (by decide) (bleo rfl fun _ _ => Le.id rfl) (fun i _ => g.fok _ i) True.intro
    rintro m' s ⟨j, hj, rfl, rfl⟩
    refine run0p ?_
    refine awp_if rfl (fun h2 => ?_) (fun h2 => ?_)
    · have h2 : j < g.lb := by omega
      have w1 := h.sm.A i h1; have w2 := h.sm.B j h2
      have cs := hs_same (p := g.A i) (q := g.B j) (by omega) (by omega)
      rw [decide_eq_false (h.ne i h1 j h2)] at cs
      repeat(first|refine run1p ?_|((with_reducible apply st_call);exact rfl;exact rfl;exact rfl;first|(exact cs))|((with_reducible apply st_callg);exact rfl;exact rfl;(first|exact rfl|assumption);exact rfl;exact rfl;exact rfl;first|(exact cs)))
      refine awp_no rfl rfl ?_
      refine run0p ?_
      refine q_loop ?_ (imp_id ?_ ?_) ⟨j + 1, ?_, rfl, rfl⟩
      · omega
      · exact eA
      · exact allh rfl (by decide) (bleo rfl fun _ _ => Le.id rfl) (fun i _ => g.fok _ i) True.intro
      · omega
    · refine run0p ?_
      refine q_loop ?_ (imp_id ?_ ?_) ⟨i + 1, ?_, rfl, rfl⟩
      · omega
      · exact eA
      · exact allh rfl (by decide) (bleo rfl fun _ _ => Le.id rfl) (fun i _ => g.fok _ i) True.intro
      · omega
  · refine run0p ?_
    exact ⟨.inr rfl, _, Imp.refl _, .one (.tmp rfl)⟩
end Go.Proofs.Ytdnmoggifjlbiaa.AM
/- Limbs: two slices are alike. -/
namespace Go.Proofs.Ytdnmoggifjlbiaa.V
open Go Go.RowKit Go.Proofs.Ytdnmoggifjlbiaa.PN
set_option linter.unusedVariables false
set_option linter.unusedSimpArgs false
end Go.Proofs.Ytdnmoggifjlbiaa.V
/- Package gen: two systems are alike; one entry. -/
namespace Go.Proofs.Ytdnmoggifjlbiaa.AM
open Go Go.RowKit Go.Proofs.Ytdnmoggifjlbiaa.PN Go.Proofs.Ytdnmoggifjlbiaa.V
open Go.Proofs.Ytdnmoggifjlbiaa.LA (S S_succ S_zero S_congr)
set_option linter.unusedVariables false
set_option linter.unusedSimpArgs false
set_option maxRecDepth 8000
set_option maxHeartbeats 8000000
end Go.Proofs.Ytdnmoggifjlbiaa.AM
/- Two systems are alike, or not. -/
namespace Go.Proofs.Ytdnmoggifjlbiaa.AM
open Go Go.RowKit Go.Proofs.Ytdnmoggifjlbiaa.PN Go.Proofs.Ytdnmoggifjlbiaa.V
open Go.Proofs.Ytdnmoggifjlbiaa.LA (S S_succ S_zero S_congr)
set_option linter.unusedVariables false
set_option linter.unusedSimpArgs false
set_option maxRecDepth 8000
set_option maxHeartbeats 8000000
/-- Two rows are alike. -/
def alld (n : Nat) (f g : Nat → Rat) : Bool := decide (∀ i, i < n → f i = g i)
theorem first_ne {f g : Nat → Rat} : ∀ n, (∃ i, i < n ∧ f i ≠ g i) → ∃ k, k < n ∧ f k ≠ g k ∧ ∀ i, i < k → f i = g i
  | 0, h => by obtain ⟨i, hi, _⟩ := h; exact absurd hi (Nat.not_lt_zero _)
  | n + 1, h => by
    by_cases e : ∃ i, i < n ∧ f i ≠ g i
    · obtain ⟨k, h1, h2, h3⟩ := first_ne n e
      exact ⟨k, by omega, h2, h3⟩
    · obtain ⟨i, hi, hne⟩ := h
      have hin : i = n := by
        by_cases e2 : i < n
        · exact absurd ⟨i, e2, hne⟩ e
        · omega
      subst hin
      exact ⟨i, hi, hne, fun j hj => Classical.byContradiction fun h' => e ⟨j, hj, h'⟩⟩
theorem not_alld {n : Nat} {f g : Nat → Rat} (h : ¬ ∀ i, i < n → f i = g i) : ∃ k, k < n ∧ f k ≠ g k ∧ ∀ i, i < k → f i = g i :=
  first_ne n (Classical.byContradiction fun h' => h fun i hi => Classical.byContradiction fun h2 => h' ⟨i, hi, h2⟩)
theorem k_rowsd {n : Nat} {f g : Nat → Rat} (hf : ∀ i, i < n → wt (f i) ≤ 1000000) (hg : ∀ i, i < n → wt (g i) ≤ 1000000) (hn : n ≤ 1000) : Has Try.prog 25 [.row false n (fun i => .q (f i)), .row false n (fun i => .q (g i))] (.b (alld n f g)) := by
  by_cases hall : ∀ i, i < n → f i = g i
  · rw [show alld n f g = true from decide_eq_true hall]
    exact k_rowsb (K := 1000000) (fun i hi => ⟨hf i hi⟩) (by decide) (by decide) hn hall
  rw [show alld n f g = false from decide_eq_false hall]
  obtain ⟨k0, hk0, hne, hlt⟩ := not_alld hall
  refine has_of Try.func25 (by kernel_rfl) rfl Try.ntmps25 Try.results25 rfl rfl rfl ?_
  refine run0 ?_
  refine awp_no rfl (decide_eq_false (fun h => h rfl)) ?_
  refine run0 ?_
  refine awp_loop (fun m s => ∃ k, k ≤ k0 ∧ m = n - k ∧ s = stl [(0, .row false n (fun i => .q (f i))), (1, .row false n (fun i => .q (g i))), (5, .i (k : Int))] []) n _ (imp_id ?_ ?_) ⟨0, Nat.zero_le _, rfl, rfl⟩ ?_
  · exact eA
  · exact hA
  · rintro m s ⟨k, hk, rfl, rfl⟩
    have h' : k < n := by omega
    have c := hs_same (p := f k) (q := g k) (Nat.le_trans (hf k h') (by decide)) (Nat.le_trans (hg k h') (by decide))
    refine run0 ?_
    refine awp_yes rfl (decide_eq_true (by omega)) ?_
    by_cases e : k = k0
    · subst e
      rw [decide_eq_false hne] at c
      repeat(first|refine run1 ?_|((with_reducible apply st_call);exact rfl;exact rfl;exact rfl;first|(exact c))|((with_reducible apply st_callg);exact rfl;exact rfl;(first|exact rfl|assumption);exact rfl;exact rfl;exact rfl;first|(exact c)))
      refine awp_yes rfl rfl ?_
      refine run0 ?_
      exact ⟨.inr rfl, _, Imp.refl _, .one (.tmp rfl)⟩
    · rw [decide_eq_true (hlt k (by omega))] at c
      repeat(first|refine run1 ?_|((with_reducible apply st_call);exact rfl;exact rfl;exact rfl;first|(exact c))|((with_reducible apply st_callg);exact rfl;exact rfl;(first|exact rfl|assumption);exact rfl;exact rfl;exact rfl;first|(exact c)))
      refine awp_no rfl rfl ?_
      refine run0 ?_
      refine q_loop ?_ (imp_id ?_ ?_) ⟨k + 1, ?_, rfl, rfl⟩
      · omega
      · exact eA
      · exact hA
      · omega
/-- Two systems of one shape. -/
structure Shp (g h : GD) : Prop where
  k : h.k = g.k
  n : h.n = g.n
  r : h.r = g.r
  la : h.la = g.la
  lb : h.lb = g.lb
  lg : h.lg = g.lg
  lh : h.lh = g.lh
  le : g.la ≤ 1000 ∧ g.lb ≤ 1000 ∧ g.lg ≤ 1000 ∧ g.lh ≤ 1000
  s : g.Sm
  s' : h.Sm
def sameB (g h : GD) : Bool := alld g.la g.A h.A && (alld g.lb g.B h.B && (alld g.lg g.G h.G && alld g.lh g.H h.H))
end Go.Proofs.Ytdnmoggifjlbiaa.AM

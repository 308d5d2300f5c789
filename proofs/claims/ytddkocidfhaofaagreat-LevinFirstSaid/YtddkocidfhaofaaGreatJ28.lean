/- Joined texts, 28: LawLd. -/
import Derived.Test.YtddkocidfhaofaaGreatJ27
import Derived.Test.YtddkocidfhaofaaGreatJ24
set_option linter.unusedVariables false
set_option linter.unusedSimpArgs false
/- Laws of leading parts: LevinFirst, walked. -/
namespace Go.Proofs.YtddkocidfhaofaaGreat.AM
open Go Go.RowKit Go.Proofs.YtddkocidfhaofaaGreat.PN Go.Proofs.YtddkocidfhaofaaGreat.V
open Go.Proofs.YtddkocidfhaofaaGreat.LA (S S_succ S_zero S_congr app det unique)
set_option linter.unusedVariables false
set_option linter.unusedSimpArgs false
set_option maxRecDepth 8000
set_option maxHeartbeats 8000000
theorem ts_tbf {g : GD} {b : Nat → Rat} (t : TS g b) : ∀ k, 0 < k → k ≤ g.n → TB k k 2400 (gec g) := fun k hk0 hk => by
  have n6 := t.n6; have hFt := t.Ft
  have h4 : 4 ^ (k - 1) ≤ 4 ^ 5 := Nat.pow_le_pow_right (by decide) (by omega)
  have e4 : 4 ^ 5 = 1024 := rfl
  exact TB.of hk0 (by decide) (hA := hFt) (by omega)
theorem k_lfirst {n : Int} {ns : List Int} (hn : Fits .i64 n) (hz : AllFit ns) : Has Tryz.prog 4 [.i n, .seq .i64 ns] (.b true) := by
  have m1 := k_mkt (n := n) (most := 6) (zs := ns) hn hz (by decide) (by decide)
  have t := ts_mkt (n := n) (most := 6) (zs := ns) (bs := []) (by decide) (by decide)
  generalize mkt n ns 6 = g at *
  have ok := t.ok
  have n8 := ok.n8; have n1 := ok.n1; have ht := toe_gent t.k
  have cm := Has.gec (r7_minors (ts_tbf t) (by decide) n8)
  obtain ⟨K, hK, hd, hz⟩ := lst_K ht
  have cp := lv_steps ok t.k hK hd hz
  have hP0 : gdet 0 (gec g) = ((1 : Int) : Rat) := by rw [gdet_det]; rfl
  have hPw : ∀ i, i ≤ g.n → wt (gdet i (gec g)) ≤ 2401 := fun i hi => by
    by_cases e : i = 0
    · subst e; rw [hP0]; decide
    · exact (gdet_wt (ts_tbf t i (by omega) hi)).le
  have hnz : ∀ i, i < K → gdet (i + 1) (gec g) ≠ 0 := fun i hi => by rw [gdet_gec (by omega)]; exact nz_lvd ht hK hd i hi
  have sw : ∀ i, i < K → wt (lvf (gent g) (i + 1) 0 * 1) ≤ 3 := fun i hi => (st_wt (g := g) (i := i) t (by omega) (fun k hk => hd k (by omega)) 0 (by omega)).le
  have hf : ∀ i, i < K → lvf (gent g) (i + 1) 0 * 1 * gdet (i + 1) (gec g) = gdet i (gec g) := fun i hi => by
    rw [gdet_gec (by omega), gdet_gec (by omega), gdet_det, gdet_det]
    exact LA.first_minor ht (show i < g.n by omega) (st_app t.k (by omega) fun k hk => hd k (by omega))
  generalize lvf (gent g) = L at *
  have kE : decide ((g.n : Int) < (K : Int)) = false := decide_eq_false (by omega)
  rcases Nat.lt_or_ge K g.n with hKn | hKn
  · rw [if_pos hKn, if_pos hKn] at cp
    refine has_of Tryz.func4 (by kernel_rfl) rfl Tryz.ntmps4 Tryz.results4 rfl rfl rfl ?_
    repeat(first|refine run1p ?_|((with_reducible apply st_call);exact rfl;exact rfl;exact rfl;first|(exact k_known10))|((with_reducible apply st_callg);exact rfl;exact rfl;(first|exact rfl|assumption);exact rfl;exact rfl;exact rfl;first|(exact k_known10)))
    refine awp_no rfl rfl ?_
    repeat(first|refine run1p ?_|((with_reducible apply st_call);exact rfl;exact rfl;exact rfl;first|(exact m1)|(exact Has.ag (u' := g.f) (g7 rfl rfl rfl rfl rfl rfl rfl) cp)|(exact Has.ag (u' := g.f) (g7 rfl rfl rfl rfl rfl rfl rfl) (r5_expand ok))|(exact cm))|((with_reducible apply st_callg);exact rfl;exact rfl;(first|exact rfl|assumption);exact rfl;exact rfl;exact rfl;first|(exact m1)|(exact Has.ag (u' := g.f) (g7 rfl rfl rfl rfl rfl rfl rfl) cp)|(exact Has.ag (u' := g.f) (g7 rfl rfl rfl rfl rfl rfl rfl) (r5_expand ok))|(exact cm)))
    refine awp_no rfl kE ?_
    repeat(first|refine run1p ?_|((with_reducible apply st_call);exact rfl;exact rfl;exact rfl;first|(exact hs_int 1 (by decide) (by decide)))|((with_reducible apply st_callg);exact rfl;exact rfl;(first|exact rfl|assumption);exact rfl;exact rfl;exact rfl;first|(exact hs_int 1 (by decide) (by decide))))
    refine awp_loop (fun m' s => ∃ i, i ≤ K ∧ m' = K - i ∧ s = stl [(5, .ptr 5 0 0), (6, .mat true K (fun i => i + 1) (fun i j => .q (L (i + 1) j * 1))), (8, .i 8), (9, .row true g.n fun i => .q (gdet (i + 1) (gec g))), (10, .rptr 10 0 0), (11, .i (i : Int))] [(5, (1, fun _ => .ones 26 7 g.ft)), (10, (1, fun _ => .rats 1 fun _ => .q (gdet i (gec g))))]) K _ (imp_id ?_ ?_) ⟨0, Nat.zero_le _, rfl, rfl⟩ ?_
    · exact eA
    · exact allh rfl (by decide) (bleo rfl fun _ _ => Le.id rfl) (fun i _ => g.ftok _ i) (allh rfl (by decide) (ble1 (congrArg RA.q hP0.symm)) True.intro True.intro)
    rintro m' s ⟨i, hi, rfl, rfl⟩
    refine run0p ?_
    refine awp_if rfl (fun h => ?_) (fun h => ?_)
    · have h : i < K := by omega
      have w1 := hPw i (by omega); have w2 := hPw (i + 1) (by omega); have w3 := sw i h
      have c1 := hs_nought (p := gdet (i + 1) (gec g))
      rw [decide_eq_false (hnz i h)] at c1
      have c2 := hs_mul (p := L (i + 1) 0 * 1) (q := gdet (i + 1) (gec g)) (by omega) (by omega)
      rw [hf i h] at c2
      have c3 := hs_same (p := gdet i (gec g)) (q := gdet i (gec g)) (by omega) (by omega)
      rw [decide_eq_true rfl] at c3
      have f1 : decide (((i + 1 : Nat) : Int) ≠ (i : Int) + 1) = false := decide_eq_false fun h => h (by omega)
      have f2 : (decide (((i + 1 : Nat) : Int) ≠ (i : Int) + 1) == false) = true := by rw [f1]; rfl
      repeat(first|refine run1p ?_|((with_reducible apply st_call);exact rfl;exact rfl;exact rfl;first|(exact c1)|(exact c2)|(exact c3))|((with_reducible apply st_callg);exact rfl;exact rfl;(first|exact rfl|assumption);exact rfl;exact rfl;exact rfl;first|(exact c1)|(exact c2)|(exact c3)))
      refine awp_no rfl rfl ?_
      refine run0p ?_
      refine q_loop ?_ (imp_id ?_ ?_) ⟨i + 1, ?_, rfl, rfl⟩
      · omega
      · exact eA
      · exact allh rfl (by decide) (bleo rfl fun _ _ => Le.id rfl) (fun i _ => g.ftok _ i) (by exact hA)
      · omega
    · refine run0p ?_
      refine ⟨.inr rfl, _, Imp.refl _, .one (.tmp ?_)⟩
      show some (AV.b (false == decide ((K : Int) = g.n))) = some (AV.b true)
      rw [decide_eq_false (by omega)]; rfl
  · rw [if_neg (by omega), if_neg (by omega)] at cp
    refine has_of Tryz.func4 (by kernel_rfl) rfl Tryz.ntmps4 Tryz.results4 rfl rfl rfl ?_
    repeat(first|refine run1p ?_|((with_reducible apply st_call);exact rfl;exact rfl;exact rfl;first|(exact k_known10))|((with_reducible apply st_callg);exact rfl;exact rfl;(first|exact rfl|assumption);exact rfl;exact rfl;exact rfl;first|(exact k_known10)))
    refine awp_no rfl rfl ?_
    repeat(first|refine run1p ?_|((with_reducible apply st_call);exact rfl;exact rfl;exact rfl;first|(exact m1)|(exact Has.ag (u' := g.f) (g7 rfl rfl rfl rfl rfl rfl rfl) cp)|(exact Has.ag (u' := g.f) (g7 rfl rfl rfl rfl rfl rfl rfl) (r5_expand ok))|(exact cm))|((with_reducible apply st_callg);exact rfl;exact rfl;(first|exact rfl|assumption);exact rfl;exact rfl;exact rfl;first|(exact m1)|(exact Has.ag (u' := g.f) (g7 rfl rfl rfl rfl rfl rfl rfl) cp)|(exact Has.ag (u' := g.f) (g7 rfl rfl rfl rfl rfl rfl rfl) (r5_expand ok))|(exact cm)))
    refine awp_no rfl kE ?_
    repeat(first|refine run1p ?_|((with_reducible apply st_call);exact rfl;exact rfl;exact rfl;first|(exact hs_int 1 (by decide) (by decide)))|((with_reducible apply st_callg);exact rfl;exact rfl;(first|exact rfl|assumption);exact rfl;exact rfl;exact rfl;first|(exact hs_int 1 (by decide) (by decide))))
    refine awp_loop (fun m' s => ∃ i, i ≤ K ∧ m' = K - i ∧ s = stl [(5, .ptr 5 0 0), (6, .mat true K (fun i => i + 1) (fun i j => .q (L (i + 1) j * 1))), (8, .i 0), (9, .row true g.n fun i => .q (gdet (i + 1) (gec g))), (10, .rptr 10 0 0), (11, .i (i : Int))] [(5, (1, fun _ => .ones 26 7 g.ft)), (10, (1, fun _ => .rats 1 fun _ => .q (gdet i (gec g))))]) K _ (imp_id ?_ ?_) ⟨0, Nat.zero_le _, rfl, rfl⟩ ?_
    · exact eA
    · exact allh rfl (by decide) (bleo rfl fun _ _ => Le.id rfl) (fun i _ => g.ftok _ i) (allh rfl (by decide) (ble1 (congrArg RA.q hP0.symm)) True.intro True.intro)
    rintro m' s ⟨i, hi, rfl, rfl⟩
    refine run0p ?_
    refine awp_if rfl (fun h => ?_) (fun h => ?_)
    · have h : i < K := by omega
      have w1 := hPw i (by omega); have w2 := hPw (i + 1) (by omega); have w3 := sw i h
      have c1 := hs_nought (p := gdet (i + 1) (gec g))
      rw [decide_eq_false (hnz i h)] at c1
      have c2 := hs_mul (p := L (i + 1) 0 * 1) (q := gdet (i + 1) (gec g)) (by omega) (by omega)
      rw [hf i h] at c2
      have c3 := hs_same (p := gdet i (gec g)) (q := gdet i (gec g)) (by omega) (by omega)
      rw [decide_eq_true rfl] at c3
      have f1 : decide (((i + 1 : Nat) : Int) ≠ (i : Int) + 1) = false := decide_eq_false fun h => h (by omega)
      have f2 : (decide (((i + 1 : Nat) : Int) ≠ (i : Int) + 1) == false) = true := by rw [f1]; rfl
      repeat(first|refine run1p ?_|((with_reducible apply st_call);exact rfl;exact rfl;exact rfl;first|(exact c1)|(exact c2)|(exact c3))|((with_reducible apply st_callg);exact rfl;exact rfl;(first|exact rfl|assumption);exact rfl;exact rfl;exact rfl;first|(exact c1)|(exact c2)|(exact c3)))
      refine awp_no rfl rfl ?_
      refine run0p ?_
      refine q_loop ?_ (imp_id ?_ ?_) ⟨i + 1, ?_, rfl, rfl⟩
      · omega
      · exact eA
      · exact allh rfl (by decide) (bleo rfl fun _ _ => Le.id rfl) (fun i _ => g.ftok _ i) (by exact hA)
      · omega
    · refine run0p ?_
      refine ⟨.inr rfl, _, Imp.refl _, .one (.tmp ?_)⟩
      show some (AV.b (true == decide ((K : Int) = g.n))) = some (AV.b true)
      rw [decide_eq_true (by omega)]; rfl
end Go.Proofs.YtddkocidfhaofaaGreat.AM

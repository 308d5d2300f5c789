/- Joined texts, 24: LawLe. -/
import Derived.Test.YtddkocidfhaofaaJ21
import Derived.Test.YtddkocidfhaofaaJ23
set_option linter.unusedVariables false
set_option linter.unusedSimpArgs false
/- Laws of leading parts: LevinLinear, walked. -/
namespace Go.Proofs.Ytddkocidfhaofaa.AM
open Go Go.RowKit Go.Proofs.Ytddkocidfhaofaa.PN Go.Proofs.Ytddkocidfhaofaa.V
open Go.Proofs.Ytddkocidfhaofaa.LA (S S_succ S_zero S_congr app app_add app_mul det unique)
set_option linter.unusedVariables false
set_option linter.unusedSimpArgs false
set_option maxRecDepth 8000
set_option maxHeartbeats 8000000
theorem k_llinear {n k : Int} {ns bs cs : List Int} (hn : Fits .i64 n) (hz : AllFit ns) (hb : AllFit bs) (hc : AllFit cs) (hk : Fits .i64 k) : Has Try.prog 3 [.i n, .seq .i64 ns, .seq .i64 bs, .seq .i64 cs, .i k] (.b true) := by
  have m1 := k_mkt (n := n) (most := 5) (zs := ns) hn hz (by decide) (by decide)
  have t := ts_mkt (n := n) (most := 5) (zs := ns) (bs := bs) (by decide) (by decide)
  have u := ts_mkt (n := n) (most := 5) (zs := ns) (bs := cs) (by decide) (by decide)
  generalize mkt n ns 5 = g at *
  have ok := t.ok
  have n8 := ok.n8; have n1 := ok.n1; have ht := toe_gent t.k
  have r1 := k_row (zs := bs) (n := g.n) (by omega) hb
  have r2 := k_row (zs := cs) (n := g.n) (by omega) hc
  have r3 := k_small hk
  have wf : wt (smal k) ≤ 1 := (smal_wt k).le
  have wb : ∀ i, wt (rowq bs i) ≤ 1 := fun i => (ts_bw t i).le
  have wc : ∀ i, wt (rowq cs i) ≤ 1 := fun i => (ts_bw u i).le
  generalize smal k = f at *
  generalize rowq bs = b at *
  generalize rowq cs = c at *
  have ws : ∀ i, wt (b i + f * c i) ≤ 100 := fun i => by
    have h1 := wt_mul f (c i); have h2 := wt_add (b i) (f * c i); have h3 := wb i; have h4 := wc i
    omega
  have gE : decide ((g.n : Int) ≠ g.n) = false := decide_eq_false fun h => h rfl
  have gE2 : (decide ((g.n : Int) ≠ g.n) == false) = true := by rw [gE]; rfl
  refine has_of Try.func3 (by kernel_rfl) rfl Try.ntmps3 Try.results3 rfl rfl rfl ?_
  repeat(first|refine run1p ?_|((with_reducible apply st_call);exact rfl;exact rfl;exact rfl;first|(exact k_known10))|((with_reducible apply st_callg);exact rfl;exact rfl;(first|exact rfl|assumption);exact rfl;exact rfl;exact rfl;first|(exact k_known10)))
  refine awp_no rfl rfl ?_
  repeat(first|refine run1p ?_|((with_reducible apply st_call);exact rfl;exact rfl;exact rfl;first|(exact m1)|(exact r1)|(exact r2)|(exact r3))|((with_reducible apply st_callg);exact rfl;exact rfl;(first|exact rfl|assumption);exact rfl;exact rfl;exact rfl;first|(exact m1)|(exact r1)|(exact r2)|(exact r3)))
  refine awp_loop (fun m' s => ∃ i, i ≤ g.n ∧ m' = g.n - i ∧ s = accS 15 (.rats i fun i => .q (b i + f * c i)) [(11, .ptr 11 0 0), (12, .row true g.n fun i => .q (b i)), (13, .row true g.n fun i => .q (c i)), (14, .rptr 14 0 0), (16, .i (i : Int))] [(11, (1, fun _ => .ones 26 7 g.ft)), (14, (1, fun _ => .rats 1 fun _ => .q f))]) g.n _ (acc_start rfl rfl (by exact rfl) rfl (by decide) ?_ ?_) ⟨0, Nat.zero_le _, rfl, rfl⟩ ?_
  · exact eA
  · exact allh rfl (by decide) (bleo rfl fun _ _ => Le.id rfl) (fun i _ => g.ftok _ i) (by exact hA)
  rintro m' s ⟨i, hi, rfl, rfl⟩
  refine run0p ?_
  refine awp_if rfl (fun h => ?_) (fun h => ?_)
  · have h : i < g.n := by omega
    have w1 := wb i; have w2 := wc i; have w3 := wt_mul f (c i)
    repeat(first|refine run1p ?_|((with_reducible apply st_call);exact rfl;exact rfl;exact rfl;first|(exact hs_mul (p := f) (q := c i) (by omega) (by omega))|(exact hs_add (p := b i) (q := f * c i) (by omega) (by omega)))|((with_reducible apply st_callg);exact rfl;exact rfl;(first|exact rfl|assumption);exact rfl;exact rfl;exact rfl;first|(exact hs_mul (p := f) (q := c i) (by omega) (by omega))|(exact hs_add (p := b i) (q := f * c i) (by omega) (by omega))))
    refine q_loop (m' := g.n - (i + 1)) (by omega) (acc_next (a := 1061) rfl rfl rfl (glue_one rfl) (by exact True.intro) rfl rfl ?_ ?_) ⟨i + 1, by omega, rfl, rfl⟩
    · exact alle rfl (Le.ptr (s1_ne (by decide))) rfl (alle rfl (Le.eq rfl rfl) True.intro (alle rfl (Le.eq rfl rfl) True.intro (alle rfl (Le.rptr (s1_ne (by decide))) rfl (alle rfl (Le.eq rfl rfl) True.intro True.intro))))
    · exact allh rfl Nat.zero_lt_one g.le_ft (fun i _ => g.ftok _ i) (allh rfl Nat.zero_lt_one (ble1 rfl) True.intro True.intro)
  have ei : i = g.n := by omega
  subst ei
  repeat(first|(with_reducible first|refine awp_seq ?_|refine awp_block ?_|refine awp_skip ?_|refine awp_exit ?_|refine awp_ret ?_|refine q_then ?_|refine q_block ?_|refine q_then_exit ?_|refine q_then_ret ?_|refine q_block_exit ?_|refine q_block_ret ?_|refine q_loop_exit ?_|refine q_loop_ret ?_)|((with_reducible refine q_block_other ?_ ?_);exact rfl))
  refine awp_imp (imp_rowv 15 (fun i => .q (b i + f * c i)) rfl rfl rfl (fun i hi => rfl)) ?_
  rcases lst_cases ht with ⟨hl, h1, hdet⟩ | ⟨K, hK, _, hd, hz⟩
  · have cx := lv_solve (b := b) ok t.k (fun i _ => Nat.le_trans (wb i) (by decide)) h1
    have cy := lv_solve (b := c) ok t.k (fun i _ => Nat.le_trans (wc i) (by decide)) h1
    have cz := lv_solve (b := fun i => b i + f * c i) ok t.k (fun i _ => ws i) h1
    have ax := ts_app t hl
    have ay := ts_app u hl
    have az := lvs_app (b := fun i => b i + f * c i) ht g.n (Nat.le_refl _) h1
    have wx := ts_wt t hl
    have wy := ts_wt u hl
    generalize lvs (gent g) b g.n = x at *
    generalize lvs (gent g) c g.n = y at *
    generalize lvs (gent g) (fun i => b i + f * c i) g.n = z at *
    have hzx : ∀ i, i < g.n → z i = x i + f * y i := unique hdet fun i hi => by rw [az i hi, app_add, app_mul, ax i hi, ay i hi]
    repeat(first|refine run1p ?_|((with_reducible apply st_call);exact rfl;exact rfl;exact rfl;first|(exact Has.ag (u' := g.f) (g7 rfl rfl rfl rfl rfl rfl rfl) cx)|(exact Has.ag (u' := g.f) (g7 rfl rfl rfl rfl rfl rfl rfl) cy)|(exact Has.ag (u' := g.f) (g7 rfl rfl rfl rfl rfl rfl rfl) cz))|((with_reducible apply st_callg);exact rfl;exact rfl;(first|exact rfl|assumption);exact rfl;exact rfl;exact rfl;first|(exact Has.ag (u' := g.f) (g7 rfl rfl rfl rfl rfl rfl rfl) cx)|(exact Has.ag (u' := g.f) (g7 rfl rfl rfl rfl rfl rfl rfl) cy)|(exact Has.ag (u' := g.f) (g7 rfl rfl rfl rfl rfl rfl rfl) cz)))
    refine awp_no rfl rfl ?_
    refine run0p ?_
    refine awp_no rfl rfl ?_
    refine run0p ?_
    refine awp_no rfl gE ?_
    refine run0p ?_
    refine awp_loop (fun m' s => ∃ i, i ≤ g.n ∧ m' = g.n - i ∧ s = stl [(11, .ptr 11 0 0), (14, .rptr 14 0 0), (17, .row true g.n fun i => .q (x i)), (20, .row true g.n fun i => .q (y i)), (23, .row true g.n fun i => .q (z i)), (26, .i (i : Int))] [(11, (1, fun _ => .ones 26 7 g.ft)), (14, (1, fun _ => .rats 1 fun _ => .q f))]) g.n _ (imp_id ?_ ?_) ⟨0, Nat.zero_le _, rfl, rfl⟩ ?_
    · exact eA
    · exact allh rfl (by decide) (bleo rfl fun _ _ => Le.id rfl) (fun i _ => g.ftok _ i) (by exact hA)
    rintro m' s ⟨i, hi, rfl, rfl⟩
    refine run0p ?_
    refine awp_if rfl (fun h => ?_) (fun h => ?_)
    · have h : i < g.n := by omega
      have w1 := (wx i h).le; have w2 := (wy i h).le; have w3 := wt_mul f (y i); have w4 := wt_add (x i) (f * y i)
      have ce := hs_same (p := z i) (q := x i + f * y i) (by rw [hzx i h]; omega) (by omega)
      rw [decide_eq_true (hzx i h)] at ce
      repeat(first|refine run1p ?_|((with_reducible apply st_call);exact rfl;exact rfl;exact rfl;first|(exact hs_mul (p := f) (q := y i) (by omega) (by omega))|(exact hs_add (p := x i) (q := f * y i) (by omega) (by omega))|(exact ce))|((with_reducible apply st_callg);exact rfl;exact rfl;(first|exact rfl|assumption);exact rfl;exact rfl;exact rfl;first|(exact hs_mul (p := f) (q := y i) (by omega) (by omega))|(exact hs_add (p := x i) (q := f * y i) (by omega) (by omega))|(exact ce)))
      refine awp_no rfl rfl ?_
      refine run0p ?_
      refine q_loop ?_ (imp_id ?_ ?_) ⟨i + 1, ?_, rfl, rfl⟩
      · omega
      · exact eA
      · exact allh rfl (by decide) (bleo rfl fun _ _ => Le.id rfl) (fun i _ => g.ftok _ i) (by exact hA)
      · omega
    · refine run0p ?_
      exact ⟨.inr rfl, _, Imp.refl _, .one (.tmp rfl)⟩
  · have cx := lv_solve_break (b := b) ok t.k (fun i _ => Nat.le_trans (wb i) (by decide)) hK hd hz
    have cy := lv_solve_break (b := c) ok t.k (fun i _ => Nat.le_trans (wc i) (by decide)) hK hd hz
    have cz := lv_solve_break (b := fun i => b i + f * c i) ok t.k (fun i _ => ws i) hK hd hz
    repeat(first|refine run1p ?_|((with_reducible apply st_call);exact rfl;exact rfl;exact rfl;first|(exact Has.ag (u' := g.f) (g7 rfl rfl rfl rfl rfl rfl rfl) cx)|(exact Has.ag (u' := g.f) (g7 rfl rfl rfl rfl rfl rfl rfl) cy)|(exact Has.ag (u' := g.f) (g7 rfl rfl rfl rfl rfl rfl rfl) cz))|((with_reducible apply st_callg);exact rfl;exact rfl;(first|exact rfl|assumption);exact rfl;exact rfl;exact rfl;first|(exact Has.ag (u' := g.f) (g7 rfl rfl rfl rfl rfl rfl rfl) cx)|(exact Has.ag (u' := g.f) (g7 rfl rfl rfl rfl rfl rfl rfl) cy)|(exact Has.ag (u' := g.f) (g7 rfl rfl rfl rfl rfl rfl rfl) cz)))
    refine awp_no rfl rfl ?_
    refine run0p ?_
    refine awp_yes rfl rfl ?_
    refine run0p ?_
    exact ⟨.inr rfl, _, Imp.refl _, .one (.tmp rfl)⟩
end Go.Proofs.Ytddkocidfhaofaa.AM

/- Joined texts, 27: LawTd. -/
import Derived.Test.YtdnmoggifjlbiaaGreatJLawTurnedWays26
set_option linter.unusedVariables false
set_option linter.unusedSimpArgs false
/- Laws of turned systems: TurnedWays, walked. -/
namespace Go.Proofs.YtdnmoggifjlbiaaGreat.AM
open Go Go.RowKit Go.Proofs.YtdnmoggifjlbiaaGreat.PN Go.Proofs.YtdnmoggifjlbiaaGreat.V
open Go.Proofs.YtdnmoggifjlbiaaGreat.LA (S S_succ S_zero S_congr app det unique)
set_option linter.unusedVariables false
set_option linter.unusedSimpArgs false
set_option maxRecDepth 8000
set_option maxHeartbeats 8000000
/-- A circulant matrix is a Toeplitz one. -/
theorem circ_toe {g : GD} (hk : g.k = 3) {i j : Nat} (hi : i < g.n) (hj : j < g.n) : gent (gT g) i j = gent g i j := by
  unfold gent
  rw [hk]
  show (if g.k = 3 then g.A ((i + g.n - 1 - j + 1) % g.n) else g.A (i + g.n - 1 - j)) = g.A ((i + g.n - j) % g.n)
  rw [if_pos hk, show i + g.n - 1 - j + 1 = i + g.n - j by omega]
theorem circ_gec {g : GD} (hk : g.k = 3) (i j : Nat) : gec (gT g) i j = gec g i j := by
  unfold gec
  by_cases h : i < g.n ∧ j < g.n
  · rw [if_pos h, if_pos (show i < (gT g).n ∧ j < (gT g).n from h), circ_toe hk h.1 h.2]
  · rw [if_neg h, if_neg (show ¬ (i < (gT g).n ∧ j < (gT g).n) from h)]
theorem ts_cs {g : GD} {b : Nat → Rat} (t : CS g b) : TS (gT g) b :=
  ⟨gT_ok t.ok (by rw [t.k]; decide), rfl, t.n6, fun i j => by rw [circ_gec t.k]; exact t.F i j, fun i j => by rw [circ_gec t.k]; exact t.Ft i j, t.bq, t.bt⟩
theorem Has.nil3 {f : FuncId} {xs : List AV} {k e : Int} (H : Has Tryz.prog f xs (.tup3 (.v (.slice none 0 0)) (.i k) (.i e))) : Has Tryz.prog f xs (.tup3 (.row true 0 fun _ => .q 0) (.i k) (.i e)) :=
  Has.imp H rfl fun S B β w v hv => by
    obtain ⟨x, y, z, e1, h1, h2, h3⟩ := hv
    exact ⟨x, y, z, e1, ⟨none, 0, h1, Nat.le_refl _, Nat.zero_le _, fun i hi => absurd hi (Nat.not_lt_zero _)⟩, h2, h3⟩
theorem k_tways {n : Int} {ns bs : List Int} (hn : Fits .i64 n) (hz : AllFit ns) (hb : AllFit bs) : Has Tryz.prog 12 [.i n, .seq .i64 ns, .seq .i64 bs] (.b true) := by
  have m1 := k_hank (n := n) (most := 6) (zs := ns) hn hz (by decide) (by decide)
  have t0 := ts_mkt (n := n) (most := 6) (zs := ns) (bs := bs) (by decide) (by decide)
  have t := ts_gH t0
  have ok : (gH (mkt n ns 6)).OK := gH_ok t0.ok t0.k
  have ek : (gH (mkt n ns 6)).k = 2 := rfl
  have m2 := k_circ (n := n) (most := 6) (zs := ns) hn hz (by decide) (by decide)
  have u := cs_mkc (n := n) (most := 6) (zs := ns) (bs := bs) (by decide) (by decide)
  have hcn : (mkc n ns 6).n = (gH (mkt n ns 6)).n := rfl
  generalize gH (mkt n ns 6) = g at *
  generalize mkc n ns 6 = c at *
  have n8 := ok.n8; have n1 := ok.n1
  have r1 := k_row (zs := bs) (n := g.n) (by omega) hb
  have wb : ∀ i, i < g.n → wt (rowq bs i) ≤ 100 := fun i _ => Nat.le_trans (ts_bw t i).le (by decide)
  have first : ∃ (L : Nat) (fx fy : Nat → Rat) (k e : Int), L ≤ 8 ∧ Has Tryz.prog 45 [g.v, .row false g.n fun i => .q (rowq bs i)] (.tup3 (.row true L fun i => .q (fx i)) (.i k) (.i e)) ∧
      Has Tryz.prog 48 [(gT g).v, .row false g.n fun i => .q (rowq bs i)] (.tup3 (.row true L fun i => .q (fy i)) (.i k) (.i e)) ∧ ∀ i, i < L → Wt (fx i) 3 ∧ fx i = fy (L - 1 - i) := by
    have rs := r10_solve t
    rcases lst_cases (toe_gent t.k) with ⟨hl, h1, _⟩ | ⟨K, hK, hl, hd, hz'⟩
    · have hx : ∀ i, i < g.n → lvs (gent (gT g)) (rowq bs) g.n i = bsx g.n (PR (gt g.n (gec (gT g)) (rowq bs))) g.n i := ts_same t hl
      have hw : ∀ i, i < g.n → Wt (lvs (gent (gT g)) (rowq bs) g.n i) 3 := ts_wt t hl
      rw [if_pos hl] at rs
      exact ⟨g.n, fun i => lvs (gent (gT g)) (rowq bs) g.n (g.n - 1 - i), _, 0, 0, n8, t_hankel (b := rowq bs) ok ek wb h1, rs, fun i hi => ⟨hw _ (by omega), hx _ (by omega)⟩⟩
    · rw [if_neg (by omega), hl] at rs
      exact ⟨0, fun _ => 0, fun _ => 0, _, 8, by decide, (t_hankel_break (b := rowq bs) ok ek wb hK hd hz').nil3, Has.nil3 rs, fun i hi => absurd hi (Nat.not_lt_zero _)⟩
  obtain ⟨L, fx, fy, k, e, L8, ch, cr, hL⟩ := first
  have f1 : decide (e ≠ e) = false := decide_eq_false fun h => h rfl
  have f2 : (decide (e ≠ e) == false) = true := by rw [f1]; rfl
  have f3 : decide ((L : Int) ≠ L) = false := decide_eq_false fun h => h rfl
  have uk := u.k; have uo := u.ok
  refine has_of Tryz.func12 (by kernel_rfl) rfl Tryz.ntmps12 Tryz.results12 rfl rfl rfl ?_
  repeat(first|refine run1p ?_|((with_reducible apply st_call);exact rfl;exact rfl;exact rfl;first|(exact k_known12))|((with_reducible apply st_callg);exact rfl;exact rfl;(first|exact rfl|assumption);exact rfl;exact rfl;exact rfl;first|(exact k_known12)))
  refine awp_no rfl rfl ?_
  repeat(first|refine run1p ?_|((with_reducible apply st_call);exact rfl;exact rfl;exact rfl;first|(exact m1)|(exact m2)|(exact r1)|(exact Has.ag (u' := g.f) (g7 rfl rfl rfl rfl rfl rfl rfl) ch)|(exact Has.ag (u' := g.f) (g7 rfl rfl rfl rfl rfl rfl rfl) (t_toe ok (by omega)))|(exact Has.agv (u' := (gT g).f) (fun S B β w => gT_args rfl rfl rfl rfl (fun i hi => rfl) rfl rfl rfl) cr))|((with_reducible apply st_callg);exact rfl;exact rfl;(first|exact rfl|assumption);exact rfl;exact rfl;exact rfl;first|(exact m1)|(exact m2)|(exact r1)|(exact Has.ag (u' := g.f) (g7 rfl rfl rfl rfl rfl rfl rfl) ch)|(exact Has.ag (u' := g.f) (g7 rfl rfl rfl rfl rfl rfl rfl) (t_toe ok (by omega)))|(exact Has.agv (u' := (gT g).f) (fun S B β w => gT_args rfl rfl rfl rfl (fun i hi => rfl) rfl rfl rfl) cr)))
  refine awp_no rfl f3 ?_
  refine run0p ?_
  refine awp_loop (fun m' s => ∃ i, i ≤ L ∧ m' = L - i ∧ s = stl [(8, .ptr 8 0 0), (9, .row true g.n fun i => .q (rowq bs i)), (10, .row true L fun i => .q (fx i)), (13, .row true L fun i => .q (fy i)), (16, .i (i : Int))] [(8, (1, fun _ => .ones 26 7 c.ft))]) L _ (imp_id ?_ ?_) ⟨0, Nat.zero_le _, rfl, rfl⟩ ?_
  · exact eA
  · exact allh rfl (by decide) (bleo rfl fun _ _ => Le.id rfl) (fun i _ => c.ftok _ i) True.intro
  rintro m' s ⟨i, hi, rfl, rfl⟩
  refine run0p ?_
  refine awp_if rfl (fun h => ?_) (fun h => ?_)
  · have h : i < L := by omega
    obtain ⟨w1, h1⟩ := hL i h
    have w1 := w1.le
    have ce := hs_same (p := fx i) (q := fy (L - 1 - i)) (by omega) (by rw [← h1]; omega)
    rw [decide_eq_true h1] at ce
    have e1 : ((L : Int) - 1 - (i : Int)).toNat = L - 1 - i := by omega
    refine run0p ?_
    rw [e1]
    repeat(first|refine run1p ?_|((with_reducible apply st_call);exact rfl;exact rfl;exact rfl;first|(exact ce))|((with_reducible apply st_callg);exact rfl;exact rfl;(first|exact rfl|assumption);exact rfl;exact rfl;exact rfl;first|(exact ce)))
    refine awp_no rfl rfl ?_
    refine run0p ?_
    refine q_loop ?_ (imp_id ?_ ?_) ⟨i + 1, ?_, rfl, rfl⟩
    · omega
    · exact eA
    · exact allh rfl (by decide) (bleo rfl fun _ _ => Le.id rfl) (fun i _ => c.ftok _ i) True.intro
    · omega
  have cs := t_circle (b := rowq bs) uo uk (fun i => ((u.bt i).wt (X := 1) (by decide)).mono (by decide))
  have ct := ts_cs u
  have rs := r10_solve ct
  have rs : Has Tryz.prog 48 [(gT c).v, .row false g.n fun i => .q (rowq bs i)]
    (if lstD (gent (gT c)) c.n = 0 then .tup3 (.row true c.n fun i => .q (bsx c.n (PR (gt c.n (gec (gT c)) (rowq bs))) c.n i)) (.i 0) (.i 0) else .tup3 (.v (.slice none 0 0)) (.i (lstD (gent (gT c)) c.n)) (.i 8)) := by rw [← hcn]; exact rs
  have cs : Has Tryz.prog 36 [c.v, .row false g.n fun i => .q (rowq bs i)] (if gdet c.n (gec c) = 0 then .tup (.row true 0 fun _ => .q 0) (.i 9) else .tup (.row true c.n fun i => .q (gjx c.n (gec c) (rowq bs) i)) (.i 0)) := by rw [← hcn]; exact cs
  by_cases hl : lstD (gent (gT c)) c.n = 0
  · rw [if_pos hl] at rs
    have hdet := (ts_det ct hl).2
    have hd : gdet c.n (gec c) ≠ 0 := by
      rw [gdet_det, det_gec (Nat.le_refl _), ← LA.det_congr (n := c.n) (A := gent (gT c)) (B := gent c) fun i j hi hj => circ_toe uk hi hj]
      exact hdet
    rw [if_neg hd] at cs
    have cd := Has.gec (r7_det (cs_tb u) (by decide) uo.n1 uo.n8)
    have cn := hs_nought (p := gdet c.n (gec c))
    rw [decide_eq_false hd] at cn
    have ha := (gj_nz (b := rowq bs) hd).2.2
    have hw := cs_wt u hd ha
    have hx : ∀ i, i < c.n → gjx c.n (gec c) (rowq bs) i = bsx c.n (PR (gt c.n (gec (gT c)) (rowq bs))) c.n i := fun i hi => by
      rw [solve_same hd hi, show gec (gT c) = gec c from funext fun i => funext fun j => circ_gec uk i j]
    have c1 := k_rowsb (n := c.n) (K := 3) hw (by decide) (by decide) (by omega) hx
    generalize gjx c.n (gec c) (rowq bs) = x at *
    generalize bsx c.n (PR (gt c.n (gec (gT c)) (rowq bs))) c.n = y at *
    repeat(first|refine run1p ?_|((with_reducible apply st_call);exact rfl;exact rfl;exact rfl;first|(exact Has.ag (u' := c.f) (g7 rfl rfl rfl rfl rfl rfl rfl) cs)|(exact Has.ag (u' := c.f) (g7 rfl rfl rfl rfl rfl rfl rfl) (t_toe uo (by omega)))|(exact Has.agv (u' := (gT c).f) (fun S B β w => gT_args rfl rfl rfl rfl (fun i hi => rfl) rfl rfl rfl) rs)|(exact c1)|(exact Has.ag (u' := c.f) (g7 rfl rfl rfl rfl rfl rfl rfl) (r5_expand uo))|(exact cd)|(exact cn))|((with_reducible apply st_callg);exact rfl;exact rfl;(first|exact rfl|assumption);exact rfl;exact rfl;exact rfl;first|(exact Has.ag (u' := c.f) (g7 rfl rfl rfl rfl rfl rfl rfl) cs)|(exact Has.ag (u' := c.f) (g7 rfl rfl rfl rfl rfl rfl rfl) (t_toe uo (by omega)))|(exact Has.agv (u' := (gT c).f) (fun S B β w => gT_args rfl rfl rfl rfl (fun i hi => rfl) rfl rfl rfl) rs)|(exact c1)|(exact Has.ag (u' := c.f) (g7 rfl rfl rfl rfl rfl rfl rfl) (r5_expand uo))|(exact cd)|(exact cn)))
    exact ⟨.inr rfl, _, Imp.refl _, .one (.tmp rfl)⟩
  · rw [if_neg hl] at rs
    by_cases hd : gdet c.n (gec c) = 0
    · rw [if_pos hd] at cs
      repeat(first|refine run1p ?_|((with_reducible apply st_call);exact rfl;exact rfl;exact rfl;first|(exact Has.ag (u' := c.f) (g7 rfl rfl rfl rfl rfl rfl rfl) cs)|(exact Has.ag (u' := c.f) (g7 rfl rfl rfl rfl rfl rfl rfl) (t_toe uo (by omega)))|(exact Has.agv (u' := (gT c).f) (fun S B β w => gT_args rfl rfl rfl rfl (fun i hi => rfl) rfl rfl rfl) rs))|((with_reducible apply st_callg);exact rfl;exact rfl;(first|exact rfl|assumption);exact rfl;exact rfl;exact rfl;first|(exact Has.ag (u' := c.f) (g7 rfl rfl rfl rfl rfl rfl rfl) cs)|(exact Has.ag (u' := c.f) (g7 rfl rfl rfl rfl rfl rfl rfl) (t_toe uo (by omega)))|(exact Has.agv (u' := (gT c).f) (fun S B β w => gT_args rfl rfl rfl rfl (fun i hi => rfl) rfl rfl rfl) rs)))
      exact ⟨.inr rfl, _, Imp.refl _, .one (.tmp rfl)⟩
    · rw [if_neg hd] at cs
      repeat(first|refine run1p ?_|((with_reducible apply st_call);exact rfl;exact rfl;exact rfl;first|(exact Has.ag (u' := c.f) (g7 rfl rfl rfl rfl rfl rfl rfl) cs)|(exact Has.ag (u' := c.f) (g7 rfl rfl rfl rfl rfl rfl rfl) (t_toe uo (by omega)))|(exact Has.agv (u' := (gT c).f) (fun S B β w => gT_args rfl rfl rfl rfl (fun i hi => rfl) rfl rfl rfl) rs))|((with_reducible apply st_callg);exact rfl;exact rfl;(first|exact rfl|assumption);exact rfl;exact rfl;exact rfl;first|(exact Has.ag (u' := c.f) (g7 rfl rfl rfl rfl rfl rfl rfl) cs)|(exact Has.ag (u' := c.f) (g7 rfl rfl rfl rfl rfl rfl rfl) (t_toe uo (by omega)))|(exact Has.agv (u' := (gT c).f) (fun S B β w => gT_args rfl rfl rfl rfl (fun i hi => rfl) rfl rfl rfl) rs)))
      exact ⟨.inr rfl, _, Imp.refl _, .one (.tmp rfl)⟩
end Go.Proofs.YtdnmoggifjlbiaaGreat.AM

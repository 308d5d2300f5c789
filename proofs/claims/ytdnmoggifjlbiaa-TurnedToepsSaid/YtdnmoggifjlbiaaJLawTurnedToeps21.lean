/- Joined texts, 21: GenJ LawTf. -/
import Derived.Test.YtdnmoggifjlbiaaJLawTurnedToeps20
set_option linter.unusedVariables false
set_option linter.unusedSimpArgs false
/- The document: two systems are alike, or not. -/
namespace Go.Proofs.Ytdnmoggifjlbiaa.AM
open Go Go.RowKit Go.Proofs.Ytdnmoggifjlbiaa.PN Go.Proofs.Ytdnmoggifjlbiaa.V
open Go.Proofs.Ytdnmoggifjlbiaa.LA (S S_succ S_zero S_congr)
set_option linter.unusedVariables false
set_option linter.unusedSimpArgs false
set_option maxRecDepth 8000
set_option maxHeartbeats 8000000
theorem r5_sameb {g h : GD} (t : Shp g h) : Has Try.prog 8 [g.v, h.v] (.b (sameB g h)) := by
  obtain ⟨k, n, r, la, lb, lg, lh, A, B, G, H⟩ := h
  obtain ⟨rfl, rfl, rfl, rfl, rfl, rfl, rfl, le, s, s'⟩ := t
  have gK : decide ((g.k : Int) = g.k) = true := decide_eq_true rfl
  have gK2 : (decide ((g.k : Int) = g.k) == true) = true := by rw [gK]; rfl
  have gN : decide ((g.n : Int) = g.n) = true := decide_eq_true rfl
  have gN2 : (decide ((g.n : Int) = g.n) == true) = true := by rw [gN]; rfl
  have gR : decide ((g.r : Int) = g.r) = true := decide_eq_true rfl
  have gR2 : (decide ((g.r : Int) = g.r) == true) = true := by rw [gR]; rfl
  have cA := k_rowsd (n := g.la) (f := g.A) (g := A) (fun i hi => Nat.le_trans (s.A i hi) (by decide)) (fun i hi => Nat.le_trans (s'.A i hi) (by decide)) le.1
  have cB := k_rowsd (n := g.lb) (f := g.B) (g := B) (fun i hi => Nat.le_trans (s.B i hi) (by decide)) (fun i hi => Nat.le_trans (s'.B i hi) (by decide)) le.2.1
  have cG := k_rowsd (n := g.lg) (f := g.G) (g := G) (fun i hi => Nat.le_trans (s.G i hi) (by decide)) (fun i hi => Nat.le_trans (s'.G i hi) (by decide)) le.2.2.1
  have cH := k_rowsd (n := g.lh) (f := g.H) (g := H) (fun i hi => Nat.le_trans (s.H i hi) (by decide)) (fun i hi => Nat.le_trans (s'.H i hi) (by decide)) le.2.2.2
  show Has Try.prog _ _ (.b (alld g.la g.A A && (alld g.lb g.B B && (alld g.lg g.G G && alld g.lh g.H H))))
  generalize alld g.la g.A A = bA at *
  generalize alld g.lb g.B B = bB at *
  generalize alld g.lg g.G G = bG at *
  generalize alld g.lh g.H H = bH at *
  refine has_of Try.func8 (by kernel_rfl) rfl Try.ntmps8 Try.results8 rfl rfl rfl ?_
  cases bA with
  | false =>
    repeat(first|refine run1p ?_|((with_reducible apply st_call);exact rfl;exact rfl;exact rfl;first|(exact cA)|(exact cB)|(exact cG)|(exact cH))|((with_reducible apply st_callg);exact rfl;exact rfl;(first|exact rfl|assumption);exact rfl;exact rfl;exact rfl;first|(exact cA)|(exact cB)|(exact cG)|(exact cH)))
    exact ⟨.inr rfl, _, Imp.refl _, .one (.tmp rfl)⟩
  | true =>
    cases bB with
    | false =>
      repeat(first|refine run1p ?_|((with_reducible apply st_call);exact rfl;exact rfl;exact rfl;first|(exact cA)|(exact cB)|(exact cG)|(exact cH))|((with_reducible apply st_callg);exact rfl;exact rfl;(first|exact rfl|assumption);exact rfl;exact rfl;exact rfl;first|(exact cA)|(exact cB)|(exact cG)|(exact cH)))
      exact ⟨.inr rfl, _, Imp.refl _, .one (.tmp rfl)⟩
    | true =>
      cases bG with
      | false =>
        repeat(first|refine run1p ?_|((with_reducible apply st_call);exact rfl;exact rfl;exact rfl;first|(exact cA)|(exact cB)|(exact cG)|(exact cH))|((with_reducible apply st_callg);exact rfl;exact rfl;(first|exact rfl|assumption);exact rfl;exact rfl;exact rfl;first|(exact cA)|(exact cB)|(exact cG)|(exact cH)))
        exact ⟨.inr rfl, _, Imp.refl _, .one (.tmp rfl)⟩
      | true =>
        cases bH with
        | false =>
          repeat(first|refine run1p ?_|((with_reducible apply st_call);exact rfl;exact rfl;exact rfl;first|(exact cA)|(exact cB)|(exact cG)|(exact cH))|((with_reducible apply st_callg);exact rfl;exact rfl;(first|exact rfl|assumption);exact rfl;exact rfl;exact rfl;first|(exact cA)|(exact cB)|(exact cG)|(exact cH)))
          exact ⟨.inr rfl, _, Imp.refl _, .one (.tmp rfl)⟩
        | true =>
          repeat(first|refine run1p ?_|((with_reducible apply st_call);exact rfl;exact rfl;exact rfl;first|(exact cA)|(exact cB)|(exact cG)|(exact cH))|((with_reducible apply st_callg);exact rfl;exact rfl;(first|exact rfl|assumption);exact rfl;exact rfl;exact rfl;first|(exact cA)|(exact cB)|(exact cG)|(exact cH)))
          exact ⟨.inr rfl, _, Imp.refl _, .one (.tmp rfl)⟩
theorem alld_self {n : Nat} {f : Nat → Rat} : alld n f f = true := decide_eq_true fun _ _ => rfl
theorem sameB_self {g : GD} : sameB g g = true := by unfold sameB; rw [alld_self, alld_self, alld_self, alld_self]; rfl
/-- One number turned. -/
def gX (a : GD) (p : Bool) (w : Nat) : GD := ⟨a.k, a.n, a.r, a.la, a.lb, a.lg, a.lh, fun i => if p = true ∧ i = w then 777 else a.A i, a.B, fun i => if p = false ∧ i = w then 777 else a.G i, a.H⟩
end Go.Proofs.Ytdnmoggifjlbiaa.AM
/- Laws of turned systems: TurnedToeps, walked. -/
namespace Go.Proofs.Ytdnmoggifjlbiaa.AM
open Go Go.RowKit Go.Proofs.Ytdnmoggifjlbiaa.PN Go.Proofs.Ytdnmoggifjlbiaa.V
open Go.Proofs.Ytdnmoggifjlbiaa.LA (S S_succ S_zero S_congr)
set_option linter.unusedVariables false
set_option linter.unusedSimpArgs false
set_option maxRecDepth 8000
set_option maxHeartbeats 8000000
theorem circ_toe' {g : GD} (hk : g.k = 3) {i j : Nat} (hi : i < g.n) (hj : j < g.n) : gent (gT g) i j = gent g i j := by
  unfold gent
  rw [hk]
  show (if g.k = 3 then g.A ((i + g.n - 1 - j + 1) % g.n) else g.A (i + g.n - 1 - j)) = g.A ((i + g.n - j) % g.n)
  rw [if_pos hk, show i + g.n - 1 - j + 1 = i + g.n - j by omega]
theorem toe_toe {g : GD} (hk : g.k = 1) {i j : Nat} : gent (gT g) i j = gent g i j := by
  unfold gent
  rw [hk]
  show (if g.k = 3 then g.A ((i + g.n - 1 - j + 1) % g.n) else g.A (i + g.n - 1 - j)) = g.A (i + g.n - 1 - j)
  rw [if_neg (by omega)]
def g00 : GD := ⟨0, 0, 0, 0, 0, 0, 0, fun _ => 0, fun _ => 0, fun _ => 0, fun _ => 0⟩
theorem g00_args {S : Nat → Prop} {B : Nat} {β : Nat → Nat → Value} {w : World} {u : Nat → AV} (h0 : u 0 = .i 0) (h1 : u 1 = .i 0) (h2 : u 2 = .i 0) (h3 : u 3 = .v (.slice none 0 0)) (h4 : u 4 = .v (.slice none 0 0)) (h5 : u 5 = .v (.slice none 0 0)) (h6 : u 6 = .v (.slice none 0 0)) : ∀ i, i < 7 → ∀ v, RV S B β w (u i) v → RV S B β w (g00.f i) v := by
  intro i hi v hv
  match i, hi with
  | 0, _ => rw [h0] at hv; exact hv
  | 1, _ => rw [h1] at hv; exact hv
  | 2, _ => rw [h2] at hv; exact hv
  | 3, _ => rw [h3] at hv; exact rv_nil0 v hv
  | 4, _ => rw [h4] at hv; exact rv_nil0 v hv
  | 5, _ => rw [h5] at hv; exact rv_nil0 v hv
  | 6, _ => rw [h6] at hv; exact rv_nil0 v hv
theorem Has.agv2 {P : Program} {f : FuncId} {n : Nat} {u u' c c' : Nat → AV} {r : AV} (h : ∀ S B β w i, i < n → ∀ v, RV S B β w (u i) v → RV S B β w (u' i) v) (k : ∀ S B β w i, i < n → ∀ v, RV S B β w (c i) v → RV S B β w (c' i) v) (H : Has P f [.ag n u', .ag n c'] r) : Has P f [.ag n u, .ag n c] r :=
  Has.args H fun S B β w vs hv => rvs_cons (rv_agv (h S B β w)) (fun us hu => rvs_cons (rv_agv (k S B β w)) (fun us hu => hu) hu) hv
theorem sm_le {g : GD} (h : g.OK) : Shp g g := by
  have hle : ∀ i : Nat, i < 4 → g.len i ≤ 1000 := fun i hi => by
    obtain ⟨q1, q2, q3, q4⟩ := cn_lens h
    have := cn_le h.k1 h.k7 h.n1 h.n8 h.r3 h.rk
    have hi4 : i = 0 ∨ i = 1 ∨ i = 2 ∨ i = 3 := by omega
    rcases hi4 with rfl | rfl | rfl | rfl
    · show g.la ≤ 1000; omega
    · show g.lb ≤ 1000; omega
    · show g.lg ≤ 1000; omega
    · show g.lh ≤ 1000; omega
  exact ⟨rfl, rfl, rfl, rfl, rfl, rfl, rfl, ⟨hle 0 (by omega), hle 1 (by omega), hle 2 (by omega), hle 3 (by omega)⟩, h.sm, h.sm⟩
theorem g00_shp : Shp g00 g00 := ⟨rfl, rfl, rfl, rfl, rfl, rfl, rfl, ⟨Nat.zero_le _, Nat.zero_le _, Nat.zero_le _, Nat.zero_le _⟩, ⟨fun i hi => absurd hi (Nat.not_lt_zero _), fun i hi => absurd hi (Nat.not_lt_zero _), fun i hi => absurd hi (Nat.not_lt_zero _), fun i hi => absurd hi (Nat.not_lt_zero _)⟩, ⟨fun i hi => absurd hi (Nat.not_lt_zero _), fun i hi => absurd hi (Nat.not_lt_zero _), fun i hi => absurd hi (Nat.not_lt_zero _), fun i hi => absurd hi (Nat.not_lt_zero _)⟩⟩
theorem k_ttoeps {kind n : Int} {ns : List Int} (hk : Fits .i64 kind) (hn : Fits .i64 n) (hz : AllFit ns) : Has Try.prog 3 [.i kind, .i n, .seq .i64 ns] (.b true) := by
  have m1 := k_mk (kind := kind) (n := n) (most := 6) (zs := ns) hk hn hz (by decide) (by decide)
  have ok := mkg_ok (kind := kind) (n := n) (most := 6) (zs := ns) (by decide) (by decide)
  generalize mkg kind n ns 6 = g at *
  have n8 := ok.n8; have n1 := ok.n1; have k1 := ok.k1
  refine has_of Try.func3 (by kernel_rfl) rfl Try.ntmps3 Try.results3 rfl rfl rfl ?_
  repeat(first|refine run1p ?_|((with_reducible apply st_call);exact rfl;exact rfl;exact rfl;first|(exact k_known12))|((with_reducible apply st_callg);exact rfl;exact rfl;(first|exact rfl|assumption);exact rfl;exact rfl;exact rfl;first|(exact k_known12)))
  refine awp_no rfl rfl ?_
  by_cases h3 : g.k ≤ 3
  · have okt := gT_ok ok h3
    have cs := r5_sameb (sm_le okt)
    have hs : sameB (gT g) (gT g) = true := sameB_self
    rw [hs] at cs
    have cc := r5_check okt
    have e3 : decide ((3 : Int) < g.k) = false := decide_eq_false (by omega)
    have gTok : ∀ {U : Nat → Bool} i, (fT g.n (.row true (2 * g.n - 1) fun i => .q ((gT g).A i)) i).ok U := fun i => fTok (by exact True.intro) i
    repeat(first|refine run1p ?_|((with_reducible apply st_call);exact rfl;exact rfl;exact rfl;first|(exact m1)|(exact Has.ag (u' := g.f) (g7 rfl rfl rfl rfl rfl rfl rfl) (t_toe ok h3))|(exact Has.ag (u' := g.f) (g7 rfl rfl rfl rfl rfl rfl rfl) (r12_toe ok h3))|(exact Has.agv2 (u' := (gT g).f) (c' := (gT g).f) (fun S B β w => gT_args rfl rfl rfl rfl (fun i hi => rfl) rfl rfl rfl) (fun S B β w => gT_args rfl rfl rfl rfl (fun i hi => rfl) rfl rfl rfl) cs))|((with_reducible apply st_callg);exact rfl;exact rfl;(first|exact rfl|assumption);exact rfl;exact rfl;exact rfl;first|(exact m1)|(exact Has.ag (u' := g.f) (g7 rfl rfl rfl rfl rfl rfl rfl) (t_toe ok h3))|(exact Has.ag (u' := g.f) (g7 rfl rfl rfl rfl rfl rfl rfl) (r12_toe ok h3))|(exact Has.agv2 (u' := (gT g).f) (c' := (gT g).f) (fun S B β w => gT_args rfl rfl rfl rfl (fun i hi => rfl) rfl rfl rfl) (fun S B β w => gT_args rfl rfl rfl rfl (fun i hi => rfl) rfl rfl rfl) cs)))
    refine awp_no rfl rfl ?_
    refine run0p ?_
    refine awp_no rfl e3 ?_
    repeat(first|refine run1p ?_|((with_reducible apply st_call);exact rfl;exact rfl;exact rfl;first|(exact Has.ag (u' := g.f) (g7 rfl rfl rfl rfl rfl rfl rfl) (r5_expand ok))|(exact Has.agv (u' := (gT g).f) (fun S B β w => gT_args rfl rfl rfl rfl (fun i hi => rfl) rfl rfl rfl) (r5_expand okt)))|((with_reducible apply st_callg);exact rfl;exact rfl;(first|exact rfl|assumption);exact rfl;exact rfl;exact rfl;first|(exact Has.ag (u' := g.f) (g7 rfl rfl rfl rfl rfl rfl rfl) (r5_expand ok))|(exact Has.agv (u' := (gT g).f) (fun S B β w => gT_args rfl rfl rfl rfl (fun i hi => rfl) rfl rfl rfl) (r5_expand okt))))
    refine awp_loop (fun m' s => ∃ i, i ≤ g.n ∧ m' = g.n - i ∧ s = stl [(7, .ptr 7 0 0), (8, .ptr 8 0 0), (9, .mat true g.n (fun _ => g.n) (fun i j => .q (gent g i j))), (10, .mat true g.n (fun _ => g.n) (fun i j => .q (gent (gT g) i j))), (11, .i (i : Int))] [(7, (1, fun _ => .ones 26 7 g.ft)), (8, (1, fun _ => .ones 26 7 (fT g.n (.row true (2 * g.n - 1) fun i => .q ((gT g).A i)))))]) g.n _ (imp_id ?_ ?_) ⟨0, Nat.zero_le _, rfl, rfl⟩ ?_
    · exact eA
    · exact allh rfl (by decide) (bleo rfl fun _ _ => Le.id rfl) (fun i _ => g.ftok _ i) (allh rfl (by decide) (bleo rfl fun _ _ => Le.id rfl) (fun i _ => gTok i) True.intro)
    rintro m' s ⟨i, hi, rfl, rfl⟩
    refine run0p ?_
    refine awp_if rfl (fun h => ?_) (fun h => ?_)
    · have h : i < g.n := by omega
      refine run0p ?_
      refine awp_loop (fun m' s => ∃ j, j ≤ g.n ∧ m' = g.n - j ∧ s = stl [(7, .ptr 7 0 0), (8, .ptr 8 0 0), (9, .mat true g.n (fun _ => g.n) (fun i j => .q (gent g i j))), (10, .mat true g.n (fun _ => g.n) (fun i j => .q (gent (gT g) i j))), (11, .i (i : Int)), (12, .i (j : Int))] [(7, (1, fun _ => .ones 26 7 g.ft)), (8, (1, fun _ => .ones 26 7 (fT g.n (.row true (2 * g.n - 1) fun i => .q ((gT g).A i)))))]) g.n _ (imp_id ?_ ?_) ⟨0, Nat.zero_le _, rfl, rfl⟩ ?_
      · exact eA
      · exact allh rfl (by decide) (bleo rfl fun _ _ => Le.id rfl) (fun i _ => g.ftok _ i) (allh rfl (by decide) (bleo rfl fun _ _ => Le.id rfl) (fun i _ => gTok i) True.intro)
      rintro m' s ⟨j, hj, rfl, rfl⟩
      refine run0p ?_
      refine awp_if rfl (fun h1 => ?_) (fun h1 => ?_)
      · have h1 : j < g.n := by omega
        have wg := gent_wt ok h h1
        by_cases e2 : g.k = 2
        · have hq : gent g i j = gent (gT g) i (g.n - 1 - j) := hank_toe e2 h h1
          have ce := hs_same (p := gent g i j) (q := gent (gT g) i (g.n - 1 - j)) (by omega) (by rw [← hq]; omega)
          rw [decide_eq_true hq] at ce
          have e1 : ((g.n : Int) - 1 - (j : Int)).toNat = g.n - 1 - j := by omega
          refine run0p ?_
          refine awp_yes rfl (decide_eq_true (by omega)) ?_
          refine run0p ?_
          rw [e1]
          repeat(first|refine run1p ?_|((with_reducible apply st_call);exact rfl;exact rfl;exact rfl;first|(exact ce))|((with_reducible apply st_callg);exact rfl;exact rfl;(first|exact rfl|assumption);exact rfl;exact rfl;exact rfl;first|(exact ce)))
          refine awp_no rfl rfl ?_
          refine run0p ?_
          refine q_loop ?_ (imp_id ?_ ?_) ⟨j + 1, ?_, rfl, rfl⟩
          · omega
          · exact eA
          · exact allh rfl (by decide) (bleo rfl fun _ _ => Le.id rfl) (fun i _ => g.ftok _ i) (allh rfl (by decide) (bleo rfl fun _ _ => Le.id rfl) (fun i _ => gTok i) True.intro)
          · omega
        · have hq : gent g i j = gent (gT g) i j := by
            by_cases e3 : g.k = 3
            · exact (circ_toe' e3 h h1).symm
            · exact (toe_toe (by omega)).symm
          have ce := hs_same (p := gent g i j) (q := gent (gT g) i j) (by omega) (by rw [← hq]; omega)
          rw [decide_eq_true hq] at ce
          refine run0p ?_
          refine awp_no rfl (decide_eq_false (by omega)) ?_
          repeat(first|refine run1p ?_|((with_reducible apply st_call);exact rfl;exact rfl;exact rfl;first|(exact ce))|((with_reducible apply st_callg);exact rfl;exact rfl;(first|exact rfl|assumption);exact rfl;exact rfl;exact rfl;first|(exact ce)))
          refine awp_no rfl rfl ?_
          refine run0p ?_
          refine q_loop ?_ (imp_id ?_ ?_) ⟨j + 1, ?_, rfl, rfl⟩
          · omega
          · exact eA
          · exact allh rfl (by decide) (bleo rfl fun _ _ => Le.id rfl) (fun i _ => g.ftok _ i) (allh rfl (by decide) (bleo rfl fun _ _ => Le.id rfl) (fun i _ => gTok i) True.intro)
          · omega
      · refine run0p ?_
        refine q_loop ?_ (imp_id ?_ ?_) ⟨i + 1, ?_, rfl, rfl⟩
        · omega
        · exact eA
        · exact allh rfl (by decide) (bleo rfl fun _ _ => Le.id rfl) (fun i _ => g.ftok _ i) (allh rfl (by decide) (bleo rfl fun _ _ => Le.id rfl) (fun i _ => gTok i) True.intro)
        · omega
    · repeat(first|refine run1p ?_|((with_reducible apply st_call);exact rfl;exact rfl;exact rfl;first|(exact Has.agv (u' := (gT g).f) (fun S B β w => gT_args rfl rfl rfl rfl (fun i hi => rfl) rfl rfl rfl) cc))|((with_reducible apply st_callg);exact rfl;exact rfl;(first|exact rfl|assumption);exact rfl;exact rfl;exact rfl;first|(exact Has.agv (u' := (gT g).f) (fun S B β w => gT_args rfl rfl rfl rfl (fun i hi => rfl) rfl rfl rfl) cc)))
      exact ⟨.inr rfl, _, Imp.refl _, .one (.tmp rfl)⟩
  · have cs := r5_sameb g00_shp
    rw [sameB_self] at cs
    have e3 : decide ((3 : Int) < g.k) = true := decide_eq_true (by omega)
    repeat(first|refine run1p ?_|((with_reducible apply st_call);exact rfl;exact rfl;exact rfl;first|(exact m1)|(exact Has.ag (u' := g.f) (g7 rfl rfl rfl rfl rfl rfl rfl) (t_toe_no ok (by omega)))|(exact Has.ag (u' := g.f) (g7 rfl rfl rfl rfl rfl rfl rfl) (r12_toe_no ok (by omega)))|(exact Has.agv2 (u' := g00.f) (c' := g00.f) (fun S B β w => g00_args rfl rfl rfl rfl rfl rfl rfl) (fun S B β w => g00_args rfl rfl rfl rfl rfl rfl rfl) cs))|((with_reducible apply st_callg);exact rfl;exact rfl;(first|exact rfl|assumption);exact rfl;exact rfl;exact rfl;first|(exact m1)|(exact Has.ag (u' := g.f) (g7 rfl rfl rfl rfl rfl rfl rfl) (t_toe_no ok (by omega)))|(exact Has.ag (u' := g.f) (g7 rfl rfl rfl rfl rfl rfl rfl) (r12_toe_no ok (by omega)))|(exact Has.agv2 (u' := g00.f) (c' := g00.f) (fun S B β w => g00_args rfl rfl rfl rfl rfl rfl rfl) (fun S B β w => g00_args rfl rfl rfl rfl rfl rfl rfl) cs)))
    refine awp_no rfl rfl ?_
    refine run0p ?_
    refine awp_yes rfl e3 ?_
    refine run0p ?_
    exact ⟨.inr rfl, _, Imp.refl _, .one (.tmp rfl)⟩
end Go.Proofs.Ytdnmoggifjlbiaa.AM

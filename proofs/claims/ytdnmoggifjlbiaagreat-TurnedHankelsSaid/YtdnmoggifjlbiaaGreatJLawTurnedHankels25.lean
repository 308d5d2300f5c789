/- Joined texts, 25: MkT LvT TuE LawTa. -/
import Derived.Test.YtdnmoggifjlbiaaGreatJLawTurnedHankels23
import Derived.Test.YtdnmoggifjlbiaaGreatJLawTurnedHankels20
import Derived.Test.YtdnmoggifjlbiaaGreatJLawTurnedHankels24
set_option linter.unusedVariables false
set_option linter.unusedSimpArgs false
/- Systems that are drawn: Toeplitz ones with small whole numbers now and then. -/
namespace Go.Proofs.YtdnmoggifjlbiaaGreat.AM
open Go Go.RowKit Go.Proofs.YtdnmoggifjlbiaaGreat.PN Go.Proofs.YtdnmoggifjlbiaaGreat.V
open Go.Proofs.YtdnmoggifjlbiaaGreat.LA (S S_succ S_zero S_congr)
set_option linter.unusedVariables false
set_option linter.unusedSimpArgs false
set_option maxRecDepth 8000
set_option maxHeartbeats 8000000
/-- Small whole numbers. -/
def trA (zs : List Int) (i : Nat) : Rat := ((wthn (if i < zs.length then (zs.getD i 0).tdiv 2 else (i : Int)) 3 - 1 : Int) : Rat)
def trB (zs : List Int) : Bool := decide (0 < zs.length) && decide (wthn (zs.getD 0 0) 2 = 0)
def mkt (n : Int) (zs : List Int) (most : Int) : GD := let g := mkg 0 n zs most; { g with A := fun i => if trB zs then trA zs i else g.A i }
theorem tr_wt (zs : List Int) (i : Nat) : wt (trA zs i) ≤ 1 := by
  obtain ⟨h1, h2⟩ := wthn_lt (a := if i < zs.length then (zs.getD i 0).tdiv 2 else (i : Int)) (n := 3) (by decide)
  unfold trA
  generalize wthn (if i < zs.length then (zs.getD i 0).tdiv 2 else (i : Int)) 3 = x at *
  have : x = 0 ∨ x = 1 ∨ x = 2 := by omega
  rcases this with rfl | rfl | rfl <;> decide
theorem mkt_ok {n most : Int} {zs : List Int} (m1 : 1 ≤ most) (m8 : most ≤ 8) : (mkt n zs most).OK ∧ (mkt n zs most).k = 1 := by
  have o := mkg_ok (kind := 0) (n := n) (zs := zs) m1 m8
  refine ⟨⟨o.k1, o.k7, o.n1, o.n8, o.r3, o.rk, o.r0, o.len, ⟨fun i hi => ?_, o.sm.B, o.sm.G, o.sm.H⟩, fun i hi j hj => ?_⟩, rfl⟩
  · show wt (if trB zs then trA zs i else (mkg 0 n zs most).A i) ≤ 4
    split
    · exact Nat.le_trans (tr_wt zs i) (by decide)
    · exact o.sm.A i hi
  · have l1 := o.len 1 (by omega)
    have hk : (mkg 0 n zs most).k = 1 := rfl
    have hj : j < (mkg 0 n zs most).lb := hj
    have l1 : (((mkg 0 n zs most).lb : Nat) : Int) = mpz (cmap (1 : Nat) (1 : Nat)) 0 * (mkg 0 n zs most).n + mpz (cmap (1 : Nat) (1 : Nat)) 1 * (mkg 0 n zs most).n * (mkg 0 n zs most).r + mpz (cmap (1 : Nat) (1 : Nat)) 2 := l1
    have c : ∀ (x y z n r : Int), x = 0 → y = 0 → z = 0 → x * n + y * n * r + z = 0 := by intro x y z n r hx hy hz; subst hx; subst hy; subst hz; simp
    rw [c _ _ _ _ _ (by decide) (by decide) (by decide)] at l1
    omega
/-- A system's struct with another first row. -/
def GD.fA (g : GD) (x : AV) (i : Nat) : AV := [AV.i g.k, .i g.n, .i g.r, x, .row true g.lb (fun i => .q (g.B i)), .row true g.lg (fun i => .q (g.G i)), .row true g.lh (fun i => .q (g.H i))].getD i (.v undef)
theorem GD.fAok (g : GD) {x : AV} {U : Nat → Bool} (hx : x.ok U) : ∀ i, (g.fA x i).ok U
  | 0 | 1 | 2 | 4 | 5 | 6 => trivial
  | 3 => hx
  | _ + 7 => trivial
theorem k_mkt {n most : Int} {zs : List Int} (hn : Fits .i64 n) (hz : AllFit zs) (m1 : 1 ≤ most) (m8 : most ≤ 8) : Has Tryz.prog 80 [.i n, .seq .i64 zs, .i most] (.ag 7 (mkt n zs most).ft) := by
  have m := k_mk (kind := 0) (n := n) (most := most) (zs := zs) (by show _ ∧ _; omega) hn hz m1 m8
  have o := mkg_ok (kind := 0) (n := n) (zs := zs) m1 m8
  have o2 := (mkt_ok (n := n) (zs := zs) m1 m8).1
  have hk : (mkg 0 n zs most).k = 1 := rfl
  have hT : ∀ i, trB zs = true → (mkt n zs most).A i = trA zs i := fun i h => if_pos h
  have hT2 : ∀ i, trB zs = false → (mkt n zs most).A i = (mkg 0 n zs most).A i := fun i h => if_neg (by rw [h]; decide)
  have e1 : (mkt n zs most).k = (mkg 0 n zs most).k := rfl
  have e2 : (mkt n zs most).n = (mkg 0 n zs most).n := rfl
  have e3 : (mkt n zs most).r = (mkg 0 n zs most).r := rfl
  have e4 : (mkt n zs most).la = (mkg 0 n zs most).la := rfl
  have e5 : (mkt n zs most).lb = (mkg 0 n zs most).lb := rfl
  have e6 : (mkt n zs most).lg = (mkg 0 n zs most).lg := rfl
  have e7 : (mkt n zs most).lh = (mkg 0 n zs most).lh := rfl
  have e8 : (mkt n zs most).B = (mkg 0 n zs most).B := rfl
  have e9 : (mkt n zs most).G = (mkg 0 n zs most).G := rfl
  have e10 : (mkt n zs most).H = (mkg 0 n zs most).H := rfl
  have out : ∀ t : GD, t.k = (mkg 0 n zs most).k → t.n = (mkg 0 n zs most).n → t.r = (mkg 0 n zs most).r → t.la = (mkg 0 n zs most).la → t.lb = (mkg 0 n zs most).lb → t.lg = (mkg 0 n zs most).lg → t.lh = (mkg 0 n zs most).lh → t.B = (mkg 0 n zs most).B → t.G = (mkg 0 n zs most).G → t.H = (mkg 0 n zs most).H → t.ft = (mkg 0 n zs most).fA (.row true t.la fun i => .q (t.A i)) := fun t a1 a2 a3 a4 a5 a6 a7 a8 a9 a10 => by
    funext i
    unfold GD.ft GD.fA
    rw [a1, a2, a3, a5, a6, a7, a8, a9, a10]
  have hft := out _ e1 e2 e3 e4 e5 e6 e7 e8 e9 e10
  rw [hft]
  clear out hft e1 e2 e3 e5 e6 e7 e8 e9 e10
  rw [e4]
  clear e4
  have hla := (ok_lens o).1 (.inl hk)
  have hAq : (fun i => RA.q ((mkt n zs most).A i)) = fun i => RA.q (if trB zs then trA zs i else (mkg 0 n zs most).A i) := rfl
  rw [hAq]
  clear hAq hT hT2 o2
  generalize mkg 0 n zs most = g at *
  have n8 := o.n8; have n1 := o.n1
  refine has_of Tryz.func80 (by kernel_rfl) rfl Tryz.ntmps80 Tryz.results80 rfl rfl rfl ?_
  repeat(first|refine run1p ?_|((with_reducible apply st_call);exact rfl;exact rfl;exact rfl;first|(exact m))|((with_reducible apply st_callg);exact rfl;exact rfl;(first|exact rfl|assumption);exact rfl;exact rfl;exact rfl;first|(exact m)))
  have fin : trB zs = false → g.ft = g.fA (.row true g.la fun i => .q (if trB zs then trA zs i else g.A i)) := fun h => by
    rw [h]; rfl
  by_cases h0 : 0 < zs.length
  · have f0 : decide ((0 : Int) < zs.length) = true := decide_eq_true (by omega)
    have f1 : (decide ((0 : Int) < zs.length) == true) = true := by rw [f0]; rfl
    repeat(first|refine run1p ?_|((with_reducible apply st_call);exact rfl;exact rfl;exact rfl;first|(exact k_within10 (by decide) (by decide)))|((with_reducible apply st_callg);exact rfl;exact rfl;(first|exact rfl|assumption);exact rfl;exact rfl;exact rfl;first|(exact k_within10 (by decide) (by decide))))
    refine awp_if rfl (fun h => ?_) (fun h => ?_)
    · have hB : trB zs = true := by
        unfold trB
        rw [decide_eq_true h0, decide_eq_true (show wthn (zs.getD 0 0) 2 = 0 from h)]; rfl
      have hq : ∀ i, RA.q (if trB zs then trA zs i else g.A i) = .q (trA zs i) := fun i => by rw [if_pos hB]
      rw [show (fun i => RA.q (if trB zs then trA zs i else g.A i)) = fun i => RA.q (trA zs i) from funext hq]
      refine run0p ?_
      refine awp_loop (fun m' s => ∃ i, i ≤ 2 * g.n - 1 ∧ m' = 2 * g.n - 1 - i ∧ s = stl [(1, .seq .i64 zs), (6, .ptr 6 0 0), (7, .ptr 7 0 0), (8, .i (i : Int))] [(70, (1, fun _ => .rats i fun i => .q (trA zs i))), (6, (1, fun _ => .ones 26 7 fun i => .v ([Value.int .i64 0, .int .i64 0, .int .i64 0, .slice none 0 0, .slice none 0 0, .slice none 0 0, .slice none 0 0].getD i undef))), (7, (1, fun _ => .ones 26 7 (g.fA (.own 70 0))))]) (2 * g.n - 1) _ ((imp_nilf 70 7 3 (fun i => .q (trA zs i)) rfl rfl (by decide) rfl rfl).trans (imp_id ?_ ?_)) ⟨0, Nat.zero_le _, rfl, rfl⟩ ?_
      · exact eA
      · exact allh rfl (by decide) (blen rfl fun i hi => absurd hi (Nat.not_lt_zero _)) True.intro (allh rfl (by decide) (bleo rfl fun _ _ => Le.id rfl) (fun _ _ => True.intro) (allh rfl (by decide) (le7 (Le.id rfl) (Le.id rfl) (Le.id rfl) (Le.id rfl) (Le.id rfl) (Le.id rfl) (Le.id rfl)) (fun i _ => g.fAok (by exact rfl) i) True.intro))
      rintro m' s ⟨i, hi, rfl, rfl⟩
      refine run0 ?_
      refine awp_if rfl (fun h1 => ?_) (fun h1 => ?_)
      · have hin : i < 2 * g.n - 1 := by omega
        refine run0 ?_
        refine awp_if rfl (fun h2 => ?_) (fun h2 => ?_)
        · have hl : i < zs.length := by omega
          have hf := hz i hl
          have hf : -9223372036854775808 ≤ zs.getD i 0 ∧ zs.getD i 0 ≤ 9223372036854775807 := hf
          obtain ⟨h5a, h5b⟩ : -9223372036854775808 ≤ (zs.getD i 0).tdiv 2 ∧ (zs.getD i 0).tdiv 2 ≤ 9223372036854775807 := by
            have e1 : ((zs.getD i 0).tdiv 2).natAbs = (zs.getD i 0).natAbs / 2 := Int.natAbs_tdiv _ 2
            omega
          obtain ⟨t1, t2⟩ := wthn_lt (a := (zs.getD i 0).tdiv 2) (n := 3) (by decide)
          have cw := k_within10 (a := (zs.getD i 0).tdiv 2) (n := 3) (by decide) (by decide)
          have ci : Has Tryz.prog 22 [.i (wthn ((zs.getD i 0).tdiv 2) 3 - 1)] (.q (trA zs i)) := by
            unfold trA; rw [if_pos hl]
            exact hs_int _ (by omega) (by omega)
          repeat(first|refine run1 ?_|((with_reducible apply st_call);exact rfl;exact rfl;exact rfl;first|(exact cw)|(exact ci))|((with_reducible apply st_callg);exact rfl;exact rfl;(first|exact rfl|assumption);exact rfl;exact rfl;exact rfl;first|(exact cw)|(exact ci)))
          refine q_loop (m' := 2 * g.n - 1 - (i + 1)) (by omega) (fld_next (t := 70) (a := 50) rfl rfl (glue_one rfl) (by exact True.intro) rfl rfl ?_ ?_) ⟨i + 1, by omega, rfl, rfl⟩
          · exact alle rfl (Le.eq rfl rfl) True.intro (alle rfl (Le.ptr (s1_ne (by decide))) rfl (alle rfl (Le.ptr (s1_ne (by decide))) rfl (alle rfl (Le.eq rfl rfl) True.intro True.intro)))
          · exact allh rfl Nat.zero_lt_one (bleo rfl fun _ _ => Le.eq rfl rfl) (fun _ _ => True.intro) (allh rfl Nat.zero_lt_one (le7 (Le.eq rfl rfl) (Le.eq rfl rfl) (Le.eq rfl rfl) (Le.own s1_t) (Le.eq rfl rfl) (Le.eq rfl rfl) (Le.eq rfl rfl)) (fun i _ => g.fAok (by exact rfl) i) True.intro)
        · have hl : ¬ i < zs.length := by omega
          obtain ⟨t1, t2⟩ := wthn_lt (a := (i : Int)) (n := 3) (by decide)
          have cw := k_within10 (a := (i : Int)) (n := 3) (by decide) (by decide)
          have ci : Has Tryz.prog 22 [.i (wthn (i : Int) 3 - 1)] (.q (trA zs i)) := by
            unfold trA; rw [if_neg hl]
            exact hs_int _ (by omega) (by omega)
          repeat(first|refine run1 ?_|((with_reducible apply st_call);exact rfl;exact rfl;exact rfl;first|(exact cw)|(exact ci))|((with_reducible apply st_callg);exact rfl;exact rfl;(first|exact rfl|assumption);exact rfl;exact rfl;exact rfl;first|(exact cw)|(exact ci)))
          refine q_loop (m' := 2 * g.n - 1 - (i + 1)) (by omega) (fld_next (t := 70) (a := 50) rfl rfl (glue_one rfl) (by exact True.intro) rfl rfl ?_ ?_) ⟨i + 1, by omega, rfl, rfl⟩
          · exact alle rfl (Le.eq rfl rfl) True.intro (alle rfl (Le.ptr (s1_ne (by decide))) rfl (alle rfl (Le.ptr (s1_ne (by decide))) rfl (alle rfl (Le.eq rfl rfl) True.intro True.intro)))
          · exact allh rfl Nat.zero_lt_one (bleo rfl fun _ _ => Le.eq rfl rfl) (fun _ _ => True.intro) (allh rfl Nat.zero_lt_one (le7 (Le.eq rfl rfl) (Le.eq rfl rfl) (Le.eq rfl rfl) (Le.own s1_t) (Le.eq rfl rfl) (Le.eq rfl rfl) (Le.eq rfl rfl)) (fun i _ => g.fAok (by exact rfl) i) True.intro)
      · have ei : i = g.la := by omega
        subst ei
        repeat(first|(with_reducible first|refine awp_seq ?_|refine awp_block ?_|refine awp_skip ?_|refine awp_exit ?_|refine awp_ret ?_|refine q_then ?_|refine q_block ?_|refine q_then_exit ?_|refine q_then_ret ?_|refine q_block_exit ?_|refine q_block_ret ?_|refine q_loop_exit ?_|refine q_loop_ret ?_)|((with_reducible refine q_block_other ?_ ?_);exact rfl))
        refine awp_imp ((imp_pub 7 3 rfl rfl (by decide) rfl rfl rfl (by decide)).trans (imp_id (e := [(6, .ptr 6 0 0), (7, .ptr 7 0 0)]) (h := [(6, (1, fun _ => .ones 26 7 fun i => .v ([Value.int .i64 0, .int .i64 0, .int .i64 0, .slice none 0 0, .slice none 0 0, .slice none 0 0, .slice none 0 0].getD i undef))), (7, (1, fun _ => .ones 26 7 (g.fA (.row true g.la fun i => .q (trA zs i)))))]) ?_ ?_)) ?_
        · exact eA
        · exact allh rfl (by decide) (bleo rfl fun _ _ => Le.id rfl) (fun _ _ => True.intro) (allh rfl (by decide) (le7 (Le.id rfl) (Le.id rfl) (Le.id rfl) (Le.id rfl) (Le.id rfl) (Le.id rfl) (Le.id rfl)) (fun i _ => g.fAok (by exact True.intro) i) True.intro)
        refine run0 ?_
        exact ⟨.inr rfl, _, Imp.refl _, .one (.agg rfl rfl rfl rfl (by decide) rfl rfl)⟩
    · have hB : trB zs = false := by
        unfold trB
        rw [decide_eq_true h0, decide_eq_false (show ¬ wthn (zs.getD 0 0) 2 = 0 from h)]; rfl
      rw [← fin hB]
      refine run0p ?_
      exact ⟨.inr rfl, _, Imp.refl _, .one (.agg rfl rfl rfl rfl (by decide) rfl rfl)⟩
  · have f0 : decide ((0 : Int) < zs.length) = false := decide_eq_false (by omega)
    have f1 : (decide ((0 : Int) < zs.length) == true) = false := by rw [f0]; rfl
    have hB : trB zs = false := by
      unfold trB
      rw [decide_eq_false h0]; rfl
    rw [← fin hB]
    refine run0p ?_
    refine awp_no rfl rfl ?_
    refine run0p ?_
    exact ⟨.inr rfl, _, Imp.refl _, .one (.agg rfl rfl rfl rfl (by decide) rfl rfl)⟩
end Go.Proofs.YtdnmoggifjlbiaaGreat.AM
/- Drawn Toeplitz systems: how long their numbers are; answers. -/
namespace Go.Proofs.YtdnmoggifjlbiaaGreat.AM
open Go.Proofs.YtdnmoggifjlbiaaGreat.PN
open Go.Proofs.YtdnmoggifjlbiaaGreat.LA (Mt S S_succ S_zero S_congr app app_congr app_sub app_mul app_add det unique)
set_option linter.unusedVariables false
set_option linter.unusedSimpArgs false
set_option maxRecDepth 8000
set_option maxHeartbeats 8000000
theorem tr_fq (zs : List Int) (i : Nat) : Fq 60 1200 (trA zs i) ∧ Bt (trA zs i) 5 := by
  obtain ⟨h1, h2⟩ := wthn_lt (a := if i < zs.length then (zs.getD i 0).tdiv 2 else (i : Int)) (n := 3) (by decide)
  unfold trA
  generalize wthn (if i < zs.length then (zs.getD i 0).tdiv 2 else (i : Int)) 3 = x at *
  have : x = 0 ∨ x = 1 ∨ x = 2 := by omega
  rcases this with rfl | rfl | rfl
  · exact ⟨⟨-60, by decide +kernel, by decide⟩, ⟨by decide +kernel, by decide +kernel⟩⟩
  · exact ⟨⟨0, by decide +kernel, by decide⟩, ⟨by decide +kernel, by decide +kernel⟩⟩
  · exact ⟨⟨60, by decide +kernel, by decide⟩, ⟨by decide +kernel, by decide +kernel⟩⟩
theorem mkt_A {n most : Int} {zs : List Int} {i : Nat} (hi : i < (mkt n zs most).la) : Fq 60 1200 ((mkt n zs most).A i) ∧ Bt ((mkt n zs most).A i) 5 := by
  show Fq 60 1200 (if trB zs then trA zs i else (mkg 0 n zs most).A i) ∧ Bt (if trB zs then trA zs i else (mkg 0 n zs most).A i) 5
  split
  · exact tr_fq zs i
  · have hi : i < cnA (mkK 0) (mkN n most) := hi
    show Fq 60 1200 (mkL zs _ _ _ 0 (0 + i)) ∧ Bt (mkL zs _ _ _ 0 (0 + i)) 5
    rw [Nat.zero_add, mkL_A hi]
    exact ⟨smal_fq _, rowq_bt zs i⟩
theorem mkt_n {n most : Int} {zs : List Int} (m1 : 1 ≤ most) : ((mkt n zs most).n : Int) ≤ most := by
  obtain ⟨b1, b2⟩ := wthn_lt (a := n) (n := most) (by omega)
  show ((mkN n most : Nat) : Int) ≤ most
  unfold mkN; omega
theorem ts_mkt {n most : Int} {zs bs : List Int} (m1 : 1 ≤ most) (m6 : most ≤ 6) : TS (mkt n zs most) (rowq bs) := by
  obtain ⟨o, k⟩ := mkt_ok (n := n) (zs := zs) m1 (show most ≤ 8 by omega)
  have hn := mkt_n (n := n) (zs := zs) m1
  have n1 := o.n1
  have hla : (mkt n zs most).la = 2 * (mkt n zs most).n - 1 := (ok_lens o).1 (.inl k)
  have key : ∀ i j, Fq 60 1200 (gec (mkt n zs most) i j) ∧ Bt (gec (mkt n zs most) i j) 5 := fun i j => by
    unfold gec
    split
    · rename_i h
      unfold gent; rw [k]
      exact mkt_A (by omega)
    · exact ⟨Fq.zero 60 |>.mono (by decide), Bt.zero.mono (by decide)⟩
  exact ⟨o, k, by omega, fun i j => (key i j).1, fun i j => (key i j).2, fun i => smal_fq _, fun i => rowq_bt bs i⟩
theorem ts_det {g : GD} {b : Nat → Rat} (t : TS g b) (hl : lstD (gent g) g.n = 0) : (∀ k, k < g.n → lvd (gent g) k ≠ 0) ∧ det g.n (gent g) ≠ 0 := by
  rcases lst_cases (toe_gent t.k) with ⟨_, h1, h2⟩ | ⟨K, _, h, _⟩
  · exact ⟨h1, h2⟩
  · omega
theorem ts_app {g : GD} {b : Nat → Rat} (t : TS g b) (hl : lstD (gent g) g.n = 0) : ∀ i, i < g.n → app g.n (gent g) (lvs (gent g) b g.n) i = b i :=
  lvs_app (toe_gent t.k) g.n (Nat.le_refl _) (ts_det t hl).1
theorem ts_same {g : GD} {b : Nat → Rat} (t : TS g b) (hl : lstD (gent g) g.n = 0) : ∀ i, i < g.n → lvs (gent g) b g.n i = bsx g.n (PR (gt g.n (gec g) b)) g.n i := by
  have hd := (ts_det t hl).2
  have h2 := (gt_nz (n := g.n) (F := gec g) (b := b) (by rw [gdet_det, det_gec (Nat.le_refl _)]; exact hd)).2.2
  refine unique hd fun i hi => ?_
  rw [ts_app t hl i hi, ← h2 i hi]
  exact S_gec hi
theorem ts_wt {g : GD} {b : Nat → Rat} (t : TS g b) (hl : lstD (gent g) g.n = 0) : ∀ i, i < g.n → Wt (lvs (gent g) b g.n i) 3 := fun i hi =>
  ans_wt (F := gent g) (b := b) (fun i j hi hj => by rw [← gec_in hi hj]; exact t.F i j) (fun i _ => t.bq i) t.n6 (ts_det t hl).2 (ts_app t hl) hi
theorem ts_bw {g : GD} {b : Nat → Rat} (t : TS g b) (i : Nat) : Wt (b i) 1 := (t.bt i).wt (by decide)
end Go.Proofs.YtdnmoggifjlbiaaGreat.AM
/- Laws of turned systems: what is known; Hankel ones that are drawn. -/
namespace Go.Proofs.YtdnmoggifjlbiaaGreat.AM
open Go Go.RowKit Go.Proofs.YtdnmoggifjlbiaaGreat.PN Go.Proofs.YtdnmoggifjlbiaaGreat.V
open Go.Proofs.YtdnmoggifjlbiaaGreat.LA (S S_succ S_zero S_congr S_rev app det unique)
set_option linter.unusedVariables false
set_option linter.unusedSimpArgs false
set_option maxRecDepth 8000
set_option maxHeartbeats 8000000
def kL (k : Nat) (x : Rat) : GD := ⟨k, 1, 0, 1, 0, 0, 0, fun _ => x, fun _ => 0, fun _ => 0, fun _ => 0⟩
theorem kL4_ok : (kL 4 1).OK := by
  refine ⟨by decide, by decide, by decide, by decide, by decide, fun h => (by cases h), fun _ => rfl, ?_, ⟨fun i _ => by show wt 1 ≤ 4; decide, fun i hi => absurd hi (Nat.not_lt_zero _), fun i hi => absurd hi (Nat.not_lt_zero _), fun i hi => absurd hi (Nat.not_lt_zero _)⟩, fun i hi j hj => absurd hj (Nat.not_lt_zero _)⟩
  intro i hi
  have hi4 : i = 0 ∨ i = 1 ∨ i = 2 ∨ i = 3 := by omega
  rcases hi4 with rfl | rfl | rfl | rfl <;> decide
theorem kL3_ok : (kL 3 3).OK := by
  refine ⟨by decide, by decide, by decide, by decide, by decide, fun h => (by cases h), fun _ => rfl, ?_, ⟨fun i _ => by show wt 3 ≤ 4; decide, fun i hi => absurd hi (Nat.not_lt_zero _), fun i hi => absurd hi (Nat.not_lt_zero _), fun i hi => absurd hi (Nat.not_lt_zero _)⟩, fun i hi j hj => absurd hj (Nat.not_lt_zero _)⟩
  intro i hi
  have hi4 : i = 0 ∨ i = 1 ∨ i = 2 ∨ i = 3 := by omega
  rcases hi4 with rfl | rfl | rfl | rfl <;> decide
theorem kL_args {S : Nat → Prop} {B : Nat} {β : Nat → Nat → Value} {w : World} {k : Nat} {x : Rat} {u : Nat → AV} {q : Nat → RA} (h0 : u 0 = .i k) (h1 : u 1 = .i 1) (h2 : u 2 = .i 0) (h3 : u 3 = .row false 1 q) (hq : q 0 = .q x) (h4 : u 4 = .v (.slice none 0 0)) (h5 : u 5 = .v (.slice none 0 0)) (h6 : u 6 = .v (.slice none 0 0)) : ∀ i, i < 7 → ∀ v, RV S B β w (u i) v → RV S B β w ((kL k x).f i) v := by
  intro i hi v hv
  match i, hi with
  | 0, _ => rw [h0] at hv; exact hv
  | 1, _ => rw [h1] at hv; exact hv
  | 2, _ => rw [h2] at hv; exact hv
  | 3, _ =>
    rw [h3] at hv
    refine rv_row (fun i hi => ?_) v hv
    have hi : i < 1 := hi
    obtain rfl : i = 0 := by omega
    exact hq
  | 4, _ => rw [h4] at hv; exact rv_nil0 v hv
  | 5, _ => rw [h5] at hv; exact rv_nil0 v hv
  | 6, _ => rw [h6] at hv; exact rv_nil0 v hv
theorem k_known12 : Has Tryz.prog 33 [] (.b true) := by
  have c1 := hs_int 1 (by decide) (by decide)
  have c3 := hs_int 3 (by decide) (by decide)
  have ct := t_toe_no kL4_ok (by decide)
  have cc : Has Tryz.prog 49 [(kL 3 3).v] (.ag 7 (fT 1 (.row true 1 fun i => .q ((gT (kL 3 3)).A i)))) := t_toe kL3_ok (by decide)
  generalize (gT (kL 3 3)).A = A at *
  refine has_of Tryz.func33 (by kernel_rfl) rfl Tryz.ntmps33 Tryz.results33 rfl rfl rfl ?_
  repeat(first|refine run1p ?_|((with_reducible apply st_call);exact rfl;exact rfl;exact rfl;first|(exact c1)|(exact c3)|(exact Has.agv (u' := (kL 4 1).f) (fun S B β w => kL_args rfl rfl rfl rfl rfl rfl rfl rfl) ct)|(exact Has.agv (u' := (kL 3 3).f) (fun S B β w => kL_args rfl rfl rfl rfl rfl rfl rfl rfl) cc))|((with_reducible apply st_callg);exact rfl;exact rfl;(first|exact rfl|assumption);exact rfl;exact rfl;exact rfl;first|(exact c1)|(exact c3)|(exact Has.agv (u' := (kL 4 1).f) (fun S B β w => kL_args rfl rfl rfl rfl rfl rfl rfl rfl) ct)|(exact Has.agv (u' := (kL 3 3).f) (fun S B β w => kL_args rfl rfl rfl rfl rfl rfl rfl rfl) cc)))
  exact ⟨.inr rfl, _, Imp.refl _, .one (.tmp rfl)⟩
/-- A Toeplitz system, taken for a Hankel one. -/
def gH (g : GD) : GD := { g with k := 2 }
theorem gH_ok {g : GD} (h : g.OK) (hk : g.k = 1) : (gH g).OK := by
  have r0 : g.r = 0 := h.r0 (by rw [hk]; rfl)
  refine ⟨show (1 : Nat) ≤ 2 by decide, show (2 : Nat) ≤ 7 by decide, h.n1, h.n8, h.r3, fun h => (by cases h), fun _ => r0, fun i hi => ?_, ⟨h.sm.A, h.sm.B, h.sm.G, h.sm.H⟩, h.ne⟩
  have l := h.len i hi
  have e : ∀ i, i < 4 → ∀ j, j < 3 → mpz (cmap (1 : Nat) (i : Nat)) j = mpz (cmap (2 : Nat) (i : Nat)) j := by decide
  have l : ((g.len i : Nat) : Int) = mpz (cmap (1 : Nat) (i : Nat)) 0 * g.n + mpz (cmap (1 : Nat) (i : Nat)) 1 * g.n * g.r + mpz (cmap (1 : Nat) (i : Nat)) 2 := by rw [hk] at l; exact l
  rw [e i hi 0 (by decide), e i hi 1 (by decide), e i hi 2 (by decide)] at l
  exact l
theorem gH_A {g : GD} : (gT (gH g)).A = g.A := funext fun i => show (if (2 : Nat) = 3 then g.A ((i + 1) % g.n) else g.A i) = g.A i from if_neg (by decide)
theorem gH_gent {g : GD} (hk : g.k = 1) (i j : Nat) : gent (gT (gH g)) i j = gent g i j := by
  unfold gent
  rw [hk]
  show (gT (gH g)).A (i + g.n - 1 - j) = g.A (i + g.n - 1 - j)
  rw [gH_A]
theorem gH_gec {g : GD} (hk : g.k = 1) (i j : Nat) : gec (gT (gH g)) i j = gec g i j := by
  unfold gec
  rw [gH_gent hk]; rfl
theorem ts_gH {g : GD} {b : Nat → Rat} (t : TS g b) : TS (gT (gH g)) b :=
  ⟨gT_ok (gH_ok t.ok t.k) (show (2 : Nat) ≤ 3 by decide), rfl, t.n6, fun i j => by rw [gH_gec t.k]; exact t.F i j, fun i j => by rw [gH_gec t.k]; exact t.Ft i j, t.bq, t.bt⟩
/-- A Hankel matrix is a Toeplitz one with its columns turned about. -/
theorem hank_toe {g : GD} (hk : g.k = 2) {i j : Nat} (hi : i < g.n) (hj : j < g.n) : gent g i j = gent (gT g) i (g.n - 1 - j) := by
  unfold gent
  rw [hk]
  show g.A (i + j) = if g.k = 3 then g.A ((i + g.n - 1 - (g.n - 1 - j) + 1) % g.n) else g.A (i + g.n - 1 - (g.n - 1 - j))
  rw [hk, if_neg (by decide)]
  congr 1; omega
theorem hank_app {g : GD} (hk : g.k = 2) {x : Nat → Rat} {i : Nat} (hi : i < g.n) : (S g.n fun j => gec g i j * x (g.n - 1 - j)) = app g.n (gent (gT g)) x i := by
  show _ = S g.n fun j => gent (gT g) i j * x j
  rw [← S_rev g.n fun j => gent (gT g) i j * x j]
  exact S_congr fun j hj => by rw [gec_in hi hj, hank_toe hk hi hj]
theorem k_hank {n most : Int} {zs : List Int} (hn : Fits .i64 n) (hz : AllFit zs) (m1 : 1 ≤ most) (m8 : most ≤ 8) : Has Tryz.prog 44 [.i n, .seq .i64 zs, .i most] (.ag 7 (gH (mkt n zs most)).ft) := by
  have m := k_mkt (n := n) (most := most) (zs := zs) hn hz m1 m8
  have hcl : (AV.ag 7 (gH (mkt n zs most)).ft).closed = true := rfl
  generalize mkt n zs most = g at *
  refine has_of Tryz.func44 (by kernel_rfl) rfl Tryz.ntmps44 Tryz.results44 rfl hcl rfl ?_
  repeat(first|refine run1p ?_|((with_reducible apply st_call);exact rfl;exact rfl;exact rfl;first|(exact m))|((with_reducible apply st_callg);exact rfl;exact rfl;(first|exact rfl|assumption);exact rfl;exact rfl;exact rfl;first|(exact m)))
  refine ⟨.inr rfl, stl [(6, .ptr 6 0 0)] [(6, (1, fun _ => .ones 26 7 (gH g).ft))], imp_id ?_ ?_, .one (.agg rfl rfl rfl rfl (by decide) rfl rfl)⟩
  · exact eA
  · exact allh rfl (by decide) (le7 (Le.id rfl) (Le.id rfl) (Le.id rfl) (Le.id rfl) (Le.id rfl) (Le.id rfl) (Le.id rfl)) (fun i _ => (gH g).ftok _ i) True.intro
end Go.Proofs.YtdnmoggifjlbiaaGreat.AM
/- Laws of turned systems: TurnedHankels, walked. -/
namespace Go.Proofs.YtdnmoggifjlbiaaGreat.AM
open Go Go.RowKit Go.Proofs.YtdnmoggifjlbiaaGreat.PN Go.Proofs.YtdnmoggifjlbiaaGreat.V
open Go.Proofs.YtdnmoggifjlbiaaGreat.LA (S S_succ S_zero S_congr app det unique)
set_option linter.unusedVariables false
set_option linter.unusedSimpArgs false
set_option maxRecDepth 8000
set_option maxHeartbeats 8000000
def lin6 : List Int := [0, 2, 3, 4, 5, 6]
theorem lin6_k (z : Int) : (0 ≤ lin6.getD (wthn z 6).toNat 0 ∧ lin6.getD (wthn z 6).toNat 0 ≤ 6) ∧ mkK (lin6.getD (wthn z 6).toNat 0) ≠ 2 := by
  obtain ⟨h1, h2⟩ := wthn_lt (a := z) (n := 6) (by decide)
  have key : ∀ k, k < 6 → (0 ≤ lin6.getD k 0 ∧ lin6.getD k 0 ≤ 6) ∧ mkK (lin6.getD k 0) ≠ 2 := by decide
  exact key _ (by omega)
theorem k_thankels {n kind : Int} {ns bs : List Int} (hn : Fits .i64 n) (hz : AllFit ns) (hb : AllFit bs) (hk : Fits .i64 kind) : Has Tryz.prog 10 [.i n, .seq .i64 ns, .seq .i64 bs, .i kind] (.b true) := by
  have m1 := k_hank (n := n) (most := 6) (zs := ns) hn hz (by decide) (by decide)
  have t0 := ts_mkt (n := n) (most := 6) (zs := ns) (bs := bs) (by decide) (by decide)
  have t := ts_gH t0
  have ok : (gH (mkt n ns 6)).OK := gH_ok t0.ok t0.k
  have ek : (gH (mkt n ns 6)).k = 2 := rfl
  generalize gH (mkt n ns 6) = g at *
  obtain ⟨⟨q1, q2⟩, pk⟩ := lin6_k kind
  have ekk : ([0, 2, 3, 4, 5, 6] : List Int).getD (wthn kind 6).toNat 0 = lin6.getD (wthn kind 6).toNat 0 := rfl
  obtain ⟨r1', r2'⟩ := wthn_lt (a := kind) (n := 6) (by decide)
  generalize lin6.getD (wthn kind 6).toNat 0 = kk at *
  have cw := k_within12 (a := kind) (n := 6) (by decide) (by decide)
  have m2 := k_mk (kind := kk) (n := n) (most := 3) (zs := ns) (by show _ ∧ _; omega) hn hz (by decide) (by decide)
  have p := mkg_ok (kind := kk) (n := n) (most := 3) (zs := ns) (by decide) (by decide)
  have pk : (mkg kk n ns 3).k ≠ 2 := pk
  generalize mkg kk n ns 3 = o at *
  have n8 := ok.n8; have n1 := ok.n1; have p8 := p.n8; have p1 := p.n1
  have r1 := k_row (zs := bs) (n := g.n) (by omega) hb
  have r2 := k_row (zs := bs) (n := o.n) (by omega) hb
  have r3 := k_row (zs := bs) (n := g.n + 1) (by omega) hb
  have sk : Has Tryz.prog 45 [o.v, .row false o.n fun i => .q (rowq bs i)] _ := t_hankel_no p (.inl pk)
  rw [if_neg pk] at sk
  have sl : Has Tryz.prog 45 [g.v, .row false (g.n + 1) fun i => .q (rowq bs i)] _ := t_hankel_no ok (.inr (by omega))
  rw [if_pos ek] at sl
  have rs := r12_hankel ok ek t
  have wb : ∀ i, i < g.n → wt (rowq bs i) ≤ 100 := fun i _ => Nat.le_trans (ts_bw t i).le (by decide)
  refine has_of Tryz.func10 (by kernel_rfl) rfl Tryz.ntmps10 Tryz.results10 rfl rfl rfl ?_
  repeat(first|refine run1p ?_|((with_reducible apply st_call);exact rfl;exact rfl;exact rfl;first|(exact k_known12))|((with_reducible apply st_callg);exact rfl;exact rfl;(first|exact rfl|assumption);exact rfl;exact rfl;exact rfl;first|(exact k_known12)))
  refine awp_no rfl rfl ?_
  rcases lst_cases (toe_gent t.k) with ⟨hl, h1, _⟩ | ⟨K, hK, hl, hd, hz'⟩
  · have hl : lstD (gent (gT g)) g.n = 0 := hl
    rw [if_pos hl] at rs
    have cs := t_hankel (b := rowq bs) ok ek wb h1
    have hx : ∀ i, i < g.n → lvs (gent (gT g)) (rowq bs) g.n i = bsx g.n (PR (gt g.n (gec (gT g)) (rowq bs))) g.n i := ts_same t hl
    have ha : ∀ i, i < g.n → app g.n (gent (gT g)) (lvs (gent (gT g)) (rowq bs) g.n) i = rowq bs i := ts_app t hl
    have hw : ∀ i, i < g.n → Wt (lvs (gent (gT g)) (rowq bs) g.n i) 3 := ts_wt t hl
    generalize lvs (gent (gT g)) (rowq bs) g.n = x at *
    generalize bsx g.n (PR (gt g.n (gec (gT g)) (rowq bs))) g.n = y at *
    have c1 := k_rowsb (n := g.n) (f := fun i => x (g.n - 1 - i)) (g := fun i => y (g.n - 1 - i)) (K := 3) (fun i hi => hw _ (by omega)) (by decide) (by decide) (by omega) (fun i hi => hx _ (by omega))
    have hsz : g.n * (300 + 3 + 1) ≤ 8 * (300 + 3 + 1) := Nat.mul_le_mul_right _ n8
    have wF : ∀ i j, Wt (gec g i j) 300 := fun i j => gec_wt ok i j
    have ce := Has.gec (g := g) (r7_applyb (F := gec g) (v := fun i => x (g.n - 1 - i)) (hf := wF) (fun i hi => hw _ (by omega)) (by decide) ⟨by omega, by decide⟩ n8 n8)
    have ha2 : ∀ i, i < g.n → (S g.n fun j => gec g i j * x (g.n - 1 - j)) = rowq bs i := fun i hi => (hank_app ek hi).trans (ha i hi)
    have c3 := k_rowsb (n := g.n) (f := fun i => S g.n fun j => gec g i j * x (g.n - 1 - j)) (g := rowq bs) (K := 3) (fun i hi => by rw [ha2 i hi]; exact (ts_bw t i).mono (by decide)) (by decide) (by decide) (by omega) ha2
    repeat(first|refine run1p ?_|((with_reducible apply st_call);exact rfl;exact rfl;exact rfl;first|(exact m1)|(exact r1)|(exact Has.ag (u' := g.f) (g7 rfl rfl rfl rfl rfl rfl rfl) cs)|(exact Has.ag (u' := g.f) (g7 rfl rfl rfl rfl rfl rfl rfl) rs)|(exact c1)|(exact Has.ag (u' := g.f) (g7 rfl rfl rfl rfl rfl rfl rfl) (r5_expand ok))|(exact ce)|(exact c3))|((with_reducible apply st_callg);exact rfl;exact rfl;(first|exact rfl|assumption);exact rfl;exact rfl;exact rfl;first|(exact m1)|(exact r1)|(exact Has.ag (u' := g.f) (g7 rfl rfl rfl rfl rfl rfl rfl) cs)|(exact Has.ag (u' := g.f) (g7 rfl rfl rfl rfl rfl rfl rfl) rs)|(exact c1)|(exact Has.ag (u' := g.f) (g7 rfl rfl rfl rfl rfl rfl rfl) (r5_expand ok))|(exact ce)|(exact c3)))
    refine awp_no rfl rfl ?_
    repeat(first|refine run1p ?_|((with_reducible apply st_call);exact rfl;exact rfl;exact rfl;first|(exact cw))|((with_reducible apply st_callg);exact rfl;exact rfl;(first|exact rfl|assumption);exact rfl;exact rfl;exact rfl;first|(exact cw)))
    rw [ekk]
    repeat(first|refine run1p ?_|((with_reducible apply st_call);exact rfl;exact rfl;exact rfl;first|(exact m2)|(exact r2)|(exact r3)|(exact Has.ag (u' := o.f) (g7 rfl rfl rfl rfl rfl rfl rfl) sk)|(exact Has.ag (u' := g.f) (g7 rfl rfl rfl rfl rfl rfl rfl) sl))|((with_reducible apply st_callg);exact rfl;exact rfl;(first|exact rfl|assumption);exact rfl;exact rfl;exact rfl;first|(exact m2)|(exact r2)|(exact r3)|(exact Has.ag (u' := o.f) (g7 rfl rfl rfl rfl rfl rfl rfl) sk)|(exact Has.ag (u' := g.f) (g7 rfl rfl rfl rfl rfl rfl rfl) sl)))
    exact ⟨.inr rfl, _, Imp.refl _, .one (.tmp rfl)⟩
  · have hl : lstD (gent (gT g)) g.n = K + 1 := hl
    rw [if_neg (by omega), hl] at rs
    have cs := t_hankel_break (b := rowq bs) ok ek wb hK hd hz'
    have c1 : Has Tryz.prog 19 [.v (.slice none 0 0), .row false 0 fun _ => .q 0] (.b true) := Has.args (k_rows (n := 0) (f := fun _ => 0) (g := fun _ => 0) (hf := fun _ => Wt.zero) (by decide) (by decide) (fun _ _ => rfl)) fun S B β w vs hv => rvs_cons rv_nil0 (fun us hu => hu) hv
    have fK : decide (((K + 1 : Nat) : Int) ≠ ((K + 1 : Nat) : Int)) = false := decide_eq_false fun h => h rfl
    have gK : (decide (((K + 1 : Nat) : Int) ≠ ((K + 1 : Nat) : Int)) == false) = true := by rw [fK]; rfl
    repeat(first|refine run1p ?_|((with_reducible apply st_call);exact rfl;exact rfl;exact rfl;first|(exact m1)|(exact r1)|(exact Has.ag (u' := g.f) (g7 rfl rfl rfl rfl rfl rfl rfl) cs)|(exact Has.ag (u' := g.f) (g7 rfl rfl rfl rfl rfl rfl rfl) rs)|(exact c1))|((with_reducible apply st_callg);exact rfl;exact rfl;(first|exact rfl|assumption);exact rfl;exact rfl;exact rfl;first|(exact m1)|(exact r1)|(exact Has.ag (u' := g.f) (g7 rfl rfl rfl rfl rfl rfl rfl) cs)|(exact Has.ag (u' := g.f) (g7 rfl rfl rfl rfl rfl rfl rfl) rs)|(exact c1)))
    refine awp_no rfl rfl ?_
    repeat(first|refine run1p ?_|((with_reducible apply st_call);exact rfl;exact rfl;exact rfl;first|(exact cw))|((with_reducible apply st_callg);exact rfl;exact rfl;(first|exact rfl|assumption);exact rfl;exact rfl;exact rfl;first|(exact cw)))
    rw [ekk]
    repeat(first|refine run1p ?_|((with_reducible apply st_call);exact rfl;exact rfl;exact rfl;first|(exact m2)|(exact r2)|(exact r3)|(exact Has.ag (u' := o.f) (g7 rfl rfl rfl rfl rfl rfl rfl) sk)|(exact Has.ag (u' := g.f) (g7 rfl rfl rfl rfl rfl rfl rfl) sl))|((with_reducible apply st_callg);exact rfl;exact rfl;(first|exact rfl|assumption);exact rfl;exact rfl;exact rfl;first|(exact m2)|(exact r2)|(exact r3)|(exact Has.ag (u' := o.f) (g7 rfl rfl rfl rfl rfl rfl rfl) sk)|(exact Has.ag (u' := g.f) (g7 rfl rfl rfl rfl rfl rfl rfl) sl)))
    exact ⟨.inr rfl, _, Imp.refl _, .one (.tmp rfl)⟩
end Go.Proofs.YtdnmoggifjlbiaaGreat.AM

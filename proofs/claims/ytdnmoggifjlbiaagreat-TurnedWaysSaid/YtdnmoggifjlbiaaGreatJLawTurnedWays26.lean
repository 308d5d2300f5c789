/- Joined texts, 26: MkT LvT TuE TuG LawTb. -/
import Derived.Test.YtdnmoggifjlbiaaGreatJLawTurnedWays24
import Derived.Test.YtdnmoggifjlbiaaGreatJLawTurnedWays20
import Derived.Test.YtdnmoggifjlbiaaGreatJLawTurnedWays25
set_option linter.unusedVariables false
set_option linter.unusedSimpArgs false
/- Systems that are drawn: Toeplitz ones with small whole numbers now and then. -/
namespace Go.Proofs.YtdnmoggifjlbiaaGreat.AM
open Go Go.RowKit Go.Proofs.YtdnmoggifjlbiaaGreat.PN Go.Proofs.YtdnmoggifjlbiaaGreat.V
open Go.Proofs.YtdnmoggifjlbiaaGreat.LA (S S_succ S_zero S_congr)
set_option linter.unusedVariables false
set_option linter.unusedSimpArgs false
set_option maxRecDepth 8000
set_option maxHeartbeats 8000000
/-- Small whole numbers. -/
def trA (zs : List Int) (i : Nat) : Rat := ((wthn (if i < zs.length then (zs.getD i 0).tdiv 2 else (i : Int)) 3 - 1 : Int) : Rat)
def trB (zs : List Int) : Bool := decide (0 < zs.length) && decide (wthn (zs.getD 0 0) 2 = 0)
def mkt (n : Int) (zs : List Int) (most : Int) : GD := let g := mkg 0 n zs most; { g with A := fun i => if trB zs then trA zs i else g.A i }
theorem tr_wt (zs : List Int) (i : Nat) : wt (trA zs i) ≤ 1 := by
  obtain ⟨h1, h2⟩ := wthn_lt (a := if i < zs.length then (zs.getD i 0).tdiv 2 else (i : Int)) (n := 3) (by decide)
  unfold trA
  generalize wthn (if i < zs.length then (zs.getD i 0).tdiv 2 else (i : Int)) 3 = x at *
  have : x = 0 ∨ x = 1 ∨ x = 2 := by omega
  rcases this with rfl | rfl | rfl <;> decide
theorem mkt_ok {n most : Int} {zs : List Int} (m1 : 1 ≤ most) (m8 : most ≤ 8) : (mkt n zs most).OK ∧ (mkt n zs most).k = 1 := by
  have o := mkg_ok (kind := 0) (n := n) (zs := zs) m1 m8
  refine ⟨⟨o.k1, o.k7, o.n1, o.n8, o.r3, o.rk, o.r0, o.len, ⟨fun i hi => ?_, o.sm.B, o.sm.G, o.sm.H⟩, fun i hi j hj => ?_⟩, rfl⟩
  · show wt (if trB zs then trA zs i else (mkg 0 n zs most).A i) ≤ 4
    split
    · exact Nat.le_trans (tr_wt zs i) (by decide)
    · exact o.sm.A i hi
  · have l1 := o.len 1 (by omega)
    have hk : (mkg 0 n zs most).k = 1 := rfl
    have hj : j < (mkg 0 n zs most).lb := hj
    have l1 : (((mkg 0 n zs most).lb : Nat) : Int) = mpz (cmap (1 : Nat) (1 : Nat)) 0 * (mkg 0 n zs most).n + mpz (cmap (1 : Nat) (1 : Nat)) 1 * (mkg 0 n zs most).n * (mkg 0 n zs most).r + mpz (cmap (1 : Nat) (1 : Nat)) 2 := l1
    have c : ∀ (x y z n r : Int), x = 0 → y = 0 → z = 0 → x * n + y * n * r + z = 0 := by intro x y z n r hx hy hz; subst hx; subst hy; subst hz; simp
    rw [c _ _ _ _ _ (by decide) (by decide) (by decide)] at l1
    omega
/-- A system's struct with another first row. -/
def GD.fA (g : GD) (x : AV) (i : Nat) : AV := [AV.i g.k, .i g.n, .i g.r, x, .row true g.lb (fun i => .q (g.B i)), .row true g.lg (fun i => .q (g.G i)), .row true g.lh (fun i => .q (g.H i))].getD i (.v undef)
theorem GD.fAok (g : GD) {x : AV} {U : Nat → Bool} (hx : x.ok U) : ∀ i, (g.fA x i).ok U
  | 0 | 1 | 2 | 4 | 5 | 6 => trivial
  | 3 => hx
  | _ + 7 => trivial
theorem k_mkt {n most : Int} {zs : List Int} (hn : Fits .i64 n) (hz : AllFit zs) (m1 : 1 ≤ most) (m8 : most ≤ 8) : Has Tryz.prog 80 [.i n, .seq .i64 zs, .i most] (.ag 7 (mkt n zs most).ft) := by
  have m := k_mk (kind := 0) (n := n) (most := most) (zs := zs) (by show _ ∧ _; omega) hn hz m1 m8
  have o := mkg_ok (kind := 0) (n := n) (zs := zs) m1 m8
  have o2 := (mkt_ok (n := n) (zs := zs) m1 m8).1
  have hk : (mkg 0 n zs most).k = 1 := rfl
  have hT : ∀ i, trB zs = true → (mkt n zs most).A i = trA zs i := fun i h => if_pos h
  have hT2 : ∀ i, trB zs = false → (mkt n zs most).A i = (mkg 0 n zs most).A i := fun i h => if_neg (by rw [h]; decide)
  have e1 : (mkt n zs most).k = (mkg 0 n zs most).k := rfl
  have e2 : (mkt n zs most).n = (mkg 0 n zs most).n := rfl
  have e3 : (mkt n zs most).r = (mkg 0 n zs most).r := rfl
  have e4 : (mkt n zs most).la = (mkg 0 n zs most).la := rfl
  have e5 : (mkt n zs most).lb = (mkg 0 n zs most).lb := rfl
  have e6 : (mkt n zs most).lg = (mkg 0 n zs most).lg := rfl
  have e7 : (mkt n zs most).lh = (mkg 0 n zs most).lh := rfl
  have e8 : (mkt n zs most).B = (mkg 0 n zs most).B := rfl
  have e9 : (mkt n zs most).G = (mkg 0 n zs most).G := rfl
  have e10 : (mkt n zs most).H = (mkg 0 n zs most).H := rfl
  have out : ∀ t : GD, t.k = (mkg 0 n zs most).k → t.n = (mkg 0 n zs most).n → t.r = (mkg 0 n zs most).r → t.la = (mkg 0 n zs most).la → t.lb = (mkg 0 n zs most).lb → t.lg = (mkg 0 n zs most).lg → t.lh = (mkg 0 n zs most).lh → t.B = (mkg 0 n zs most).B → t.G = (mkg 0 n zs most).G → t.H = (mkg 0 n zs most).H → t.ft = (mkg 0 n zs most).fA (.row true t.la fun i => .q (t.A i)) := fun t a1 a2 a3 a4 a5 a6 a7 a8 a9 a10 => by
    funext i
    unfold GD.ft GD.fA
    rw [a1, a2, a3, a5, a6, a7, a8, a9, a10]
  have hft := out _ e1 e2 e3 e4 e5 e6 e7 e8 e9 e10
  rw [hft]
  clear out hft e1 e2 e3 e5 e6 e7 e8 e9 e10
  rw [e4]
  clear e4
  have hla := (ok_lens o).1 (.inl hk)
  have hAq : (fun i => RA.q ((mkt n zs most).A i)) = fun i => RA.q (if trB zs then trA zs i else (mkg 0 n zs most).A i) := rfl
  rw [hAq]
  clear hAq hT hT2 o2
  generalize mkg 0 n zs most = g at *
  have n8 := o.n8; have n1 := o.n1
  refine has_of Tryz.func80 (by kernel_rfl) rfl Tryz.ntmps80 Tryz.results80 rfl rfl rfl ?_
  repeat(first|refine run1p ?_|((with_reducible apply st_call);exact rfl;exact rfl;exact rfl;first|(exact m))|((with_reducible apply st_callg);exact rfl;exact rfl;(first|exact rfl|assumption);exact rfl;exact rfl;exact rfl;first|(exact m)))
  have fin : trB zs = false → g.ft = g.fA (.row true g.la fun i => .q (if trB zs then trA zs i else g.A i)) := fun h => by
    rw [h]; rfl
  by_cases h0 : 0 < zs.length
  · have f0 : decide ((0 : Int) < zs.length) = true := decide_eq_true (by omega)
    have f1 : (decide ((0 : Int) < zs.length) == true) = true := by rw [f0]; rfl
    repeat(first|refine run1p ?_|((with_reducible apply st_call);exact rfl;exact rfl;exact rfl;first|(exact k_within10 (by decide) (by decide)))|((with_reducible apply st_callg);exact rfl;exact rfl;(first|exact rfl|assumption);exact rfl;exact rfl;exact rfl;first|(exact k_within10 (by decide) (by decide))))
    refine awp_if rfl (fun h => ?_) (fun h => ?_)
    · have hB : trB zs = true := by
        unfold trB
        rw [decide_eq_true h0, decide_eq_true (show wthn (zs.getD 0 0) 2 = 0 from h)]; rfl
      have hq : ∀ i, RA.q (if trB zs then trA zs i else g.A i) = .q (trA zs i) := fun i => by rw [if_pos hB]
      rw [show (fun i => RA.q (if trB zs then trA zs i else g.A i)) = fun i => RA.q (trA zs i) from funext hq]
      refine run0p ?_
      refine awp_loop (fun m' s => ∃ i, i ≤ 2 * g.n - 1 ∧ m' = 2 * g.n - 1 - i ∧ s = stl [(1, .seq .i64 zs), (6, .ptr 6 0 0), (7, .ptr 7 0 0), (8, .i (i : Int))] [(70, (1, fun _ => .rats i fun i => .q (trA zs i))), (6, (1, fun _ => .ones 26 7 fun i => .v ([Value.int .i64 0, .int .i64 0, .int .i64 0, .slice none 0 0, .slice none 0 0, .slice none 0 0, .slice none 0 0].getD i undef))), (7, (1, fun _ => .ones 26 7 (g.fA (.own 70 0))))]) (2 * g.n - 1) _ ((imp_nilf 70 7 3 (fun i => .q (trA zs i)) rfl rfl (by decide) rfl rfl).trans (imp_id ?_ ?_)) ⟨0, Nat.zero_le _, rfl, rfl⟩ ?_
      · exact eA
      · exact allh rfl (by decide) (blen rfl fun i hi => absurd hi (Nat.not_lt_zero _)) True.intro (allh rfl (by decide) (bleo rfl fun _ _ => Le.id rfl) (fun _ _ => True.intro) (allh rfl (by decide) (le7 (Le.id rfl) (Le.id rfl) (Le.id rfl) (Le.id rfl) (Le.id rfl) (Le.id rfl) (Le.id rfl)) (fun i _ => g.fAok (by exact rfl) i) True.intro))
      rintro m' s ⟨i, hi, rfl, rfl⟩
      refine run0 ?_
      refine awp_if rfl (fun h1 => ?_) (fun h1 => ?_)
      · have hin : i < 2 * g.n - 1 := by omega
        refine run0 ?_
        refine awp_if rfl (fun h2 => ?_) (fun h2 => ?_)
        · have hl : i < zs.length := by omega
          have hf := hz i hl
          have hf : -9223372036854775808 ≤ zs.getD i 0 ∧ zs.getD i 0 ≤ 9223372036854775807 := hf
          obtain ⟨h5a, h5b⟩ : -9223372036854775808 ≤ (zs.getD i 0).tdiv 2 ∧ (zs.getD i 0).tdiv 2 ≤ 9223372036854775807 := by
            have e1 : ((zs.getD i 0).tdiv 2).natAbs = (zs.getD i 0).natAbs / 2 := Int.natAbs_tdiv _ 2
            omega
          obtain ⟨t1, t2⟩ := wthn_lt (a := (zs.getD i 0).tdiv 2) (n := 3) (by decide)
          have cw := k_within10 (a := (zs.getD i 0).tdiv 2) (n := 3) (by decide) (by decide)
          have ci : Has Tryz.prog 22 [.i (wthn ((zs.getD i 0).tdiv 2) 3 - 1)] (.q (trA zs i)) := by
            unfold trA; rw [if_pos hl]
            exact hs_int _ (by omega) (by omega)
          repeat(first|refine run1 ?_|((with_reducible apply st_call);exact rfl;exact rfl;exact rfl;first|(exact cw)|(exact ci))|((with_reducible apply st_callg);exact rfl;exact rfl;(first|exact rfl|assumption);exact rfl;exact rfl;exact rfl;first|(exact cw)|(exact ci)))
          refine q_loop (m' := 2 * g.n - 1 - (i + 1)) (by omega) (fld_next (t := 70) (a := 50) rfl rfl (glue_one rfl) (by exact True.intro) rfl rfl ?_ ?_) ⟨i + 1, by omega, rfl, rfl⟩
          · exact alle rfl (Le.eq rfl rfl) True.intro (alle rfl (Le.ptr (s1_ne (by decide))) rfl (alle rfl (Le.ptr (s1_ne (by decide))) rfl (alle rfl (Le.eq rfl rfl) True.intro True.intro)))
          · exact allh rfl Nat.zero_lt_one (bleo rfl fun _ _ => Le.eq rfl rfl) (fun _ _ => True.intro) (allh rfl Nat.zero_lt_one (le7 (Le.eq rfl rfl) (Le.eq rfl rfl) (Le.eq rfl rfl) (Le.own s1_t) (Le.eq rfl rfl) (Le.eq rfl rfl) (Le.eq rfl rfl)) (fun i _ => g.fAok (by exact rfl) i) True.intro)
        · have hl : ¬ i < zs.length := by omega
          obtain ⟨t1, t2⟩ := wthn_lt (a := (i : Int)) (n := 3) (by decide)
          have cw := k_within10 (a := (i : Int)) (n := 3) (by decide) (by decide)
          have ci : Has Tryz.prog 22 [.i (wthn (i : Int) 3 - 1)] (.q (trA zs i)) := by
            unfold trA; rw [if_neg hl]
            exact hs_int _ (by omega) (by omega)
          repeat(first|refine run1 ?_|((with_reducible apply st_call);exact rfl;exact rfl;exact rfl;first|(exact cw)|(exact ci))|((with_reducible apply st_callg);exact rfl;exact rfl;(first|exact rfl|assumption);exact rfl;exact rfl;exact rfl;first|(exact cw)|(exact ci)))
          refine q_loop (m' := 2 * g.n - 1 - (i + 1)) (by omega) (fld_next (t := 70) (a := 50) rfl rfl (glue_one rfl) (by exact True.intro) rfl rfl ?_ ?_) ⟨i + 1, by omega, rfl, rfl⟩
          · exact alle rfl (Le.eq rfl rfl) True.intro (alle rfl (Le.ptr (s1_ne (by decide))) rfl (alle rfl (Le.ptr (s1_ne (by decide))) rfl (alle rfl (Le.eq rfl rfl) True.intro True.intro)))
          · exact allh rfl Nat.zero_lt_one (bleo rfl fun _ _ => Le.eq rfl rfl) (fun _ _ => True.intro) (allh rfl Nat.zero_lt_one (le7 (Le.eq rfl rfl) (Le.eq rfl rfl) (Le.eq rfl rfl) (Le.own s1_t) (Le.eq rfl rfl) (Le.eq rfl rfl) (Le.eq rfl rfl)) (fun i _ => g.fAok (by exact rfl) i) True.intro)
      · have ei : i = g.la := by omega
        subst ei
        repeat(first|(with_reducible first|refine awp_seq ?_|refine awp_block ?_|refine awp_skip ?_|refine awp_exit ?_|refine awp_ret ?_|refine q_then ?_|refine q_block ?_|refine q_then_exit ?_|refine q_then_ret ?_|refine q_block_exit ?_|refine q_block_ret ?_|refine q_loop_exit ?_|refine q_loop_ret ?_)|((with_reducible refine q_block_other ?_ ?_);exact rfl))
        refine awp_imp ((imp_pub 7 3 rfl rfl (by decide) rfl rfl rfl (by decide)).trans (imp_id (e := [(6, .ptr 6 0 0), (7, .ptr 7 0 0)]) (h := [(6, (1, fun _ => .ones 26 7 fun i => .v ([Value.int .i64 0, .int .i64 0, .int .i64 0, .slice none 0 0, .slice none 0 0, .slice none 0 0, .slice none 0 0].getD i undef))), (7, (1, fun _ => .ones 26 7 (g.fA (.row true g.la fun i => .q (trA zs i)))))]) ?_ ?_)) ?_
        · exact eA
        · exact allh rfl (by decide) (bleo rfl fun _ _ => Le.id rfl) (fun _ _ => True.intro) (allh rfl (by decide) (le7 (Le.id rfl) (Le.id rfl) (Le.id rfl) (Le.id rfl) (Le.id rfl) (Le.id rfl) (Le.id rfl)) (fun i _ => g.fAok (by exact True.intro) i) True.intro)
        refine run0 ?_
        exact ⟨.inr rfl, _, Imp.refl _, .one (.agg rfl rfl rfl rfl (by decide) rfl rfl)⟩
    · have hB : trB zs = false := by
        unfold trB
        rw [decide_eq_true h0, decide_eq_false (show ¬ wthn (zs.getD 0 0) 2 = 0 from h)]; rfl
      rw [← fin hB]
      refine run0p ?_
      exact ⟨.inr rfl, _, Imp.refl _, .one (.agg rfl rfl rfl rfl (by decide) rfl rfl)⟩
  · have f0 : decide ((0 : Int) < zs.length) = false := decide_eq_false (by omega)
    have f1 : (decide ((0 : Int) < zs.length) == true) = false := by rw [f0]; rfl
    have hB : trB zs = false := by
      unfold trB
      rw [decide_eq_false h0]; rfl
    rw [← fin hB]
    refine run0p ?_
    refine awp_no rfl rfl ?_
    refine run0p ?_
    exact ⟨.inr rfl, _, Imp.refl _, .one (.agg rfl rfl rfl rfl (by decide) rfl rfl)⟩
end Go.Proofs.YtdnmoggifjlbiaaGreat.AM
/- Drawn Toeplitz systems: how long their numbers are; answers. -/
namespace Go.Proofs.YtdnmoggifjlbiaaGreat.AM
open Go.Proofs.YtdnmoggifjlbiaaGreat.PN
open Go.Proofs.YtdnmoggifjlbiaaGreat.LA (Mt S S_succ S_zero S_congr app app_congr app_sub app_mul app_add det unique)
set_option linter.unusedVariables false
set_option linter.unusedSimpArgs false
set_option maxRecDepth 8000
set_option maxHeartbeats 8000000
theorem tr_fq (zs : List Int) (i : Nat) : Fq 60 1200 (trA zs i) ∧ Bt (trA zs i) 5 := by
  obtain ⟨h1, h2⟩ := wthn_lt (a := if i < zs.length then (zs.getD i 0).tdiv 2 else (i : Int)) (n := 3) (by decide)
  unfold trA
  generalize wthn (if i < zs.length then (zs.getD i 0).tdiv 2 else (i : Int)) 3 = x at *
  have : x = 0 ∨ x = 1 ∨ x = 2 := by omega
  rcases this with rfl | rfl | rfl
  · exact ⟨⟨-60, by decide +kernel, by decide⟩, ⟨by decide +kernel, by decide +kernel⟩⟩
  · exact ⟨⟨0, by decide +kernel, by decide⟩, ⟨by decide +kernel, by decide +kernel⟩⟩
  · exact ⟨⟨60, by decide +kernel, by decide⟩, ⟨by decide +kernel, by decide +kernel⟩⟩
theorem mkt_A {n most : Int} {zs : List Int} {i : Nat} (hi : i < (mkt n zs most).la) : Fq 60 1200 ((mkt n zs most).A i) ∧ Bt ((mkt n zs most).A i) 5 := by
  show Fq 60 1200 (if trB zs then trA zs i else (mkg 0 n zs most).A i) ∧ Bt (if trB zs then trA zs i else (mkg 0 n zs most).A i) 5
  split
  · exact tr_fq zs i
  · have hi : i < cnA (mkK 0) (mkN n most) := hi
    show Fq 60 1200 (mkL zs _ _ _ 0 (0 + i)) ∧ Bt (mkL zs _ _ _ 0 (0 + i)) 5
    rw [Nat.zero_add, mkL_A hi]
    exact ⟨smal_fq _, rowq_bt zs i⟩
theorem mkt_n {n most : Int} {zs : List Int} (m1 : 1 ≤ most) : ((mkt n zs most).n : Int) ≤ most := by
  obtain ⟨b1, b2⟩ := wthn_lt (a := n) (n := most) (by omega)
  show ((mkN n most : Nat) : Int) ≤ most
  unfold mkN; omega
theorem ts_mkt {n most : Int} {zs bs : List Int} (m1 : 1 ≤ most) (m6 : most ≤ 6) : TS (mkt n zs most) (rowq bs) := by
  obtain ⟨o, k⟩ := mkt_ok (n := n) (zs := zs) m1 (show most ≤ 8 by omega)
  have hn := mkt_n (n := n) (zs := zs) m1
  have n1 := o.n1
  have hla : (mkt n zs most).la = 2 * (mkt n zs most).n - 1 := (ok_lens o).1 (.inl k)
  have key : ∀ i j, Fq 60 1200 (gec (mkt n zs most) i j) ∧ Bt (gec (mkt n zs most) i j) 5 := fun i j => by
    unfold gec
    split
    · rename_i h
      unfold gent; rw [k]
      exact mkt_A (by omega)
    · exact ⟨Fq.zero 60 |>.mono (by decide), Bt.zero.mono (by decide)⟩
  exact ⟨o, k, by omega, fun i j => (key i j).1, fun i j => (key i j).2, fun i => smal_fq _, fun i => rowq_bt bs i⟩
theorem ts_det {g : GD} {b : Nat → Rat} (t : TS g b) (hl : lstD (gent g) g.n = 0) : (∀ k, k < g.n → lvd (gent g) k ≠ 0) ∧ det g.n (gent g) ≠ 0 := by
  rcases lst_cases (toe_gent t.k) with ⟨_, h1, h2⟩ | ⟨K, _, h, _⟩
  · exact ⟨h1, h2⟩
  · omega
theorem ts_app {g : GD} {b : Nat → Rat} (t : TS g b) (hl : lstD (gent g) g.n = 0) : ∀ i, i < g.n → app g.n (gent g) (lvs (gent g) b g.n) i = b i :=
  lvs_app (toe_gent t.k) g.n (Nat.le_refl _) (ts_det t hl).1
theorem ts_same {g : GD} {b : Nat → Rat} (t : TS g b) (hl : lstD (gent g) g.n = 0) : ∀ i, i < g.n → lvs (gent g) b g.n i = bsx g.n (PR (gt g.n (gec g) b)) g.n i := by
  have hd := (ts_det t hl).2
  have h2 := (gt_nz (n := g.n) (F := gec g) (b := b) (by rw [gdet_det, det_gec (Nat.le_refl _)]; exact hd)).2.2
  refine unique hd fun i hi => ?_
  rw [ts_app t hl i hi, ← h2 i hi]
  exact S_gec hi
theorem ts_wt {g : GD} {b : Nat → Rat} (t : TS g b) (hl : lstD (gent g) g.n = 0) : ∀ i, i < g.n → Wt (lvs (gent g) b g.n i) 3 := fun i hi =>
  ans_wt (F := gent g) (b := b) (fun i j hi hj => by rw [← gec_in hi hj]; exact t.F i j) (fun i _ => t.bq i) t.n6 (ts_det t hl).2 (ts_app t hl) hi
theorem ts_bw {g : GD} {b : Nat → Rat} (t : TS g b) (i : Nat) : Wt (b i) 1 := (t.bt i).wt (by decide)
end Go.Proofs.YtdnmoggifjlbiaaGreat.AM
/- Laws of turned systems: what is known; Hankel ones that are drawn. -/
namespace Go.Proofs.YtdnmoggifjlbiaaGreat.AM
open Go Go.RowKit Go.Proofs.YtdnmoggifjlbiaaGreat.PN Go.Proofs.YtdnmoggifjlbiaaGreat.V
open Go.Proofs.YtdnmoggifjlbiaaGreat.LA (S S_succ S_zero S_congr S_rev app det unique)
set_option linter.unusedVariables false
set_option linter.unusedSimpArgs false
set_option maxRecDepth 8000
set_option maxHeartbeats 8000000
def kL (k : Nat) (x : Rat) : GD := ⟨k, 1, 0, 1, 0, 0, 0, fun _ => x, fun _ => 0, fun _ => 0, fun _ => 0⟩
theorem kL4_ok : (kL 4 1).OK := by
  refine ⟨by decide, by decide, by decide, by decide, by decide, fun h => (by cases h), fun _ => rfl, ?_, ⟨fun i _ => by show wt 1 ≤ 4; decide, fun i hi => absurd hi (Nat.not_lt_zero _), fun i hi => absurd hi (Nat.not_lt_zero _), fun i hi => absurd hi (Nat.not_lt_zero _)⟩, fun i hi j hj => absurd hj (Nat.not_lt_zero _)⟩
  intro i hi
  have hi4 : i = 0 ∨ i = 1 ∨ i = 2 ∨ i = 3 := by omega
  rcases hi4 with rfl | rfl | rfl | rfl <;> decide
theorem kL3_ok : (kL 3 3).OK := by
  refine ⟨by decide, by decide, by decide, by decide, by decide, fun h => (by cases h), fun _ => rfl, ?_, ⟨fun i _ => by show wt 3 ≤ 4; decide, fun i hi => absurd hi (Nat.not_lt_zero _), fun i hi => absurd hi (Nat.not_lt_zero _), fun i hi => absurd hi (Nat.not_lt_zero _)⟩, fun i hi j hj => absurd hj (Nat.not_lt_zero _)⟩
  intro i hi
  have hi4 : i = 0 ∨ i = 1 ∨ i = 2 ∨ i = 3 := by omega
  rcases hi4 with rfl | rfl | rfl | rfl <;> decide
theorem kL_args {S : Nat → Prop} {B : Nat} {β : Nat → Nat → Value} {w : World} {k : Nat} {x : Rat} {u : Nat → AV} {q : Nat → RA} (h0 : u 0 = .i k) (h1 : u 1 = .i 1) (h2 : u 2 = .i 0) (h3 : u 3 = .row false 1 q) (hq : q 0 = .q x) (h4 : u 4 = .v (.slice none 0 0)) (h5 : u 5 = .v (.slice none 0 0)) (h6 : u 6 = .v (.slice none 0 0)) : ∀ i, i < 7 → ∀ v, RV S B β w (u i) v → RV S B β w ((kL k x).f i) v := by
  intro i hi v hv
  match i, hi with
  | 0, _ => rw [h0] at hv; exact hv
  | 1, _ => rw [h1] at hv; exact hv
  | 2, _ => rw [h2] at hv; exact hv
  | 3, _ =>
    rw [h3] at hv
    refine rv_row (fun i hi => ?_) v hv
    have hi : i < 1 := hi
    obtain rfl : i = 0 := by omega
    exact hq
  | 4, _ => rw [h4] at hv; exact rv_nil0 v hv
  | 5, _ => rw [h5] at hv; exact rv_nil0 v hv
  | 6, _ => rw [h6] at hv; exact rv_nil0 v hv
theorem k_known12 : Has Tryz.prog 33 [] (.b true) := by
  have c1 := hs_int 1 (by decide) (by decide)
  have c3 := hs_int 3 (by decide) (by decide)
  have ct := t_toe_no kL4_ok (by decide)
  have cc : Has Tryz.prog 49 [(kL 3 3).v] (.ag 7 (fT 1 (.row true 1 fun i => .q ((gT (kL 3 3)).A i)))) := t_toe kL3_ok (by decide)
  generalize (gT (kL 3 3)).A = A at *
  refine has_of Tryz.func33 (by kernel_rfl) rfl Tryz.ntmps33 Tryz.results33 rfl rfl rfl ?_
  repeat(first|refine run1p ?_|((with_reducible apply st_call);exact rfl;exact rfl;exact rfl;first|(exact c1)|(exact c3)|(exact Has.agv (u' := (kL 4 1).f) (fun S B β w => kL_args rfl rfl rfl rfl rfl rfl rfl rfl) ct)|(exact Has.agv (u' := (kL 3 3).f) (fun S B β w => kL_args rfl rfl rfl rfl rfl rfl rfl rfl) cc))|((with_reducible apply st_callg);exact rfl;exact rfl;(first|exact rfl|assumption);exact rfl;exact rfl;exact rfl;first|(exact c1)|(exact c3)|(exact Has.agv (u' := (kL 4 1).f) (fun S B β w => kL_args rfl rfl rfl rfl rfl rfl rfl rfl) ct)|(exact Has.agv (u' := (kL 3 3).f) (fun S B β w => kL_args rfl rfl rfl rfl rfl rfl rfl rfl) cc)))
  exact ⟨.inr rfl, _, Imp.refl _, .one (.tmp rfl)⟩
/-- A Toeplitz system, taken for a Hankel one. -/
def gH (g : GD) : GD := { g with k := 2 }
theorem gH_ok {g : GD} (h : g.OK) (hk : g.k = 1) : (gH g).OK := by
  have r0 : g.r = 0 := h.r0 (by rw [hk]; rfl)
  refine ⟨show (1 : Nat) ≤ 2 by decide, show (2 : Nat) ≤ 7 by decide, h.n1, h.n8, h.r3, fun h => (by cases h), fun _ => r0, fun i hi => ?_, ⟨h.sm.A, h.sm.B, h.sm.G, h.sm.H⟩, h.ne⟩
  have l := h.len i hi
  have e : ∀ i, i < 4 → ∀ j, j < 3 → mpz (cmap (1 : Nat) (i : Nat)) j = mpz (cmap (2 : Nat) (i : Nat)) j := by decide
  have l : ((g.len i : Nat) : Int) = mpz (cmap (1 : Nat) (i : Nat)) 0 * g.n + mpz (cmap (1 : Nat) (i : Nat)) 1 * g.n * g.r + mpz (cmap (1 : Nat) (i : Nat)) 2 := by rw [hk] at l; exact l
  rw [e i hi 0 (by decide), e i hi 1 (by decide), e i hi 2 (by decide)] at l
  exact l
theorem gH_A {g : GD} : (gT (gH g)).A = g.A := funext fun i => show (if (2 : Nat) = 3 then g.A ((i + 1) % g.n) else g.A i) = g.A i from if_neg (by decide)
theorem gH_gent {g : GD} (hk : g.k = 1) (i j : Nat) : gent (gT (gH g)) i j = gent g i j := by
  unfold gent
  rw [hk]
  show (gT (gH g)).A (i + g.n - 1 - j) = g.A (i + g.n - 1 - j)
  rw [gH_A]
theorem gH_gec {g : GD} (hk : g.k = 1) (i j : Nat) : gec (gT (gH g)) i j = gec g i j := by
  unfold gec
  rw [gH_gent hk]; rfl
theorem ts_gH {g : GD} {b : Nat → Rat} (t : TS g b) : TS (gT (gH g)) b :=
  ⟨gT_ok (gH_ok t.ok t.k) (show (2 : Nat) ≤ 3 by decide), rfl, t.n6, fun i j => by rw [gH_gec t.k]; exact t.F i j, fun i j => by rw [gH_gec t.k]; exact t.Ft i j, t.bq, t.bt⟩
theorem k_hank {n most : Int} {zs : List Int} (hn : Fits .i64 n) (hz : AllFit zs) (m1 : 1 ≤ most) (m8 : most ≤ 8) : Has Tryz.prog 44 [.i n, .seq .i64 zs, .i most] (.ag 7 (gH (mkt n zs most)).ft) := by
  have m := k_mkt (n := n) (most := most) (zs := zs) hn hz m1 m8
  have hcl : (AV.ag 7 (gH (mkt n zs most)).ft).closed = true := rfl
  generalize mkt n zs most = g at *
  refine has_of Tryz.func44 (by kernel_rfl) rfl Tryz.ntmps44 Tryz.results44 rfl hcl rfl ?_
  repeat(first|refine run1p ?_|((with_reducible apply st_call);exact rfl;exact rfl;exact rfl;first|(exact m))|((with_reducible apply st_callg);exact rfl;exact rfl;(first|exact rfl|assumption);exact rfl;exact rfl;exact rfl;first|(exact m)))
  refine ⟨.inr rfl, stl [(6, .ptr 6 0 0)] [(6, (1, fun _ => .ones 26 7 (gH g).ft))], imp_id ?_ ?_, .one (.agg rfl rfl rfl rfl (by decide) rfl rfl)⟩
  · exact eA
  · exact allh rfl (by decide) (le7 (Le.id rfl) (Le.id rfl) (Le.id rfl) (Le.id rfl) (Le.id rfl) (Le.id rfl) (Le.id rfl)) (fun i _ => (gH g).ftok _ i) True.intro
end Go.Proofs.YtdnmoggifjlbiaaGreat.AM
/- Drawn systems whose numbers are own memory; circulant ones. -/
namespace Go.Proofs.YtdnmoggifjlbiaaGreat.AM
open Go Go.RowKit Go.Proofs.YtdnmoggifjlbiaaGreat.PN Go.Proofs.YtdnmoggifjlbiaaGreat.V
open Go.Proofs.YtdnmoggifjlbiaaGreat.LA (S S_succ S_zero S_congr)
set_option linter.unusedVariables false
set_option linter.unusedSimpArgs false
set_option maxRecDepth 8000
set_option maxHeartbeats 8000000
abbrev mkF (K N R : Nat) (zs : List Int) : List (Nat × Fam) := [(64, (1, fun _ => .ones 26 7 (slf K N R (cnA K N) (cnB K N) (cnH K N R)))), (63, (1, fun _ => .rats (cnA K N + cnB K N + 2 * cnH K N R) fun i => .q (mkL zs (cnA K N) (cnB K N) (cnB K N) 0 i)))]
theorem k_mko {kind n most : Int} {zs : List Int} (hk : Fits .i64 kind) (hn : Fits .i64 n) (hz : AllFit zs) (m1 : 1 ≤ most) (m8 : most ≤ 8) : HasH Tryz.prog 14 [] [.i kind, .i n, .seq .i64 zs, .i most] (.ag 7 (slf (mkK kind) (mkN n most) (mkR (mkK kind) n) (cnA (mkK kind) (mkN n most)) (cnB (mkK kind) (mkN n most)) (cnH (mkK kind) (mkN n most) (mkR (mkK kind) n)))) (mkF (mkK kind) (mkN n most) (mkR (mkK kind) n) zs) := by
  obtain ⟨a1, a2⟩ := wthn_lt (a := kind) (n := 7) (by decide)
  obtain ⟨b1, b2⟩ := wthn_lt (a := n) (n := most) (by omega)
  obtain ⟨c1, c2⟩ := wthn_lt (a := n.tdiv 8) (n := 2) (by decide)
  have eK : 1 + wthn kind 7 = ((mkK kind : Nat) : Int) := by unfold mkK; omega
  have eN : 1 + wthn n most = ((mkN n most : Nat) : Int) := by unfold mkN; omega
  have hf : -9223372036854775808 ≤ n ∧ n ≤ 9223372036854775807 := hn
  have h5 : Fits .i64 (n.tdiv 8) := by
    have e1 : (n.tdiv 8).natAbs = n.natAbs / 8 := Int.natAbs_tdiv n 8
    show -9223372036854775808 ≤ _ ∧ _ ≤ (9223372036854775807 : Int)
    omega
  obtain ⟨h5a, h5b⟩ : -9223372036854775808 ≤ n.tdiv 8 ∧ n.tdiv 8 ≤ 9223372036854775807 := h5
  refine hasH_of Tryz.func14 (by kernel_rfl) rfl Tryz.ntmps14 Tryz.results14 (by exact fun i _ => slf_ok rfl i) rfl rfl ?_
  repeat(first|refine run1p ?_|((with_reducible apply st_call);exact rfl;exact rfl;exact rfl;first|(exact k_within5 (by omega) (by omega)))|((with_reducible apply st_callg);exact rfl;exact rfl;(first|exact rfl|assumption);exact rfl;exact rfl;exact rfl;first|(exact k_within5 (by omega) (by omega))))
  rw [eK, eN]
  repeat(first|refine run1p ?_|((with_reducible apply st_call);exact rfl;exact rfl;exact rfl;first|(exact r5_like _))|((with_reducible apply st_callg);exact rfl;exact rfl;(first|exact rfl|assumption);exact rfl;exact rfl;exact rfl;first|(exact r5_like _)))
  refine awp_join (stl [(2, .seq .i64 zs), (8, .ptr 8 0 0), (9, .ptr 9 0 0)] [(8, (1, fun _ => .ones 26 7 (hdf 0 0 0))), (9, (1, fun _ => .ones 26 7 (hdf (mkK kind) (mkN n most) (mkR (mkK kind) n))))]) ?_ ?_
  · cases hl : likeB (mkK kind) with
    | true =>
      have eR : 1 + wthn (n.tdiv 8) 2 = ((mkR (mkK kind) n : Nat) : Int) := by unfold mkR; rw [if_pos hl]; omega
      refine awp_yes rfl rfl ?_
      repeat(first|refine run1p ?_|((with_reducible apply st_call);exact rfl;exact rfl;exact rfl;first|(exact k_within5 (by decide) (by decide)))|((with_reducible apply st_callg);exact rfl;exact rfl;(first|exact rfl|assumption);exact rfl;exact rfl;exact rfl;first|(exact k_within5 (by decide) (by decide))))
      rw [eR]
      refine run0p ?_
      refine ⟨rfl, imp_id ?_ ?_⟩
      · exact eA
      · exact allh rfl (by decide) (ble7 rfl rfl rfl rfl rfl rfl rfl) (fun i _ => hdf_ok _ _ _ _ i) (allh rfl (by decide) (ble7 rfl rfl rfl rfl rfl rfl rfl) (fun i _ => hdf_ok _ _ _ _ i) True.intro)
    | false =>
      have eR : (((mkR (mkK kind) n : Nat)) : Int) = 0 := by unfold mkR; rw [if_neg (by rw [hl]; decide)]; rfl
      refine awp_no rfl rfl ?_
      refine run0p ?_
      refine ⟨rfl, imp_id ?_ ?_⟩
      · exact eA
      · exact allh rfl (by decide) (ble7 rfl rfl rfl rfl rfl rfl rfl) (fun i _ => hdf_ok _ _ _ _ i) (allh rfl (by decide) (ble7 rfl rfl (by show AV.i 0 = AV.i _; rw [eR]) rfl rfl rfl rfl) (fun i _ => hdf_ok _ _ _ _ i) True.intro)
  · have k1 : 1 ≤ mkK kind := by omega
    have k7 : mkK kind ≤ 7 := by omega
    have n1 : 1 ≤ mkN n most := by omega
    have n8 : mkN n most ≤ 8 := by omega
    have r3 : mkR (mkK kind) n ≤ 3 := by unfold mkR; split <;> omega
    have rl : likeB (mkK kind) = true → 1 ≤ mkR (mkK kind) n := fun h => by unfold mkR; rw [if_pos h]; omega
    generalize mkR (mkK kind) n = R at *
    generalize mkK kind = K at *
    generalize mkN n most = N at *
    clear a1 a2 b1 b2 c1 c2 h5a h5b eK eN
    obtain ⟨t0, t1, t2, t3⟩ := cn_le k1 k7 n1 n8 r3 rl
    have c := r5_counts k1 k7 n1 n8 r3
    repeat(first|refine run1p ?_|((with_reducible apply st_call);exact rfl;exact rfl;exact rfl;first|(exact Has.ag (g7 rfl rfl rfl rfl rfl rfl rfl) c))|((with_reducible apply st_callg);exact rfl;exact rfl;(first|exact rfl|assumption);exact rfl;exact rfl;exact rfl;first|(exact Has.ag (g7 rfl rfl rfl rfl rfl rfl rfl) c)))
    rw [show ((cnA K N : Nat) : Int) + (cnB K N : Nat) + 2 * (cnH K N R : Nat) = ((cnA K N + cnB K N + 2 * cnH K N R : Nat) : Int) from by omega]
    ((with_reducible apply st_callH); exact rfl; exact rfl; exact rfl; exact (k_rowo (by omega) (by omega) hz); (first | exact True.intro | exact ⟨rfl, rfl, rfl, True.intro⟩); exact rfl; exact rfl; exact rfl; exact rfl; (focus (repeat (first | exact True.intro | refine ⟨(by first | exact True.intro | rfl | exact ok_none (closed_ok rfl)), ?_⟩))); (first | exact True.intro | exact okf_WH | exact okf_pf (by exact True.intro) (by exact True.intro)))
    refine run0p ?_
    have em : ∀ i, mkL zs (cnA K N) (cnB K N) 0 0 i = rowq zs i := mkL_start
    refine awp_loop (fun m' s => ∃ c, c ≤ cnB K N ∧ m' = cnB K N - c ∧ s = stl [(8, .ptr 8 0 0), (9, .ptr 9 0 0), (10, .i (cnA K N)), (11, .i (cnB K N)), (14, .i (c : Int))] [(8, (1, fun _ => .ones 26 7 (hdf 0 0 0))), (9, (1, fun _ => .ones 26 7 (slf K N R (cnA K N) (cnB K N) (cnH K N R)))), (63, (1, fun _ => .rats (cnA K N + cnB K N + 2 * cnH K N R) fun i => .q (mkL zs (cnA K N) (cnB K N) c 0 i)))]) (cnB K N) _ (imp_id ?_ ?_) ⟨0, Nat.zero_le _, rfl, rfl⟩ ?_
    · exact eA
    · refine allh rfl (by decide) (ble7 rfl rfl rfl rfl rfl rfl rfl) (fun i _ => hdf_ok _ _ _ _ i) (allh rfl (by decide) (ble7 rfl rfl rfl (sl_eq rfl (by omega)) (sl_eq (by omega) (by omega)) (sl_eq (by omega) (by omega)) (sl_eq (by omega) (by omega))) (fun i _ => slf_ok rfl i) (allh rfl (by decide) (blen rfl fun i _ => congrArg RA.q (em i).symm) True.intro True.intro))
    · rintro m' s ⟨c, hc, rfl, rfl⟩
      refine run0p ?_
      refine awp_if rfl (fun h' => ?_) (fun h' => ?_)
      · have h' : c < cnB K N := by omega
        refine run0p ?_
        refine awp_loop (fun m' s => ∃ r, r ≤ cnA K N ∧ m' = cnA K N - r ∧ s = stl [(8, .ptr 8 0 0), (9, .ptr 9 0 0), (10, .i (cnA K N)), (11, .i (cnB K N)), (14, .i (c : Int)), (15, .i (r : Int))] [(8, (1, fun _ => .ones 26 7 (hdf 0 0 0))), (9, (1, fun _ => .ones 26 7 (slf K N R (cnA K N) (cnB K N) (cnH K N R)))), (63, (1, fun _ => .rats (cnA K N + cnB K N + 2 * cnH K N R) fun i => .q (mkL zs (cnA K N) (cnB K N) c r i)))]) (cnA K N) _ (imp_id ?_ ?_) ⟨0, Nat.zero_le _, rfl, rfl⟩ ?_
        · exact eA
        · exact allh rfl (by decide) (ble7 rfl rfl rfl rfl rfl rfl rfl) (fun i _ => hdf_ok _ _ _ _ i) (allh rfl (by decide) (ble7 rfl rfl rfl rfl rfl rfl rfl) (fun i _ => slf_ok rfl i) (allh rfl (by decide) (blen rfl fun i _ => rfl) True.intro True.intro))
        · rintro m' s ⟨r, hr, rfl, rfl⟩
          refine run0p ?_
          refine awp_if rfl (fun h1 => ?_) (fun h1 => ?_)
          · have h1 : r < cnA K N := by omega
            have fA : mkL zs (cnA K N) (cnB K N) c r r = rowq zs r := mkL_A h1
            have fB : mkL zs (cnA K N) (cnB K N) c r (cnA K N + c) = bpart (rowq zs) c (rowq zs (cnA K N + c)) r := mkL_B h'
            have fB1 : mkL zs (cnA K N) (cnB K N) c (r + 1) (cnA K N + c) = bpart (rowq zs) c (rowq zs (cnA K N + c)) (r + 1) := mkL_B h'
            have w1 : wt (mkL zs (cnA K N) (cnB K N) c r r) ≤ 1 := by rw [fA]; exact (rowq_wt zs r).le
            have w2 : wt (mkL zs (cnA K N) (cnB K N) c r (cnA K N + c)) ≤ 31 := by rw [fB]; have := bpart_wt (A := rowq zs) (c := c) (x := rowq zs (cnA K N + c)) (by omega) (rowq_wt zs _).le r; omega
            have w3 : wt ((100 + c : Int) : Rat) ≤ 1 := int_wt (by omega)
            have ci := hs_int (100 + (c : Int)) (by omega) (by omega)
            refine run0p ?_
            rw [show 0 + ((r : Nat) : Int).toNat = r from by omega, show cnA K N + ((c : Nat) : Int).toNat = cnA K N + c from rfl]
            repeat(first|refine run1p ?_|((with_reducible apply st_call);exact rfl;exact rfl;exact rfl;first|(exact hs_same (p := mkL zs (cnA K N) (cnB K N) c r r) (q := mkL zs (cnA K N) (cnB K N) c r (cnA K N + c)) (by omega) (by omega)))|((with_reducible apply st_callg);exact rfl;exact rfl;(first|exact rfl|assumption);exact rfl;exact rfl;exact rfl;first|(exact hs_same (p := mkL zs (cnA K N) (cnB K N) c r r) (q := mkL zs (cnA K N) (cnB K N) c r (cnA K N + c)) (by omega) (by omega))))
            refine awp_if rfl (fun h2 => ?_) (fun h2 => ?_)
            · repeat(first|refine run1p ?_|((with_reducible apply st_call);exact rfl;exact rfl;exact rfl;first|(exact ci))|((with_reducible apply st_callg);exact rfl;exact rfl;(first|exact rfl|assumption);exact rfl;exact rfl;exact rfl;first|(exact ci)))
              rw [show cnA K N + ((c : Nat) : Int).toNat = cnA K N + c from rfl]
              repeat(first|refine run1p ?_|((with_reducible apply st_call);exact rfl;exact rfl;exact rfl;first|(exact ci)|(exact hs_add (p := mkL zs (cnA K N) (cnB K N) c r (cnA K N + c)) (q := ((100 + c : Int) : Rat)) (by omega) (by omega)))|((with_reducible apply st_callg);exact rfl;exact rfl;(first|exact rfl|assumption);exact rfl;exact rfl;exact rfl;first|(exact ci)|(exact hs_add (p := mkL zs (cnA K N) (cnB K N) c r (cnA K N + c)) (q := ((100 + c : Int) : Rat)) (by omega) (by omega))))
              refine q_loop ?_ (imp_id ?_ ?_) ⟨r + 1, ?_, rfl, rfl⟩
              · omega
              · exact eA
              · refine allh rfl (by decide) (ble7 rfl rfl rfl rfl rfl rfl rfl) (fun i _ => hdf_ok _ _ _ _ i) (allh rfl (by decide) (ble7 rfl rfl rfl rfl rfl rfl rfl) (fun i _ => slf_ok rfl i) (allh rfl (by decide) (blen rfl fun i _ => ?_) True.intro True.intro))
                by_cases e : i = cnA K N + c
                · subst e
                  refine (updN_same _ _ _).trans (congrArg RA.q ?_)
                  rw [fB1]
                  show _ = (if _ then _ else _)
                  rw [if_pos (by rw [← fA, ← fB]; exact h2), ← fB]
                · exact (updN_ne _ _ e).trans (congrArg RA.q (mkL_row e (r + 1)))
              · omega
            · refine run0p ?_
              refine q_loop ?_ (imp_id ?_ ?_) ⟨r + 1, ?_, rfl, rfl⟩
              · omega
              · exact eA
              · refine allh rfl (by decide) (ble7 rfl rfl rfl rfl rfl rfl rfl) (fun i _ => hdf_ok _ _ _ _ i) (allh rfl (by decide) (ble7 rfl rfl rfl rfl rfl rfl rfl) (fun i _ => slf_ok rfl i) (allh rfl (by decide) (blen rfl fun i _ => congrArg RA.q ?_) True.intro True.intro))
                by_cases e : i = cnA K N + c
                · subst e
                  rw [fB, fB1]
                  show _ = (if _ then _ else _)
                  rw [if_neg (by rw [← fA, ← fB]; exact h2)]
                · exact mkL_row e (r + 1)
              · omega
          · have er : r = cnA K N := by omega
            refine run0p ?_
            refine q_loop ?_ (imp_id ?_ ?_) ⟨c + 1, ?_, rfl, rfl⟩
            · omega
            · exact eA
            · refine allh rfl (by decide) (ble7 rfl rfl rfl rfl rfl rfl rfl) (fun i _ => hdf_ok _ _ _ _ i) (allh rfl (by decide) (ble7 rfl rfl rfl rfl rfl rfl rfl) (fun i _ => slf_ok rfl i) (allh rfl (by decide) (blen rfl fun i _ => congrArg RA.q ?_) True.intro True.intro))
              rw [er]; exact mkL_next i
            · omega
      · have ec : c = cnB K N := by omega
        subst ec
        refine run0p ?_
        refine ⟨.inr rfl, [(8, .ptr 64 0 0)], imp_stl (s1 64 8) (fun h => by cases h) (s1_injl rfl) ?_ ?_, .one (.agg rfl rfl rfl rfl (by decide) rfl rfl)⟩
        · exact alle rfl (Le.ptr (by unfold s1; rw [if_pos rfl])) rfl True.intro
        · exact allh rfl (by unfold s1; rw [if_pos rfl]; decide) (le7 (Le.eq rfl rfl) (Le.eq rfl rfl) (Le.eq rfl rfl) (Le.sl (s1_ne (by decide))) (Le.sl (s1_ne (by decide))) (Le.sl (s1_ne (by decide))) (Le.sl (s1_ne (by decide)))) (fun i _ => slf_ok rfl i) (allh rfl Nat.zero_lt_one (blen rfl fun i _ => rfl) True.intro True.intro)
/-- Small whole numbers, of thirds. -/
def trC (zs : List Int) (i : Nat) : Rat := ((wthn (if i < zs.length then (zs.getD i 0).tdiv 3 else (i : Int)) 3 - 1 : Int) : Rat)
def trD (zs : List Int) : Bool := decide (0 < zs.length) && decide (wthn (zs.getD 0 0) 3 = 0)
def mkc (n : Int) (zs : List Int) (most : Int) : GD := let g := mkg 2 n zs most; { g with A := fun i => if trD zs then trC zs i else g.A i }
theorem trc_fq (zs : List Int) (i : Nat) : Fq 60 1200 (trC zs i) ∧ Bt (trC zs i) 5 ∧ wt (trC zs i) ≤ 1 := by
  obtain ⟨h1, h2⟩ := wthn_lt (a := if i < zs.length then (zs.getD i 0).tdiv 3 else (i : Int)) (n := 3) (by decide)
  unfold trC
  generalize wthn (if i < zs.length then (zs.getD i 0).tdiv 3 else (i : Int)) 3 = x at *
  have : x = 0 ∨ x = 1 ∨ x = 2 := by omega
  rcases this with rfl | rfl | rfl
  · exact ⟨⟨-60, by decide +kernel, by decide⟩, ⟨by decide +kernel, by decide +kernel⟩, by decide⟩
  · exact ⟨⟨0, by decide +kernel, by decide⟩, ⟨by decide +kernel, by decide +kernel⟩, by decide⟩
  · exact ⟨⟨60, by decide +kernel, by decide⟩, ⟨by decide +kernel, by decide +kernel⟩, by decide⟩
theorem mkc_A {n most : Int} {zs : List Int} {i : Nat} (hi : i < (mkc n zs most).la) : Fq 60 1200 ((mkc n zs most).A i) ∧ Bt ((mkc n zs most).A i) 5 := by
  show Fq 60 1200 (if trD zs then trC zs i else (mkg 2 n zs most).A i) ∧ Bt (if trD zs then trC zs i else (mkg 2 n zs most).A i) 5
  split
  · exact ⟨(trc_fq zs i).1, (trc_fq zs i).2.1⟩
  · have hi : i < cnA (mkK 2) (mkN n most) := hi
    show Fq 60 1200 (mkL zs _ _ _ 0 (0 + i)) ∧ Bt (mkL zs _ _ _ 0 (0 + i)) 5
    rw [Nat.zero_add, mkL_A hi]
    exact ⟨smal_fq _, rowq_bt zs i⟩
theorem mkc_n {n most : Int} {zs : List Int} (m1 : 1 ≤ most) : ((mkc n zs most).n : Int) ≤ most := by
  obtain ⟨b1, b2⟩ := wthn_lt (a := n) (n := most) (by omega)
  show ((mkN n most : Nat) : Int) ≤ most
  unfold mkN; omega
theorem mkc_ok {n most : Int} {zs : List Int} (m1 : 1 ≤ most) (m8 : most ≤ 8) : (mkc n zs most).OK ∧ (mkc n zs most).k = 3 := by
  have o := mkg_ok (kind := 2) (n := n) (zs := zs) m1 m8
  refine ⟨⟨o.k1, o.k7, o.n1, o.n8, o.r3, o.rk, o.r0, o.len, ⟨fun i hi => ?_, o.sm.B, o.sm.G, o.sm.H⟩, fun i hi j hj => ?_⟩, rfl⟩
  · show wt (if trD zs then trC zs i else (mkg 2 n zs most).A i) ≤ 4
    split
    · exact Nat.le_trans (trc_fq zs i).2.2 (by decide)
    · exact o.sm.A i hi
  · have hj : j < cnB 3 (mkN n most) := hj
    exact absurd hj (Nat.not_lt_zero _)
/-- A circulant struct out of a list. -/
def pub3 (N : Nat) (f : Nat → Rat) (i : Nat) : AV := [AV.i 3, .i N, .i 0, .row true N (fun i => .q (f (0 + i))), .row true 0 (fun i => .q (f (N + i))), .row true 0 (fun i => .q (f (N + 0 + i))), .row true 0 (fun i => .q (f (N + 0 + 0 + i)))].getD i (.v undef)
theorem k_circ {n most : Int} {zs : List Int} (hn : Fits .i64 n) (hz : AllFit zs) (m1 : 1 ≤ most) (m8 : most ≤ 8) : Has Tryz.prog 34 [.i n, .seq .i64 zs, .i most] (.ag 7 (mkc n zs most).ft) := by
  have hcl : (AV.ag 7 (mkc n zs most).ft).closed = true := rfl
  obtain ⟨b1, b2⟩ := wthn_lt (a := n) (n := most) (by omega)
  have m : HasH Tryz.prog 14 [] [.i 2, .i n, .seq .i64 zs, .i most] (.ag 7 (slf 3 (mkN n most) 0 (mkN n most) 0 0)) (mkF 3 (mkN n most) 0 zs) := k_mko (kind := 2) (n := n) (most := most) (zs := zs) (by show _ ∧ _; omega) hn hz m1 m8
  have hA : ∀ i, (mkg 2 n zs most).A i = mkL zs (mkN n most) 0 0 0 i := fun i => by show mkL zs (mkN n most) 0 0 0 (0 + i) = _; rw [Nat.zero_add]
  have N8 : mkN n most ≤ 8 := by unfold mkN; omega
  have N1 : 1 ≤ mkN n most := by unfold mkN; omega
  have hcA : cnA 3 (mkN n most) = mkN n most := rfl
  have hcB : cnB 3 (mkN n most) = 0 := rfl
  have hcH : cnH 3 (mkN n most) 0 = 0 := rfl
  have f00g : ∀ {U : Nat → Bool} (i : Nat), (hdf 0 0 0 i).ok U := fun i => hdf_ok 0 0 0 _ i
  refine has_of Tryz.func34 (by kernel_rfl) rfl Tryz.ntmps34 Tryz.results34 rfl hcl rfl ?_
  refine run0p ?_
  ((with_reducible apply st_callH); exact rfl; exact rfl; exact rfl; exact (m); (first | exact True.intro | exact ⟨rfl, rfl, rfl, True.intro⟩); exact rfl; exact rfl; exact rfl; exact rfl; (focus (repeat (first | exact True.intro | refine ⟨(by first | exact True.intro | rfl | exact ok_none (closed_ok rfl)), ?_⟩))); (first | exact True.intro | exact okf_WH | exact okf_pf (by exact True.intro) (by exact True.intro)))
  refine run0p ?_
  by_cases h0 : 0 < zs.length
  · have f0 : decide ((0 : Int) < zs.length) = true := decide_eq_true (by omega)
    have f1 : (decide ((0 : Int) < zs.length) == true) = true := by rw [f0]; rfl
    repeat(first|refine run1p ?_|((with_reducible apply st_call);exact rfl;exact rfl;exact rfl;first|(exact k_within12 (by decide) (by decide)))|((with_reducible apply st_callg);exact rfl;exact rfl;(first|exact rfl|assumption);exact rfl;exact rfl;exact rfl;first|(exact k_within12 (by decide) (by decide))))
    refine awp_if rfl (fun h => ?_) (fun h => ?_)
    · have hB : trD zs = true := by
        unfold trD
        rw [decide_eq_true h0, decide_eq_true (show wthn (zs.getD 0 0) 3 = 0 from h)]; rfl
      refine run0p ?_
      refine awp_loop (fun m' s => ∃ i, i ≤ mkN n most ∧ m' = mkN n most - i ∧ s = stl [(1, .seq .i64 zs), (6, .ptr 6 0 0), (7, .ptr 7 0 0), (8, .i (i : Int))] [(6, (1, fun _ => .ones 26 7 (hdf 0 0 0))), (7, (1, fun _ => .ones 26 7 (slf 3 (mkN n most) 0 (mkN n most) 0 0))), (63, (1, fun _ => .rats (mkN n most) fun j => .q (if j < i ∨ mkN n most ≤ j then trC zs j else mkL zs (mkN n most) 0 0 0 j)))]) (mkN n most) _ (imp_id ?_ ?_) ⟨0, Nat.zero_le _, rfl, rfl⟩ ?_
      · exact eA
      · refine allh rfl (by decide) (le7 (Le.id rfl) (Le.id rfl) (Le.id rfl) (Le.id rfl) (Le.id rfl) (Le.id rfl) (Le.id rfl)) (fun i _ => f00g i) (allh rfl (by decide) (le7 (Le.id rfl) (Le.id rfl) (Le.id rfl) (Le.id rfl) (Le.id rfl) (Le.id rfl) (Le.id rfl)) (fun i _ => slf_ok rfl i) (allh rfl (by decide) (blen rfl fun j hj => ?_) True.intro True.intro))
        have hj : j < mkN n most := hj
        exact congrArg RA.q (show mkL zs (mkN n most) 0 0 0 j = if j < 0 ∨ mkN n most ≤ j then trC zs j else mkL zs (mkN n most) 0 0 0 j by rw [if_neg (by omega)])
      rintro m' s ⟨i, hi, rfl, rfl⟩
      refine run0p ?_
      refine awp_if rfl (fun h1 => ?_) (fun h1 => ?_)
      · have hin : i < mkN n most := by
          have h1 : (i : Int) < ((mkN n most : Nat) : Int) := h1
          omega
        refine run0p ?_
        refine awp_if rfl (fun h2 => ?_) (fun h2 => ?_)
        · have hl : i < zs.length := by omega
          have hf := hz i hl
          have hf : -9223372036854775808 ≤ zs.getD i 0 ∧ zs.getD i 0 ≤ 9223372036854775807 := hf
          obtain ⟨h5a, h5b⟩ : -9223372036854775808 ≤ (zs.getD i 0).tdiv 3 ∧ (zs.getD i 0).tdiv 3 ≤ 9223372036854775807 := by
            have e1 : ((zs.getD i 0).tdiv 3).natAbs = (zs.getD i 0).natAbs / 3 := Int.natAbs_tdiv _ 3
            omega
          obtain ⟨t1, t2⟩ := wthn_lt (a := (zs.getD i 0).tdiv 3) (n := 3) (by decide)
          have cw := k_within12 (a := (zs.getD i 0).tdiv 3) (n := 3) (by decide) (by decide)
          have ci : Has Tryz.prog 22 [.i (wthn ((zs.getD i 0).tdiv 3) 3 - 1)] (.q (trC zs i)) := by
            unfold trC; rw [if_pos hl]
            exact hs_int _ (by omega) (by omega)
          repeat(first|refine run1p ?_|((with_reducible apply st_call);exact rfl;exact rfl;exact rfl;first|(exact cw)|(exact ci))|((with_reducible apply st_callg);exact rfl;exact rfl;(first|exact rfl|assumption);exact rfl;exact rfl;exact rfl;first|(exact cw)|(exact ci)))
          rw [show 0 + ((i : Nat) : Int).toNat = i from by omega]
          refine run0p ?_
          refine q_loop (m' := mkN n most - (i + 1)) (by omega) (imp_id ?_ ?_) ⟨i + 1, by omega, rfl, rfl⟩
          · exact eA
          · refine allh rfl (by decide) (bleo rfl fun _ _ => Le.id rfl) (fun i _ => f00g i) (allh rfl (by decide) (le7 (Le.id rfl) (Le.id rfl) (Le.id rfl) (Le.id rfl) (Le.id rfl) (Le.id rfl) (Le.id rfl)) (fun i _ => slf_ok rfl i) (allh rfl (by decide) (blen rfl fun j hj => ?_) True.intro True.intro))
            by_cases e : j = i
            · subst e
              refine (updN_same _ _ _).trans (congrArg RA.q ?_)
              rw [if_pos (.inl (by omega))]
            · refine (updN_ne _ _ e).trans (congrArg RA.q ?_)
              by_cases c : j < i ∨ mkN n most ≤ j
              · rw [if_pos c, if_pos (by omega)]
              · rw [if_neg c, if_neg (by omega)]
        · have hl : ¬ i < zs.length := by omega
          obtain ⟨t1, t2⟩ := wthn_lt (a := (i : Int)) (n := 3) (by decide)
          have cw := k_within12 (a := (i : Int)) (n := 3) (by decide) (by decide)
          have ci : Has Tryz.prog 22 [.i (wthn (i : Int) 3 - 1)] (.q (trC zs i)) := by
            unfold trC; rw [if_neg hl]
            exact hs_int _ (by omega) (by omega)
          repeat(first|refine run1p ?_|((with_reducible apply st_call);exact rfl;exact rfl;exact rfl;first|(exact cw)|(exact ci))|((with_reducible apply st_callg);exact rfl;exact rfl;(first|exact rfl|assumption);exact rfl;exact rfl;exact rfl;first|(exact cw)|(exact ci)))
          rw [show 0 + ((i : Nat) : Int).toNat = i from by omega]
          refine run0p ?_
          refine q_loop (m' := mkN n most - (i + 1)) (by omega) (imp_id ?_ ?_) ⟨i + 1, by omega, rfl, rfl⟩
          · exact eA
          · refine allh rfl (by decide) (bleo rfl fun _ _ => Le.id rfl) (fun i _ => f00g i) (allh rfl (by decide) (le7 (Le.id rfl) (Le.id rfl) (Le.id rfl) (Le.id rfl) (Le.id rfl) (Le.id rfl) (Le.id rfl)) (fun i _ => slf_ok rfl i) (allh rfl (by decide) (blen rfl fun j hj => ?_) True.intro True.intro))
            by_cases e : j = i
            · subst e
              refine (updN_same _ _ _).trans (congrArg RA.q ?_)
              rw [if_pos (.inl (by omega))]
            · refine (updN_ne _ _ e).trans (congrArg RA.q ?_)
              by_cases c : j < i ∨ mkN n most ≤ j
              · rw [if_pos c, if_pos (by omega)]
              · rw [if_neg c, if_neg (by omega)]
      · have ei : i = mkN n most := by
          have h1 : ¬ (i : Int) < ((mkN n most : Nat) : Int) := h1
          omega
        subst ei
        refine run0p ?_
        refine ⟨.inr rfl, stl [(6, .ptr 6 0 0)] [(6, (1, fun _ => .ones 26 7 (mkc n zs most).ft))], (imp_pubsl 63 6 (f' := pub3 (mkN n most) (fun j => if j < mkN n most ∨ mkN n most ≤ j then trC zs j else mkL zs (mkN n most) 0 0 0 j)) rfl rfl rfl rfl (fun i hi => ?_) (by decide)).trans (imp_id ?_ ?_), .one (.agg rfl rfl rfl rfl (by decide) rfl rfl)⟩
        · match i, hi with
          | 0, _ => exact .inl rfl
          | 1, _ => exact .inl rfl
          | 2, _ => exact .inl rfl
          | 3, _ => exact .inr ⟨0, mkN n most, rfl, by omega, rfl⟩
          | 4, _ => exact .inr ⟨mkN n most, 0, rfl, by omega, rfl⟩
          | 5, _ => exact .inr ⟨mkN n most + 0, 0, rfl, by omega, rfl⟩
          | 6, _ => exact .inr ⟨mkN n most + 0 + 0, 0, rfl, by omega, rfl⟩
        · exact eA
        · refine allh rfl (by decide) (le7 (Le.id rfl) (Le.id rfl) (Le.id rfl) (Le.row rfl (fun i hi => ?_) fun h => h) (Le.row rfl (fun i hi => absurd hi (Nat.not_lt_zero _)) fun h => h) (Le.row rfl (fun i hi => absurd hi (Nat.not_lt_zero _)) fun h => h) (Le.row rfl (fun i hi => absurd hi (Nat.not_lt_zero _)) fun h => h)) (fun i _ => (mkc n zs most).ftok _ i) True.intro
          have hi : i < mkN n most := hi
          exact congrArg RA.q (show (if 0 + i < mkN n most ∨ mkN n most ≤ 0 + i then trC zs (0 + i) else mkL zs (mkN n most) 0 0 0 (0 + i)) = if trD zs then trC zs i else (mkg 2 n zs most).A i by rw [if_pos (by omega), if_pos hB, Nat.zero_add])
    · have hB : trD zs = false := by
        unfold trD
        rw [decide_eq_true h0, decide_eq_false (show ¬ wthn (zs.getD 0 0) 3 = 0 from h)]; rfl
      refine run0p ?_
      refine ⟨.inr rfl, stl [(6, .ptr 6 0 0)] [(6, (1, fun _ => .ones 26 7 (mkc n zs most).ft))], (imp_pubsl 63 6 (f' := pub3 (mkN n most) (mkL zs (mkN n most) 0 0 0)) rfl rfl rfl rfl (fun i hi => ?_) (by decide)).trans (imp_id ?_ ?_), .one (.agg rfl rfl rfl rfl (by decide) rfl rfl)⟩
      · match i, hi with
        | 0, _ => exact .inl rfl
        | 1, _ => exact .inl rfl
        | 2, _ => exact .inl rfl
        | 3, _ => exact .inr ⟨0, mkN n most, rfl, by omega, rfl⟩
        | 4, _ => exact .inr ⟨mkN n most, 0, rfl, by omega, rfl⟩
        | 5, _ => exact .inr ⟨mkN n most + 0, 0, rfl, by omega, rfl⟩
        | 6, _ => exact .inr ⟨mkN n most + 0 + 0, 0, rfl, by omega, rfl⟩
      · exact eA
      · refine allh rfl (by decide) (le7 (Le.id rfl) (Le.id rfl) (Le.id rfl) (Le.row rfl (fun i hi => ?_) fun h => h) (Le.row rfl (fun i hi => absurd hi (Nat.not_lt_zero _)) fun h => h) (Le.row rfl (fun i hi => absurd hi (Nat.not_lt_zero _)) fun h => h) (Le.row rfl (fun i hi => absurd hi (Nat.not_lt_zero _)) fun h => h)) (fun i _ => (mkc n zs most).ftok _ i) True.intro
        exact congrArg RA.q (show mkL zs (mkN n most) 0 0 0 (0 + i) = if trD zs then trC zs i else (mkg 2 n zs most).A i by rw [hB, if_neg (by decide), hA, Nat.zero_add])
  · have f0 : decide ((0 : Int) < zs.length) = false := decide_eq_false (by omega)
    have f1 : (decide ((0 : Int) < zs.length) == true) = false := by rw [f0]; rfl
    have hB : trD zs = false := by
      unfold trD
      rw [decide_eq_false h0]; rfl
    refine run0p ?_
    refine awp_no rfl rfl ?_
    refine run0p ?_
    refine ⟨.inr rfl, stl [(6, .ptr 6 0 0)] [(6, (1, fun _ => .ones 26 7 (mkc n zs most).ft))], (imp_pubsl 63 6 (f' := pub3 (mkN n most) (mkL zs (mkN n most) 0 0 0)) rfl rfl rfl rfl (fun i hi => ?_) (by decide)).trans (imp_id ?_ ?_), .one (.agg rfl rfl rfl rfl (by decide) rfl rfl)⟩
    · match i, hi with
      | 0, _ => exact .inl rfl
      | 1, _ => exact .inl rfl
      | 2, _ => exact .inl rfl
      | 3, _ => exact .inr ⟨0, mkN n most, rfl, by omega, rfl⟩
      | 4, _ => exact .inr ⟨mkN n most, 0, rfl, by omega, rfl⟩
      | 5, _ => exact .inr ⟨mkN n most + 0, 0, rfl, by omega, rfl⟩
      | 6, _ => exact .inr ⟨mkN n most + 0 + 0, 0, rfl, by omega, rfl⟩
    · exact eA
    · refine allh rfl (by decide) (le7 (Le.id rfl) (Le.id rfl) (Le.id rfl) (Le.row rfl (fun i hi => ?_) fun h => h) (Le.row rfl (fun i hi => absurd hi (Nat.not_lt_zero _)) fun h => h) (Le.row rfl (fun i hi => absurd hi (Nat.not_lt_zero _)) fun h => h) (Le.row rfl (fun i hi => absurd hi (Nat.not_lt_zero _)) fun h => h)) (fun i _ => (mkc n zs most).ftok _ i) True.intro
      exact congrArg RA.q (show mkL zs (mkN n most) 0 0 0 (0 + i) = if trD zs then trC zs i else (mkg 2 n zs most).A i by rw [hB, if_neg (by decide), hA, Nat.zero_add])
end Go.Proofs.YtdnmoggifjlbiaaGreat.AM
/- Laws of turned systems: TurnedCircles, walked. -/
namespace Go.Proofs.YtdnmoggifjlbiaaGreat.AM
open Go Go.RowKit Go.Proofs.YtdnmoggifjlbiaaGreat.PN Go.Proofs.YtdnmoggifjlbiaaGreat.V
open Go.Proofs.YtdnmoggifjlbiaaGreat.LA (S S_succ S_zero S_congr app det unique)
set_option linter.unusedVariables false
set_option linter.unusedSimpArgs false
set_option maxRecDepth 8000
set_option maxHeartbeats 8000000
/-- What is known of a small circulant system, and of a right side. -/
structure CS (g : GD) (b : Nat → Rat) : Prop where
  ok : g.OK
  k : g.k = 3
  n6 : g.n ≤ 6
  F : ∀ i j, Fq 60 1200 (gec g i j)
  Ft : ∀ i j, Bt (gec g i j) 5
  bq : ∀ i, Fq 60 1200 (b i)
  bt : ∀ i, Bt (b i) 5
theorem cs_mkc {n most : Int} {zs bs : List Int} (m1 : 1 ≤ most) (m6 : most ≤ 6) : CS (mkc n zs most) (rowq bs) := by
  obtain ⟨o, k⟩ := mkc_ok (n := n) (zs := zs) m1 (show most ≤ 8 by omega)
  have hn := mkc_n (n := n) (zs := zs) m1
  have n1 := o.n1
  have hla : (mkc n zs most).la = (mkc n zs most).n := (ok_lens o).2.1 (.inl k)
  have key : ∀ i j, Fq 60 1200 (gec (mkc n zs most) i j) ∧ Bt (gec (mkc n zs most) i j) 5 := fun i j => by
    unfold gec
    split
    · rename_i h
      have hlt : (i + (mkc n zs most).n - j) % (mkc n zs most).n < (mkc n zs most).n := Nat.mod_lt _ (by omega)
      unfold gent; rw [k]
      exact mkc_A (by omega)
    · exact ⟨Fq.zero 60 |>.mono (by decide), Bt.zero.mono (by decide)⟩
  exact ⟨o, k, by omega, fun i j => (key i j).1, fun i j => (key i j).2, fun i => smal_fq _, fun i => rowq_bt bs i⟩
theorem cs_tb {g : GD} {b : Nat → Rat} (t : CS g b) : TB g.n g.n 2400 (gec g) := by
  have n6 := t.n6; have n1 := t.ok.n1; have hFt := t.Ft
  have h4 : 4 ^ (g.n - 1) ≤ 4 ^ 5 := Nat.pow_le_pow_right (by decide) (by omega)
  have e4 : 4 ^ 5 = 1024 := rfl
  exact TB.of n1 (by decide) (hA := hFt) (by omega)
theorem cs_wt {g : GD} {b x : Nat → Rat} (t : CS g b) (hd : gdet g.n (gec g) ≠ 0) (hx : ∀ i, i < g.n → app g.n (gec g) x i = b i) : ∀ i, i < g.n → Wt (x i) 3 := fun i hi =>
  ans_wt (F := gec g) (b := b) (fun i j _ _ => t.F i j) (fun i _ => t.bq i) t.n6 (by rw [← gdet_det]; exact hd) hx hi
def lin7 : List Int := [0, 1, 3, 4, 5, 6]
end Go.Proofs.YtdnmoggifjlbiaaGreat.AM

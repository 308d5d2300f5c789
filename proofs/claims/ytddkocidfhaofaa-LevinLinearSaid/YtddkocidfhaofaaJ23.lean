/- Joined texts, 23: MkT LvT LawLf. -/
import Derived.Test.YtddkocidfhaofaaJ22
import Derived.Test.YtddkocidfhaofaaJ21
set_option linter.unusedVariables false
set_option linter.unusedSimpArgs false
/- Systems that are drawn: Toeplitz ones with small whole numbers now and then. -/
namespace Go.Proofs.Ytddkocidfhaofaa.AM
open Go Go.RowKit Go.Proofs.Ytddkocidfhaofaa.PN Go.Proofs.Ytddkocidfhaofaa.V
open Go.Proofs.Ytddkocidfhaofaa.LA (S S_succ S_zero S_congr)
set_option linter.unusedVariables false
set_option linter.unusedSimpArgs false
set_option maxRecDepth 8000
set_option maxHeartbeats 8000000
/-- Small whole numbers. -/
def trA (zs : List Int) (i : Nat) : Rat := ((wthn (if i < zs.length then (zs.getD i 0).tdiv 2 else (i : Int)) 3 - 1 : Int) : Rat)
def trB (zs : List Int) : Bool := decide (0 < zs.length) && decide (wthn (zs.getD 0 0) 2 = 0)
def mkt (n : Int) (zs : List Int) (most : Int) : GD := let g := mkg 0 n zs most; { g with A := fun i => if trB zs then trA zs i else g.A i }
theorem tr_wt (zs : List Int) (i : Nat) : wt (trA zs i) ≤ 1 := by
  obtain ⟨h1, h2⟩ := wthn_lt (a := if i < zs.length then (zs.getD i 0).tdiv 2 else (i : Int)) (n := 3) (by decide)
  unfold trA
  generalize wthn (if i < zs.length then (zs.getD i 0).tdiv 2 else (i : Int)) 3 = x at *
  have : x = 0 ∨ x = 1 ∨ x = 2 := by omega
  rcases this with rfl | rfl | rfl <;> decide
theorem mkt_ok {n most : Int} {zs : List Int} (m1 : 1 ≤ most) (m8 : most ≤ 8) : (mkt n zs most).OK ∧ (mkt n zs most).k = 1 := by
  have o := mkg_ok (kind := 0) (n := n) (zs := zs) m1 m8
  refine ⟨⟨o.k1, o.k7, o.n1, o.n8, o.r3, o.rk, o.r0, o.len, ⟨fun i hi => ?_, o.sm.B, o.sm.G, o.sm.H⟩, fun i hi j hj => ?_⟩, rfl⟩
  · show wt (if trB zs then trA zs i else (mkg 0 n zs most).A i) ≤ 4
    split
    · exact Nat.le_trans (tr_wt zs i) (by decide)
    · exact o.sm.A i hi
  · have l1 := o.len 1 (by omega)
    have hk : (mkg 0 n zs most).k = 1 := rfl
    have hj : j < (mkg 0 n zs most).lb := hj
    have l1 : (((mkg 0 n zs most).lb : Nat) : Int) = mpz (cmap (1 : Nat) (1 : Nat)) 0 * (mkg 0 n zs most).n + mpz (cmap (1 : Nat) (1 : Nat)) 1 * (mkg 0 n zs most).n * (mkg 0 n zs most).r + mpz (cmap (1 : Nat) (1 : Nat)) 2 := l1
    have c : ∀ (x y z n r : Int), x = 0 → y = 0 → z = 0 → x * n + y * n * r + z = 0 := by intro x y z n r hx hy hz; subst hx; subst hy; subst hz; simp
    rw [c _ _ _ _ _ (by decide) (by decide) (by decide)] at l1
    omega
/-- A system's struct with another first row. -/
def GD.fA (g : GD) (x : AV) (i : Nat) : AV := [AV.i g.k, .i g.n, .i g.r, x, .row true g.lb (fun i => .q (g.B i)), .row true g.lg (fun i => .q (g.G i)), .row true g.lh (fun i => .q (g.H i))].getD i (.v undef)
theorem GD.fAok (g : GD) {x : AV} {U : Nat → Bool} (hx : x.ok U) : ∀ i, (g.fA x i).ok U
  | 0 | 1 | 2 | 4 | 5 | 6 => trivial
  | 3 => hx
  | _ + 7 => trivial
theorem k_mkt {n most : Int} {zs : List Int} (hn : Fits .i64 n) (hz : AllFit zs) (m1 : 1 ≤ most) (m8 : most ≤ 8) : Has Try.prog 7 [.i n, .seq .i64 zs, .i most] (.ag 7 (mkt n zs most).ft) := by
  have m := k_mk (kind := 0) (n := n) (most := most) (zs := zs) (by show _ ∧ _; omega) hn hz m1 m8
  have o := mkg_ok (kind := 0) (n := n) (zs := zs) m1 m8
  have o2 := (mkt_ok (n := n) (zs := zs) m1 m8).1
  have hk : (mkg 0 n zs most).k = 1 := rfl
  have hT : ∀ i, trB zs = true → (mkt n zs most).A i = trA zs i := fun i h => if_pos h
  have hT2 : ∀ i, trB zs = false → (mkt n zs most).A i = (mkg 0 n zs most).A i := fun i h => if_neg (by rw [h]; decide)
  have e1 : (mkt n zs most).k = (mkg 0 n zs most).k := rfl
  have e2 : (mkt n zs most).n = (mkg 0 n zs most).n := rfl
  have e3 : (mkt n zs most).r = (mkg 0 n zs most).r := rfl
  have e4 : (mkt n zs most).la = (mkg 0 n zs most).la := rfl
  have e5 : (mkt n zs most).lb = (mkg 0 n zs most).lb := rfl
  have e6 : (mkt n zs most).lg = (mkg 0 n zs most).lg := rfl
  have e7 : (mkt n zs most).lh = (mkg 0 n zs most).lh := rfl
  have e8 : (mkt n zs most).B = (mkg 0 n zs most).B := rfl
  have e9 : (mkt n zs most).G = (mkg 0 n zs most).G := rfl
  have e10 : (mkt n zs most).H = (mkg 0 n zs most).H := rfl
  have out : ∀ t : GD, t.k = (mkg 0 n zs most).k → t.n = (mkg 0 n zs most).n → t.r = (mkg 0 n zs most).r → t.la = (mkg 0 n zs most).la → t.lb = (mkg 0 n zs most).lb → t.lg = (mkg 0 n zs most).lg → t.lh = (mkg 0 n zs most).lh → t.B = (mkg 0 n zs most).B → t.G = (mkg 0 n zs most).G → t.H = (mkg 0 n zs most).H → t.ft = (mkg 0 n zs most).fA (.row true t.la fun i => .q (t.A i)) := fun t a1 a2 a3 a4 a5 a6 a7 a8 a9 a10 => by
    funext i
    unfold GD.ft GD.fA
    rw [a1, a2, a3, a5, a6, a7, a8, a9, a10]
  have hft := out _ e1 e2 e3 e4 e5 e6 e7 e8 e9 e10
  rw [hft]
  clear out hft e1 e2 e3 e5 e6 e7 e8 e9 e10
  rw [e4]
  clear e4
  have hla := (ok_lens o).1 (.inl hk)
  have hAq : (fun i => RA.q ((mkt n zs most).A i)) = fun i => RA.q (if trB zs then trA zs i else (mkg 0 n zs most).A i) := rfl
  rw [hAq]
  clear hAq hT hT2 o2
  generalize mkg 0 n zs most = g at *
  have n8 := o.n8; have n1 := o.n1
  refine has_of Try.func7 (by kernel_rfl) rfl Try.ntmps7 Try.results7 rfl rfl rfl ?_
  repeat(first|refine run1p ?_|((with_reducible apply st_call);exact rfl;exact rfl;exact rfl;first|(exact m))|((with_reducible apply st_callg);exact rfl;exact rfl;(first|exact rfl|assumption);exact rfl;exact rfl;exact rfl;first|(exact m)))
  have fin : trB zs = false → g.ft = g.fA (.row true g.la fun i => .q (if trB zs then trA zs i else g.A i)) := fun h => by
    rw [h]; rfl
  by_cases h0 : 0 < zs.length
  · have f0 : decide ((0 : Int) < zs.length) = true := decide_eq_true (by omega)
    have f1 : (decide ((0 : Int) < zs.length) == true) = true := by rw [f0]; rfl
    repeat(first|refine run1p ?_|((with_reducible apply st_call);exact rfl;exact rfl;exact rfl;first|(exact k_within10 (by decide) (by decide)))|((with_reducible apply st_callg);exact rfl;exact rfl;(first|exact rfl|assumption);exact rfl;exact rfl;exact rfl;first|(exact k_within10 (by decide) (by decide))))
    refine awp_if rfl (fun h => ?_) (fun h => ?_)
    · have hB : trB zs = true := by
        unfold trB
        rw [decide_eq_true h0, decide_eq_true (show wthn (zs.getD 0 0) 2 = 0 from h)]; rfl
      have hq : ∀ i, RA.q (if trB zs then trA zs i else g.A i) = .q (trA zs i) := fun i => by rw [if_pos hB]
      rw [show (fun i => RA.q (if trB zs then trA zs i else g.A i)) = fun i => RA.q (trA zs i) from funext hq]
      refine run0p ?_
      refine awp_loop (fun m' s => ∃ i, i ≤ 2 * g.n - 1 ∧ m' = 2 * g.n - 1 - i ∧ s = stl [(1, .seq .i64 zs), (6, .ptr 6 0 0), (7, .ptr 7 0 0), (8, .i (i : Int))] [(70, (1, fun _ => .rats i fun i => .q (trA zs i))), (6, (1, fun _ => .ones 26 7 fun i => .v ([Value.int .i64 0, .int .i64 0, .int .i64 0, .slice none 0 0, .slice none 0 0, .slice none 0 0, .slice none 0 0].getD i undef))), (7, (1, fun _ => .ones 26 7 (g.fA (.own 70 0))))]) (2 * g.n - 1) _ ((imp_nilf 70 7 3 (fun i => .q (trA zs i)) rfl rfl (by decide) rfl rfl).trans (imp_id ?_ ?_)) ⟨0, Nat.zero_le _, rfl, rfl⟩ ?_
      · exact eA
      · exact allh rfl (by decide) (blen rfl fun i hi => absurd hi (Nat.not_lt_zero _)) True.intro (allh rfl (by decide) (bleo rfl fun _ _ => Le.id rfl) (fun _ _ => True.intro) (allh rfl (by decide) (le7 (Le.id rfl) (Le.id rfl) (Le.id rfl) (Le.id rfl) (Le.id rfl) (Le.id rfl) (Le.id rfl)) (fun i _ => g.fAok (by exact rfl) i) True.intro))
      rintro m' s ⟨i, hi, rfl, rfl⟩
      refine run0 ?_
      refine awp_if rfl (fun h1 => ?_) (fun h1 => ?_)
      · have hin : i < 2 * g.n - 1 := by omega
        refine run0 ?_
        refine awp_if rfl (fun h2 => ?_) (fun h2 => ?_)
        · have hl : i < zs.length := by omega
          have hf := hz i hl
          have hf : -9223372036854775808 ≤ zs.getD i 0 ∧ zs.getD i 0 ≤ 9223372036854775807 := hf
          obtain ⟨h5a, h5b⟩ : -9223372036854775808 ≤ (zs.getD i 0).tdiv 2 ∧ (zs.getD i 0).tdiv 2 ≤ 9223372036854775807 := by
            have e1 : ((zs.getD i 0).tdiv 2).natAbs = (zs.getD i 0).natAbs / 2 := Int.natAbs_tdiv _ 2
            omega
          obtain ⟨t1, t2⟩ := wthn_lt (a := (zs.getD i 0).tdiv 2) (n := 3) (by decide)
          have cw := k_within10 (a := (zs.getD i 0).tdiv 2) (n := 3) (by decide) (by decide)
          have ci : Has Try.prog 15 [.i (wthn ((zs.getD i 0).tdiv 2) 3 - 1)] (.q (trA zs i)) := by
            unfold trA; rw [if_pos hl]
            exact hs_int _ (by omega) (by omega)
          repeat(first|refine run1 ?_|((with_reducible apply st_call);exact rfl;exact rfl;exact rfl;first|(exact cw)|(exact ci))|((with_reducible apply st_callg);exact rfl;exact rfl;(first|exact rfl|assumption);exact rfl;exact rfl;exact rfl;first|(exact cw)|(exact ci)))
          refine q_loop (m' := 2 * g.n - 1 - (i + 1)) (by omega) (fld_next (t := 70) (a := 50) rfl rfl (glue_one rfl) (by exact True.intro) rfl rfl ?_ ?_) ⟨i + 1, by omega, rfl, rfl⟩
          · exact alle rfl (Le.eq rfl rfl) True.intro (alle rfl (Le.ptr (s1_ne (by decide))) rfl (alle rfl (Le.ptr (s1_ne (by decide))) rfl (alle rfl (Le.eq rfl rfl) True.intro True.intro)))
          · exact allh rfl Nat.zero_lt_one (bleo rfl fun _ _ => Le.eq rfl rfl) (fun _ _ => True.intro) (allh rfl Nat.zero_lt_one (le7 (Le.eq rfl rfl) (Le.eq rfl rfl) (Le.eq rfl rfl) (Le.own s1_t) (Le.eq rfl rfl) (Le.eq rfl rfl) (Le.eq rfl rfl)) (fun i _ => g.fAok (by exact rfl) i) True.intro)
        · have hl : ¬ i < zs.length := by omega
          obtain ⟨t1, t2⟩ := wthn_lt (a := (i : Int)) (n := 3) (by decide)
          have cw := k_within10 (a := (i : Int)) (n := 3) (by decide) (by decide)
          have ci : Has Try.prog 15 [.i (wthn (i : Int) 3 - 1)] (.q (trA zs i)) := by
            unfold trA; rw [if_neg hl]
            exact hs_int _ (by omega) (by omega)
          repeat(first|refine run1 ?_|((with_reducible apply st_call);exact rfl;exact rfl;exact rfl;first|(exact cw)|(exact ci))|((with_reducible apply st_callg);exact rfl;exact rfl;(first|exact rfl|assumption);exact rfl;exact rfl;exact rfl;first|(exact cw)|(exact ci)))
          refine q_loop (m' := 2 * g.n - 1 - (i + 1)) (by omega) (fld_next (t := 70) (a := 50) rfl rfl (glue_one rfl) (by exact True.intro) rfl rfl ?_ ?_) ⟨i + 1, by omega, rfl, rfl⟩
          · exact alle rfl (Le.eq rfl rfl) True.intro (alle rfl (Le.ptr (s1_ne (by decide))) rfl (alle rfl (Le.ptr (s1_ne (by decide))) rfl (alle rfl (Le.eq rfl rfl) True.intro True.intro)))
          · exact allh rfl Nat.zero_lt_one (bleo rfl fun _ _ => Le.eq rfl rfl) (fun _ _ => True.intro) (allh rfl Nat.zero_lt_one (le7 (Le.eq rfl rfl) (Le.eq rfl rfl) (Le.eq rfl rfl) (Le.own s1_t) (Le.eq rfl rfl) (Le.eq rfl rfl) (Le.eq rfl rfl)) (fun i _ => g.fAok (by exact rfl) i) True.intro)
      · have ei : i = g.la := by omega
        subst ei
        repeat(first|(with_reducible first|refine awp_seq ?_|refine awp_block ?_|refine awp_skip ?_|refine awp_exit ?_|refine awp_ret ?_|refine q_then ?_|refine q_block ?_|refine q_then_exit ?_|refine q_then_ret ?_|refine q_block_exit ?_|refine q_block_ret ?_|refine q_loop_exit ?_|refine q_loop_ret ?_)|((with_reducible refine q_block_other ?_ ?_);exact rfl))
        refine awp_imp ((imp_pub 7 3 rfl rfl (by decide) rfl rfl rfl (by decide)).trans (imp_id (e := [(6, .ptr 6 0 0), (7, .ptr 7 0 0)]) (h := [(6, (1, fun _ => .ones 26 7 fun i => .v ([Value.int .i64 0, .int .i64 0, .int .i64 0, .slice none 0 0, .slice none 0 0, .slice none 0 0, .slice none 0 0].getD i undef))), (7, (1, fun _ => .ones 26 7 (g.fA (.row true g.la fun i => .q (trA zs i)))))]) ?_ ?_)) ?_
        · exact eA
        · exact allh rfl (by decide) (bleo rfl fun _ _ => Le.id rfl) (fun _ _ => True.intro) (allh rfl (by decide) (le7 (Le.id rfl) (Le.id rfl) (Le.id rfl) (Le.id rfl) (Le.id rfl) (Le.id rfl) (Le.id rfl)) (fun i _ => g.fAok (by exact True.intro) i) True.intro)
        refine run0 ?_
        exact ⟨.inr rfl, _, Imp.refl _, .one (.agg rfl rfl rfl rfl (by decide) rfl rfl)⟩
    · have hB : trB zs = false := by
        unfold trB
        rw [decide_eq_true h0, decide_eq_false (show ¬ wthn (zs.getD 0 0) 2 = 0 from h)]; rfl
      rw [← fin hB]
      refine run0p ?_
      exact ⟨.inr rfl, _, Imp.refl _, .one (.agg rfl rfl rfl rfl (by decide) rfl rfl)⟩
  · have f0 : decide ((0 : Int) < zs.length) = false := decide_eq_false (by omega)
    have f1 : (decide ((0 : Int) < zs.length) == true) = false := by rw [f0]; rfl
    have hB : trB zs = false := by
      unfold trB
      rw [decide_eq_false h0]; rfl
    rw [← fin hB]
    refine run0p ?_
    refine awp_no rfl rfl ?_
    refine run0p ?_
    exact ⟨.inr rfl, _, Imp.refl _, .one (.agg rfl rfl rfl rfl (by decide) rfl rfl)⟩
end Go.Proofs.Ytddkocidfhaofaa.AM
/- Drawn Toeplitz systems: how long their numbers are; answers. -/
namespace Go.Proofs.Ytddkocidfhaofaa.AM
open Go.Proofs.Ytddkocidfhaofaa.PN
open Go.Proofs.Ytddkocidfhaofaa.LA (Mt S S_succ S_zero S_congr app app_congr app_sub app_mul app_add det unique)
set_option linter.unusedVariables false
set_option linter.unusedSimpArgs false
set_option maxRecDepth 8000
set_option maxHeartbeats 8000000
theorem tr_fq (zs : List Int) (i : Nat) : Fq 60 1200 (trA zs i) ∧ Bt (trA zs i) 5 := by
  obtain ⟨h1, h2⟩ := wthn_lt (a := if i < zs.length then (zs.getD i 0).tdiv 2 else (i : Int)) (n := 3) (by decide)
  unfold trA
  generalize wthn (if i < zs.length then (zs.getD i 0).tdiv 2 else (i : Int)) 3 = x at *
  have : x = 0 ∨ x = 1 ∨ x = 2 := by omega
  rcases this with rfl | rfl | rfl
  · exact ⟨⟨-60, by decide +kernel, by decide⟩, ⟨by decide +kernel, by decide +kernel⟩⟩
  · exact ⟨⟨0, by decide +kernel, by decide⟩, ⟨by decide +kernel, by decide +kernel⟩⟩
  · exact ⟨⟨60, by decide +kernel, by decide⟩, ⟨by decide +kernel, by decide +kernel⟩⟩
theorem mkt_A {n most : Int} {zs : List Int} {i : Nat} (hi : i < (mkt n zs most).la) : Fq 60 1200 ((mkt n zs most).A i) ∧ Bt ((mkt n zs most).A i) 5 := by
  show Fq 60 1200 (if trB zs then trA zs i else (mkg 0 n zs most).A i) ∧ Bt (if trB zs then trA zs i else (mkg 0 n zs most).A i) 5
  split
  · exact tr_fq zs i
  · have hi : i < cnA (mkK 0) (mkN n most) := hi
    show Fq 60 1200 (mkL zs _ _ _ 0 (0 + i)) ∧ Bt (mkL zs _ _ _ 0 (0 + i)) 5
    rw [Nat.zero_add, mkL_A hi]
    exact ⟨smal_fq _, rowq_bt zs i⟩
theorem mkt_n {n most : Int} {zs : List Int} (m1 : 1 ≤ most) : ((mkt n zs most).n : Int) ≤ most := by
  obtain ⟨b1, b2⟩ := wthn_lt (a := n) (n := most) (by omega)
  show ((mkN n most : Nat) : Int) ≤ most
  unfold mkN; omega
theorem ts_mkt {n most : Int} {zs bs : List Int} (m1 : 1 ≤ most) (m6 : most ≤ 6) : TS (mkt n zs most) (rowq bs) := by
  obtain ⟨o, k⟩ := mkt_ok (n := n) (zs := zs) m1 (show most ≤ 8 by omega)
  have hn := mkt_n (n := n) (zs := zs) m1
  have n1 := o.n1
  have hla : (mkt n zs most).la = 2 * (mkt n zs most).n - 1 := (ok_lens o).1 (.inl k)
  have key : ∀ i j, Fq 60 1200 (gec (mkt n zs most) i j) ∧ Bt (gec (mkt n zs most) i j) 5 := fun i j => by
    unfold gec
    split
    · rename_i h
      unfold gent; rw [k]
      exact mkt_A (by omega)
    · exact ⟨Fq.zero 60 |>.mono (by decide), Bt.zero.mono (by decide)⟩
  exact ⟨o, k, by omega, fun i j => (key i j).1, fun i j => (key i j).2, fun i => smal_fq _, fun i => rowq_bt bs i⟩
theorem ts_det {g : GD} {b : Nat → Rat} (t : TS g b) (hl : lstD (gent g) g.n = 0) : (∀ k, k < g.n → lvd (gent g) k ≠ 0) ∧ det g.n (gent g) ≠ 0 := by
  rcases lst_cases (toe_gent t.k) with ⟨_, h1, h2⟩ | ⟨K, _, h, _⟩
  · exact ⟨h1, h2⟩
  · omega
theorem ts_app {g : GD} {b : Nat → Rat} (t : TS g b) (hl : lstD (gent g) g.n = 0) : ∀ i, i < g.n → app g.n (gent g) (lvs (gent g) b g.n) i = b i :=
  lvs_app (toe_gent t.k) g.n (Nat.le_refl _) (ts_det t hl).1
theorem ts_same {g : GD} {b : Nat → Rat} (t : TS g b) (hl : lstD (gent g) g.n = 0) : ∀ i, i < g.n → lvs (gent g) b g.n i = bsx g.n (PR (gt g.n (gec g) b)) g.n i := by
  have hd := (ts_det t hl).2
  have h2 := (gt_nz (n := g.n) (F := gec g) (b := b) (by rw [gdet_det, det_gec (Nat.le_refl _)]; exact hd)).2.2
  refine unique hd fun i hi => ?_
  rw [ts_app t hl i hi, ← h2 i hi]
  exact S_gec hi
theorem ts_wt {g : GD} {b : Nat → Rat} (t : TS g b) (hl : lstD (gent g) g.n = 0) : ∀ i, i < g.n → Wt (lvs (gent g) b g.n i) 3 := fun i hi =>
  ans_wt (F := gent g) (b := b) (fun i j hi hj => by rw [← gec_in hi hj]; exact t.F i j) (fun i _ => t.bq i) t.n6 (ts_det t hl).2 (ts_app t hl) hi
theorem ts_bw {g : GD} {b : Nat → Rat} (t : TS g b) (i : Nat) : Wt (b i) 1 := (t.bt i).wt (by decide)
theorem ts_fw {g : GD} {b : Nat → Rat} (t : TS g b) (i j : Nat) : Wt (gec g i j) 1 := (t.Ft i j).wt (by decide)
end Go.Proofs.Ytddkocidfhaofaa.AM
/- Laws of leading parts: LevinTurned, walked. -/
namespace Go.Proofs.Ytddkocidfhaofaa.AM
open Go Go.RowKit Go.Proofs.Ytddkocidfhaofaa.PN Go.Proofs.Ytddkocidfhaofaa.V
open Go.Proofs.Ytddkocidfhaofaa.LA (S S_succ S_zero S_congr S_rev app det det_tr unique)
set_option linter.unusedVariables false
set_option linter.unusedSimpArgs false
set_option maxRecDepth 8000
set_option maxHeartbeats 8000000
/-- All of a Toeplitz system turned about. -/
def gR (g : GD) : GD := ⟨1, g.n, 0, 2 * g.n - 1, 0, 0, 0, fun i => g.A (2 * g.n - 1 - 1 - i), fun _ => 0, fun _ => 0, fun _ => 0⟩
theorem gR_ok {g : GD} (h : g.OK) (hk : g.k = 1) : (gR g).OK := by
  have n1 := h.n1; have n8 := h.n8
  have hla := (ok_lens h).1 (.inl hk)
  refine ⟨show (1 : Nat) ≤ 1 by decide, show (1 : Nat) ≤ 7 by decide, n1, n8, show (0 : Nat) ≤ 3 by decide, fun h => (by cases h), fun _ => rfl, ?_, ⟨fun i hi => h.sm.A _ (by omega), fun i hi => absurd hi (Nat.not_lt_zero _), fun i hi => absurd hi (Nat.not_lt_zero _), fun i hi => absurd hi (Nat.not_lt_zero _)⟩, fun i hi j hj => absurd hj (Nat.not_lt_zero _)⟩
  have z : ∀ (x y z n r : Int), x = 0 → y = 0 → z = 0 → (0 : Int) = x * n + y * n * r + z := by intro x y z n r hx hy hz; subst hx; subst hy; subst hz; simp
  have f : ∀ (x y z n r : Int), x = 2 → y = 0 → z = -1 → 2 * n - 1 = x * n + y * n * r + z := by intro x y z n r hx hy hz; subst hx; subst hy; subst hz; simp; omega
  intro i hi
  have hi4 : i = 0 ∨ i = 1 ∨ i = 2 ∨ i = 3 := by omega
  rcases hi4 with rfl | rfl | rfl | rfl
  · show ((2 * g.n - 1 : Nat) : Int) = mpz (cmap (1 : Nat) (0 : Nat)) 0 * (g.n : Int) + mpz (cmap (1 : Nat) (0 : Nat)) 1 * (g.n : Int) * ((0 : Nat) : Int) + mpz (cmap (1 : Nat) (0 : Nat)) 2
    rw [← f _ _ _ _ _ (by decide) (by decide) (by decide)]; omega
  · show (0 : Int) = mpz (cmap (1 : Nat) (1 : Nat)) 0 * (g.n : Int) + mpz (cmap (1 : Nat) (1 : Nat)) 1 * (g.n : Int) * ((0 : Nat) : Int) + mpz (cmap (1 : Nat) (1 : Nat)) 2
    exact z _ _ _ _ _ (by decide) (by decide) (by decide)
  · show (0 : Int) = mpz (cmap (1 : Nat) (2 : Nat)) 0 * (g.n : Int) + mpz (cmap (1 : Nat) (2 : Nat)) 1 * (g.n : Int) * ((0 : Nat) : Int) + mpz (cmap (1 : Nat) (2 : Nat)) 2
    exact z _ _ _ _ _ (by decide) (by decide) (by decide)
  · show (0 : Int) = mpz (cmap (1 : Nat) (3 : Nat)) 0 * (g.n : Int) + mpz (cmap (1 : Nat) (3 : Nat)) 1 * (g.n : Int) * ((0 : Nat) : Int) + mpz (cmap (1 : Nat) (3 : Nat)) 2
    exact z _ _ _ _ _ (by decide) (by decide) (by decide)
theorem gR_gent {g : GD} (hk : g.k = 1) {i j : Nat} (hi : i < g.n) (hj : j < g.n) : gent (gR g) i j = gent g j i := by
  unfold gent
  rw [hk]
  show g.A (2 * g.n - 1 - 1 - (i + g.n - 1 - j)) = g.A (j + g.n - 1 - i)
  congr 1; omega
theorem gR_turn {g : GD} (hk : g.k = 1) {i j : Nat} (hi : i < g.n) (hj : j < g.n) : gent (gR g) i j = gent g (g.n - 1 - i) (g.n - 1 - j) := by
  rw [gR_gent hk hi hj]
  unfold gent
  rw [hk]
  show g.A (j + g.n - 1 - i) = g.A (g.n - 1 - i + g.n - 1 - (g.n - 1 - j))
  congr 1; omega
theorem gR_det {g : GD} (hk : g.k = 1) {k : Nat} (h : k ≤ g.n) : gdet k (gent (gR g)) = gdet k (gent g) := by
  rw [gdet_det, gdet_det, ← det_tr k (gent g)]
  exact LA.det_congr fun i j hi hj => gR_gent hk (by omega) (by omega)
theorem gR_lst {g : GD} (hk : g.k = 1) : lstD (gent (gR g)) g.n = lstD (gent g) g.n := by
  have e : ∀ k, k < g.n → (gdet (k + 1) (gent (gR g)) = 0 ↔ gdet (k + 1) (gent g) = 0) := fun k hk' => by rw [gR_det hk (by omega)]
  obtain ⟨_, p2, p3, p4⟩ := fnd_le (fun k => gdet (k + 1) (gent (gR g)) = 0) g.n 0
  obtain ⟨_, q2, q3, q4⟩ := fnd_le (fun k => gdet (k + 1) (gent g) = 0) g.n 0
  have : fnd (fun k => gdet (k + 1) (gent (gR g)) = 0) g.n 0 = fnd (fun k => gdet (k + 1) (gent g) = 0) g.n 0 := by
    rcases Nat.lt_trichotomy (fnd (fun k => gdet (k + 1) (gent (gR g)) = 0) g.n 0) (fnd (fun k => gdet (k + 1) (gent g) = 0) g.n 0) with h | h | h
    · exact absurd ((e _ (by omega)).1 (p4 (by omega))) (q3 _ (Nat.zero_le _) h)
    · exact h
    · exact absurd ((e _ (by omega)).2 (q4 (by omega))) (p3 _ (Nat.zero_le _) h)
  unfold lstD
  rw [this]
/-- Its struct, its first row as it stands. -/
def fR (n : Nat) (x : AV) (i : Nat) : AV := [AV.i 1, .i n, .i 0, x, .v (.slice none 0 0), .v (.slice none 0 0), .v (.slice none 0 0)].getD i (.v undef)
theorem fRok {n : Nat} {x : AV} {U : Nat → Bool} (hx : x.ok U) : ∀ i, (fR n x i).ok U
  | 0 | 1 | 2 | 4 | 5 | 6 => trivial
  | 3 => hx
  | _ + 7 => trivial
theorem gR_args {S : Nat → Prop} {B : Nat} {β : Nat → Nat → Value} {w : World} {g : GD} {u : Nat → AV} {q : Nat → RA} (h0 : u 0 = .i 1) (h1 : u 1 = .i g.n) (h2 : u 2 = .i 0) (h3 : u 3 = .row false (2 * g.n - 1) q) (hq : ∀ i, i < 2 * g.n - 1 → q i = .q ((gR g).A i)) (h4 : u 4 = .v (.slice none 0 0)) (h5 : u 5 = .v (.slice none 0 0)) (h6 : u 6 = .v (.slice none 0 0)) : ∀ i, i < 7 → ∀ v, RV S B β w (u i) v → RV S B β w ((gR g).f i) v := by
  intro i hi v hv
  match i, hi with
  | 0, _ => rw [h0] at hv; exact hv
  | 1, _ => rw [h1] at hv; exact hv
  | 2, _ => rw [h2] at hv; exact hv
  | 3, _ => rw [h3] at hv; exact rv_row hq v hv
  | 4, _ => rw [h4] at hv; exact rv_nil0 v hv
  | 5, _ => rw [h5] at hv; exact rv_nil0 v hv
  | 6, _ => rw [h6] at hv; exact rv_nil0 v hv
theorem k_lturned {n : Int} {ns bs : List Int} (hn : Fits .i64 n) (hz : AllFit ns) (hb : AllFit bs) : Has Try.prog 5 [.i n, .seq .i64 ns, .seq .i64 bs] (.b true) := by
  have m1 := k_mkt (n := n) (most := 6) (zs := ns) hn hz (by decide) (by decide)
  have t := ts_mkt (n := n) (most := 6) (zs := ns) (bs := bs) (by decide) (by decide)
  generalize mkt n ns 6 = g at *
  have ok := t.ok
  have n8 := ok.n8; have n1 := ok.n1; have ht := toe_gent t.k
  have hla : g.la = 2 * g.n - 1 := (ok_lens ok).1 (.inl t.k)
  have okr := gR_ok ok t.k
  have r1 := k_row (zs := bs) (n := g.n) (by omega) hb
  have wb : ∀ i, wt (rowq bs i) ≤ 1 := fun i => (ts_bw t i).le
  have ax := ts_app t
  have wx := ts_wt t
  generalize rowq bs = b at *
  have gE : decide ((g.n : Int) ≠ g.n) = false := decide_eq_false fun h => h rfl
  have gE2 : (decide ((g.n : Int) ≠ g.n) == false) = true := by rw [gE]; rfl
  refine has_of Try.func5 (by kernel_rfl) rfl Try.ntmps5 Try.results5 rfl rfl rfl ?_
  repeat(first|refine run1p ?_|((with_reducible apply st_call);exact rfl;exact rfl;exact rfl;first|(exact k_known10))|((with_reducible apply st_callg);exact rfl;exact rfl;(first|exact rfl|assumption);exact rfl;exact rfl;exact rfl;first|(exact k_known10)))
  refine awp_no rfl rfl ?_
  repeat(first|refine run1p ?_|((with_reducible apply st_call);exact rfl;exact rfl;exact rfl;first|(exact m1)|(exact r1))|((with_reducible apply st_callg);exact rfl;exact rfl;(first|exact rfl|assumption);exact rfl;exact rfl;exact rfl;first|(exact m1)|(exact r1)))
  refine awp_loop (fun m' s => ∃ u i, u + i = g.la ∧ m' = i ∧ s = stl [(7, .ptr 7 0 0), (8, .row true g.n fun i => .q (b i)), (9, .ptr 9 0 0), (10, .i (i : Int))] [(70, (1, fun _ => .rats u fun k => .q (g.A (g.la - 1 - k)))), (7, (1, fun _ => .ones 26 7 g.ft)), (9, (1, fun _ => .ones 26 7 (fR g.n (.own 70 0))))]) g.la _ ((imp_nilf 70 9 3 (fun k => .q (g.A (g.la - 1 - k))) rfl rfl (by decide) rfl rfl).trans (imp_id ?_ ?_)) ⟨0, g.la, by omega, rfl, rfl⟩ ?_
  · exact eA
  · exact allh rfl (by decide) (blen rfl fun i hi => absurd hi (Nat.not_lt_zero _)) True.intro (allh rfl (by decide) (bleo rfl fun _ _ => Le.id rfl) (fun i _ => g.ftok _ i) (allh rfl (by decide) (le7 (Le.id rfl) (Le.id rfl) (Le.id rfl) (Le.id rfl) (Le.id rfl) (Le.id rfl) (Le.id rfl)) (fun i _ => fRok (by exact rfl) i) True.intro))
  rintro m' s ⟨u, i, hu, hm, rfl⟩
  refine run0p ?_
  refine awp_if rfl (fun h => ?_) (fun h => ?_)
  · obtain ⟨i, rfl⟩ : ∃ u, i = u + 1 := ⟨i - 1, by omega⟩
    have e1 : (((i + 1 : Nat) : Int) - 1).toNat = i := by omega
    have e2 : ((i + 1 : Nat) : Int) - 1 = (i : Int) := by omega
    have ev : RA.q (g.A i) = RA.q (g.A (g.la - 1 - u)) := by rw [show g.la - 1 - u = i by omega]
    refine run0p ?_
    rw [e1, e2]
    refine q_loop ?_ (fld_next (t := 70) (a := 48) rfl rfl (glue_one ev) (by exact True.intro) rfl rfl ?_ ?_) ⟨u + 1, i, ?_, rfl, rfl⟩
    · omega
    · exact alle rfl (Le.ptr (s1_ne (by decide))) rfl (alle rfl (Le.eq rfl rfl) True.intro (alle rfl (Le.ptr (s1_ne (by decide))) rfl (alle rfl (Le.eq rfl rfl) True.intro True.intro)))
    · exact allh rfl Nat.zero_lt_one g.le_ft (fun i _ => g.ftok _ i) (allh rfl Nat.zero_lt_one (le7 (Le.eq rfl rfl) (Le.eq rfl rfl) (Le.eq rfl rfl) (Le.own s1_t) (Le.eq rfl rfl) (Le.eq rfl rfl) (Le.eq rfl rfl)) (fun i _ => fRok (by exact rfl) i) True.intro)
    · omega
  obtain rfl : i = 0 := by omega
  have eu : u = 2 * g.n - 1 := by omega
  subst eu
  repeat(first|(with_reducible first|refine awp_seq ?_|refine awp_block ?_|refine awp_skip ?_|refine awp_exit ?_|refine awp_ret ?_|refine q_then ?_|refine q_block ?_|refine q_then_exit ?_|refine q_then_ret ?_|refine q_block_exit ?_|refine q_block_ret ?_|refine q_loop_exit ?_|refine q_loop_ret ?_)|((with_reducible refine q_block_other ?_ ?_);exact rfl))
  refine awp_imp ((imp_pub 9 3 rfl rfl (by decide) rfl rfl rfl (by decide)).trans (imp_id (e := [(7, .ptr 7 0 0), (8, .row true g.n fun i => .q (b i)), (9, .ptr 9 0 0)]) (h := [(7, (1, fun _ => .ones 26 7 g.ft)), (9, (1, fun _ => .ones 26 7 (fR g.n (.row true (2 * g.n - 1) fun k => .q (g.A (g.la - 1 - k))))))]) ?_ ?_)) ?_
  · exact eA
  · exact allh rfl (by decide) (bleo rfl fun _ _ => Le.id rfl) (fun i _ => g.ftok _ i) (allh rfl (by decide) (le7 (Le.id rfl) (Le.id rfl) (Le.id rfl) (Le.id rfl) (Le.id rfl) (Le.id rfl) (Le.id rfl)) (fun i _ => fRok (by exact True.intro) i) True.intro)
  refine run0p ?_
  refine awp_loop (fun m' s => ∃ u i, u + i = g.n ∧ m' = i ∧ s = accS 11 (.rats u fun k => .q (b (g.n - 1 - k))) [(7, .ptr 7 0 0), (8, .row true g.n fun i => .q (b i)), (9, .ptr 9 0 0), (12, .i (i : Int))] [(7, (1, fun _ => .ones 26 7 g.ft)), (9, (1, fun _ => .ones 26 7 (fR g.n (.row true (2 * g.n - 1) fun k => .q (g.A (g.la - 1 - k))))))]) g.n _ (acc_start rfl rfl (by exact rfl) rfl (by decide) ?_ ?_) ⟨0, g.n, by omega, rfl, rfl⟩ ?_
  · exact eA
  · exact allh rfl (by decide) (bleo rfl fun _ _ => Le.id rfl) (fun i _ => g.ftok _ i) (allh rfl (by decide) (bleo rfl fun _ _ => Le.id rfl) (fun i _ => fRok (by exact True.intro) i) True.intro)
  rintro m' s ⟨u, i, hu, hm, rfl⟩
  refine run0p ?_
  refine awp_if rfl (fun h => ?_) (fun h => ?_)
  · obtain ⟨i, rfl⟩ : ∃ u, i = u + 1 := ⟨i - 1, by omega⟩
    have e1 : (((i + 1 : Nat) : Int) - 1).toNat = i := by omega
    have e2 : ((i + 1 : Nat) : Int) - 1 = (i : Int) := by omega
    have ev : RA.q (b i) = RA.q (b (g.n - 1 - u)) := by rw [show g.n - 1 - u = i by omega]
    refine run0p ?_
    rw [e1, e2]
    refine q_loop ?_ (acc_next (a := 63) rfl rfl rfl (glue_one ev) (by exact True.intro) rfl rfl ?_ ?_) ⟨u + 1, i, ?_, rfl, rfl⟩
    · omega
    · exact alle rfl (Le.ptr (s1_ne (by decide))) rfl (alle rfl (Le.eq rfl rfl) True.intro (alle rfl (Le.ptr (s1_ne (by decide))) rfl (alle rfl (Le.eq rfl rfl) True.intro True.intro)))
    · exact allh rfl Nat.zero_lt_one g.le_ft (fun i _ => g.ftok _ i) (allh rfl Nat.zero_lt_one (le7 (Le.eq rfl rfl) (Le.eq rfl rfl) (Le.eq rfl rfl) (Le.eq rfl rfl) (Le.eq rfl rfl) (Le.eq rfl rfl) (Le.eq rfl rfl)) (fun i _ => fRok (by exact True.intro) i) True.intro)
    · omega
  obtain rfl : i = 0 := by omega
  have eu : u = g.n := by omega
  subst eu
  repeat(first|(with_reducible first|refine awp_seq ?_|refine awp_block ?_|refine awp_skip ?_|refine awp_exit ?_|refine awp_ret ?_|refine q_then ?_|refine q_block ?_|refine q_then_exit ?_|refine q_then_ret ?_|refine q_block_exit ?_|refine q_block_ret ?_|refine q_loop_exit ?_|refine q_loop_ret ?_)|((with_reducible refine q_block_other ?_ ?_);exact rfl))
  refine awp_imp (imp_rowv 11 (fun k => .q (b (g.n - 1 - k))) rfl rfl rfl (fun i hi => rfl)) ?_
  have hla2 : ∀ i, i < 2 * g.n - 1 → RA.q (g.A (g.la - 1 - i)) = RA.q ((gR g).A i) := fun i hi => by rw [hla]; rfl
  rcases lst_cases ht with ⟨hl, h1, hdet⟩ | ⟨K, hK, hl, hd, hz⟩
  · have hd2 : ∀ k, k < (gR g).n → lvd (gent (gR g)) k ≠ 0 := by
      rcases lst_cases (toe_gent (g := gR g) rfl) with ⟨_, h2, _⟩ | ⟨K, _, h, _⟩
      · exact h2
      · have h : lstD (gent (gR g)) g.n = K + 1 := h
        rw [gR_lst t.k] at h; omega
    have cx := lv_solve (b := b) ok t.k (fun i _ => Nat.le_trans (wb i) (by decide)) h1
    have cy : Has Try.prog 12 [(gR g).v, .row false g.n fun k => .q (b (g.n - 1 - k))] (.tup3 (.row true g.n fun i => .q (lvs (gent (gR g)) (fun k => b (g.n - 1 - k)) g.n i)) (.i 0) (.i 0)) := lv_solve (b := fun k => b (g.n - 1 - k)) okr rfl (fun i _ => Nat.le_trans (wb _) (by decide)) hd2
    have ax := ax hl
    have wx := wx hl
    have ay : ∀ i, i < g.n → app g.n (gent (gR g)) (lvs (gent (gR g)) (fun k => b (g.n - 1 - k)) g.n) i = b (g.n - 1 - i) := lvs_app (b := fun k => b (g.n - 1 - k)) (toe_gent (g := gR g) rfl) g.n (Nat.le_refl _) hd2
    have hdr : det g.n (gent (gR g)) ≠ 0 := by rw [← gdet_det, gR_det t.k (Nat.le_refl _), gdet_det]; exact hdet
    generalize lvs (gent g) b g.n = x at *
    generalize lvs (gent (gR g)) (fun k => b (g.n - 1 - k)) g.n = y at *
    have hxy : ∀ i, i < g.n → y i = x (g.n - 1 - i) := unique (y := fun i => x (g.n - 1 - i)) hdr fun i hi => by
      rw [ay i hi, ← ax (g.n - 1 - i) (by omega)]
      show S g.n (fun j => gent g (g.n - 1 - i) j * x j) = S g.n fun j => gent (gR g) i j * x (g.n - 1 - j)
      rw [← S_rev g.n fun j => gent g (g.n - 1 - i) j * x j]
      exact S_congr fun j hj => by rw [gR_turn t.k hi hj]
    repeat(first|refine run1p ?_|((with_reducible apply st_call);exact rfl;exact rfl;exact rfl;first|(exact Has.ag (u' := g.f) (g7 rfl rfl rfl rfl rfl rfl rfl) cx)|(exact Has.agv (fun S B β w => gR_args rfl rfl rfl rfl hla2 rfl rfl rfl) cy))|((with_reducible apply st_callg);exact rfl;exact rfl;(first|exact rfl|assumption);exact rfl;exact rfl;exact rfl;first|(exact Has.ag (u' := g.f) (g7 rfl rfl rfl rfl rfl rfl rfl) cx)|(exact Has.agv (fun S B β w => gR_args rfl rfl rfl rfl hla2 rfl rfl rfl) cy)))
    refine awp_no rfl rfl ?_
    refine run0p ?_
    refine awp_no rfl rfl ?_
    refine run0p ?_
    refine awp_no rfl gE ?_
    refine run0p ?_
    refine awp_loop (fun m' s => ∃ i, i ≤ g.n ∧ m' = g.n - i ∧ s = stl [(7, .ptr 7 0 0), (13, .row true g.n fun i => .q (x i)), (16, .row true g.n fun i => .q (y i)), (19, .i (i : Int))] [(7, (1, fun _ => .ones 26 7 g.ft))]) g.n _ (imp_id ?_ ?_) ⟨0, Nat.zero_le _, rfl, rfl⟩ ?_
    · exact eA
    · exact allh rfl (by decide) (bleo rfl fun _ _ => Le.id rfl) (fun i _ => g.ftok _ i) True.intro
    rintro m' s ⟨i, hi, rfl, rfl⟩
    refine run0p ?_
    refine awp_if rfl (fun h => ?_) (fun h => ?_)
    · have h : i < g.n := by omega
      have w1 := (wx i h).le
      have hq : x i = y (g.n - 1 - i) := by rw [hxy (g.n - 1 - i) (by omega), show g.n - 1 - (g.n - 1 - i) = i by omega]
      have ce := hs_same (p := x i) (q := y (g.n - 1 - i)) (by omega) (by rw [← hq]; omega)
      rw [decide_eq_true hq] at ce
      have e1 : ((g.n : Int) - 1 - (i : Int)).toNat = g.n - 1 - i := by omega
      refine run0p ?_
      rw [e1]
      repeat(first|refine run1p ?_|((with_reducible apply st_call);exact rfl;exact rfl;exact rfl;first|(exact ce))|((with_reducible apply st_callg);exact rfl;exact rfl;(first|exact rfl|assumption);exact rfl;exact rfl;exact rfl;first|(exact ce)))
      refine awp_no rfl rfl ?_
      refine run0p ?_
      refine q_loop ?_ (imp_id ?_ ?_) ⟨i + 1, ?_, rfl, rfl⟩
      · omega
      · exact eA
      · exact allh rfl (by decide) (bleo rfl fun _ _ => Le.id rfl) (fun i _ => g.ftok _ i) True.intro
      · omega
    · refine run0p ?_
      exact ⟨.inr rfl, _, Imp.refl _, .one (.tmp rfl)⟩
  · have cx := lv_solve_break (b := b) ok t.k (fun i _ => Nat.le_trans (wb i) (by decide)) hK hd hz
    have cy : Has Try.prog 12 [(gR g).v, .row false g.n fun k => .q (b (g.n - 1 - k))] (.tup3 (.v (.slice none 0 0)) (.i ((K + 1 : Nat) : Int)) (.i 8)) := by
      rcases lst_cases (toe_gent (g := gR g) rfl) with ⟨h2, _, _⟩ | ⟨K', hK', h, hd', hz'⟩
      · have h2 : lstD (gent (gR g)) g.n = 0 := h2
        rw [gR_lst t.k] at h2; omega
      · have h : lstD (gent (gR g)) g.n = K' + 1 := h
        rw [gR_lst t.k] at h
        obtain rfl : K' = K := by omega
        exact lv_solve_break (b := fun k => b (g.n - 1 - k)) okr rfl (fun i _ => Nat.le_trans (wb _) (by decide)) hK' hd' hz'
    have fK : decide (((K + 1 : Nat) : Int) ≠ ((K + 1 : Nat) : Int)) = false := decide_eq_false fun h => h rfl
    have fL : decide ((0 : Int) < ((K + 1 : Nat) : Int)) = true := decide_eq_true (by omega)
    repeat(first|refine run1p ?_|((with_reducible apply st_call);exact rfl;exact rfl;exact rfl;first|(exact Has.ag (u' := g.f) (g7 rfl rfl rfl rfl rfl rfl rfl) cx)|(exact Has.agv (fun S B β w => gR_args rfl rfl rfl rfl hla2 rfl rfl rfl) cy))|((with_reducible apply st_callg);exact rfl;exact rfl;(first|exact rfl|assumption);exact rfl;exact rfl;exact rfl;first|(exact Has.ag (u' := g.f) (g7 rfl rfl rfl rfl rfl rfl rfl) cx)|(exact Has.agv (fun S B β w => gR_args rfl rfl rfl rfl hla2 rfl rfl rfl) cy)))
    refine awp_no rfl fK ?_
    refine run0p ?_
    refine awp_yes rfl rfl ?_
    refine run0p ?_
    refine ⟨.inr rfl, _, Imp.refl _, .one (.tmp ?_)⟩
    show some (AV.b (decide ((0 : Int) < ((K + 1 : Nat) : Int)))) = some (AV.b true)
    rw [fL]
end Go.Proofs.Ytddkocidfhaofaa.AM

/- Joined texts, 26: LvS LawLb. -/
import Derived.Test.YtddkocidfhaofaaGreatJ24
import Derived.Test.YtddkocidfhaofaaGreatJ25
set_option linter.unusedVariables false
set_option linter.unusedSimpArgs false
/- The document's chapter 10: steps. -/
namespace Go.Proofs.YtddkocidfhaofaaGreat.AM
open Go Go.RowKit Go.Proofs.YtddkocidfhaofaaGreat.PN Go.Proofs.YtddkocidfhaofaaGreat.V
open Go.Proofs.YtddkocidfhaofaaGreat.LA (S S_succ S_zero S_congr app det unique)
set_option linter.unusedVariables false
set_option linter.unusedSimpArgs false
set_option maxRecDepth 8000
set_option maxHeartbeats 8000000
/-- One, of the first place; noughts. -/
def fst1 (i : Nat) : Rat := if i = 0 then 1 else 0
theorem fst1_bt (i : Nat) : Bt (fst1 i) 5 := by
  unfold fst1; split
  · exact Bt.one.mono (by decide)
  · exact Bt.zero.mono (by decide)
theorem fst1_fq (i : Nat) : Fq 60 1200 (fst1 i) := by
  unfold fst1; split
  · exact ⟨60, by decide +kernel, by decide⟩
  · exact ⟨0, by decide +kernel, by decide⟩
/-- What the leading part of k rows sends to that, by elimination. -/
noncomputable def stq (g : GD) (k : Nat) : Nat → Rat := bsx k (PR (gt k (gec g) fst1)) k
theorem nz_lvd {n K : Nat} {F : Nat → Nat → Rat} (ht : LA.Toe n F) (hK : K ≤ n) (hd : ∀ k, k < K → lvd F k ≠ 0) : ∀ k, k < K → gdet (k + 1) F ≠ 0 := fun k hk => by
  rw [gdet_det]; exact lv_det ht (by omega) fun j hj => hd j (by omega)
theorem z_lvd {n K : Nat} {F : Nat → Nat → Rat} (ht : LA.Toe n F) (hK : K < n) (hd : ∀ k, k < K → lvd F k ≠ 0) (hz : lvd F K = 0) : gdet (K + 1) F = 0 := by
  rw [gdet_det]; exact lv_zero_det ht hK hd hz
theorem gdet_gec {g : GD} {k : Nat} (hk : k ≤ g.n) : gdet k (gec g) = gdet k (gent g) := by rw [gdet_det, gdet_det, det_gec hk]
theorem r10_steps {g : GD} {b : Nat → Rat} (t : TS g b) {K : Nat} (hK : K ≤ g.n) (hd : ∀ k, k < K → lvd (gent g) k ≠ 0) (hz : K < g.n → lvd (gent g) K = 0) : Has Tryz.prog 10 [g.v] (.tup3 (.mat true K (fun i => i + 1) (fun i j => .q (stq g (i + 1) j))) (.i (if K < g.n then ((K + 1 : Nat) : Int) else 0)) (.i (if K < g.n then 8 else 0))) := by
  have o := t.ok; have n8 := o.n8; have n1 := o.n1; have n6 := t.n6
  have hFt := t.Ft
  have h4 : ∀ k, k ≤ g.n → 4 ^ (k - 1) ≤ 4 ^ 5 := fun k hk => Nat.pow_le_pow_right (by decide) (by omega)
  have e4 : 4 ^ 5 = 1024 := rfl
  have hBB : ∀ k, 0 < k → k ≤ g.n → BB k (gec g) fst1 (xbd 5) := fun k k0 kn => BB.of k0 (by decide) (by have := h4 k kn; omega) (hf := hFt) (hb := fst1_bt) (yb5 ⟨k, by omega⟩)
  have e0 : decide ((g.k : Int) ≠ 1) = false := decide_eq_false (by rw [t.k]; decide)
  have hnz := nz_lvd (toe_gent t.k) hK hd
  have hzz : K < g.n → gdet (K + 1) (gent g) = 0 := fun h => z_lvd (toe_gent t.k) h hd (hz h)
  refine has_of Tryz.func10 (by kernel_rfl) rfl Tryz.ntmps10 Tryz.results10 rfl rfl rfl ?_
  refine run0 ?_
  refine awp_no rfl e0 ?_
  repeat(first|refine run1 ?_|((with_reducible apply st_call);exact rfl;exact rfl;exact rfl;first|(exact Has.ag (g7 rfl rfl rfl rfl rfl rfl rfl) (r5_expand o)))|((with_reducible apply st_callg);exact rfl;exact rfl;(first|exact rfl|assumption);exact rfl;exact rfl;exact rfl;first|(exact Has.ag (g7 rfl rfl rfl rfl rfl rfl rfl) (r5_expand o))))
  refine awp_loop (fun m' s => ∃ u, u ≤ K ∧ m' = g.n - u ∧ s = accS 6 (.ones WT u fun i => .row true (i + 1) fun j => .q (stq g (i + 1) j)) [(1, .ptr 1 0 0), (5, .mat true g.n (fun _ => g.n) (fun i j => .q (gent g i j))), (7, .i ((u + 1 : Nat) : Int))] [(1, (1, fun _ => .ones 26 7 g.f))]) g.n _ (acc_start rfl rfl (by exact ⟨by decide, rfl⟩) rfl (by decide) ?_ ?_) ⟨0, Nat.zero_le _, rfl, rfl⟩ ?_
  · exact eA
  · exact allh rfl (by decide) (bleo rfl fun _ _ => Le.id rfl) (fun i _ => g.fok _ i) True.intro
  rintro m' s ⟨u, hu, rfl, rfl⟩
  refine run0 ?_
  refine awp_if rfl (fun h => ?_) (fun h => ?_)
  · have h : u < g.n := by omega
    repeat(first|refine run1 ?_|((with_reducible apply st_call);exact rfl;exact rfl;exact rfl;first|(exact hs_int 1 (by decide) (by decide)))|((with_reducible apply st_callg);exact rfl;exact rfl;(first|exact rfl|assumption);exact rfl;exact rfl;exact rfl;first|(exact hs_int 1 (by decide) (by decide))))
    refine awp_loop (fun m' s => ∃ v, (1 ≤ v ∧ v ≤ u + 1) ∧ m' = u + 1 - v ∧ s = accS 8 (.rats v fun i => .q (fst1 i)) [(1, .ptr 1 0 0), (5, .mat true g.n (fun _ => g.n) (fun i j => .q (gent g i j))), (6, .own 6 0), (7, .i ((u + 1 : Nat) : Int))] [(1, (1, fun _ => .ones 26 7 g.f)), (6, (1, fun _ => .ones WT u fun i => .row true (i + 1) fun j => .q (stq g (i + 1) j)))]) (u + 1 - 1) _ (acc_next (a := 23) rfl rfl rfl (blen rfl fun i hi => ?_) (by exact True.intro) rfl rfl ?_ ?_) ⟨1, ⟨Nat.le_refl _, by omega⟩, rfl, rfl⟩ ?_
    · obtain rfl : i = 0 := by omega
      rfl
    · exact alle rfl (Le.ptr (s1_ne (by decide))) rfl (alle rfl (Le.eq rfl rfl) True.intro (alle rfl (Le.own (s1_ne (by decide))) rfl (alle rfl (Le.eq rfl rfl) True.intro True.intro)))
    · exact allh rfl Nat.zero_lt_one (bleo rfl fun i hi => Le.same (g.fok _ i)) (fun i _ => g.fok _ i) (allh rfl Nat.zero_lt_one (bleo rfl fun _ _ => Le.eq rfl rfl) (fun _ _ => True.intro) True.intro)
    rintro m' s ⟨v, ⟨hv1, hv⟩, rfl, rfl⟩
    refine run0 ?_
    refine awp_if rfl (fun h2 => ?_) (fun h2 => ?_)
    · have h2 : (v : Int) < ((u + 1 : Nat) : Int) := h2
      have h2 : v < u + 1 := by omega
      have hv0 : RA.q 0 = RA.q (fst1 v) := congrArg RA.q (show (0 : Rat) = if v = 0 then 1 else 0 by rw [if_neg (by omega)])
      repeat(first|refine run1 ?_|((with_reducible apply st_call);exact rfl;exact rfl;exact rfl;first|(exact hs_zero))|((with_reducible apply st_callg);exact rfl;exact rfl;(first|exact rfl|assumption);exact rfl;exact rfl;exact rfl;first|(exact hs_zero)))
      refine q_loop (m' := u + 1 - (v + 1)) (by omega) (acc_next (a := 31) rfl rfl rfl (glue_one hv0) (by exact True.intro) rfl rfl ?_ ?_) ⟨v + 1, ⟨by omega, by omega⟩, rfl, rfl⟩
      · exact alle rfl (Le.ptr (s1_ne (by decide))) rfl (alle rfl (Le.eq rfl rfl) True.intro (alle rfl (Le.own (s1_ne (by decide))) rfl (alle rfl (Le.eq rfl rfl) True.intro True.intro)))
      · exact allh rfl Nat.zero_lt_one (bleo rfl fun i hi => Le.same (g.fok _ i)) (fun i _ => g.fok _ i) (allh rfl Nat.zero_lt_one (bleo rfl fun _ _ => Le.eq rfl rfl) (fun _ _ => True.intro) True.intro)
    have h2 : ¬ (v : Int) < ((u + 1 : Nat) : Int) := h2
    have ev : v = u + 1 := by omega
    subst ev
    repeat(first|(with_reducible first|refine awp_seq ?_|refine awp_block ?_|refine awp_skip ?_|refine awp_exit ?_|refine awp_ret ?_|refine q_then ?_|refine q_block ?_|refine q_then_exit ?_|refine q_then_ret ?_|refine q_block_exit ?_|refine q_block_ret ?_|refine q_loop_exit ?_|refine q_loop_ret ?_)|((with_reducible refine q_block_other ?_ ?_);exact rfl))
    refine awp_imp (imp_rowv 8 (fun i => .q (fst1 i)) rfl rfl rfl (fun i hi => rfl)) ?_
    have cs := r7_solve (hBB (u + 1) (by omega) (by omega)) (by omega) (by omega)
    rw [gdet_gec (by omega)] at cs
    have cs2 : ∀ r, Has Tryz.prog 33 [.mat false (u + 1) (fun _ => u + 1) (fun i j => .q (gec g i j)), .row false (u + 1) (fun i => .q (fst1 i))] r → Has Tryz.prog 33 [.mat false (u + 1) (fun _ => u + 1) (fun i j => .q (gent g i j)), .row false (u + 1) (fun i => .q (fst1 i))] r := fun r H =>
      Has.args H fun S B β w vs hv => rvs_cons (rv_mat fun i hi j hj => by rw [gec_in (by omega) (by omega)]) rvs_same hv
    have cs := cs2 _ cs
    have cc := r7_cut (n := g.n) (m := g.n) (k := u + 1) (F := gent g) (by omega) (by omega) n8
    by_cases hkk : u = K
    · subst hkk
      rw [if_pos (hzz h)] at cs
      rw [if_pos h, if_pos h]
      repeat(first|refine run1 ?_|((with_reducible apply st_call);exact rfl;exact rfl;exact rfl;first|(exact cc)|(exact cs))|((with_reducible apply st_callg);exact rfl;exact rfl;(first|exact rfl|assumption);exact rfl;exact rfl;exact rfl;first|(exact cc)|(exact cs)))
      refine awp_yes rfl rfl ?_
      refine run0 ?_
      exact ⟨.inr rfl, _, imp_matn 2 (fun i => i + 1) (fun i j => .q (stq g (i + 1) j)) rfl rfl rfl (fun i hi => rfl) rfl, .three (.tmp rfl) (.tmp rfl) (.tmp rfl)⟩
    · rw [if_neg (hnz u (by omega))] at cs
      have cs : Has Tryz.prog 33 [.mat false (u + 1) (fun _ => u + 1) (fun i j => .q (gent g i j)), .row false (u + 1) (fun i => .q (fst1 i))] (.tup (.row true (u + 1) fun i => .q (stq g (u + 1) i)) (.i 0)) := cs
      repeat(first|refine run1 ?_|((with_reducible apply st_call);exact rfl;exact rfl;exact rfl;first|(exact cc)|(exact cs))|((with_reducible apply st_callg);exact rfl;exact rfl;(first|exact rfl|assumption);exact rfl;exact rfl;exact rfl;first|(exact cc)|(exact cs)))
      refine awp_no rfl rfl ?_
      refine run0 ?_
      refine q_loop (m' := g.n - (u + 1)) (by omega) (acc_next (a := 47) rfl rfl rfl (glue_row (fun _ _ => Le.eq rfl rfl) (Le.eq rfl rfl)) (by exact fun _ _ => True.intro) rfl rfl ?_ ?_) ⟨u + 1, by omega, rfl, rfl⟩
      · exact alle rfl (Le.ptr (s1_ne (by decide))) rfl (alle rfl (Le.eq rfl rfl) True.intro (alle rfl (Le.eq rfl rfl) True.intro True.intro))
      · exact allh rfl Nat.zero_lt_one (bleo rfl fun i hi => Le.same (g.fok _ i)) (fun i _ => g.fok _ i) True.intro
  · have eK : K = u := by omega
    subst eK
    rw [if_neg (by omega), if_neg (by omega)]
    refine run0 ?_
    exact ⟨.inr rfl, _, imp_matn 2 (fun i => i + 1) (fun i j => .q (stq g (i + 1) j)) rfl rfl rfl (fun i hi => rfl) rfl, .three (.tmp rfl) (.tmp rfl) (.tmp rfl)⟩
end Go.Proofs.YtddkocidfhaofaaGreat.AM
/- Laws of leading parts: LevinBreaks, walked. -/
namespace Go.Proofs.YtddkocidfhaofaaGreat.AM
open Go Go.RowKit Go.Proofs.YtddkocidfhaofaaGreat.PN Go.Proofs.YtddkocidfhaofaaGreat.V
open Go.Proofs.YtddkocidfhaofaaGreat.LA (S S_succ S_zero S_congr app det unique)
set_option linter.unusedVariables false
set_option linter.unusedSimpArgs false
set_option maxRecDepth 8000
set_option maxHeartbeats 8000000
theorem ts_tb {g : GD} {b : Nat → Rat} (t : TS g b) : ∀ k, 0 < k → k ≤ g.n → TB k k 2400 (gec g) := fun k hk0 hk => by
  have n6 := t.n6; have hFt := t.Ft
  have h4 : 4 ^ (k - 1) ≤ 4 ^ 5 := Nat.pow_le_pow_right (by decide) (by omega)
  have e4 : 4 ^ 5 = 1024 := rfl
  exact TB.of hk0 (by decide) (hA := hFt) (by omega)
theorem k_lbreaks {n : Int} {ns bs : List Int} (hn : Fits .i64 n) (hz : AllFit ns) (hb : AllFit bs) : Has Tryz.prog 6 [.i n, .seq .i64 ns, .seq .i64 bs] (.b true) := by
  have m1 := k_mkt (n := n) (most := 6) (zs := ns) hn hz (by decide) (by decide)
  have t := ts_mkt (n := n) (most := 6) (zs := ns) (bs := bs) (by decide) (by decide)
  generalize mkt n ns 6 = g at *
  have ok := t.ok
  have n8 := ok.n8; have n1 := ok.n1; have ht := toe_gent t.k
  have r1 := k_row (zs := bs) (n := g.n) (by omega) hb
  have cm := Has.gec (r7_minors (ts_tb t) (by decide) n8)
  have wb : ∀ i, i < g.n → wt (rowq bs i) ≤ 100 := fun i _ => Nat.le_trans (ts_bw t i).le (by decide)
  have hG : ∀ k, k < g.n → gdet (k + 1) (gec g) = gdet (k + 1) (gent g) := fun k hk => gdet_gec (by omega)
  refine has_of Tryz.func6 (by kernel_rfl) rfl Tryz.ntmps6 Tryz.results6 rfl rfl rfl ?_
  repeat(first|refine run1p ?_|((with_reducible apply st_call);exact rfl;exact rfl;exact rfl;first|(exact k_known10))|((with_reducible apply st_callg);exact rfl;exact rfl;(first|exact rfl|assumption);exact rfl;exact rfl;exact rfl;first|(exact k_known10)))
  refine awp_no rfl rfl ?_
  repeat(first|refine run1p ?_|((with_reducible apply st_call);exact rfl;exact rfl;exact rfl;first|(exact m1)|(exact Has.ag (u' := g.f) (g7 rfl rfl rfl rfl rfl rfl rfl) (r5_expand ok))|(exact cm))|((with_reducible apply st_callg);exact rfl;exact rfl;(first|exact rfl|assumption);exact rfl;exact rfl;exact rfl;first|(exact m1)|(exact Has.ag (u' := g.f) (g7 rfl rfl rfl rfl rfl rfl rfl) (r5_expand ok))|(exact cm)))
  refine awp_loop (fun m' s => ∃ i L, (i ≤ g.n ∧ ((L = 0 ∧ ∀ k, i ≤ k → k < g.n → gdet (k + 1) (gent g) ≠ 0) ∨ (i < L ∧ L ≤ g.n ∧ gdet L (gent g) = 0 ∧ ∀ k, i ≤ k → k + 1 < L → gdet (k + 1) (gent g) ≠ 0))) ∧ m' = i ∧ s = stl [(2, .seq .i64 bs), (7, .ptr 7 0 0), (8, .row true g.n fun i => .q (gdet (i + 1) (gec g))), (9, .i ((L : Nat) : Int)), (10, .i (i : Int))] [(7, (1, fun _ => .ones 26 7 g.ft))]) g.n _ (imp_id ?_ ?_) ⟨g.n, 0, ⟨Nat.le_refl _, .inl ⟨rfl, fun k h1 h2 => by omega⟩⟩, rfl, rfl⟩ ?_
  · exact eA
  · exact allh rfl (by decide) (bleo rfl fun _ _ => Le.id rfl) (fun i _ => g.ftok _ i) True.intro
  rintro m' s ⟨i, L, ⟨hi, hL⟩, hm, rfl⟩
  refine run0p ?_
  refine awp_if rfl (fun h => ?_) (fun h => ?_)
  · obtain ⟨i, rfl⟩ : ∃ u, i = u + 1 := ⟨i - 1, by omega⟩
    have e1 : (((i + 1 : Nat) : Int) - 1).toNat = i := by omega
    have e2 : ((i + 1 : Nat) : Int) - 1 = (i : Int) := by omega
    have hgi := hG i (by omega)
    refine run0p ?_
    rw [e1]
    repeat(first|refine run1p ?_|((with_reducible apply st_call);exact rfl;exact rfl;exact rfl;first|(exact hs_nought))|((with_reducible apply st_callg);exact rfl;exact rfl;(first|exact rfl|assumption);exact rfl;exact rfl;exact rfl;first|(exact hs_nought)))
    refine awp_if rfl (fun h2 => ?_) (fun h2 => ?_)
    · have h2 : gdet (i + 1) (gec g) = 0 := h2
      refine run0p ?_
      rw [e2]
      refine q_loop ?_ (imp_id ?_ ?_) ⟨i, i + 1, ⟨by omega, .inr ⟨by omega, by omega, by rw [← hgi]; exact h2, fun k h3 h4 => by omega⟩⟩, rfl, rfl⟩
      · omega
      · exact eA
      · exact allh rfl (by decide) (bleo rfl fun _ _ => Le.id rfl) (fun i _ => g.ftok _ i) True.intro
    · have h2 : ¬ gdet (i + 1) (gec g) = 0 := h2
      rw [hgi] at h2
      refine run0p ?_
      rw [e2]
      refine q_loop ?_ (imp_id ?_ ?_) ⟨i, L, ⟨by omega, ?_⟩, rfl, rfl⟩
      · omega
      · exact eA
      · exact allh rfl (by decide) (bleo rfl fun _ _ => Le.id rfl) (fun i _ => g.ftok _ i) True.intro
      · rcases hL with ⟨h3, h4⟩ | ⟨h3, h4, h5, h6⟩
        · refine .inl ⟨h3, fun k h7 h8 => ?_⟩
          by_cases e : k = i
          · subst e; exact h2
          · exact h4 k (by omega) h8
        · refine .inr ⟨by omega, h4, h5, fun k h7 h8 => ?_⟩
          by_cases e : k = i
          · subst e; exact h2
          · exact h6 k (by omega) h8
  obtain rfl : i = 0 := by omega
  rcases lst_cases ht with ⟨_, h1, _⟩ | ⟨K, hK, _, hd, hz⟩
  · have nz := nz_lvd ht (Nat.le_refl _) h1
    have e0 : L = 0 := by
      rcases hL with ⟨h3, _⟩ | ⟨h3, h4, h5, _⟩
      · exact h3
      · have := nz (L - 1) (by omega)
        rw [show L - 1 + 1 = L by omega] at this
        exact absurd h5 this
    subst e0
    have cs := lv_solve (b := rowq bs) ok t.k wb h1
    have cp := lv_steps ok t.k (K := g.n) (Nat.le_refl _) h1 (fun h => absurd h (by omega))
    rw [if_neg (by omega), if_neg (by omega)] at cp
    have gE : decide ((g.n : Int) = g.n) = true := decide_eq_true rfl
    have gE2 : (decide ((g.n : Int) = g.n) == true) = true := by rw [gE]; rfl
    repeat(first|refine run1p ?_|((with_reducible apply st_call);exact rfl;exact rfl;exact rfl;first|(exact r1)|(exact Has.ag (u' := g.f) (g7 rfl rfl rfl rfl rfl rfl rfl) cs)|(exact Has.ag (u' := g.f) (g7 rfl rfl rfl rfl rfl rfl rfl) cp))|((with_reducible apply st_callg);exact rfl;exact rfl;(first|exact rfl|assumption);exact rfl;exact rfl;exact rfl;first|(exact r1)|(exact Has.ag (u' := g.f) (g7 rfl rfl rfl rfl rfl rfl rfl) cs)|(exact Has.ag (u' := g.f) (g7 rfl rfl rfl rfl rfl rfl rfl) cp)))
    refine awp_no rfl rfl ?_
    refine run0p ?_
    refine ⟨.inr rfl, _, Imp.refl _, .one (.tmp ?_)⟩
    show some (AV.b (decide ((g.n : Int) = g.n))) = some (AV.b true)
    rw [gE]
  · have nz := nz_lvd ht (Nat.le_of_lt hK) hd
    have hzz := z_lvd ht hK hd hz
    have e0 : L = K + 1 := by
      rcases hL with ⟨_, h4⟩ | ⟨h3, h4, h5, h6⟩
      · exact absurd hzz (h4 K (Nat.zero_le _) hK)
      · rcases Nat.lt_trichotomy L (K + 1) with h | h | h
        · have := nz (L - 1) (by omega)
          rw [show L - 1 + 1 = L by omega] at this
          exact absurd h5 this
        · exact h
        · exact absurd hzz (h6 K (Nat.zero_le _) (by omega))
    subst e0
    have cs := lv_solve_break (b := rowq bs) ok t.k wb hK hd hz
    have cp := lv_steps ok t.k (K := K) (Nat.le_of_lt hK) hd (fun _ => hz)
    rw [if_pos hK, if_pos hK] at cp
    have gE : decide (((K + 1 : Nat) : Int) = ((K + 1 : Nat) : Int)) = true := decide_eq_true rfl
    have gE2 : (decide (((K + 1 : Nat) : Int) = ((K + 1 : Nat) : Int)) == true) = true := by rw [gE]; rfl
    have gF : decide ((K : Int) = ((K + 1 : Nat) : Int) - 1) = true := decide_eq_true (by omega)
    repeat(first|refine run1p ?_|((with_reducible apply st_call);exact rfl;exact rfl;exact rfl;first|(exact r1)|(exact Has.ag (u' := g.f) (g7 rfl rfl rfl rfl rfl rfl rfl) cs)|(exact Has.ag (u' := g.f) (g7 rfl rfl rfl rfl rfl rfl rfl) cp))|((with_reducible apply st_callg);exact rfl;exact rfl;(first|exact rfl|assumption);exact rfl;exact rfl;exact rfl;first|(exact r1)|(exact Has.ag (u' := g.f) (g7 rfl rfl rfl rfl rfl rfl rfl) cs)|(exact Has.ag (u' := g.f) (g7 rfl rfl rfl rfl rfl rfl rfl) cp)))
    refine awp_yes rfl (decide_eq_true (by omega)) ?_
    refine run0p ?_
    refine ⟨.inr rfl, _, Imp.refl _, .one (.tmp ?_)⟩
    show some (AV.b (decide ((K : Int) = ((K + 1 : Nat) : Int) - 1))) = some (AV.b true)
    rw [gF]
end Go.Proofs.YtddkocidfhaofaaGreat.AM

/- Joined texts, 27: LawLc. -/
import Derived.Test.YtddkocidfhaofaaGreatJ23
import Derived.Test.YtddkocidfhaofaaGreatJ26
import Derived.Test.YtddkocidfhaofaaGreatJ25
set_option linter.unusedVariables false
set_option linter.unusedSimpArgs false
/- Laws of leading parts: LevinSteps, walked. -/
namespace Go.Proofs.YtddkocidfhaofaaGreat.AM
open Go Go.RowKit Go.Proofs.YtddkocidfhaofaaGreat.PN Go.Proofs.YtddkocidfhaofaaGreat.V
open Go.Proofs.YtddkocidfhaofaaGreat.LA (S S_succ S_zero S_congr app det unique)
set_option linter.unusedVariables false
set_option linter.unusedSimpArgs false
set_option maxRecDepth 8000
set_option maxHeartbeats 8000000
theorem lst_K {n : Nat} {F : Nat → Nat → Rat} (ht : LA.Toe n F) : ∃ K, K ≤ n ∧ (∀ k, k < K → lvd F k ≠ 0) ∧ (K < n → lvd F K = 0) := by
  rcases lst_cases ht with ⟨_, h1, _⟩ | ⟨K, hK, _, hd, hz⟩
  · exact ⟨n, Nat.le_refl _, h1, fun h => absurd h (by omega)⟩
  · exact ⟨K, Nat.le_of_lt hK, hd, fun _ => hz⟩
/-- What each step's vector is sent to. -/
theorem st_app {g : GD} (hk : g.k = 1) {i : Nat} (hi : i < g.n) (hd : ∀ k, k < i + 1 → lvd (gent g) k ≠ 0) : ∀ r, r < i + 1 → app (i + 1) (gent g) (fun j => lvf (gent g) (i + 1) j * 1) r = fst1 r := fun r hr => by
  have e : (fun j => lvf (gent g) (i + 1) j * 1) = lvf (gent g) (i + 1) := funext fun j => Rat.mul_one _
  rw [e]; exact (lv_two (toe_gent hk) i (by omega) hd).1.1 r hr
theorem st_same {g : GD} (hk : g.k = 1) {i : Nat} (hi : i < g.n) (hd : ∀ k, k < i + 1 → lvd (gent g) k ≠ 0) : ∀ j, j < i + 1 → lvf (gent g) (i + 1) j * 1 = stq g (i + 1) j := by
  have hnz : gdet (i + 1) (gent g) ≠ 0 := nz_lvd (K := i + 1) (toe_gent hk) (by omega) hd i (by omega)
  have h2 := (gt_nz (n := i + 1) (F := gec g) (b := fst1) (by rw [gdet_gec (by omega)]; exact hnz)).2.2
  refine unique (by rw [← gdet_det]; exact hnz) fun r hr => ?_
  rw [st_app hk hi hd r hr, ← h2 r hr]
  exact S_congr fun j hj => by rw [gec_in (by omega) (by omega)]; rfl
theorem st_wt {g : GD} {b : Nat → Rat} (t : TS g b) {i : Nat} (hi : i < g.n) (hd : ∀ k, k < i + 1 → lvd (gent g) k ≠ 0) : ∀ j, j < i + 1 → Wt (lvf (gent g) (i + 1) j * 1) 3 := fun j hj => by
  have hnz : gdet (i + 1) (gent g) ≠ 0 := nz_lvd (K := i + 1) (toe_gent t.k) (by omega) hd i (by omega)
  have n6 := t.n6
  exact ans_wt (F := gent g) (b := fst1) (x := fun j => lvf (gent g) (i + 1) j * 1) (fun a c ha hc => by rw [← gec_in (by omega) (by omega)]; exact t.F a c) (fun i _ => fst1_fq i) (by omega) (by rw [← gdet_det]; exact hnz) (st_app t.k hi hd) hj
theorem has_gecn {P : Program} {f : FuncId} {g : GD} {k : Nat} {xs : List AV} {r : AV} (hk : k ≤ g.n) (H : Has P f (.mat false k (fun _ => k) (fun i j => .q (gec g i j)) :: xs) r) : Has P f (.mat false k (fun _ => k) (fun i j => .q (gent g i j)) :: xs) r :=
  Has.args H fun S B β w vs hv => rvs_cons (rv_mat fun i hi j hj => by rw [gec_in (by omega) (by omega)]) rvs_same hv
theorem k_allv {n K : Nat} {m : Nat → Nat} {F G : Nat → Nat → Rat} (hf : ∀ i, i < n → ∀ j, j < m i → Wt (F i j) K) (hK1 : 1 ≤ K) (hK : K ≤ 1000000000000) (hn : n ≤ 1000) (hm : ∀ i, i < n → m i ≤ 1000) (h : ∀ i, i < n → ∀ j, j < m i → F i j = G i j) : Has Tryz.prog 11 [.mat false n m (fun i j => .q (F i j)), .mat false n m (fun i j => .q (G i j))] (.b true) := by
  refine has_of Tryz.func11 (by kernel_rfl) rfl Tryz.ntmps11 Tryz.results11 rfl rfl rfl ?_
  refine run0 ?_
  refine awp_no rfl (decide_eq_false (fun h => h rfl)) ?_
  refine run0 ?_
  refine awp_loop (fun m' s => ∃ k, k ≤ n ∧ m' = n - k ∧ s = stl [(0, .mat false n m (fun i j => .q (F i j))), (1, .mat false n m (fun i j => .q (G i j))), (5, .i (k : Int))] []) n _ (imp_id ?_ ?_) ⟨0, Nat.zero_le _, rfl, rfl⟩ ?_
  · exact eA
  · exact hA
  · rintro m' s ⟨k, hk, rfl, rfl⟩
    refine run0 ?_
    refine awp_if rfl (fun h1 => ?_) (fun h1 => ?_)
    · have h1 : k < n := by omega
      repeat(first|refine run1 ?_|((with_reducible apply st_call);exact rfl;exact rfl;exact rfl;first|(exact k_rowsb (K := K) (hf k h1) hK1 hK (hm k h1) (h k h1)))|((with_reducible apply st_callg);exact rfl;exact rfl;(first|exact rfl|assumption);exact rfl;exact rfl;exact rfl;first|(exact k_rowsb (K := K) (hf k h1) hK1 hK (hm k h1) (h k h1))))
      refine awp_no rfl rfl ?_
      refine run0 ?_
      refine q_loop ?_ (imp_id ?_ ?_) ⟨k + 1, ?_, rfl, rfl⟩
      · omega
      · exact eA
      · exact hA
      · omega
    · refine run0 ?_
      refine ⟨.inr rfl, _, Imp.refl _, ?_⟩
      exact .one (.tmp rfl)
def fsti (j : Nat) : Int := if j = 0 then 1 else 0
theorem k_first (j : Nat) : Has Tryz.prog 17 [.i (j : Int)] (.i (fsti j)) := by
  refine has_of Tryz.func17 (by kernel_rfl) rfl Tryz.ntmps17 Tryz.results17 rfl rfl rfl ?_
  refine run0 ?_
  refine awp_if rfl (fun h => ?_) (fun h => ?_)
  · have h : j = 0 := by omega
    subst h
    refine run0 ?_
    exact ⟨.inr rfl, _, Imp.refl _, .one (.tmp rfl)⟩
  · have e : fsti j = 0 := if_neg (by omega)
    rw [e]
    refine run0 ?_
    exact ⟨.inr rfl, _, Imp.refl _, .one (.tmp rfl)⟩
theorem k_lsteps {n kind : Int} {ns : List Int} (hn : Fits .i64 n) (hz : AllFit ns) (hk : Fits .i64 kind) : Has Tryz.prog 3 [.i n, .seq .i64 ns, .i kind] (.b true) := by
  have m1 := k_mkt (n := n) (most := 6) (zs := ns) hn hz (by decide) (by decide)
  have t := ts_mkt (n := n) (most := 6) (zs := ns) (bs := []) (by decide) (by decide)
  generalize mkt n ns 6 = g at *
  obtain ⟨q1, q2⟩ := wthn_lt (a := kind) (n := 6) (by decide)
  obtain ⟨C, hC⟩ : ∃ C : Nat, wthn kind 6 = (C : Int) := ⟨(wthn kind 6).toNat, by omega⟩
  have cw := k_within10 (a := kind) (n := 6) (by decide) (by decide)
  rw [hC] at cw q1 q2
  have m2 := k_mk (kind := 1 + (C : Int)) (n := n) (most := 3) (zs := ns) (by show _ ∧ _; omega) hn hz (by decide) (by decide)
  have pk : (mkg (1 + (C : Int)) n ns 3).k ≠ 1 := by
    show mkK (1 + (C : Int)) ≠ 1
    unfold mkK
    have e : wthn (1 + (C : Int)) 7 = 1 + (C : Int) := by unfold wthn; rw [Int.tmod_eq_of_lt (by omega) (by omega), if_neg (by omega)]
    rw [e]; omega
  generalize mkg (1 + (C : Int)) n ns 3 = o at *
  have ok := t.ok
  have n8 := ok.n8; have n1 := ok.n1
  have sk := lv_steps_kind pk
  have wF := ts_fw t
  obtain ⟨K, hK, hd, hz⟩ := lst_K (toe_gent t.k)
  have cp := lv_steps ok t.k hK hd hz
  have cr := r10_steps t hK hd hz
  generalize (if K < g.n then ((K + 1 : Nat) : Int) else 0) = a at *
  generalize (if K < g.n then (8 : Int) else 0) = e at *
  have f1 : decide (e ≠ e) = false := decide_eq_false fun h => h rfl
  have f2 : (decide (e ≠ e) == false) = true := by rw [f1]; rfl
  have f3 : decide (a ≠ a) = false := decide_eq_false fun h => h rfl
  have f4 : (decide (a ≠ a) == false) = true := by rw [f3]; rfl
  have ss : ∀ i, i < K → _ := fun i hi => st_same (g := g) (i := i) t.k (by omega) fun k hk => hd k (by omega)
  have sw : ∀ i, i < K → _ := fun i hi => st_wt (g := g) (i := i) t (by omega) fun k hk => hd k (by omega)
  have sa : ∀ i, i < K → _ := fun i hi => st_app (g := g) (i := i) t.k (by omega) fun k hk => hd k (by omega)
  have ca := k_allv (n := K) (K := 3) (m := fun i => i + 1) (F := fun i j => lvf (gent g) (i + 1) j * 1) (G := fun i j => stq g (i + 1) j) sw (by decide) (by decide) (by omega) (fun i hi => by omega) ss
  generalize lvf (gent g) = L at *
  refine has_of Tryz.func3 (by kernel_rfl) rfl Tryz.ntmps3 Tryz.results3 rfl rfl rfl ?_
  repeat(first|refine run1p ?_|((with_reducible apply st_call);exact rfl;exact rfl;exact rfl;first|(exact k_known10))|((with_reducible apply st_callg);exact rfl;exact rfl;(first|exact rfl|assumption);exact rfl;exact rfl;exact rfl;first|(exact k_known10)))
  refine awp_no rfl rfl ?_
  repeat(first|refine run1p ?_|((with_reducible apply st_call);exact rfl;exact rfl;exact rfl;first|(exact m1)|(exact Has.ag (u' := g.f) (g7 rfl rfl rfl rfl rfl rfl rfl) cp)|(exact Has.ag (u' := g.f) (g7 rfl rfl rfl rfl rfl rfl rfl) cr)|(exact ca))|((with_reducible apply st_callg);exact rfl;exact rfl;(first|exact rfl|assumption);exact rfl;exact rfl;exact rfl;first|(exact m1)|(exact Has.ag (u' := g.f) (g7 rfl rfl rfl rfl rfl rfl rfl) cp)|(exact Has.ag (u' := g.f) (g7 rfl rfl rfl rfl rfl rfl rfl) cr)|(exact ca)))
  refine awp_no rfl rfl ?_
  repeat(first|refine run1p ?_|((with_reducible apply st_call);exact rfl;exact rfl;exact rfl;first|(exact Has.ag (u' := g.f) (g7 rfl rfl rfl rfl rfl rfl rfl) (r5_expand ok)))|((with_reducible apply st_callg);exact rfl;exact rfl;(first|exact rfl|assumption);exact rfl;exact rfl;exact rfl;first|(exact Has.ag (u' := g.f) (g7 rfl rfl rfl rfl rfl rfl rfl) (r5_expand ok))))
  refine awp_loop (fun m' s => ∃ i, i ≤ K ∧ m' = K - i ∧ s = stl [(0, .i n), (1, .seq .i64 ns), (2, .i kind), (8, .mat true K (fun i => i + 1) (fun i j => .q (L (i + 1) j * 1))), (14, .mat true g.n (fun _ => g.n) (fun i j => .q (gent g i j))), (15, .i (i : Int))] []) K _ (imp_id ?_ ?_) ⟨0, Nat.zero_le _, rfl, rfl⟩ ?_
  · exact eA
  · exact hA
  rintro m' s ⟨i, hi, rfl, rfl⟩
  refine run0p ?_
  refine awp_if rfl (fun h => ?_) (fun h => ?_)
  · have h : i < K := by omega
    have cc : Has Tryz.prog 14 [.mat false g.n (fun _ => g.n) (fun i j => .q (gent g i j)), .i ((i : Int) + 1)] (.mat true (i + 1) (fun _ => i + 1) (fun i j => .q (gent g i j))) := r7_cut (n := g.n) (m := g.n) (k := i + 1) (F := gent g) (by omega) (by omega) n8
    have hsz : (i + 1) * (1 + 3 + 1) ≤ 8 * (1 + 3 + 1) := Nat.mul_le_mul_right _ (by omega)
    have ce := has_gecn (g := g) (k := i + 1) (by omega) (r7_applyb (n := i + 1) (m := i + 1) (F := gec g) (v := fun j => L (i + 1) j * 1) (hf := wF) (sw i h) (by decide) ⟨by omega, by decide⟩ (by omega) (by omega))
    have ha : ∀ r, r < i + 1 → (S (i + 1) fun j => gec g r j * (L (i + 1) j * 1)) = fst1 r := fun r hr => (S_congr fun j hj => by rw [gec_in (by omega) (by omega)]).trans (sa i h r hr)
    refine run0p ?_
    refine awp_no rfl (decide_eq_false fun h => h (show (((i + 1 : Nat) : Int)) = (i : Int) + 1 by omega)) ?_
    repeat(first|refine run1p ?_|((with_reducible apply st_call);exact rfl;exact rfl;exact rfl;first|(exact cc)|(exact ce))|((with_reducible apply st_callg);exact rfl;exact rfl;(first|exact rfl|assumption);exact rfl;exact rfl;exact rfl;first|(exact cc)|(exact ce)))
    refine awp_loop (fun m' s => ∃ j, j ≤ i + 1 ∧ m' = i + 1 - j ∧ s = stl [(0, .i n), (1, .seq .i64 ns), (2, .i kind), (8, .mat true K (fun i => i + 1) (fun i j => .q (L (i + 1) j * 1))), (14, .mat true g.n (fun _ => g.n) (fun i j => .q (gent g i j))), (15, .i (i : Int)), (16, .row true (i + 1) fun r => .q (S (i + 1) fun j => gec g r j * (L (i + 1) j * 1))), (17, .i (j : Int))] []) (i + 1) _ (imp_id ?_ ?_) ⟨0, Nat.zero_le _, rfl, rfl⟩ ?_
    · exact eA
    · exact hA
    rintro m' s ⟨j, hj, rfl, rfl⟩
    refine run0p ?_
    refine awp_if rfl (fun h2 => ?_) (fun h2 => ?_)
    · have h2 : j < i + 1 := by omega
      have ci : Has Tryz.prog 16 [.i (fsti j)] (.q (fst1 j)) := by
        by_cases e : j = 0
        · rw [show fsti j = 1 from if_pos e, show fst1 j = ((1 : Int) : Rat) from if_pos e]; exact hs_int 1 (by decide) (by decide)
        · rw [show fsti j = 0 from if_neg e, show fst1 j = ((0 : Int) : Rat) from if_neg e]; exact hs_int 0 (by decide) (by decide)
      have hb := ((fst1_bt j).wt (X := 1) (by decide)).le
      have cs := hs_same (p := S (i + 1) fun q => gec g j q * (L (i + 1) q * 1)) (q := fst1 j) (by rw [ha j h2]; omega) (by omega)
      rw [decide_eq_true (ha j h2)] at cs
      repeat(first|refine run1p ?_|((with_reducible apply st_call);exact rfl;exact rfl;exact rfl;first|(exact k_first j)|(exact ci)|(exact cs))|((with_reducible apply st_callg);exact rfl;exact rfl;(first|exact rfl|assumption);exact rfl;exact rfl;exact rfl;first|(exact k_first j)|(exact ci)|(exact cs)))
      refine awp_no rfl rfl ?_
      refine run0p ?_
      refine q_loop ?_ (imp_id ?_ ?_) ⟨j + 1, ?_, rfl, rfl⟩
      · omega
      · exact eA
      · exact hA
      · omega
    · refine run0p ?_
      refine q_loop ?_ (imp_id ?_ ?_) ⟨i + 1, ?_, rfl, rfl⟩
      · omega
      · exact eA
      · exact hA
      · omega
  · repeat(first|refine run1p ?_|((with_reducible apply st_call);exact rfl;exact rfl;exact rfl;first|(exact cw)|(exact m2)|(exact Has.ag (u' := o.f) (g7 rfl rfl rfl rfl rfl rfl rfl) sk))|((with_reducible apply st_callg);exact rfl;exact rfl;(first|exact rfl|assumption);exact rfl;exact rfl;exact rfl;first|(exact cw)|(exact m2)|(exact Has.ag (u' := o.f) (g7 rfl rfl rfl rfl rfl rfl rfl) sk)))
    exact ⟨.inr rfl, _, Imp.refl _, .one (.tmp rfl)⟩
end Go.Proofs.YtddkocidfhaofaaGreat.AM

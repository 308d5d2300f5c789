/- Joined texts, 21: TuC AmNf PLev PMin PCram LawO RowsB LawK LawP GenF GenG LvR TuD MkT LvT TuE LawTe. -/
import Derived.Test.YtdnmoggifjlbiaaGreatJLawTurnedKnown17
import Derived.Test.YtdnmoggifjlbiaaGreatJLawTurnedKnown18
import Derived.Test.YtdnmoggifjlbiaaGreatJLawTurnedKnown20
import Derived.Test.YtdnmoggifjlbiaaGreatJLawTurnedKnown13
import Derived.Test.YtdnmoggifjlbiaaGreatJLawTurnedKnown19
set_option linter.unusedVariables false
set_option linter.unusedSimpArgs false
/- Package turned: systems. -/
namespace Go.Proofs.YtdnmoggifjlbiaaGreat.AM
open Go Go.RowKit Go.Proofs.YtdnmoggifjlbiaaGreat.PN Go.Proofs.YtdnmoggifjlbiaaGreat.V
open Go.Proofs.YtdnmoggifjlbiaaGreat.LA (S S_succ S_zero S_congr)
set_option linter.unusedVariables false
set_option linter.unusedSimpArgs false
set_option maxRecDepth 8000
set_option maxHeartbeats 8000000
def fA2 (a b : Int) (i : Nat) : AV := [AV.i a, .i b].getD i (.v undef)
theorem t_of {g : GD} {m : Nat} {q : Nat → RA} (h : g.OK) : Has Tryz.prog 72 [g.v, .row false m q] (.ag 2 (fA2 g.k m)) := by
  refine has_of Tryz.func72 (by kernel_rfl) rfl Tryz.ntmps72 Tryz.results72 rfl (by rfl) rfl ?_
  refine run0p ?_
  refine ⟨.inr rfl, stl [(4, .ptr 4 0 0)] [(4, (1, fun _ => .ones 91 2 (fA2 g.k m)))], imp_id ?_ ?_, .one (.agg rfl rfl rfl rfl (by decide) rfl rfl)⟩
  · exact eA
  · refine allh rfl (by decide) (bleo rfl fun i hi => ?_) (fun i _ => ?_) True.intro
    · match i, hi with
      | 0, _ => exact Le.id rfl
      | 1, _ => exact Le.id rfl
    · match i with
      | 0 | 1 => trivial
      | _ + 2 => trivial
theorem t_fits (a b c d : Int) : Has Tryz.prog 73 [.ag 2 (fA2 a b), .ag 2 (fA2 c d)] (.i (if a = c then (if b = d then 0 else 3) else 2)) := by
  refine has_of Tryz.func73 (by kernel_rfl) rfl Tryz.ntmps73 Tryz.results73 rfl rfl rfl ?_
  by_cases h1 : a = c
  · by_cases h2 : b = d
    · rw [if_pos h1, if_pos h2]
      refine run0p ?_
      refine awp_yes rfl (by rw [decide_eq_true h1, decide_eq_true h2]; rfl) ?_
      refine run0p ?_
      exact ⟨.inr rfl, _, Imp.refl _, .one (.tmp rfl)⟩
    · rw [if_pos h1, if_neg h2]
      refine run0p ?_
      refine awp_no rfl (by rw [decide_eq_true h1, decide_eq_false h2]; rfl) ?_
      refine run0p ?_
      refine awp_no rfl (decide_eq_false fun h => h h1) ?_
      refine run0p ?_
      exact ⟨.inr rfl, _, Imp.refl _, .one (.tmp rfl)⟩
  · rw [if_neg h1]
    refine run0p ?_
    refine awp_no rfl (by rw [decide_eq_false h1]; rfl) ?_
    refine run0p ?_
    refine awp_yes rfl (decide_eq_true h1) ?_
    refine run0p ?_
    exact ⟨.inr rfl, _, Imp.refl _, .one (.tmp rfl)⟩
theorem t_circle1 {p : Rat} (hs : wt p ≤ 1000000000000) : Has Tryz.prog 75 [.q p] (.b false) := by
  refine has_of Tryz.func75 (by kernel_rfl) rfl Tryz.ntmps75 Tryz.results75 rfl rfl rfl ?_
  repeat(first|refine run1p ?_|((with_reducible apply st_call);exact rfl;exact rfl;exact rfl;first|(exact h_right hs))|((with_reducible apply st_callg);exact rfl;exact rfl;(first|exact rfl|assumption);exact rfl;exact rfl;exact rfl;first|(exact h_right hs)))
  exact ⟨.inr rfl, _, Imp.refl _, .one (.tmp rfl)⟩
theorem Has.gf2 {P : Program} {f : FuncId} {n : Nat} {u u' : Nat → AV} {r : AV} (h : ∀ i, i < n → u i = u' i) {c c' : Nat → AV} (k : ∀ i, i < n → c i = c' i) (H : Has P f [.ag n u', .ag n c'] r) : Has P f [.ag n u, .ag n c] r :=
  Has.args H fun S B β w vs hv => rvs_cons (rv_agv fun i hi v hv => h i hi ▸ hv) (fun us hu => rvs_cons (rv_agv fun i hi v hv => k i hi ▸ hv) (fun us hu => hu) hu) hv
theorem two2 {f f' : Nat → AV} (h0 : f 0 = f' 0) (h1 : f 1 = f' 1) : ∀ i, i < 2 → f i = f' i := fun i hi => by
  match i, hi with
  | 0, _ => exact h0
  | 1, _ => exact h1
theorem t_circle {g : GD} {b : Nat → Rat} (h : g.OK) (hk : g.k = 3) (hb : ∀ i, Wt (b i) 300) : Has Tryz.prog 36 [g.v, .row false g.n fun i => .q (b i)] (if gdet g.n (gec g) = 0 then .tup (.row true 0 fun _ => .q 0) (.i 9) else .tup (.row true g.n fun i => .q (gjx g.n (gec g) b i)) (.i 0)) := by
  have n1 := h.n1; have n8 := h.n8
  have hcl : (if gdet g.n (gec g) = 0 then AV.tup (.row true 0 fun _ => .q 0) (.i 9) else .tup (.row true g.n fun i => .q (gjx g.n (gec g) b i)) (.i 0)).closed = true := by split <;> rfl
  refine has_of Tryz.func36 (by kernel_rfl) rfl Tryz.ntmps36 Tryz.results36 rfl hcl rfl ?_
  have wF : ∀ i j, Wt (gec g i j) 300 := fun i j => gec_wt h i j
  have c1 := t_of (m := g.n) (q := fun i => .q (b i)) h
  have c2 := t_fits g.k g.n 3 g.n
  rw [if_pos (by omega), if_pos rfl] at c2
  have c3 := g_contains0 (n := g.n) (q := fun i => .q (b i)) (f := 75) (by omega) (fun i hi => t_circle1 (Nat.le_trans (hb i).le (by decide)))
  have c4 := d_solve (n := g.n) (F := gec g) (b := b) (hf := wF) (hb := hb) (by decide) n1 n8
  repeat(first|refine run1p ?_|((with_reducible apply st_call);exact rfl;exact rfl;exact rfl;first|(exact Has.ag (g7 rfl rfl rfl rfl rfl rfl rfl) c1)|(refine Has.gf2 (u' := fA2 g.k g.n) (c' := fA2 3 g.n) ?_ ?_ c2 <;> exact two2 rfl rfl))|((with_reducible apply st_callg);exact rfl;exact rfl;(first|exact rfl|assumption);exact rfl;exact rfl;exact rfl;first|(exact Has.ag (g7 rfl rfl rfl rfl rfl rfl rfl) c1)|(refine Has.gf2 (u' := fA2 g.k g.n) (c' := fA2 3 g.n) ?_ ?_ c2 <;> exact two2 rfl rfl)))
  refine awp_no rfl rfl ?_
  repeat(first|refine run1p ?_|((with_reducible apply st_call);exact rfl;exact rfl;exact rfl;first|(exact c3))|((with_reducible apply st_callg);exact rfl;exact rfl;(first|exact rfl|assumption);exact rfl;exact rfl;exact rfl;first|(exact c3)))
  refine awp_no rfl rfl ?_
  by_cases hd : gdet g.n (gec g) = 0
  · rw [if_pos hd] at c4 ⊢
    repeat(first|refine run1p ?_|((with_reducible apply st_call);exact rfl;exact rfl;exact rfl;first|(exact Has.ag (g7 rfl rfl rfl rfl rfl rfl rfl) (ge_expand h))|(exact Has.gec c4))|((with_reducible apply st_callg);exact rfl;exact rfl;(first|exact rfl|assumption);exact rfl;exact rfl;exact rfl;first|(exact Has.ag (g7 rfl rfl rfl rfl rfl rfl rfl) (ge_expand h))|(exact Has.gec c4)))
    exact ⟨.inr rfl, _, Imp.refl _, .two (.tmp rfl) (.tmp rfl)⟩
  · rw [if_neg hd] at c4 ⊢
    repeat(first|refine run1p ?_|((with_reducible apply st_call);exact rfl;exact rfl;exact rfl;first|(exact Has.ag (g7 rfl rfl rfl rfl rfl rfl rfl) (ge_expand h))|(exact Has.gec c4))|((with_reducible apply st_callg);exact rfl;exact rfl;(first|exact rfl|assumption);exact rfl;exact rfl;exact rfl;first|(exact Has.ag (g7 rfl rfl rfl rfl rfl rfl rfl) (ge_expand h))|(exact Has.gec c4)))
    exact ⟨.inr rfl, _, Imp.refl _, .two (.tmp rfl) (.tmp rfl)⟩
theorem sim_stl {W : Wd} {N : Nat} {β : Nat → Nat → Value} {w : World} {a : Act} {s : St} {e : List (Nat × AV)} {h : List (Nat × Fam)} (hs : Sim W N β w a s) (hn : W.F = none) (σ : Ren) (hinj : ∀ g r g' r', memN g (keys h) = true → memN g' (keys h) = true → σ g r = σ g' r' → g = g' ∧ r = r')
    (he : AllE s σ (fun g => memN g (keys h)) e) (hh : AllH s σ (fun g => memN g (keys h)) h) : Sim W N (ren σ β) w a (stl e h) := by
  have hown : ∀ i, Own (stl e h) (ren σ β) i → Own s β i := by
    rintro i ⟨g, n, F, r, h1, h2, h3⟩
    obtain ⟨n', F', a1, a2, _, _⟩ := hh.get (lkp_mem h1) r h2
    exact ⟨_, n', F', _, a1, a2, h3⟩
  have kg : Fwd (notOwn W s β) (notOwn W (stl e h) (ren σ β)) W.w.heap.size W.w.heap.size (fun g => memN g (keys h)) (ren σ β) (ren σ β) (fun _ => False) w w :=
    ⟨Ext.refl _ _, fun _ _ h => h, fun b hb _ => ⟨hb.1, fun ho => hb.2 (hown b ho)⟩, Nat.le_refl _, fun _ _ _ => rfl⟩
  refine ⟨hs.kept, hs.nodef, hs.size, fun t y hy => ?_, fun g n F r h1 h2 => ?_, fun g n F h1 => lkp_key h1, fun g n F r g' n' F' r' i h1 h2 h3 h4 h5 h6 => ?_, hs.fix, fun i ho => hs.pin i (hown i ho), fun u hu => (by rw [hn] at hu; cases hu), fun u hu => (by rw [hn] at hu; cases hu)⟩
  · obtain ⟨x, a1, a2, a3⟩ := he.get (lkp_mem hy)
    exact ⟨a3, (a2 _ _ _ _ _ (hs.env t x a1).2).fwd kg a3⟩
  · obtain ⟨n', F', a1, a2, a3, a4⟩ := hh.get (lkp_mem h1) r h2
    exact ⟨a4, RB.fwd kg a4 (fun _ _ h => h) (rb_ble a3 (hs.heap _ _ _ _ a1 a2).2)⟩
  · obtain ⟨m, G, a1, a2, _, _⟩ := hh.get (lkp_mem h1) r h2
    obtain ⟨m', G', b1, b2, _, _⟩ := hh.get (lkp_mem h3) r' h4
    have := hs.inj _ _ _ _ _ _ _ _ i a1 a2 b1 b2 h5 h6
    exact hinj g r g' r' (lkp_key h1) (lkp_key h3) (Prod.ext this.1 this.2)
/-- What a call has made, under other names. -/
theorem HasH.ren {P : Program} {f : FuncId} {xs : List AV} {r r' : AV} {h h' : List (Nat × Fam)} (H : HasH P f [] xs r h) (σ : Ren) (hinj : ∀ g q g' q', memN g (keys h') = true → memN g' (keys h') = true → σ g q = σ g' q' → g = g' ∧ q = q')
    (he : AllE (stl [(0, r)] h) σ (fun g => memN g (keys h')) [(0, r')]) (hh : AllH (stl [(0, r)] h) σ (fun g => memN g (keys h')) h') : HasH P f [] xs r' h' := by
  refine ⟨H.b, fun W β w vs hl hF hs => (H.run W β w vs hl hF hs).mono ?_⟩
  rintro e w' ⟨v, β', rfl, hs', _⟩
  have hn : W.F = none := by
    cases e : W.F with
    | none => rfl
    | some u => have := hs.keep u e 60 rfl; cases this
  exact ⟨v, AM.ren σ β', rfl, sim_stl hs' hn σ hinj he hh, fun g hg => by cases hg⟩
/-- .. of other words for the arguments. -/
theorem HasH.args0 {P : Program} {f : FuncId} {xs xs' : List AV} {r : AV} {h : List (Nat × Fam)} (H : HasH P f [] xs' r h) (hlen : xs'.length = xs.length) (hc : ∀ t x', lk xs' t = some x' → x'.ok (fun _ => false) ∧ ∃ x, lk xs t = some x ∧ ∀ S B β w v, RV S B β w x v → RV S B β w x' v) : HasH P f [] xs r h := by
  refine ⟨H.b, fun W β w vs hl hF hs => H.run W β w vs (hlen.trans hl) hF ?_⟩
  refine ⟨hs.kept, hs.nodef, hs.size, fun t x' hx => ?_, hs.heap, hs.live, hs.inj, hs.fix, hs.pin, hs.fixd, hs.keep⟩
  obtain ⟨h1, x, h2, h3⟩ := hc t x' hx
  exact ⟨ok_none h1, h3 _ _ _ _ _ (hs.env t x h2).2⟩
abbrev RVm (n : Nat) (f : Nat → Rat) : List (Nat × Fam) := [(60, (1, fun _ => .rats n fun i => .q (f i))), (61, (0, fun _ => .rats 0 fun _ => ra0)), (62, (0, fun _ => .rats 0 fun _ => ra0))]
theorem okf_rv {U : Nat → Bool} {n : Nat} {f : Nat → Rat} : okf U (RVm n f) := ⟨fun _ _ => True.intro, fun _ _ => True.intro, fun _ _ => True.intro, trivial⟩
theorem Le.tup3 {σ : Ren} {a b c a' b' c' : AV} (h1 : Le σ a a') (h2 : Le σ b b') (h3 : Le σ c c') : Le σ (.tup3 a b c) (.tup3 a' b' c') := by
  rintro S B β w v ⟨x, y, z, e, k1, k2, k3⟩
  exact ⟨x, y, z, e, h1 _ _ _ _ _ k1, h2 _ _ _ _ _ k2, h3 _ _ _ _ _ k3⟩
theorem lv_solver {g : GD} {b : Nat → Rat} (h : g.OK) (hk : g.k = 1) (hb : ∀ i, i < g.n → wt (b i) ≤ 100) (hd : ∀ k, k < g.n → lvd (gent g) k ≠ 0) : HasH Tryz.prog 81 [] [g.v, .row false g.n fun i => .q (b i)] (.tup3 (.own 60 0) (.i 0) (.i 0)) (RVm g.n (lvs (gent g) b g.n)) := by
  have hi : ∀ g1 r1 g2 r2, memN g1 [60, 61, 62] = true → memN g2 [60, 61, 62] = true → s1 60 63 g1 r1 = s1 60 63 g2 r2 → g1 = g2 ∧ r1 = r2 := s1_injl (by decide)
  refine (lv_solveo h hk hb hd).ren (s1 60 63) hi ⟨⟨_, rfl, Le.tup3 (Le.own s1_t) (Le.eq rfl rfl) (Le.eq rfl rfl), by exact ⟨rfl, True.intro, True.intro⟩⟩, True.intro⟩ ?_
  exact allh rfl Nat.zero_lt_one (blen rfl fun _ _ => rfl) True.intro (allz (allz True.intro))
/-- A list, turned about in place. -/
theorem t_reverse {n : Nat} {f : Nat → Rat} (h1 : 1 ≤ n) (hn : n ≤ 8) : HasH Tryz.prog 82 (RVm n f) [.own 60 0] (.v (.tuple #[])) (RVm n fun i => f (n - 1 - i)) := by
  refine hasH_of Tryz.func82 (by kernel_rfl) rfl Tryz.ntmps82 Tryz.results82 True.intro rfl rfl ?_
  refine run0p ?_
  refine st_ev rfl ⟨rfl, show -9223372036854775808 ≤ (n : Int) - 1 ∧ (n : Int) - 1 ≤ 9223372036854775807 by omega⟩ ?_
  refine run0p ?_
  refine awp_loop (fun m' s => ∃ i, 2 * i ≤ n + 1 ∧ m' = n - i ∧ s = stl [(0, .own 60 0), (2, .i (i : Int)), (3, .i ((n : Int) - 1 - i))] (RVm n fun k => if k < i ∨ n - 1 - i < k then f (n - 1 - k) else f k)) n _ (imp_id ?_ ?_) ⟨0, by omega, rfl, rfl⟩ ?_
  · exact alle rfl (Le.id rfl) rfl (alle rfl (Le.id rfl) True.intro (alle rfl (Le.id (congrArg AV.i (show (n : Int) - 1 = (n : Int) - 1 - ((0 : Nat) : Int) by omega))) True.intro True.intro))
  · refine allh rfl (by decide) (blen rfl fun k hk => ?_) True.intro (allz (allz True.intro))
    have hk : k < n := hk
    exact congrArg RA.q (show f k = if k < 0 ∨ n - 1 - 0 < k then f (n - 1 - k) else f k by rw [if_neg (by omega)])
  rintro m' s ⟨i, hi, rfl, rfl⟩
  refine run0p ?_
  refine awp_if rfl (fun h => ?_) (fun h => ?_)
  · have h : (i : Int) < (n : Int) - 1 - i := h
    have e1 : ((n : Int) - 1 - (i : Int)).toNat = n - 1 - i := by omega
    refine run0p ?_
    refine q_loop (m' := n - (i + 1)) (by omega) (imp_id ?_ ?_) ⟨i + 1, by omega, rfl, rfl⟩
    · exact alle rfl (Le.id rfl) rfl (alle rfl (Le.id rfl) True.intro (alle rfl (Le.id (congrArg AV.i (show (n : Int) - 1 - (i : Int) - 1 = (n : Int) - 1 - ((i + 1 : Nat) : Int) by omega))) True.intro True.intro))
    · refine allh rfl (by decide) (blen rfl fun k hk => ?_) True.intro (allz (allz True.intro))
      have hk : k < n := hk
      show updN (updN (fun k => RA.q (if k < i ∨ n - 1 - i < k then f (n - 1 - k) else f k)) i ((fun k => RA.q (if k < i ∨ n - 1 - i < k then f (n - 1 - k) else f k)) ((n : Int) - 1 - (i : Int)).toNat)) ((n : Int) - 1 - (i : Int)).toNat ((fun k => RA.q (if k < i ∨ n - 1 - i < k then f (n - 1 - k) else f k)) i) k = RA.q (if k < i + 1 ∨ n - 1 - (i + 1) < k then f (n - 1 - k) else f k)
      rw [e1]
      unfold updN
      by_cases c1 : k = n - 1 - i
      · subst c1
        rw [if_pos rfl, if_pos (by omega)]
        show RA.q (if i < i ∨ n - 1 - i < i then f (n - 1 - i) else f i) = _
        rw [if_neg (by omega), show n - 1 - (n - 1 - i) = i by omega]
      · rw [if_neg c1]
        by_cases c2 : k = i
        · subst c2
          rw [if_pos rfl, if_pos (by omega)]
          show RA.q (if n - 1 - k < k ∨ n - 1 - k < n - 1 - k then f (n - 1 - (n - 1 - k)) else f (n - 1 - k)) = _
          rw [if_neg (by omega)]
        · rw [if_neg c2]
          show RA.q (if k < i ∨ n - 1 - i < k then f (n - 1 - k) else f k) = _
          by_cases c3 : k < i ∨ n - 1 - i < k
          · rw [if_pos c3, if_pos (by omega)]
          · rw [if_neg c3, if_neg (by omega)]
  · have h : ¬ (i : Int) < (n : Int) - 1 - i := h
    refine run0p ?_
    refine ⟨.inl rfl, [], imp_id ?_ ?_, .none⟩
    · exact eA
    · refine allh rfl (by decide) (blen rfl fun k hk => ?_) True.intro (allz (allz True.intro))
      have hk : k < n := hk
      refine congrArg RA.q (show (if k < i ∨ n - 1 - i < k then f (n - 1 - k) else f k) = f (n - 1 - k) from ?_)
      by_cases c : k < i ∨ n - 1 - i < k
      · rw [if_pos c]
      · rw [if_neg c, show n - 1 - k = k by omega]
theorem t_hankel {g : GD} {b : Nat → Rat} (h : g.OK) (hk : g.k = 2) (hb : ∀ i, i < g.n → wt (b i) ≤ 100) (hd : ∀ k, k < g.n → lvd (gent (gT g)) k ≠ 0) : Has Tryz.prog 45 [g.v, .row false g.n fun i => .q (b i)] (.tup3 (.row true g.n fun i => .q (lvs (gent (gT g)) b g.n (g.n - 1 - i))) (.i 0) (.i 0)) := by
  have n1 := h.n1; have n8 := h.n8
  have c1 := t_of (m := g.n) (q := fun i => .q (b i)) h
  have c2 := t_fits g.k g.n 2 g.n
  rw [if_pos (by omega), if_pos rfl] at c2
  have cs : HasH Tryz.prog 81 [] [(gT g).v, .row false g.n fun i => .q (b i)] (.tup3 (.own 60 0) (.i 0) (.i 0)) (RVm g.n (lvs (gent (gT g)) b g.n)) := lv_solver (gT_ok h (by omega)) rfl hb hd
  have cs2 : HasH Tryz.prog 81 [] [AV.old (gTv g), .row false g.n fun i => .q (b i)] (.tup3 (.own 60 0) (.i 0) (.i 0)) (RVm g.n (lvs (gent (gT g)) b g.n)) := cs.args0 rfl fun t x' ht => by
    match t, ht with
    | 0, ht => cases ht; exact ⟨fun i _ => (gT g).fok _ i, _, rfl, fun S B β w v hv => rv_agv (f' := (gT g).f) (gT_args rfl rfl rfl rfl (fun i hi => rfl) rfl rfl rfl) v hv⟩
    | 1, ht => cases ht; exact ⟨trivial, _, rfl, fun S B β w v hv => hv⟩
    | _ + 2, ht => cases ht
  refine has_of Tryz.func45 (by kernel_rfl) rfl Tryz.ntmps45 Tryz.results45 rfl rfl rfl ?_
  repeat(first|refine run1p ?_|((with_reducible apply st_call);exact rfl;exact rfl;exact rfl;first|(exact Has.ag (g7 rfl rfl rfl rfl rfl rfl rfl) c1)|(refine Has.gf2 (u' := fA2 g.k g.n) (c' := fA2 2 g.n) ?_ ?_ c2 <;> exact two2 rfl rfl))|((with_reducible apply st_callg);exact rfl;exact rfl;(first|exact rfl|assumption);exact rfl;exact rfl;exact rfl;first|(exact Has.ag (g7 rfl rfl rfl rfl rfl rfl rfl) c1)|(refine Has.gf2 (u' := fA2 g.k g.n) (c' := fA2 2 g.n) ?_ ?_ c2 <;> exact two2 rfl rfl)))
  refine awp_no rfl rfl ?_
  repeat(first|refine run1p ?_|((with_reducible apply st_call);exact rfl;exact rfl;exact rfl;first|(exact Has.ag (g7 rfl rfl rfl rfl rfl rfl rfl) (t_toe h (by omega))))|((with_reducible apply st_callg);exact rfl;exact rfl;(first|exact rfl|assumption);exact rfl;exact rfl;exact rfl;first|(exact Has.ag (g7 rfl rfl rfl rfl rfl rfl rfl) (t_toe h (by omega)))))
  ((with_reducible apply st_callH); exact rfl; exact rfl; exact rfl; exact (cs2); (first | exact True.intro | exact ⟨rfl, rfl, rfl, True.intro⟩); exact rfl; exact rfl; exact rfl; exact rfl; (focus (repeat (first | exact True.intro | refine ⟨(by first | exact True.intro | rfl | exact ok_none (closed_ok rfl)), ?_⟩))); (first | exact True.intro | exact okf_WH | exact okf_pf (by exact True.intro) (by exact True.intro)))
  refine run0p ?_
  refine awp_no rfl rfl ?_
  refine run0p ?_
  ((with_reducible apply st_callH); exact rfl; exact rfl; exact rfl; exact (t_reverse (f := lvs (gent (gT g)) b g.n) n1 n8); (first | exact True.intro | exact ⟨rfl, rfl, rfl, True.intro⟩); exact rfl; exact rfl; exact rfl; exact rfl; (focus (repeat (first | exact True.intro | refine ⟨(by first | exact True.intro | rfl | exact ok_none (closed_ok rfl)), ?_⟩))); exact okf_rv)
  refine run0p ?_
  exact ⟨.inr rfl, _, imp_rowv 4 (fun i => .q (lvs (gent (gT g)) b g.n (g.n - 1 - i))) rfl rfl rfl (fun i hi => rfl), .three (.tmp rfl) (.tmp rfl) (.tmp rfl)⟩
theorem t_hankel_break {g : GD} {b : Nat → Rat} (h : g.OK) (hk : g.k = 2) (hb : ∀ i, i < g.n → wt (b i) ≤ 100) {K : Nat} (hK : K < g.n) (hd : ∀ k, k < K → lvd (gent (gT g)) k ≠ 0) (hz : lvd (gent (gT g)) K = 0) : Has Tryz.prog 45 [g.v, .row false g.n fun i => .q (b i)] (.tup3 (.v (.slice none 0 0)) (.i ((K + 1 : Nat) : Int)) (.i 8)) := by
  have n1 := h.n1; have n8 := h.n8
  have c1 := t_of (m := g.n) (q := fun i => .q (b i)) h
  have c2 := t_fits g.k g.n 2 g.n
  rw [if_pos (by omega), if_pos rfl] at c2
  have cs : Has Tryz.prog 81 [(gT g).v, .row false g.n fun i => .q (b i)] (.tup3 (.v (.slice none 0 0)) (.i ((K + 1 : Nat) : Int)) (.i 8)) := lv_solve_break (gT_ok h (by omega)) rfl hb hK hd hz
  refine has_of Tryz.func45 (by kernel_rfl) rfl Tryz.ntmps45 Tryz.results45 rfl rfl rfl ?_
  repeat(first|refine run1p ?_|((with_reducible apply st_call);exact rfl;exact rfl;exact rfl;first|(exact Has.ag (g7 rfl rfl rfl rfl rfl rfl rfl) c1)|(refine Has.gf2 (u' := fA2 g.k g.n) (c' := fA2 2 g.n) ?_ ?_ c2 <;> exact two2 rfl rfl))|((with_reducible apply st_callg);exact rfl;exact rfl;(first|exact rfl|assumption);exact rfl;exact rfl;exact rfl;first|(exact Has.ag (g7 rfl rfl rfl rfl rfl rfl rfl) c1)|(refine Has.gf2 (u' := fA2 g.k g.n) (c' := fA2 2 g.n) ?_ ?_ c2 <;> exact two2 rfl rfl)))
  refine awp_no rfl rfl ?_
  repeat(first|refine run1p ?_|((with_reducible apply st_call);exact rfl;exact rfl;exact rfl;first|(exact Has.ag (g7 rfl rfl rfl rfl rfl rfl rfl) (t_toe h (by omega)))|(exact Has.agv (u' := (gT g).f) (fun S B β w => gT_args rfl rfl rfl rfl (fun i hi => rfl) rfl rfl rfl) cs))|((with_reducible apply st_callg);exact rfl;exact rfl;(first|exact rfl|assumption);exact rfl;exact rfl;exact rfl;first|(exact Has.ag (g7 rfl rfl rfl rfl rfl rfl rfl) (t_toe h (by omega)))|(exact Has.agv (u' := (gT g).f) (fun S B β w => gT_args rfl rfl rfl rfl (fun i hi => rfl) rfl rfl rfl) cs)))
  refine awp_yes rfl rfl ?_
  refine run0p ?_
  exact ⟨.inr rfl, _, Imp.refl _, .three (.tmp rfl) (.tmp rfl) (.tmp rfl)⟩
end Go.Proofs.YtdnmoggifjlbiaaGreat.AM
/- A slice of nothing, in a struct's cell, that is laid behind. -/
namespace Go.Proofs.YtdnmoggifjlbiaaGreat.AM
open Go Go.RowKit Go.Proofs.YtdnmoggifjlbiaaGreat.PN Go.Proofs.YtdnmoggifjlbiaaGreat.V
set_option linter.unusedVariables false
set_option linter.unusedSimpArgs false
end Go.Proofs.YtdnmoggifjlbiaaGreat.AM
/- Systems by leading parts: the plain laws. -/
namespace Go.Proofs.YtdnmoggifjlbiaaGreat.AM
open Go.Proofs.YtdnmoggifjlbiaaGreat.PN
open Go.Proofs.YtdnmoggifjlbiaaGreat.LA (Mt S S_succ S_zero S_congr app app_sub app_mul app_add det Toe Two two_step two_minor two_break longer later app_longer)
set_option linter.unusedVariables false
set_option linter.unusedSimpArgs false
set_option maxRecDepth 8000
set_option maxHeartbeats 8000000
variable {n : Nat} {F : Nat → Nat → Rat}
/-- The least leading minor that is nought. -/
noncomputable def lstD (F : Nat → Nat → Rat) (n : Nat) : Nat := if fnd (fun k => gdet (k + 1) F = 0) n 0 < n then fnd (fun k => gdet (k + 1) F = 0) n 0 + 1 else 0
end Go.Proofs.YtdnmoggifjlbiaaGreat.AM
/- Drawn systems: how long their entries are, by bits. -/
namespace Go.Proofs.YtdnmoggifjlbiaaGreat.AM
open Go.Proofs.YtdnmoggifjlbiaaGreat.PN
open Go.Proofs.YtdnmoggifjlbiaaGreat.LA (S S_succ S_zero S_congr)
set_option linter.unusedVariables false
set_option linter.unusedSimpArgs false
set_option maxRecDepth 8000
set_option maxHeartbeats 8000000
/-- So many parts of one size. -/
def Fq (D M : Nat) (q : Rat) : Prop := ∃ z : Int, q = (z : Rat) / ((D : Int) : Rat) ∧ z.natAbs ≤ M
theorem Fq.bt {D M k : Nat} {q : Rat} (h : Fq D M q) (hD : D ≠ 0) (h1 : M < 2 ^ k) (h2 : D < 2 ^ k) : Bt q k := by
  obtain ⟨z, rfl, hz⟩ := h
  have e : (z : Rat) / ((D : Int) : Rat) = PN.mk (decide (z < 0)) z.natAbs D := by
    unfold PN.mk
    have h6 : PN.sg (decide (z < 0)) z.natAbs = z := by
      unfold PN.sg
      by_cases h : z < 0
      · rw [decide_eq_true h]; simp; omega
      · rw [decide_eq_false h]; simp; omega
    rw [h6, Rat.mkRat_eq_div]
    rfl
  rw [e]
  exact Bt.of_mk _ hD (by omega) h2
theorem Fq.mul {D M D' M' : Nat} {p q : Rat} (h : Fq D M p) (k : Fq D' M' q) : Fq (D * D') (M * M') (p * q) := by
  obtain ⟨z, rfl, hz⟩ := h
  obtain ⟨y, rfl, hy⟩ := k
  refine ⟨z * y, ?_, by rw [Int.natAbs_mul]; exact Nat.mul_le_mul hz hy⟩
  rw [Rat.intCast_mul, show ((D * D' : Nat) : Int) = (D : Int) * (D' : Int) from Int.natCast_mul D D', Rat.intCast_mul, Rat.div_def, Rat.div_def, Rat.div_def, Rat.inv_mul_rev]
  rw [Rat.mul_assoc, Rat.mul_assoc, ← Rat.mul_assoc (_)⁻¹ (y : Rat), Rat.mul_comm (_)⁻¹ (y : Rat), Rat.mul_assoc (y : Rat), Rat.mul_comm ((D : Int) : Rat)⁻¹]
theorem Fq.add {D M M' : Nat} {p q : Rat} (h : Fq D M p) (k : Fq D M' q) : Fq D (M + M') (p + q) := by
  obtain ⟨z, rfl, hz⟩ := h
  obtain ⟨y, rfl, hy⟩ := k
  refine ⟨z + y, ?_, by omega⟩
  rw [Rat.intCast_add, Rat.div_def, Rat.div_def, Rat.div_def, Rat.add_mul]
theorem Fq.zero (D : Nat) : Fq D 0 0 := ⟨0, by rw [Rat.div_def]; simp, Nat.le_refl _⟩
theorem Fq.mono {D M M' : Nat} {q : Rat} (h : Fq D M q) (k : M ≤ M') : Fq D M' q := by
  obtain ⟨z, e, hz⟩ := h
  exact ⟨z, e, Nat.le_trans hz k⟩
theorem Fq.sum {D M n : Nat} {f : Nat → Rat} (h : ∀ i, i < n → Fq D M (f i)) : Fq D (n * M) (S n f) := by
  induction n with
  | zero => rw [Nat.zero_mul]; exact Fq.zero D
  | succ n ih => rw [Nat.succ_mul]; exact (ih fun i hi => h i (by omega)).add (h n (by omega))
/-- A system whose numbers are small. -/
structure Sml5 (g : GD) : Prop where
  n : g.n ≤ 8
  r : g.r ≤ 2
  A : ∀ i, i < g.la → Bt (g.A i) 5
  B : ∀ i, i < g.lb → Bt (g.B i) 13
  G : ∀ i, i < g.lg → Fq 60 1200 (g.G i)
  H : ∀ i, i < g.lh → Fq 60 1200 (g.H i)
end Go.Proofs.YtdnmoggifjlbiaaGreat.AM
/- Answers of small systems: how long they are. -/
namespace Go.Proofs.YtdnmoggifjlbiaaGreat.AM
open Go.Proofs.YtdnmoggifjlbiaaGreat.PN
open Go.Proofs.YtdnmoggifjlbiaaGreat.LA (Mt S S_succ S_zero S_congr app det cupd cupd_at cupd_ne cramer)
set_option linter.unusedVariables false
set_option linter.unusedSimpArgs false
set_option maxRecDepth 8000
set_option maxHeartbeats 8000000
theorem Fq.sg (i : Nat) : Fq 1 1 (LA.sg i) := by
  unfold LA.sg
  split
  · exact ⟨1, by decide +kernel, by decide⟩
  · exact ⟨-1, by decide +kernel, by decide⟩
def fac : Nat → Nat
  | 0 => 1
  | n + 1 => (n + 1) * fac n
end Go.Proofs.YtdnmoggifjlbiaaGreat.AM
/- The document's way to solve: walked. -/
namespace Go.Proofs.YtdnmoggifjlbiaaGreat.AM
open Go Go.RowKit Go.Proofs.YtdnmoggifjlbiaaGreat.PN Go.Proofs.YtdnmoggifjlbiaaGreat.V
open Go.Proofs.YtdnmoggifjlbiaaGreat.LA (S S_succ S_zero S_congr)
set_option linter.unusedVariables false
set_option linter.unusedSimpArgs false
set_option maxRecDepth 8000
set_option maxHeartbeats 8000000
/-- The answer, as far as it is known: the last k parts. -/
def xs (n : Nat) (P : Nat → Nat → Rat) (k i : Nat) : RA := if n - k ≤ i then .q (bsx n P k i) else ra0
structure BB (n : Nat) (F : Nat → Nat → Rat) (b : Nat → Rat) (X : Nat → Nat) : Prop where
  tb : TB n (n + 1) 2400 (augb n F b)
  P : ∀ i, i < n → ∀ j, Wt (PR (gt n F b) i j) (X i)
  ok : ybOK n X = true
end Go.Proofs.YtdnmoggifjlbiaaGreat.AM
/- Rows that are the same: the rest. -/
namespace Go.Proofs.YtdnmoggifjlbiaaGreat.AM
open Go Go.RowKit Go.Proofs.YtdnmoggifjlbiaaGreat.PN Go.Proofs.YtdnmoggifjlbiaaGreat.V
open Go.Proofs.YtdnmoggifjlbiaaGreat.LA (S S_succ S_zero S_congr)
set_option linter.unusedVariables false
set_option linter.unusedSimpArgs false
set_option maxRecDepth 4000
set_option maxHeartbeats 4000000
theorem k_rowsb {n K : Nat} {f g : Nat → Rat} (hf : ∀ i, i < n → Wt (f i) K) (hK1 : 1 ≤ K) (hK : K ≤ 1000000000000) (hn : n ≤ 1000) (h : ∀ i, i < n → f i = g i) : Has Tryz.prog 19 [.row false n (fun i => .q (f i)), .row false n (fun i => .q (g i))] (.b true) := by
  have w : ∀ i, Wt (if i < n then f i else 0) K := fun i => by
    split
    · rename_i h; exact hf i h
    · exact (inferInstance : Wt 0 1).mono hK1
  refine Has.args (k_rows (f := fun i => if i < n then f i else 0) (g := fun i => if i < n then f i else 0) (hf := w) hK hn (fun _ _ => rfl)) fun S B β w vs hv => rvs_cons (rv_row fun i hi => ?_) (fun us hu => rvs_cons (rv_row fun i hi => ?_) (fun us hu => hu) hu) hv
  · rw [if_pos hi]
  · rw [if_pos hi, h i hi]
end Go.Proofs.YtdnmoggifjlbiaaGreat.AM
/- Laws of dense matrices: DenseOps, walked. -/
namespace Go.Proofs.YtdnmoggifjlbiaaGreat.AM
open Go Go.RowKit Go.Proofs.YtdnmoggifjlbiaaGreat.PN Go.Proofs.YtdnmoggifjlbiaaGreat.V
open Go.Proofs.YtdnmoggifjlbiaaGreat.LA (S S_succ S_zero S_congr)
set_option linter.unusedVariables false
set_option linter.unusedSimpArgs false
set_option maxRecDepth 8000
set_option maxHeartbeats 8000000
instance mbase_bt (n : Nat) (zs : List Int) (i j : Nat) : Bt (mbase n zs i j) 5 := rowq_bt _ _
end Go.Proofs.YtdnmoggifjlbiaaGreat.AM
/- Laws of dense matrices: DenseSolves, walked. -/
namespace Go.Proofs.YtdnmoggifjlbiaaGreat.AM
open Go Go.RowKit Go.Proofs.YtdnmoggifjlbiaaGreat.PN Go.Proofs.YtdnmoggifjlbiaaGreat.V
open Go.Proofs.YtdnmoggifjlbiaaGreat.LA (S S_succ S_zero S_congr app)
set_option linter.unusedVariables false
set_option linter.unusedSimpArgs false
set_option maxRecDepth 8000
set_option maxHeartbeats 8000000
theorem augb_bt {n K : Nat} {F : Nat → Nat → Rat} {b : Nat → Rat} [hf : ∀ i j, Bt (F i j) K] [hb : ∀ i, Bt (b i) K] (i j : Nat) : Bt (augb n F b i j) K := by
  unfold augb aug; split
  · exact hf i j
  · exact hb _
/-- How long rows are: of so many bits. -/
def xbd (K i : Nat) : Nat := 4 ^ i * (K + 1) / 32 + 1
theorem BB.of {n K : Nat} {F : Nat → Nat → Rat} {b : Nat → Rat} (h0 : 0 < n) (hK : 1 ≤ K) (hX : 3 * (4 ^ (n - 1) * (K + 1)) / 32 + 1 ≤ 2400) [hf : ∀ i j, Bt (F i j) K] [hb : ∀ i, Bt (b i) K] (hok : ybOK n (xbd K) = true) : BB n F b (xbd K) := by
  have hA : ∀ i j, Bt (augb n F b i j) K := fun i j => augb_bt (hf := hf) (hb := hb) i j
  refine ⟨TB.of h0 hK (hA := hA) hX, fun i hi j => ?_, hok⟩
  have h := pr_bits (n := n) (m := n + 1) hK (hA := hA) n i hi j
  have h2 : 4 ^ (min i (stps n (n + 1) false (augb n F b) n).at') * (K + 1) - 1 ≤ 4 ^ i * (K + 1) := by
    have := Nat.mul_le_mul_right (K + 1) (Nat.pow_le_pow_right (show 0 < 4 by decide) (Nat.min_le_left i (stps n (n + 1) false (augb n F b) n).at'))
    omega
  exact (h.mono h2).wt (Nat.le_refl _)
end Go.Proofs.YtdnmoggifjlbiaaGreat.AM
/- The document's systems: entries. -/
namespace Go.Proofs.YtdnmoggifjlbiaaGreat.AM
open Go Go.RowKit Go.Proofs.YtdnmoggifjlbiaaGreat.PN Go.Proofs.YtdnmoggifjlbiaaGreat.V
open Go.Proofs.YtdnmoggifjlbiaaGreat.LA (S S_succ S_zero S_congr)
set_option linter.unusedVariables false
set_option linter.unusedSimpArgs false
set_option maxRecDepth 8000
set_option maxHeartbeats 8000000
end Go.Proofs.YtdnmoggifjlbiaaGreat.AM
/- The document's systems: the whole matrix. -/
namespace Go.Proofs.YtdnmoggifjlbiaaGreat.AM
open Go Go.RowKit Go.Proofs.YtdnmoggifjlbiaaGreat.PN Go.Proofs.YtdnmoggifjlbiaaGreat.V
open Go.Proofs.YtdnmoggifjlbiaaGreat.LA (S S_succ S_zero S_congr)
set_option linter.unusedVariables false
set_option linter.unusedSimpArgs false
set_option maxRecDepth 8000
set_option maxHeartbeats 8000000
end Go.Proofs.YtdnmoggifjlbiaaGreat.AM
/- The document's chapter 10: the least leading minor that is nought; systems. -/
namespace Go.Proofs.YtdnmoggifjlbiaaGreat.AM
open Go Go.RowKit Go.Proofs.YtdnmoggifjlbiaaGreat.PN Go.Proofs.YtdnmoggifjlbiaaGreat.V
open Go.Proofs.YtdnmoggifjlbiaaGreat.LA (S S_succ S_zero S_congr app det unique)
set_option linter.unusedVariables false
set_option linter.unusedSimpArgs false
set_option maxRecDepth 8000
set_option maxHeartbeats 8000000
/-- What is known of a small Toeplitz system, and of a right side. -/
structure TS (g : GD) (b : Nat → Rat) : Prop where
  ok : g.OK
  k : g.k = 1
  n6 : g.n ≤ 6
  F : ∀ i j, Fq 60 1200 (gec g i j)
  Ft : ∀ i j, Bt (gec g i j) 5
  bq : ∀ i, Fq 60 1200 (b i)
  bt : ∀ i, Bt (b i) 5
end Go.Proofs.YtdnmoggifjlbiaaGreat.AM
/- The document's chapter 12; what law 12 knows. -/
namespace Go.Proofs.YtdnmoggifjlbiaaGreat.AM
open Go Go.RowKit Go.Proofs.YtdnmoggifjlbiaaGreat.PN Go.Proofs.YtdnmoggifjlbiaaGreat.V
open Go.Proofs.YtdnmoggifjlbiaaGreat.LA (S S_succ S_zero S_congr)
set_option linter.unusedVariables false
set_option linter.unusedSimpArgs false
set_option maxRecDepth 8000
set_option maxHeartbeats 8000000
end Go.Proofs.YtdnmoggifjlbiaaGreat.AM
/- Systems that are drawn: Toeplitz ones with small whole numbers now and then. -/
namespace Go.Proofs.YtdnmoggifjlbiaaGreat.AM
open Go Go.RowKit Go.Proofs.YtdnmoggifjlbiaaGreat.PN Go.Proofs.YtdnmoggifjlbiaaGreat.V
open Go.Proofs.YtdnmoggifjlbiaaGreat.LA (S S_succ S_zero S_congr)
set_option linter.unusedVariables false
set_option linter.unusedSimpArgs false
set_option maxRecDepth 8000
set_option maxHeartbeats 8000000
/-- Small whole numbers. -/
def trA (zs : List Int) (i : Nat) : Rat := ((wthn (if i < zs.length then (zs.getD i 0).tdiv 2 else (i : Int)) 3 - 1 : Int) : Rat)
def trB (zs : List Int) : Bool := decide (0 < zs.length) && decide (wthn (zs.getD 0 0) 2 = 0)
def mkt (n : Int) (zs : List Int) (most : Int) : GD := let g := mkg 0 n zs most; { g with A := fun i => if trB zs then trA zs i else g.A i }
/-- A system's struct with another first row. -/
def GD.fA (g : GD) (x : AV) (i : Nat) : AV := [AV.i g.k, .i g.n, .i g.r, x, .row true g.lb (fun i => .q (g.B i)), .row true g.lg (fun i => .q (g.G i)), .row true g.lh (fun i => .q (g.H i))].getD i (.v undef)
end Go.Proofs.YtdnmoggifjlbiaaGreat.AM
/- Drawn Toeplitz systems: how long their numbers are; answers. -/
namespace Go.Proofs.YtdnmoggifjlbiaaGreat.AM
open Go.Proofs.YtdnmoggifjlbiaaGreat.PN
open Go.Proofs.YtdnmoggifjlbiaaGreat.LA (Mt S S_succ S_zero S_congr app app_congr app_sub app_mul app_add det unique)
set_option linter.unusedVariables false
set_option linter.unusedSimpArgs false
set_option maxRecDepth 8000
set_option maxHeartbeats 8000000
end Go.Proofs.YtdnmoggifjlbiaaGreat.AM
/- Laws of turned systems: what is known; Hankel ones that are drawn. -/
namespace Go.Proofs.YtdnmoggifjlbiaaGreat.AM
open Go Go.RowKit Go.Proofs.YtdnmoggifjlbiaaGreat.PN Go.Proofs.YtdnmoggifjlbiaaGreat.V
open Go.Proofs.YtdnmoggifjlbiaaGreat.LA (S S_succ S_zero S_congr S_rev app det unique)
set_option linter.unusedVariables false
set_option linter.unusedSimpArgs false
set_option maxRecDepth 8000
set_option maxHeartbeats 8000000
def kL (k : Nat) (x : Rat) : GD := ⟨k, 1, 0, 1, 0, 0, 0, fun _ => x, fun _ => 0, fun _ => 0, fun _ => 0⟩
theorem kL4_ok : (kL 4 1).OK := by
  refine ⟨by decide, by decide, by decide, by decide, by decide, fun h => (by cases h), fun _ => rfl, ?_, ⟨fun i _ => by show wt 1 ≤ 4; decide, fun i hi => absurd hi (Nat.not_lt_zero _), fun i hi => absurd hi (Nat.not_lt_zero _), fun i hi => absurd hi (Nat.not_lt_zero _)⟩, fun i hi j hj => absurd hj (Nat.not_lt_zero _)⟩
  intro i hi
  have hi4 : i = 0 ∨ i = 1 ∨ i = 2 ∨ i = 3 := by omega
  rcases hi4 with rfl | rfl | rfl | rfl <;> decide
theorem kL3_ok : (kL 3 3).OK := by
  refine ⟨by decide, by decide, by decide, by decide, by decide, fun h => (by cases h), fun _ => rfl, ?_, ⟨fun i _ => by show wt 3 ≤ 4; decide, fun i hi => absurd hi (Nat.not_lt_zero _), fun i hi => absurd hi (Nat.not_lt_zero _), fun i hi => absurd hi (Nat.not_lt_zero _)⟩, fun i hi j hj => absurd hj (Nat.not_lt_zero _)⟩
  intro i hi
  have hi4 : i = 0 ∨ i = 1 ∨ i = 2 ∨ i = 3 := by omega
  rcases hi4 with rfl | rfl | rfl | rfl <;> decide
theorem kL_args {S : Nat → Prop} {B : Nat} {β : Nat → Nat → Value} {w : World} {k : Nat} {x : Rat} {u : Nat → AV} {q : Nat → RA} (h0 : u 0 = .i k) (h1 : u 1 = .i 1) (h2 : u 2 = .i 0) (h3 : u 3 = .row false 1 q) (hq : q 0 = .q x) (h4 : u 4 = .v (.slice none 0 0)) (h5 : u 5 = .v (.slice none 0 0)) (h6 : u 6 = .v (.slice none 0 0)) : ∀ i, i < 7 → ∀ v, RV S B β w (u i) v → RV S B β w ((kL k x).f i) v := by
  intro i hi v hv
  match i, hi with
  | 0, _ => rw [h0] at hv; exact hv
  | 1, _ => rw [h1] at hv; exact hv
  | 2, _ => rw [h2] at hv; exact hv
  | 3, _ =>
    rw [h3] at hv
    refine rv_row (fun i hi => ?_) v hv
    have hi : i < 1 := hi
    obtain rfl : i = 0 := by omega
    exact hq
  | 4, _ => rw [h4] at hv; exact rv_nil0 v hv
  | 5, _ => rw [h5] at hv; exact rv_nil0 v hv
  | 6, _ => rw [h6] at hv; exact rv_nil0 v hv
theorem k_known12 : Has Tryz.prog 33 [] (.b true) := by
  have c1 := hs_int 1 (by decide) (by decide)
  have c3 := hs_int 3 (by decide) (by decide)
  have ct := t_toe_no kL4_ok (by decide)
  have cc : Has Tryz.prog 49 [(kL 3 3).v] (.ag 7 (fT 1 (.row true 1 fun i => .q ((gT (kL 3 3)).A i)))) := t_toe kL3_ok (by decide)
  generalize (gT (kL 3 3)).A = A at *
  refine has_of Tryz.func33 (by kernel_rfl) rfl Tryz.ntmps33 Tryz.results33 rfl rfl rfl ?_
  repeat(first|refine run1p ?_|((with_reducible apply st_call);exact rfl;exact rfl;exact rfl;first|(exact c1)|(exact c3)|(exact Has.agv (u' := (kL 4 1).f) (fun S B β w => kL_args rfl rfl rfl rfl rfl rfl rfl rfl) ct)|(exact Has.agv (u' := (kL 3 3).f) (fun S B β w => kL_args rfl rfl rfl rfl rfl rfl rfl rfl) cc))|((with_reducible apply st_callg);exact rfl;exact rfl;(first|exact rfl|assumption);exact rfl;exact rfl;exact rfl;first|(exact c1)|(exact c3)|(exact Has.agv (u' := (kL 4 1).f) (fun S B β w => kL_args rfl rfl rfl rfl rfl rfl rfl rfl) ct)|(exact Has.agv (u' := (kL 3 3).f) (fun S B β w => kL_args rfl rfl rfl rfl rfl rfl rfl rfl) cc)))
  exact ⟨.inr rfl, _, Imp.refl _, .one (.tmp rfl)⟩
/-- A Toeplitz system, taken for a Hankel one. -/
def gH (g : GD) : GD := { g with k := 2 }
end Go.Proofs.YtdnmoggifjlbiaaGreat.AM
/- Laws of turned systems: TurnedKnown, walked. -/
namespace Go.Proofs.YtdnmoggifjlbiaaGreat.AM
open Go Go.RowKit Go.Proofs.YtdnmoggifjlbiaaGreat.PN Go.Proofs.YtdnmoggifjlbiaaGreat.V
open Go.Proofs.YtdnmoggifjlbiaaGreat.LA (S S_succ S_zero S_congr app det unique)
set_option linter.unusedVariables false
set_option linter.unusedSimpArgs false
set_option maxRecDepth 8000
set_option maxHeartbeats 8000000
def lq (l : List Int) (i : Nat) : Rat := ((l.getD i 0 : Int) : Rat)
def lsmall (l : List Int) : Bool := l.all fun z => decide (-100 ≤ z ∧ z ≤ 100)
theorem lq_wt {l : List Int} (h : lsmall l = true) (i : Nat) : wt (lq l i) ≤ 1 ∧ (-100 ≤ l.getD i 0 ∧ l.getD i 0 ≤ 100) := by
  have hz : -100 ≤ l.getD i 0 ∧ l.getD i 0 ≤ 100 := by
    rw [List.getD_eq_getElem?_getD]
    cases e : l[i]? with
    | none => simp
    | some z =>
      have := List.all_eq_true.1 h z (List.mem_of_getElem? e)
      simpa using this
  refine ⟨?_, hz⟩
  have key : ∀ x : _root_.Fin 201, wt ((((x.val : Int) - 100 : Int)) : Rat) ≤ 1 := by decide +kernel
  have := key ⟨(l.getD i 0 + 100).toNat, by omega⟩
  rw [show (((l.getD i 0 + 100).toNat : Nat) : Int) - 100 = l.getD i 0 by omega] at this
  exact this
/-- A system of one row. -/
def gl (k n : Nat) (l : List Int) : GD := ⟨k, n, 0, l.length, 0, 0, 0, lq l, fun _ => 0, fun _ => 0, fun _ => 0⟩
theorem gl_args {S : Nat → Prop} {B : Nat} {β : Nat → Nat → Value} {w : World} {k n : Nat} {l : List Int} {u : Nat → AV} {q : Nat → RA} (h0 : u 0 = .i k) (h1 : u 1 = .i n) (h2 : u 2 = .i 0) (h3 : u 3 = .row false l.length q) (hq : ∀ i, i < l.length → q i = .q (lq l i)) (h4 : u 4 = .v (.slice none 0 0)) (h5 : u 5 = .v (.slice none 0 0)) (h6 : u 6 = .v (.slice none 0 0)) : ∀ i, i < 7 → ∀ v, RV S B β w (u i) v → RV S B β w ((gl k n l).f i) v := by
  intro i hi v hv
  match i, hi with
  | 0, _ => rw [h0] at hv; exact hv
  | 1, _ => rw [h1] at hv; exact hv
  | 2, _ => rw [h2] at hv; exact hv
  | 3, _ => rw [h3] at hv; exact rv_row hq v hv
  | 4, _ => rw [h4] at hv; exact rv_nil0 v hv
  | 5, _ => rw [h5] at hv; exact rv_nil0 v hv
  | 6, _ => rw [h6] at hv; exact rv_nil0 v hv
theorem gl_ok {k n : Nat} {l : List Int} (hs : lsmall l = true) (hk : k = 2 ∨ k = 3) (hn : 1 ≤ n ∧ n ≤ 8) (hl : (l.length : Int) = if k = 3 then (n : Int) else 2 * (n : Int) - 1) : (gl k n l).OK := by
  have k7 : 1 ≤ k ∧ k ≤ 7 := by omega
  refine ⟨k7.1, k7.2, hn.1, hn.2, show (0 : Nat) ≤ 3 by decide, fun h => ?_, fun _ => rfl, fun i hi => ?_, ⟨fun i hi => Nat.le_trans (lq_wt hs i).1 (by decide), fun i hi => absurd hi (Nat.not_lt_zero _), fun i hi => absurd hi (Nat.not_lt_zero _), fun i hi => absurd hi (Nat.not_lt_zero _)⟩, fun i hi j hj => absurd hj (Nat.not_lt_zero _)⟩
  · have h : likeB k = true := h
    rcases hk with rfl | rfl <;> cases h
  · have z : ∀ (x y z n r : Int), x = 0 → y = 0 → z = 0 → (0 : Int) = x * n + y * n * r + z := by intro x y z n r hx hy hz; subst hx; subst hy; subst hz; simp
    have f : ∀ (x y z n r : Int), x = 2 → y = 0 → z = -1 → 2 * n - 1 = x * n + y * n * r + z := by intro x y z n r hx hy hz; subst hx; subst hy; subst hz; simp; omega
    have d : ∀ (x y z n r : Int), x = 1 → y = 0 → z = 0 → n = x * n + y * n * r + z := by intro x y z n r hx hy hz; subst hx; subst hy; subst hz; simp
    have hi4 : i = 0 ∨ i = 1 ∨ i = 2 ∨ i = 3 := by omega
    rcases hk with rfl | rfl
    · rcases hi4 with rfl | rfl | rfl | rfl
      · show (l.length : Int) = mpz (cmap (2 : Nat) (0 : Nat)) 0 * (n : Int) + mpz (cmap (2 : Nat) (0 : Nat)) 1 * (n : Int) * ((0 : Nat) : Int) + mpz (cmap (2 : Nat) (0 : Nat)) 2
        rw [← f _ _ _ _ _ (by decide) (by decide) (by decide), hl, if_neg (by decide)]
      · show (0 : Int) = mpz (cmap (2 : Nat) (1 : Nat)) 0 * (n : Int) + mpz (cmap (2 : Nat) (1 : Nat)) 1 * (n : Int) * ((0 : Nat) : Int) + mpz (cmap (2 : Nat) (1 : Nat)) 2
        exact z _ _ _ _ _ (by decide) (by decide) (by decide)
      · show (0 : Int) = mpz (cmap (2 : Nat) (2 : Nat)) 0 * (n : Int) + mpz (cmap (2 : Nat) (2 : Nat)) 1 * (n : Int) * ((0 : Nat) : Int) + mpz (cmap (2 : Nat) (2 : Nat)) 2
        exact z _ _ _ _ _ (by decide) (by decide) (by decide)
      · show (0 : Int) = mpz (cmap (2 : Nat) (3 : Nat)) 0 * (n : Int) + mpz (cmap (2 : Nat) (3 : Nat)) 1 * (n : Int) * ((0 : Nat) : Int) + mpz (cmap (2 : Nat) (3 : Nat)) 2
        exact z _ _ _ _ _ (by decide) (by decide) (by decide)
    · rcases hi4 with rfl | rfl | rfl | rfl
      · show (l.length : Int) = mpz (cmap (3 : Nat) (0 : Nat)) 0 * (n : Int) + mpz (cmap (3 : Nat) (0 : Nat)) 1 * (n : Int) * ((0 : Nat) : Int) + mpz (cmap (3 : Nat) (0 : Nat)) 2
        rw [← d _ _ _ _ _ (by decide) (by decide) (by decide), hl, if_pos rfl]
      · show (0 : Int) = mpz (cmap (3 : Nat) (1 : Nat)) 0 * (n : Int) + mpz (cmap (3 : Nat) (1 : Nat)) 1 * (n : Int) * ((0 : Nat) : Int) + mpz (cmap (3 : Nat) (1 : Nat)) 2
        exact z _ _ _ _ _ (by decide) (by decide) (by decide)
      · show (0 : Int) = mpz (cmap (3 : Nat) (2 : Nat)) 0 * (n : Int) + mpz (cmap (3 : Nat) (2 : Nat)) 1 * (n : Int) * ((0 : Nat) : Int) + mpz (cmap (3 : Nat) (2 : Nat)) 2
        exact z _ _ _ _ _ (by decide) (by decide) (by decide)
      · show (0 : Int) = mpz (cmap (3 : Nat) (3 : Nat)) 0 * (n : Int) + mpz (cmap (3 : Nat) (3 : Nat)) 1 * (n : Int) * ((0 : Nat) : Int) + mpz (cmap (3 : Nat) (3 : Nat)) 2
        exact z _ _ _ _ _ (by decide) (by decide) (by decide)
theorem k_intsT {l : List Int} (hs : lsmall l = true) (hl : l.length ≤ 8) : Has Tryz.prog 47 [.seq .i64 l] (.row true l.length fun i => .q (lq l i)) := by
  refine has_of Tryz.func47 (by kernel_rfl) rfl Tryz.ntmps47 Tryz.results47 rfl rfl rfl ?_
  refine run0p ?_
  refine awp_loop (fun m' s => ∃ i, i ≤ l.length ∧ m' = l.length - i ∧ s = accS 3 (.rats i fun i => .q (lq l i)) [(0, .seq .i64 l), (4, .i (i : Int))] []) l.length _ (acc_start rfl rfl (by exact rfl) rfl (by decide) ?_ ?_) ⟨0, Nat.zero_le _, rfl, rfl⟩ ?_
  · exact eA
  · exact hA
  rintro m' s ⟨i, hi, rfl, rfl⟩
  refine run0p ?_
  refine awp_if rfl (fun h => ?_) (fun h => ?_)
  · have h : i < l.length := by omega
    have hz := (lq_wt hs i).2
    have ci : Has Tryz.prog 22 [.i (l.getD i 0)] (.q (lq l i)) := hs_int _ (by omega) (by omega)
    repeat(first|refine run1p ?_|((with_reducible apply st_call);exact rfl;exact rfl;exact rfl;first|(exact ci))|((with_reducible apply st_callg);exact rfl;exact rfl;(first|exact rfl|assumption);exact rfl;exact rfl;exact rfl;first|(exact ci)))
    refine q_loop (m' := l.length - (i + 1)) (by omega) (acc_next (a := 18) rfl rfl rfl (glue_one rfl) (by exact True.intro) rfl rfl ?_ (by exact True.intro)) ⟨i + 1, by omega, rfl, rfl⟩
    exact alle rfl (Le.eq rfl rfl) True.intro (alle rfl (Le.eq rfl rfl) True.intro True.intro)
  obtain rfl : i = l.length := by omega
  refine run0p ?_
  exact ⟨.inr rfl, _, imp_rowv 2 (fun i => .q (lq l i)) rfl rfl rfl (fun i hi => rfl), .one (.tmp rfl)⟩
theorem k_tknown {which : Int} (hw : Fits .i64 which) : Has Tryz.prog 11 [.i which] (.b true) := by
  have i1 := k_intsT (l := [1, 2, 3]) rfl (by decide)
  have i2 := k_intsT (l := [1, 0, 3]) rfl (by decide)
  have i3 := k_intsT (l := [0, 1, 0]) rfl (by decide)
  have i4 := k_intsT (l := [1, -1]) rfl (by decide)
  have i5 := k_intsT (l := [8, 13]) rfl (by decide)
  have i6 := k_intsT (l := [1, 1]) rfl (by decide)
  have i7 := k_intsT (l := [7, 8, 9]) rfl (by decide)
  have i8 := k_intsT (l := [2, 3]) rfl (by decide)
  have i9 := k_intsT (l := [8, 9, 7]) rfl (by decide)
  have oa : (gl 2 2 [1, 2, 3]).OK := gl_ok rfl (.inl rfl) (by decide) (by decide)
  have ob : (gl 2 2 [1, 0, 3]).OK := gl_ok rfl (.inl rfl) (by decide) (by decide)
  have oc : (gl 3 3 [0, 1, 0]).OK := gl_ok rfl (.inr rfl) (by decide) (by decide)
  have od : (gl 3 2 [1, -1]).OK := gl_ok rfl (.inr rfl) (by decide) (by decide)
  have wl : ∀ {l : List Int}, lsmall l = true → ∀ i, wt (lq l i) ≤ 100 := fun h i => Nat.le_trans (lq_wt h i).1 (by decide)
  have ha : Has Tryz.prog 45 [(gl 2 2 [1, 2, 3]).v, .row false 2 fun i => .q (lq [8, 13] i)] (.tup3 (.row true 2 fun i => .q (lvs (gent (gT (gl 2 2 [1, 2, 3]))) (lq [8, 13]) 2 (2 - 1 - i))) (.i 0) (.i 0)) := t_hankel (b := lq [8, 13]) oa rfl (fun i _ => wl rfl i) (fun k hk => by
    have hk : k < 2 := hk
    have : k = 0 ∨ k = 1 := by omega
    rcases this with rfl | rfl <;> decide +kernel)
  have hx : ∀ i, i < 2 → lvs (gent (gT (gl 2 2 [1, 2, 3]))) (lq [8, 13]) 2 (2 - 1 - i) = lq [2, 3] i := fun i hi => by
    have : i = 0 ∨ i = 1 := by omega
    rcases this with rfl | rfl <;> decide +kernel
  have ra := k_rowsb (n := 2) (f := fun i => lvs (gent (gT (gl 2 2 [1, 2, 3]))) (lq [8, 13]) 2 (2 - 1 - i)) (g := lq [2, 3]) (K := 3) (fun i hi => ⟨by rw [hx i hi]; exact Nat.le_trans (lq_wt rfl i).1 (by decide)⟩) (by decide) (by decide) (by decide) hx
  have hb : Has Tryz.prog 45 [(gl 2 2 [1, 0, 3]).v, .row false 2 fun i => .q (lq [1, 1] i)] (.tup3 (.v (.slice none 0 0)) (.i 1) (.i 8)) := t_hankel_break (b := lq [1, 1]) ob rfl (fun i _ => wl rfl i) (K := 0) (by decide) (fun k hk => absurd hk (Nat.not_lt_zero _)) (by decide +kernel)
  have dc : gdet 3 (gec (gl 3 3 [0, 1, 0])) ≠ 0 := by rw [gdet_det]; decide +kernel
  have hc : Has Tryz.prog 36 [(gl 3 3 [0, 1, 0]).v, .row false 3 fun i => .q (lq [7, 8, 9] i)] (if gdet 3 (gec (gl 3 3 [0, 1, 0])) = 0 then .tup (.row true 0 fun _ => .q 0) (.i 9) else .tup (.row true 3 fun i => .q (gjx 3 (gec (gl 3 3 [0, 1, 0])) (lq [7, 8, 9]) i)) (.i 0)) := t_circle (b := lq [7, 8, 9]) oc rfl (fun i => ⟨Nat.le_trans (lq_wt rfl i).1 (by decide)⟩)
  rw [if_neg dc] at hc
  have hy : ∀ i, i < 3 → gjx 3 (gec (gl 3 3 [0, 1, 0])) (lq [7, 8, 9]) i = lq [8, 9, 7] i := unique (by rw [← gdet_det]; exact dc) fun i hi => by
    rw [(gj_nz (b := lq [7, 8, 9]) dc).2.2 i hi]
    have : i = 0 ∨ i = 1 ∨ i = 2 := by omega
    rcases this with rfl | rfl | rfl <;> decide +kernel
  generalize gjx 3 (gec (gl 3 3 [0, 1, 0])) (lq [7, 8, 9]) = y at *
  have rc := k_rowsb (n := 3) (f := y) (g := lq [8, 9, 7]) (K := 3) (fun i hi => ⟨by rw [hy i hi]; exact Nat.le_trans (lq_wt rfl i).1 (by decide)⟩) (by decide) (by decide) (by decide) hy
  have dd : gdet 2 (gec (gl 3 2 [1, -1])) = 0 := by rw [gdet_det]; decide +kernel
  have hd : Has Tryz.prog 36 [(gl 3 2 [1, -1]).v, .row false 2 fun i => .q (lq [1, 1] i)] (if gdet 2 (gec (gl 3 2 [1, -1])) = 0 then .tup (.row true 0 fun _ => .q 0) (.i 9) else .tup (.row true 2 fun i => .q (gjx 2 (gec (gl 3 2 [1, -1])) (lq [1, 1]) i)) (.i 0)) := t_circle (b := lq [1, 1]) od rfl (fun i => ⟨Nat.le_trans (lq_wt rfl i).1 (by decide)⟩)
  rw [if_pos dd] at hd
  obtain ⟨r1, r2⟩ := wthn_lt (a := which) (n := 4) (by decide)
  have cw := k_within12 (a := which) (n := 4) (by decide) (by decide)
  generalize lvs (gent (gT (gl 2 2 [1, 2, 3]))) (lq [8, 13]) 2 = x at *
  refine has_of Tryz.func11 (by kernel_rfl) rfl Tryz.ntmps11 Tryz.results11 rfl rfl rfl ?_
  repeat(first|refine run1p ?_|((with_reducible apply st_call);exact rfl;exact rfl;exact rfl;first|(exact k_known12))|((with_reducible apply st_callg);exact rfl;exact rfl;(first|exact rfl|assumption);exact rfl;exact rfl;exact rfl;first|(exact k_known12)))
  refine awp_no rfl rfl ?_
  repeat(first|refine run1p ?_|((with_reducible apply st_call);exact rfl;exact rfl;exact rfl;first|(exact i1)|(exact i2)|(exact i3)|(exact i4)|(exact i5)|(exact i6)|(exact i7)|(exact i8)|(exact i9)|(exact Has.agv (u' := (gl 2 2 [1, 2, 3]).f) (fun S B β w => gl_args rfl rfl rfl rfl (fun i hi => rfl) rfl rfl rfl) ha)|(exact Has.agv (u' := (gl 2 2 [1, 0, 3]).f) (fun S B β w => gl_args rfl rfl rfl rfl (fun i hi => rfl) rfl rfl rfl) hb)|(exact Has.agv (u' := (gl 3 3 [0, 1, 0]).f) (fun S B β w => gl_args rfl rfl rfl rfl (fun i hi => rfl) rfl rfl rfl) hc)|(exact Has.agv (u' := (gl 3 2 [1, -1]).f) (fun S B β w => gl_args rfl rfl rfl rfl (fun i hi => rfl) rfl rfl rfl) hd)|(exact ra)|(exact rc))|((with_reducible apply st_callg);exact rfl;exact rfl;(first|exact rfl|assumption);exact rfl;exact rfl;exact rfl;first|(exact i1)|(exact i2)|(exact i3)|(exact i4)|(exact i5)|(exact i6)|(exact i7)|(exact i8)|(exact i9)|(exact Has.agv (u' := (gl 2 2 [1, 2, 3]).f) (fun S B β w => gl_args rfl rfl rfl rfl (fun i hi => rfl) rfl rfl rfl) ha)|(exact Has.agv (u' := (gl 2 2 [1, 0, 3]).f) (fun S B β w => gl_args rfl rfl rfl rfl (fun i hi => rfl) rfl rfl rfl) hb)|(exact Has.agv (u' := (gl 3 3 [0, 1, 0]).f) (fun S B β w => gl_args rfl rfl rfl rfl (fun i hi => rfl) rfl rfl rfl) hc)|(exact Has.agv (u' := (gl 3 2 [1, -1]).f) (fun S B β w => gl_args rfl rfl rfl rfl (fun i hi => rfl) rfl rfl rfl) hd)|(exact ra)|(exact rc)))
  obtain ⟨C, hC⟩ : ∃ C : Nat, wthn which 4 = (C : Int) := ⟨(wthn which 4).toNat, by omega⟩
  rw [hC] at cw r1 r2
  have hC4 : C = 0 ∨ C = 1 ∨ C = 2 ∨ C = 3 := by omega
  rcases hC4 with rfl | rfl | rfl | rfl
  · repeat(first|refine run1p ?_|((with_reducible apply st_call);exact rfl;exact rfl;exact rfl;first|(exact cw))|((with_reducible apply st_callg);exact rfl;exact rfl;(first|exact rfl|assumption);exact rfl;exact rfl;exact rfl;first|(exact cw)))
    exact ⟨.inr rfl, _, Imp.refl _, .one (.tmp rfl)⟩
  · repeat(first|refine run1p ?_|((with_reducible apply st_call);exact rfl;exact rfl;exact rfl;first|(exact cw))|((with_reducible apply st_callg);exact rfl;exact rfl;(first|exact rfl|assumption);exact rfl;exact rfl;exact rfl;first|(exact cw)))
    exact ⟨.inr rfl, _, Imp.refl _, .one (.tmp rfl)⟩
  · repeat(first|refine run1p ?_|((with_reducible apply st_call);exact rfl;exact rfl;exact rfl;first|(exact cw))|((with_reducible apply st_callg);exact rfl;exact rfl;(first|exact rfl|assumption);exact rfl;exact rfl;exact rfl;first|(exact cw)))
    exact ⟨.inr rfl, _, Imp.refl _, .one (.tmp rfl)⟩
  · repeat(first|refine run1p ?_|((with_reducible apply st_call);exact rfl;exact rfl;exact rfl;first|(exact cw))|((with_reducible apply st_callg);exact rfl;exact rfl;(first|exact rfl|assumption);exact rfl;exact rfl;exact rfl;first|(exact cw)))
    exact ⟨.inr rfl, _, Imp.refl _, .one (.tmp rfl)⟩
end Go.Proofs.YtdnmoggifjlbiaaGreat.AM

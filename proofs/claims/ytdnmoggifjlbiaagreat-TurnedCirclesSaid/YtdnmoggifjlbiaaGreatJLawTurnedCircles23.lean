/- Joined texts, 23: Wthn TuC AmNf PLev PMin PCram LawO RowsB LawK LawP GenF GenG LvR. -/
import Derived.Test.YtdnmoggifjlbiaaGreatJLawTurnedCircles19
import Derived.Test.YtdnmoggifjlbiaaGreatJLawTurnedCircles20
import Derived.Test.YtdnmoggifjlbiaaGreatJLawTurnedCircles22
import Derived.Test.YtdnmoggifjlbiaaGreatJLawTurnedCircles15
import Derived.Test.YtdnmoggifjlbiaaGreatJLawTurnedCircles14
set_option linter.unusedVariables false
set_option linter.unusedSimpArgs false
/- Numbers from 0 to n - 1, in each package of laws. -/
namespace Go.Proofs.YtdnmoggifjlbiaaGreat.AM
open Go Go.RowKit Go.Proofs.YtdnmoggifjlbiaaGreat.PN Go.Proofs.YtdnmoggifjlbiaaGreat.V
set_option linter.unusedVariables false
set_option linter.unusedSimpArgs false
theorem k_within12 {a n : Int} (hn : 0 < n) (hn' : n < 1000000000) : Has Tryz.prog 41 [.i a, .i n] (.i (wthn a n)) := by
  refine has_of Tryz.func41 (by kernel_rfl) rfl Tryz.ntmps41 Tryz.results41 rfl rfl rfl ?_
  have h1 := Int.tmod_lt_of_pos a hn
  have h2 : -n < a.tmod n := Int.lt_tmod_of_pos a hn
  refine run0 ?_
  refine awp_if rfl (fun h => ?_) (fun h => ?_)
  · have e : wthn a n = a.tmod n + n := if_pos h
    rw [e]
    refine run0 ?_
    refine ⟨.inr rfl, _, Imp.refl _, ?_⟩
    exact .one (.tmp rfl)
  · have e : wthn a n = a.tmod n := if_neg h
    rw [e]
    refine run0 ?_
    refine ⟨.inr rfl, _, Imp.refl _, ?_⟩
    exact .one (.tmp rfl)
end Go.Proofs.YtdnmoggifjlbiaaGreat.AM
/- Package turned: systems. -/
namespace Go.Proofs.YtdnmoggifjlbiaaGreat.AM
open Go Go.RowKit Go.Proofs.YtdnmoggifjlbiaaGreat.PN Go.Proofs.YtdnmoggifjlbiaaGreat.V
open Go.Proofs.YtdnmoggifjlbiaaGreat.LA (S S_succ S_zero S_congr)
set_option linter.unusedVariables false
set_option linter.unusedSimpArgs false
set_option maxRecDepth 8000
set_option maxHeartbeats 8000000
def fA2 (a b : Int) (i : Nat) : AV := [AV.i a, .i b].getD i (.v undef)
theorem t_of {g : GD} {m : Nat} {q : Nat → RA} (h : g.OK) : Has Tryz.prog 72 [g.v, .row false m q] (.ag 2 (fA2 g.k m)) := by
  refine has_of Tryz.func72 (by kernel_rfl) rfl Tryz.ntmps72 Tryz.results72 rfl (by rfl) rfl ?_
  refine run0p ?_
  refine ⟨.inr rfl, stl [(4, .ptr 4 0 0)] [(4, (1, fun _ => .ones 91 2 (fA2 g.k m)))], imp_id ?_ ?_, .one (.agg rfl rfl rfl rfl (by decide) rfl rfl)⟩
  · exact eA
  · refine allh rfl (by decide) (bleo rfl fun i hi => ?_) (fun i _ => ?_) True.intro
    · match i, hi with
      | 0, _ => exact Le.id rfl
      | 1, _ => exact Le.id rfl
    · match i with
      | 0 | 1 => trivial
      | _ + 2 => trivial
theorem t_fits (a b c d : Int) : Has Tryz.prog 73 [.ag 2 (fA2 a b), .ag 2 (fA2 c d)] (.i (if a = c then (if b = d then 0 else 3) else 2)) := by
  refine has_of Tryz.func73 (by kernel_rfl) rfl Tryz.ntmps73 Tryz.results73 rfl rfl rfl ?_
  by_cases h1 : a = c
  · by_cases h2 : b = d
    · rw [if_pos h1, if_pos h2]
      refine run0p ?_
      refine awp_yes rfl (by rw [decide_eq_true h1, decide_eq_true h2]; rfl) ?_
      refine run0p ?_
      exact ⟨.inr rfl, _, Imp.refl _, .one (.tmp rfl)⟩
    · rw [if_pos h1, if_neg h2]
      refine run0p ?_
      refine awp_no rfl (by rw [decide_eq_true h1, decide_eq_false h2]; rfl) ?_
      refine run0p ?_
      refine awp_no rfl (decide_eq_false fun h => h h1) ?_
      refine run0p ?_
      exact ⟨.inr rfl, _, Imp.refl _, .one (.tmp rfl)⟩
  · rw [if_neg h1]
    refine run0p ?_
    refine awp_no rfl (by rw [decide_eq_false h1]; rfl) ?_
    refine run0p ?_
    refine awp_yes rfl (decide_eq_true h1) ?_
    refine run0p ?_
    exact ⟨.inr rfl, _, Imp.refl _, .one (.tmp rfl)⟩
theorem t_circle1 {p : Rat} (hs : wt p ≤ 1000000000000) : Has Tryz.prog 75 [.q p] (.b false) := by
  refine has_of Tryz.func75 (by kernel_rfl) rfl Tryz.ntmps75 Tryz.results75 rfl rfl rfl ?_
  repeat(first|refine run1p ?_|((with_reducible apply st_call);exact rfl;exact rfl;exact rfl;first|(exact h_right hs))|((with_reducible apply st_callg);exact rfl;exact rfl;(first|exact rfl|assumption);exact rfl;exact rfl;exact rfl;first|(exact h_right hs)))
  exact ⟨.inr rfl, _, Imp.refl _, .one (.tmp rfl)⟩
theorem Has.gf2 {P : Program} {f : FuncId} {n : Nat} {u u' : Nat → AV} {r : AV} (h : ∀ i, i < n → u i = u' i) {c c' : Nat → AV} (k : ∀ i, i < n → c i = c' i) (H : Has P f [.ag n u', .ag n c'] r) : Has P f [.ag n u, .ag n c] r :=
  Has.args H fun S B β w vs hv => rvs_cons (rv_agv fun i hi v hv => h i hi ▸ hv) (fun us hu => rvs_cons (rv_agv fun i hi v hv => k i hi ▸ hv) (fun us hu => hu) hu) hv
theorem two2 {f f' : Nat → AV} (h0 : f 0 = f' 0) (h1 : f 1 = f' 1) : ∀ i, i < 2 → f i = f' i := fun i hi => by
  match i, hi with
  | 0, _ => exact h0
  | 1, _ => exact h1
theorem t_circle {g : GD} {b : Nat → Rat} (h : g.OK) (hk : g.k = 3) (hb : ∀ i, Wt (b i) 300) : Has Tryz.prog 36 [g.v, .row false g.n fun i => .q (b i)] (if gdet g.n (gec g) = 0 then .tup (.row true 0 fun _ => .q 0) (.i 9) else .tup (.row true g.n fun i => .q (gjx g.n (gec g) b i)) (.i 0)) := by
  have n1 := h.n1; have n8 := h.n8
  have hcl : (if gdet g.n (gec g) = 0 then AV.tup (.row true 0 fun _ => .q 0) (.i 9) else .tup (.row true g.n fun i => .q (gjx g.n (gec g) b i)) (.i 0)).closed = true := by split <;> rfl
  refine has_of Tryz.func36 (by kernel_rfl) rfl Tryz.ntmps36 Tryz.results36 rfl hcl rfl ?_
  have wF : ∀ i j, Wt (gec g i j) 300 := fun i j => gec_wt h i j
  have c1 := t_of (m := g.n) (q := fun i => .q (b i)) h
  have c2 := t_fits g.k g.n 3 g.n
  rw [if_pos (by omega), if_pos rfl] at c2
  have c3 := g_contains0 (n := g.n) (q := fun i => .q (b i)) (f := 75) (by omega) (fun i hi => t_circle1 (Nat.le_trans (hb i).le (by decide)))
  have c4 := d_solve (n := g.n) (F := gec g) (b := b) (hf := wF) (hb := hb) (by decide) n1 n8
  repeat(first|refine run1p ?_|((with_reducible apply st_call);exact rfl;exact rfl;exact rfl;first|(exact Has.ag (g7 rfl rfl rfl rfl rfl rfl rfl) c1)|(refine Has.gf2 (u' := fA2 g.k g.n) (c' := fA2 3 g.n) ?_ ?_ c2 <;> exact two2 rfl rfl))|((with_reducible apply st_callg);exact rfl;exact rfl;(first|exact rfl|assumption);exact rfl;exact rfl;exact rfl;first|(exact Has.ag (g7 rfl rfl rfl rfl rfl rfl rfl) c1)|(refine Has.gf2 (u' := fA2 g.k g.n) (c' := fA2 3 g.n) ?_ ?_ c2 <;> exact two2 rfl rfl)))
  refine awp_no rfl rfl ?_
  repeat(first|refine run1p ?_|((with_reducible apply st_call);exact rfl;exact rfl;exact rfl;first|(exact c3))|((with_reducible apply st_callg);exact rfl;exact rfl;(first|exact rfl|assumption);exact rfl;exact rfl;exact rfl;first|(exact c3)))
  refine awp_no rfl rfl ?_
  by_cases hd : gdet g.n (gec g) = 0
  · rw [if_pos hd] at c4 ⊢
    repeat(first|refine run1p ?_|((with_reducible apply st_call);exact rfl;exact rfl;exact rfl;first|(exact Has.ag (g7 rfl rfl rfl rfl rfl rfl rfl) (ge_expand h))|(exact Has.gec c4))|((with_reducible apply st_callg);exact rfl;exact rfl;(first|exact rfl|assumption);exact rfl;exact rfl;exact rfl;first|(exact Has.ag (g7 rfl rfl rfl rfl rfl rfl rfl) (ge_expand h))|(exact Has.gec c4)))
    exact ⟨.inr rfl, _, Imp.refl _, .two (.tmp rfl) (.tmp rfl)⟩
  · rw [if_neg hd] at c4 ⊢
    repeat(first|refine run1p ?_|((with_reducible apply st_call);exact rfl;exact rfl;exact rfl;first|(exact Has.ag (g7 rfl rfl rfl rfl rfl rfl rfl) (ge_expand h))|(exact Has.gec c4))|((with_reducible apply st_callg);exact rfl;exact rfl;(first|exact rfl|assumption);exact rfl;exact rfl;exact rfl;first|(exact Has.ag (g7 rfl rfl rfl rfl rfl rfl rfl) (ge_expand h))|(exact Has.gec c4)))
    exact ⟨.inr rfl, _, Imp.refl _, .two (.tmp rfl) (.tmp rfl)⟩
theorem t_circle_no {g : GD} {m : Nat} {q : Nat → RA} (h : g.OK) (hm : g.k ≠ 3 ∨ m ≠ g.n) : Has Tryz.prog 36 [g.v, .row false m q] (.tup (.v (.slice none 0 0)) (.i (if g.k = 3 then 3 else 2))) := by
  have n1 := h.n1; have n8 := h.n8
  have c1 := t_of (m := m) (q := q) h
  have c2 := t_fits g.k m 3 g.n
  refine has_of Tryz.func36 (by kernel_rfl) rfl Tryz.ntmps36 Tryz.results36 rfl rfl rfl ?_
  by_cases e : g.k = 3
  · rw [if_pos e]
    rw [if_pos (by omega), if_neg (by omega)] at c2
    repeat(first|refine run1p ?_|((with_reducible apply st_call);exact rfl;exact rfl;exact rfl;first|(exact Has.ag (g7 rfl rfl rfl rfl rfl rfl rfl) c1)|(refine Has.gf2 (u' := fA2 g.k m) (c' := fA2 3 g.n) ?_ ?_ c2 <;> exact two2 rfl rfl))|((with_reducible apply st_callg);exact rfl;exact rfl;(first|exact rfl|assumption);exact rfl;exact rfl;exact rfl;first|(exact Has.ag (g7 rfl rfl rfl rfl rfl rfl rfl) c1)|(refine Has.gf2 (u' := fA2 g.k m) (c' := fA2 3 g.n) ?_ ?_ c2 <;> exact two2 rfl rfl)))
    refine awp_yes rfl rfl ?_
    refine run0p ?_
    exact ⟨.inr rfl, _, Imp.refl _, .two (.tmp rfl) (.tmp rfl)⟩
  · rw [if_neg e]
    rw [if_neg (by omega)] at c2
    repeat(first|refine run1p ?_|((with_reducible apply st_call);exact rfl;exact rfl;exact rfl;first|(exact Has.ag (g7 rfl rfl rfl rfl rfl rfl rfl) c1)|(refine Has.gf2 (u' := fA2 g.k m) (c' := fA2 3 g.n) ?_ ?_ c2 <;> exact two2 rfl rfl))|((with_reducible apply st_callg);exact rfl;exact rfl;(first|exact rfl|assumption);exact rfl;exact rfl;exact rfl;first|(exact Has.ag (g7 rfl rfl rfl rfl rfl rfl rfl) c1)|(refine Has.gf2 (u' := fA2 g.k m) (c' := fA2 3 g.n) ?_ ?_ c2 <;> exact two2 rfl rfl)))
    refine awp_yes rfl rfl ?_
    refine run0p ?_
    exact ⟨.inr rfl, _, Imp.refl _, .two (.tmp rfl) (.tmp rfl)⟩
theorem sim_stl {W : Wd} {N : Nat} {β : Nat → Nat → Value} {w : World} {a : Act} {s : St} {e : List (Nat × AV)} {h : List (Nat × Fam)} (hs : Sim W N β w a s) (hn : W.F = none) (σ : Ren) (hinj : ∀ g r g' r', memN g (keys h) = true → memN g' (keys h) = true → σ g r = σ g' r' → g = g' ∧ r = r')
    (he : AllE s σ (fun g => memN g (keys h)) e) (hh : AllH s σ (fun g => memN g (keys h)) h) : Sim W N (ren σ β) w a (stl e h) := by
  have hown : ∀ i, Own (stl e h) (ren σ β) i → Own s β i := by
    rintro i ⟨g, n, F, r, h1, h2, h3⟩
    obtain ⟨n', F', a1, a2, _, _⟩ := hh.get (lkp_mem h1) r h2
    exact ⟨_, n', F', _, a1, a2, h3⟩
  have kg : Fwd (notOwn W s β) (notOwn W (stl e h) (ren σ β)) W.w.heap.size W.w.heap.size (fun g => memN g (keys h)) (ren σ β) (ren σ β) (fun _ => False) w w :=
    ⟨Ext.refl _ _, fun _ _ h => h, fun b hb _ => ⟨hb.1, fun ho => hb.2 (hown b ho)⟩, Nat.le_refl _, fun _ _ _ => rfl⟩
  refine ⟨hs.kept, hs.nodef, hs.size, fun t y hy => ?_, fun g n F r h1 h2 => ?_, fun g n F h1 => lkp_key h1, fun g n F r g' n' F' r' i h1 h2 h3 h4 h5 h6 => ?_, hs.fix, fun i ho => hs.pin i (hown i ho), fun u hu => (by rw [hn] at hu; cases hu), fun u hu => (by rw [hn] at hu; cases hu)⟩
  · obtain ⟨x, a1, a2, a3⟩ := he.get (lkp_mem hy)
    exact ⟨a3, (a2 _ _ _ _ _ (hs.env t x a1).2).fwd kg a3⟩
  · obtain ⟨n', F', a1, a2, a3, a4⟩ := hh.get (lkp_mem h1) r h2
    exact ⟨a4, RB.fwd kg a4 (fun _ _ h => h) (rb_ble a3 (hs.heap _ _ _ _ a1 a2).2)⟩
  · obtain ⟨m, G, a1, a2, _, _⟩ := hh.get (lkp_mem h1) r h2
    obtain ⟨m', G', b1, b2, _, _⟩ := hh.get (lkp_mem h3) r' h4
    have := hs.inj _ _ _ _ _ _ _ _ i a1 a2 b1 b2 h5 h6
    exact hinj g r g' r' (lkp_key h1) (lkp_key h3) (Prod.ext this.1 this.2)
/-- What a call has made, under other names. -/
theorem HasH.ren {P : Program} {f : FuncId} {xs : List AV} {r r' : AV} {h h' : List (Nat × Fam)} (H : HasH P f [] xs r h) (σ : Ren) (hinj : ∀ g q g' q', memN g (keys h') = true → memN g' (keys h') = true → σ g q = σ g' q' → g = g' ∧ q = q')
    (he : AllE (stl [(0, r)] h) σ (fun g => memN g (keys h')) [(0, r')]) (hh : AllH (stl [(0, r)] h) σ (fun g => memN g (keys h')) h') : HasH P f [] xs r' h' := by
  refine ⟨H.b, fun W β w vs hl hF hs => (H.run W β w vs hl hF hs).mono ?_⟩
  rintro e w' ⟨v, β', rfl, hs', _⟩
  have hn : W.F = none := by
    cases e : W.F with
    | none => rfl
    | some u => have := hs.keep u e 60 rfl; cases this
  exact ⟨v, AM.ren σ β', rfl, sim_stl hs' hn σ hinj he hh, fun g hg => by cases hg⟩
abbrev RVm (n : Nat) (f : Nat → Rat) : List (Nat × Fam) := [(60, (1, fun _ => .rats n fun i => .q (f i))), (61, (0, fun _ => .rats 0 fun _ => ra0)), (62, (0, fun _ => .rats 0 fun _ => ra0))]
theorem Le.tup3 {σ : Ren} {a b c a' b' c' : AV} (h1 : Le σ a a') (h2 : Le σ b b') (h3 : Le σ c c') : Le σ (.tup3 a b c) (.tup3 a' b' c') := by
  rintro S B β w v ⟨x, y, z, e, k1, k2, k3⟩
  exact ⟨x, y, z, e, h1 _ _ _ _ _ k1, h2 _ _ _ _ _ k2, h3 _ _ _ _ _ k3⟩
end Go.Proofs.YtdnmoggifjlbiaaGreat.AM
/- A slice of nothing, in a struct's cell, that is laid behind. -/
namespace Go.Proofs.YtdnmoggifjlbiaaGreat.AM
open Go Go.RowKit Go.Proofs.YtdnmoggifjlbiaaGreat.PN Go.Proofs.YtdnmoggifjlbiaaGreat.V
set_option linter.unusedVariables false
set_option linter.unusedSimpArgs false
end Go.Proofs.YtdnmoggifjlbiaaGreat.AM
/- Systems by leading parts: the plain laws. -/
namespace Go.Proofs.YtdnmoggifjlbiaaGreat.AM
open Go.Proofs.YtdnmoggifjlbiaaGreat.PN
open Go.Proofs.YtdnmoggifjlbiaaGreat.LA (Mt S S_succ S_zero S_congr app app_sub app_mul app_add det Toe Two two_step two_minor two_break longer later app_longer)
set_option linter.unusedVariables false
set_option linter.unusedSimpArgs false
set_option maxRecDepth 8000
set_option maxHeartbeats 8000000
variable {n : Nat} {F : Nat → Nat → Rat}
/-- The least leading minor that is nought. -/
noncomputable def lstD (F : Nat → Nat → Rat) (n : Nat) : Nat := if fnd (fun k => gdet (k + 1) F = 0) n 0 < n then fnd (fun k => gdet (k + 1) F = 0) n 0 + 1 else 0
end Go.Proofs.YtdnmoggifjlbiaaGreat.AM
/- Drawn systems: how long their entries are, by bits. -/
namespace Go.Proofs.YtdnmoggifjlbiaaGreat.AM
open Go.Proofs.YtdnmoggifjlbiaaGreat.PN
open Go.Proofs.YtdnmoggifjlbiaaGreat.LA (S S_succ S_zero S_congr)
set_option linter.unusedVariables false
set_option linter.unusedSimpArgs false
set_option maxRecDepth 8000
set_option maxHeartbeats 8000000
/-- So many parts of one size. -/
def Fq (D M : Nat) (q : Rat) : Prop := ∃ z : Int, q = (z : Rat) / ((D : Int) : Rat) ∧ z.natAbs ≤ M
theorem Fq.bt {D M k : Nat} {q : Rat} (h : Fq D M q) (hD : D ≠ 0) (h1 : M < 2 ^ k) (h2 : D < 2 ^ k) : Bt q k := by
  obtain ⟨z, rfl, hz⟩ := h
  have e : (z : Rat) / ((D : Int) : Rat) = PN.mk (decide (z < 0)) z.natAbs D := by
    unfold PN.mk
    have h6 : PN.sg (decide (z < 0)) z.natAbs = z := by
      unfold PN.sg
      by_cases h : z < 0
      · rw [decide_eq_true h]; simp; omega
      · rw [decide_eq_false h]; simp; omega
    rw [h6, Rat.mkRat_eq_div]
    rfl
  rw [e]
  exact Bt.of_mk _ hD (by omega) h2
theorem Fq.mul {D M D' M' : Nat} {p q : Rat} (h : Fq D M p) (k : Fq D' M' q) : Fq (D * D') (M * M') (p * q) := by
  obtain ⟨z, rfl, hz⟩ := h
  obtain ⟨y, rfl, hy⟩ := k
  refine ⟨z * y, ?_, by rw [Int.natAbs_mul]; exact Nat.mul_le_mul hz hy⟩
  rw [Rat.intCast_mul, show ((D * D' : Nat) : Int) = (D : Int) * (D' : Int) from Int.natCast_mul D D', Rat.intCast_mul, Rat.div_def, Rat.div_def, Rat.div_def, Rat.inv_mul_rev]
  rw [Rat.mul_assoc, Rat.mul_assoc, ← Rat.mul_assoc (_)⁻¹ (y : Rat), Rat.mul_comm (_)⁻¹ (y : Rat), Rat.mul_assoc (y : Rat), Rat.mul_comm ((D : Int) : Rat)⁻¹]
theorem Fq.add {D M M' : Nat} {p q : Rat} (h : Fq D M p) (k : Fq D M' q) : Fq D (M + M') (p + q) := by
  obtain ⟨z, rfl, hz⟩ := h
  obtain ⟨y, rfl, hy⟩ := k
  refine ⟨z + y, ?_, by omega⟩
  rw [Rat.intCast_add, Rat.div_def, Rat.div_def, Rat.div_def, Rat.add_mul]
theorem Fq.zero (D : Nat) : Fq D 0 0 := ⟨0, by rw [Rat.div_def]; simp, Nat.le_refl _⟩
theorem Fq.mono {D M M' : Nat} {q : Rat} (h : Fq D M q) (k : M ≤ M') : Fq D M' q := by
  obtain ⟨z, e, hz⟩ := h
  exact ⟨z, e, Nat.le_trans hz k⟩
theorem Fq.sum {D M n : Nat} {f : Nat → Rat} (h : ∀ i, i < n → Fq D M (f i)) : Fq D (n * M) (S n f) := by
  induction n with
  | zero => rw [Nat.zero_mul]; exact Fq.zero D
  | succ n ih => rw [Nat.succ_mul]; exact (ih fun i hi => h i (by omega)).add (h n (by omega))
theorem smal_parts : ∀ x : _root_.Fin 41, ∀ y : _root_.Fin 5, (((x.val : Int) - 20 : Int) : Rat) / ((1 + (y.val : Int) : Int) : Rat) = ((((x.val : Int) - 20) * (60 / (1 + (y.val : Int))) : Int) : Rat) / (((60 : Nat) : Int) : Rat) ∧ (((x.val : Int) - 20) * (60 / (1 + (y.val : Int)))).natAbs ≤ 1200 := by decide +kernel
theorem smal_fq (a : Int) : Fq 60 1200 (smal a) := by
  obtain ⟨h1, h2⟩ := wthn_lt (a := a) (n := 41) (by decide)
  obtain ⟨h3, h4⟩ := wthn_lt (a := a.tdiv 41) (n := 5) (by decide)
  have := smal_parts ⟨(wthn a 41).toNat, by omega⟩ ⟨(wthn (a.tdiv 41) 5).toNat, by omega⟩
  rw [show (((wthn a 41).toNat : Nat) : Int) = wthn a 41 by omega, show (((wthn (a.tdiv 41) 5).toNat : Nat) : Int) = wthn (a.tdiv 41) 5 by omega] at this
  exact ⟨_, this.1, this.2⟩
/-- A system whose numbers are small. -/
structure Sml5 (g : GD) : Prop where
  n : g.n ≤ 8
  r : g.r ≤ 2
  A : ∀ i, i < g.la → Bt (g.A i) 5
  B : ∀ i, i < g.lb → Bt (g.B i) 13
  G : ∀ i, i < g.lg → Fq 60 1200 (g.G i)
  H : ∀ i, i < g.lh → Fq 60 1200 (g.H i)
end Go.Proofs.YtdnmoggifjlbiaaGreat.AM
/- Answers of small systems: how long they are. -/
namespace Go.Proofs.YtdnmoggifjlbiaaGreat.AM
open Go.Proofs.YtdnmoggifjlbiaaGreat.PN
open Go.Proofs.YtdnmoggifjlbiaaGreat.LA (Mt S S_succ S_zero S_congr app det cupd cupd_at cupd_ne cramer)
set_option linter.unusedVariables false
set_option linter.unusedSimpArgs false
set_option maxRecDepth 8000
set_option maxHeartbeats 8000000
theorem Fq.sg (i : Nat) : Fq 1 1 (LA.sg i) := by
  unfold LA.sg
  split
  · exact ⟨1, by decide +kernel, by decide⟩
  · exact ⟨-1, by decide +kernel, by decide⟩
def fac : Nat → Nat
  | 0 => 1
  | n + 1 => (n + 1) * fac n
theorem det_fq {D M : Nat} : ∀ {n : Nat} {F : Mt}, (∀ i j, i < n → j < n → Fq D M (F i j)) → Fq (D ^ n) (fac n * M ^ n) (det n F)
  | 0, F, _ => ⟨1, by show (1 : Rat) = _; rw [Nat.pow_zero]; decide +kernel, by rw [Nat.pow_zero]; decide⟩
  | n + 1, F, h => by
    have hs : ∀ i, i < n + 1 → Fq (D ^ (n + 1)) (fac n * M ^ (n + 1)) (LA.sg i * F i 0 * det n (LA.del i F)) := fun i hi => by
      have h1 := det_fq (n := n) (F := LA.del i F) fun r c hr hc => by
        show Fq D M (F (LA.skip i r) (c + 1))
        refine h _ _ ?_ (by omega)
        unfold LA.skip; split <;> omega
      have h2 := ((Fq.sg i).mul (h i 0 hi (by omega))).mul h1
      have e1 : 1 * D * D ^ n = D ^ (n + 1) := by rw [Nat.one_mul, Nat.pow_succ, Nat.mul_comm]
      have e2 : 1 * M * (fac n * M ^ n) = fac n * M ^ (n + 1) := by rw [Nat.one_mul, Nat.pow_succ, Nat.mul_left_comm, Nat.mul_comm M]
      rw [e1, e2] at h2
      exact h2
    have := Fq.sum hs
    rw [← Nat.mul_assoc] at this
    exact this
theorem quo_bt {E M k : Nat} {p q : Rat} (hp : Fq E M p) (hq : Fq E M q) (h0 : q ≠ 0) (hM : M < 2 ^ k) : Bt (p / q) k := by
  obtain ⟨y, rfl, hy⟩ := hp
  obtain ⟨z, rfl, hz⟩ := hq
  have hz0 : z ≠ 0 := fun e => h0 (by rw [e, Rat.div_def]; simp)
  have hE : ((E : Int) : Rat) ≠ 0 := fun e => h0 (by rw [e, Rat.div_def, Rat.inv_zero, Rat.mul_zero])
  have hzr : ((z : Int) : Rat) ≠ 0 := fun e => hz0 (by exact_mod_cast e)
  have e : ((y : Int) : Rat) / ((E : Int) : Rat) / (((z : Int) : Rat) / ((E : Int) : Rat)) = ((y : Int) : Rat) / ((z : Int) : Rat) := by
    rw [Rat.div_def, Rat.div_def, Rat.div_def, Rat.div_def, Rat.inv_mul_rev, Rat.inv_inv]
    rw [Rat.mul_assoc, ← Rat.mul_assoc (_)⁻¹ ((E : Int) : Rat), Rat.inv_mul_cancel _ hE, Rat.one_mul]
  rw [e]
  have e2 : ((y : Int) : Rat) / ((z : Int) : Rat) = ((y * z.sign : Int) : Rat) / (((z.natAbs : Nat) : Int) : Rat) := by
    have hs : z.sign * z = (z.natAbs : Int) := by rw [Int.mul_comm]; exact Int.mul_sign_self z
    have h1 : (((z.natAbs : Nat) : Int) : Rat) = ((z.sign : Int) : Rat) * ((z : Int) : Rat) := by rw [← Rat.intCast_mul, hs]
    have hsz : z.sign * z.sign = 1 := by
      rcases Int.lt_trichotomy z 0 with h | h | h
      · rw [Int.sign_eq_neg_one_of_neg h]; rfl
      · exact absurd h hz0
      · rw [Int.sign_eq_one_of_pos h]; rfl
    have hss : ((z.sign : Int) : Rat) * ((z.sign : Int) : Rat) = 1 := by rw [← Rat.intCast_mul, hsz]; rfl
    have hsi : ((z.sign : Int) : Rat)⁻¹ = ((z.sign : Int) : Rat) := by
      have hne : ((z.sign : Int) : Rat) ≠ 0 := fun e => by rw [e, Rat.mul_zero] at hss; exact absurd hss (by decide)
      calc ((z.sign : Int) : Rat)⁻¹ = ((z.sign : Int) : Rat)⁻¹ * (((z.sign : Int) : Rat) * ((z.sign : Int) : Rat)) := by rw [hss, Rat.mul_one]
        _ = ((z.sign : Int) : Rat) := by rw [← Rat.mul_assoc, Rat.inv_mul_cancel _ hne, Rat.one_mul]
    rw [h1, Rat.intCast_mul, Rat.div_def, Rat.div_def, Rat.inv_mul_rev, hsi]
    rw [Rat.mul_assoc ((y : Int) : Rat), ← Rat.mul_assoc ((z.sign : Int) : Rat), Rat.mul_comm ((z.sign : Int) : Rat) (_)⁻¹, Rat.mul_assoc (_)⁻¹, hss, Rat.mul_one]
  have h3 : z.natAbs ≠ 0 := by omega
  exact Fq.bt (D := z.natAbs) (M := M) ⟨y * z.sign, e2, by
    rw [Int.natAbs_mul]
    have : z.sign.natAbs ≤ 1 := by
      rcases Int.lt_trichotomy z 0 with h | h | h
      · rw [Int.sign_eq_neg_one_of_neg h]; decide
      · rw [h]; decide
      · rw [Int.sign_eq_one_of_pos h]; decide
    exact Nat.le_trans (Nat.mul_le_mul_left _ this) (by rw [Nat.mul_one]; exact hy)⟩ h3 hM (Nat.lt_of_le_of_lt hz hM)
theorem fac6 : ∀ n : _root_.Fin 7, fac n.val * 1200 ^ n.val < 2 ^ 72 := by decide
/-- An answer of a small system. -/
theorem ans_bt {n : Nat} {F : Nat → Nat → Rat} {b x : Nat → Rat} (hF : ∀ i j, i < n → j < n → Fq 60 1200 (F i j)) (hb : ∀ i, i < n → Fq 60 1200 (b i)) (hn : n ≤ 6) (hd : det n F ≠ 0) (hx : ∀ i, i < n → app n F x i = b i) {c : Nat} (hc : c < n) : Bt (x c) 72 := by
  have h1 := cramer n F x hc
  have h2 := det_fq (n := n) (F := cupd F c (app n F x)) fun i j hi hj => by
    by_cases e : j = c
    · subst e; rw [cupd_at, hx i hi]; exact hb i hi
    · rw [cupd_ne _ _ _ e]; exact hF i j hi hj
  have h3 := det_fq (n := n) (F := F) hF
  have e : x c = det n (cupd F c (app n F x)) / det n F := by
    rw [h1, Rat.div_def, Rat.mul_comm (det n F), Rat.mul_assoc, Rat.mul_inv_cancel _ hd, Rat.mul_one]
  rw [e]
  exact quo_bt h2 h3 hd (fac6 ⟨n, by omega⟩)
theorem ans_wt {n : Nat} {F : Nat → Nat → Rat} {b x : Nat → Rat} (hF : ∀ i j, i < n → j < n → Fq 60 1200 (F i j)) (hb : ∀ i, i < n → Fq 60 1200 (b i)) (hn : n ≤ 6) (hd : det n F ≠ 0) (hx : ∀ i, i < n → app n F x i = b i) {c : Nat} (hc : c < n) : Wt (x c) 3 :=
  (ans_bt hF hb hn hd hx hc).wt (by decide)
end Go.Proofs.YtdnmoggifjlbiaaGreat.AM
/- The document's way to solve: walked. -/
namespace Go.Proofs.YtdnmoggifjlbiaaGreat.AM
open Go Go.RowKit Go.Proofs.YtdnmoggifjlbiaaGreat.PN Go.Proofs.YtdnmoggifjlbiaaGreat.V
open Go.Proofs.YtdnmoggifjlbiaaGreat.LA (S S_succ S_zero S_congr)
set_option linter.unusedVariables false
set_option linter.unusedSimpArgs false
set_option maxRecDepth 8000
set_option maxHeartbeats 8000000
/-- The answer, as far as it is known: the last k parts. -/
def xs (n : Nat) (P : Nat → Nat → Rat) (k i : Nat) : RA := if n - k ≤ i then .q (bsx n P k i) else ra0
theorem xs_at {n k i : Nat} {P : Nat → Nat → Rat} (h : n - k ≤ i) : xs n P k i = .q (bsx n P k i) := if_pos h
theorem xs_step {n k i : Nat} {P : Nat → Nat → Rat} (hk : k < n) (hi : i < n) : updN (xs n P k) (n - 1 - k) (.q (bsx n P (k + 1) (n - 1 - k))) i = xs n P (k + 1) i := by
  by_cases e : i = n - 1 - k
  · subst e; rw [updN_same, xs_at (by omega)]
  · rw [updN_ne _ _ e]
    unfold xs
    by_cases h : n - k ≤ i
    · rw [if_pos h, if_pos (by omega), bsx_later (k := k) (k' := k + 1) (by omega) (by omega) h hi]
    · rw [if_neg h, if_neg (by omega)]
theorem sbd_mono (X Y : Nat → Nat) (i : Nat) : ∀ {u k : Nat}, u ≤ k → sbd X Y i u ≤ sbd X Y i k := by
  intro u k h
  induction h with
  | refl => exact Nat.le_refl _
  | step h ih =>
    rename_i m
    show _ ≤ sbd X Y i m + (X i + Y (i + 1 + m)) + 1
    omega
structure BB (n : Nat) (F : Nat → Nat → Rat) (b : Nat → Rat) (X : Nat → Nat) : Prop where
  tb : TB n (n + 1) 2400 (augb n F b)
  P : ∀ i, i < n → ∀ j, Wt (PR (gt n F b) i j) (X i)
  ok : ybOK n X = true
theorem r7_solve {n : Nat} {F : Nat → Nat → Rat} {b : Nat → Rat} {X : Nat → Nat} (hB : BB n F b X) (h0 : 0 < n) (hn : n ≤ 8) : Has Tryz.prog 78 [.mat false n (fun _ => n) (fun i j => .q (F i j)), .row false n (fun i => .q (b i))] (if gdet n F = 0 then .tup (.row true 0 fun _ => .q 0) (.i 9) else .tup (.row true n fun i => .q (bsx n (PR (gt n F b)) n i)) (.i 0)) := by
  have hcl : (if gdet n F = 0 then AV.tup (.row true 0 fun _ => .q 0) (.i 9) else .tup (.row true n fun i => .q (bsx n (PR (gt n F b)) n i)) (.i 0)).closed = true := by split <;> rfl
  refine has_of Tryz.func78 (by kernel_rfl) rfl Tryz.ntmps78 Tryz.results78 rfl hcl rfl ?_
  have hrow : ∀ {σ : Ren} {k : Nat} {z : Nat → RA}, BLe σ (.rats (0 + n + 1) (glue (0 + n) (glue 0 z (fun j => .q (F k j))) (fun i => [RA.q (b k)].getD i ra0))) (.rats (n + 1) fun j => .q (augb n F b k j)) := fun {σ k z} => blen (by omega) fun j hj => by
    unfold glue augb aug
    rw [Nat.zero_add]
    by_cases e : j < n
    · rw [if_pos e, if_pos e, if_neg (Nat.not_lt_zero _), Nat.sub_zero]
    · obtain rfl : j = n := by omega
      rw [if_neg e, if_neg e, Nat.sub_self]; rfl
  refine run0 ?_
  refine awp_loop (fun m' s => ∃ k, k ≤ n ∧ m' = n - k ∧ s = famT 7 3 [(0, .mat false n (fun _ => n) (fun i j => .q (F i j))), (1, .row false n (fun i => .q (b i))), (6, .i n), (8, .i (k : Int))] [] (n + 1) (augb n F b) k) n _ (imp_id (h := []) (e := [(7, .v (.slice none 0 0)), (0, .mat false n (fun _ => n) (fun i j => .q (F i j))), (1, .row false n (fun i => .q (b i))), (6, .i n), (8, .i ((0 : Nat) : Int))]) ?_ ?_) ⟨0, Nat.zero_le _, rfl, rfl⟩ ?_
  · exact eA
  · exact hA
  · rintro m' s ⟨k, hk, rfl, rfl⟩
    rcases k with _ | k
    · refine run0 ?_
      refine awp_if rfl (fun h => ?_) (fun h => absurd (show ((0 : Nat) : Int) < n by omega) h)
      refine run0 ?_
      refine q_loop (m' := n - (0 + 1)) (by omega) (famT_close (k := 0) (a := 37) (b := 35) (F2 := fun _ => .rats 0 fun _ => ra0) rfl rfl rfl (fun i hi => absurd hi (Nat.not_lt_zero _)) rfl (fun h => absurd h (Nat.lt_irrefl _)) (fun r hr => absurd hr (Nat.not_lt_zero _)) rfl (by exact hrow) rfl (by decide) rfl ?_ (by exact True.intro)) ⟨0 + 1, by omega, rfl, rfl⟩
      refine alle rfl (Le.eq rfl rfl) True.intro (alle rfl (Le.eq rfl rfl) True.intro (alle rfl (Le.eq rfl rfl) True.intro (alle rfl (Le.eq rfl rfl) True.intro True.intro)))
    · refine run0 ?_
      refine awp_if rfl (fun h => ?_) (fun h => ?_)
      · have h : k + 1 < n := by omega
        refine run0 ?_
        refine q_loop (m' := n - (k + 1 + 1)) (by omega) (famT_close (k := k + 1) (a := 37) (b := 35) rfl rfl rfl (fun i hi => if_pos hi) (by show (if _ then _ else _) = _; rw [if_neg (Nat.lt_irrefl _), Nat.sub_self]; rfl) (fun _ => rfl) (fun r hr => blen rfl fun j hj => rfl) rfl (by exact hrow) rfl (by decide) rfl ?_ (by exact True.intro)) ⟨k + 1 + 1, by omega, rfl, rfl⟩
        refine alle rfl (Le.eq rfl rfl) True.intro (alle rfl (Le.eq rfl rfl) True.intro (alle rfl (Le.eq rfl rfl) True.intro (alle rfl (Le.eq rfl rfl) True.intro True.intro)))
      · obtain rfl : k + 1 = n := by omega
        refine awp_imp ((imp_TH (n := k + 1) (t := 7) (g := 3) (m := k + 1 + 1) (π := fun i => i) (A := augb (k + 1) F b) (e := [(6, .i ((k + 1 : Nat) : Int)), (7, .own 7 0)]) (l := []) rfl rfl (fun _ _ => rfl) rfl (fun r hr => blen rfl fun _ _ => rfl) rfl ?_ ?_).trans (imp_mat2 7 (fun _ => k + 1 + 1) (fun i j => .q (augb (k + 1) F b i j)) rfl rfl rfl (fun _ _ => rfl) rfl (fun _ _ => rfl) (by decide))) ?_
        · exact eA
        · exact hA
        generalize hN : k + 1 = N at *
        have c1 := r7_triangle hB.tb (by decide) h0 hn (Nat.le_succ N) (by omega)
        have eg : stps N (N + 1) false (augb N F b) N = gt N F b := rfl
        rw [eg, gt_det] at c1
        have c2 := hs_nought (p := gdet N F)
        repeat(first|refine run1 ?_|((with_reducible apply st_call);exact rfl;exact rfl;exact rfl;first|(exact c1)|(exact c2))|((with_reducible apply st_callg);exact rfl;exact rfl;(first|exact rfl|assumption);exact rfl;exact rfl;exact rfl;first|(exact c1)|(exact c2)))
        by_cases hd : gdet N F = 0
        · rw [if_pos hd]
          refine awp_yes rfl (decide_eq_true hd) ?_
          refine run0 ?_
          refine ⟨.inr rfl, _, imp_slot (y := .row true 0 fun _ => .q 0) 4 rfl True.intro Le.nilrow, ?_⟩
          exact .two (.tmp rfl) (.tmp rfl)
        · rw [if_neg hd]
          refine awp_no rfl (decide_eq_false hd) ?_
          obtain ⟨_, hnz, _⟩ := gt_nz (b := b) hd
          have hP := hB.P
          have hok := hB.ok
          have hPR : (fun i j => RA.q ((gt N F b).A ((gt N F b).π i) j)) = fun i j => RA.q (PR (gt N F b) i j) := rfl
          rw [hPR]
          generalize PR (gt N F b) = P at *
          have hb : ∀ k, k < N → sbd X (ybd N X k) (N - 1 - k) k ≤ 15000 ∧ X (N - 1 - k) ≤ 15000 := fun k hk => by
            have := List.all_eq_true.1 hok k (List.mem_range.2 hk)
            rw [Bool.and_eq_true] at this
            exact ⟨Nat.le_of_ble_eq_true this.1, Nat.le_of_ble_eq_true this.2⟩
          refine run0 ?_
          refine awp_loop (fun m' s => ∃ k, k ≤ N ∧ m' = N - k ∧ s = stl [(6, .i N), (9, .mat true N (fun _ => N + 1) (fun i j => .q (P i j))), (12, .own 48 0), (13, .i ((N : Int) - 1 - k))] [(48, (1, fun _ => .rats N (xs N P k)))]) N _ (imp_id ?_ ?_) ⟨0, Nat.zero_le _, rfl, rfl⟩ ?_
          · refine alle rfl (Le.id rfl) True.intro (alle rfl (Le.id rfl) True.intro (alle rfl (Le.id rfl) rfl (alle rfl (Le.id ?_) True.intro True.intro)))
            exact congrArg AV.i (by omega)
          · refine allh rfl (by decide) (blen rfl fun i hi => ?_) True.intro True.intro
            exact (if_neg (by omega)).symm
          · rintro m' s ⟨k, hk, rfl, rfl⟩
            refine run0 ?_
            refine awp_if rfl (fun h => ?_) (fun h => ?_)
            · have hkN : k < N := by omega
              obtain ⟨I, hI⟩ : ∃ I, N - 1 - k = I := ⟨_, rfl⟩
              have eI : (N : Int) - 1 - k = (I : Int) := by omega
              have hIN : I < N := by omega
              obtain ⟨hb1, hb2⟩ := hb k hkN
              have hy : ∀ u, u < k → Wt (bsx N P k (I + 1 + u)) (ybd N X k (I + 1 + u)) := fun u hu => ybd_wt (X := X) hP k hk _ (by omega) (by omega)
              have hsw : ∀ u, u ≤ k → Wt (P I N - S u fun v => P I (I + 1 + v) * bsx N P k (I + 1 + v)) (sbd X (ybd N X k) I u) := fun u hu => sbd_wt (X := X) (Y := ybd N X k) (hP I hIN N) (hP I hIN) u (fun v hv => hy v (by omega))
              have hsl : ∀ u, u ≤ k → sbd X (ybd N X k) I u ≤ 15000 := fun u hu => Nat.le_trans (sbd_mono X _ I hu) (by rw [← hI]; exact hb1)
              rw [hI] at hb2
              rw [eI]
              refine run0 ?_
              refine awp_loop (fun m' s => ∃ u, u ≤ k ∧ m' = k - u ∧ s = stl [(6, .i N), (9, .mat true N (fun _ => N + 1) (fun i j => .q (P i j))), (12, .own 48 0), (13, .i I), (14, .rptr 14 0 0), (15, .i ((I + 1 + u : Nat) : Int))] [(48, (1, fun _ => .rats N (xs N P k))), (14, (1, fun _ => .rats 1 fun _ => .q (P I N - S u fun v => P I (I + 1 + v) * bsx N P k (I + 1 + v))))]) k _ (imp_id ?_ ?_) ⟨0, Nat.zero_le _, rfl, rfl⟩ ?_
              · exact eA
              · refine allh rfl (by decide) (blen rfl fun _ _ => rfl) True.intro (allh rfl (by decide) (ble1 (congrArg RA.q ?_)) True.intro True.intro)
                rw [S_zero, Rat.sub_eq_add_neg, Rat.neg_zero, Rat.add_zero]; rfl
              · rintro m' s ⟨u, hu, rfl, rfl⟩
                refine run0 ?_
                refine awp_if rfl (fun h1 => ?_) (fun h1 => ?_)
                · have huk : u < k := by omega
                  have d1 := cs_mul (p := P I (I + 1 + u)) (q := bsx N P k (I + 1 + u)) (hp := hP I hIN _) (hq := hy u huk) ⟨hb2, by have := hsl (u + 1) huk; unfold sbd at this; omega⟩
                  have wm : Wt (P I (I + 1 + u) * bsx N P k (I + 1 + u)) (X I + ybd N X k (I + 1 + u)) := Wt.mul (h := hP I hIN _) (k := hy u huk)
                  have d2 := cs_sub (p := P I N - S u fun v => P I (I + 1 + v) * bsx N P k (I + 1 + v)) (q := P I (I + 1 + u) * bsx N P k (I + 1 + u)) (hp := hsw u hu) (hq := wm) ⟨hsl u hu, by have := hsl (u + 1) huk; unfold sbd at this; omega⟩
                  refine run0 ?_
                  rw [show xs N P k (((I + 1 + u : Nat) : Int)).toNat = .q (bsx N P k (I + 1 + u)) from xs_at (show N - k ≤ I + 1 + u by omega)]
                  repeat(first|refine run1 ?_|((with_reducible apply st_call);exact rfl;exact rfl;exact rfl;first|(exact d1)|(exact d2))|((with_reducible apply st_callg);exact rfl;exact rfl;(first|exact rfl|assumption);exact rfl;exact rfl;exact rfl;first|(exact d1)|(exact d2)))
                  refine q_loop (m' := k - (u + 1)) (by omega) (imp_id (e := [(6, .i N), (9, .mat true N (fun _ => N + 1) (fun i j => .q (P i j))), (12, .own 48 0), (13, .i I), (14, .rptr 14 0 0), (15, .i ((I + 1 + (u + 1) : Nat) : Int))]) (h := [(48, (1, fun _ => .rats N (xs N P k))), (14, (1, fun _ => .rats 1 fun _ => .q (P I N - S (u + 1) fun v => P I (I + 1 + v) * bsx N P k (I + 1 + v))))]) ?_ ?_) ⟨u + 1, by omega, rfl, rfl⟩
                  · exact eA
                  · refine allh rfl (by decide) (blen rfl fun _ _ => rfl) True.intro (allh rfl (by decide) (ble1 (congrArg RA.q ?_)) True.intro True.intro)
                    rw [S_succ]; grind
                · obtain rfl : u = k := by omega
                  have hd2 := hnz I hIN
                  have ev : bsx N P (u + 1) (N - 1 - u) = (P I N - S u fun v => P I (I + 1 + v) * bsx N P u (I + 1 + v)) / P I I := by rw [bsx_at, hI]
                  have d3 := cs_over (p := P I N - S u fun v => P I (I + 1 + v) * bsx N P u (I + 1 + v)) (q := P I I) (hp := hsw u hu) (hq := hP I hIN I) ⟨hsl u hu, hb2⟩ hd2
                  repeat(first|refine run1 ?_|((with_reducible apply st_call);exact rfl;exact rfl;exact rfl;first|(exact d3))|((with_reducible apply st_callg);exact rfl;exact rfl;(first|exact rfl|assumption);exact rfl;exact rfl;exact rfl;first|(exact d3)))
                  refine q_loop (m' := N - (u + 1)) (by omega) (imp_id (e := [(6, .i N), (9, .mat true N (fun _ => N + 1) (fun i j => .q (P i j))), (12, .own 48 0), (13, .i ((N : Int) - 1 - (u + 1 : Nat)))]) (h := [(48, (1, fun _ => .rats N (xs N P (u + 1))))]) ?_ ?_) ⟨u + 1, by omega, rfl, rfl⟩
                  · refine alle rfl (Le.id rfl) True.intro (alle rfl (Le.id rfl) True.intro (alle rfl (Le.id rfl) rfl (alle rfl (Le.id ?_) True.intro True.intro)))
                    exact congrArg AV.i (by omega)
                  · refine allh rfl (by decide) (blen rfl fun i hi => ?_) True.intro True.intro
                    have := xs_step (P := P) hkN hi
                    rw [ev, hI] at this
                    exact this
            · obtain rfl : k = N := by omega
              refine run0 ?_
              refine ⟨.inr rfl, _, imp_rowv 4 (fun i => .q (bsx k P k i)) rfl rfl rfl (fun i hi => xs_at (by omega)), ?_⟩
              exact .two (.tmp rfl) (.tmp rfl)
end Go.Proofs.YtdnmoggifjlbiaaGreat.AM
/- Rows that are the same: the rest. -/
namespace Go.Proofs.YtdnmoggifjlbiaaGreat.AM
open Go Go.RowKit Go.Proofs.YtdnmoggifjlbiaaGreat.PN Go.Proofs.YtdnmoggifjlbiaaGreat.V
open Go.Proofs.YtdnmoggifjlbiaaGreat.LA (S S_succ S_zero S_congr)
set_option linter.unusedVariables false
set_option linter.unusedSimpArgs false
set_option maxRecDepth 4000
set_option maxHeartbeats 4000000
theorem k_rowsb {n K : Nat} {f g : Nat → Rat} (hf : ∀ i, i < n → Wt (f i) K) (hK1 : 1 ≤ K) (hK : K ≤ 1000000000000) (hn : n ≤ 1000) (h : ∀ i, i < n → f i = g i) : Has Tryz.prog 19 [.row false n (fun i => .q (f i)), .row false n (fun i => .q (g i))] (.b true) := by
  have w : ∀ i, Wt (if i < n then f i else 0) K := fun i => by
    split
    · rename_i h; exact hf i h
    · exact (inferInstance : Wt 0 1).mono hK1
  refine Has.args (k_rows (f := fun i => if i < n then f i else 0) (g := fun i => if i < n then f i else 0) (hf := w) hK hn (fun _ _ => rfl)) fun S B β w vs hv => rvs_cons (rv_row fun i hi => ?_) (fun us hu => rvs_cons (rv_row fun i hi => ?_) (fun us hu => hu) hu) hv
  · rw [if_pos hi]
  · rw [if_pos hi, h i hi]
end Go.Proofs.YtdnmoggifjlbiaaGreat.AM
/- Laws of dense matrices: DenseOps, walked. -/
namespace Go.Proofs.YtdnmoggifjlbiaaGreat.AM
open Go Go.RowKit Go.Proofs.YtdnmoggifjlbiaaGreat.PN Go.Proofs.YtdnmoggifjlbiaaGreat.V
open Go.Proofs.YtdnmoggifjlbiaaGreat.LA (S S_succ S_zero S_congr)
set_option linter.unusedVariables false
set_option linter.unusedSimpArgs false
set_option maxRecDepth 8000
set_option maxHeartbeats 8000000
instance mbase_bt (n : Nat) (zs : List Int) (i j : Nat) : Bt (mbase n zs i j) 5 := rowq_bt _ _
end Go.Proofs.YtdnmoggifjlbiaaGreat.AM
/- Laws of dense matrices: DenseSolves, walked. -/
namespace Go.Proofs.YtdnmoggifjlbiaaGreat.AM
open Go Go.RowKit Go.Proofs.YtdnmoggifjlbiaaGreat.PN Go.Proofs.YtdnmoggifjlbiaaGreat.V
open Go.Proofs.YtdnmoggifjlbiaaGreat.LA (S S_succ S_zero S_congr app)
set_option linter.unusedVariables false
set_option linter.unusedSimpArgs false
set_option maxRecDepth 8000
set_option maxHeartbeats 8000000
/-- A vector of which only n parts are known to be short. -/
theorem r7_applyb {n m K L : Nat} {F : Nat → Nat → Rat} {v : Nat → Rat} [hf : ∀ i j, Wt (F i j) K] (hv : ∀ i, i < m → Wt (v i) L) (hL : 1 ≤ L) (hK : m * (K + L + 1) + 1 ≤ 15000 ∧ K + L ≤ 15000) (hn : n ≤ 8) (hm : m ≤ 8) : Has Tryz.prog 40 [.mat false n (fun _ => m) (fun i j => .q (F i j)), .row false m (fun i => .q (v i))] (.row true n (fun i => .q (S m fun j => F i j * v j))) := by
  have w : ∀ i, Wt (if i < m then v i else 0) L := fun i => by
    split
    · rename_i h; exact hv i h
    · exact (inferInstance : Wt 0 1).mono hL
  have e : (fun i => RA.q (S m fun j => F i j * v j)) = fun i => RA.q (S m fun j => F i j * (if j < m then v j else 0)) := by
    funext i; exact congrArg RA.q (S_congr fun j hj => by rw [if_pos hj])
  rw [e]
  refine Has.args (r7_apply (v := fun i => if i < m then v i else 0) (hf := hf) (hv := w) hK hn hm) fun S B β w vs hv => rvs_cons (fun v hv => hv) (fun us hu => rvs_cons (rv_row fun i hi => ?_) (fun us hu => hu) hu) hv
  rw [if_pos hi]
theorem augb_bt {n K : Nat} {F : Nat → Nat → Rat} {b : Nat → Rat} [hf : ∀ i j, Bt (F i j) K] [hb : ∀ i, Bt (b i) K] (i j : Nat) : Bt (augb n F b i j) K := by
  unfold augb aug; split
  · exact hf i j
  · exact hb _
/-- How long rows are: of so many bits. -/
def xbd (K i : Nat) : Nat := 4 ^ i * (K + 1) / 32 + 1
theorem BB.of {n K : Nat} {F : Nat → Nat → Rat} {b : Nat → Rat} (h0 : 0 < n) (hK : 1 ≤ K) (hX : 3 * (4 ^ (n - 1) * (K + 1)) / 32 + 1 ≤ 2400) [hf : ∀ i j, Bt (F i j) K] [hb : ∀ i, Bt (b i) K] (hok : ybOK n (xbd K) = true) : BB n F b (xbd K) := by
  have hA : ∀ i j, Bt (augb n F b i j) K := fun i j => augb_bt (hf := hf) (hb := hb) i j
  refine ⟨TB.of h0 hK (hA := hA) hX, fun i hi j => ?_, hok⟩
  have h := pr_bits (n := n) (m := n + 1) hK (hA := hA) n i hi j
  have h2 : 4 ^ (min i (stps n (n + 1) false (augb n F b) n).at') * (K + 1) - 1 ≤ 4 ^ i * (K + 1) := by
    have := Nat.mul_le_mul_right (K + 1) (Nat.pow_le_pow_right (show 0 < 4 by decide) (Nat.min_le_left i (stps n (n + 1) false (augb n F b) n).at'))
    omega
  exact (h.mono h2).wt (Nat.le_refl _)
end Go.Proofs.YtdnmoggifjlbiaaGreat.AM
/- The document's systems: entries. -/
namespace Go.Proofs.YtdnmoggifjlbiaaGreat.AM
open Go Go.RowKit Go.Proofs.YtdnmoggifjlbiaaGreat.PN Go.Proofs.YtdnmoggifjlbiaaGreat.V
open Go.Proofs.YtdnmoggifjlbiaaGreat.LA (S S_succ S_zero S_congr)
set_option linter.unusedVariables false
set_option linter.unusedSimpArgs false
set_option maxRecDepth 8000
set_option maxHeartbeats 8000000
theorem r5_row {g : GD} {i j : Nat} (sm : g.Sm) (hr : g.r ≤ 3) (hi : i < 8) (hj : j < 8) (hg : i * g.r + g.r ≤ g.lg) (hh : j * g.r + g.r ≤ g.lh) : Has Tryz.prog 64 [g.v, .i i, .i j] (.q (rdot g i j)) := by
  have hI : i * g.r ≤ 8 * 3 := Nat.mul_le_mul (by omega) hr
  have hJ : j * g.r ≤ 8 * 3 := Nat.mul_le_mul (by omega) hr
  have eI : (i : Int) * (g.r : Int) = ((i * g.r : Nat) : Int) := (Int.natCast_mul i g.r).symm
  have eJ : (j : Int) * (g.r : Int) = ((j * g.r : Nat) : Int) := (Int.natCast_mul j g.r).symm
  refine has_of Tryz.func64 (by kernel_rfl) rfl Tryz.ntmps64 Tryz.results64 rfl rfl rfl ?_
  repeat(first|refine run1 ?_|((with_reducible apply st_call);exact rfl;exact rfl;exact rfl;first|(exact hs_zero))|((with_reducible apply st_callg);exact rfl;exact rfl;(first|exact rfl|assumption);exact rfl;exact rfl;exact rfl;first|(exact hs_zero)))
  refine awp_loop (fun m s => ∃ k, k ≤ g.r ∧ m = g.r - k ∧ s = stl [(1, .i i), (2, .i j), (3, .ptr 3 0 0), (6, .rptr 6 0 0), (7, .rptr 7 0 0), (8, .i (k : Int))] [(3, (1, fun _ => .ones 26 7 g.f)), (6, (1, fun _ => .rats 1 (fun _ => ra0))), (7, (1, fun _ => .rats 1 (fun _ => .q (S k fun k => g.G (i * g.r + k) * g.H (j * g.r + k)))))]) g.r _ (imp_id ?_ ?_) ⟨0, Nat.zero_le _, rfl, rfl⟩ ?_
  · exact eA
  · refine allh rfl (by decide) (bleo rfl fun _ _ => Le.id rfl) (fun i _ => g.fok _ i) ?_
    exact hA
  · rintro m s ⟨k, hk, rfl, rfl⟩
    refine run0 ?_
    refine awp_if rfl (fun h => ?_) (fun h => ?_)
    · have h : k < g.r := by omega
      have w1 : wt (S k fun k => g.G (i * g.r + k) * g.H (j * g.r + k)) ≤ k * 9 + 1 := wt_sum (K := 8) fun u hu => by
        have h1 := wt_mul (g.G (i * g.r + u)) (g.H (j * g.r + u)); have h2 := sm.G (i * g.r + u) (by omega); have h3 := sm.H (j * g.r + u) (by omega)
        omega
      have w2 := sm.G (i * g.r + k) (by omega); have w3 := sm.H (j * g.r + k) (by omega)
      have w4 := wt_mul (g.G (i * g.r + k)) (g.H (j * g.r + k))
      have q1 : 0 ≤ (i : Int) * (g.r : Int) := by rw [eI]; omega
      have q2 : (i : Int) * (g.r : Int) ≤ 24 := by rw [eI]; omega
      have q3 : (i : Int) * (g.r : Int) + k < g.lg := by rw [eI]; omega
      have q4 : 0 ≤ (j : Int) * (g.r : Int) := by rw [eJ]; omega
      have q5 : (j : Int) * (g.r : Int) ≤ 24 := by rw [eJ]; omega
      have q6 : (j : Int) * (g.r : Int) + k < g.lh := by rw [eJ]; omega
      have e1 : ((i : Int) * (g.r : Int) + (k : Int)).toNat = i * g.r + k := by rw [eI]; omega
      have e2 : ((j : Int) * (g.r : Int) + (k : Int)).toNat = j * g.r + k := by rw [eJ]; omega
      refine run0 ?_
      rw [e1, e2]
      repeat(first|refine run1 ?_|((with_reducible apply st_call);exact rfl;exact rfl;exact rfl;first|(exact hs_mul (by omega) (by omega))|(exact hs_add (by omega) (by omega)))|((with_reducible apply st_callg);exact rfl;exact rfl;(first|exact rfl|assumption);exact rfl;exact rfl;exact rfl;first|(exact hs_mul (by omega) (by omega))|(exact hs_add (by omega) (by omega))))
      refine q_loop ?_ (imp_id ?_ ?_) ⟨k + 1, ?_, rfl, rfl⟩
      · omega
      · exact eA
      · refine allh rfl (by decide) (bleo rfl fun _ _ => Le.id rfl) (fun i _ => g.fok _ i) ?_
        exact hA
      · omega
    · have ek : k = g.r := by omega
      unfold rdot
      rw [← ek]
      refine run0 ?_
      refine ⟨.inr rfl, _, Imp.refl _, ?_⟩
      exact .one (.rat rfl rfl (by decide) rfl (by decide) rfl)
theorem r5_entry {g : GD} (h : g.OK) {i j : Nat} (hi : i < g.n) (hj : j < g.n) : Has Tryz.prog 24 [g.v, .i i, .i j] (.q (gent g i j)) := by
  have n8 := h.n8; have r3 := h.r3; have k1 := h.k1; have k7 := h.k7; have sm := h.sm
  obtain ⟨m1, m2, m3, m4⟩ := ok_lens h
  have hk : g.k = 1 ∨ g.k = 2 ∨ g.k = 3 ∨ g.k = 4 ∨ g.k = 5 ∨ g.k = 6 ∨ g.k = 7 := by omega
  have hin : i * g.r + g.r ≤ g.n * g.r := by rw [← Nat.succ_mul]; exact Nat.mul_le_mul_right _ hi
  have hjn : j * g.r + g.r ≤ g.n * g.r := by rw [← Nat.succ_mul]; exact Nat.mul_le_mul_right _ hj
  unfold gent
  refine has_of Tryz.func24 (by kernel_rfl) rfl Tryz.ntmps24 Tryz.results24 rfl rfl rfl ?_
  refine run0p ?_
  rcases hk with hk | hk | hk | hk | hk | hk | hk
  · have w := sm.A (i + g.n - 1 - j) (by omega)
    have e1 : ((i : Int) - (j : Int) + (g.n : Int) - 1).toNat = i + g.n - 1 - j := by omega
    have w0 : wt 0 ≤ 1 := by decide
    refine awp_yes rfl (kdec hk rfl) ?_
    refine run0p ?_
    rw [e1]
    repeat(first|refine run1p ?_|((with_reducible apply st_call);exact rfl;exact rfl;exact rfl;first|(exact k_copy (by omega)))|((with_reducible apply st_callg);exact rfl;exact rfl;(first|exact rfl|assumption);exact rfl;exact rfl;exact rfl;first|(exact k_copy (by omega))))
    refine ⟨.inr rfl, _, Imp.refl _, .one (.rat rfl rfl (by decide) rfl (by decide) ?_)⟩
    rw [hk]; rfl
  · have w := sm.A (i + j) (by omega)
    have e1 : ((i : Int) + (j : Int)).toNat = i + j := by omega
    have w0 : wt 0 ≤ 1 := by decide
    refine awp_no rfl (kndec hk (by decide)) ?_
    refine run0p ?_
    refine awp_yes rfl (kdec hk rfl) ?_
    refine run0p ?_
    rw [e1]
    repeat(first|refine run1p ?_|((with_reducible apply st_call);exact rfl;exact rfl;exact rfl;first|(exact k_copy (by omega)))|((with_reducible apply st_callg);exact rfl;exact rfl;(first|exact rfl|assumption);exact rfl;exact rfl;exact rfl;first|(exact k_copy (by omega))))
    refine ⟨.inr rfl, _, Imp.refl _, .one (.rat rfl rfl (by decide) rfl (by decide) ?_)⟩
    rw [hk]; rfl
  · have hlt : (i + g.n - j) % g.n < g.n := Nat.mod_lt _ (by omega)
    have w := sm.A ((i + g.n - j) % g.n) (by omega)
    have w0 : wt 0 ≤ 1 := by decide
    have e0 : Int.tmod ((i : Int) - (j : Int) + (g.n : Int)) (g.n : Int) = (((i + g.n - j) % g.n : Nat) : Int) := by
      rw [Int.tmod_eq_emod_of_nonneg (by omega), show ((i : Int) - (j : Int) + (g.n : Int)) = ((i + g.n - j : Nat) : Int) by omega]
      rfl
    have e1 : (Int.tmod ((i : Int) - (j : Int) + (g.n : Int)) (g.n : Int)).toNat = (i + g.n - j) % g.n := by rw [e0]; rfl
    have q1 : 0 ≤ Int.tmod ((i : Int) - (j : Int) + (g.n : Int)) (g.n : Int) := by rw [e0]; omega
    have q2 : Int.tmod ((i : Int) - (j : Int) + (g.n : Int)) (g.n : Int) < g.la := by rw [e0]; omega
    refine awp_no rfl (kndec hk (by decide)) ?_
    refine run0p ?_
    refine awp_no rfl (kndec hk (by decide)) ?_
    refine run0p ?_
    refine awp_yes rfl (kdec hk rfl) ?_
    refine run0p ?_
    rw [e1]
    repeat(first|refine run1p ?_|((with_reducible apply st_call);exact rfl;exact rfl;exact rfl;first|(exact k_copy (by omega)))|((with_reducible apply st_callg);exact rfl;exact rfl;(first|exact rfl|assumption);exact rfl;exact rfl;exact rfl;first|(exact k_copy (by omega))))
    refine ⟨.inr rfl, _, Imp.refl _, .one (.rat rfl rfl (by decide) rfl (by decide) ?_)⟩
    rw [hk]; rfl
  · have w := sm.A i (by omega)
    refine awp_no rfl (kndec hk (by decide)) ?_
    refine run0p ?_
    refine awp_no rfl (kndec hk (by decide)) ?_
    refine run0p ?_
    refine awp_no rfl (kndec hk (by decide)) ?_
    refine run0p ?_
    refine awp_yes rfl (kdec hk rfl) ?_
    repeat(first|refine run1p ?_|((with_reducible apply st_call);exact rfl;exact rfl;exact rfl;first|(exact hs_int 1 (by decide) (by decide)))|((with_reducible apply st_callg);exact rfl;exact rfl;(first|exact rfl|assumption);exact rfl;exact rfl;exact rfl;first|(exact hs_int 1 (by decide) (by decide))))
    refine awp_loop (fun m s => ∃ k, k ≤ j ∧ m = j - k ∧ s = stl [(1, .i i), (2, .i j), (3, .ptr 3 0 0), (6, .rptr 6 0 0), (7, .rptr 7 0 0), (8, .i (k : Int))] [(3, (1, fun _ => .ones 26 7 g.f)), (6, (1, fun _ => .rats 1 (fun _ => ra0))), (7, (1, fun _ => .rats 1 (fun _ => .q (g.A i ^ k))))]) j _ (imp_id ?_ ?_) ⟨0, Nat.zero_le _, rfl, rfl⟩ ?_
    · exact eA
    · refine allh rfl (by decide) (bleo rfl fun _ _ => Le.id rfl) (fun i _ => g.fok _ i) (allh rfl (by decide) (ble1 rfl) True.intro (allh rfl (by decide) (ble1 (by rw [Rat.pow_zero]; rfl)) True.intro True.intro))
    · rintro m s ⟨k, hk', rfl, rfl⟩
      have w1 := pow_wt w k
      refine run0p ?_
      refine awp_if rfl (fun h' => ?_) (fun h' => ?_)
      · have h' : k < j := by omega
        repeat(first|refine run1p ?_|((with_reducible apply st_call);exact rfl;exact rfl;exact rfl;first|(exact hs_mul (p := g.A i ^ k) (q := g.A i) (by omega) (by omega)))|((with_reducible apply st_callg);exact rfl;exact rfl;(first|exact rfl|assumption);exact rfl;exact rfl;exact rfl;first|(exact hs_mul (p := g.A i ^ k) (q := g.A i) (by omega) (by omega))))
        refine q_loop ?_ (imp_id ?_ ?_) ⟨k + 1, ?_, rfl, rfl⟩
        · omega
        · exact eA
        · refine allh rfl (by decide) (bleo rfl fun _ _ => Le.id rfl) (fun i _ => g.fok _ i) (allh rfl (by decide) (ble1 rfl) True.intro (allh rfl (by decide) (ble1 (by rw [Rat.pow_succ]; rfl)) True.intro True.intro))
        · omega
      · have ek : k = j := by omega
        refine run0p ?_
        refine ⟨.inr rfl, _, Imp.refl _, .one (.rat rfl rfl (by decide) rfl (by decide) ?_)⟩
        rw [hk, ek]; rfl
  · have w0 : wt 1 ≤ 1 := by decide
    refine awp_no rfl (kndec hk (by decide)) ?_
    refine run0p ?_
    refine awp_no rfl (kndec hk (by decide)) ?_
    refine run0p ?_
    refine awp_no rfl (kndec hk (by decide)) ?_
    refine run0p ?_
    refine awp_no rfl (kndec hk (by decide)) ?_
    refine run0p ?_
    refine awp_yes rfl (kdec hk rfl) ?_
    have u1 := sm.A i (by omega); have u2 := sm.B j (by omega)
    have u3 := wt_sub (g.A i) (g.B j)
    have hne : g.A i - g.B j ≠ 0 := fun e => h.ne i (by omega) j (by omega) (by rw [← Rat.sub_add_cancel (a := g.A i) (b := g.B j), e, Rat.zero_add])
    repeat(first|refine run1p ?_|((with_reducible apply st_call);exact rfl;exact rfl;exact rfl;first|(exact hs_int 1 (by decide) (by decide))|(exact k_sub (p := g.A i) (q := g.B j) (by omega) (by omega))|(exact hs_over (p := 1) (q := g.A i - g.B j) (by omega) (by omega) hne))|((with_reducible apply st_callg);exact rfl;exact rfl;(first|exact rfl|assumption);exact rfl;exact rfl;exact rfl;first|(exact hs_int 1 (by decide) (by decide))|(exact k_sub (p := g.A i) (q := g.B j) (by omega) (by omega))|(exact hs_over (p := 1) (q := g.A i - g.B j) (by omega) (by omega) hne)))
    refine ⟨.inr rfl, _, Imp.refl _, .one (.rat rfl rfl (by decide) rfl (by decide) ?_)⟩
    rw [hk]; rfl
  · obtain ⟨hg, hh⟩ := m4 (.inl hk)
    refine awp_no rfl (kndec hk (by decide)) ?_
    refine run0p ?_
    refine awp_no rfl (kndec hk (by decide)) ?_
    refine run0p ?_
    refine awp_no rfl (kndec hk (by decide)) ?_
    refine run0p ?_
    refine awp_no rfl (kndec hk (by decide)) ?_
    refine run0p ?_
    refine awp_no rfl (kndec hk (by decide)) ?_
    refine run0p ?_
    refine awp_yes rfl (kdec hk rfl) ?_
    repeat(first|refine run1p ?_|((with_reducible apply st_call);exact rfl;exact rfl;exact rfl;first|(exact hs_zero))|((with_reducible apply st_callg);exact rfl;exact rfl;(first|exact rfl|assumption);exact rfl;exact rfl;exact rfl;first|(exact hs_zero)))
    have wS : ∀ m, m ≤ 8 → m ≤ min i j + 1 → wt (S m fun m => rdot g (i - m) (j - m)) ≤ 8 * 29 + 1 := fun m hm8 hm => by
      have := wt_sum (n := m) (K := 28) (f := fun m => rdot g (i - m) (j - m)) fun u hu => by
        have h1 : (i - u) * g.r + g.r ≤ g.n * g.r := by rw [← Nat.succ_mul]; exact Nat.mul_le_mul_right _ (by omega)
        have h2 : (j - u) * g.r + g.r ≤ g.n * g.r := by rw [← Nat.succ_mul]; exact Nat.mul_le_mul_right _ (by omega)
        exact rdot_wt sm (by omega) (by omega) r3
      omega
    refine awp_loop (fun m' s => ∃ m, m ≤ min i j + 1 ∧ m' = min i j + 1 - m ∧ s = stl [(1, .i i), (2, .i j), (3, .ptr 3 0 0), (6, .rptr 6 0 0), (9, .rptr 9 0 0), (10, .i (m : Int))] [(3, (1, fun _ => .ones 26 7 g.f)), (6, (1, fun _ => .rats 1 (fun _ => ra0))), (9, (1, fun _ => .rats 1 (fun _ => .q (S m fun m => rdot g (i - m) (j - m)))))]) (min i j + 1) _ (imp_id ?_ ?_) ⟨0, Nat.zero_le _, rfl, rfl⟩ ?_
    · exact eA
    · refine allh rfl (by decide) (bleo rfl fun _ _ => Le.id rfl) (fun i _ => g.fok _ i) ?_
      exact hA
    · rintro m' s ⟨m, hm, rfl, rfl⟩
      have w1 := wS m (by omega) hm
      refine run0p ?_
      refine awp_if rfl (fun h' => ?_) (fun h' => ?_)
      · have h' : m ≤ min i j := by omega
        have h1 : (i - m) * g.r + g.r ≤ g.n * g.r := by rw [← Nat.succ_mul]; exact Nat.mul_le_mul_right _ (by omega)
        have h2 : (j - m) * g.r + g.r ≤ g.n * g.r := by rw [← Nat.succ_mul]; exact Nat.mul_le_mul_right _ (by omega)
        have w2 := rdot_wt (g := g) (i := i - m) (j := j - m) sm (by omega) (by omega) r3
        have ei : (i : Int) - (m : Int) = ((i - m : Nat) : Int) := by omega
        have ej : (j : Int) - (m : Int) = ((j - m : Nat) : Int) := by omega
        refine run0p ?_
        rw [ei, ej]
        repeat(first|refine run1p ?_|((with_reducible apply st_call);exact rfl;exact rfl;exact rfl;first|(exact Has.ag (g7 rfl rfl rfl rfl rfl rfl rfl) (r5_row (i := i - m) (j := j - m) sm r3 (by omega) (by omega) (by omega) (by omega)))|(exact hs_add (by omega) (by omega)))|((with_reducible apply st_callg);exact rfl;exact rfl;(first|exact rfl|assumption);exact rfl;exact rfl;exact rfl;first|(exact Has.ag (g7 rfl rfl rfl rfl rfl rfl rfl) (r5_row (i := i - m) (j := j - m) sm r3 (by omega) (by omega) (by omega) (by omega)))|(exact hs_add (by omega) (by omega))))
        refine q_loop ?_ (imp_id ?_ ?_) ⟨m + 1, ?_, rfl, rfl⟩
        · omega
        · exact eA
        · refine allh rfl (by decide) (bleo rfl fun _ _ => Le.id rfl) (fun i _ => g.fok _ i) ?_
          exact hA
        · omega
      · have em : min i j + 1 = m := by omega
        refine run0p ?_
        refine ⟨.inr rfl, _, Imp.refl _, .one (.rat rfl rfl (by decide) rfl (by decide) ?_)⟩
        rw [hk, ← em]; rfl
  · obtain ⟨hg, hh⟩ := m4 (.inr hk)
    have w0 := rdot_wt (g := g) (i := i) (j := j) sm (by omega) (by omega) r3
    refine awp_no rfl (kndec hk (by decide)) ?_
    refine run0p ?_
    refine awp_no rfl (kndec hk (by decide)) ?_
    refine run0p ?_
    refine awp_no rfl (kndec hk (by decide)) ?_
    refine run0p ?_
    refine awp_no rfl (kndec hk (by decide)) ?_
    refine run0p ?_
    refine awp_no rfl (kndec hk (by decide)) ?_
    refine run0p ?_
    refine awp_no rfl (kndec hk (by decide)) ?_
    have u1 := sm.A i (by omega); have u2 := sm.B j (by omega)
    have u3 := wt_sub (g.A i) (g.B j)
    have hne : g.A i - g.B j ≠ 0 := fun e => h.ne i (by omega) j (by omega) (by rw [← Rat.sub_add_cancel (a := g.A i) (b := g.B j), e, Rat.zero_add])
    repeat(first|refine run1p ?_|((with_reducible apply st_call);exact rfl;exact rfl;exact rfl;first|(exact Has.ag (g7 rfl rfl rfl rfl rfl rfl rfl) (r5_row sm r3 (by omega) (by omega) (by omega) (by omega)))|(exact k_sub (p := g.A i) (q := g.B j) (by omega) (by omega))|(exact hs_over (p := rdot g i j) (q := g.A i - g.B j) (by omega) (by omega) hne))|((with_reducible apply st_callg);exact rfl;exact rfl;(first|exact rfl|assumption);exact rfl;exact rfl;exact rfl;first|(exact Has.ag (g7 rfl rfl rfl rfl rfl rfl rfl) (r5_row sm r3 (by omega) (by omega) (by omega) (by omega)))|(exact k_sub (p := g.A i) (q := g.B j) (by omega) (by omega))|(exact hs_over (p := rdot g i j) (q := g.A i - g.B j) (by omega) (by omega) hne)))
    refine ⟨.inr rfl, _, Imp.refl _, .one (.rat rfl rfl (by decide) rfl (by decide) ?_)⟩
    rw [hk]; rfl
end Go.Proofs.YtdnmoggifjlbiaaGreat.AM
/- The document's systems: the whole matrix. -/
namespace Go.Proofs.YtdnmoggifjlbiaaGreat.AM
open Go Go.RowKit Go.Proofs.YtdnmoggifjlbiaaGreat.PN Go.Proofs.YtdnmoggifjlbiaaGreat.V
open Go.Proofs.YtdnmoggifjlbiaaGreat.LA (S S_succ S_zero S_congr)
set_option linter.unusedVariables false
set_option linter.unusedSimpArgs false
set_option maxRecDepth 8000
set_option maxHeartbeats 8000000
theorem le_fok (g : GD) {σ : Ren} (i : Nat) (hi : i < 7) : Le σ (g.f i) (g.f i) := by
  match i, hi with
  | 0, _ | 1, _ | 2, _ | 3, _ | 4, _ | 5, _ | 6, _ => exact Le.eq rfl rfl
theorem r5_expand {g : GD} (h : g.OK) : Has Tryz.prog 35 [g.v] (.mat true g.n (fun _ => g.n) (fun i j => .q (gent g i j))) := by
  have n8 := h.n8; have n1 := h.n1
  have hG := h
  refine has_of Tryz.func35 (by kernel_rfl) rfl Tryz.ntmps35 Tryz.results35 rfl rfl rfl ?_
  refine run0 ?_
  refine awp_loop (fun m' s => ∃ r, r ≤ g.n ∧ m' = g.n - r ∧ s = accS 3 (.ones WT r fun i => .row true g.n fun j => .q (gent g i j)) [(1, .ptr 1 0 0), (4, .i (r : Int))] [(1, (1, fun _ => .ones 26 7 g.f))]) g.n _ (acc_start rfl rfl (by exact ⟨by decide, rfl⟩) rfl (by decide) ?_ ?_) ⟨0, Nat.zero_le _, rfl, rfl⟩ ?_
  · exact eA
  · exact allh rfl (by decide) (bleo rfl fun _ _ => Le.id rfl) (fun i _ => g.fok _ i) True.intro
  · rintro m' s ⟨r, hr, rfl, rfl⟩
    refine run0 ?_
    refine awp_if rfl (fun h => ?_) (fun h => ?_)
    · have h : r < g.n := by omega
      refine run0 ?_
      refine awp_loop (fun m' s => ∃ c, c ≤ g.n ∧ m' = g.n - c ∧ s = accS 5 (.rats c fun j => .q (gent g r j)) [(1, .ptr 1 0 0), (3, .own 3 0), (4, .i (r : Int)), (6, .i (c : Int))] [(1, (1, fun _ => .ones 26 7 g.f)), (3, (1, fun _ => .ones WT r fun i => .row true g.n fun j => .q (gent g i j)))]) g.n _ (acc_start rfl rfl (by exact rfl) rfl (by decide) ?_ ?_) ⟨0, Nat.zero_le _, rfl, rfl⟩ ?_
      · exact eA
      · exact allh rfl (by decide) (bleo rfl fun _ _ => Le.id rfl) (fun i _ => g.fok _ i) (allh rfl (by decide) (bleo rfl fun _ _ => Le.id rfl) (fun i _ => True.intro) True.intro)
      · rintro m' s ⟨c, hc, rfl, rfl⟩
        refine run0 ?_
        refine awp_if rfl (fun h1 => ?_) (fun h1 => ?_)
        · have h1 : c < g.n := by omega
          repeat(first|refine run1 ?_|((with_reducible apply st_call);exact rfl;exact rfl;exact rfl;first|(exact Has.ag (g7 rfl rfl rfl rfl rfl rfl rfl) (r5_entry hG h h1)))|((with_reducible apply st_callg);exact rfl;exact rfl;(first|exact rfl|assumption);exact rfl;exact rfl;exact rfl;first|(exact Has.ag (g7 rfl rfl rfl rfl rfl rfl rfl) (r5_entry hG h h1))))
          refine q_loop (m' := g.n - (c + 1)) (by omega) (acc_next (a := 25) rfl rfl rfl (glue_one rfl) (by exact True.intro) rfl rfl ?_ ?_) ⟨c + 1, by omega, rfl, rfl⟩
          · refine alle rfl (Le.ptr (s1_ne (by decide))) rfl (alle rfl (Le.own (s1_ne (by decide))) rfl (alle rfl (Le.eq rfl rfl) True.intro (alle rfl (Le.eq rfl rfl) True.intro True.intro)))
          · refine allh rfl Nat.zero_lt_one (bleo rfl fun i hi => le_fok g i hi) (fun i _ => g.fok _ i) (allh rfl Nat.zero_lt_one (bleo rfl fun _ _ => Le.eq rfl rfl) (fun _ _ => True.intro) True.intro)
        · have ec : c = g.n := by omega
          subst ec
          refine run0 ?_
          refine q_loop (m' := g.n - (r + 1)) (by omega) (acc_pub (a := 29) (c := 5) rfl rfl rfl (fun i hi => if_pos hi) (by show (if _ then _ else _) = _; rw [if_neg (Nat.lt_irrefl _), Nat.sub_self]; rfl) rfl rfl (fun _ _ => rfl) rfl rfl (fun _ => by exact True.intro) (by decide) rfl rfl ?_ ?_) ⟨r + 1, by omega, rfl, rfl⟩
          · refine alle rfl (Le.ptr (s1_ne (by decide))) rfl (alle rfl (Le.eq rfl rfl) True.intro True.intro)
          · exact allh rfl Nat.zero_lt_one (bleo rfl fun i hi => le_fok g i hi) (fun i _ => g.fok _ i) True.intro
    · have er : r = g.n := by omega
      subst er
      refine run0 ?_
      refine ⟨.inr rfl, _, imp_mat 2 (fun _ => g.n) (fun i j => .q (gent g i j)) rfl rfl rfl (fun _ _ => rfl), ?_⟩
      exact .one (.tmp rfl)
end Go.Proofs.YtdnmoggifjlbiaaGreat.AM
/- The document's chapter 10: the least leading minor that is nought; systems. -/
namespace Go.Proofs.YtdnmoggifjlbiaaGreat.AM
open Go Go.RowKit Go.Proofs.YtdnmoggifjlbiaaGreat.PN Go.Proofs.YtdnmoggifjlbiaaGreat.V
open Go.Proofs.YtdnmoggifjlbiaaGreat.LA (S S_succ S_zero S_congr app det unique)
set_option linter.unusedVariables false
set_option linter.unusedSimpArgs false
set_option maxRecDepth 8000
set_option maxHeartbeats 8000000
/-- What is known of a small Toeplitz system, and of a right side. -/
structure TS (g : GD) (b : Nat → Rat) : Prop where
  ok : g.OK
  k : g.k = 1
  n6 : g.n ≤ 6
  F : ∀ i j, Fq 60 1200 (gec g i j)
  Ft : ∀ i j, Bt (gec g i j) 5
  bq : ∀ i, Fq 60 1200 (b i)
  bt : ∀ i, Bt (b i) 5
theorem yb5 : ∀ n : _root_.Fin 7, ybOK n.val (xbd 5) = true := by decide +kernel
end Go.Proofs.YtdnmoggifjlbiaaGreat.AM

/- Joined texts, 16: SmA LawT GenA GenB Zer GenC. -/
import Derived.Test.YtdnmoggifjlbiaaGreatJLawTurnedKnown15
import Derived.Test.YtdnmoggifjlbiaaGreatJLawTurnedKnown12
set_option linter.unusedVariables false
set_option linter.unusedSimpArgs false
/- Package rat: which of two is greater. -/
namespace Go.Proofs.YtdnmoggifjlbiaaGreat.AM
open Go Go.RowKit Go.Proofs.YtdnmoggifjlbiaaGreat.PN Go.Proofs.YtdnmoggifjlbiaaGreat.V
set_option linter.unusedVariables false
set_option linter.unusedSimpArgs false
set_option maxRecDepth 4000
/-- A number's sign. -/
def mkOf (p : Rat) : List AV := [.b (ng p), .b (decide (p = 0))]
theorem h_nmul {a b : Nat} (ha : size a ≤ 4398046511103) (hb : size b ≤ 4398046511103) : Has Tryz.prog 148 [.nat a, .nat b] (.nat (a * b)) := by
  refine ⟨by kernel_rfl, trivial, fun w S β vs hv => ?_⟩
  obtain ⟨v, u, rfl, h1, h2⟩ := rvs2 hv
  haveI : NatAt w v a := ⟨h1⟩
  haveI : NatAt w u b := ⟨h2⟩
  refine (mul_v ha hb).mono ?_
  rintro e w' ⟨v, rfl, h1, h2⟩
  exact ⟨_, rfl, h2, h1.any⟩
theorem h_ncmp {a b : Nat} (ha : size a ≤ 4398046511103) (hb : size b ≤ 4398046511103) : Has Tryz.prog 107 [.nat a, .nat b] (.i (cmpI a b)) := by
  refine ⟨by kernel_rfl, trivial, fun w S β vs hv => ?_⟩
  obtain ⟨v, u, rfl, h1, h2⟩ := rvs2 hv
  haveI : NatAt w v a := ⟨h1⟩
  haveI : NatAt w u b := ⟨h2⟩
  refine (cmp_v ha hb).mono ?_
  rintro e w' ⟨rfl, h2⟩
  exact ⟨_, rfl, h2, rfl⟩
theorem size_dec (p : Rat) : decide (((size (nm p) : Nat) : Int) = 0) = decide (p = 0) := by
  by_cases h : p = 0
  · subst h; rfl
  · have h1 : nm p ≠ 0 := fun e => h (nm_eq_zero.1 e)
    have := size_pos h1
    rw [decide_eq_false h, decide_eq_false (by omega)]
theorem ng_ne {p : Rat} (h : ng p = true) : p ≠ 0 := by rintro rfl; cases h
theorem h_of (p : Rat) : Has Tryz.prog 172 [.q p] (.ag 2 fun i => (mkOf p).getD i (.v undef)) := by
  refine has_of Tryz.func172 (by kernel_rfl) rfl Tryz.ntmps172 Tryz.results172 rfl rfl rfl ?_
  refine run0p ?_
  cases e : ng p with
  | true =>
    have g0 : (RA.q p).sgn = true := e
    have g1 : ((RA.q p).sgn == true) = true := by rw [g0]; rfl
    have e2 : decide (0 < ((size (nm p) : Nat) : Int)) = true := by
      have h1 : nm p ≠ 0 := fun e' => ng_ne e (nm_eq_zero.1 e')
      have := size_pos h1
      exact decide_eq_true (by omega)
    refine run0p ?_
    refine ⟨.inr rfl, _, Imp.refl _, .one (.agg rfl rfl rfl rfl (by decide) rfl ?_)⟩
    show AV.ag 2 (fun i => [AV.b (decide (0 < ((size (nm p) : Nat) : Int))), AV.b (decide (((size (nm p) : Nat) : Int) = 0))].getD i (.v undef)) = _
    rw [e2, size_dec]; unfold mkOf; rw [e]
  | false =>
    have g0 : (RA.q p).sgn = false := e
    have g1 : ((RA.q p).sgn == true) = false := by rw [g0]; rfl
    refine run0p ?_
    refine ⟨.inr rfl, _, Imp.refl _, .one (.agg rfl rfl rfl rfl (by decide) rfl ?_)⟩
    show AV.ag 2 (fun i => [AV.b false, AV.b (decide (((size (nm p) : Nat) : Int) = 0))].getD i (.v undef)) = _
    rw [size_dec]; unfold mkOf; rw [e]
theorem cmpI_zero {a b : Nat} : cmpI a b = 0 ↔ a = b := by
  unfold cmpI
  by_cases h1 : a < b
  · rw [if_pos h1]; omega
  · rw [if_neg h1]
    by_cases h2 : b < a
    · rw [if_pos h2]; omega
    · rw [if_neg h2]; omega
theorem cmpI_le (a b : Nat) : -1 ≤ cmpI a b ∧ cmpI a b ≤ 1 := by
  unfold cmpI
  split
  · omega
  · split <;> omega
theorem cross {p q : Rat} (h : ng p = ng q) : nm p * q.den = nm q * p.den ↔ p = q := by
  constructor
  · intro e
    have e' : p.num * (q.den : Int) = q.num * (p.den : Int) := by
      rw [← sg_self p, ← sg_self q, sg_mul_nat, sg_mul_nat, h, e]
    rw [← Rat.mkRat_self p, ← Rat.mkRat_self q]
    exact (Rat.mkRat_eq_iff p.den_nz q.den_nz).2 e'
  · rintro rfl; rfl
theorem h_cmp {p q : Rat} (hp : wt p ≤ 1000000000000) (hq : wt q ≤ 1000000000000) : ∃ c : Int, Has Tryz.prog 157 [.q p, .q q] (.i c) ∧ (c = 0 ↔ p = q) := by
  have b1 := wt_num p; have b2 := wt_den p; have b3 := wt_num q; have b4 := wt_den q
  have s1 := size_mul (nm p) q.den; have s2 := size_mul (nm q) p.den
  by_cases h1 : ng p = ng q ∧ decide (p = 0) = decide (q = 0)
  · have hm : (!((ng p == ng q) && (decide (p = 0) == decide (q = 0)))) = false := by
      rw [h1.1, h1.2]; simp
    have hc := cmpI_le (nm p * q.den) (nm q * p.den)
    cases e : ng p with
    | true =>
      refine ⟨0 - cmpI (nm p * q.den) (nm q * p.den), ?_, ?_⟩
      · refine has_of Tryz.func157 (by kernel_rfl) rfl Tryz.ntmps157 Tryz.results157 rfl rfl rfl ?_
        repeat(first|refine run1p ?_|((with_reducible apply st_call);exact rfl;exact rfl;exact rfl;first|(exact h_of _))|((with_reducible apply st_callg);exact rfl;exact rfl;(first|exact rfl|assumption);exact rfl;exact rfl;exact rfl;first|(exact h_of _)))
        refine awp_no rfl hm ?_
        repeat(first|refine run1p ?_|((with_reducible apply st_call);exact rfl;exact rfl;exact rfl;first|(exact h_nmul (by omega) (by omega))|(exact h_ncmp (by omega) (by omega)))|((with_reducible apply st_callg);exact rfl;exact rfl;(first|exact rfl|assumption);exact rfl;exact rfl;exact rfl;first|(exact h_nmul (by omega) (by omega))|(exact h_ncmp (by omega) (by omega))))
        refine awp_yes rfl e ?_
        refine run0p ?_
        exact ⟨.inr rfl, _, Imp.refl _, .one (.tmp rfl)⟩
      · rw [← cross h1.1, ← cmpI_zero]; omega
    | false =>
      refine ⟨cmpI (nm p * q.den) (nm q * p.den), ?_, ?_⟩
      · refine has_of Tryz.func157 (by kernel_rfl) rfl Tryz.ntmps157 Tryz.results157 rfl rfl rfl ?_
        repeat(first|refine run1p ?_|((with_reducible apply st_call);exact rfl;exact rfl;exact rfl;first|(exact h_of _))|((with_reducible apply st_callg);exact rfl;exact rfl;(first|exact rfl|assumption);exact rfl;exact rfl;exact rfl;first|(exact h_of _)))
        refine awp_no rfl hm ?_
        repeat(first|refine run1p ?_|((with_reducible apply st_call);exact rfl;exact rfl;exact rfl;first|(exact h_nmul (by omega) (by omega))|(exact h_ncmp (by omega) (by omega)))|((with_reducible apply st_callg);exact rfl;exact rfl;(first|exact rfl|assumption);exact rfl;exact rfl;exact rfl;first|(exact h_nmul (by omega) (by omega))|(exact h_ncmp (by omega) (by omega))))
        refine awp_no rfl e ?_
        refine run0p ?_
        exact ⟨.inr rfl, _, Imp.refl _, .one (.tmp rfl)⟩
      · rw [← cross h1.1, ← cmpI_zero]
  · have hm : (!((ng p == ng q) && (decide (p = 0) == decide (q = 0)))) = true := by
      rw [Bool.not_eq_true']
      cases h2 : ng p == ng q with
      | false => rfl
      | true =>
        rw [Bool.true_and]
        exact beq_eq_false_iff_ne.2 fun h3 => h1 ⟨eq_of_beq h2, h3⟩
    have hne : p ≠ q := by rintro rfl; exact h1 ⟨rfl, rfl⟩
    cases e : ng p with
    | true =>
      refine ⟨-1, ?_, by simp [hne]⟩
      refine has_of Tryz.func157 (by kernel_rfl) rfl Tryz.ntmps157 Tryz.results157 rfl rfl rfl ?_
      repeat(first|refine run1p ?_|((with_reducible apply st_call);exact rfl;exact rfl;exact rfl;first|(exact h_of _))|((with_reducible apply st_callg);exact rfl;exact rfl;(first|exact rfl|assumption);exact rfl;exact rfl;exact rfl;first|(exact h_of _)))
      refine awp_yes rfl hm ?_
      refine run0p ?_
      refine awp_yes rfl e ?_
      refine run0p ?_
      refine awp_yes rfl e ?_
      refine run0p ?_
      exact ⟨.inr rfl, _, Imp.refl _, .one (.tmp rfl)⟩
    | false =>
      cases z : decide (p = 0) with
      | false =>
        have z1 : (decide (p = 0) == true) = false := by rw [z]; rfl
        refine ⟨1, ?_, by simp [hne]⟩
        refine has_of Tryz.func157 (by kernel_rfl) rfl Tryz.ntmps157 Tryz.results157 rfl rfl rfl ?_
        repeat(first|refine run1p ?_|((with_reducible apply st_call);exact rfl;exact rfl;exact rfl;first|(exact h_of _))|((with_reducible apply st_callg);exact rfl;exact rfl;(first|exact rfl|assumption);exact rfl;exact rfl;exact rfl;first|(exact h_of _)))
        refine awp_yes rfl hm ?_
        refine run0p ?_
        refine awp_no rfl e ?_
        refine run0p ?_
        refine awp_no rfl rfl ?_
        refine run0p ?_
        exact ⟨.inr rfl, _, Imp.refl _, .one (.tmp rfl)⟩
      | true =>
        have z1 : (decide (p = 0) == true) = true := by rw [z]; rfl
        refine ⟨if (!ng q) = true then -1 else 1, ?_, by split <;> simp [hne]⟩
        refine has_of Tryz.func157 (by kernel_rfl) rfl Tryz.ntmps157 Tryz.results157 rfl rfl rfl ?_
        repeat(first|refine run1p ?_|((with_reducible apply st_call);exact rfl;exact rfl;exact rfl;first|(exact h_of _))|((with_reducible apply st_callg);exact rfl;exact rfl;(first|exact rfl|assumption);exact rfl;exact rfl;exact rfl;first|(exact h_of _)))
        refine awp_yes rfl hm ?_
        refine run0p ?_
        refine awp_no rfl e ?_
        refine run0p ?_
        cases u : (!ng q) with
        | true =>
          refine awp_yes rfl rfl ?_
          refine run0p ?_
          exact ⟨.inr rfl, _, Imp.refl _, .one (.tmp rfl)⟩
        | false =>
          refine awp_no rfl rfl ?_
          refine run0p ?_
          exact ⟨.inr rfl, _, Imp.refl _, .one (.tmp rfl)⟩
theorem h_same {p q : Rat} (hp : wt p ≤ 1000000000000) (hq : wt q ≤ 1000000000000) : Has Tryz.prog 125 [.q p, .q q] (.b (decide (p = q))) := by
  obtain ⟨c, hc, he⟩ := h_cmp hp hq
  rw [show decide (p = q) = decide (c = 0) from decide_eq_decide.2 he.symm]
  refine has_of Tryz.func125 (by kernel_rfl) rfl Tryz.ntmps125 Tryz.results125 rfl rfl rfl ?_
  repeat(first|refine run1p ?_|((with_reducible apply st_call);exact rfl;exact rfl;exact rfl;first|(exact hc))|((with_reducible apply st_callg);exact rfl;exact rfl;(first|exact rfl|assumption);exact rfl;exact rfl;exact rfl;first|(exact hc)))
  exact ⟨.inr rfl, _, Imp.refl _, .one (.tmp rfl)⟩
end Go.Proofs.YtdnmoggifjlbiaaGreat.AM
/- Package gen: the table of first counts. -/
namespace Go.Proofs.YtdnmoggifjlbiaaGreat.V
open Go Go.RowKit Go.Proofs.YtdnmoggifjlbiaaGreat.PN Go.Proofs.YtdnmoggifjlbiaaGreat.AM
set_option linter.unusedVariables false
set_option linter.unusedSimpArgs false
def cTab : Tab := ⟨[(1, 0, 2, 0, -1), (2, 0, 2, 0, -1), (3, 0, 1, 0, 0), (4, 0, 1, 0, 0), (5, 0, 1, 0, 0), (5, 1, 1, 0, 0), (6, 2, 0, 1, 0), (6, 3, 0, 1, 0), (7, 0, 1, 0, 0), (7, 1, 1, 0, 0), (7, 2, 0, 1, 0), (7, 3, 0, 1, 0)]⟩
def cmap (a b : Int) : Option (Int × Int × Int) := cTab.map a b
theorem key_ty : ∀ (a b : Int), Tryz.prog.built 133 [(0, .int .i64 a), (1, .int .i64 b)] = some #[.int .i64 a, .int .i64 b] := by intros; kernel_rfl
theorem val_ty : ∀ (a b c : Int), Tryz.prog.built 131 [(0, .int .i64 a), (1, .int .i64 b), (2, .int .i64 c)] = some #[.int .i64 a, .int .i64 b, .int .i64 c] := by intros; kernel_rfl
theorem c_tys : MapTys 129 133 131 :=
  ⟨mapK_ok (by rfl), fun w a b => run_build w _ _ _ (key_ty a b), fun w a b c => run_build w _ _ _ (val_ty a b c)⟩
theorem c_counts : Has Tryz.prog 121 [] (.mp cmap) := by
  refine has_of Tryz.func121 (by kernel_rfl) rfl Tryz.ntmps121 Tryz.results121 rfl rfl rfl ?_
  refine run2 ?_
  refine (awp_map (N := 27) (n := 12) (T := cTab) (M := 129) (K := 133) (V := 131) ?_ c_tys (by decide) rfl rfl rfl ?_)
  · refine ⟨rfl, ⟨_, rfl, rfl, rfl, rfl⟩, fun j hj => ?_, fun j hj => ?_, fun j hj => ?_, ?_, ?_, ?_⟩
    · match j, hj with
      | 0, _ | 1, _ | 2, _ | 3, _ | 4, _ | 5, _ | 6, _ | 7, _ | 8, _ | 9, _ | 10, _ | 11, _ => exact ⟨_, rfl, rfl, rfl, rfl⟩
    · match j, hj with
      | 0, _ | 1, _ | 2, _ | 3, _ | 4, _ | 5, _ | 6, _ | 7, _ | 8, _ | 9, _ | 10, _ | 11, _ => exact ⟨_, rfl, rfl, rfl, rfl⟩
    · match j, hj with
      | 0, _ | 1, _ | 2, _ | 3, _ | 4, _ | 5, _ | 6, _ | 7, _ | 8, _ | 9, _ | 10, _ | 11, _ => exact ⟨_, rfl, rfl, rfl, rfl, edge_of (by rfl), edge_of (by rfl), edge_of (by rfl)⟩
    · exact ⟨_, rfl, rfl, rfl, rfl, edge_of (by rfl)⟩
    · exact ⟨_, rfl, rfl, rfl, rfl, edge_of (by rfl)⟩
    · exact back_of (by rfl)
  · refine awp_ret ⟨.inr rfl, _, Imp.refl _, ?_⟩
    exact .one (.tmp rfl)
end Go.Proofs.YtdnmoggifjlbiaaGreat.V
/- Package gen: what a system may be. -/
namespace Go.Proofs.YtdnmoggifjlbiaaGreat.AM
open Go Go.RowKit Go.Proofs.YtdnmoggifjlbiaaGreat.PN Go.Proofs.YtdnmoggifjlbiaaGreat.V
set_option linter.unusedVariables false
set_option linter.unusedSimpArgs false
set_option maxRecDepth 8000
set_option maxHeartbeats 8000000
/-- A variable that holds a number and is written no more. -/
theorem imp_rp {s : St} (t : Nat) {g : Nat} {F : Nat → Blk} {f : Nat → RA} (hx : s.env t = some (.rptr g 0 0)) (hg : s.heap g = some (1, F)) (hF : F 0 = .rats 1 f) : Imp s ⟨put s.env t (some (.rp (f 0))), put s.heap g none, s.used⟩ :=
  imp_turn1 hx hg trivial fun W N β w a hs v hv hok hb S' h1 h2 => by
    rw [hF] at hb hok
    obtain ⟨b, hub, e⟩ := hv
    obtain ⟨cs, hB, hr, hat, hx⟩ := rb_rats hb hub
    obtain ⟨sg, vn, vd, a0, a1, a2, a3⟩ := hx 0 (by decide)
    exact ⟨b, 0, e, h2 b hub, cs, sg, vn, vd, hr, a0, a1, a2, a3⟩
theorem rv_ag {S : Nat → Prop} {B : Nat} {β : Nat → Nat → Value} {w : World} {n : Nat} {f f' : Nat → AV} (h : ∀ i, i < n → f i = f' i) (v : Value) (hv : RV S B β w (.ag n f) v) : RV S B β w (.ag n f') v := by
  obtain ⟨cs, e1, e2, e3⟩ := hv
  refine ⟨cs, e1, e2, fun i hi => ?_⟩
  obtain ⟨y, a0, a1, a2⟩ := e3 i hi
  exact ⟨y, a0, a1, h i hi ▸ a2⟩
theorem rvs_same {S : Nat → Prop} {B : Nat} {β : Nat → Nat → Value} {w : World} {xs : List AV} (us : List Value) (h : RVs S B β w xs us) : RVs S B β w xs us := h
theorem Has.ag {P : Program} {f : FuncId} {n : Nat} {u u' : Nat → AV} {xs : List AV} {r : AV} (h : ∀ i, i < n → u i = u' i) (H : Has P f (.ag n u' :: xs) r) : Has P f (.ag n u :: xs) r :=
  Has.args H fun S B β w vs hv => rvs_cons (rv_ag h) rvs_same hv
theorem g7 {f f' : Nat → AV} (h0 : f 0 = f' 0) (h1 : f 1 = f' 1) (h2 : f 2 = f' 2) (h3 : f 3 = f' 3) (h4 : f 4 = f' 4) (h5 : f 5 = f' 5) (h6 : f 6 = f' 6) : ∀ i, i < 7 → f i = f' i := fun i hi => by
  match i, hi with
  | 0, _ => exact h0
  | 1, _ => exact h1
  | 2, _ => exact h2
  | 3, _ => exact h3
  | 4, _ => exact h4
  | 5, _ => exact h5
  | 6, _ => exact h6
/-- A system. -/
structure GD where
  k : Nat
  n : Nat
  r : Nat
  la : Nat
  lb : Nat
  lg : Nat
  lh : Nat
  A : Nat → Rat
  B : Nat → Rat
  G : Nat → Rat
  H : Nat → Rat
def GD.l (g : GD) : List AV := [.i g.k, .i g.n, .i g.r, .row false g.la (fun i => .q (g.A i)), .row false g.lb (fun i => .q (g.B i)), .row false g.lg (fun i => .q (g.G i)), .row false g.lh (fun i => .q (g.H i))]
def GD.f (g : GD) (i : Nat) : AV := g.l.getD i (.v undef)
def GD.v (g : GD) : AV := .ag 7 g.f
/-- Its four rows. -/
def GD.rw (g : GD) (i : Nat) : AV := (g.l.drop 3).getD i (.v undef)
theorem GD.fok (g : GD) (U : Nat → Bool) : ∀ i, (g.f i).ok U
  | 0 | 1 | 2 | 3 | 4 | 5 | 6 => trivial
  | _ + 7 => trivial
theorem GD.rok (g : GD) (U : Nat → Bool) : ∀ i, (g.rw i).ok U
  | 0 | 1 | 2 | 3 => trivial
  | _ + 4 => trivial
/-- It is four rows of numbers that are not long. -/
structure GD.Sm (g : GD) : Prop where
  A : ∀ i, i < g.la → wt (g.A i) ≤ 4
  B : ∀ i, i < g.lb → wt (g.B i) ≤ 4
  G : ∀ i, i < g.lg → wt (g.G i) ≤ 4
  H : ∀ i, i < g.lh → wt (g.H i) ≤ 4
def likeB (k : Nat) : Bool := decide (k = 6) || decide (k = 7)
def GD.len (g : GD) (i : Nat) : Nat := match i with | 0 => g.la | 1 => g.lb | 2 => g.lg | _ => g.lh
structure GD.OK (g : GD) : Prop where
  k1 : 1 ≤ g.k
  k7 : g.k ≤ 7
  n1 : 1 ≤ g.n
  n8 : g.n ≤ 8
  r3 : g.r ≤ 3
  rk : likeB g.k = true → 1 ≤ g.r
  r0 : likeB g.k = false → g.r = 0
  len : ∀ i : Nat, i < 4 → ((g.len i : Nat) : Int) = mpz (cmap g.k i) 0 * g.n + mpz (cmap g.k i) 1 * g.n * g.r + mpz (cmap g.k i) 2
  sm : g.Sm
  ne : ∀ i, i < g.la → ∀ j, j < g.lb → g.A i ≠ g.B j
/-- How large the counts are. -/
theorem cmap_le {k : Nat} (h1 : 1 ≤ k) (h7 : k ≤ 7) {i : Nat} (hi : i < 4) : (0 ≤ mpz (cmap k i) 0 ∧ mpz (cmap k i) 0 ≤ 2) ∧ (0 ≤ mpz (cmap k i) 1 ∧ mpz (cmap k i) 1 ≤ 1) ∧ (-1 ≤ mpz (cmap k i) 2 ∧ mpz (cmap k i) 2 ≤ 0) := by
  have key : ∀ k, k < 8 → 1 ≤ k → ∀ i, i < 4 → (0 ≤ mpz (cmap (k : Nat) (i : Nat)) 0 ∧ mpz (cmap (k : Nat) (i : Nat)) 0 ≤ 2) ∧ (0 ≤ mpz (cmap (k : Nat) (i : Nat)) 1 ∧ mpz (cmap (k : Nat) (i : Nat)) 1 ≤ 1) ∧ (-1 ≤ mpz (cmap (k : Nat) (i : Nat)) 2 ∧ mpz (cmap (k : Nat) (i : Nat)) 2 ≤ 0) := by decide
  exact key k (by omega) h1 i hi
theorem cmap_mul {a : Int} {n r : Nat} (ha : 0 ≤ a ∧ a ≤ 2) (hn : n ≤ 8) (hr : r ≤ 3) : (0 ≤ a * n ∧ a * n ≤ 16) ∧ (0 ≤ a * n * r ∧ a * n * r ≤ 48) := by
  have h : a = 0 ∨ a = 1 ∨ a = 2 := by omega
  have hnr : n * r ≤ 8 * 3 := Nat.mul_le_mul hn hr
  have e : ((n * r : Nat) : Int) = (n : Int) * r := Int.natCast_mul n r
  rcases h with rfl | rfl | rfl
  · simp
  · rw [Int.one_mul, ← e]; omega
  · rw [Int.mul_assoc, ← e]; omega
theorem g_ranked (k : Nat) : Has Tryz.prog 156 [.i k] (.b (likeB k)) := by
  refine has_of Tryz.func156 (by kernel_rfl) rfl Tryz.ntmps156 Tryz.results156 rfl rfl rfl ?_
  by_cases h6 : k = 6
  · have e0 : decide ((k : Int) = 6) = true := decide_eq_true (by omega)
    have e1 : (decide ((k : Int) = 6) == false) = false := by rw [e0]; rfl
    refine run0p ?_
    refine ⟨.inr rfl, _, Imp.refl _, ?_⟩
    rw [h6]
    exact .one (.tmp rfl)
  · have e0 : decide ((k : Int) = 6) = false := decide_eq_false (by omega)
    have e1 : (decide ((k : Int) = 6) == false) = true := by rw [e0]; rfl
    have e2 : decide ((k : Int) = 7) = likeB k := by
      unfold likeB
      rw [decide_eq_false h6, Bool.false_or]
      exact decide_eq_decide.2 (by omega)
    refine run0p ?_
    refine ⟨.inr rfl, _, Imp.refl _, ?_⟩
    rw [← e2]
    exact .one (.tmp rfl)
theorem g_rows (g : GD) : Has Tryz.prog 120 [g.v] (.ag 4 g.rw) := by
  refine has_of Tryz.func120 (by kernel_rfl) rfl Tryz.ntmps120 Tryz.results120 rfl rfl rfl ?_
  refine run0p ?_
  refine ⟨.inr rfl, _, Imp.refl _, ?_⟩
  exact .one (.agg rfl rfl rfl rfl (by decide) rfl rfl)
theorem g_sized {g : GD} (h : g.OK) : Has Tryz.prog 119 [g.v] (.b true) := by
  have n1 := h.n1; have n8 := h.n8; have r3 := h.r3
  refine has_of Tryz.func119 (by kernel_rfl) rfl Tryz.ntmps119 Tryz.results119 rfl rfl rfl ?_
  have e0 : decide ((g.n : Int) < 1) = false := decide_eq_false (by omega)
  have e1 : (decide ((g.n : Int) < 1) == false) = true := by rw [e0]; rfl
  have e2 : decide ((8 : Int) < g.n) = false := decide_eq_false (by omega)
  refine run0p ?_
  refine awp_no rfl e2 ?_
  repeat(first|refine run1p ?_|((with_reducible apply st_call);exact rfl;exact rfl;exact rfl;first|(exact g_ranked g.k))|((with_reducible apply st_callg);exact rfl;exact rfl;(first|exact rfl|assumption);exact rfl;exact rfl;exact rfl;first|(exact g_ranked g.k)))
  cases hk : likeB g.k with
  | true =>
    have hr := h.rk hk
    have e3 : decide ((1 : Int) ≤ g.r) = true := decide_eq_true (by omega)
    have e4 : (decide ((1 : Int) ≤ g.r) == true) = true := by rw [e3]; rfl
    have e5 : decide ((g.r : Int) ≤ 3) = true := decide_eq_true (by omega)
    refine awp_yes rfl rfl ?_
    refine run0p ?_
    refine ⟨.inr rfl, _, Imp.refl _, ?_⟩
    rw [← e5]
    exact .one (.tmp rfl)
  | false =>
    have hr := h.r0 hk
    have e5 : decide ((g.r : Int) = 0) = true := decide_eq_true (by omega)
    refine awp_no rfl rfl ?_
    refine run0p ?_
    refine ⟨.inr rfl, _, Imp.refl _, ?_⟩
    rw [← e5]
    exact .one (.tmp rfl)
theorem g_small {p : Rat} (h : wt p ≤ 4) : Has Tryz.prog 123 [.q p] (.b true) := by
  have b1 := wt_num p; have b2 := wt_den p
  have e0 : decide (((size (nm p) : Nat) : Int) ≤ 4) = true := decide_eq_true (by omega)
  have e1 : (decide (((size (nm p) : Nat) : Int) ≤ 4) == true) = true := by rw [e0]; rfl
  have e2 : decide (((size p.den : Nat) : Int) ≤ 4) = true := decide_eq_true (by omega)
  have e3 : (decide (((size p.den : Nat) : Int) ≤ 4) == true) = true := by rw [e2]; rfl
  refine has_of Tryz.func123 (by kernel_rfl) rfl Tryz.ntmps123 Tryz.results123 rfl rfl rfl ?_
  repeat(first|refine run1p ?_|((with_reducible apply st_call);exact rfl;exact rfl;exact rfl;first|(exact h_right (by omega)))|((with_reducible apply st_callg);exact rfl;exact rfl;(first|exact rfl|assumption);exact rfl;exact rfl;exact rfl;first|(exact h_right (by omega))))
  exact ⟨.inr rfl, _, Imp.refl _, .one (.tmp rfl)⟩
theorem g_bad {p : Rat} (h : wt p ≤ 4) : Has Tryz.prog 122 [.q p] (.b false) := by
  refine has_of Tryz.func122 (by kernel_rfl) rfl Tryz.ntmps122 Tryz.results122 rfl rfl rfl ?_
  repeat(first|refine run1p ?_|((with_reducible apply st_call);exact rfl;exact rfl;exact rfl;first|(exact g_small h))|((with_reducible apply st_callg);exact rfl;exact rfl;(first|exact rfl|assumption);exact rfl;exact rfl;exact rfl;first|(exact g_small h)))
  exact ⟨.inr rfl, _, Imp.refl _, .one (.tmp rfl)⟩
theorem g_eqs {p q : Rat} (hp : wt p ≤ 1000000000000) (hq : wt q ≤ 1000000000000) : Has Tryz.prog 124 [.q q, .rp (.q p)] (.b (decide (p = q))) := by
  refine has_of Tryz.func124 (by kernel_rfl) rfl Tryz.ntmps124 Tryz.results124 rfl rfl rfl ?_
  repeat(first|refine run1p ?_|((with_reducible apply st_call);exact rfl;exact rfl;exact rfl;first|(exact h_same (by omega) (by omega)))|((with_reducible apply st_callg);exact rfl;exact rfl;(first|exact rfl|assumption);exact rfl;exact rfl;exact rfl;first|(exact h_same (by omega) (by omega))))
  exact ⟨.inr rfl, _, Imp.refl _, .one (.tmp rfl)⟩
end Go.Proofs.YtdnmoggifjlbiaaGreat.AM
/- Package gen: a system is right. -/
namespace Go.Proofs.YtdnmoggifjlbiaaGreat.AM
open Go Go.RowKit Go.Proofs.YtdnmoggifjlbiaaGreat.PN Go.Proofs.YtdnmoggifjlbiaaGreat.V
set_option linter.unusedVariables false
set_option linter.unusedSimpArgs false
set_option maxRecDepth 8000
set_option maxHeartbeats 8000000
/-- No number of a row is asked for. -/
theorem g_index {n m : Nat} {q : Nat → RA} {f : FuncId} {c : Nat → AV} (hc : (AV.clo f m c).closed = true) (hn : n ≤ 1000000) (h : ∀ i, i < n → Has Tryz.prog f (([AV.ra (q i)] ++ (List.range m).map c).map AV.old) (.b false)) :
    Has Tryz.prog 105 [.row false n q, .clo f m c] (.i (-1)) := by
  refine has_of Tryz.func105 (by kernel_rfl) rfl Tryz.ntmps105 Tryz.results105 (by show (true && ((AV.clo f m c).closed && true)) = true; rw [hc]; rfl) rfl rfl ?_
  refine run0p ?_
  refine awp_loop (fun m' s => ∃ k, k ≤ n ∧ m' = n - k ∧ s = stl [(0, .row false n q), (1, .clo f m c), (7, .i n), (8, .i (k : Int))] []) n _ (imp_id ?_ ?_) ⟨0, Nat.zero_le _, rfl, rfl⟩ ?_
  · refine alle rfl (Le.id rfl) True.intro (alle rfl (Le.id rfl) (ok_none (closed_ok hc)) ?_)
    exact eA
  · exact hA
  · rintro m' s ⟨k, hk, rfl, rfl⟩
    refine run0p ?_
    refine awp_if rfl (fun h' => ?_) (fun h' => ?_)
    · have hk' : k < n := by omega
      repeat(first|refine run1p ?_|((with_reducible apply st_call);exact rfl;exact rfl;exact rfl;first|(exact h k hk'))|((with_reducible apply st_callg);exact rfl;exact rfl;(first|exact rfl|assumption);exact rfl;exact rfl;exact rfl;first|(exact h k hk')))
      refine awp_no rfl rfl ?_
      refine run0p ?_
      refine q_loop ?_ (imp_id ?_ ?_) ⟨k + 1, ?_, rfl, rfl⟩
      · omega
      · refine alle rfl (Le.id rfl) True.intro (alle rfl (Le.id rfl) (ok_none (closed_ok hc)) ?_)
        exact eA
      · exact hA
      · omega
    · refine run0p ?_
      exact ⟨.inr rfl, _, Imp.refl _, .one (.tmp rfl)⟩
theorem g_contains {n m : Nat} {q : Nat → RA} {f : FuncId} {c : Nat → AV} (hc : (AV.clo f m c).closed = true) (hc2 : (AV.clo f m fun i => (c i).old).closed = true) (hn : n ≤ 1000000) (h : ∀ i, i < n → Has Tryz.prog f (([AV.ra (q i)] ++ (List.range m).map fun i => (c i).old).map AV.old) (.b false)) :
    Has Tryz.prog 74 [.row false n q, .clo f m c] (.b false) := by
  refine has_of Tryz.func74 (by kernel_rfl) rfl Tryz.ntmps74 Tryz.results74 (by show (true && ((AV.clo f m c).closed && true)) = true; rw [hc]; rfl) rfl rfl ?_
  have H := g_index hc2 hn h
  repeat(first|refine run1p ?_|((with_reducible apply st_call);exact rfl;exact rfl;exact rfl;first|(exact H))|((with_reducible apply st_callg);exact rfl;exact rfl;(first|exact rfl|assumption);exact rfl;exact rfl;exact rfl;first|(exact H)))
  exact ⟨.inr rfl, _, Imp.refl _, .one (.tmp rfl)⟩
theorem rv_fn {S : Nat → Prop} {B : Nat} {β : Nat → Nat → Value} {w : World} {f : FuncId} {c : Nat → AV} (v : Value) (hv : RV S B β w (.v (.func (.func f) #[] #[])) v) : RV S B β w (.clo f 0 c) v :=
  ⟨#[], hv, rfl, fun i hi => absurd hi (Nat.not_lt_zero _)⟩
theorem g_contains0 {n : Nat} {q : Nat → RA} {f : FuncId} (hn : n ≤ 1000000) (h : ∀ i, i < n → Has Tryz.prog f [(AV.ra (q i)).old] (.b false)) :
    Has Tryz.prog 74 [.row false n q, .v (.func (.func f) #[] #[])] (.b false) :=
  Has.args (g_contains (m := 0) (c := fun _ => .v undef) rfl rfl hn h) fun S B β w vs hv => rvs_cons (fun v hv => hv) (fun us hu => rvs_cons rv_fn (fun us hu => hu) hu) hv
theorem rv_clo {S : Nat → Prop} {B : Nat} {β : Nat → Nat → Value} {w : World} {n : Nat} {f : FuncId} {c c' : Nat → AV} (h : ∀ i, i < n → c i = c' i) (v : Value) (hv : RV S B β w (.clo f n c) v) : RV S B β w (.clo f n c') v := by
  obtain ⟨cap, e1, e2, e3⟩ := hv
  refine ⟨cap, e1, e2, fun i hi => ?_⟩
  obtain ⟨y, a0, a1⟩ := e3 i hi
  exact ⟨y, a0, h i hi ▸ a1⟩
theorem Has.clo2 {P : Program} {f g : FuncId} {n : Nat} {u u' : Nat → AV} {x r : AV} (h : ∀ i, i < n → u i = u' i) (H : Has P f [x, .clo g n u'] r) : Has P f [x, .clo g n u] r :=
  Has.args H fun S B β w vs hv => rvs_cons (fun v hv => hv) (fun us hu => rvs_cons (rv_clo h) rvs_same hu) hv
theorem one1 {f f' : Nat → AV} (h : f 0 = f' 0) : ∀ i, i < 1 → f i = f' i := fun i hi => by
  obtain rfl : i = 0 := by omega
  exact h
theorem cfacts {g : GD} (h : g.OK) {i : Nat} (hi : i < 4) : Fits .i64 (mpz (cmap g.k i) 0 * g.n) ∧ Fits .i64 (mpz (cmap g.k i) 1 * g.n) ∧ Fits .i64 (mpz (cmap g.k i) 1 * g.n * g.r) ∧ Fits .i64 (mpz (cmap g.k i) 0 * g.n + mpz (cmap g.k i) 1 * g.n * g.r) ∧
    Fits .i64 (mpz (cmap g.k i) 0 * g.n + mpz (cmap g.k i) 1 * g.n * g.r + mpz (cmap g.k i) 2) ∧ ((g.len i : Nat) : Int) = mpz (cmap g.k i) 0 * g.n + mpz (cmap g.k i) 1 * g.n * g.r + mpz (cmap g.k i) 2 := by
  obtain ⟨c0, c1, c2⟩ := cmap_le h.k1 h.k7 hi
  obtain ⟨p0, _⟩ := cmap_mul c0 h.n8 h.r3
  obtain ⟨p1, p2⟩ := cmap_mul (n := g.n) (r := g.r) ⟨c1.1, Int.le_trans c1.2 (by decide)⟩ h.n8 h.r3
  refine ⟨?_, ?_, ?_, ?_, ?_, h.len i hi⟩ <;> (simp only [Fits]; omega)
theorem GD.OK.lenle {g : GD} (h : g.OK) (i : Nat) (hi : i < 4) : g.len i ≤ 1000000 := by
  have := (cfacts h hi).2.2.2.2.2
  obtain ⟨c0, c1, c2⟩ := cmap_le h.k1 h.k7 hi
  obtain ⟨p0, _⟩ := cmap_mul c0 h.n8 h.r3
  obtain ⟨p1, p2⟩ := cmap_mul (n := g.n) (r := g.r) ⟨c1.1, Int.le_trans c1.2 (by decide)⟩ h.n8 h.r3
  omega
/-- A system that is right. -/
theorem g_check {g : GD} (h : g.OK) : Has Tryz.prog 86 [g.v] (.i 0) := by
  have n1 := h.n1; have n8 := h.n8; have r3 := h.r3; have k1 := h.k1; have k7 := h.k7
  have e0 : decide ((g.k : Int) < 1) = false := decide_eq_false (by omega)
  have e1 : (decide ((g.k : Int) < 1) == false) = true := by rw [e0]; rfl
  have e2 : decide ((7 : Int) < g.k) = false := decide_eq_false (by omega)
  refine has_of Tryz.func86 (by kernel_rfl) rfl Tryz.ntmps86 Tryz.results86 rfl rfl rfl ?_
  refine run0p ?_
  refine awp_no rfl e2 ?_
  repeat(first|refine run1p ?_|((with_reducible apply st_call);exact rfl;exact rfl;exact rfl;first|(exact Has.ag (g7 rfl rfl rfl rfl rfl rfl rfl) (g_sized h)))|((with_reducible apply st_callg);exact rfl;exact rfl;(first|exact rfl|assumption);exact rfl;exact rfl;exact rfl;first|(exact Has.ag (g7 rfl rfl rfl rfl rfl rfl rfl) (g_sized h))))
  refine awp_no rfl rfl ?_
  repeat(first|refine run1p ?_|((with_reducible apply st_call);exact rfl;exact rfl;exact rfl;first|(exact Has.ag (g7 rfl rfl rfl rfl rfl rfl rfl) (g_rows g))|(exact V.c_counts))|((with_reducible apply st_callg);exact rfl;exact rfl;(first|exact rfl|assumption);exact rfl;exact rfl;exact rfl;first|(exact Has.ag (g7 rfl rfl rfl rfl rfl rfl rfl) (g_rows g))|(exact V.c_counts)))
  refine awp_loop (fun m' s => ∃ k, k ≤ 4 ∧ m' = 4 - k ∧ s = stl [(1, .ptr 1 0 0), (3, .ptr 3 0 0), (4, .mp cmap), (28, .ag 4 g.rw), (29, .i (k : Int))] [(1, (1, fun _ => .ones 26 7 g.f)), (3, (1, fun _ => .ones 127 4 g.rw))]) 4 _ (imp_id ?_ ?_) ⟨0, by omega, rfl, rfl⟩ ?_
  · refine alle rfl (Le.id rfl) rfl (alle rfl (Le.id rfl) rfl (alle rfl (Le.id rfl) True.intro (alle rfl (Le.id rfl) (fun i _ => g.rok _ i) ?_)))
    exact eA
  · refine allh rfl (by decide) (bleo rfl fun _ _ => Le.id rfl) (fun i _ => g.fok _ i) (allh rfl (by decide) (bleo rfl fun _ _ => Le.id rfl) (fun i _ => g.rok _ i) True.intro)
  · rintro m' s ⟨k, hk, rfl, rfl⟩
    match k, hk with
    | 0, _ =>
      obtain ⟨⟨a0, b0⟩, ⟨a1, b1⟩, ⟨a2, b2⟩, ⟨a3, b3⟩, ⟨a4, b4⟩, hl⟩ := cfacts h (i := 0) (by omega)
      have hl2 : decide (((g.len 0 : Nat) : Int) ≠ mpz (cmap g.k (0 : Nat)) 0 * g.n + mpz (cmap g.k (0 : Nat)) 1 * g.n * g.r + mpz (cmap g.k (0 : Nat)) 2) = false := decide_eq_false fun hx => hx hl
      refine run0p ?_
      refine awp_yes rfl rfl ?_
      refine run0p ?_
      refine awp_no rfl hl2 ?_
      refine run0p ?_
      refine q_loop ?_ (imp_id ?_ ?_) ⟨1, ?_, rfl, rfl⟩
      · decide
      · refine alle rfl (Le.id rfl) rfl (alle rfl (Le.id rfl) rfl (alle rfl (Le.id rfl) True.intro (alle rfl (Le.id rfl) (fun i _ => g.rok _ i) ?_)))
        exact eA
      · refine allh rfl (by decide) (bleo rfl fun _ _ => Le.id rfl) (fun i _ => g.fok _ i) (allh rfl (by decide) (bleo rfl fun _ _ => Le.id rfl) (fun i _ => g.rok _ i) True.intro)
      · decide
    | 1, _ =>
      obtain ⟨⟨a0, b0⟩, ⟨a1, b1⟩, ⟨a2, b2⟩, ⟨a3, b3⟩, ⟨a4, b4⟩, hl⟩ := cfacts h (i := 1) (by omega)
      have hl2 : decide (((g.len 1 : Nat) : Int) ≠ mpz (cmap g.k (1 : Nat)) 0 * g.n + mpz (cmap g.k (1 : Nat)) 1 * g.n * g.r + mpz (cmap g.k (1 : Nat)) 2) = false := decide_eq_false fun hx => hx hl
      refine run0p ?_
      refine awp_yes rfl rfl ?_
      refine run0p ?_
      refine awp_no rfl hl2 ?_
      refine run0p ?_
      refine q_loop ?_ (imp_id ?_ ?_) ⟨2, ?_, rfl, rfl⟩
      · decide
      · refine alle rfl (Le.id rfl) rfl (alle rfl (Le.id rfl) rfl (alle rfl (Le.id rfl) True.intro (alle rfl (Le.id rfl) (fun i _ => g.rok _ i) ?_)))
        exact eA
      · refine allh rfl (by decide) (bleo rfl fun _ _ => Le.id rfl) (fun i _ => g.fok _ i) (allh rfl (by decide) (bleo rfl fun _ _ => Le.id rfl) (fun i _ => g.rok _ i) True.intro)
      · decide
    | 2, _ =>
      obtain ⟨⟨a0, b0⟩, ⟨a1, b1⟩, ⟨a2, b2⟩, ⟨a3, b3⟩, ⟨a4, b4⟩, hl⟩ := cfacts h (i := 2) (by omega)
      have hl2 : decide (((g.len 2 : Nat) : Int) ≠ mpz (cmap g.k (2 : Nat)) 0 * g.n + mpz (cmap g.k (2 : Nat)) 1 * g.n * g.r + mpz (cmap g.k (2 : Nat)) 2) = false := decide_eq_false fun hx => hx hl
      refine run0p ?_
      refine awp_yes rfl rfl ?_
      refine run0p ?_
      refine awp_no rfl hl2 ?_
      refine run0p ?_
      refine q_loop ?_ (imp_id ?_ ?_) ⟨3, ?_, rfl, rfl⟩
      · decide
      · refine alle rfl (Le.id rfl) rfl (alle rfl (Le.id rfl) rfl (alle rfl (Le.id rfl) True.intro (alle rfl (Le.id rfl) (fun i _ => g.rok _ i) ?_)))
        exact eA
      · refine allh rfl (by decide) (bleo rfl fun _ _ => Le.id rfl) (fun i _ => g.fok _ i) (allh rfl (by decide) (bleo rfl fun _ _ => Le.id rfl) (fun i _ => g.rok _ i) True.intro)
      · decide
    | 3, _ =>
      obtain ⟨⟨a0, b0⟩, ⟨a1, b1⟩, ⟨a2, b2⟩, ⟨a3, b3⟩, ⟨a4, b4⟩, hl⟩ := cfacts h (i := 3) (by omega)
      have hl2 : decide (((g.len 3 : Nat) : Int) ≠ mpz (cmap g.k (3 : Nat)) 0 * g.n + mpz (cmap g.k (3 : Nat)) 1 * g.n * g.r + mpz (cmap g.k (3 : Nat)) 2) = false := decide_eq_false fun hx => hx hl
      refine run0p ?_
      refine awp_yes rfl rfl ?_
      refine run0p ?_
      refine awp_no rfl hl2 ?_
      refine run0p ?_
      refine q_loop ?_ (imp_id ?_ ?_) ⟨4, ?_, rfl, rfl⟩
      · decide
      · refine alle rfl (Le.id rfl) rfl (alle rfl (Le.id rfl) rfl (alle rfl (Le.id rfl) True.intro (alle rfl (Le.id rfl) (fun i _ => g.rok _ i) ?_)))
        exact eA
      · refine allh rfl (by decide) (bleo rfl fun _ _ => Le.id rfl) (fun i _ => g.fok _ i) (allh rfl (by decide) (bleo rfl fun _ _ => Le.id rfl) (fun i _ => g.rok _ i) True.intro)
      · decide
    | 4, _ =>
      refine run0p ?_
      refine awp_no rfl rfl ?_
      refine run0p ?_
      refine awp_loop (fun m' s => ∃ k, k ≤ 4 ∧ m' = 4 - k ∧ s = stl [(1, .ptr 1 0 0), (60, .ag 4 g.rw), (61, .i (k : Int))] [(1, (1, fun _ => .ones 26 7 g.f))]) 4 _ (imp_id ?_ ?_) ⟨0, by omega, rfl, rfl⟩ ?_
      · refine alle rfl (Le.id rfl) rfl (alle rfl (Le.id rfl) (fun i _ => g.rok _ i) ?_)
        exact eA
      · refine allh rfl (by decide) (bleo rfl fun _ _ => Le.id rfl) (fun i _ => g.fok _ i) True.intro
      · rintro m' s ⟨k, hk, rfl, rfl⟩
        match k, hk with
        | 0, _ =>
          have c := g_contains0 (f := 122) (n := g.la) (q := fun i => .q (g.A i)) (h.lenle 0 (by omega)) fun i hi => g_bad (h.sm.A i hi)
          refine run0p ?_
          refine awp_yes rfl rfl ?_
          repeat(first|refine run1p ?_|((with_reducible apply st_call);exact rfl;exact rfl;exact rfl;first|(exact c))|((with_reducible apply st_callg);exact rfl;exact rfl;(first|exact rfl|assumption);exact rfl;exact rfl;exact rfl;first|(exact c)))
          refine awp_no rfl rfl ?_
          refine run0p ?_
          refine q_loop ?_ (imp_id ?_ ?_) ⟨1, ?_, rfl, rfl⟩
          · decide
          · refine alle rfl (Le.id rfl) rfl (alle rfl (Le.id rfl) (fun i _ => g.rok _ i) ?_)
            exact eA
          · refine allh rfl (by decide) (bleo rfl fun _ _ => Le.id rfl) (fun i _ => g.fok _ i) True.intro
          · decide
        | 1, _ =>
          have c := g_contains0 (f := 122) (n := g.lb) (q := fun i => .q (g.B i)) (h.lenle 1 (by omega)) fun i hi => g_bad (h.sm.B i hi)
          refine run0p ?_
          refine awp_yes rfl rfl ?_
          repeat(first|refine run1p ?_|((with_reducible apply st_call);exact rfl;exact rfl;exact rfl;first|(exact c))|((with_reducible apply st_callg);exact rfl;exact rfl;(first|exact rfl|assumption);exact rfl;exact rfl;exact rfl;first|(exact c)))
          refine awp_no rfl rfl ?_
          refine run0p ?_
          refine q_loop ?_ (imp_id ?_ ?_) ⟨2, ?_, rfl, rfl⟩
          · decide
          · refine alle rfl (Le.id rfl) rfl (alle rfl (Le.id rfl) (fun i _ => g.rok _ i) ?_)
            exact eA
          · refine allh rfl (by decide) (bleo rfl fun _ _ => Le.id rfl) (fun i _ => g.fok _ i) True.intro
          · decide
        | 2, _ =>
          have c := g_contains0 (f := 122) (n := g.lg) (q := fun i => .q (g.G i)) (h.lenle 2 (by omega)) fun i hi => g_bad (h.sm.G i hi)
          refine run0p ?_
          refine awp_yes rfl rfl ?_
          repeat(first|refine run1p ?_|((with_reducible apply st_call);exact rfl;exact rfl;exact rfl;first|(exact c))|((with_reducible apply st_callg);exact rfl;exact rfl;(first|exact rfl|assumption);exact rfl;exact rfl;exact rfl;first|(exact c)))
          refine awp_no rfl rfl ?_
          refine run0p ?_
          refine q_loop ?_ (imp_id ?_ ?_) ⟨3, ?_, rfl, rfl⟩
          · decide
          · refine alle rfl (Le.id rfl) rfl (alle rfl (Le.id rfl) (fun i _ => g.rok _ i) ?_)
            exact eA
          · refine allh rfl (by decide) (bleo rfl fun _ _ => Le.id rfl) (fun i _ => g.fok _ i) True.intro
          · decide
        | 3, _ =>
          have c := g_contains0 (f := 122) (n := g.lh) (q := fun i => .q (g.H i)) (h.lenle 3 (by omega)) fun i hi => g_bad (h.sm.H i hi)
          refine run0p ?_
          refine awp_yes rfl rfl ?_
          repeat(first|refine run1p ?_|((with_reducible apply st_call);exact rfl;exact rfl;exact rfl;first|(exact c))|((with_reducible apply st_callg);exact rfl;exact rfl;(first|exact rfl|assumption);exact rfl;exact rfl;exact rfl;first|(exact c)))
          refine awp_no rfl rfl ?_
          refine run0p ?_
          refine q_loop ?_ (imp_id ?_ ?_) ⟨4, ?_, rfl, rfl⟩
          · decide
          · refine alle rfl (Le.id rfl) rfl (alle rfl (Le.id rfl) (fun i _ => g.rok _ i) ?_)
            exact eA
          · refine allh rfl (by decide) (bleo rfl fun _ _ => Le.id rfl) (fun i _ => g.fok _ i) True.intro
          · decide
        | 4, _ =>
          refine run0p ?_
          refine awp_no rfl rfl ?_
          refine run0p ?_
          refine awp_loop (fun m' s => ∃ k, k ≤ g.la ∧ m' = g.la - k ∧ s = stl [(1, .ptr 1 0 0), (68, .row false g.la (fun i => .q (g.A i))), (69, .i g.la), (70, .i (k : Int))] [(1, (1, fun _ => .ones 26 7 g.f))]) g.la _ (imp_id ?_ ?_) ⟨0, Nat.zero_le _, rfl, rfl⟩ ?_
          · refine alle rfl (Le.id rfl) rfl ?_
            exact eA
          · refine allh rfl (by decide) (bleo rfl fun _ _ => Le.id rfl) (fun i _ => g.fok _ i) True.intro
          · rintro m' s ⟨k, hk, rfl, rfl⟩
            have hla : g.la ≤ 1000000 := h.lenle 0 (by omega)
            refine run0p ?_
            refine awp_if rfl (fun h' => ?_) (fun h' => ?_)
            · have hk' : k < g.la := by omega
              have w1 := h.sm.A k hk'
              have c := g_contains (f := 124) (m := 1) (c := fun i => [AV.rp (.q (g.A k))].getD i (.v undef)) (n := g.lb) (q := fun i => .q (g.B i)) rfl rfl (h.lenle 1 (by omega)) fun i hi => by
                have e := g_eqs (p := g.A k) (q := g.B i) (by omega) (by have := h.sm.B i hi; omega)
                rw [decide_eq_false (h.ne k hk' i hi)] at e
                exact e
              refine run3 ?_
              repeat(first|refine run4p ?_)
              refine awp_imp (imp_rp 11 rfl rfl rfl) ?_
              repeat(first|refine run1p ?_|((with_reducible apply st_call);exact rfl;exact rfl;exact rfl;first|(exact Has.clo2 (one1 rfl) c))|((with_reducible apply st_callg);exact rfl;exact rfl;(first|exact rfl|assumption);exact rfl;exact rfl;exact rfl;first|(exact Has.clo2 (one1 rfl) c)))
              refine awp_no rfl rfl ?_
              refine run0p ?_
              refine q_loop ?_ (imp_id ?_ ?_) ⟨k + 1, ?_, rfl, rfl⟩
              · omega
              · refine alle rfl (Le.id rfl) rfl ?_
                exact eA
              · refine allh rfl (by decide) (bleo rfl fun _ _ => Le.id rfl) (fun i _ => g.fok _ i) True.intro
              · omega
            · refine run0p ?_
              exact ⟨.inr rfl, _, Imp.refl _, .one (.tmp rfl)⟩
end Go.Proofs.YtdnmoggifjlbiaaGreat.AM
/- Dense matrices: walks: numbers, sums of products. -/
namespace Go.Proofs.YtdnmoggifjlbiaaGreat.AM
open Go Go.RowKit Go.Proofs.YtdnmoggifjlbiaaGreat.PN Go.Proofs.YtdnmoggifjlbiaaGreat.V
open Go.Proofs.YtdnmoggifjlbiaaGreat.LA (S S_succ S_zero S_congr)
set_option linter.unusedVariables false
set_option linter.unusedSimpArgs false
theorem lb_one {w : World} {v : Value} {S : Nat → Prop} (hS : ∀ b, S b) (h : Lbs w v [1]) : NatS w S v 1 := by
  obtain ⟨A, c, rfl, hc, hx⟩ := h
  refine ⟨A, c, rfl, hc, fun i hi => ?_⟩
  obtain ⟨b, off, cs, e1, e2, e3⟩ := hx i hi
  have hi : i < 1 := hi
  obtain rfl : i = 0 := by omega
  exact ⟨b, off, cs, e1, hS b, e2, by rw [e3]; congr 2⟩
theorem rv_zero {S : Nat → Prop} {B : Nat} {β : Nat → Nat → Value} {w : World} {v : Value} (h : RV S B β w (.ra (.raw false [] [1])) v) : RV S B β w (.q 0) v := by
  obtain ⟨s, vn, vd, rfl, h1, h2, h3⟩ := h
  refine ⟨s, vn, vd, rfl, h1, ?_, lb_one (fun _ => trivial) h3⟩
  obtain ⟨A, c, rfl, hc, hx⟩ := h2
  exact ⟨A, c, rfl, hc, fun i hi => absurd hi (Nat.not_lt_zero _)⟩
theorem rv_one {S : Nat → Prop} {B : Nat} {β : Nat → Nat → Value} {w : World} {v : Value} (h : RV S B β w (.ra (.raw false [1] [1])) v) : RV S B β w (.q 1) v := by
  obtain ⟨s, vn, vd, rfl, h1, h2, h3⟩ := h
  exact ⟨s, vn, vd, rfl, h1, lb_one (fun _ => trivial) h2, lb_one (fun _ => trivial) h3⟩
theorem Has.imp {f : FuncId} {xs : List AV} {r r' : AV} (h : Has Tryz.prog f xs r) (hc : r'.closed = true) (k : ∀ S B β w v, RV S B β w r v → RV S B β w r' v) : Has Tryz.prog f xs r' :=
  ⟨h.b, closed_ok hc, fun w S β vs hv => (h.run w S β vs hv).mono fun e w' ⟨v, he, hk, hr⟩ => ⟨v, he, hk, k _ _ _ _ _ hr⟩⟩
def joinQ (s1 : St) (e : Exit) (s' : St) : Prop := e = .normal ∧ Imp s' s1
end Go.Proofs.YtdnmoggifjlbiaaGreat.AM
/- Package gen: entries. -/
namespace Go.Proofs.YtdnmoggifjlbiaaGreat.AM
open Go Go.RowKit Go.Proofs.YtdnmoggifjlbiaaGreat.PN Go.Proofs.YtdnmoggifjlbiaaGreat.V
open Go.Proofs.YtdnmoggifjlbiaaGreat.LA (S S_succ S_zero S_congr)
set_option linter.unusedVariables false
set_option linter.unusedSimpArgs false
set_option maxRecDepth 8000
set_option maxHeartbeats 8000000
theorem wt_sum {n K : Nat} {f : Nat → Rat} (h : ∀ i, i < n → wt (f i) ≤ K) : wt (S n f) ≤ n * (K + 1) + 1 := by
  induction n with
  | zero => rw [S_zero]; have : wt 0 ≤ 1 := by decide
            omega
  | succ m ih =>
    rw [S_succ]
    have h1 := wt_add (S m f) (f m)
    have h2 := h m (by omega)
    have h3 := ih fun i hi => h i (by omega)
    rw [Nat.succ_mul]
    omega
/-- The product of two rows of a system. -/
def rdot (g : GD) (i j : Nat) : Rat := S g.r fun k => g.G (i * g.r + k) * g.H (j * g.r + k)
theorem ge_zero : Has Tryz.prog 128 [] (.q 0) := by
  refine Has.imp (r := .ra (.raw false [] [1])) ?_ rfl (fun S B β w v => rv_zero)
  refine has_of Tryz.func128 (by kernel_rfl) rfl Tryz.ntmps128 Tryz.results128 rfl rfl rfl ?_
  refine run0 ?_
  refine ⟨.inr rfl, _, Imp.refl _, ?_⟩
  exact .one (.rat rfl rfl (by decide) rfl (by decide) rfl)
theorem ge_one : Has Tryz.prog 131 [] (.q 1) := by
  refine Has.imp (r := .ra (.raw false [1] [1])) ?_ rfl (fun S B β w v => rv_one)
  refine has_of Tryz.func131 (by kernel_rfl) rfl Tryz.ntmps131 Tryz.results131 rfl rfl rfl ?_
  refine run0 ?_
  refine ⟨.inr rfl, _, Imp.refl _, ?_⟩
  exact .one (.rat rfl rfl (by decide) rfl (by decide) rfl)
theorem ge_power {p : Rat} {n : Nat} (hp : wt p ≤ 4) (hn : n ≤ 8) : Has Tryz.prog 129 [.q p, .i n] (.q (p ^ n)) := by
  have hw : ∀ k, wt (p ^ k) ≤ 4 * k + 1 := by
    intro k
    induction k with
    | zero => rw [Rat.pow_zero]; decide
    | succ k ih => rw [Rat.pow_succ]; have := wt_mul (p ^ k) p; omega
  refine has_of Tryz.func129 (by kernel_rfl) rfl Tryz.ntmps129 Tryz.results129 rfl rfl rfl ?_
  repeat(first|refine run1 ?_|((with_reducible apply st_call);exact rfl;exact rfl;exact rfl;first|(exact ge_one))|((with_reducible apply st_callg);exact rfl;exact rfl;(first|exact rfl|assumption);exact rfl;exact rfl;exact rfl;first|(exact ge_one)))
  refine awp_loop (fun m s => ∃ k, k ≤ n ∧ m = n - k ∧ s = stl [(2, .rptr 2 0 0), (4, .rptr 4 0 0), (5, .rptr 5 0 0), (7, .i n), (8, .i (k : Int))] [(2, (1, fun _ => .rats 1 (fun _ => .q p))), (4, (1, fun _ => .rats 1 (fun _ => ra0))), (5, (1, fun _ => .rats 1 (fun _ => .q (p ^ k))))]) n _ (imp_id ?_ ?_) ⟨0, Nat.zero_le _, rfl, rfl⟩ ?_
  · exact eA
  · refine allh rfl (by decide) (ble1 rfl) True.intro (allh rfl (by decide) (ble1 rfl) True.intro (allh rfl (by decide) (ble1 (by rw [Rat.pow_zero]; rfl)) True.intro True.intro))
  · rintro m s ⟨k, hk, rfl, rfl⟩
    have w1 := hw k
    refine run0 ?_
    refine awp_if rfl (fun h => ?_) (fun h => ?_)
    · have h : k < n := by omega
      repeat(first|refine run1 ?_|((with_reducible apply st_call);exact rfl;exact rfl;exact rfl;first|(exact h_mul (by omega) (by omega)))|((with_reducible apply st_callg);exact rfl;exact rfl;(first|exact rfl|assumption);exact rfl;exact rfl;exact rfl;first|(exact h_mul (by omega) (by omega))))
      refine q_loop ?_ (imp_id ?_ ?_) ⟨k + 1, ?_, rfl, rfl⟩
      · omega
      · exact eA
      · refine allh rfl (by decide) (ble1 rfl) True.intro (allh rfl (by decide) (ble1 rfl) True.intro (allh rfl (by decide) (ble1 (by rw [Rat.pow_succ]; rfl)) True.intro True.intro))
      · omega
    · obtain rfl : k = n := by omega
      refine run0 ?_
      refine ⟨.inr rfl, _, Imp.refl _, ?_⟩
      exact .one (.rat rfl rfl (by decide) rfl (by decide) rfl)
theorem ge_dot {g : GD} {i j : Nat} (sm : g.Sm) (hr : g.r ≤ 3) (hi : i < 8) (hj : j < 8) (hg : i * g.r + g.r ≤ g.lg) (hh : j * g.r + g.r ≤ g.lh) : Has Tryz.prog 132 [g.v, .i i, .i j] (.q (rdot g i j)) := by
  have hI : i * g.r ≤ 8 * 3 := Nat.mul_le_mul (by omega) hr
  have hJ : j * g.r ≤ 8 * 3 := Nat.mul_le_mul (by omega) hr
  have eI : (i : Int) * (g.r : Int) = ((i * g.r : Nat) : Int) := (Int.natCast_mul i g.r).symm
  have eJ : (j : Int) * (g.r : Int) = ((j * g.r : Nat) : Int) := (Int.natCast_mul j g.r).symm
  refine has_of Tryz.func132 (by kernel_rfl) rfl Tryz.ntmps132 Tryz.results132 rfl rfl rfl ?_
  repeat(first|refine run1 ?_|((with_reducible apply st_call);exact rfl;exact rfl;exact rfl;first|(exact ge_zero))|((with_reducible apply st_callg);exact rfl;exact rfl;(first|exact rfl|assumption);exact rfl;exact rfl;exact rfl;first|(exact ge_zero)))
  refine awp_loop (fun m s => ∃ k, k ≤ g.r ∧ m = g.r - k ∧ s = stl [(1, .i i), (2, .i j), (3, .ptr 3 0 0), (6, .rptr 6 0 0), (7, .rptr 7 0 0), (11, .i g.r), (12, .i (k : Int))] [(3, (1, fun _ => .ones 26 7 g.f)), (6, (1, fun _ => .rats 1 (fun _ => ra0))), (7, (1, fun _ => .rats 1 (fun _ => .q (S k fun k => g.G (i * g.r + k) * g.H (j * g.r + k)))))]) g.r _ (imp_id ?_ ?_) ⟨0, Nat.zero_le _, rfl, rfl⟩ ?_
  · exact eA
  · refine allh rfl (by decide) (bleo rfl fun _ _ => Le.id rfl) (fun i _ => g.fok _ i) ?_
    exact hA
  · rintro m s ⟨k, hk, rfl, rfl⟩
    refine run0 ?_
    refine awp_if rfl (fun h => ?_) (fun h => ?_)
    · have h : k < g.r := by omega
      have w1 : wt (S k fun k => g.G (i * g.r + k) * g.H (j * g.r + k)) ≤ k * 9 + 1 := wt_sum (K := 8) fun u hu => by
        have h1 := wt_mul (g.G (i * g.r + u)) (g.H (j * g.r + u)); have h2 := sm.G (i * g.r + u) (by omega); have h3 := sm.H (j * g.r + u) (by omega)
        omega
      have w2 := sm.G (i * g.r + k) (by omega); have w3 := sm.H (j * g.r + k) (by omega)
      have w4 := wt_mul (g.G (i * g.r + k)) (g.H (j * g.r + k))
      have q1 : 0 ≤ (i : Int) * (g.r : Int) := by rw [eI]; omega
      have q2 : (i : Int) * (g.r : Int) ≤ 24 := by rw [eI]; omega
      have q3 : (i : Int) * (g.r : Int) + k < g.lg := by rw [eI]; omega
      have q4 : 0 ≤ (j : Int) * (g.r : Int) := by rw [eJ]; omega
      have q5 : (j : Int) * (g.r : Int) ≤ 24 := by rw [eJ]; omega
      have q6 : (j : Int) * (g.r : Int) + k < g.lh := by rw [eJ]; omega
      have e1 : ((i : Int) * (g.r : Int) + (k : Int)).toNat = i * g.r + k := by rw [eI]; omega
      have e2 : ((j : Int) * (g.r : Int) + (k : Int)).toNat = j * g.r + k := by rw [eJ]; omega
      refine run0 ?_
      rw [e1, e2]
      repeat(first|refine run1 ?_|((with_reducible apply st_call);exact rfl;exact rfl;exact rfl;first|(exact h_mul (by omega) (by omega))|(exact h_add (by omega) (by omega)))|((with_reducible apply st_callg);exact rfl;exact rfl;(first|exact rfl|assumption);exact rfl;exact rfl;exact rfl;first|(exact h_mul (by omega) (by omega))|(exact h_add (by omega) (by omega))))
      refine q_loop ?_ (imp_id ?_ ?_) ⟨k + 1, ?_, rfl, rfl⟩
      · omega
      · exact eA
      · refine allh rfl (by decide) (bleo rfl fun _ _ => Le.id rfl) (fun i _ => g.fok _ i) ?_
        exact hA
      · omega
    · have ek : k = g.r := by omega
      unfold rdot
      rw [← ek]
      refine run0 ?_
      refine ⟨.inr rfl, _, Imp.refl _, ?_⟩
      exact .one (.rat rfl rfl (by decide) rfl (by decide) rfl)
theorem ge_over {g : GD} {a : Rat} {i j : Nat} (sm : g.Sm) (ha : wt a ≤ 1000) (hi : i < g.la) (hj : j < g.lb) (h0 : g.A i ≠ g.B j) : Has Tryz.prog 130 [g.v, .q a, .i i, .i j] (.q (a / (g.A i - g.B j))) := by
  have w1 := sm.A i hi; have w2 := sm.B j hj
  have w3 := wt_sub (g.A i) (g.B j)
  have hne : g.A i - g.B j ≠ 0 := fun e => h0 (by rw [← Rat.sub_add_cancel (a := g.A i) (b := g.B j), e, Rat.zero_add])
  refine has_of Tryz.func130 (by kernel_rfl) rfl Tryz.ntmps130 Tryz.results130 rfl rfl rfl ?_
  repeat(first|refine run1 ?_|((with_reducible apply st_call);exact rfl;exact rfl;exact rfl;first|(exact h_sub (p := g.A i) (q := g.B j) (by omega) (by omega))|(exact h_quo (p := a) (q := g.A i - g.B j) (by omega) (by omega) hne))|((with_reducible apply st_callg);exact rfl;exact rfl;(first|exact rfl|assumption);exact rfl;exact rfl;exact rfl;first|(exact h_sub (p := g.A i) (q := g.B j) (by omega) (by omega))|(exact h_quo (p := a) (q := g.A i - g.B j) (by omega) (by omega) hne)))
  refine ⟨.inr rfl, _, Imp.refl _, ?_⟩
  exact .one (.rat rfl rfl (by decide) rfl (by decide) rfl)
/-- An entry. -/
def gent (g : GD) (i j : Nat) : Rat :=
  match g.k with
  | 1 => g.A (i + g.n - 1 - j)
  | 2 => g.A (i + j)
  | 3 => g.A ((i + g.n - j) % g.n)
  | 4 => g.A i ^ j
  | 5 => 1 / (g.A i - g.B j)
  | 6 => S (min i j + 1) fun m => rdot g (i - m) (j - m)
  | _ => rdot g i j / (g.A i - g.B j)
theorem rdot_wt {g : GD} {i j : Nat} (sm : g.Sm) (hg : i * g.r + g.r ≤ g.lg) (hh : j * g.r + g.r ≤ g.lh) (hr : g.r ≤ 3) : wt (rdot g i j) ≤ 28 := by
  have := wt_sum (n := g.r) (K := 8) (f := fun k => g.G (i * g.r + k) * g.H (j * g.r + k)) fun u hu => by
    have h1 := wt_mul (g.G (i * g.r + u)) (g.H (j * g.r + u)); have h2 := sm.G (i * g.r + u) (by omega); have h3 := sm.H (j * g.r + u) (by omega)
    omega
  unfold rdot
  omega
/-- What is known of a kind. -/
theorem ok_lens {g : GD} (h : g.OK) : (g.k = 1 ∨ g.k = 2 → g.la = 2 * g.n - 1) ∧ (g.k = 3 ∨ g.k = 4 ∨ g.k = 5 ∨ g.k = 7 → g.la = g.n) ∧ (g.k = 5 ∨ g.k = 7 → g.lb = g.n) ∧ (g.k = 6 ∨ g.k = 7 → g.lg = g.n * g.r ∧ g.lh = g.n * g.r) := by
  have h1 := h.k1; have h7 := h.k7; have n1 := h.n1
  have l0 := h.len 0 (by omega); have l1 := h.len 1 (by omega); have l2 := h.len 2 (by omega); have l3 := h.len 3 (by omega)
  have e : ((g.n * g.r : Nat) : Int) = (g.n : Int) * g.r := Int.natCast_mul g.n g.r
  have hk : g.k = 1 ∨ g.k = 2 ∨ g.k = 3 ∨ g.k = 4 ∨ g.k = 5 ∨ g.k = 6 ∨ g.k = 7 := by omega
  have c : ∀ (x y z n r : Int), x = 0 → y = 1 → z = 0 → x * n + y * n * r + z = n * r := by intro x y z n r hx hy hz; subst hx; subst hy; subst hz; simp
  have d : ∀ (x y z n r : Int), x = 1 → y = 0 → z = 0 → x * n + y * n * r + z = n := by intro x y z n r hx hy hz; subst hx; subst hy; subst hz; simp
  have f : ∀ (x y z n r : Int), x = 2 → y = 0 → z = -1 → x * n + y * n * r + z = 2 * n - 1 := by intro x y z n r hx hy hz; subst hx; subst hy; subst hz; simp; omega
  change (g.la : Int) = _ at l0
  change (g.lb : Int) = _ at l1
  change (g.lg : Int) = _ at l2
  change (g.lh : Int) = _ at l3
  rcases hk with hk | hk | hk | hk | hk | hk | hk <;> rw [hk] at l0 l1 l2 l3 ⊢
  · rw [f _ _ _ _ _ (by decide) (by decide) (by decide)] at l0
    exact ⟨fun _ => by omega, fun h => by omega, fun h => by omega, fun h => by omega⟩
  · rw [f _ _ _ _ _ (by decide) (by decide) (by decide)] at l0
    exact ⟨fun _ => by omega, fun h => by omega, fun h => by omega, fun h => by omega⟩
  · rw [d _ _ _ _ _ (by decide) (by decide) (by decide)] at l0
    exact ⟨fun h => by omega, fun _ => by omega, fun h => by omega, fun h => by omega⟩
  · rw [d _ _ _ _ _ (by decide) (by decide) (by decide)] at l0
    exact ⟨fun h => by omega, fun _ => by omega, fun h => by omega, fun h => by omega⟩
  · rw [d _ _ _ _ _ (by decide) (by decide) (by decide)] at l0 l1
    exact ⟨fun h => by omega, fun _ => by omega, fun _ => by omega, fun h => by omega⟩
  · rw [c _ _ _ _ _ (by decide) (by decide) (by decide)] at l2 l3
    exact ⟨fun h => by omega, fun h => by omega, fun h => by omega, fun _ => by rw [← e] at l2 l3; omega⟩
  · rw [d _ _ _ _ _ (by decide) (by decide) (by decide)] at l0 l1
    rw [c _ _ _ _ _ (by decide) (by decide) (by decide)] at l2 l3
    exact ⟨fun h => by omega, fun _ => by omega, fun _ => by omega, fun _ => by rw [← e] at l2 l3; omega⟩
end Go.Proofs.YtdnmoggifjlbiaaGreat.AM

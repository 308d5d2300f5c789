/- Joined texts, 23: GenI GenJ LawAA. -/
import Derived.Test.YtjngpgpgajkieaaJ20
import Derived.Test.YtjngpgpgajkieaaJ21
set_option linter.unusedVariables false
set_option linter.unusedSimpArgs false
/- Two systems are alike, or not. -/
namespace Go.Proofs.Ytjngpgpgajkieaa.AM
open Go Go.RowKit Go.Proofs.Ytjngpgpgajkieaa.PN Go.Proofs.Ytjngpgpgajkieaa.V
open Go.Proofs.Ytjngpgpgajkieaa.LA (S S_succ S_zero S_congr)
set_option linter.unusedVariables false
set_option linter.unusedSimpArgs false
set_option maxRecDepth 8000
set_option maxHeartbeats 8000000
/-- Two rows are alike. -/
def alld (n : Nat) (f g : Nat → Rat) : Bool := decide (∀ i, i < n → f i = g i)
theorem first_ne {f g : Nat → Rat} : ∀ n, (∃ i, i < n ∧ f i ≠ g i) → ∃ k, k < n ∧ f k ≠ g k ∧ ∀ i, i < k → f i = g i
  | 0, h => by obtain ⟨i, hi, _⟩ := h; exact absurd hi (Nat.not_lt_zero _)
  | n + 1, h => by
    by_cases e : ∃ i, i < n ∧ f i ≠ g i
    · obtain ⟨k, h1, h2, h3⟩ := first_ne n e
      exact ⟨k, by omega, h2, h3⟩
    · obtain ⟨i, hi, hne⟩ := h
      have hin : i = n := by
        by_cases e2 : i < n
        · exact absurd ⟨i, e2, hne⟩ e
        · omega
      subst hin
      exact ⟨i, hi, hne, fun j hj => Classical.byContradiction fun h' => e ⟨j, hj, h'⟩⟩
theorem not_alld {n : Nat} {f g : Nat → Rat} (h : ¬ ∀ i, i < n → f i = g i) : ∃ k, k < n ∧ f k ≠ g k ∧ ∀ i, i < k → f i = g i :=
  first_ne n (Classical.byContradiction fun h' => h fun i hi => Classical.byContradiction fun h2 => h' ⟨i, hi, h2⟩)
theorem ge_eqfb {n : Nat} {f g : Nat → Rat} (hn : n ≤ 1000000) (hf : ∀ i, i < n → wt (f i) ≤ 1000000000000) (hg : ∀ i, i < n → wt (g i) ≤ 1000000000000) : Has Try.prog 55 [.row false n (fun i => .q (f i)), .row false n (fun i => .q (g i)), .v (.func (.func 56) #[] #[])] (.b (alld n f g)) := by
  by_cases hall : ∀ i, i < n → f i = g i
  · rw [show alld n f g = true from decide_eq_true hall]; exact ge_eqf hn hf hall
  rw [show alld n f g = false from decide_eq_false hall]
  obtain ⟨k0, hk0, hne, hlt⟩ := not_alld hall
  refine has_of Try.func55 (by kernel_rfl) rfl Try.ntmps55 Try.results55 rfl rfl rfl ?_
  have gN : decide ((n : Int) ≠ n) = false := decide_eq_false fun h => h rfl
  refine run0 ?_
  refine awp_no rfl gN ?_
  refine run0 ?_
  refine awp_loop (fun m s => ∃ k, k ≤ k0 ∧ m = n - k ∧ s = stl [(0, .row false n (fun i => .q (f i))), (1, .row false n (fun i => .q (g i))), (2, .v (.func (.func 56) #[] #[])), (15, .row false n (fun i => .q (f i))), (16, .i n), (17, .i (k : Int))] []) n _ (imp_id ?_ ?_) ⟨0, Nat.zero_le _, rfl, rfl⟩ ?_
  · exact eA
  · exact hA
  · rintro m s ⟨k, hk, rfl, rfl⟩
    have h' : k < n := by omega
    have c := ge_same1 (p := f k) (q := g k) (hf k h') (hg k h')
    refine run0 ?_
    refine awp_yes rfl (decide_eq_true (by omega)) ?_
    by_cases e : k = k0
    · subst e
      rw [decide_eq_false hne] at c
      repeat(first|refine run1 ?_|((with_reducible apply st_call);exact rfl;exact rfl;exact rfl;first|(exact c))|((with_reducible apply st_callg);exact rfl;exact rfl;(first|exact rfl|assumption);exact rfl;exact rfl;exact rfl;first|(exact c)))
      refine awp_yes rfl rfl ?_
      refine run0 ?_
      exact ⟨.inr rfl, _, Imp.refl _, .one (.tmp rfl)⟩
    · rw [decide_eq_true (hlt k (by omega))] at c
      repeat(first|refine run1 ?_|((with_reducible apply st_call);exact rfl;exact rfl;exact rfl;first|(exact c))|((with_reducible apply st_callg);exact rfl;exact rfl;(first|exact rfl|assumption);exact rfl;exact rfl;exact rfl;first|(exact c)))
      refine awp_no rfl rfl ?_
      refine run0 ?_
      refine q_loop ?_ (imp_id ?_ ?_) ⟨k + 1, ?_, rfl, rfl⟩
      · omega
      · exact eA
      · exact hA
      · omega
theorem k_rowsd {n : Nat} {f g : Nat → Rat} (hf : ∀ i, i < n → wt (f i) ≤ 1000000) (hg : ∀ i, i < n → wt (g i) ≤ 1000000) (hn : n ≤ 1000) : Has Try.prog 54 [.row false n (fun i => .q (f i)), .row false n (fun i => .q (g i))] (.b (alld n f g)) := by
  by_cases hall : ∀ i, i < n → f i = g i
  · rw [show alld n f g = true from decide_eq_true hall]
    exact k_rowsb (K := 1000000) (fun i hi => ⟨hf i hi⟩) (by decide) (by decide) hn hall
  rw [show alld n f g = false from decide_eq_false hall]
  obtain ⟨k0, hk0, hne, hlt⟩ := not_alld hall
  refine has_of Try.func54 (by kernel_rfl) rfl Try.ntmps54 Try.results54 rfl rfl rfl ?_
  refine run0 ?_
  refine awp_no rfl (decide_eq_false (fun h => h rfl)) ?_
  refine run0 ?_
  refine awp_loop (fun m s => ∃ k, k ≤ k0 ∧ m = n - k ∧ s = stl [(0, .row false n (fun i => .q (f i))), (1, .row false n (fun i => .q (g i))), (5, .i (k : Int))] []) n _ (imp_id ?_ ?_) ⟨0, Nat.zero_le _, rfl, rfl⟩ ?_
  · exact eA
  · exact hA
  · rintro m s ⟨k, hk, rfl, rfl⟩
    have h' : k < n := by omega
    have c := hs_same (p := f k) (q := g k) (Nat.le_trans (hf k h') (by decide)) (Nat.le_trans (hg k h') (by decide))
    refine run0 ?_
    refine awp_yes rfl (decide_eq_true (by omega)) ?_
    by_cases e : k = k0
    · subst e
      rw [decide_eq_false hne] at c
      repeat(first|refine run1 ?_|((with_reducible apply st_call);exact rfl;exact rfl;exact rfl;first|(exact c))|((with_reducible apply st_callg);exact rfl;exact rfl;(first|exact rfl|assumption);exact rfl;exact rfl;exact rfl;first|(exact c)))
      refine awp_yes rfl rfl ?_
      refine run0 ?_
      exact ⟨.inr rfl, _, Imp.refl _, .one (.tmp rfl)⟩
    · rw [decide_eq_true (hlt k (by omega))] at c
      repeat(first|refine run1 ?_|((with_reducible apply st_call);exact rfl;exact rfl;exact rfl;first|(exact c))|((with_reducible apply st_callg);exact rfl;exact rfl;(first|exact rfl|assumption);exact rfl;exact rfl;exact rfl;first|(exact c)))
      refine awp_no rfl rfl ?_
      refine run0 ?_
      refine q_loop ?_ (imp_id ?_ ?_) ⟨k + 1, ?_, rfl, rfl⟩
      · omega
      · exact eA
      · exact hA
      · omega
/-- Two systems of one shape. -/
structure Shp (g h : GD) : Prop where
  k : h.k = g.k
  n : h.n = g.n
  r : h.r = g.r
  la : h.la = g.la
  lb : h.lb = g.lb
  lg : h.lg = g.lg
  lh : h.lh = g.lh
  le : g.la ≤ 1000 ∧ g.lb ≤ 1000 ∧ g.lg ≤ 1000 ∧ g.lh ≤ 1000
  s : g.Sm
  s' : h.Sm
def sameB (g h : GD) : Bool := alld g.la g.A h.A && (alld g.lb g.B h.B && (alld g.lg g.G h.G && alld g.lh g.H h.H))
theorem ge_sameb {g h : GD} (t : Shp g h) : Has Try.prog 27 [g.v, h.v] (.b (sameB g h)) := by
  obtain ⟨k, n, r, la, lb, lg, lh, A, B, G, H⟩ := h
  obtain ⟨rfl, rfl, rfl, rfl, rfl, rfl, rfl, le, s, s'⟩ := t
  have gK : decide ((g.k : Int) ≠ g.k) = false := decide_eq_false fun h => h rfl
  have gK2 : (decide ((g.k : Int) ≠ g.k) == false) = true := by rw [gK]; rfl
  have gN : decide ((g.n : Int) ≠ g.n) = false := decide_eq_false fun h => h rfl
  have gN2 : (decide ((g.n : Int) ≠ g.n) == false) = true := by rw [gN]; rfl
  have gR : decide ((g.r : Int) ≠ g.r) = false := decide_eq_false fun h => h rfl
  have cA := ge_eqfb (n := g.la) (f := g.A) (g := A) (by omega) (fun i hi => Nat.le_trans (s.A i hi) (by decide)) fun i hi => Nat.le_trans (s'.A i hi) (by decide)
  have cB := ge_eqfb (n := g.lb) (f := g.B) (g := B) (by omega) (fun i hi => Nat.le_trans (s.B i hi) (by decide)) fun i hi => Nat.le_trans (s'.B i hi) (by decide)
  have cG := ge_eqfb (n := g.lg) (f := g.G) (g := G) (by omega) (fun i hi => Nat.le_trans (s.G i hi) (by decide)) fun i hi => Nat.le_trans (s'.G i hi) (by decide)
  have cH := ge_eqfb (n := g.lh) (f := g.H) (g := H) (by omega) (fun i hi => Nat.le_trans (s.H i hi) (by decide)) fun i hi => Nat.le_trans (s'.H i hi) (by decide)
  show Has Try.prog _ _ (.b (alld g.la g.A A && (alld g.lb g.B B && (alld g.lg g.G G && alld g.lh g.H H))))
  have r1 := g_rows g
  have r2 := g_rows ⟨g.k, g.n, g.r, g.la, g.lb, g.lg, g.lh, A, B, G, H⟩
  generalize hh : (⟨g.k, g.n, g.r, g.la, g.lb, g.lg, g.lh, A, B, G, H⟩ : GD) = h at *
  generalize alld g.la g.A A = bA at *
  generalize alld g.lb g.B B = bB at *
  generalize alld g.lg g.G G = bG at *
  generalize alld g.lh g.H H = bH at *
  subst hh
  refine has_of Try.func27 (by kernel_rfl) rfl Try.ntmps27 Try.results27 rfl rfl rfl ?_
  refine run0p ?_
  refine awp_no rfl gR ?_
  repeat(first|refine run1p ?_|((with_reducible apply st_call);exact rfl;exact rfl;exact rfl;first|(exact Has.ag (g7 rfl rfl rfl rfl rfl rfl rfl) r1)|(exact Has.ag (g7 rfl rfl rfl rfl rfl rfl rfl) r2))|((with_reducible apply st_callg);exact rfl;exact rfl;(first|exact rfl|assumption);exact rfl;exact rfl;exact rfl;first|(exact Has.ag (g7 rfl rfl rfl rfl rfl rfl rfl) r1)|(exact Has.ag (g7 rfl rfl rfl rfl rfl rfl rfl) r2)))
  refine awp_loop (fun m' s => ∃ k, k ≤ 4 ∧ m' = 4 - k ∧ (1 ≤ k → bA = true) ∧ (2 ≤ k → bB = true) ∧ (3 ≤ k → bG = true) ∧ (4 ≤ k → bH = true) ∧ s = stl [(5, .ptr 5 0 0), (6, .ptr 6 0 0), (31, .i (k : Int))] [(5, (1, fun _ => .ones 62 4 g.rw)), (6, (1, fun _ => .ones 62 4 (GD.rw ⟨g.k, g.n, g.r, g.la, g.lb, g.lg, g.lh, A, B, G, H⟩)))]) 4 _ (imp_id ?_ ?_) ⟨0, by omega, rfl, by omega, by omega, by omega, by omega, rfl⟩ ?_
  · exact eA
  · exact allh rfl (by decide) (bleo rfl fun _ _ => Le.id rfl) (fun i _ => g.rok _ i) (allh rfl (by decide) (bleo rfl fun _ _ => Le.id rfl) (fun i _ => GD.rok _ _ i) True.intro)
  · rintro m' s ⟨k, hk, rfl, q1, q2, q3, q4, rfl⟩
    match k, hk with
    | 0, _ =>
      refine run0p ?_
      refine awp_yes rfl rfl ?_
      repeat(first|refine run1p ?_|((with_reducible apply st_call);exact rfl;exact rfl;exact rfl;first|(exact cA))|((with_reducible apply st_callg);exact rfl;exact rfl;(first|exact rfl|assumption);exact rfl;exact rfl;exact rfl;first|(exact cA)))
      cases hb : bA with
      | false =>
        refine awp_yes rfl rfl ?_
        refine run0p ?_
        exact ⟨.inr rfl, _, Imp.refl _, .one (.tmp rfl)⟩
      | true =>
        refine awp_no rfl rfl ?_
        refine run0p ?_
        refine q_loop ?_ (imp_id ?_ ?_) ⟨1, ?_, rfl, fun _ => rfl, by omega, by omega, by omega, rfl⟩
        · decide
        · exact eA
        · exact allh rfl (by decide) (bleo rfl fun _ _ => Le.id rfl) (fun i _ => g.rok _ i) (allh rfl (by decide) (bleo rfl fun _ _ => Le.id rfl) (fun i _ => GD.rok _ _ i) True.intro)
        · decide
    | 1, _ =>
      have p0 := q1 (by decide)
      subst p0
      refine run0p ?_
      refine awp_yes rfl rfl ?_
      repeat(first|refine run1p ?_|((with_reducible apply st_call);exact rfl;exact rfl;exact rfl;first|(exact cB))|((with_reducible apply st_callg);exact rfl;exact rfl;(first|exact rfl|assumption);exact rfl;exact rfl;exact rfl;first|(exact cB)))
      cases hb : bB with
      | false =>
        refine awp_yes rfl rfl ?_
        refine run0p ?_
        exact ⟨.inr rfl, _, Imp.refl _, .one (.tmp rfl)⟩
      | true =>
        refine awp_no rfl rfl ?_
        refine run0p ?_
        refine q_loop ?_ (imp_id ?_ ?_) ⟨2, ?_, rfl, fun _ => rfl, fun _ => rfl, by omega, by omega, rfl⟩
        · decide
        · exact eA
        · exact allh rfl (by decide) (bleo rfl fun _ _ => Le.id rfl) (fun i _ => g.rok _ i) (allh rfl (by decide) (bleo rfl fun _ _ => Le.id rfl) (fun i _ => GD.rok _ _ i) True.intro)
        · decide
    | 2, _ =>
      have p0 := q1 (by decide)
      subst p0
      have p1 := q2 (by decide)
      subst p1
      refine run0p ?_
      refine awp_yes rfl rfl ?_
      repeat(first|refine run1p ?_|((with_reducible apply st_call);exact rfl;exact rfl;exact rfl;first|(exact cG))|((with_reducible apply st_callg);exact rfl;exact rfl;(first|exact rfl|assumption);exact rfl;exact rfl;exact rfl;first|(exact cG)))
      cases hb : bG with
      | false =>
        refine awp_yes rfl rfl ?_
        refine run0p ?_
        exact ⟨.inr rfl, _, Imp.refl _, .one (.tmp rfl)⟩
      | true =>
        refine awp_no rfl rfl ?_
        refine run0p ?_
        refine q_loop ?_ (imp_id ?_ ?_) ⟨3, ?_, rfl, fun _ => rfl, fun _ => rfl, fun _ => rfl, by omega, rfl⟩
        · decide
        · exact eA
        · exact allh rfl (by decide) (bleo rfl fun _ _ => Le.id rfl) (fun i _ => g.rok _ i) (allh rfl (by decide) (bleo rfl fun _ _ => Le.id rfl) (fun i _ => GD.rok _ _ i) True.intro)
        · decide
    | 3, _ =>
      have p0 := q1 (by decide)
      subst p0
      have p1 := q2 (by decide)
      subst p1
      have p2 := q3 (by decide)
      subst p2
      refine run0p ?_
      refine awp_yes rfl rfl ?_
      repeat(first|refine run1p ?_|((with_reducible apply st_call);exact rfl;exact rfl;exact rfl;first|(exact cH))|((with_reducible apply st_callg);exact rfl;exact rfl;(first|exact rfl|assumption);exact rfl;exact rfl;exact rfl;first|(exact cH)))
      cases hb : bH with
      | false =>
        refine awp_yes rfl rfl ?_
        refine run0p ?_
        exact ⟨.inr rfl, _, Imp.refl _, .one (.tmp rfl)⟩
      | true =>
        refine awp_no rfl rfl ?_
        refine run0p ?_
        refine q_loop ?_ (imp_id ?_ ?_) ⟨4, ?_, rfl, fun _ => rfl, fun _ => rfl, fun _ => rfl, fun _ => rfl, rfl⟩
        · decide
        · exact eA
        · exact allh rfl (by decide) (bleo rfl fun _ _ => Le.id rfl) (fun i _ => g.rok _ i) (allh rfl (by decide) (bleo rfl fun _ _ => Le.id rfl) (fun i _ => GD.rok _ _ i) True.intro)
        · decide
    | 4, _ =>
      refine run0p ?_
      refine awp_no rfl rfl ?_
      refine run0p ?_
      have p1 := q1 (by decide); have p2 := q2 (by decide); have p3 := q3 (by decide); have p4 := q4 (by decide)
      subst p1; subst p2; subst p3; subst p4
      exact ⟨.inr rfl, _, Imp.refl _, .one (.tmp rfl)⟩
end Go.Proofs.Ytjngpgpgajkieaa.AM
/- The document: two systems are alike, or not. -/
namespace Go.Proofs.Ytjngpgpgajkieaa.AM
open Go Go.RowKit Go.Proofs.Ytjngpgpgajkieaa.PN Go.Proofs.Ytjngpgpgajkieaa.V
open Go.Proofs.Ytjngpgpgajkieaa.LA (S S_succ S_zero S_congr)
set_option linter.unusedVariables false
set_option linter.unusedSimpArgs false
set_option maxRecDepth 8000
set_option maxHeartbeats 8000000
theorem r5_sameb {g h : GD} (t : Shp g h) : Has Try.prog 28 [g.v, h.v] (.b (sameB g h)) := by
  obtain ⟨k, n, r, la, lb, lg, lh, A, B, G, H⟩ := h
  obtain ⟨rfl, rfl, rfl, rfl, rfl, rfl, rfl, le, s, s'⟩ := t
  have gK : decide ((g.k : Int) = g.k) = true := decide_eq_true rfl
  have gK2 : (decide ((g.k : Int) = g.k) == true) = true := by rw [gK]; rfl
  have gN : decide ((g.n : Int) = g.n) = true := decide_eq_true rfl
  have gN2 : (decide ((g.n : Int) = g.n) == true) = true := by rw [gN]; rfl
  have gR : decide ((g.r : Int) = g.r) = true := decide_eq_true rfl
  have gR2 : (decide ((g.r : Int) = g.r) == true) = true := by rw [gR]; rfl
  have cA := k_rowsd (n := g.la) (f := g.A) (g := A) (fun i hi => Nat.le_trans (s.A i hi) (by decide)) (fun i hi => Nat.le_trans (s'.A i hi) (by decide)) le.1
  have cB := k_rowsd (n := g.lb) (f := g.B) (g := B) (fun i hi => Nat.le_trans (s.B i hi) (by decide)) (fun i hi => Nat.le_trans (s'.B i hi) (by decide)) le.2.1
  have cG := k_rowsd (n := g.lg) (f := g.G) (g := G) (fun i hi => Nat.le_trans (s.G i hi) (by decide)) (fun i hi => Nat.le_trans (s'.G i hi) (by decide)) le.2.2.1
  have cH := k_rowsd (n := g.lh) (f := g.H) (g := H) (fun i hi => Nat.le_trans (s.H i hi) (by decide)) (fun i hi => Nat.le_trans (s'.H i hi) (by decide)) le.2.2.2
  show Has Try.prog _ _ (.b (alld g.la g.A A && (alld g.lb g.B B && (alld g.lg g.G G && alld g.lh g.H H))))
  generalize alld g.la g.A A = bA at *
  generalize alld g.lb g.B B = bB at *
  generalize alld g.lg g.G G = bG at *
  generalize alld g.lh g.H H = bH at *
  refine has_of Try.func28 (by kernel_rfl) rfl Try.ntmps28 Try.results28 rfl rfl rfl ?_
  cases bA with
  | false =>
    repeat(first|refine run1p ?_|((with_reducible apply st_call);exact rfl;exact rfl;exact rfl;first|(exact cA)|(exact cB)|(exact cG)|(exact cH))|((with_reducible apply st_callg);exact rfl;exact rfl;(first|exact rfl|assumption);exact rfl;exact rfl;exact rfl;first|(exact cA)|(exact cB)|(exact cG)|(exact cH)))
    exact ⟨.inr rfl, _, Imp.refl _, .one (.tmp rfl)⟩
  | true =>
    cases bB with
    | false =>
      repeat(first|refine run1p ?_|((with_reducible apply st_call);exact rfl;exact rfl;exact rfl;first|(exact cA)|(exact cB)|(exact cG)|(exact cH))|((with_reducible apply st_callg);exact rfl;exact rfl;(first|exact rfl|assumption);exact rfl;exact rfl;exact rfl;first|(exact cA)|(exact cB)|(exact cG)|(exact cH)))
      exact ⟨.inr rfl, _, Imp.refl _, .one (.tmp rfl)⟩
    | true =>
      cases bG with
      | false =>
        repeat(first|refine run1p ?_|((with_reducible apply st_call);exact rfl;exact rfl;exact rfl;first|(exact cA)|(exact cB)|(exact cG)|(exact cH))|((with_reducible apply st_callg);exact rfl;exact rfl;(first|exact rfl|assumption);exact rfl;exact rfl;exact rfl;first|(exact cA)|(exact cB)|(exact cG)|(exact cH)))
        exact ⟨.inr rfl, _, Imp.refl _, .one (.tmp rfl)⟩
      | true =>
        cases bH with
        | false =>
          repeat(first|refine run1p ?_|((with_reducible apply st_call);exact rfl;exact rfl;exact rfl;first|(exact cA)|(exact cB)|(exact cG)|(exact cH))|((with_reducible apply st_callg);exact rfl;exact rfl;(first|exact rfl|assumption);exact rfl;exact rfl;exact rfl;first|(exact cA)|(exact cB)|(exact cG)|(exact cH)))
          exact ⟨.inr rfl, _, Imp.refl _, .one (.tmp rfl)⟩
        | true =>
          repeat(first|refine run1p ?_|((with_reducible apply st_call);exact rfl;exact rfl;exact rfl;first|(exact cA)|(exact cB)|(exact cG)|(exact cH))|((with_reducible apply st_callg);exact rfl;exact rfl;(first|exact rfl|assumption);exact rfl;exact rfl;exact rfl;first|(exact cA)|(exact cB)|(exact cG)|(exact cH)))
          exact ⟨.inr rfl, _, Imp.refl _, .one (.tmp rfl)⟩
theorem alld_self {n : Nat} {f : Nat → Rat} : alld n f f = true := decide_eq_true fun _ _ => rfl
theorem sameB_self {g : GD} : sameB g g = true := by unfold sameB; rw [alld_self, alld_self, alld_self, alld_self]; rfl
theorem shp_self {g : GD} (h : g.Sm) (le : g.la ≤ 1000 ∧ g.lb ≤ 1000 ∧ g.lg ≤ 1000 ∧ g.lh ≤ 1000) : Shp g g := ⟨rfl, rfl, rfl, rfl, rfl, rfl, rfl, le, h, h⟩
/-- One number turned. -/
def gX (a : GD) (p : Bool) (w : Nat) : GD := ⟨a.k, a.n, a.r, a.la, a.lb, a.lg, a.lh, fun i => if p = true ∧ i = w then 777 else a.A i, a.B, fun i => if p = false ∧ i = w then 777 else a.G i, a.H⟩
theorem big777 {x : Rat} (h : x ≤ 20) : x ≠ 777 := by rintro rfl; exact absurd h (by decide +kernel)
theorem gX_ne {a : GD} {p : Bool} {w : Nat} (hw : w < (if p = true then a.la else a.lg)) (hA : ∀ i, i < a.la → a.A i ≤ 20) (hG : ∀ i, i < a.lg → a.G i ≤ 20) : sameB a (gX a p w) = false ∧ sameB (gX a p w) a = false := by
  cases p with
  | true =>
    have hw : w < a.la := hw
    have e : (gX a true w).A w = 777 := if_pos ⟨rfl, rfl⟩
    have h := big777 (hA w hw)
    have h1 : alld a.la a.A (gX a true w).A = false := decide_eq_false fun h' => h (by rw [← e]; exact h' w hw)
    have h2 : alld a.la (gX a true w).A a.A = false := decide_eq_false fun h' => h (by rw [← e]; exact (h' w hw).symm)
    constructor
    · unfold sameB; rw [h1]; rfl
    · show (alld a.la (gX a true w).A a.A && _) = false; rw [h2]; rfl
  | false =>
    have hw : w < a.lg := hw
    have e : (gX a false w).G w = 777 := if_pos ⟨rfl, rfl⟩
    have h := big777 (hG w hw)
    have h1 : alld a.lg a.G (gX a false w).G = false := decide_eq_false fun h' => h (by rw [← e]; exact h' w hw)
    have h2 : alld a.lg (gX a false w).G a.G = false := decide_eq_false fun h' => h (by rw [← e]; exact (h' w hw).symm)
    constructor
    · unfold sameB; rw [h1]; simp
    · show (_ && (_ && (alld a.lg (gX a false w).G a.G && _))) = false; rw [h2]; simp
end Go.Proofs.Ytjngpgpgajkieaa.AM
/- Laws of systems: GenSame. -/
namespace Go.Proofs.Ytjngpgpgajkieaa.AM
open Go Go.RowKit Go.Proofs.Ytjngpgpgajkieaa.PN Go.Proofs.Ytjngpgpgajkieaa.V
open Go.Proofs.Ytjngpgpgajkieaa.LA (S S_succ S_zero S_congr)
set_option linter.unusedVariables false
set_option linter.unusedSimpArgs false
set_option maxRecDepth 8000
set_option maxHeartbeats 8000000
theorem mkg_le20 {kind n most : Int} {zs : List Int} : (∀ i, i < (mkg kind n zs most).la → (mkg kind n zs most).A i ≤ 20) ∧ (∀ i, i < (mkg kind n zs most).lg → (mkg kind n zs most).G i ≤ 20) := by
  have wG : ∀ (zs : List Int) (a b c i : Nat), mkL zs a b c 0 (a + b + i) ≤ 20 := fun zs a b c i => by
    unfold mkL
    rw [if_neg (by omega), if_neg (by omega)]
    exact (smal_le _).2
  have wA : ∀ (zs : List Int) (a b c i : Nat), i < a → mkL zs a b c 0 (0 + i) ≤ 20 := fun zs a b c i hi => by
    rw [Nat.zero_add, mkL_A hi]; exact (smal_le _).2
  exact ⟨fun i hi => wA _ _ _ _ i hi, fun i _ => wG _ _ _ _ i⟩
theorem ok_le {g : GD} (h : g.OK) : g.la ≤ 1000 ∧ g.lb ≤ 1000 ∧ g.lg ≤ 1000 ∧ g.lh ≤ 1000 := by
  have key : ∀ i, i < 4 → g.len i ≤ 1000 := fun i hi => by
    have := (cfacts h hi).2.2.2.2.2
    obtain ⟨c0, c1, c2⟩ := cmap_le h.k1 h.k7 hi
    obtain ⟨p0, _⟩ := cmap_mul c0 h.n8 h.r3
    obtain ⟨p1, p2⟩ := cmap_mul (n := g.n) (r := g.r) ⟨c1.1, Int.le_trans c1.2 (by decide)⟩ h.n8 h.r3
    omega
  exact ⟨key 0 (by decide), key 1 (by decide), key 2 (by decide), key 3 (by decide)⟩
theorem row_turn {f : Nat → Rat} {g0 : Nat → RA} {w : Nat} (i : Nat) : updN (glue 0 g0 fun i => .q (f i)) w (.q 777) i = .q (if true = true ∧ i = w then 777 else f i) := by
  by_cases e : i = w
  · subst e; rw [updN_same, if_pos ⟨rfl, rfl⟩]
  · rw [updN_ne _ _ e, if_neg (fun h => e h.2)]
    unfold glue; rw [if_neg (Nat.not_lt_zero _), Nat.sub_zero]
theorem row_turn2 {f : Nat → Rat} {g0 : Nat → RA} {w : Nat} (i : Nat) : updN (glue 0 g0 fun i => .q (f i)) w (.q 777) i = .q (if false = false ∧ i = w then 777 else f i) := by
  by_cases e : i = w
  · subst e; rw [updN_same, if_pos ⟨rfl, rfl⟩]
  · rw [updN_ne _ _ e, if_neg (fun h => e h.2)]
    unfold glue; rw [if_neg (Nat.not_lt_zero _), Nat.sub_zero]
theorem row_left {f : Nat → Rat} {g0 : Nat → RA} {w : Nat} (i : Nat) : glue 0 g0 (fun i => .q (f i)) i = .q (if false = true ∧ i = w then 777 else f i) := by
  rw [if_neg (fun h => by cases h.1)]
  unfold glue; rw [if_neg (Nat.not_lt_zero _), Nat.sub_zero]
theorem row_left2 {f : Nat → Rat} {g0 : Nat → RA} {w : Nat} (i : Nat) : glue 0 g0 (fun i => .q (f i)) i = .q (if true = false ∧ i = w then 777 else f i) := by
  rw [if_neg (fun h => by cases h.1)]
  unfold glue; rw [if_neg (Nat.not_lt_zero _), Nat.sub_zero]
theorem k_gsame {kind n at' : Int} {zs ms : List Int} (hk : Fits .i64 kind) (hn : Fits .i64 n) (hz : AllFit zs) (hm : AllFit ms) (ha : Fits .i64 at') : Has Try.prog 9 [.i kind, .i n, .seq .i64 zs, .seq .i64 ms, .i at'] (.b true) := by
  have m1 := k_mk (kind := kind) (n := n) (most := 5) (zs := zs) hk hn hz (by decide) (by decide)
  have m2 := k_mk (kind := kind) (n := n) (most := 5) (zs := ms) hk hn hm (by decide) (by decide)
  have o := mkg_ok (kind := kind) (n := n) (zs := zs) (most := 5) (by decide) (by decide)
  have o2 := mkg_ok (kind := kind) (n := n) (zs := ms) (most := 5) (by decide) (by decide)
  have hne : ¬ 0 < (mkg kind n zs 5).la → 0 < (mkg kind n zs 5).lg := fun h => by
    obtain ⟨t0, t1, t2, t3⟩ := ok_lens o
    have k1 := o.k1; have k7 := o.k7; have n1 := o.n1
    have h6 : (mkg kind n zs 5).k = 6 := by
      rcases (show (mkg kind n zs 5).k = 1 ∨ (mkg kind n zs 5).k = 2 ∨ (mkg kind n zs 5).k = 3 ∨ (mkg kind n zs 5).k = 4 ∨ (mkg kind n zs 5).k = 5 ∨ (mkg kind n zs 5).k = 6 ∨ (mkg kind n zs 5).k = 7 by omega) with e | e | e | e | e | e | e
      · have := t0 (.inl e); omega
      · have := t0 (.inr e); omega
      · have := t1 (.inl e); omega
      · have := t1 (.inr (.inl e)); omega
      · have := t1 (.inr (.inr (.inl e))); omega
      · exact e
      · have := t1 (.inr (.inr (.inr e))); omega
    have hr := o.rk (by rw [h6]; rfl)
    have := (t3 (.inl h6)).1
    rw [this]
    exact Nat.mul_le_mul n1 hr
  obtain ⟨h20, hG20⟩ := mkg_le20 (kind := kind) (n := n) (zs := zs) (most := 5)
  have t : Shp (mkg kind n zs 5) (mkg kind n ms 5) := ⟨rfl, rfl, rfl, rfl, rfl, rfl, rfl, ok_le o, o.sm, o2.sm⟩
  generalize mkg kind n zs 5 = a at *
  generalize mkg kind n ms 5 = b at *
  have le := ok_le o
  have sAB := ge_sameb t
  have rAB := r5_sameb t
  have sAA := ge_sameb (shp_self o.sm le)
  have sBB := ge_sameb (shp_self o2.sm (ok_le o2))
  rw [sameB_self] at sAA sBB
  generalize sameB a b = q at *
  have q1 : decide (q ≠ q) = false := by simp
  have cx : ∀ p w, w < (if p = true then a.la else a.lg) → Has Try.prog 27 [a.v, (gX a p w).v] (.b false) ∧ Has Try.prog 27 [(gX a p w).v, a.v] (.b false) := fun p w hw => by
    have sx : (gX a p w).Sm := by
      refine ⟨fun i hi => ?_, o.sm.B, fun i hi => ?_, o.sm.H⟩
      · show wt (if p = true ∧ i = w then 777 else a.A i) ≤ 4
        split
        · decide
        · exact o.sm.A i hi
      · show wt (if p = false ∧ i = w then 777 else a.G i) ≤ 4
        split
        · decide
        · exact o.sm.G i hi
    have e1 := ge_sameb (g := a) (h := gX a p w) ⟨rfl, rfl, rfl, rfl, rfl, rfl, rfl, le, o.sm, sx⟩
    have e2 := ge_sameb (g := gX a p w) (h := a) ⟨rfl, rfl, rfl, rfl, rfl, rfl, rfl, le, sx, o.sm⟩
    obtain ⟨h1, h2⟩ := gX_ne hw h20 hG20
    rw [h1] at e1; rw [h2] at e2
    exact ⟨e1, e2⟩
  refine has_of Try.func9 (by kernel_rfl) rfl Try.ntmps9 Try.results9 rfl rfl rfl ?_
  repeat(first|refine run1p ?_|((with_reducible apply st_call);exact rfl;exact rfl;exact rfl;first|(exact k_known5))|((with_reducible apply st_callg);exact rfl;exact rfl;(first|exact rfl|assumption);exact rfl;exact rfl;exact rfl;first|(exact k_known5)))
  refine awp_no rfl rfl ?_
  cases q with
  | false =>
    repeat(first|refine run1p ?_|((with_reducible apply st_call);exact rfl;exact rfl;exact rfl;first|(exact m1)|(exact m2)|(exact Has.ag2 (u' := a.f) (v' := b.f) (g7 rfl rfl rfl rfl rfl rfl rfl) (g7 rfl rfl rfl rfl rfl rfl rfl) sAB)|(exact Has.ag2 (u' := a.f) (v' := b.f) (g7 rfl rfl rfl rfl rfl rfl rfl) (g7 rfl rfl rfl rfl rfl rfl rfl) rAB)|(exact Has.ag2 (u' := a.f) (v' := a.f) (g7 rfl rfl rfl rfl rfl rfl rfl) (g7 rfl rfl rfl rfl rfl rfl rfl) sAA)|(exact Has.ag2 (u' := b.f) (v' := b.f) (g7 rfl rfl rfl rfl rfl rfl rfl) (g7 rfl rfl rfl rfl rfl rfl rfl) sBB))|((with_reducible apply st_callg);exact rfl;exact rfl;(first|exact rfl|assumption);exact rfl;exact rfl;exact rfl;first|(exact m1)|(exact m2)|(exact Has.ag2 (u' := a.f) (v' := b.f) (g7 rfl rfl rfl rfl rfl rfl rfl) (g7 rfl rfl rfl rfl rfl rfl rfl) sAB)|(exact Has.ag2 (u' := a.f) (v' := b.f) (g7 rfl rfl rfl rfl rfl rfl rfl) (g7 rfl rfl rfl rfl rfl rfl rfl) rAB)|(exact Has.ag2 (u' := a.f) (v' := a.f) (g7 rfl rfl rfl rfl rfl rfl rfl) (g7 rfl rfl rfl rfl rfl rfl rfl) sAA)|(exact Has.ag2 (u' := b.f) (v' := b.f) (g7 rfl rfl rfl rfl rfl rfl rfl) (g7 rfl rfl rfl rfl rfl rfl rfl) sBB)))
    refine awp_no rfl rfl ?_
    refine run0p ?_
    by_cases hp : 0 < a.la
    · skip
      have hl : 0 < a.la := by omega
      obtain ⟨u1, u2⟩ := wthn_lt (a := at') (n := ((0 + a.la : Nat) : Int)) (by omega)
      have cw := k_within5 (a := at') (n := ((0 + a.la : Nat) : Int)) (by omega) (by omega)
      obtain ⟨e1, e2⟩ := cx true (wthn at' ((0 + a.la : Nat) : Int)).toNat (show _ < a.la by omega)
      refine awp_yes rfl (decide_eq_true (show (0 : Int) < ((0 + a.la : Nat) : Int) by omega)) ?_
      refine run3 ?_
      repeat(first|refine run4p ?_|((with_reducible apply st_call);exact rfl;exact rfl;exact rfl;first|(exact cw)|(exact hs_int 777 (by decide) (by decide)))|((with_reducible apply st_callg);exact rfl;exact rfl;(first|exact rfl|assumption);exact rfl;exact rfl;exact rfl;first|(exact cw)|(exact hs_int 777 (by decide) (by decide))))
      refine awp_imp ((imp_pub 13 3 rfl rfl (by decide) rfl rfl rfl (by decide)).trans ((imp_pub 13 5 rfl rfl (by decide) rfl rfl rfl (by decide)).trans (imp_id (e := [(11, .ptr 11 0 0), (13, .ptr 13 0 0)]) (h := [(11, (1, fun _ => .ones 24 7 a.ft)), (13, (1, fun _ => .ones 24 7 (gX a true (wthn at' ((0 + a.la : Nat) : Int)).toNat).ft))]) ?_ ?_))) ?_
      · exact eA
      · exact allh rfl (by decide) (bleo rfl fun _ _ => Le.id rfl) (fun i _ => a.ftok _ i) (allh rfl (by decide) (le7 (Le.id rfl) (Le.id rfl) (Le.id rfl) (Le.row (Nat.zero_add _) (fun i _ => row_turn i) fun h => h) (Le.id rfl) (Le.row (Nat.zero_add _) (fun i _ => row_left2 (w := (wthn at' ((0 + a.la : Nat) : Int)).toNat) i) fun h => h) (Le.id rfl)) (fun i _ => GD.ftok _ _ i) True.intro)
      repeat(first|refine run1p ?_|((with_reducible apply st_call);exact rfl;exact rfl;exact rfl;first|(exact Has.ag2 (u' := a.f) (v' := (gX a true (wthn at' ((0 + a.la : Nat) : Int)).toNat).f) (g7 rfl rfl rfl rfl rfl rfl rfl) (g7 rfl rfl rfl rfl rfl rfl rfl) e1)|(exact Has.ag2 (u' := (gX a true (wthn at' ((0 + a.la : Nat) : Int)).toNat).f) (v' := a.f) (g7 rfl rfl rfl rfl rfl rfl rfl) (g7 rfl rfl rfl rfl rfl rfl rfl) e2))|((with_reducible apply st_callg);exact rfl;exact rfl;(first|exact rfl|assumption);exact rfl;exact rfl;exact rfl;first|(exact Has.ag2 (u' := a.f) (v' := (gX a true (wthn at' ((0 + a.la : Nat) : Int)).toNat).f) (g7 rfl rfl rfl rfl rfl rfl rfl) (g7 rfl rfl rfl rfl rfl rfl rfl) e1)|(exact Has.ag2 (u' := (gX a true (wthn at' ((0 + a.la : Nat) : Int)).toNat).f) (v' := a.f) (g7 rfl rfl rfl rfl rfl rfl rfl) (g7 rfl rfl rfl rfl rfl rfl rfl) e2)))
      exact ⟨.inr rfl, _, Imp.refl _, .one (.tmp rfl)⟩
    · have hlg : 0 < a.lg := hne (by omega)
      have hl : 0 < a.lg := by omega
      obtain ⟨u1, u2⟩ := wthn_lt (a := at') (n := ((0 + a.lg : Nat) : Int)) (by omega)
      have cw := k_within5 (a := at') (n := ((0 + a.lg : Nat) : Int)) (by omega) (by omega)
      obtain ⟨e1, e2⟩ := cx false (wthn at' ((0 + a.lg : Nat) : Int)).toNat (show _ < a.lg by omega)
      refine awp_no rfl (decide_eq_false (show ¬ (0 : Int) < ((0 + a.la : Nat) : Int) by omega)) ?_
      refine run3 ?_
      repeat(first|refine run4p ?_|((with_reducible apply st_call);exact rfl;exact rfl;exact rfl;first|(exact cw)|(exact hs_int 777 (by decide) (by decide)))|((with_reducible apply st_callg);exact rfl;exact rfl;(first|exact rfl|assumption);exact rfl;exact rfl;exact rfl;first|(exact cw)|(exact hs_int 777 (by decide) (by decide))))
      refine awp_imp ((imp_pub 13 3 rfl rfl (by decide) rfl rfl rfl (by decide)).trans ((imp_pub 13 5 rfl rfl (by decide) rfl rfl rfl (by decide)).trans (imp_id (e := [(11, .ptr 11 0 0), (13, .ptr 13 0 0)]) (h := [(11, (1, fun _ => .ones 24 7 a.ft)), (13, (1, fun _ => .ones 24 7 (gX a false (wthn at' ((0 + a.lg : Nat) : Int)).toNat).ft))]) ?_ ?_))) ?_
      · exact eA
      · exact allh rfl (by decide) (bleo rfl fun _ _ => Le.id rfl) (fun i _ => a.ftok _ i) (allh rfl (by decide) (le7 (Le.id rfl) (Le.id rfl) (Le.id rfl) (Le.row (Nat.zero_add _) (fun i _ => row_left (w := (wthn at' ((0 + a.lg : Nat) : Int)).toNat) i) fun h => h) (Le.id rfl) (Le.row (Nat.zero_add _) (fun i _ => row_turn2 i) fun h => h) (Le.id rfl)) (fun i _ => GD.ftok _ _ i) True.intro)
      repeat(first|refine run1p ?_|((with_reducible apply st_call);exact rfl;exact rfl;exact rfl;first|(exact Has.ag2 (u' := a.f) (v' := (gX a false (wthn at' ((0 + a.lg : Nat) : Int)).toNat).f) (g7 rfl rfl rfl rfl rfl rfl rfl) (g7 rfl rfl rfl rfl rfl rfl rfl) e1)|(exact Has.ag2 (u' := (gX a false (wthn at' ((0 + a.lg : Nat) : Int)).toNat).f) (v' := a.f) (g7 rfl rfl rfl rfl rfl rfl rfl) (g7 rfl rfl rfl rfl rfl rfl rfl) e2))|((with_reducible apply st_callg);exact rfl;exact rfl;(first|exact rfl|assumption);exact rfl;exact rfl;exact rfl;first|(exact Has.ag2 (u' := a.f) (v' := (gX a false (wthn at' ((0 + a.lg : Nat) : Int)).toNat).f) (g7 rfl rfl rfl rfl rfl rfl rfl) (g7 rfl rfl rfl rfl rfl rfl rfl) e1)|(exact Has.ag2 (u' := (gX a false (wthn at' ((0 + a.lg : Nat) : Int)).toNat).f) (v' := a.f) (g7 rfl rfl rfl rfl rfl rfl rfl) (g7 rfl rfl rfl rfl rfl rfl rfl) e2)))
      exact ⟨.inr rfl, _, Imp.refl _, .one (.tmp rfl)⟩
  | true =>
    repeat(first|refine run1p ?_|((with_reducible apply st_call);exact rfl;exact rfl;exact rfl;first|(exact m1)|(exact m2)|(exact Has.ag2 (u' := a.f) (v' := b.f) (g7 rfl rfl rfl rfl rfl rfl rfl) (g7 rfl rfl rfl rfl rfl rfl rfl) sAB)|(exact Has.ag2 (u' := a.f) (v' := b.f) (g7 rfl rfl rfl rfl rfl rfl rfl) (g7 rfl rfl rfl rfl rfl rfl rfl) rAB)|(exact Has.ag2 (u' := a.f) (v' := a.f) (g7 rfl rfl rfl rfl rfl rfl rfl) (g7 rfl rfl rfl rfl rfl rfl rfl) sAA)|(exact Has.ag2 (u' := b.f) (v' := b.f) (g7 rfl rfl rfl rfl rfl rfl rfl) (g7 rfl rfl rfl rfl rfl rfl rfl) sBB))|((with_reducible apply st_callg);exact rfl;exact rfl;(first|exact rfl|assumption);exact rfl;exact rfl;exact rfl;first|(exact m1)|(exact m2)|(exact Has.ag2 (u' := a.f) (v' := b.f) (g7 rfl rfl rfl rfl rfl rfl rfl) (g7 rfl rfl rfl rfl rfl rfl rfl) sAB)|(exact Has.ag2 (u' := a.f) (v' := b.f) (g7 rfl rfl rfl rfl rfl rfl rfl) (g7 rfl rfl rfl rfl rfl rfl rfl) rAB)|(exact Has.ag2 (u' := a.f) (v' := a.f) (g7 rfl rfl rfl rfl rfl rfl rfl) (g7 rfl rfl rfl rfl rfl rfl rfl) sAA)|(exact Has.ag2 (u' := b.f) (v' := b.f) (g7 rfl rfl rfl rfl rfl rfl rfl) (g7 rfl rfl rfl rfl rfl rfl rfl) sBB)))
    refine awp_no rfl rfl ?_
    refine run0p ?_
    by_cases hp : 0 < a.la
    · skip
      have hl : 0 < a.la := by omega
      obtain ⟨u1, u2⟩ := wthn_lt (a := at') (n := ((0 + a.la : Nat) : Int)) (by omega)
      have cw := k_within5 (a := at') (n := ((0 + a.la : Nat) : Int)) (by omega) (by omega)
      obtain ⟨e1, e2⟩ := cx true (wthn at' ((0 + a.la : Nat) : Int)).toNat (show _ < a.la by omega)
      refine awp_yes rfl (decide_eq_true (show (0 : Int) < ((0 + a.la : Nat) : Int) by omega)) ?_
      refine run3 ?_
      repeat(first|refine run4p ?_|((with_reducible apply st_call);exact rfl;exact rfl;exact rfl;first|(exact cw)|(exact hs_int 777 (by decide) (by decide)))|((with_reducible apply st_callg);exact rfl;exact rfl;(first|exact rfl|assumption);exact rfl;exact rfl;exact rfl;first|(exact cw)|(exact hs_int 777 (by decide) (by decide))))
      refine awp_imp ((imp_pub 13 3 rfl rfl (by decide) rfl rfl rfl (by decide)).trans ((imp_pub 13 5 rfl rfl (by decide) rfl rfl rfl (by decide)).trans (imp_id (e := [(11, .ptr 11 0 0), (13, .ptr 13 0 0)]) (h := [(11, (1, fun _ => .ones 24 7 a.ft)), (13, (1, fun _ => .ones 24 7 (gX a true (wthn at' ((0 + a.la : Nat) : Int)).toNat).ft))]) ?_ ?_))) ?_
      · exact eA
      · exact allh rfl (by decide) (bleo rfl fun _ _ => Le.id rfl) (fun i _ => a.ftok _ i) (allh rfl (by decide) (le7 (Le.id rfl) (Le.id rfl) (Le.id rfl) (Le.row (Nat.zero_add _) (fun i _ => row_turn i) fun h => h) (Le.id rfl) (Le.row (Nat.zero_add _) (fun i _ => row_left2 (w := (wthn at' ((0 + a.la : Nat) : Int)).toNat) i) fun h => h) (Le.id rfl)) (fun i _ => GD.ftok _ _ i) True.intro)
      repeat(first|refine run1p ?_|((with_reducible apply st_call);exact rfl;exact rfl;exact rfl;first|(exact Has.ag2 (u' := a.f) (v' := (gX a true (wthn at' ((0 + a.la : Nat) : Int)).toNat).f) (g7 rfl rfl rfl rfl rfl rfl rfl) (g7 rfl rfl rfl rfl rfl rfl rfl) e1)|(exact Has.ag2 (u' := (gX a true (wthn at' ((0 + a.la : Nat) : Int)).toNat).f) (v' := a.f) (g7 rfl rfl rfl rfl rfl rfl rfl) (g7 rfl rfl rfl rfl rfl rfl rfl) e2))|((with_reducible apply st_callg);exact rfl;exact rfl;(first|exact rfl|assumption);exact rfl;exact rfl;exact rfl;first|(exact Has.ag2 (u' := a.f) (v' := (gX a true (wthn at' ((0 + a.la : Nat) : Int)).toNat).f) (g7 rfl rfl rfl rfl rfl rfl rfl) (g7 rfl rfl rfl rfl rfl rfl rfl) e1)|(exact Has.ag2 (u' := (gX a true (wthn at' ((0 + a.la : Nat) : Int)).toNat).f) (v' := a.f) (g7 rfl rfl rfl rfl rfl rfl rfl) (g7 rfl rfl rfl rfl rfl rfl rfl) e2)))
      exact ⟨.inr rfl, _, Imp.refl _, .one (.tmp rfl)⟩
    · have hlg : 0 < a.lg := hne (by omega)
      have hl : 0 < a.lg := by omega
      obtain ⟨u1, u2⟩ := wthn_lt (a := at') (n := ((0 + a.lg : Nat) : Int)) (by omega)
      have cw := k_within5 (a := at') (n := ((0 + a.lg : Nat) : Int)) (by omega) (by omega)
      obtain ⟨e1, e2⟩ := cx false (wthn at' ((0 + a.lg : Nat) : Int)).toNat (show _ < a.lg by omega)
      refine awp_no rfl (decide_eq_false (show ¬ (0 : Int) < ((0 + a.la : Nat) : Int) by omega)) ?_
      refine run3 ?_
      repeat(first|refine run4p ?_|((with_reducible apply st_call);exact rfl;exact rfl;exact rfl;first|(exact cw)|(exact hs_int 777 (by decide) (by decide)))|((with_reducible apply st_callg);exact rfl;exact rfl;(first|exact rfl|assumption);exact rfl;exact rfl;exact rfl;first|(exact cw)|(exact hs_int 777 (by decide) (by decide))))
      refine awp_imp ((imp_pub 13 3 rfl rfl (by decide) rfl rfl rfl (by decide)).trans ((imp_pub 13 5 rfl rfl (by decide) rfl rfl rfl (by decide)).trans (imp_id (e := [(11, .ptr 11 0 0), (13, .ptr 13 0 0)]) (h := [(11, (1, fun _ => .ones 24 7 a.ft)), (13, (1, fun _ => .ones 24 7 (gX a false (wthn at' ((0 + a.lg : Nat) : Int)).toNat).ft))]) ?_ ?_))) ?_
      · exact eA
      · exact allh rfl (by decide) (bleo rfl fun _ _ => Le.id rfl) (fun i _ => a.ftok _ i) (allh rfl (by decide) (le7 (Le.id rfl) (Le.id rfl) (Le.id rfl) (Le.row (Nat.zero_add _) (fun i _ => row_left (w := (wthn at' ((0 + a.lg : Nat) : Int)).toNat) i) fun h => h) (Le.id rfl) (Le.row (Nat.zero_add _) (fun i _ => row_turn2 i) fun h => h) (Le.id rfl)) (fun i _ => GD.ftok _ _ i) True.intro)
      repeat(first|refine run1p ?_|((with_reducible apply st_call);exact rfl;exact rfl;exact rfl;first|(exact Has.ag2 (u' := a.f) (v' := (gX a false (wthn at' ((0 + a.lg : Nat) : Int)).toNat).f) (g7 rfl rfl rfl rfl rfl rfl rfl) (g7 rfl rfl rfl rfl rfl rfl rfl) e1)|(exact Has.ag2 (u' := (gX a false (wthn at' ((0 + a.lg : Nat) : Int)).toNat).f) (v' := a.f) (g7 rfl rfl rfl rfl rfl rfl rfl) (g7 rfl rfl rfl rfl rfl rfl rfl) e2))|((with_reducible apply st_callg);exact rfl;exact rfl;(first|exact rfl|assumption);exact rfl;exact rfl;exact rfl;first|(exact Has.ag2 (u' := a.f) (v' := (gX a false (wthn at' ((0 + a.lg : Nat) : Int)).toNat).f) (g7 rfl rfl rfl rfl rfl rfl rfl) (g7 rfl rfl rfl rfl rfl rfl rfl) e1)|(exact Has.ag2 (u' := (gX a false (wthn at' ((0 + a.lg : Nat) : Int)).toNat).f) (v' := a.f) (g7 rfl rfl rfl rfl rfl rfl rfl) (g7 rfl rfl rfl rfl rfl rfl rfl) e2)))
      exact ⟨.inr rfl, _, Imp.refl _, .one (.tmp rfl)⟩
end Go.Proofs.Ytjngpgpgajkieaa.AM

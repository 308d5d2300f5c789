/- Joined texts, 18: GenB Zer GenC GenD GenE Sml LawB RowO. -/
import Derived.Test.YtpclkgjhfhhddaaJLawGenChecks17
import Derived.Test.YtpclkgjhfhhddaaJLawGenChecks12
import Derived.Test.YtpclkgjhfhhddaaJLawGenChecks13
set_option linter.unusedVariables false
set_option linter.unusedSimpArgs false
/- Package gen: a system is right. -/
namespace Go.Proofs.Ytpclkgjhfhhddaa.AM
open Go Go.RowKit Go.Proofs.Ytpclkgjhfhhddaa.PN Go.Proofs.Ytpclkgjhfhhddaa.V
set_option linter.unusedVariables false
set_option linter.unusedSimpArgs false
set_option maxRecDepth 8000
set_option maxHeartbeats 8000000
/-- No number of a row is asked for. -/
theorem g_index {n m : Nat} {q : Nat → RA} {f : FuncId} {c : Nat → AV} (hc : (AV.clo f m c).closed = true) (hn : n ≤ 1000000) (h : ∀ i, i < n → Has Try.prog f (([AV.ra (q i)] ++ (List.range m).map c).map AV.old) (.b false)) :
    Has Try.prog 78 [.row false n q, .clo f m c] (.i (-1)) := by
  refine has_of Try.func78 (by kernel_rfl) rfl Try.ntmps78 Try.results78 (by show (true && ((AV.clo f m c).closed && true)) = true; rw [hc]; rfl) rfl rfl ?_
  refine run0p ?_
  refine awp_loop (fun m' s => ∃ k, k ≤ n ∧ m' = n - k ∧ s = stl [(0, .row false n q), (1, .clo f m c), (7, .i n), (8, .i (k : Int))] []) n _ (imp_id ?_ ?_) ⟨0, Nat.zero_le _, rfl, rfl⟩ ?_
  · refine alle rfl (Le.id rfl) True.intro (alle rfl (Le.id rfl) (ok_none (closed_ok hc)) ?_)
    exact eA
  · exact hA
  · rintro m' s ⟨k, hk, rfl, rfl⟩
    refine run0p ?_
    refine awp_if rfl (fun h' => ?_) (fun h' => ?_)
    · have hk' : k < n := by omega
      repeat(first|refine run1p ?_|((with_reducible apply st_call);exact rfl;exact rfl;exact rfl;first|(exact h k hk'))|((with_reducible apply st_callg);exact rfl;exact rfl;(first|exact rfl|assumption);exact rfl;exact rfl;exact rfl;first|(exact h k hk')))
      refine awp_no rfl rfl ?_
      refine run0p ?_
      refine q_loop ?_ (imp_id ?_ ?_) ⟨k + 1, ?_, rfl, rfl⟩
      · omega
      · refine alle rfl (Le.id rfl) True.intro (alle rfl (Le.id rfl) (ok_none (closed_ok hc)) ?_)
        exact eA
      · exact hA
      · omega
    · refine run0p ?_
      exact ⟨.inr rfl, _, Imp.refl _, .one (.tmp rfl)⟩
theorem g_contains {n m : Nat} {q : Nat → RA} {f : FuncId} {c : Nat → AV} (hc : (AV.clo f m c).closed = true) (hc2 : (AV.clo f m fun i => (c i).old).closed = true) (hn : n ≤ 1000000) (h : ∀ i, i < n → Has Try.prog f (([AV.ra (q i)] ++ (List.range m).map fun i => (c i).old).map AV.old) (.b false)) :
    Has Try.prog 51 [.row false n q, .clo f m c] (.b false) := by
  refine has_of Try.func51 (by kernel_rfl) rfl Try.ntmps51 Try.results51 (by show (true && ((AV.clo f m c).closed && true)) = true; rw [hc]; rfl) rfl rfl ?_
  have H := g_index hc2 hn h
  repeat(first|refine run1p ?_|((with_reducible apply st_call);exact rfl;exact rfl;exact rfl;first|(exact H))|((with_reducible apply st_callg);exact rfl;exact rfl;(first|exact rfl|assumption);exact rfl;exact rfl;exact rfl;first|(exact H)))
  exact ⟨.inr rfl, _, Imp.refl _, .one (.tmp rfl)⟩
theorem rv_fn {S : Nat → Prop} {B : Nat} {β : Nat → Nat → Value} {w : World} {f : FuncId} {c : Nat → AV} (v : Value) (hv : RV S B β w (.v (.func (.func f) #[] #[])) v) : RV S B β w (.clo f 0 c) v :=
  ⟨#[], hv, rfl, fun i hi => absurd hi (Nat.not_lt_zero _)⟩
theorem g_contains0 {n : Nat} {q : Nat → RA} {f : FuncId} (hn : n ≤ 1000000) (h : ∀ i, i < n → Has Try.prog f [(AV.ra (q i)).old] (.b false)) :
    Has Try.prog 51 [.row false n q, .v (.func (.func f) #[] #[])] (.b false) :=
  Has.args (g_contains (m := 0) (c := fun _ => .v undef) rfl rfl hn h) fun S B β w vs hv => rvs_cons (fun v hv => hv) (fun us hu => rvs_cons rv_fn (fun us hu => hu) hu) hv
theorem rv_clo {S : Nat → Prop} {B : Nat} {β : Nat → Nat → Value} {w : World} {n : Nat} {f : FuncId} {c c' : Nat → AV} (h : ∀ i, i < n → c i = c' i) (v : Value) (hv : RV S B β w (.clo f n c) v) : RV S B β w (.clo f n c') v := by
  obtain ⟨cap, e1, e2, e3⟩ := hv
  refine ⟨cap, e1, e2, fun i hi => ?_⟩
  obtain ⟨y, a0, a1⟩ := e3 i hi
  exact ⟨y, a0, h i hi ▸ a1⟩
theorem Has.clo2 {P : Program} {f g : FuncId} {n : Nat} {u u' : Nat → AV} {x r : AV} (h : ∀ i, i < n → u i = u' i) (H : Has P f [x, .clo g n u'] r) : Has P f [x, .clo g n u] r :=
  Has.args H fun S B β w vs hv => rvs_cons (fun v hv => hv) (fun us hu => rvs_cons (rv_clo h) rvs_same hu) hv
theorem one1 {f f' : Nat → AV} (h : f 0 = f' 0) : ∀ i, i < 1 → f i = f' i := fun i hi => by
  obtain rfl : i = 0 := by omega
  exact h
theorem cfacts {g : GD} (h : g.OK) {i : Nat} (hi : i < 4) : Fits .i64 (mpz (cmap g.k i) 0 * g.n) ∧ Fits .i64 (mpz (cmap g.k i) 1 * g.n) ∧ Fits .i64 (mpz (cmap g.k i) 1 * g.n * g.r) ∧ Fits .i64 (mpz (cmap g.k i) 0 * g.n + mpz (cmap g.k i) 1 * g.n * g.r) ∧
    Fits .i64 (mpz (cmap g.k i) 0 * g.n + mpz (cmap g.k i) 1 * g.n * g.r + mpz (cmap g.k i) 2) ∧ ((g.len i : Nat) : Int) = mpz (cmap g.k i) 0 * g.n + mpz (cmap g.k i) 1 * g.n * g.r + mpz (cmap g.k i) 2 := by
  obtain ⟨c0, c1, c2⟩ := cmap_le h.k1 h.k7 hi
  obtain ⟨p0, _⟩ := cmap_mul c0 h.n8 h.r3
  obtain ⟨p1, p2⟩ := cmap_mul (n := g.n) (r := g.r) ⟨c1.1, Int.le_trans c1.2 (by decide)⟩ h.n8 h.r3
  refine ⟨?_, ?_, ?_, ?_, ?_, h.len i hi⟩ <;> (simp only [Fits]; omega)
theorem GD.OK.lenle {g : GD} (h : g.OK) (i : Nat) (hi : i < 4) : g.len i ≤ 1000000 := by
  have := (cfacts h hi).2.2.2.2.2
  obtain ⟨c0, c1, c2⟩ := cmap_le h.k1 h.k7 hi
  obtain ⟨p0, _⟩ := cmap_mul c0 h.n8 h.r3
  obtain ⟨p1, p2⟩ := cmap_mul (n := g.n) (r := g.r) ⟨c1.1, Int.le_trans c1.2 (by decide)⟩ h.n8 h.r3
  omega
/-- A system that is right. -/
theorem g_check {g : GD} (h : g.OK) : Has Try.prog 22 [g.v] (.i 0) := by
  have n1 := h.n1; have n8 := h.n8; have r3 := h.r3; have k1 := h.k1; have k7 := h.k7
  have e0 : decide ((g.k : Int) < 1) = false := decide_eq_false (by omega)
  have e1 : (decide ((g.k : Int) < 1) == false) = true := by rw [e0]; rfl
  have e2 : decide ((7 : Int) < g.k) = false := decide_eq_false (by omega)
  refine has_of Try.func22 (by kernel_rfl) rfl Try.ntmps22 Try.results22 rfl rfl rfl ?_
  refine run0p ?_
  refine awp_no rfl e2 ?_
  repeat(first|refine run1p ?_|((with_reducible apply st_call);exact rfl;exact rfl;exact rfl;first|(exact Has.ag (g7 rfl rfl rfl rfl rfl rfl rfl) (g_sized h)))|((with_reducible apply st_callg);exact rfl;exact rfl;(first|exact rfl|assumption);exact rfl;exact rfl;exact rfl;first|(exact Has.ag (g7 rfl rfl rfl rfl rfl rfl rfl) (g_sized h))))
  refine awp_no rfl rfl ?_
  repeat(first|refine run1p ?_|((with_reducible apply st_call);exact rfl;exact rfl;exact rfl;first|(exact Has.ag (g7 rfl rfl rfl rfl rfl rfl rfl) (g_rows g))|(exact V.c_counts))|((with_reducible apply st_callg);exact rfl;exact rfl;(first|exact rfl|assumption);exact rfl;exact rfl;exact rfl;first|(exact Has.ag (g7 rfl rfl rfl rfl rfl rfl rfl) (g_rows g))|(exact V.c_counts)))
  refine awp_loop (fun m' s => ∃ k, k ≤ 4 ∧ m' = 4 - k ∧ s = stl [(1, .ptr 1 0 0), (3, .ptr 3 0 0), (4, .mp cmap), (28, .ag 4 g.rw), (29, .i (k : Int))] [(1, (1, fun _ => .ones 26 7 g.f)), (3, (1, fun _ => .ones 68 4 g.rw))]) 4 _ (imp_id ?_ ?_) ⟨0, by omega, rfl, rfl⟩ ?_
  · refine alle rfl (Le.id rfl) rfl (alle rfl (Le.id rfl) rfl (alle rfl (Le.id rfl) True.intro (alle rfl (Le.id rfl) (fun i _ => g.rok _ i) ?_)))
    exact eA
  · refine allh rfl (by decide) (bleo rfl fun _ _ => Le.id rfl) (fun i _ => g.fok _ i) (allh rfl (by decide) (bleo rfl fun _ _ => Le.id rfl) (fun i _ => g.rok _ i) True.intro)
  · rintro m' s ⟨k, hk, rfl, rfl⟩
    match k, hk with
    | 0, _ =>
      obtain ⟨⟨a0, b0⟩, ⟨a1, b1⟩, ⟨a2, b2⟩, ⟨a3, b3⟩, ⟨a4, b4⟩, hl⟩ := cfacts h (i := 0) (by omega)
      have hl2 : decide (((g.len 0 : Nat) : Int) ≠ mpz (cmap g.k (0 : Nat)) 0 * g.n + mpz (cmap g.k (0 : Nat)) 1 * g.n * g.r + mpz (cmap g.k (0 : Nat)) 2) = false := decide_eq_false fun hx => hx hl
      refine run0p ?_
      refine awp_yes rfl rfl ?_
      refine run0p ?_
      refine awp_no rfl hl2 ?_
      refine run0p ?_
      refine q_loop ?_ (imp_id ?_ ?_) ⟨1, ?_, rfl, rfl⟩
      · decide
      · refine alle rfl (Le.id rfl) rfl (alle rfl (Le.id rfl) rfl (alle rfl (Le.id rfl) True.intro (alle rfl (Le.id rfl) (fun i _ => g.rok _ i) ?_)))
        exact eA
      · refine allh rfl (by decide) (bleo rfl fun _ _ => Le.id rfl) (fun i _ => g.fok _ i) (allh rfl (by decide) (bleo rfl fun _ _ => Le.id rfl) (fun i _ => g.rok _ i) True.intro)
      · decide
    | 1, _ =>
      obtain ⟨⟨a0, b0⟩, ⟨a1, b1⟩, ⟨a2, b2⟩, ⟨a3, b3⟩, ⟨a4, b4⟩, hl⟩ := cfacts h (i := 1) (by omega)
      have hl2 : decide (((g.len 1 : Nat) : Int) ≠ mpz (cmap g.k (1 : Nat)) 0 * g.n + mpz (cmap g.k (1 : Nat)) 1 * g.n * g.r + mpz (cmap g.k (1 : Nat)) 2) = false := decide_eq_false fun hx => hx hl
      refine run0p ?_
      refine awp_yes rfl rfl ?_
      refine run0p ?_
      refine awp_no rfl hl2 ?_
      refine run0p ?_
      refine q_loop ?_ (imp_id ?_ ?_) ⟨2, ?_, rfl, rfl⟩
      · decide
      · refine alle rfl (Le.id rfl) rfl (alle rfl (Le.id rfl) rfl (alle rfl (Le.id rfl) True.intro (alle rfl (Le.id rfl) (fun i _ => g.rok _ i) ?_)))
        exact eA
      · refine allh rfl (by decide) (bleo rfl fun _ _ => Le.id rfl) (fun i _ => g.fok _ i) (allh rfl (by decide) (bleo rfl fun _ _ => Le.id rfl) (fun i _ => g.rok _ i) True.intro)
      · decide
    | 2, _ =>
      obtain ⟨⟨a0, b0⟩, ⟨a1, b1⟩, ⟨a2, b2⟩, ⟨a3, b3⟩, ⟨a4, b4⟩, hl⟩ := cfacts h (i := 2) (by omega)
      have hl2 : decide (((g.len 2 : Nat) : Int) ≠ mpz (cmap g.k (2 : Nat)) 0 * g.n + mpz (cmap g.k (2 : Nat)) 1 * g.n * g.r + mpz (cmap g.k (2 : Nat)) 2) = false := decide_eq_false fun hx => hx hl
      refine run0p ?_
      refine awp_yes rfl rfl ?_
      refine run0p ?_
      refine awp_no rfl hl2 ?_
      refine run0p ?_
      refine q_loop ?_ (imp_id ?_ ?_) ⟨3, ?_, rfl, rfl⟩
      · decide
      · refine alle rfl (Le.id rfl) rfl (alle rfl (Le.id rfl) rfl (alle rfl (Le.id rfl) True.intro (alle rfl (Le.id rfl) (fun i _ => g.rok _ i) ?_)))
        exact eA
      · refine allh rfl (by decide) (bleo rfl fun _ _ => Le.id rfl) (fun i _ => g.fok _ i) (allh rfl (by decide) (bleo rfl fun _ _ => Le.id rfl) (fun i _ => g.rok _ i) True.intro)
      · decide
    | 3, _ =>
      obtain ⟨⟨a0, b0⟩, ⟨a1, b1⟩, ⟨a2, b2⟩, ⟨a3, b3⟩, ⟨a4, b4⟩, hl⟩ := cfacts h (i := 3) (by omega)
      have hl2 : decide (((g.len 3 : Nat) : Int) ≠ mpz (cmap g.k (3 : Nat)) 0 * g.n + mpz (cmap g.k (3 : Nat)) 1 * g.n * g.r + mpz (cmap g.k (3 : Nat)) 2) = false := decide_eq_false fun hx => hx hl
      refine run0p ?_
      refine awp_yes rfl rfl ?_
      refine run0p ?_
      refine awp_no rfl hl2 ?_
      refine run0p ?_
      refine q_loop ?_ (imp_id ?_ ?_) ⟨4, ?_, rfl, rfl⟩
      · decide
      · refine alle rfl (Le.id rfl) rfl (alle rfl (Le.id rfl) rfl (alle rfl (Le.id rfl) True.intro (alle rfl (Le.id rfl) (fun i _ => g.rok _ i) ?_)))
        exact eA
      · refine allh rfl (by decide) (bleo rfl fun _ _ => Le.id rfl) (fun i _ => g.fok _ i) (allh rfl (by decide) (bleo rfl fun _ _ => Le.id rfl) (fun i _ => g.rok _ i) True.intro)
      · decide
    | 4, _ =>
      refine run0p ?_
      refine awp_no rfl rfl ?_
      refine run0p ?_
      refine awp_loop (fun m' s => ∃ k, k ≤ 4 ∧ m' = 4 - k ∧ s = stl [(1, .ptr 1 0 0), (60, .ag 4 g.rw), (61, .i (k : Int))] [(1, (1, fun _ => .ones 26 7 g.f))]) 4 _ (imp_id ?_ ?_) ⟨0, by omega, rfl, rfl⟩ ?_
      · refine alle rfl (Le.id rfl) rfl (alle rfl (Le.id rfl) (fun i _ => g.rok _ i) ?_)
        exact eA
      · refine allh rfl (by decide) (bleo rfl fun _ _ => Le.id rfl) (fun i _ => g.fok _ i) True.intro
      · rintro m' s ⟨k, hk, rfl, rfl⟩
        match k, hk with
        | 0, _ =>
          have c := g_contains0 (f := 52) (n := g.la) (q := fun i => .q (g.A i)) (h.lenle 0 (by omega)) fun i hi => g_bad (h.sm.A i hi)
          refine run0p ?_
          refine awp_yes rfl rfl ?_
          repeat(first|refine run1p ?_|((with_reducible apply st_call);exact rfl;exact rfl;exact rfl;first|(exact c))|((with_reducible apply st_callg);exact rfl;exact rfl;(first|exact rfl|assumption);exact rfl;exact rfl;exact rfl;first|(exact c)))
          refine awp_no rfl rfl ?_
          refine run0p ?_
          refine q_loop ?_ (imp_id ?_ ?_) ⟨1, ?_, rfl, rfl⟩
          · decide
          · refine alle rfl (Le.id rfl) rfl (alle rfl (Le.id rfl) (fun i _ => g.rok _ i) ?_)
            exact eA
          · refine allh rfl (by decide) (bleo rfl fun _ _ => Le.id rfl) (fun i _ => g.fok _ i) True.intro
          · decide
        | 1, _ =>
          have c := g_contains0 (f := 52) (n := g.lb) (q := fun i => .q (g.B i)) (h.lenle 1 (by omega)) fun i hi => g_bad (h.sm.B i hi)
          refine run0p ?_
          refine awp_yes rfl rfl ?_
          repeat(first|refine run1p ?_|((with_reducible apply st_call);exact rfl;exact rfl;exact rfl;first|(exact c))|((with_reducible apply st_callg);exact rfl;exact rfl;(first|exact rfl|assumption);exact rfl;exact rfl;exact rfl;first|(exact c)))
          refine awp_no rfl rfl ?_
          refine run0p ?_
          refine q_loop ?_ (imp_id ?_ ?_) ⟨2, ?_, rfl, rfl⟩
          · decide
          · refine alle rfl (Le.id rfl) rfl (alle rfl (Le.id rfl) (fun i _ => g.rok _ i) ?_)
            exact eA
          · refine allh rfl (by decide) (bleo rfl fun _ _ => Le.id rfl) (fun i _ => g.fok _ i) True.intro
          · decide
        | 2, _ =>
          have c := g_contains0 (f := 52) (n := g.lg) (q := fun i => .q (g.G i)) (h.lenle 2 (by omega)) fun i hi => g_bad (h.sm.G i hi)
          refine run0p ?_
          refine awp_yes rfl rfl ?_
          repeat(first|refine run1p ?_|((with_reducible apply st_call);exact rfl;exact rfl;exact rfl;first|(exact c))|((with_reducible apply st_callg);exact rfl;exact rfl;(first|exact rfl|assumption);exact rfl;exact rfl;exact rfl;first|(exact c)))
          refine awp_no rfl rfl ?_
          refine run0p ?_
          refine q_loop ?_ (imp_id ?_ ?_) ⟨3, ?_, rfl, rfl⟩
          · decide
          · refine alle rfl (Le.id rfl) rfl (alle rfl (Le.id rfl) (fun i _ => g.rok _ i) ?_)
            exact eA
          · refine allh rfl (by decide) (bleo rfl fun _ _ => Le.id rfl) (fun i _ => g.fok _ i) True.intro
          · decide
        | 3, _ =>
          have c := g_contains0 (f := 52) (n := g.lh) (q := fun i => .q (g.H i)) (h.lenle 3 (by omega)) fun i hi => g_bad (h.sm.H i hi)
          refine run0p ?_
          refine awp_yes rfl rfl ?_
          repeat(first|refine run1p ?_|((with_reducible apply st_call);exact rfl;exact rfl;exact rfl;first|(exact c))|((with_reducible apply st_callg);exact rfl;exact rfl;(first|exact rfl|assumption);exact rfl;exact rfl;exact rfl;first|(exact c)))
          refine awp_no rfl rfl ?_
          refine run0p ?_
          refine q_loop ?_ (imp_id ?_ ?_) ⟨4, ?_, rfl, rfl⟩
          · decide
          · refine alle rfl (Le.id rfl) rfl (alle rfl (Le.id rfl) (fun i _ => g.rok _ i) ?_)
            exact eA
          · refine allh rfl (by decide) (bleo rfl fun _ _ => Le.id rfl) (fun i _ => g.fok _ i) True.intro
          · decide
        | 4, _ =>
          refine run0p ?_
          refine awp_no rfl rfl ?_
          refine run0p ?_
          refine awp_loop (fun m' s => ∃ k, k ≤ g.la ∧ m' = g.la - k ∧ s = stl [(1, .ptr 1 0 0), (68, .row false g.la (fun i => .q (g.A i))), (69, .i g.la), (70, .i (k : Int))] [(1, (1, fun _ => .ones 26 7 g.f))]) g.la _ (imp_id ?_ ?_) ⟨0, Nat.zero_le _, rfl, rfl⟩ ?_
          · refine alle rfl (Le.id rfl) rfl ?_
            exact eA
          · refine allh rfl (by decide) (bleo rfl fun _ _ => Le.id rfl) (fun i _ => g.fok _ i) True.intro
          · rintro m' s ⟨k, hk, rfl, rfl⟩
            have hla : g.la ≤ 1000000 := h.lenle 0 (by omega)
            refine run0p ?_
            refine awp_if rfl (fun h' => ?_) (fun h' => ?_)
            · have hk' : k < g.la := by omega
              have w1 := h.sm.A k hk'
              have c := g_contains (f := 54) (m := 1) (c := fun i => [AV.rp (.q (g.A k))].getD i (.v undef)) (n := g.lb) (q := fun i => .q (g.B i)) rfl rfl (h.lenle 1 (by omega)) fun i hi => by
                have e := g_eqs (p := g.A k) (q := g.B i) (by omega) (by have := h.sm.B i hi; omega)
                rw [decide_eq_false (h.ne k hk' i hi)] at e
                exact e
              refine run3 ?_
              repeat(first|refine run4p ?_)
              refine awp_imp (imp_rp 11 rfl rfl rfl) ?_
              repeat(first|refine run1p ?_|((with_reducible apply st_call);exact rfl;exact rfl;exact rfl;first|(exact Has.clo2 (one1 rfl) c))|((with_reducible apply st_callg);exact rfl;exact rfl;(first|exact rfl|assumption);exact rfl;exact rfl;exact rfl;first|(exact Has.clo2 (one1 rfl) c)))
              refine awp_no rfl rfl ?_
              refine run0p ?_
              refine q_loop ?_ (imp_id ?_ ?_) ⟨k + 1, ?_, rfl, rfl⟩
              · omega
              · refine alle rfl (Le.id rfl) rfl ?_
                exact eA
              · refine allh rfl (by decide) (bleo rfl fun _ _ => Le.id rfl) (fun i _ => g.fok _ i) True.intro
              · omega
            · refine run0p ?_
              exact ⟨.inr rfl, _, Imp.refl _, .one (.tmp rfl)⟩
end Go.Proofs.Ytpclkgjhfhhddaa.AM
/- Dense matrices: walks: numbers, sums of products. -/
namespace Go.Proofs.Ytpclkgjhfhhddaa.AM
open Go Go.RowKit Go.Proofs.Ytpclkgjhfhhddaa.PN Go.Proofs.Ytpclkgjhfhhddaa.V
open Go.Proofs.Ytpclkgjhfhhddaa.LA (S S_succ S_zero S_congr)
set_option linter.unusedVariables false
set_option linter.unusedSimpArgs false
theorem lb_one {w : World} {v : Value} {S : Nat → Prop} (hS : ∀ b, S b) (h : Lbs w v [1]) : NatS w S v 1 := by
  obtain ⟨A, c, rfl, hc, hx⟩ := h
  refine ⟨A, c, rfl, hc, fun i hi => ?_⟩
  obtain ⟨b, off, cs, e1, e2, e3⟩ := hx i hi
  have hi : i < 1 := hi
  obtain rfl : i = 0 := by omega
  exact ⟨b, off, cs, e1, hS b, e2, by rw [e3]; congr 2⟩
theorem rv_zero {S : Nat → Prop} {B : Nat} {β : Nat → Nat → Value} {w : World} {v : Value} (h : RV S B β w (.ra (.raw false [] [1])) v) : RV S B β w (.q 0) v := by
  obtain ⟨s, vn, vd, rfl, h1, h2, h3⟩ := h
  refine ⟨s, vn, vd, rfl, h1, ?_, lb_one (fun _ => trivial) h3⟩
  obtain ⟨A, c, rfl, hc, hx⟩ := h2
  exact ⟨A, c, rfl, hc, fun i hi => absurd hi (Nat.not_lt_zero _)⟩
theorem rv_one {S : Nat → Prop} {B : Nat} {β : Nat → Nat → Value} {w : World} {v : Value} (h : RV S B β w (.ra (.raw false [1] [1])) v) : RV S B β w (.q 1) v := by
  obtain ⟨s, vn, vd, rfl, h1, h2, h3⟩ := h
  exact ⟨s, vn, vd, rfl, h1, lb_one (fun _ => trivial) h2, lb_one (fun _ => trivial) h3⟩
theorem Has.imp {f : FuncId} {xs : List AV} {r r' : AV} (h : Has Try.prog f xs r) (hc : r'.closed = true) (k : ∀ S B β w v, RV S B β w r v → RV S B β w r' v) : Has Try.prog f xs r' :=
  ⟨h.b, closed_ok hc, fun w S β vs hv => (h.run w S β vs hv).mono fun e w' ⟨v, he, hk, hr⟩ => ⟨v, he, hk, k _ _ _ _ _ hr⟩⟩
def joinQ (s1 : St) (e : Exit) (s' : St) : Prop := e = .normal ∧ Imp s' s1
theorem awp_join {P : Program} {M : Nat} {c y : Code} {Q : Exit → St → Prop} {s : St} (s1 : St) (h : AWP P M c (joinQ s1) s) (k : AWP P M y Q s1) : AWP P M c (thenQ P M y Q) s :=
  awp_mono h fun e s' ⟨he, hi⟩ => by subst he; exact awp_imp hi k
end Go.Proofs.Ytpclkgjhfhhddaa.AM
/- Package gen: entries. -/
namespace Go.Proofs.Ytpclkgjhfhhddaa.AM
open Go Go.RowKit Go.Proofs.Ytpclkgjhfhhddaa.PN Go.Proofs.Ytpclkgjhfhhddaa.V
open Go.Proofs.Ytpclkgjhfhhddaa.LA (S S_succ S_zero S_congr)
set_option linter.unusedVariables false
set_option linter.unusedSimpArgs false
set_option maxRecDepth 8000
set_option maxHeartbeats 8000000
theorem wt_sum {n K : Nat} {f : Nat → Rat} (h : ∀ i, i < n → wt (f i) ≤ K) : wt (S n f) ≤ n * (K + 1) + 1 := by
  induction n with
  | zero => rw [S_zero]; have : wt 0 ≤ 1 := by decide
            omega
  | succ m ih =>
    rw [S_succ]
    have h1 := wt_add (S m f) (f m)
    have h2 := h m (by omega)
    have h3 := ih fun i hi => h i (by omega)
    rw [Nat.succ_mul]
    omega
/-- The product of two rows of a system. -/
def rdot (g : GD) (i j : Nat) : Rat := S g.r fun k => g.G (i * g.r + k) * g.H (j * g.r + k)
theorem ge_zero : Has Try.prog 84 [] (.q 0) := by
  refine Has.imp (r := .ra (.raw false [] [1])) ?_ rfl (fun S B β w v => rv_zero)
  refine has_of Try.func84 (by kernel_rfl) rfl Try.ntmps84 Try.results84 rfl rfl rfl ?_
  refine run0 ?_
  refine ⟨.inr rfl, _, Imp.refl _, ?_⟩
  exact .one (.rat rfl rfl (by decide) rfl (by decide) rfl)
theorem ge_one : Has Try.prog 87 [] (.q 1) := by
  refine Has.imp (r := .ra (.raw false [1] [1])) ?_ rfl (fun S B β w v => rv_one)
  refine has_of Try.func87 (by kernel_rfl) rfl Try.ntmps87 Try.results87 rfl rfl rfl ?_
  refine run0 ?_
  refine ⟨.inr rfl, _, Imp.refl _, ?_⟩
  exact .one (.rat rfl rfl (by decide) rfl (by decide) rfl)
theorem ge_power {p : Rat} {n : Nat} (hp : wt p ≤ 4) (hn : n ≤ 8) : Has Try.prog 85 [.q p, .i n] (.q (p ^ n)) := by
  have hw : ∀ k, wt (p ^ k) ≤ 4 * k + 1 := by
    intro k
    induction k with
    | zero => rw [Rat.pow_zero]; decide
    | succ k ih => rw [Rat.pow_succ]; have := wt_mul (p ^ k) p; omega
  refine has_of Try.func85 (by kernel_rfl) rfl Try.ntmps85 Try.results85 rfl rfl rfl ?_
  repeat(first|refine run1 ?_|((with_reducible apply st_call);exact rfl;exact rfl;exact rfl;first|(exact ge_one))|((with_reducible apply st_callg);exact rfl;exact rfl;(first|exact rfl|assumption);exact rfl;exact rfl;exact rfl;first|(exact ge_one)))
  refine awp_loop (fun m s => ∃ k, k ≤ n ∧ m = n - k ∧ s = stl [(2, .rptr 2 0 0), (4, .rptr 4 0 0), (5, .rptr 5 0 0), (7, .i n), (8, .i (k : Int))] [(2, (1, fun _ => .rats 1 (fun _ => .q p))), (4, (1, fun _ => .rats 1 (fun _ => ra0))), (5, (1, fun _ => .rats 1 (fun _ => .q (p ^ k))))]) n _ (imp_id ?_ ?_) ⟨0, Nat.zero_le _, rfl, rfl⟩ ?_
  · exact eA
  · refine allh rfl (by decide) (ble1 rfl) True.intro (allh rfl (by decide) (ble1 rfl) True.intro (allh rfl (by decide) (ble1 (by rw [Rat.pow_zero]; rfl)) True.intro True.intro))
  · rintro m s ⟨k, hk, rfl, rfl⟩
    have w1 := hw k
    refine run0 ?_
    refine awp_if rfl (fun h => ?_) (fun h => ?_)
    · have h : k < n := by omega
      repeat(first|refine run1 ?_|((with_reducible apply st_call);exact rfl;exact rfl;exact rfl;first|(exact h_mul (by omega) (by omega)))|((with_reducible apply st_callg);exact rfl;exact rfl;(first|exact rfl|assumption);exact rfl;exact rfl;exact rfl;first|(exact h_mul (by omega) (by omega))))
      refine q_loop ?_ (imp_id ?_ ?_) ⟨k + 1, ?_, rfl, rfl⟩
      · omega
      · exact eA
      · refine allh rfl (by decide) (ble1 rfl) True.intro (allh rfl (by decide) (ble1 rfl) True.intro (allh rfl (by decide) (ble1 (by rw [Rat.pow_succ]; rfl)) True.intro True.intro))
      · omega
    · obtain rfl : k = n := by omega
      refine run0 ?_
      refine ⟨.inr rfl, _, Imp.refl _, ?_⟩
      exact .one (.rat rfl rfl (by decide) rfl (by decide) rfl)
theorem ge_dot {g : GD} {i j : Nat} (sm : g.Sm) (hr : g.r ≤ 3) (hi : i < 8) (hj : j < 8) (hg : i * g.r + g.r ≤ g.lg) (hh : j * g.r + g.r ≤ g.lh) : Has Try.prog 88 [g.v, .i i, .i j] (.q (rdot g i j)) := by
  have hI : i * g.r ≤ 8 * 3 := Nat.mul_le_mul (by omega) hr
  have hJ : j * g.r ≤ 8 * 3 := Nat.mul_le_mul (by omega) hr
  have eI : (i : Int) * (g.r : Int) = ((i * g.r : Nat) : Int) := (Int.natCast_mul i g.r).symm
  have eJ : (j : Int) * (g.r : Int) = ((j * g.r : Nat) : Int) := (Int.natCast_mul j g.r).symm
  refine has_of Try.func88 (by kernel_rfl) rfl Try.ntmps88 Try.results88 rfl rfl rfl ?_
  repeat(first|refine run1 ?_|((with_reducible apply st_call);exact rfl;exact rfl;exact rfl;first|(exact ge_zero))|((with_reducible apply st_callg);exact rfl;exact rfl;(first|exact rfl|assumption);exact rfl;exact rfl;exact rfl;first|(exact ge_zero)))
  refine awp_loop (fun m s => ∃ k, k ≤ g.r ∧ m = g.r - k ∧ s = stl [(1, .i i), (2, .i j), (3, .ptr 3 0 0), (6, .rptr 6 0 0), (7, .rptr 7 0 0), (11, .i g.r), (12, .i (k : Int))] [(3, (1, fun _ => .ones 26 7 g.f)), (6, (1, fun _ => .rats 1 (fun _ => ra0))), (7, (1, fun _ => .rats 1 (fun _ => .q (S k fun k => g.G (i * g.r + k) * g.H (j * g.r + k)))))]) g.r _ (imp_id ?_ ?_) ⟨0, Nat.zero_le _, rfl, rfl⟩ ?_
  · exact eA
  · refine allh rfl (by decide) (bleo rfl fun _ _ => Le.id rfl) (fun i _ => g.fok _ i) ?_
    exact hA
  · rintro m s ⟨k, hk, rfl, rfl⟩
    refine run0 ?_
    refine awp_if rfl (fun h => ?_) (fun h => ?_)
    · have h : k < g.r := by omega
      have w1 : wt (S k fun k => g.G (i * g.r + k) * g.H (j * g.r + k)) ≤ k * 9 + 1 := wt_sum (K := 8) fun u hu => by
        have h1 := wt_mul (g.G (i * g.r + u)) (g.H (j * g.r + u)); have h2 := sm.G (i * g.r + u) (by omega); have h3 := sm.H (j * g.r + u) (by omega)
        omega
      have w2 := sm.G (i * g.r + k) (by omega); have w3 := sm.H (j * g.r + k) (by omega)
      have w4 := wt_mul (g.G (i * g.r + k)) (g.H (j * g.r + k))
      have q1 : 0 ≤ (i : Int) * (g.r : Int) := by rw [eI]; omega
      have q2 : (i : Int) * (g.r : Int) ≤ 24 := by rw [eI]; omega
      have q3 : (i : Int) * (g.r : Int) + k < g.lg := by rw [eI]; omega
      have q4 : 0 ≤ (j : Int) * (g.r : Int) := by rw [eJ]; omega
      have q5 : (j : Int) * (g.r : Int) ≤ 24 := by rw [eJ]; omega
      have q6 : (j : Int) * (g.r : Int) + k < g.lh := by rw [eJ]; omega
      have e1 : ((i : Int) * (g.r : Int) + (k : Int)).toNat = i * g.r + k := by rw [eI]; omega
      have e2 : ((j : Int) * (g.r : Int) + (k : Int)).toNat = j * g.r + k := by rw [eJ]; omega
      refine run0 ?_
      rw [e1, e2]
      repeat(first|refine run1 ?_|((with_reducible apply st_call);exact rfl;exact rfl;exact rfl;first|(exact h_mul (by omega) (by omega))|(exact h_add (by omega) (by omega)))|((with_reducible apply st_callg);exact rfl;exact rfl;(first|exact rfl|assumption);exact rfl;exact rfl;exact rfl;first|(exact h_mul (by omega) (by omega))|(exact h_add (by omega) (by omega))))
      refine q_loop ?_ (imp_id ?_ ?_) ⟨k + 1, ?_, rfl, rfl⟩
      · omega
      · exact eA
      · refine allh rfl (by decide) (bleo rfl fun _ _ => Le.id rfl) (fun i _ => g.fok _ i) ?_
        exact hA
      · omega
    · have ek : k = g.r := by omega
      unfold rdot
      rw [← ek]
      refine run0 ?_
      refine ⟨.inr rfl, _, Imp.refl _, ?_⟩
      exact .one (.rat rfl rfl (by decide) rfl (by decide) rfl)
theorem ge_over {g : GD} {a : Rat} {i j : Nat} (sm : g.Sm) (ha : wt a ≤ 1000) (hi : i < g.la) (hj : j < g.lb) (h0 : g.A i ≠ g.B j) : Has Try.prog 86 [g.v, .q a, .i i, .i j] (.q (a / (g.A i - g.B j))) := by
  have w1 := sm.A i hi; have w2 := sm.B j hj
  have w3 := wt_sub (g.A i) (g.B j)
  have hne : g.A i - g.B j ≠ 0 := fun e => h0 (by rw [← Rat.sub_add_cancel (a := g.A i) (b := g.B j), e, Rat.zero_add])
  refine has_of Try.func86 (by kernel_rfl) rfl Try.ntmps86 Try.results86 rfl rfl rfl ?_
  repeat(first|refine run1 ?_|((with_reducible apply st_call);exact rfl;exact rfl;exact rfl;first|(exact h_sub (p := g.A i) (q := g.B j) (by omega) (by omega))|(exact h_quo (p := a) (q := g.A i - g.B j) (by omega) (by omega) hne))|((with_reducible apply st_callg);exact rfl;exact rfl;(first|exact rfl|assumption);exact rfl;exact rfl;exact rfl;first|(exact h_sub (p := g.A i) (q := g.B j) (by omega) (by omega))|(exact h_quo (p := a) (q := g.A i - g.B j) (by omega) (by omega) hne)))
  refine ⟨.inr rfl, _, Imp.refl _, ?_⟩
  exact .one (.rat rfl rfl (by decide) rfl (by decide) rfl)
/-- An entry. -/
def gent (g : GD) (i j : Nat) : Rat :=
  match g.k with
  | 1 => g.A (i + g.n - 1 - j)
  | 2 => g.A (i + j)
  | 3 => g.A ((i + g.n - j) % g.n)
  | 4 => g.A i ^ j
  | 5 => 1 / (g.A i - g.B j)
  | 6 => S (min i j + 1) fun m => rdot g (i - m) (j - m)
  | _ => rdot g i j / (g.A i - g.B j)
theorem rdot_wt {g : GD} {i j : Nat} (sm : g.Sm) (hg : i * g.r + g.r ≤ g.lg) (hh : j * g.r + g.r ≤ g.lh) (hr : g.r ≤ 3) : wt (rdot g i j) ≤ 28 := by
  have := wt_sum (n := g.r) (K := 8) (f := fun k => g.G (i * g.r + k) * g.H (j * g.r + k)) fun u hu => by
    have h1 := wt_mul (g.G (i * g.r + u)) (g.H (j * g.r + u)); have h2 := sm.G (i * g.r + u) (by omega); have h3 := sm.H (j * g.r + u) (by omega)
    omega
  unfold rdot
  omega
/-- What is known of a kind. -/
theorem ok_lens {g : GD} (h : g.OK) : (g.k = 1 ∨ g.k = 2 → g.la = 2 * g.n - 1) ∧ (g.k = 3 ∨ g.k = 4 ∨ g.k = 5 ∨ g.k = 7 → g.la = g.n) ∧ (g.k = 5 ∨ g.k = 7 → g.lb = g.n) ∧ (g.k = 6 ∨ g.k = 7 → g.lg = g.n * g.r ∧ g.lh = g.n * g.r) := by
  have h1 := h.k1; have h7 := h.k7; have n1 := h.n1
  have l0 := h.len 0 (by omega); have l1 := h.len 1 (by omega); have l2 := h.len 2 (by omega); have l3 := h.len 3 (by omega)
  have e : ((g.n * g.r : Nat) : Int) = (g.n : Int) * g.r := Int.natCast_mul g.n g.r
  have hk : g.k = 1 ∨ g.k = 2 ∨ g.k = 3 ∨ g.k = 4 ∨ g.k = 5 ∨ g.k = 6 ∨ g.k = 7 := by omega
  have c : ∀ (x y z n r : Int), x = 0 → y = 1 → z = 0 → x * n + y * n * r + z = n * r := by intro x y z n r hx hy hz; subst hx; subst hy; subst hz; simp
  have d : ∀ (x y z n r : Int), x = 1 → y = 0 → z = 0 → x * n + y * n * r + z = n := by intro x y z n r hx hy hz; subst hx; subst hy; subst hz; simp
  have f : ∀ (x y z n r : Int), x = 2 → y = 0 → z = -1 → x * n + y * n * r + z = 2 * n - 1 := by intro x y z n r hx hy hz; subst hx; subst hy; subst hz; simp; omega
  change (g.la : Int) = _ at l0
  change (g.lb : Int) = _ at l1
  change (g.lg : Int) = _ at l2
  change (g.lh : Int) = _ at l3
  rcases hk with hk | hk | hk | hk | hk | hk | hk <;> rw [hk] at l0 l1 l2 l3 ⊢
  · rw [f _ _ _ _ _ (by decide) (by decide) (by decide)] at l0
    exact ⟨fun _ => by omega, fun h => by omega, fun h => by omega, fun h => by omega⟩
  · rw [f _ _ _ _ _ (by decide) (by decide) (by decide)] at l0
    exact ⟨fun _ => by omega, fun h => by omega, fun h => by omega, fun h => by omega⟩
  · rw [d _ _ _ _ _ (by decide) (by decide) (by decide)] at l0
    exact ⟨fun h => by omega, fun _ => by omega, fun h => by omega, fun h => by omega⟩
  · rw [d _ _ _ _ _ (by decide) (by decide) (by decide)] at l0
    exact ⟨fun h => by omega, fun _ => by omega, fun h => by omega, fun h => by omega⟩
  · rw [d _ _ _ _ _ (by decide) (by decide) (by decide)] at l0 l1
    exact ⟨fun h => by omega, fun _ => by omega, fun _ => by omega, fun h => by omega⟩
  · rw [c _ _ _ _ _ (by decide) (by decide) (by decide)] at l2 l3
    exact ⟨fun h => by omega, fun h => by omega, fun h => by omega, fun _ => by rw [← e] at l2 l3; omega⟩
  · rw [d _ _ _ _ _ (by decide) (by decide) (by decide)] at l0 l1
    rw [c _ _ _ _ _ (by decide) (by decide) (by decide)] at l2 l3
    exact ⟨fun h => by omega, fun _ => by omega, fun _ => by omega, fun _ => by rw [← e] at l2 l3; omega⟩
end Go.Proofs.Ytpclkgjhfhhddaa.AM
/- Package gen: entries, of each kind. -/
namespace Go.Proofs.Ytpclkgjhfhhddaa.AM
open Go Go.RowKit Go.Proofs.Ytpclkgjhfhhddaa.PN Go.Proofs.Ytpclkgjhfhhddaa.V
open Go.Proofs.Ytpclkgjhfhhddaa.LA (S S_succ S_zero S_congr)
set_option linter.unusedVariables false
set_option linter.unusedSimpArgs false
set_option maxRecDepth 8000
set_option maxHeartbeats 8000000
theorem kdec {k a : Nat} (h : k = a) {b : Int} (e : (a : Int) = b) : decide ((k : Int) = b) = true := decide_eq_true (by rw [h, e])
theorem kndec {k a : Nat} (h : k = a) {b : Int} (e : (a : Int) ≠ b) : decide ((k : Int) = b) = false := decide_eq_false (by rw [h]; exact e)
theorem ge_entry {g : GD} (h : g.OK) {i j : Nat} (hi : i < g.n) (hj : j < g.n) : Has Try.prog 59 [g.v, .i i, .i j] (.q (gent g i j)) := by
  have n8 := h.n8; have r3 := h.r3; have k1 := h.k1; have k7 := h.k7; have sm := h.sm
  obtain ⟨m1, m2, m3, m4⟩ := ok_lens h
  have hk : g.k = 1 ∨ g.k = 2 ∨ g.k = 3 ∨ g.k = 4 ∨ g.k = 5 ∨ g.k = 6 ∨ g.k = 7 := by omega
  have hin : i * g.r + g.r ≤ g.n * g.r := by rw [← Nat.succ_mul]; exact Nat.mul_le_mul_right _ hi
  have hjn : j * g.r + g.r ≤ g.n * g.r := by rw [← Nat.succ_mul]; exact Nat.mul_le_mul_right _ hj
  unfold gent
  refine has_of Try.func59 (by kernel_rfl) rfl Try.ntmps59 Try.results59 rfl rfl rfl ?_
  refine run0p ?_
  rcases hk with hk | hk | hk | hk | hk | hk | hk
  · have w := sm.A (i + g.n - 1 - j) (by omega)
    have e1 : ((i : Int) - (j : Int) + (g.n : Int) - 1).toNat = i + g.n - 1 - j := by omega
    have w0 : wt 0 ≤ 1 := by decide
    refine awp_yes rfl (kdec hk rfl) ?_
    refine run0p ?_
    rw [e1]
    repeat(first|refine run1p ?_|((with_reducible apply st_call);exact rfl;exact rfl;exact rfl;first|(exact ge_zero)|(exact h_add (by omega) (by omega)))|((with_reducible apply st_callg);exact rfl;exact rfl;(first|exact rfl|assumption);exact rfl;exact rfl;exact rfl;first|(exact ge_zero)|(exact h_add (by omega) (by omega))))
    refine ⟨.inr rfl, _, Imp.refl _, .one (.rat rfl rfl (by decide) rfl (by decide) ?_)⟩
    rw [hk]; exact congrArg RA.q (Rat.add_zero _)
  · have w := sm.A (i + j) (by omega)
    have e1 : ((i : Int) + (j : Int)).toNat = i + j := by omega
    have w0 : wt 0 ≤ 1 := by decide
    refine awp_no rfl (kndec hk (by decide)) ?_
    refine run0p ?_
    refine awp_yes rfl (kdec hk rfl) ?_
    refine run0p ?_
    rw [e1]
    repeat(first|refine run1p ?_|((with_reducible apply st_call);exact rfl;exact rfl;exact rfl;first|(exact ge_zero)|(exact h_add (by omega) (by omega)))|((with_reducible apply st_callg);exact rfl;exact rfl;(first|exact rfl|assumption);exact rfl;exact rfl;exact rfl;first|(exact ge_zero)|(exact h_add (by omega) (by omega))))
    refine ⟨.inr rfl, _, Imp.refl _, .one (.rat rfl rfl (by decide) rfl (by decide) ?_)⟩
    rw [hk]; exact congrArg RA.q (Rat.add_zero _)
  · have hlt : (i + g.n - j) % g.n < g.n := Nat.mod_lt _ (by omega)
    have w := sm.A ((i + g.n - j) % g.n) (by omega)
    have w0 : wt 0 ≤ 1 := by decide
    have e0 : Int.tmod ((i : Int) - (j : Int) + (g.n : Int)) (g.n : Int) = (((i + g.n - j) % g.n : Nat) : Int) := by
      rw [Int.tmod_eq_emod_of_nonneg (by omega), show ((i : Int) - (j : Int) + (g.n : Int)) = ((i + g.n - j : Nat) : Int) by omega]
      rfl
    have e1 : (Int.tmod ((i : Int) - (j : Int) + (g.n : Int)) (g.n : Int)).toNat = (i + g.n - j) % g.n := by rw [e0]; rfl
    have q1 : 0 ≤ Int.tmod ((i : Int) - (j : Int) + (g.n : Int)) (g.n : Int) := by rw [e0]; omega
    have q2 : Int.tmod ((i : Int) - (j : Int) + (g.n : Int)) (g.n : Int) < g.la := by rw [e0]; omega
    refine awp_no rfl (kndec hk (by decide)) ?_
    refine run0p ?_
    refine awp_no rfl (kndec hk (by decide)) ?_
    refine run0p ?_
    refine awp_yes rfl (kdec hk rfl) ?_
    refine run0p ?_
    rw [e1]
    repeat(first|refine run1p ?_|((with_reducible apply st_call);exact rfl;exact rfl;exact rfl;first|(exact ge_zero)|(exact h_add (by omega) (by omega)))|((with_reducible apply st_callg);exact rfl;exact rfl;(first|exact rfl|assumption);exact rfl;exact rfl;exact rfl;first|(exact ge_zero)|(exact h_add (by omega) (by omega))))
    refine ⟨.inr rfl, _, Imp.refl _, .one (.rat rfl rfl (by decide) rfl (by decide) ?_)⟩
    rw [hk]; exact congrArg RA.q (Rat.add_zero _)
  · have w := sm.A i (by omega)
    refine awp_no rfl (kndec hk (by decide)) ?_
    refine run0p ?_
    refine awp_no rfl (kndec hk (by decide)) ?_
    refine run0p ?_
    refine awp_no rfl (kndec hk (by decide)) ?_
    refine run0p ?_
    refine awp_yes rfl (kdec hk rfl) ?_
    repeat(first|refine run1p ?_|((with_reducible apply st_call);exact rfl;exact rfl;exact rfl;first|(exact ge_power (p := g.A i) (n := j) (by omega) (by omega)))|((with_reducible apply st_callg);exact rfl;exact rfl;(first|exact rfl|assumption);exact rfl;exact rfl;exact rfl;first|(exact ge_power (p := g.A i) (n := j) (by omega) (by omega))))
    refine ⟨.inr rfl, _, Imp.refl _, .one (.rat rfl rfl (by decide) rfl (by decide) ?_)⟩
    rw [hk]; rfl
  · have w0 : wt 1 ≤ 1 := by decide
    refine awp_no rfl (kndec hk (by decide)) ?_
    refine run0p ?_
    refine awp_no rfl (kndec hk (by decide)) ?_
    refine run0p ?_
    refine awp_no rfl (kndec hk (by decide)) ?_
    refine run0p ?_
    refine awp_no rfl (kndec hk (by decide)) ?_
    refine run0p ?_
    refine awp_yes rfl (kdec hk rfl) ?_
    repeat(first|refine run1p ?_|((with_reducible apply st_call);exact rfl;exact rfl;exact rfl;first|(exact ge_one)|(exact Has.ag (g7 rfl rfl rfl rfl rfl rfl rfl) (ge_over (a := 1) sm (by omega) (by omega) (by omega) (h.ne i (by omega) j (by omega)))))|((with_reducible apply st_callg);exact rfl;exact rfl;(first|exact rfl|assumption);exact rfl;exact rfl;exact rfl;first|(exact ge_one)|(exact Has.ag (g7 rfl rfl rfl rfl rfl rfl rfl) (ge_over (a := 1) sm (by omega) (by omega) (by omega) (h.ne i (by omega) j (by omega))))))
    refine ⟨.inr rfl, _, Imp.refl _, .one (.rat rfl rfl (by decide) rfl (by decide) ?_)⟩
    rw [hk]; rfl
  · obtain ⟨hg, hh⟩ := m4 (.inl hk)
    refine awp_no rfl (kndec hk (by decide)) ?_
    refine run0p ?_
    refine awp_no rfl (kndec hk (by decide)) ?_
    refine run0p ?_
    refine awp_no rfl (kndec hk (by decide)) ?_
    refine run0p ?_
    refine awp_no rfl (kndec hk (by decide)) ?_
    refine run0p ?_
    refine awp_no rfl (kndec hk (by decide)) ?_
    refine run0p ?_
    refine awp_no rfl (kndec hk (by decide)) ?_
    refine run0p ?_
    repeat(first|refine run1p ?_|((with_reducible apply st_call);exact rfl;exact rfl;exact rfl;first|(exact ge_zero))|((with_reducible apply st_callg);exact rfl;exact rfl;(first|exact rfl|assumption);exact rfl;exact rfl;exact rfl;first|(exact ge_zero)))
    have wS : ∀ m, m ≤ 8 → m ≤ min i j + 1 → wt (S m fun m => rdot g (i - m) (j - m)) ≤ 8 * 29 + 1 := fun m hm8 hm => by
      have := wt_sum (n := m) (K := 28) (f := fun m => rdot g (i - m) (j - m)) fun u hu => by
        have h1 : (i - u) * g.r + g.r ≤ g.n * g.r := by rw [← Nat.succ_mul]; exact Nat.mul_le_mul_right _ (by omega)
        have h2 : (j - u) * g.r + g.r ≤ g.n * g.r := by rw [← Nat.succ_mul]; exact Nat.mul_le_mul_right _ (by omega)
        exact rdot_wt sm (by omega) (by omega) r3
      omega
    refine awp_loop (fun m' s => ∃ m, m ≤ min i j + 1 ∧ m' = min i j + 1 - m ∧ s = stl [(1, .i i), (2, .i j), (3, .ptr 3 0 0), (6, .rptr 6 0 0), (7, .rptr 7 0 0), (8, .i (m : Int))] [(3, (1, fun _ => .ones 26 7 g.f)), (6, (1, fun _ => .rats 1 (fun _ => ra0))), (7, (1, fun _ => .rats 1 (fun _ => .q (S m fun m => rdot g (i - m) (j - m)))))]) (min i j + 1) _ (imp_id ?_ ?_) ⟨0, Nat.zero_le _, rfl, rfl⟩ ?_
    · exact eA
    · refine allh rfl (by decide) (bleo rfl fun _ _ => Le.id rfl) (fun i _ => g.fok _ i) ?_
      exact hA
    · rintro m' s ⟨m, hm, rfl, rfl⟩
      have w1 := wS m (by omega) hm
      refine run0p ?_
      refine awp_if rfl (fun h' => ?_) (fun h' => ?_)
      · have h' : m ≤ min i j := by omega
        have h1 : (i - m) * g.r + g.r ≤ g.n * g.r := by rw [← Nat.succ_mul]; exact Nat.mul_le_mul_right _ (by omega)
        have h2 : (j - m) * g.r + g.r ≤ g.n * g.r := by rw [← Nat.succ_mul]; exact Nat.mul_le_mul_right _ (by omega)
        have w2 := rdot_wt (g := g) (i := i - m) (j := j - m) sm (by omega) (by omega) r3
        have ei : (i : Int) - (m : Int) = ((i - m : Nat) : Int) := by omega
        have ej : (j : Int) - (m : Int) = ((j - m : Nat) : Int) := by omega
        refine run0p ?_
        rw [ei, ej]
        repeat(first|refine run1p ?_|((with_reducible apply st_call);exact rfl;exact rfl;exact rfl;first|(exact Has.ag (g7 rfl rfl rfl rfl rfl rfl rfl) (ge_dot (i := i - m) (j := j - m) sm r3 (by omega) (by omega) (by omega) (by omega)))|(exact h_add (by omega) (by omega)))|((with_reducible apply st_callg);exact rfl;exact rfl;(first|exact rfl|assumption);exact rfl;exact rfl;exact rfl;first|(exact Has.ag (g7 rfl rfl rfl rfl rfl rfl rfl) (ge_dot (i := i - m) (j := j - m) sm r3 (by omega) (by omega) (by omega) (by omega)))|(exact h_add (by omega) (by omega))))
        refine q_loop ?_ (imp_id ?_ ?_) ⟨m + 1, ?_, rfl, rfl⟩
        · omega
        · exact eA
        · refine allh rfl (by decide) (bleo rfl fun _ _ => Le.id rfl) (fun i _ => g.fok _ i) ?_
          exact hA
        · omega
      · have em : min i j + 1 = m := by omega
        refine run0p ?_
        refine ⟨.inr rfl, _, Imp.refl _, .one (.rat rfl rfl (by decide) rfl (by decide) ?_)⟩
        rw [hk, ← em]; rfl
  · obtain ⟨hg, hh⟩ := m4 (.inr hk)
    have w0 := rdot_wt (g := g) (i := i) (j := j) sm (by omega) (by omega) r3
    refine awp_no rfl (kndec hk (by decide)) ?_
    refine run0p ?_
    refine awp_no rfl (kndec hk (by decide)) ?_
    refine run0p ?_
    refine awp_no rfl (kndec hk (by decide)) ?_
    refine run0p ?_
    refine awp_no rfl (kndec hk (by decide)) ?_
    refine run0p ?_
    refine awp_no rfl (kndec hk (by decide)) ?_
    refine run0p ?_
    refine awp_yes rfl (kdec hk rfl) ?_
    repeat(first|refine run1p ?_|((with_reducible apply st_call);exact rfl;exact rfl;exact rfl;first|(exact Has.ag (g7 rfl rfl rfl rfl rfl rfl rfl) (ge_dot sm r3 (by omega) (by omega) (by omega) (by omega)))|(exact Has.ag (g7 rfl rfl rfl rfl rfl rfl rfl) (ge_over (a := rdot g i j) sm (by omega) (by omega) (by omega) (h.ne i (by omega) j (by omega)))))|((with_reducible apply st_callg);exact rfl;exact rfl;(first|exact rfl|assumption);exact rfl;exact rfl;exact rfl;first|(exact Has.ag (g7 rfl rfl rfl rfl rfl rfl rfl) (ge_dot sm r3 (by omega) (by omega) (by omega) (by omega)))|(exact Has.ag (g7 rfl rfl rfl rfl rfl rfl rfl) (ge_over (a := rdot g i j) sm (by omega) (by omega) (by omega) (h.ne i (by omega) j (by omega))))))
    refine ⟨.inr rfl, _, Imp.refl _, .one (.rat rfl rfl (by decide) rfl (by decide) ?_)⟩
    rw [hk]; rfl
end Go.Proofs.Ytpclkgjhfhhddaa.AM
/- Package gen: the whole matrix. -/
namespace Go.Proofs.Ytpclkgjhfhhddaa.AM
open Go Go.RowKit Go.Proofs.Ytpclkgjhfhhddaa.PN Go.Proofs.Ytpclkgjhfhhddaa.V
open Go.Proofs.Ytpclkgjhfhhddaa.LA (S S_succ S_zero S_congr)
set_option linter.unusedVariables false
set_option linter.unusedSimpArgs false
set_option maxRecDepth 8000
set_option maxHeartbeats 8000000
theorem ge_expand {g : GD} (h : g.OK) : Has Try.prog 29 [g.v] (.mat true g.n (fun _ => g.n) (fun i j => .q (gent g i j))) := by
  have n8 := h.n8; have n1 := h.n1
  have hrow : ∀ (k : Nat) (U : Nat → Bool) (i : Nat), (grow (fun i => AV.row true g.n (fun j => .q (gent g i j))) (.v (.slice none 0 0)) k i).ok U := fun k U i =>
    grow_ok (v := fun i => AV.row true g.n (fun j => RA.q (gent g i j))) (z := .v (.slice none 0 0)) (fun _ => True.intro) True.intro i
  refine has_of Try.func29 (by kernel_rfl) rfl Try.ntmps29 Try.results29 rfl rfl rfl ?_
  repeat(first|refine run1 ?_|((with_reducible apply st_call);exact rfl;exact rfl;exact rfl;first|(exact Has.ag (g7 rfl rfl rfl rfl rfl rfl rfl) (g_check h)))|((with_reducible apply st_callg);exact rfl;exact rfl;(first|exact rfl|assumption);exact rfl;exact rfl;exact rfl;first|(exact Has.ag (g7 rfl rfl rfl rfl rfl rfl rfl) (g_check h))))
  refine awp_no rfl rfl ?_
  refine run0 ?_
  refine awp_loop (fun m' s => ∃ k, k ≤ g.n ∧ m' = g.n - k ∧ s = stl [(1, .ptr 1 0 0), (3, .own 11 0), (13, .i g.n), (14, .i (k : Int))] [(1, (1, fun _ => .ones 26 7 g.f)), (11, (1, fun _ => .ones WT g.n (grow (fun i => .row true g.n (fun j => .q (gent g i j))) (.v (.slice none 0 0)) k)))]) g.n _ (imp_id ?_ ?_) ⟨0, Nat.zero_le _, rfl, rfl⟩ ?_
  · exact eA
  · refine allh rfl (by decide) (bleo rfl fun _ _ => Le.id rfl) (fun i _ => g.fok _ i) (allh rfl (by decide) (bleo rfl fun i hi => Le.id rfl) ?_ True.intro)
    intro i hi; exact True.intro
  · rintro m' s ⟨k, hk, rfl, rfl⟩
    refine run0 ?_
    refine awp_if rfl (fun h => ?_) (fun h => ?_)
    · have h : k < g.n := by omega
      refine run0 ?_
      rw [updN_same]
      refine run0 ?_
      refine awp_loop (fun m' s => ∃ j, j ≤ g.n ∧ m' = g.n - j ∧ s = stl [(1, .ptr 1 0 0), (3, .own 11 0), (4, .i (k : Int)), (13, .i g.n), (14, .i (k : Int)), (27, .i g.n), (28, .i (j : Int))] [(1, (1, fun _ => .ones 26 7 g.f)), (11, (1, fun _ => .ones WT g.n (updN (grow (fun i => .row true g.n (fun j => .q (gent g i j))) (.v (.slice none 0 0)) k) k (.own 21 0)))), (21, (1, fun _ => .rats g.n (grow (fun j => .q (gent g k j)) ra0 j)))]) g.n _ (imp_id ?_ ?_) ⟨0, Nat.zero_le _, rfl, rfl⟩ ?_
      · exact eA
      · refine allh rfl (by decide) (bleo rfl fun _ _ => Le.id rfl) (fun i _ => g.fok _ i) (allh rfl (by decide) (bleo rfl fun i hi => Le.id rfl) ?_ (allh rfl (by decide) (blen rfl fun i hi => rfl) True.intro True.intro))
        intro i hi
        by_cases e : i = k
        · subst e; rw [updN_same]; rfl
        · rw [updN_ne _ _ e]; exact hrow _ _ i
      · rintro m' s ⟨j, hj, rfl, rfl⟩
        refine run0 ?_
        refine awp_if rfl (fun h' => ?_) (fun h' => ?_)
        · have h' : j < g.n := by omega
          refine run0 ?_
          rw [show updN (grow (fun i => AV.row true g.n (fun j => .q (gent g i j))) (.v (.slice none 0 0)) k) k (.own 21 0) ((k : Int)).toNat = .own 21 0 from updN_same _ _ _]
          repeat(first|refine run1 ?_|((with_reducible apply st_call);exact rfl;exact rfl;exact rfl;first|(exact Has.ag (g7 rfl rfl rfl rfl rfl rfl rfl) (ge_entry (by assumption) h h')))|((with_reducible apply st_callg);exact rfl;exact rfl;(first|exact rfl|assumption);exact rfl;exact rfl;exact rfl;first|(exact Has.ag (g7 rfl rfl rfl rfl rfl rfl rfl) (ge_entry (by assumption) h h'))))
          refine q_loop ?_ (imp_id ?_ ?_) ⟨j + 1, ?_, rfl, rfl⟩
          · omega
          · exact eA
          · refine allh rfl (by decide) (bleo rfl fun _ _ => Le.id rfl) (fun i _ => g.fok _ i) (allh rfl (by decide) (bleo rfl fun i hi => Le.id rfl) ?_ (allh rfl (by decide) (blen rfl fun i hi => grow_step _ _ j i) True.intro True.intro))
            intro i hi
            by_cases e : i = k
            · subst e; rw [updN_same]; rfl
            · rw [updN_ne _ _ e]; exact hrow _ _ i
          · omega
        · have ej : j = g.n := by omega
          subst ej
          refine run0 ?_
          refine q_loop ?_ ((imp_pub 11 k rfl rfl h (updN_same _ _ _) rfl rfl (by decide)).trans (imp_id ?_ ?_)) ⟨k + 1, ?_, rfl, rfl⟩
          · omega
          · exact eA
          · refine allh rfl (by decide) (bleo rfl fun _ _ => Le.id rfl) (fun i _ => g.fok _ i) (allh rfl (by decide) (bleo rfl fun i hi => ?_) (fun i _ => hrow _ _ i) True.intro)
            by_cases e : i = k
            · subst e
              rw [updN_same, grow_full _ _ (Nat.lt_succ_self i)]
              exact Le.row rfl (fun j hj => grow_full _ _ hj) fun h => h
            · rw [updN_ne _ _ e, updN_ne _ _ e, ← grow_step, updN_ne _ _ e]
              exact Le.id rfl
          · omega
    · have ek : k = g.n := by omega
      subst ek
      refine run0 ?_
      refine ⟨.inr rfl, _, imp_mat 2 (fun _ => g.n) (fun i j => .q (gent g i j)) rfl rfl rfl (fun i hi => grow_full _ _ hi), ?_⟩
      exact .one (.tmp rfl)
end Go.Proofs.Ytpclkgjhfhhddaa.AM
/- Small numbers that are drawn: walked. -/
namespace Go.Proofs.Ytpclkgjhfhhddaa.AM
open Go Go.RowKit Go.Proofs.Ytpclkgjhfhhddaa.PN Go.Proofs.Ytpclkgjhfhhddaa.V
open Go.Proofs.Ytpclkgjhfhhddaa.LA (S S_succ S_zero S_congr)
set_option linter.unusedVariables false
set_option linter.unusedSimpArgs false
set_option maxRecDepth 4000
set_option maxHeartbeats 4000000
/-! ### Numbers that are drawn -/
theorem hs_of (n d : Int) (h1 : -9223372036854775808 ≤ n) (h2 : n < 9223372036854775808) (h3 : 0 < d) (h4 : d < 9223372036854775808) : Has Try.prog 19 [.i n, .i d] (.tup (.q ((n : Rat) / (d : Rat))) (.i 0)) := by
  refine ⟨by kernel_rfl, ⟨trivial, trivial⟩, fun w S β vs hv => ?_⟩
  obtain ⟨v, u, rfl, e1, e2⟩ := rvs2 hv
  have e1 : v = .int .i64 n := e1
  have e2 : u = .int .i64 d := e2
  subst e1; subst e2
  refine (s_of n d w h1 h2 (by omega) h4 (by omega)).mono ?_
  rintro e w' ⟨s, vn, vd, rfl, h1, h2⟩
  refine ⟨_, rfl, h2, _, _, rfl, ?_, rfl⟩
  have hq : mk (decide (n < 0) != decide (d < 0)) n.natAbs d.natAbs = (n : Rat) / (d : Rat) := by
    have h5 : (decide (n < 0) != decide (d < 0)) = decide (n < 0) := by rw [decide_eq_false (show ¬ d < 0 by omega)]; simp
    rw [h5]
    have h6 : PN.sg (decide (n < 0)) n.natAbs = n := by
      unfold PN.sg
      by_cases h : n < 0
      · rw [decide_eq_true h]; simp; omega
      · rw [decide_eq_false h]; simp; omega
    unfold mk
    rw [h6, Rat.mkRat_eq_div]
    have h7 : ((d.natAbs : Nat) : Int) = d := by omega
    rw [show ((d.natAbs : Nat) : Rat) = (((d.natAbs : Nat) : Int) : Rat) from rfl, h7]
  rw [← hq]
  exact rat_rv h1
/-- A number from 0 to n - 1. -/
def wthn (a n : Int) : Int := if a.tmod n < 0 then a.tmod n + n else a.tmod n
theorem wthn_lt {a n : Int} (hn : 0 < n) : 0 ≤ wthn a n ∧ wthn a n < n := by
  unfold wthn
  have h1 := Int.tmod_lt_of_pos a hn
  have h2 : -n < a.tmod n := Int.lt_tmod_of_pos a hn
  split <;> omega
theorem k_within2 {a n : Int} (hn : 0 < n) (hn' : n < 1000000000) : Has Try.prog 89 [.i a, .i n] (.i (wthn a n)) := by
  refine has_of Try.func89 (by kernel_rfl) rfl Try.ntmps89 Try.results89 rfl rfl rfl ?_
  have h1 := Int.tmod_lt_of_pos a hn
  have h2 : -n < a.tmod n := Int.lt_tmod_of_pos a hn
  refine run0 ?_
  refine awp_if rfl (fun h => ?_) (fun h => ?_)
  · have e : wthn a n = a.tmod n + n := if_pos h
    rw [e]
    refine run0 ?_
    refine ⟨.inr rfl, _, Imp.refl _, ?_⟩
    exact .one (.tmp rfl)
  · have e : wthn a n = a.tmod n := if_neg h
    rw [e]
    refine run0 ?_
    refine ⟨.inr rfl, _, Imp.refl _, ?_⟩
    exact .one (.tmp rfl)
/-- A small number. -/
def smal (a : Int) : Rat := ((wthn a 41 - 20 : Int) : Rat) / ((1 + wthn (a.tdiv 41) 5 : Int) : Rat)
theorem smal_key : ∀ x : _root_.Fin 41, ∀ y : _root_.Fin 5, wt ((((x.val : Int) - 20 : Int) : Rat) / ((1 + (y.val : Int) : Int) : Rat)) ≤ 1 := by decide +kernel
instance smal_wt (a : Int) : Wt (smal a) 1 := ⟨by
  obtain ⟨h1, h2⟩ := wthn_lt (a := a) (n := 41) (by decide)
  obtain ⟨h3, h4⟩ := wthn_lt (a := a.tdiv 41) (n := 5) (by decide)
  have := smal_key ⟨(wthn a 41).toNat, by omega⟩ ⟨(wthn (a.tdiv 41) 5).toNat, by omega⟩
  rw [show (((wthn a 41).toNat : Nat) : Int) = wthn a 41 by omega, show (((wthn (a.tdiv 41) 5).toNat : Nat) : Int) = wthn (a.tdiv 41) 5 by omega] at this
  exact this⟩
theorem k_small {a : Int} (ha : Fits .i64 a) : Has Try.prog 60 [.i a] (.q (smal a)) := by
  refine has_of Try.func60 (by kernel_rfl) rfl Try.ntmps60 Try.results60 rfl rfl rfl ?_
  obtain ⟨h1, h2⟩ := wthn_lt (a := a) (n := 41) (by decide)
  obtain ⟨h3, h4⟩ := wthn_lt (a := a.tdiv 41) (n := 5) (by decide)
  have hf : -9223372036854775808 ≤ a ∧ a ≤ 9223372036854775807 := ha
  have h5 : Fits .i64 (a.tdiv 41) := by
    have e1 : (a.tdiv 41).natAbs = a.natAbs / 41 := Int.natAbs_tdiv a 41
    show -9223372036854775808 ≤ _ ∧ _ ≤ (9223372036854775807 : Int)
    omega
  obtain ⟨h5a, h5b⟩ : -9223372036854775808 ≤ a.tdiv 41 ∧ a.tdiv 41 ≤ 9223372036854775807 := h5
  repeat(first|refine run1 ?_|((with_reducible apply st_call);exact rfl;exact rfl;exact rfl;first|(exact k_within2 (by decide) (by decide))|(exact hs_of _ _ (by omega) (by omega) (by omega) (by omega)))|((with_reducible apply st_callg);exact rfl;exact rfl;(first|exact rfl|assumption);exact rfl;exact rfl;exact rfl;first|(exact k_within2 (by decide) (by decide))|(exact hs_of _ _ (by omega) (by omega) (by omega) (by omega))))
  refine ⟨.inr rfl, _, Imp.refl _, ?_⟩
  exact .one (.rat rfl rfl (by decide) rfl (by decide) rfl)
end Go.Proofs.Ytpclkgjhfhhddaa.AM
/- Laws of dense matrices: walks: rows of numbers. -/
namespace Go.Proofs.Ytpclkgjhfhhddaa.AM
open Go Go.RowKit Go.Proofs.Ytpclkgjhfhhddaa.PN Go.Proofs.Ytpclkgjhfhhddaa.V
open Go.Proofs.Ytpclkgjhfhhddaa.LA (S S_succ S_zero S_congr)
set_option linter.unusedVariables false
set_option linter.unusedSimpArgs false
set_option maxRecDepth 4000
set_option maxHeartbeats 4000000
/-- What a list of whole numbers says at a place. -/
def rowx (zs : List Int) (i : Nat) : Int := if i < zs.length then zs.getD i 0 else 3 * i + 1
def rowq (zs : List Int) (i : Nat) : Rat := smal (rowx zs i)
instance rowq_wt (zs : List Int) (i : Nat) : Wt (rowq zs i) 1 := smal_wt _
def rowS (e : List (Nat × AV)) (v : Nat → RA) : Nat → St
  | 0 => stl ((5, .v (.slice none 0 0)) :: e) []
  | k + 1 => stl ((5, .own 5 0) :: e) [(5, (1, fun _ => .rats (k + 1) v))]
theorem row_close {s : St} {e : List (Nat × AV)} {k : Nat} {v f : Nat → RA} {F : Nat → Blk} {a : Nat} (h5 : s.env 5 = some (.own a 0)) (ha : s.heap a = some (1, F)) (hF : F 0 = .rats (k + 1) f) (hf : ∀ i, i < k + 1 → f i = v i) (h60 : s.used 60 = false) (he : AllE s (s1 5 a) (fun g => memN g [5]) e) : Imp s (rowS e v (k + 1)) := by
  refine imp_stl (h := [(5, (1, fun _ => .rats (k + 1) v))]) (s1 5 a) (fun h => by rw [h60] at h; cases h) (fun g r g' r' h1 h2 => s1_inj 5 a g r g' r' h1 h2) ⟨⟨_, h5, Le.own (by unfold s1; rw [if_pos rfl]), rfl⟩, he⟩ ⟨fun r hr => ?_, trivial⟩ (by rw [h60]; rfl)
  obtain rfl : r = 0 := by omega
  have e1 : s1 5 a 5 0 = (a, 0) := by unfold s1; rw [if_pos rfl]
  rw [e1]
  refine ⟨1, F, ha, Nat.zero_lt_one, ?_, trivial⟩
  show BLe _ (F 0) _
  rw [hF]; exact blen rfl hf
end Go.Proofs.Ytpclkgjhfhhddaa.AM
/- Rows of numbers as a caller's own. -/
namespace Go.Proofs.Ytpclkgjhfhhddaa.AM
open Go Go.RowKit Go.Proofs.Ytpclkgjhfhhddaa.PN Go.Proofs.Ytpclkgjhfhhddaa.V
open Go.Proofs.Ytpclkgjhfhhddaa.LA (S S_succ S_zero S_congr)
set_option linter.unusedVariables false
set_option linter.unusedSimpArgs false
set_option maxRecDepth 4000
set_option maxHeartbeats 4000000
theorem row_out {s : St} {n : Nat} {v f : Nat → RA} {F : Nat → Blk} {a : Nat} (h5 : s.env 4 = some (.own a 0)) (ha : s.heap a = some (1, F)) (hF : F 0 = .rats n f) (hf : ∀ i, i < n → f i = v i) (h60 : s.used 60 = false) : Imp s (stl [(4, .own 63 0)] [(63, (1, fun _ => .rats n v))]) := by
  refine imp_stl (h := [(63, (1, fun _ => .rats n v))]) (s1 63 a) (fun h => by rw [h60] at h; cases h) (fun g r g' r' h1 h2 => s1_inj 63 a g r g' r' h1 h2) ⟨⟨_, h5, Le.own (by unfold s1; rw [if_pos rfl]), rfl⟩, True.intro⟩ ⟨fun r hr => ?_, trivial⟩ (by rw [h60]; rfl)
  obtain rfl : r = 0 := by omega
  have e1 : s1 63 a 63 0 = (a, 0) := by unfold s1; rw [if_pos rfl]
  rw [e1]
  refine ⟨1, F, ha, Nat.zero_lt_one, ?_, trivial⟩
  show BLe _ (F 0) _
  rw [hF]; exact blen rfl hf
theorem k_rowo {zs : List Int} {n : Nat} (h0 : 0 < n) (hn : n ≤ 1000) (hz : ∀ i, i < zs.length → Fits .i64 (zs.getD i 0)) : HasH Try.prog 32 [] [.seq .i64 zs, .i n] (.own 63 0) [(63, (1, fun _ => .rats n (fun i => .q (rowq zs i))))] := by
  refine hasH_of Try.func32 (by kernel_rfl) rfl Try.ntmps32 Try.results32 rfl rfl rfl ?_
  refine run0 ?_
  refine awp_loop (fun m s => ∃ k, k ≤ n ∧ m = n - k ∧ s = rowS [(0, .seq .i64 zs), (1, .i n), (6, .i (k : Int))] (fun i => .q (rowq zs i)) k) n _ (imp_id (h := []) (e := [(5, .v (.slice none 0 0)), (0, .seq .i64 zs), (1, .i n), (6, .i ((0 : Nat) : Int))]) ?_ ?_) ⟨0, Nat.zero_le _, rfl, rfl⟩ ?_
  · exact eA
  · exact True.intro
  · rintro m s ⟨k, hk, rfl, rfl⟩
    have hx : ∀ k : Nat, k < zs.length → rowx zs k = zs.getD k 0 := fun k h => if_pos h
    have hy : ∀ k : Nat, ¬ k < zs.length → rowx zs k = 3 * (k : Int) + 1 := fun k h => if_neg h
    rcases k with _ | k
    · refine run0 ?_
      refine awp_if rfl (fun h => ?_) (fun h => ?_)
      · have h : 0 < n := by omega
        refine run0 ?_
        refine awp_if rfl (fun h1 => ?_) (fun h1 => ?_)
        · have h1' : (((0 : Nat) : Int)) < (zs.length : Int) := h1
          have h1 : 0 < zs.length := by omega
          have hf := hz 0 h1
          repeat(first|refine run1 ?_|((with_reducible apply st_call);exact rfl;exact rfl;exact rfl;first|(exact k_small hf))|((with_reducible apply st_callg);exact rfl;exact rfl;(first|exact rfl|assumption);exact rfl;exact rfl;exact rfl;first|(exact k_small hf)))
          refine q_loop ?_ (row_close (k := 0) (a := 28) rfl rfl rfl ?_ rfl ?_) ⟨0 + 1, ?_, rfl, rfl⟩
          · omega
          · intro i hi
            obtain rfl : i = 0 := by omega
            exact congrArg (fun x => RA.q (smal x)) (hx 0 h1).symm
          · refine alle rfl (Le.eq rfl rfl) True.intro (alle rfl (Le.eq rfl rfl) True.intro (alle rfl (Le.eq rfl rfl) True.intro True.intro))
          · omega
        · have h1' : ¬ (((0 : Nat) : Int)) < (zs.length : Int) := h1
          have h1 : ¬ 0 < zs.length := by omega
          have hf : Fits .i64 (3 * ((0 : Nat) : Int) + 1) := by show _ ∧ _; omega
          repeat(first|refine run1 ?_|((with_reducible apply st_call);exact rfl;exact rfl;exact rfl;first|(exact k_small hf))|((with_reducible apply st_callg);exact rfl;exact rfl;(first|exact rfl|assumption);exact rfl;exact rfl;exact rfl;first|(exact k_small hf)))
          refine q_loop ?_ (row_close (k := 0) (a := 28) rfl rfl rfl ?_ rfl ?_) ⟨0 + 1, ?_, rfl, rfl⟩
          · omega
          · intro i hi
            obtain rfl : i = 0 := by omega
            exact congrArg (fun x => RA.q (smal x)) (hy 0 h1).symm
          · refine alle rfl (Le.eq rfl rfl) True.intro (alle rfl (Le.eq rfl rfl) True.intro (alle rfl (Le.eq rfl rfl) True.intro True.intro))
          · omega
      · obtain rfl : 0 = n := by omega
        refine run0 ?_
        exact absurd h0 (Nat.lt_irrefl _)
    · refine run0 ?_
      refine awp_if rfl (fun h => ?_) (fun h => ?_)
      · have h : (k + 1) < n := by omega
        refine run0 ?_
        refine awp_if rfl (fun h1 => ?_) (fun h1 => ?_)
        · have h1' : ((((k + 1) : Nat) : Int)) < (zs.length : Int) := h1
          have h1 : (k + 1) < zs.length := by omega
          have hf := hz (k + 1) h1
          repeat(first|refine run1 ?_|((with_reducible apply st_call);exact rfl;exact rfl;exact rfl;first|(exact k_small hf))|((with_reducible apply st_callg);exact rfl;exact rfl;(first|exact rfl|assumption);exact rfl;exact rfl;exact rfl;first|(exact k_small hf)))
          refine q_loop ?_ (row_close (k := (k + 1)) (a := 28) rfl rfl rfl ?_ rfl ?_) ⟨(k + 1) + 1, ?_, rfl, rfl⟩
          · omega
          · intro i hi
            by_cases e : i < k + 1
            · exact if_pos e
            · obtain rfl : i = k + 1 := by omega
              refine (if_neg (Nat.lt_irrefl _)).trans ?_
              rw [Nat.sub_self]
              exact congrArg (fun x => RA.q (smal x)) (hx (k + 1) h1).symm
          · refine alle rfl (Le.eq rfl rfl) True.intro (alle rfl (Le.eq rfl rfl) True.intro (alle rfl (Le.eq rfl rfl) True.intro True.intro))
          · omega
        · have h1' : ¬ ((((k + 1) : Nat) : Int)) < (zs.length : Int) := h1
          have h1 : ¬ (k + 1) < zs.length := by omega
          have hf : Fits .i64 (3 * (((k + 1) : Nat) : Int) + 1) := by show _ ∧ _; omega
          repeat(first|refine run1 ?_|((with_reducible apply st_call);exact rfl;exact rfl;exact rfl;first|(exact k_small hf))|((with_reducible apply st_callg);exact rfl;exact rfl;(first|exact rfl|assumption);exact rfl;exact rfl;exact rfl;first|(exact k_small hf)))
          refine q_loop ?_ (row_close (k := (k + 1)) (a := 28) rfl rfl rfl ?_ rfl ?_) ⟨(k + 1) + 1, ?_, rfl, rfl⟩
          · omega
          · intro i hi
            by_cases e : i < k + 1
            · exact if_pos e
            · obtain rfl : i = k + 1 := by omega
              refine (if_neg (Nat.lt_irrefl _)).trans ?_
              rw [Nat.sub_self]
              exact congrArg (fun x => RA.q (smal x)) (hy (k + 1) h1).symm
          · refine alle rfl (Le.eq rfl rfl) True.intro (alle rfl (Le.eq rfl rfl) True.intro (alle rfl (Le.eq rfl rfl) True.intro True.intro))
          · omega
      · obtain rfl : (k + 1) = n := by omega
        refine run0 ?_
        exact ⟨.inr rfl, [(4, .own 63 0)], row_out rfl rfl rfl (fun _ _ => rfl) rfl, .one (.tmp rfl)⟩
end Go.Proofs.Ytpclkgjhfhhddaa.AM

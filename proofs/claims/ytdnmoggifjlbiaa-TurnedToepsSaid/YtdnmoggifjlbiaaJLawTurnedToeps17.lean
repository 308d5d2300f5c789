/- Joined texts, 17: LawT GenA GenB Zer GenC GenD GenE Sml LawB RowO MkA. -/
import Derived.Test.YtdnmoggifjlbiaaJLawTurnedToeps16
import Derived.Test.YtdnmoggifjlbiaaJLawTurnedToeps12
import Derived.Test.YtdnmoggifjlbiaaJLawTurnedToeps13
set_option linter.unusedVariables false
set_option linter.unusedSimpArgs false
/- Package gen: the table of first counts. -/
namespace Go.Proofs.Ytdnmoggifjlbiaa.V
open Go Go.RowKit Go.Proofs.Ytdnmoggifjlbiaa.PN Go.Proofs.Ytdnmoggifjlbiaa.AM
set_option linter.unusedVariables false
set_option linter.unusedSimpArgs false
def cTab : Tab := ⟨[(1, 0, 2, 0, -1), (2, 0, 2, 0, -1), (3, 0, 1, 0, 0), (4, 0, 1, 0, 0), (5, 0, 1, 0, 0), (5, 1, 1, 0, 0), (6, 2, 0, 1, 0), (6, 3, 0, 1, 0), (7, 0, 1, 0, 0), (7, 1, 1, 0, 0), (7, 2, 0, 1, 0), (7, 3, 0, 1, 0)]⟩
def cmap (a b : Int) : Option (Int × Int × Int) := cTab.map a b
theorem key_ty : ∀ (a b : Int), Try.prog.built 72 [(0, .int .i64 a), (1, .int .i64 b)] = some #[.int .i64 a, .int .i64 b] := by intros; kernel_rfl
theorem val_ty : ∀ (a b c : Int), Try.prog.built 70 [(0, .int .i64 a), (1, .int .i64 b), (2, .int .i64 c)] = some #[.int .i64 a, .int .i64 b, .int .i64 c] := by intros; kernel_rfl
theorem c_tys : MapTys 68 72 70 :=
  ⟨mapK_ok (by rfl), fun w a b => run_build w _ _ _ (key_ty a b), fun w a b c => run_build w _ _ _ (val_ty a b c)⟩
theorem c_counts : Has Try.prog 43 [] (.mp cmap) := by
  refine has_of Try.func43 (by kernel_rfl) rfl Try.ntmps43 Try.results43 rfl rfl rfl ?_
  refine run2 ?_
  refine (awp_map (N := 27) (n := 12) (T := cTab) (M := 68) (K := 72) (V := 70) ?_ c_tys (by decide) rfl rfl rfl ?_)
  · refine ⟨rfl, ⟨_, rfl, rfl, rfl, rfl⟩, fun j hj => ?_, fun j hj => ?_, fun j hj => ?_, ?_, ?_, ?_⟩
    · match j, hj with
      | 0, _ | 1, _ | 2, _ | 3, _ | 4, _ | 5, _ | 6, _ | 7, _ | 8, _ | 9, _ | 10, _ | 11, _ => exact ⟨_, rfl, rfl, rfl, rfl⟩
    · match j, hj with
      | 0, _ | 1, _ | 2, _ | 3, _ | 4, _ | 5, _ | 6, _ | 7, _ | 8, _ | 9, _ | 10, _ | 11, _ => exact ⟨_, rfl, rfl, rfl, rfl⟩
    · match j, hj with
      | 0, _ | 1, _ | 2, _ | 3, _ | 4, _ | 5, _ | 6, _ | 7, _ | 8, _ | 9, _ | 10, _ | 11, _ => exact ⟨_, rfl, rfl, rfl, rfl, edge_of (by rfl), edge_of (by rfl), edge_of (by rfl)⟩
    · exact ⟨_, rfl, rfl, rfl, rfl, edge_of (by rfl)⟩
    · exact ⟨_, rfl, rfl, rfl, rfl, edge_of (by rfl)⟩
    · exact back_of (by rfl)
  · refine awp_ret ⟨.inr rfl, _, Imp.refl _, ?_⟩
    exact .one (.tmp rfl)
end Go.Proofs.Ytdnmoggifjlbiaa.V
/- Package gen: what a system may be. -/
namespace Go.Proofs.Ytdnmoggifjlbiaa.AM
open Go Go.RowKit Go.Proofs.Ytdnmoggifjlbiaa.PN Go.Proofs.Ytdnmoggifjlbiaa.V
set_option linter.unusedVariables false
set_option linter.unusedSimpArgs false
set_option maxRecDepth 8000
set_option maxHeartbeats 8000000
/-- A variable that holds a number and is written no more. -/
theorem imp_rp {s : St} (t : Nat) {g : Nat} {F : Nat → Blk} {f : Nat → RA} (hx : s.env t = some (.rptr g 0 0)) (hg : s.heap g = some (1, F)) (hF : F 0 = .rats 1 f) : Imp s ⟨put s.env t (some (.rp (f 0))), put s.heap g none, s.used⟩ :=
  imp_turn1 hx hg trivial fun W N β w a hs v hv hok hb S' h1 h2 => by
    rw [hF] at hb hok
    obtain ⟨b, hub, e⟩ := hv
    obtain ⟨cs, hB, hr, hat, hx⟩ := rb_rats hb hub
    obtain ⟨sg, vn, vd, a0, a1, a2, a3⟩ := hx 0 (by decide)
    exact ⟨b, 0, e, h2 b hub, cs, sg, vn, vd, hr, a0, a1, a2, a3⟩
theorem rv_ag {S : Nat → Prop} {B : Nat} {β : Nat → Nat → Value} {w : World} {n : Nat} {f f' : Nat → AV} (h : ∀ i, i < n → f i = f' i) (v : Value) (hv : RV S B β w (.ag n f) v) : RV S B β w (.ag n f') v := by
  obtain ⟨cs, e1, e2, e3⟩ := hv
  refine ⟨cs, e1, e2, fun i hi => ?_⟩
  obtain ⟨y, a0, a1, a2⟩ := e3 i hi
  exact ⟨y, a0, a1, h i hi ▸ a2⟩
theorem rvs_same {S : Nat → Prop} {B : Nat} {β : Nat → Nat → Value} {w : World} {xs : List AV} (us : List Value) (h : RVs S B β w xs us) : RVs S B β w xs us := h
theorem Has.ag {P : Program} {f : FuncId} {n : Nat} {u u' : Nat → AV} {xs : List AV} {r : AV} (h : ∀ i, i < n → u i = u' i) (H : Has P f (.ag n u' :: xs) r) : Has P f (.ag n u :: xs) r :=
  Has.args H fun S B β w vs hv => rvs_cons (rv_ag h) rvs_same hv
theorem g7 {f f' : Nat → AV} (h0 : f 0 = f' 0) (h1 : f 1 = f' 1) (h2 : f 2 = f' 2) (h3 : f 3 = f' 3) (h4 : f 4 = f' 4) (h5 : f 5 = f' 5) (h6 : f 6 = f' 6) : ∀ i, i < 7 → f i = f' i := fun i hi => by
  match i, hi with
  | 0, _ => exact h0
  | 1, _ => exact h1
  | 2, _ => exact h2
  | 3, _ => exact h3
  | 4, _ => exact h4
  | 5, _ => exact h5
  | 6, _ => exact h6
/-- A system. -/
structure GD where
  k : Nat
  n : Nat
  r : Nat
  la : Nat
  lb : Nat
  lg : Nat
  lh : Nat
  A : Nat → Rat
  B : Nat → Rat
  G : Nat → Rat
  H : Nat → Rat
def GD.l (g : GD) : List AV := [.i g.k, .i g.n, .i g.r, .row false g.la (fun i => .q (g.A i)), .row false g.lb (fun i => .q (g.B i)), .row false g.lg (fun i => .q (g.G i)), .row false g.lh (fun i => .q (g.H i))]
def GD.f (g : GD) (i : Nat) : AV := g.l.getD i (.v undef)
def GD.v (g : GD) : AV := .ag 7 g.f
/-- Its four rows. -/
def GD.rw (g : GD) (i : Nat) : AV := (g.l.drop 3).getD i (.v undef)
theorem GD.fok (g : GD) (U : Nat → Bool) : ∀ i, (g.f i).ok U
  | 0 | 1 | 2 | 3 | 4 | 5 | 6 => trivial
  | _ + 7 => trivial
theorem GD.rok (g : GD) (U : Nat → Bool) : ∀ i, (g.rw i).ok U
  | 0 | 1 | 2 | 3 => trivial
  | _ + 4 => trivial
/-- It is four rows of numbers that are not long. -/
structure GD.Sm (g : GD) : Prop where
  A : ∀ i, i < g.la → wt (g.A i) ≤ 4
  B : ∀ i, i < g.lb → wt (g.B i) ≤ 4
  G : ∀ i, i < g.lg → wt (g.G i) ≤ 4
  H : ∀ i, i < g.lh → wt (g.H i) ≤ 4
def likeB (k : Nat) : Bool := decide (k = 6) || decide (k = 7)
def GD.len (g : GD) (i : Nat) : Nat := match i with | 0 => g.la | 1 => g.lb | 2 => g.lg | _ => g.lh
structure GD.OK (g : GD) : Prop where
  k1 : 1 ≤ g.k
  k7 : g.k ≤ 7
  n1 : 1 ≤ g.n
  n8 : g.n ≤ 8
  r3 : g.r ≤ 3
  rk : likeB g.k = true → 1 ≤ g.r
  r0 : likeB g.k = false → g.r = 0
  len : ∀ i : Nat, i < 4 → ((g.len i : Nat) : Int) = mpz (cmap g.k i) 0 * g.n + mpz (cmap g.k i) 1 * g.n * g.r + mpz (cmap g.k i) 2
  sm : g.Sm
  ne : ∀ i, i < g.la → ∀ j, j < g.lb → g.A i ≠ g.B j
/-- How large the counts are. -/
theorem cmap_le {k : Nat} (h1 : 1 ≤ k) (h7 : k ≤ 7) {i : Nat} (hi : i < 4) : (0 ≤ mpz (cmap k i) 0 ∧ mpz (cmap k i) 0 ≤ 2) ∧ (0 ≤ mpz (cmap k i) 1 ∧ mpz (cmap k i) 1 ≤ 1) ∧ (-1 ≤ mpz (cmap k i) 2 ∧ mpz (cmap k i) 2 ≤ 0) := by
  have key : ∀ k, k < 8 → 1 ≤ k → ∀ i, i < 4 → (0 ≤ mpz (cmap (k : Nat) (i : Nat)) 0 ∧ mpz (cmap (k : Nat) (i : Nat)) 0 ≤ 2) ∧ (0 ≤ mpz (cmap (k : Nat) (i : Nat)) 1 ∧ mpz (cmap (k : Nat) (i : Nat)) 1 ≤ 1) ∧ (-1 ≤ mpz (cmap (k : Nat) (i : Nat)) 2 ∧ mpz (cmap (k : Nat) (i : Nat)) 2 ≤ 0) := by decide
  exact key k (by omega) h1 i hi
theorem cmap_mul {a : Int} {n r : Nat} (ha : 0 ≤ a ∧ a ≤ 2) (hn : n ≤ 8) (hr : r ≤ 3) : (0 ≤ a * n ∧ a * n ≤ 16) ∧ (0 ≤ a * n * r ∧ a * n * r ≤ 48) := by
  have h : a = 0 ∨ a = 1 ∨ a = 2 := by omega
  have hnr : n * r ≤ 8 * 3 := Nat.mul_le_mul hn hr
  have e : ((n * r : Nat) : Int) = (n : Int) * r := Int.natCast_mul n r
  rcases h with rfl | rfl | rfl
  · simp
  · rw [Int.one_mul, ← e]; omega
  · rw [Int.mul_assoc, ← e]; omega
theorem g_ranked (k : Nat) : Has Try.prog 67 [.i k] (.b (likeB k)) := by
  refine has_of Try.func67 (by kernel_rfl) rfl Try.ntmps67 Try.results67 rfl rfl rfl ?_
  by_cases h6 : k = 6
  · have e0 : decide ((k : Int) = 6) = true := decide_eq_true (by omega)
    have e1 : (decide ((k : Int) = 6) == false) = false := by rw [e0]; rfl
    refine run0p ?_
    refine ⟨.inr rfl, _, Imp.refl _, ?_⟩
    rw [h6]
    exact .one (.tmp rfl)
  · have e0 : decide ((k : Int) = 6) = false := decide_eq_false (by omega)
    have e1 : (decide ((k : Int) = 6) == false) = true := by rw [e0]; rfl
    have e2 : decide ((k : Int) = 7) = likeB k := by
      unfold likeB
      rw [decide_eq_false h6, Bool.false_or]
      exact decide_eq_decide.2 (by omega)
    refine run0p ?_
    refine ⟨.inr rfl, _, Imp.refl _, ?_⟩
    rw [← e2]
    exact .one (.tmp rfl)
theorem g_rows (g : GD) : Has Try.prog 42 [g.v] (.ag 4 g.rw) := by
  refine has_of Try.func42 (by kernel_rfl) rfl Try.ntmps42 Try.results42 rfl rfl rfl ?_
  refine run0p ?_
  refine ⟨.inr rfl, _, Imp.refl _, ?_⟩
  exact .one (.agg rfl rfl rfl rfl (by decide) rfl rfl)
theorem g_sized {g : GD} (h : g.OK) : Has Try.prog 41 [g.v] (.b true) := by
  have n1 := h.n1; have n8 := h.n8; have r3 := h.r3
  refine has_of Try.func41 (by kernel_rfl) rfl Try.ntmps41 Try.results41 rfl rfl rfl ?_
  have e0 : decide ((g.n : Int) < 1) = false := decide_eq_false (by omega)
  have e1 : (decide ((g.n : Int) < 1) == false) = true := by rw [e0]; rfl
  have e2 : decide ((8 : Int) < g.n) = false := decide_eq_false (by omega)
  refine run0p ?_
  refine awp_no rfl e2 ?_
  repeat(first|refine run1p ?_|((with_reducible apply st_call);exact rfl;exact rfl;exact rfl;first|(exact g_ranked g.k))|((with_reducible apply st_callg);exact rfl;exact rfl;(first|exact rfl|assumption);exact rfl;exact rfl;exact rfl;first|(exact g_ranked g.k)))
  cases hk : likeB g.k with
  | true =>
    have hr := h.rk hk
    have e3 : decide ((1 : Int) ≤ g.r) = true := decide_eq_true (by omega)
    have e4 : (decide ((1 : Int) ≤ g.r) == true) = true := by rw [e3]; rfl
    have e5 : decide ((g.r : Int) ≤ 3) = true := decide_eq_true (by omega)
    refine awp_yes rfl rfl ?_
    refine run0p ?_
    refine ⟨.inr rfl, _, Imp.refl _, ?_⟩
    rw [← e5]
    exact .one (.tmp rfl)
  | false =>
    have hr := h.r0 hk
    have e5 : decide ((g.r : Int) = 0) = true := decide_eq_true (by omega)
    refine awp_no rfl rfl ?_
    refine run0p ?_
    refine ⟨.inr rfl, _, Imp.refl _, ?_⟩
    rw [← e5]
    exact .one (.tmp rfl)
theorem g_small {p : Rat} (h : wt p ≤ 4) : Has Try.prog 46 [.q p] (.b true) := by
  have b1 := wt_num p; have b2 := wt_den p
  have e0 : decide (((size (nm p) : Nat) : Int) ≤ 4) = true := decide_eq_true (by omega)
  have e1 : (decide (((size (nm p) : Nat) : Int) ≤ 4) == true) = true := by rw [e0]; rfl
  have e2 : decide (((size p.den : Nat) : Int) ≤ 4) = true := decide_eq_true (by omega)
  have e3 : (decide (((size p.den : Nat) : Int) ≤ 4) == true) = true := by rw [e2]; rfl
  refine has_of Try.func46 (by kernel_rfl) rfl Try.ntmps46 Try.results46 rfl rfl rfl ?_
  repeat(first|refine run1p ?_|((with_reducible apply st_call);exact rfl;exact rfl;exact rfl;first|(exact h_right (by omega)))|((with_reducible apply st_callg);exact rfl;exact rfl;(first|exact rfl|assumption);exact rfl;exact rfl;exact rfl;first|(exact h_right (by omega))))
  exact ⟨.inr rfl, _, Imp.refl _, .one (.tmp rfl)⟩
theorem g_bad {p : Rat} (h : wt p ≤ 4) : Has Try.prog 45 [.q p] (.b false) := by
  refine has_of Try.func45 (by kernel_rfl) rfl Try.ntmps45 Try.results45 rfl rfl rfl ?_
  repeat(first|refine run1p ?_|((with_reducible apply st_call);exact rfl;exact rfl;exact rfl;first|(exact g_small h))|((with_reducible apply st_callg);exact rfl;exact rfl;(first|exact rfl|assumption);exact rfl;exact rfl;exact rfl;first|(exact g_small h)))
  exact ⟨.inr rfl, _, Imp.refl _, .one (.tmp rfl)⟩
theorem g_eqs {p q : Rat} (hp : wt p ≤ 1000000000000) (hq : wt q ≤ 1000000000000) : Has Try.prog 47 [.q q, .rp (.q p)] (.b (decide (p = q))) := by
  refine has_of Try.func47 (by kernel_rfl) rfl Try.ntmps47 Try.results47 rfl rfl rfl ?_
  repeat(first|refine run1p ?_|((with_reducible apply st_call);exact rfl;exact rfl;exact rfl;first|(exact h_same (by omega) (by omega)))|((with_reducible apply st_callg);exact rfl;exact rfl;(first|exact rfl|assumption);exact rfl;exact rfl;exact rfl;first|(exact h_same (by omega) (by omega))))
  exact ⟨.inr rfl, _, Imp.refl _, .one (.tmp rfl)⟩
end Go.Proofs.Ytdnmoggifjlbiaa.AM
/- Package gen: a system is right. -/
namespace Go.Proofs.Ytdnmoggifjlbiaa.AM
open Go Go.RowKit Go.Proofs.Ytdnmoggifjlbiaa.PN Go.Proofs.Ytdnmoggifjlbiaa.V
set_option linter.unusedVariables false
set_option linter.unusedSimpArgs false
set_option maxRecDepth 8000
set_option maxHeartbeats 8000000
/-- No number of a row is asked for. -/
theorem g_index {n m : Nat} {q : Nat → RA} {f : FuncId} {c : Nat → AV} (hc : (AV.clo f m c).closed = true) (hn : n ≤ 1000000) (h : ∀ i, i < n → Has Try.prog f (([AV.ra (q i)] ++ (List.range m).map c).map AV.old) (.b false)) :
    Has Try.prog 68 [.row false n q, .clo f m c] (.i (-1)) := by
  refine has_of Try.func68 (by kernel_rfl) rfl Try.ntmps68 Try.results68 (by show (true && ((AV.clo f m c).closed && true)) = true; rw [hc]; rfl) rfl rfl ?_
  refine run0p ?_
  refine awp_loop (fun m' s => ∃ k, k ≤ n ∧ m' = n - k ∧ s = stl [(0, .row false n q), (1, .clo f m c), (7, .i n), (8, .i (k : Int))] []) n _ (imp_id ?_ ?_) ⟨0, Nat.zero_le _, rfl, rfl⟩ ?_
  · refine alle rfl (Le.id rfl) True.intro (alle rfl (Le.id rfl) (ok_none (closed_ok hc)) ?_)
    exact eA
  · exact hA
  · rintro m' s ⟨k, hk, rfl, rfl⟩
    refine run0p ?_
    refine awp_if rfl (fun h' => ?_) (fun h' => ?_)
    · have hk' : k < n := by omega
      repeat(first|refine run1p ?_|((with_reducible apply st_call);exact rfl;exact rfl;exact rfl;first|(exact h k hk'))|((with_reducible apply st_callg);exact rfl;exact rfl;(first|exact rfl|assumption);exact rfl;exact rfl;exact rfl;first|(exact h k hk')))
      refine awp_no rfl rfl ?_
      refine run0p ?_
      refine q_loop ?_ (imp_id ?_ ?_) ⟨k + 1, ?_, rfl, rfl⟩
      · omega
      · refine alle rfl (Le.id rfl) True.intro (alle rfl (Le.id rfl) (ok_none (closed_ok hc)) ?_)
        exact eA
      · exact hA
      · omega
    · refine run0p ?_
      exact ⟨.inr rfl, _, Imp.refl _, .one (.tmp rfl)⟩
theorem g_contains {n m : Nat} {q : Nat → RA} {f : FuncId} {c : Nat → AV} (hc : (AV.clo f m c).closed = true) (hc2 : (AV.clo f m fun i => (c i).old).closed = true) (hn : n ≤ 1000000) (h : ∀ i, i < n → Has Try.prog f (([AV.ra (q i)] ++ (List.range m).map fun i => (c i).old).map AV.old) (.b false)) :
    Has Try.prog 44 [.row false n q, .clo f m c] (.b false) := by
  refine has_of Try.func44 (by kernel_rfl) rfl Try.ntmps44 Try.results44 (by show (true && ((AV.clo f m c).closed && true)) = true; rw [hc]; rfl) rfl rfl ?_
  have H := g_index hc2 hn h
  repeat(first|refine run1p ?_|((with_reducible apply st_call);exact rfl;exact rfl;exact rfl;first|(exact H))|((with_reducible apply st_callg);exact rfl;exact rfl;(first|exact rfl|assumption);exact rfl;exact rfl;exact rfl;first|(exact H)))
  exact ⟨.inr rfl, _, Imp.refl _, .one (.tmp rfl)⟩
theorem rv_fn {S : Nat → Prop} {B : Nat} {β : Nat → Nat → Value} {w : World} {f : FuncId} {c : Nat → AV} (v : Value) (hv : RV S B β w (.v (.func (.func f) #[] #[])) v) : RV S B β w (.clo f 0 c) v :=
  ⟨#[], hv, rfl, fun i hi => absurd hi (Nat.not_lt_zero _)⟩
theorem g_contains0 {n : Nat} {q : Nat → RA} {f : FuncId} (hn : n ≤ 1000000) (h : ∀ i, i < n → Has Try.prog f [(AV.ra (q i)).old] (.b false)) :
    Has Try.prog 44 [.row false n q, .v (.func (.func f) #[] #[])] (.b false) :=
  Has.args (g_contains (m := 0) (c := fun _ => .v undef) rfl rfl hn h) fun S B β w vs hv => rvs_cons (fun v hv => hv) (fun us hu => rvs_cons rv_fn (fun us hu => hu) hu) hv
theorem rv_clo {S : Nat → Prop} {B : Nat} {β : Nat → Nat → Value} {w : World} {n : Nat} {f : FuncId} {c c' : Nat → AV} (h : ∀ i, i < n → c i = c' i) (v : Value) (hv : RV S B β w (.clo f n c) v) : RV S B β w (.clo f n c') v := by
  obtain ⟨cap, e1, e2, e3⟩ := hv
  refine ⟨cap, e1, e2, fun i hi => ?_⟩
  obtain ⟨y, a0, a1⟩ := e3 i hi
  exact ⟨y, a0, h i hi ▸ a1⟩
theorem Has.clo2 {P : Program} {f g : FuncId} {n : Nat} {u u' : Nat → AV} {x r : AV} (h : ∀ i, i < n → u i = u' i) (H : Has P f [x, .clo g n u'] r) : Has P f [x, .clo g n u] r :=
  Has.args H fun S B β w vs hv => rvs_cons (fun v hv => hv) (fun us hu => rvs_cons (rv_clo h) rvs_same hu) hv
theorem one1 {f f' : Nat → AV} (h : f 0 = f' 0) : ∀ i, i < 1 → f i = f' i := fun i hi => by
  obtain rfl : i = 0 := by omega
  exact h
theorem cfacts {g : GD} (h : g.OK) {i : Nat} (hi : i < 4) : Fits .i64 (mpz (cmap g.k i) 0 * g.n) ∧ Fits .i64 (mpz (cmap g.k i) 1 * g.n) ∧ Fits .i64 (mpz (cmap g.k i) 1 * g.n * g.r) ∧ Fits .i64 (mpz (cmap g.k i) 0 * g.n + mpz (cmap g.k i) 1 * g.n * g.r) ∧
    Fits .i64 (mpz (cmap g.k i) 0 * g.n + mpz (cmap g.k i) 1 * g.n * g.r + mpz (cmap g.k i) 2) ∧ ((g.len i : Nat) : Int) = mpz (cmap g.k i) 0 * g.n + mpz (cmap g.k i) 1 * g.n * g.r + mpz (cmap g.k i) 2 := by
  obtain ⟨c0, c1, c2⟩ := cmap_le h.k1 h.k7 hi
  obtain ⟨p0, _⟩ := cmap_mul c0 h.n8 h.r3
  obtain ⟨p1, p2⟩ := cmap_mul (n := g.n) (r := g.r) ⟨c1.1, Int.le_trans c1.2 (by decide)⟩ h.n8 h.r3
  refine ⟨?_, ?_, ?_, ?_, ?_, h.len i hi⟩ <;> (simp only [Fits]; omega)
theorem GD.OK.lenle {g : GD} (h : g.OK) (i : Nat) (hi : i < 4) : g.len i ≤ 1000000 := by
  have := (cfacts h hi).2.2.2.2.2
  obtain ⟨c0, c1, c2⟩ := cmap_le h.k1 h.k7 hi
  obtain ⟨p0, _⟩ := cmap_mul c0 h.n8 h.r3
  obtain ⟨p1, p2⟩ := cmap_mul (n := g.n) (r := g.r) ⟨c1.1, Int.le_trans c1.2 (by decide)⟩ h.n8 h.r3
  omega
/-- A system that is right. -/
theorem g_check {g : GD} (h : g.OK) : Has Try.prog 23 [g.v] (.i 0) := by
  have n1 := h.n1; have n8 := h.n8; have r3 := h.r3; have k1 := h.k1; have k7 := h.k7
  have e0 : decide ((g.k : Int) < 1) = false := decide_eq_false (by omega)
  have e1 : (decide ((g.k : Int) < 1) == false) = true := by rw [e0]; rfl
  have e2 : decide ((7 : Int) < g.k) = false := decide_eq_false (by omega)
  refine has_of Try.func23 (by kernel_rfl) rfl Try.ntmps23 Try.results23 rfl rfl rfl ?_
  refine run0p ?_
  refine awp_no rfl e2 ?_
  repeat(first|refine run1p ?_|((with_reducible apply st_call);exact rfl;exact rfl;exact rfl;first|(exact Has.ag (g7 rfl rfl rfl rfl rfl rfl rfl) (g_sized h)))|((with_reducible apply st_callg);exact rfl;exact rfl;(first|exact rfl|assumption);exact rfl;exact rfl;exact rfl;first|(exact Has.ag (g7 rfl rfl rfl rfl rfl rfl rfl) (g_sized h))))
  refine awp_no rfl rfl ?_
  repeat(first|refine run1p ?_|((with_reducible apply st_call);exact rfl;exact rfl;exact rfl;first|(exact Has.ag (g7 rfl rfl rfl rfl rfl rfl rfl) (g_rows g))|(exact V.c_counts))|((with_reducible apply st_callg);exact rfl;exact rfl;(first|exact rfl|assumption);exact rfl;exact rfl;exact rfl;first|(exact Has.ag (g7 rfl rfl rfl rfl rfl rfl rfl) (g_rows g))|(exact V.c_counts)))
  refine awp_loop (fun m' s => ∃ k, k ≤ 4 ∧ m' = 4 - k ∧ s = stl [(1, .ptr 1 0 0), (3, .ptr 3 0 0), (4, .mp cmap), (28, .ag 4 g.rw), (29, .i (k : Int))] [(1, (1, fun _ => .ones 26 7 g.f)), (3, (1, fun _ => .ones 66 4 g.rw))]) 4 _ (imp_id ?_ ?_) ⟨0, by omega, rfl, rfl⟩ ?_
  · refine alle rfl (Le.id rfl) rfl (alle rfl (Le.id rfl) rfl (alle rfl (Le.id rfl) True.intro (alle rfl (Le.id rfl) (fun i _ => g.rok _ i) ?_)))
    exact eA
  · refine allh rfl (by decide) (bleo rfl fun _ _ => Le.id rfl) (fun i _ => g.fok _ i) (allh rfl (by decide) (bleo rfl fun _ _ => Le.id rfl) (fun i _ => g.rok _ i) True.intro)
  · rintro m' s ⟨k, hk, rfl, rfl⟩
    match k, hk with
    | 0, _ =>
      obtain ⟨⟨a0, b0⟩, ⟨a1, b1⟩, ⟨a2, b2⟩, ⟨a3, b3⟩, ⟨a4, b4⟩, hl⟩ := cfacts h (i := 0) (by omega)
      have hl2 : decide (((g.len 0 : Nat) : Int) ≠ mpz (cmap g.k (0 : Nat)) 0 * g.n + mpz (cmap g.k (0 : Nat)) 1 * g.n * g.r + mpz (cmap g.k (0 : Nat)) 2) = false := decide_eq_false fun hx => hx hl
      refine run0p ?_
      refine awp_yes rfl rfl ?_
      refine run0p ?_
      refine awp_no rfl hl2 ?_
      refine run0p ?_
      refine q_loop ?_ (imp_id ?_ ?_) ⟨1, ?_, rfl, rfl⟩
      · decide
      · refine alle rfl (Le.id rfl) rfl (alle rfl (Le.id rfl) rfl (alle rfl (Le.id rfl) True.intro (alle rfl (Le.id rfl) (fun i _ => g.rok _ i) ?_)))
        exact eA
      · refine allh rfl (by decide) (bleo rfl fun _ _ => Le.id rfl) (fun i _ => g.fok _ i) (allh rfl (by decide) (bleo rfl fun _ _ => Le.id rfl) (fun i _ => g.rok _ i) True.intro)
      · decide
    | 1, _ =>
      obtain ⟨⟨a0, b0⟩, ⟨a1, b1⟩, ⟨a2, b2⟩, ⟨a3, b3⟩, ⟨a4, b4⟩, hl⟩ := cfacts h (i := 1) (by omega)
      have hl2 : decide (((g.len 1 : Nat) : Int) ≠ mpz (cmap g.k (1 : Nat)) 0 * g.n + mpz (cmap g.k (1 : Nat)) 1 * g.n * g.r + mpz (cmap g.k (1 : Nat)) 2) = false := decide_eq_false fun hx => hx hl
      refine run0p ?_
      refine awp_yes rfl rfl ?_
      refine run0p ?_
      refine awp_no rfl hl2 ?_
      refine run0p ?_
      refine q_loop ?_ (imp_id ?_ ?_) ⟨2, ?_, rfl, rfl⟩
      · decide
      · refine alle rfl (Le.id rfl) rfl (alle rfl (Le.id rfl) rfl (alle rfl (Le.id rfl) True.intro (alle rfl (Le.id rfl) (fun i _ => g.rok _ i) ?_)))
        exact eA
      · refine allh rfl (by decide) (bleo rfl fun _ _ => Le.id rfl) (fun i _ => g.fok _ i) (allh rfl (by decide) (bleo rfl fun _ _ => Le.id rfl) (fun i _ => g.rok _ i) True.intro)
      · decide
    | 2, _ =>
      obtain ⟨⟨a0, b0⟩, ⟨a1, b1⟩, ⟨a2, b2⟩, ⟨a3, b3⟩, ⟨a4, b4⟩, hl⟩ := cfacts h (i := 2) (by omega)
      have hl2 : decide (((g.len 2 : Nat) : Int) ≠ mpz (cmap g.k (2 : Nat)) 0 * g.n + mpz (cmap g.k (2 : Nat)) 1 * g.n * g.r + mpz (cmap g.k (2 : Nat)) 2) = false := decide_eq_false fun hx => hx hl
      refine run0p ?_
      refine awp_yes rfl rfl ?_
      refine run0p ?_
      refine awp_no rfl hl2 ?_
      refine run0p ?_
      refine q_loop ?_ (imp_id ?_ ?_) ⟨3, ?_, rfl, rfl⟩
      · decide
      · refine alle rfl (Le.id rfl) rfl (alle rfl (Le.id rfl) rfl (alle rfl (Le.id rfl) True.intro (alle rfl (Le.id rfl) (fun i _ => g.rok _ i) ?_)))
        exact eA
      · refine allh rfl (by decide) (bleo rfl fun _ _ => Le.id rfl) (fun i _ => g.fok _ i) (allh rfl (by decide) (bleo rfl fun _ _ => Le.id rfl) (fun i _ => g.rok _ i) True.intro)
      · decide
    | 3, _ =>
      obtain ⟨⟨a0, b0⟩, ⟨a1, b1⟩, ⟨a2, b2⟩, ⟨a3, b3⟩, ⟨a4, b4⟩, hl⟩ := cfacts h (i := 3) (by omega)
      have hl2 : decide (((g.len 3 : Nat) : Int) ≠ mpz (cmap g.k (3 : Nat)) 0 * g.n + mpz (cmap g.k (3 : Nat)) 1 * g.n * g.r + mpz (cmap g.k (3 : Nat)) 2) = false := decide_eq_false fun hx => hx hl
      refine run0p ?_
      refine awp_yes rfl rfl ?_
      refine run0p ?_
      refine awp_no rfl hl2 ?_
      refine run0p ?_
      refine q_loop ?_ (imp_id ?_ ?_) ⟨4, ?_, rfl, rfl⟩
      · decide
      · refine alle rfl (Le.id rfl) rfl (alle rfl (Le.id rfl) rfl (alle rfl (Le.id rfl) True.intro (alle rfl (Le.id rfl) (fun i _ => g.rok _ i) ?_)))
        exact eA
      · refine allh rfl (by decide) (bleo rfl fun _ _ => Le.id rfl) (fun i _ => g.fok _ i) (allh rfl (by decide) (bleo rfl fun _ _ => Le.id rfl) (fun i _ => g.rok _ i) True.intro)
      · decide
    | 4, _ =>
      refine run0p ?_
      refine awp_no rfl rfl ?_
      refine run0p ?_
      refine awp_loop (fun m' s => ∃ k, k ≤ 4 ∧ m' = 4 - k ∧ s = stl [(1, .ptr 1 0 0), (60, .ag 4 g.rw), (61, .i (k : Int))] [(1, (1, fun _ => .ones 26 7 g.f))]) 4 _ (imp_id ?_ ?_) ⟨0, by omega, rfl, rfl⟩ ?_
      · refine alle rfl (Le.id rfl) rfl (alle rfl (Le.id rfl) (fun i _ => g.rok _ i) ?_)
        exact eA
      · refine allh rfl (by decide) (bleo rfl fun _ _ => Le.id rfl) (fun i _ => g.fok _ i) True.intro
      · rintro m' s ⟨k, hk, rfl, rfl⟩
        match k, hk with
        | 0, _ =>
          have c := g_contains0 (f := 45) (n := g.la) (q := fun i => .q (g.A i)) (h.lenle 0 (by omega)) fun i hi => g_bad (h.sm.A i hi)
          refine run0p ?_
          refine awp_yes rfl rfl ?_
          repeat(first|refine run1p ?_|((with_reducible apply st_call);exact rfl;exact rfl;exact rfl;first|(exact c))|((with_reducible apply st_callg);exact rfl;exact rfl;(first|exact rfl|assumption);exact rfl;exact rfl;exact rfl;first|(exact c)))
          refine awp_no rfl rfl ?_
          refine run0p ?_
          refine q_loop ?_ (imp_id ?_ ?_) ⟨1, ?_, rfl, rfl⟩
          · decide
          · refine alle rfl (Le.id rfl) rfl (alle rfl (Le.id rfl) (fun i _ => g.rok _ i) ?_)
            exact eA
          · refine allh rfl (by decide) (bleo rfl fun _ _ => Le.id rfl) (fun i _ => g.fok _ i) True.intro
          · decide
        | 1, _ =>
          have c := g_contains0 (f := 45) (n := g.lb) (q := fun i => .q (g.B i)) (h.lenle 1 (by omega)) fun i hi => g_bad (h.sm.B i hi)
          refine run0p ?_
          refine awp_yes rfl rfl ?_
          repeat(first|refine run1p ?_|((with_reducible apply st_call);exact rfl;exact rfl;exact rfl;first|(exact c))|((with_reducible apply st_callg);exact rfl;exact rfl;(first|exact rfl|assumption);exact rfl;exact rfl;exact rfl;first|(exact c)))
          refine awp_no rfl rfl ?_
          refine run0p ?_
          refine q_loop ?_ (imp_id ?_ ?_) ⟨2, ?_, rfl, rfl⟩
          · decide
          · refine alle rfl (Le.id rfl) rfl (alle rfl (Le.id rfl) (fun i _ => g.rok _ i) ?_)
            exact eA
          · refine allh rfl (by decide) (bleo rfl fun _ _ => Le.id rfl) (fun i _ => g.fok _ i) True.intro
          · decide
        | 2, _ =>
          have c := g_contains0 (f := 45) (n := g.lg) (q := fun i => .q (g.G i)) (h.lenle 2 (by omega)) fun i hi => g_bad (h.sm.G i hi)
          refine run0p ?_
          refine awp_yes rfl rfl ?_
          repeat(first|refine run1p ?_|((with_reducible apply st_call);exact rfl;exact rfl;exact rfl;first|(exact c))|((with_reducible apply st_callg);exact rfl;exact rfl;(first|exact rfl|assumption);exact rfl;exact rfl;exact rfl;first|(exact c)))
          refine awp_no rfl rfl ?_
          refine run0p ?_
          refine q_loop ?_ (imp_id ?_ ?_) ⟨3, ?_, rfl, rfl⟩
          · decide
          · refine alle rfl (Le.id rfl) rfl (alle rfl (Le.id rfl) (fun i _ => g.rok _ i) ?_)
            exact eA
          · refine allh rfl (by decide) (bleo rfl fun _ _ => Le.id rfl) (fun i _ => g.fok _ i) True.intro
          · decide
        | 3, _ =>
          have c := g_contains0 (f := 45) (n := g.lh) (q := fun i => .q (g.H i)) (h.lenle 3 (by omega)) fun i hi => g_bad (h.sm.H i hi)
          refine run0p ?_
          refine awp_yes rfl rfl ?_
          repeat(first|refine run1p ?_|((with_reducible apply st_call);exact rfl;exact rfl;exact rfl;first|(exact c))|((with_reducible apply st_callg);exact rfl;exact rfl;(first|exact rfl|assumption);exact rfl;exact rfl;exact rfl;first|(exact c)))
          refine awp_no rfl rfl ?_
          refine run0p ?_
          refine q_loop ?_ (imp_id ?_ ?_) ⟨4, ?_, rfl, rfl⟩
          · decide
          · refine alle rfl (Le.id rfl) rfl (alle rfl (Le.id rfl) (fun i _ => g.rok _ i) ?_)
            exact eA
          · refine allh rfl (by decide) (bleo rfl fun _ _ => Le.id rfl) (fun i _ => g.fok _ i) True.intro
          · decide
        | 4, _ =>
          refine run0p ?_
          refine awp_no rfl rfl ?_
          refine run0p ?_
          refine awp_loop (fun m' s => ∃ k, k ≤ g.la ∧ m' = g.la - k ∧ s = stl [(1, .ptr 1 0 0), (68, .row false g.la (fun i => .q (g.A i))), (69, .i g.la), (70, .i (k : Int))] [(1, (1, fun _ => .ones 26 7 g.f))]) g.la _ (imp_id ?_ ?_) ⟨0, Nat.zero_le _, rfl, rfl⟩ ?_
          · refine alle rfl (Le.id rfl) rfl ?_
            exact eA
          · refine allh rfl (by decide) (bleo rfl fun _ _ => Le.id rfl) (fun i _ => g.fok _ i) True.intro
          · rintro m' s ⟨k, hk, rfl, rfl⟩
            have hla : g.la ≤ 1000000 := h.lenle 0 (by omega)
            refine run0p ?_
            refine awp_if rfl (fun h' => ?_) (fun h' => ?_)
            · have hk' : k < g.la := by omega
              have w1 := h.sm.A k hk'
              have c := g_contains (f := 47) (m := 1) (c := fun i => [AV.rp (.q (g.A k))].getD i (.v undef)) (n := g.lb) (q := fun i => .q (g.B i)) rfl rfl (h.lenle 1 (by omega)) fun i hi => by
                have e := g_eqs (p := g.A k) (q := g.B i) (by omega) (by have := h.sm.B i hi; omega)
                rw [decide_eq_false (h.ne k hk' i hi)] at e
                exact e
              refine run3 ?_
              repeat(first|refine run4p ?_)
              refine awp_imp (imp_rp 11 rfl rfl rfl) ?_
              repeat(first|refine run1p ?_|((with_reducible apply st_call);exact rfl;exact rfl;exact rfl;first|(exact Has.clo2 (one1 rfl) c))|((with_reducible apply st_callg);exact rfl;exact rfl;(first|exact rfl|assumption);exact rfl;exact rfl;exact rfl;first|(exact Has.clo2 (one1 rfl) c)))
              refine awp_no rfl rfl ?_
              refine run0p ?_
              refine q_loop ?_ (imp_id ?_ ?_) ⟨k + 1, ?_, rfl, rfl⟩
              · omega
              · refine alle rfl (Le.id rfl) rfl ?_
                exact eA
              · refine allh rfl (by decide) (bleo rfl fun _ _ => Le.id rfl) (fun i _ => g.fok _ i) True.intro
              · omega
            · refine run0p ?_
              exact ⟨.inr rfl, _, Imp.refl _, .one (.tmp rfl)⟩
end Go.Proofs.Ytdnmoggifjlbiaa.AM
/- Dense matrices: walks: numbers, sums of products. -/
namespace Go.Proofs.Ytdnmoggifjlbiaa.AM
open Go Go.RowKit Go.Proofs.Ytdnmoggifjlbiaa.PN Go.Proofs.Ytdnmoggifjlbiaa.V
open Go.Proofs.Ytdnmoggifjlbiaa.LA (S S_succ S_zero S_congr)
set_option linter.unusedVariables false
set_option linter.unusedSimpArgs false
theorem Has.imp {f : FuncId} {xs : List AV} {r r' : AV} (h : Has Try.prog f xs r) (hc : r'.closed = true) (k : ∀ S B β w v, RV S B β w r v → RV S B β w r' v) : Has Try.prog f xs r' :=
  ⟨h.b, closed_ok hc, fun w S β vs hv => (h.run w S β vs hv).mono fun e w' ⟨v, he, hk, hr⟩ => ⟨v, he, hk, k _ _ _ _ _ hr⟩⟩
def joinQ (s1 : St) (e : Exit) (s' : St) : Prop := e = .normal ∧ Imp s' s1
theorem awp_join {P : Program} {M : Nat} {c y : Code} {Q : Exit → St → Prop} {s : St} (s1 : St) (h : AWP P M c (joinQ s1) s) (k : AWP P M y Q s1) : AWP P M c (thenQ P M y Q) s :=
  awp_mono h fun e s' ⟨he, hi⟩ => by subst he; exact awp_imp hi k
end Go.Proofs.Ytdnmoggifjlbiaa.AM
/- Package gen: entries. -/
namespace Go.Proofs.Ytdnmoggifjlbiaa.AM
open Go Go.RowKit Go.Proofs.Ytdnmoggifjlbiaa.PN Go.Proofs.Ytdnmoggifjlbiaa.V
open Go.Proofs.Ytdnmoggifjlbiaa.LA (S S_succ S_zero S_congr)
set_option linter.unusedVariables false
set_option linter.unusedSimpArgs false
set_option maxRecDepth 8000
set_option maxHeartbeats 8000000
theorem wt_sum {n K : Nat} {f : Nat → Rat} (h : ∀ i, i < n → wt (f i) ≤ K) : wt (S n f) ≤ n * (K + 1) + 1 := by
  induction n with
  | zero => rw [S_zero]; have : wt 0 ≤ 1 := by decide
            omega
  | succ m ih =>
    rw [S_succ]
    have h1 := wt_add (S m f) (f m)
    have h2 := h m (by omega)
    have h3 := ih fun i hi => h i (by omega)
    rw [Nat.succ_mul]
    omega
/-- The product of two rows of a system. -/
def rdot (g : GD) (i j : Nat) : Rat := S g.r fun k => g.G (i * g.r + k) * g.H (j * g.r + k)
/-- An entry. -/
def gent (g : GD) (i j : Nat) : Rat :=
  match g.k with
  | 1 => g.A (i + g.n - 1 - j)
  | 2 => g.A (i + j)
  | 3 => g.A ((i + g.n - j) % g.n)
  | 4 => g.A i ^ j
  | 5 => 1 / (g.A i - g.B j)
  | 6 => S (min i j + 1) fun m => rdot g (i - m) (j - m)
  | _ => rdot g i j / (g.A i - g.B j)
theorem rdot_wt {g : GD} {i j : Nat} (sm : g.Sm) (hg : i * g.r + g.r ≤ g.lg) (hh : j * g.r + g.r ≤ g.lh) (hr : g.r ≤ 3) : wt (rdot g i j) ≤ 28 := by
  have := wt_sum (n := g.r) (K := 8) (f := fun k => g.G (i * g.r + k) * g.H (j * g.r + k)) fun u hu => by
    have h1 := wt_mul (g.G (i * g.r + u)) (g.H (j * g.r + u)); have h2 := sm.G (i * g.r + u) (by omega); have h3 := sm.H (j * g.r + u) (by omega)
    omega
  unfold rdot
  omega
/-- What is known of a kind. -/
theorem ok_lens {g : GD} (h : g.OK) : (g.k = 1 ∨ g.k = 2 → g.la = 2 * g.n - 1) ∧ (g.k = 3 ∨ g.k = 4 ∨ g.k = 5 ∨ g.k = 7 → g.la = g.n) ∧ (g.k = 5 ∨ g.k = 7 → g.lb = g.n) ∧ (g.k = 6 ∨ g.k = 7 → g.lg = g.n * g.r ∧ g.lh = g.n * g.r) := by
  have h1 := h.k1; have h7 := h.k7; have n1 := h.n1
  have l0 := h.len 0 (by omega); have l1 := h.len 1 (by omega); have l2 := h.len 2 (by omega); have l3 := h.len 3 (by omega)
  have e : ((g.n * g.r : Nat) : Int) = (g.n : Int) * g.r := Int.natCast_mul g.n g.r
  have hk : g.k = 1 ∨ g.k = 2 ∨ g.k = 3 ∨ g.k = 4 ∨ g.k = 5 ∨ g.k = 6 ∨ g.k = 7 := by omega
  have c : ∀ (x y z n r : Int), x = 0 → y = 1 → z = 0 → x * n + y * n * r + z = n * r := by intro x y z n r hx hy hz; subst hx; subst hy; subst hz; simp
  have d : ∀ (x y z n r : Int), x = 1 → y = 0 → z = 0 → x * n + y * n * r + z = n := by intro x y z n r hx hy hz; subst hx; subst hy; subst hz; simp
  have f : ∀ (x y z n r : Int), x = 2 → y = 0 → z = -1 → x * n + y * n * r + z = 2 * n - 1 := by intro x y z n r hx hy hz; subst hx; subst hy; subst hz; simp; omega
  change (g.la : Int) = _ at l0
  change (g.lb : Int) = _ at l1
  change (g.lg : Int) = _ at l2
  change (g.lh : Int) = _ at l3
  rcases hk with hk | hk | hk | hk | hk | hk | hk <;> rw [hk] at l0 l1 l2 l3 ⊢
  · rw [f _ _ _ _ _ (by decide) (by decide) (by decide)] at l0
    exact ⟨fun _ => by omega, fun h => by omega, fun h => by omega, fun h => by omega⟩
  · rw [f _ _ _ _ _ (by decide) (by decide) (by decide)] at l0
    exact ⟨fun _ => by omega, fun h => by omega, fun h => by omega, fun h => by omega⟩
  · rw [d _ _ _ _ _ (by decide) (by decide) (by decide)] at l0
    exact ⟨fun h => by omega, fun _ => by omega, fun h => by omega, fun h => by omega⟩
  · rw [d _ _ _ _ _ (by decide) (by decide) (by decide)] at l0
    exact ⟨fun h => by omega, fun _ => by omega, fun h => by omega, fun h => by omega⟩
  · rw [d _ _ _ _ _ (by decide) (by decide) (by decide)] at l0 l1
    exact ⟨fun h => by omega, fun _ => by omega, fun _ => by omega, fun h => by omega⟩
  · rw [c _ _ _ _ _ (by decide) (by decide) (by decide)] at l2 l3
    exact ⟨fun h => by omega, fun h => by omega, fun h => by omega, fun _ => by rw [← e] at l2 l3; omega⟩
  · rw [d _ _ _ _ _ (by decide) (by decide) (by decide)] at l0 l1
    rw [c _ _ _ _ _ (by decide) (by decide) (by decide)] at l2 l3
    exact ⟨fun h => by omega, fun _ => by omega, fun _ => by omega, fun _ => by rw [← e] at l2 l3; omega⟩
end Go.Proofs.Ytdnmoggifjlbiaa.AM
/- Package gen: entries, of each kind. -/
namespace Go.Proofs.Ytdnmoggifjlbiaa.AM
open Go Go.RowKit Go.Proofs.Ytdnmoggifjlbiaa.PN Go.Proofs.Ytdnmoggifjlbiaa.V
open Go.Proofs.Ytdnmoggifjlbiaa.LA (S S_succ S_zero S_congr)
set_option linter.unusedVariables false
set_option linter.unusedSimpArgs false
set_option maxRecDepth 8000
set_option maxHeartbeats 8000000
theorem kdec {k a : Nat} (h : k = a) {b : Int} (e : (a : Int) = b) : decide ((k : Int) = b) = true := decide_eq_true (by rw [h, e])
theorem kndec {k a : Nat} (h : k = a) {b : Int} (e : (a : Int) ≠ b) : decide ((k : Int) = b) = false := decide_eq_false (by rw [h]; exact e)
end Go.Proofs.Ytdnmoggifjlbiaa.AM
/- Package gen: the whole matrix. -/
namespace Go.Proofs.Ytdnmoggifjlbiaa.AM
open Go Go.RowKit Go.Proofs.Ytdnmoggifjlbiaa.PN Go.Proofs.Ytdnmoggifjlbiaa.V
open Go.Proofs.Ytdnmoggifjlbiaa.LA (S S_succ S_zero S_congr)
set_option linter.unusedVariables false
set_option linter.unusedSimpArgs false
set_option maxRecDepth 8000
set_option maxHeartbeats 8000000
end Go.Proofs.Ytdnmoggifjlbiaa.AM
/- Small numbers that are drawn: walked. -/
namespace Go.Proofs.Ytdnmoggifjlbiaa.AM
open Go Go.RowKit Go.Proofs.Ytdnmoggifjlbiaa.PN Go.Proofs.Ytdnmoggifjlbiaa.V
open Go.Proofs.Ytdnmoggifjlbiaa.LA (S S_succ S_zero S_congr)
set_option linter.unusedVariables false
set_option linter.unusedSimpArgs false
set_option maxRecDepth 4000
set_option maxHeartbeats 4000000
/-! ### Numbers that are drawn -/
theorem hs_of (n d : Int) (h1 : -9223372036854775808 ≤ n) (h2 : n < 9223372036854775808) (h3 : 0 < d) (h4 : d < 9223372036854775808) : Has Try.prog 36 [.i n, .i d] (.tup (.q ((n : Rat) / (d : Rat))) (.i 0)) := by
  refine ⟨by kernel_rfl, ⟨trivial, trivial⟩, fun w S β vs hv => ?_⟩
  obtain ⟨v, u, rfl, e1, e2⟩ := rvs2 hv
  have e1 : v = .int .i64 n := e1
  have e2 : u = .int .i64 d := e2
  subst e1; subst e2
  refine (s_of n d w h1 h2 (by omega) h4 (by omega)).mono ?_
  rintro e w' ⟨s, vn, vd, rfl, h1, h2⟩
  refine ⟨_, rfl, h2, _, _, rfl, ?_, rfl⟩
  have hq : mk (decide (n < 0) != decide (d < 0)) n.natAbs d.natAbs = (n : Rat) / (d : Rat) := by
    have h5 : (decide (n < 0) != decide (d < 0)) = decide (n < 0) := by rw [decide_eq_false (show ¬ d < 0 by omega)]; simp
    rw [h5]
    have h6 : PN.sg (decide (n < 0)) n.natAbs = n := by
      unfold PN.sg
      by_cases h : n < 0
      · rw [decide_eq_true h]; simp; omega
      · rw [decide_eq_false h]; simp; omega
    unfold mk
    rw [h6, Rat.mkRat_eq_div]
    have h7 : ((d.natAbs : Nat) : Int) = d := by omega
    rw [show ((d.natAbs : Nat) : Rat) = (((d.natAbs : Nat) : Int) : Rat) from rfl, h7]
  rw [← hq]
  exact rat_rv h1
/-- A number from 0 to n - 1. -/
def wthn (a n : Int) : Int := if a.tmod n < 0 then a.tmod n + n else a.tmod n
theorem wthn_lt {a n : Int} (hn : 0 < n) : 0 ≤ wthn a n ∧ wthn a n < n := by
  unfold wthn
  have h1 := Int.tmod_lt_of_pos a hn
  have h2 : -n < a.tmod n := Int.lt_tmod_of_pos a hn
  split <;> omega
theorem k_within2 {a n : Int} (hn : 0 < n) (hn' : n < 1000000000) : Has Try.prog 56 [.i a, .i n] (.i (wthn a n)) := by
  refine has_of Try.func56 (by kernel_rfl) rfl Try.ntmps56 Try.results56 rfl rfl rfl ?_
  have h1 := Int.tmod_lt_of_pos a hn
  have h2 : -n < a.tmod n := Int.lt_tmod_of_pos a hn
  refine run0 ?_
  refine awp_if rfl (fun h => ?_) (fun h => ?_)
  · have e : wthn a n = a.tmod n + n := if_pos h
    rw [e]
    refine run0 ?_
    refine ⟨.inr rfl, _, Imp.refl _, ?_⟩
    exact .one (.tmp rfl)
  · have e : wthn a n = a.tmod n := if_neg h
    rw [e]
    refine run0 ?_
    refine ⟨.inr rfl, _, Imp.refl _, ?_⟩
    exact .one (.tmp rfl)
/-- A small number. -/
def smal (a : Int) : Rat := ((wthn a 41 - 20 : Int) : Rat) / ((1 + wthn (a.tdiv 41) 5 : Int) : Rat)
theorem smal_key : ∀ x : _root_.Fin 41, ∀ y : _root_.Fin 5, wt ((((x.val : Int) - 20 : Int) : Rat) / ((1 + (y.val : Int) : Int) : Rat)) ≤ 1 := by decide +kernel
instance smal_wt (a : Int) : Wt (smal a) 1 := ⟨by
  obtain ⟨h1, h2⟩ := wthn_lt (a := a) (n := 41) (by decide)
  obtain ⟨h3, h4⟩ := wthn_lt (a := a.tdiv 41) (n := 5) (by decide)
  have := smal_key ⟨(wthn a 41).toNat, by omega⟩ ⟨(wthn (a.tdiv 41) 5).toNat, by omega⟩
  rw [show (((wthn a 41).toNat : Nat) : Int) = wthn a 41 by omega, show (((wthn (a.tdiv 41) 5).toNat : Nat) : Int) = wthn (a.tdiv 41) 5 by omega] at this
  exact this⟩
theorem k_small {a : Int} (ha : Fits .i64 a) : Has Try.prog 32 [.i a] (.q (smal a)) := by
  refine has_of Try.func32 (by kernel_rfl) rfl Try.ntmps32 Try.results32 rfl rfl rfl ?_
  obtain ⟨h1, h2⟩ := wthn_lt (a := a) (n := 41) (by decide)
  obtain ⟨h3, h4⟩ := wthn_lt (a := a.tdiv 41) (n := 5) (by decide)
  have hf : -9223372036854775808 ≤ a ∧ a ≤ 9223372036854775807 := ha
  have h5 : Fits .i64 (a.tdiv 41) := by
    have e1 : (a.tdiv 41).natAbs = a.natAbs / 41 := Int.natAbs_tdiv a 41
    show -9223372036854775808 ≤ _ ∧ _ ≤ (9223372036854775807 : Int)
    omega
  obtain ⟨h5a, h5b⟩ : -9223372036854775808 ≤ a.tdiv 41 ∧ a.tdiv 41 ≤ 9223372036854775807 := h5
  repeat(first|refine run1 ?_|((with_reducible apply st_call);exact rfl;exact rfl;exact rfl;first|(exact k_within2 (by decide) (by decide))|(exact hs_of _ _ (by omega) (by omega) (by omega) (by omega)))|((with_reducible apply st_callg);exact rfl;exact rfl;(first|exact rfl|assumption);exact rfl;exact rfl;exact rfl;first|(exact k_within2 (by decide) (by decide))|(exact hs_of _ _ (by omega) (by omega) (by omega) (by omega))))
  refine ⟨.inr rfl, _, Imp.refl _, ?_⟩
  exact .one (.rat rfl rfl (by decide) rfl (by decide) rfl)
end Go.Proofs.Ytdnmoggifjlbiaa.AM
/- Laws of dense matrices: walks: rows of numbers. -/
namespace Go.Proofs.Ytdnmoggifjlbiaa.AM
open Go Go.RowKit Go.Proofs.Ytdnmoggifjlbiaa.PN Go.Proofs.Ytdnmoggifjlbiaa.V
open Go.Proofs.Ytdnmoggifjlbiaa.LA (S S_succ S_zero S_congr)
set_option linter.unusedVariables false
set_option linter.unusedSimpArgs false
set_option maxRecDepth 4000
set_option maxHeartbeats 4000000
/-- What a list of whole numbers says at a place. -/
def rowx (zs : List Int) (i : Nat) : Int := if i < zs.length then zs.getD i 0 else 3 * i + 1
def rowq (zs : List Int) (i : Nat) : Rat := smal (rowx zs i)
instance rowq_wt (zs : List Int) (i : Nat) : Wt (rowq zs i) 1 := smal_wt _
def rowS (e : List (Nat × AV)) (v : Nat → RA) : Nat → St
  | 0 => stl ((5, .v (.slice none 0 0)) :: e) []
  | k + 1 => stl ((5, .own 5 0) :: e) [(5, (1, fun _ => .rats (k + 1) v))]
theorem row_close {s : St} {e : List (Nat × AV)} {k : Nat} {v f : Nat → RA} {F : Nat → Blk} {a : Nat} (h5 : s.env 5 = some (.own a 0)) (ha : s.heap a = some (1, F)) (hF : F 0 = .rats (k + 1) f) (hf : ∀ i, i < k + 1 → f i = v i) (h60 : s.used 60 = false) (he : AllE s (s1 5 a) (fun g => memN g [5]) e) : Imp s (rowS e v (k + 1)) := by
  refine imp_stl (h := [(5, (1, fun _ => .rats (k + 1) v))]) (s1 5 a) (fun h => by rw [h60] at h; cases h) (fun g r g' r' h1 h2 => s1_inj 5 a g r g' r' h1 h2) ⟨⟨_, h5, Le.own (by unfold s1; rw [if_pos rfl]), rfl⟩, he⟩ ⟨fun r hr => ?_, trivial⟩ (by rw [h60]; rfl)
  obtain rfl : r = 0 := by omega
  have e1 : s1 5 a 5 0 = (a, 0) := by unfold s1; rw [if_pos rfl]
  rw [e1]
  refine ⟨1, F, ha, Nat.zero_lt_one, ?_, trivial⟩
  show BLe _ (F 0) _
  rw [hF]; exact blen rfl hf
end Go.Proofs.Ytdnmoggifjlbiaa.AM
/- Rows of numbers as a caller's own. -/
namespace Go.Proofs.Ytdnmoggifjlbiaa.AM
open Go Go.RowKit Go.Proofs.Ytdnmoggifjlbiaa.PN Go.Proofs.Ytdnmoggifjlbiaa.V
open Go.Proofs.Ytdnmoggifjlbiaa.LA (S S_succ S_zero S_congr)
set_option linter.unusedVariables false
set_option linter.unusedSimpArgs false
set_option maxRecDepth 4000
set_option maxHeartbeats 4000000
theorem row_out {s : St} {n : Nat} {v f : Nat → RA} {F : Nat → Blk} {a : Nat} (h5 : s.env 4 = some (.own a 0)) (ha : s.heap a = some (1, F)) (hF : F 0 = .rats n f) (hf : ∀ i, i < n → f i = v i) (h60 : s.used 60 = false) : Imp s (stl [(4, .own 63 0)] [(63, (1, fun _ => .rats n v))]) := by
  refine imp_stl (h := [(63, (1, fun _ => .rats n v))]) (s1 63 a) (fun h => by rw [h60] at h; cases h) (fun g r g' r' h1 h2 => s1_inj 63 a g r g' r' h1 h2) ⟨⟨_, h5, Le.own (by unfold s1; rw [if_pos rfl]), rfl⟩, True.intro⟩ ⟨fun r hr => ?_, trivial⟩ (by rw [h60]; rfl)
  obtain rfl : r = 0 := by omega
  have e1 : s1 63 a 63 0 = (a, 0) := by unfold s1; rw [if_pos rfl]
  rw [e1]
  refine ⟨1, F, ha, Nat.zero_lt_one, ?_, trivial⟩
  show BLe _ (F 0) _
  rw [hF]; exact blen rfl hf
theorem k_rowo {zs : List Int} {n : Nat} (h0 : 0 < n) (hn : n ≤ 1000) (hz : ∀ i, i < zs.length → Fits .i64 (zs.getD i 0)) : HasH Try.prog 14 [] [.seq .i64 zs, .i n] (.own 63 0) [(63, (1, fun _ => .rats n (fun i => .q (rowq zs i))))] := by
  refine hasH_of Try.func14 (by kernel_rfl) rfl Try.ntmps14 Try.results14 rfl rfl rfl ?_
  refine run0 ?_
  refine awp_loop (fun m s => ∃ k, k ≤ n ∧ m = n - k ∧ s = rowS [(0, .seq .i64 zs), (1, .i n), (6, .i (k : Int))] (fun i => .q (rowq zs i)) k) n _ (imp_id (h := []) (e := [(5, .v (.slice none 0 0)), (0, .seq .i64 zs), (1, .i n), (6, .i ((0 : Nat) : Int))]) ?_ ?_) ⟨0, Nat.zero_le _, rfl, rfl⟩ ?_
  · exact eA
  · exact True.intro
  · rintro m s ⟨k, hk, rfl, rfl⟩
    have hx : ∀ k : Nat, k < zs.length → rowx zs k = zs.getD k 0 := fun k h => if_pos h
    have hy : ∀ k : Nat, ¬ k < zs.length → rowx zs k = 3 * (k : Int) + 1 := fun k h => if_neg h
    rcases k with _ | k
    · refine run0 ?_
      refine awp_if rfl (fun h => ?_) (fun h => ?_)
      · have h : 0 < n := by omega
        refine run0 ?_
        refine awp_if rfl (fun h1 => ?_) (fun h1 => ?_)
        · have h1' : (((0 : Nat) : Int)) < (zs.length : Int) := h1
          have h1 : 0 < zs.length := by omega
          have hf := hz 0 h1
          repeat(first|refine run1 ?_|((with_reducible apply st_call);exact rfl;exact rfl;exact rfl;first|(exact k_small hf))|((with_reducible apply st_callg);exact rfl;exact rfl;(first|exact rfl|assumption);exact rfl;exact rfl;exact rfl;first|(exact k_small hf)))
          refine q_loop ?_ (row_close (k := 0) (a := 28) rfl rfl rfl ?_ rfl ?_) ⟨0 + 1, ?_, rfl, rfl⟩
          · omega
          · intro i hi
            obtain rfl : i = 0 := by omega
            exact congrArg (fun x => RA.q (smal x)) (hx 0 h1).symm
          · refine alle rfl (Le.eq rfl rfl) True.intro (alle rfl (Le.eq rfl rfl) True.intro (alle rfl (Le.eq rfl rfl) True.intro True.intro))
          · omega
        · have h1' : ¬ (((0 : Nat) : Int)) < (zs.length : Int) := h1
          have h1 : ¬ 0 < zs.length := by omega
          have hf : Fits .i64 (3 * ((0 : Nat) : Int) + 1) := by show _ ∧ _; omega
          repeat(first|refine run1 ?_|((with_reducible apply st_call);exact rfl;exact rfl;exact rfl;first|(exact k_small hf))|((with_reducible apply st_callg);exact rfl;exact rfl;(first|exact rfl|assumption);exact rfl;exact rfl;exact rfl;first|(exact k_small hf)))
          refine q_loop ?_ (row_close (k := 0) (a := 28) rfl rfl rfl ?_ rfl ?_) ⟨0 + 1, ?_, rfl, rfl⟩
          · omega
          · intro i hi
            obtain rfl : i = 0 := by omega
            exact congrArg (fun x => RA.q (smal x)) (hy 0 h1).symm
          · refine alle rfl (Le.eq rfl rfl) True.intro (alle rfl (Le.eq rfl rfl) True.intro (alle rfl (Le.eq rfl rfl) True.intro True.intro))
          · omega
      · obtain rfl : 0 = n := by omega
        refine run0 ?_
        exact absurd h0 (Nat.lt_irrefl _)
    · refine run0 ?_
      refine awp_if rfl (fun h => ?_) (fun h => ?_)
      · have h : (k + 1) < n := by omega
        refine run0 ?_
        refine awp_if rfl (fun h1 => ?_) (fun h1 => ?_)
        · have h1' : ((((k + 1) : Nat) : Int)) < (zs.length : Int) := h1
          have h1 : (k + 1) < zs.length := by omega
          have hf := hz (k + 1) h1
          repeat(first|refine run1 ?_|((with_reducible apply st_call);exact rfl;exact rfl;exact rfl;first|(exact k_small hf))|((with_reducible apply st_callg);exact rfl;exact rfl;(first|exact rfl|assumption);exact rfl;exact rfl;exact rfl;first|(exact k_small hf)))
          refine q_loop ?_ (row_close (k := (k + 1)) (a := 28) rfl rfl rfl ?_ rfl ?_) ⟨(k + 1) + 1, ?_, rfl, rfl⟩
          · omega
          · intro i hi
            by_cases e : i < k + 1
            · exact if_pos e
            · obtain rfl : i = k + 1 := by omega
              refine (if_neg (Nat.lt_irrefl _)).trans ?_
              rw [Nat.sub_self]
              exact congrArg (fun x => RA.q (smal x)) (hx (k + 1) h1).symm
          · refine alle rfl (Le.eq rfl rfl) True.intro (alle rfl (Le.eq rfl rfl) True.intro (alle rfl (Le.eq rfl rfl) True.intro True.intro))
          · omega
        · have h1' : ¬ ((((k + 1) : Nat) : Int)) < (zs.length : Int) := h1
          have h1 : ¬ (k + 1) < zs.length := by omega
          have hf : Fits .i64 (3 * (((k + 1) : Nat) : Int) + 1) := by show _ ∧ _; omega
          repeat(first|refine run1 ?_|((with_reducible apply st_call);exact rfl;exact rfl;exact rfl;first|(exact k_small hf))|((with_reducible apply st_callg);exact rfl;exact rfl;(first|exact rfl|assumption);exact rfl;exact rfl;exact rfl;first|(exact k_small hf)))
          refine q_loop ?_ (row_close (k := (k + 1)) (a := 28) rfl rfl rfl ?_ rfl ?_) ⟨(k + 1) + 1, ?_, rfl, rfl⟩
          · omega
          · intro i hi
            by_cases e : i < k + 1
            · exact if_pos e
            · obtain rfl : i = k + 1 := by omega
              refine (if_neg (Nat.lt_irrefl _)).trans ?_
              rw [Nat.sub_self]
              exact congrArg (fun x => RA.q (smal x)) (hy (k + 1) h1).symm
          · refine alle rfl (Le.eq rfl rfl) True.intro (alle rfl (Le.eq rfl rfl) True.intro (alle rfl (Le.eq rfl rfl) True.intro True.intro))
          · omega
      · obtain rfl : (k + 1) = n := by omega
        refine run0 ?_
        exact ⟨.inr rfl, [(4, .own 63 0)], row_out rfl rfl rfl (fun _ _ => rfl) rfl, .one (.tmp rfl)⟩
end Go.Proofs.Ytdnmoggifjlbiaa.AM
/- Systems that are drawn: counts, the numbers' places. -/
namespace Go.Proofs.Ytdnmoggifjlbiaa.AM
open Go Go.RowKit Go.Proofs.Ytdnmoggifjlbiaa.PN Go.Proofs.Ytdnmoggifjlbiaa.V
open Go.Proofs.Ytdnmoggifjlbiaa.LA (S S_succ S_zero S_congr)
set_option linter.unusedVariables false
set_option linter.unusedSimpArgs false
set_option maxRecDepth 8000
set_option maxHeartbeats 8000000
theorem k_within5 {a n : Int} (hn : 0 < n) (hn' : n < 1000000000) : Has Try.prog 20 [.i a, .i n] (.i (wthn a n)) := by
  refine has_of Try.func20 (by kernel_rfl) rfl Try.ntmps20 Try.results20 rfl rfl rfl ?_
  have h1 := Int.tmod_lt_of_pos a hn
  have h2 : -n < a.tmod n := Int.lt_tmod_of_pos a hn
  refine run0 ?_
  refine awp_if rfl (fun h => ?_) (fun h => ?_)
  · have e : wthn a n = a.tmod n + n := if_pos h
    rw [e]
    refine run0 ?_
    refine ⟨.inr rfl, _, Imp.refl _, ?_⟩
    exact .one (.tmp rfl)
  · have e : wthn a n = a.tmod n := if_neg h
    rw [e]
    refine run0 ?_
    refine ⟨.inr rfl, _, Imp.refl _, ?_⟩
    exact .one (.tmp rfl)
theorem r5_like (k : Nat) : Has Try.prog 21 [.i k] (.b (likeB k)) := by
  refine has_of Try.func21 (by kernel_rfl) rfl Try.ntmps21 Try.results21 rfl rfl rfl ?_
  by_cases h6 : k = 6
  · have e0 : decide ((k : Int) = 6) = true := decide_eq_true (by omega)
    have e1 : (decide ((k : Int) = 6) == false) = false := by rw [e0]; rfl
    refine run0p ?_
    refine ⟨.inr rfl, _, Imp.refl _, ?_⟩
    rw [h6]
    exact .one (.tmp rfl)
  · have e0 : decide ((k : Int) = 6) = false := decide_eq_false (by omega)
    have e1 : (decide ((k : Int) = 6) == false) = true := by rw [e0]; rfl
    have e2 : decide ((k : Int) = 7) = likeB k := by
      unfold likeB
      rw [decide_eq_false h6, Bool.false_or]
      exact decide_eq_decide.2 (by omega)
    refine run0p ?_
    refine ⟨.inr rfl, _, Imp.refl _, ?_⟩
    rw [← e2]
    exact .one (.tmp rfl)
/-- How many numbers a system has in its rows. -/
def cnA (k n : Nat) : Nat := match k with | 1 | 2 => 2 * n - 1 | 6 => 0 | _ => n
def cnB (k n : Nat) : Nat := match k with | 5 | 7 => n | _ => 0
def cnH (k n r : Nat) : Nat := match k with | 6 | 7 => n * r | _ => 0
/-- A system of which only three numbers are known. -/
def hdf (k n r : Nat) (i : Nat) : AV := [AV.i k, .i n, .i r, .v (.slice none 0 0), .v (.slice none 0 0), .v (.slice none 0 0), .v (.slice none 0 0)].getD i (.v undef)
theorem r5_counts {k n r : Nat} (h1 : 1 ≤ k) (h7 : k ≤ 7) (n1 : 1 ≤ n) (n8 : n ≤ 8) (r3 : r ≤ 3) : Has Try.prog 22 [.ag 7 (hdf k n r)] (.tup3 (.i (cnA k n)) (.i (cnB k n)) (.i (cnH k n r))) := by
  have hk : k = 1 ∨ k = 2 ∨ k = 3 ∨ k = 4 ∨ k = 5 ∨ k = 6 ∨ k = 7 := by omega
  have em : (n : Int) * (r : Int) = ((n * r : Nat) : Int) := (Int.natCast_mul n r).symm
  have hnr : n * r ≤ 8 * 3 := Nat.mul_le_mul n8 r3
  have q1 : -9223372036854775808 ≤ (n : Int) * (r : Int) := by rw [em]; omega
  have q2 : (n : Int) * (r : Int) ≤ 9223372036854775807 := by rw [em]; omega
  refine has_of Try.func22 (by kernel_rfl) rfl Try.ntmps22 Try.results22 rfl rfl rfl ?_
  refine run0 ?_
  rcases hk with rfl | rfl | rfl | rfl | rfl | rfl | rfl
  · skip
    refine awp_yes rfl rfl ?_
    refine run0 ?_
    refine awp_yes rfl rfl ?_
    refine run0 ?_
    rw [show (2 : Int) * n - 1 = ((cnA 1 n : Nat) : Int) from by show (2 : Int) * n - 1 = ((2 * n - 1 : Nat) : Int); omega]
    exact ⟨.inr rfl, _, Imp.refl _, .three (.tmp rfl) (.tmp rfl) (.tmp rfl)⟩
  · skip
    refine awp_no rfl rfl ?_
    refine run0 ?_
    refine awp_yes rfl rfl ?_
    refine run0 ?_
    rw [show (2 : Int) * n - 1 = ((cnA 2 n : Nat) : Int) from by show (2 : Int) * n - 1 = ((2 * n - 1 : Nat) : Int); omega]
    exact ⟨.inr rfl, _, Imp.refl _, .three (.tmp rfl) (.tmp rfl) (.tmp rfl)⟩
  · skip
    refine awp_no rfl rfl ?_
    refine run0 ?_
    refine awp_no rfl rfl ?_
    refine run0 ?_
    refine awp_yes rfl rfl ?_
    refine run0 ?_
    refine awp_yes rfl rfl ?_
    refine run0 ?_
    exact ⟨.inr rfl, _, Imp.refl _, .three (.tmp rfl) (.tmp rfl) (.tmp rfl)⟩
  · skip
    refine awp_no rfl rfl ?_
    refine run0 ?_
    refine awp_no rfl rfl ?_
    refine run0 ?_
    refine awp_no rfl rfl ?_
    refine run0 ?_
    refine awp_yes rfl rfl ?_
    refine run0 ?_
    exact ⟨.inr rfl, _, Imp.refl _, .three (.tmp rfl) (.tmp rfl) (.tmp rfl)⟩
  · skip
    refine awp_no rfl rfl ?_
    refine run0 ?_
    refine awp_no rfl rfl ?_
    refine run0 ?_
    refine awp_no rfl rfl ?_
    refine run0 ?_
    refine awp_no rfl rfl ?_
    refine run0 ?_
    refine awp_yes rfl rfl ?_
    refine run0 ?_
    exact ⟨.inr rfl, _, Imp.refl _, .three (.tmp rfl) (.tmp rfl) (.tmp rfl)⟩
  · skip
    refine awp_no rfl rfl ?_
    refine run0 ?_
    refine awp_no rfl rfl ?_
    refine run0 ?_
    refine awp_no rfl rfl ?_
    refine run0 ?_
    refine awp_no rfl rfl ?_
    refine run0 ?_
    refine awp_no rfl rfl ?_
    refine run0 ?_
    refine awp_yes rfl rfl ?_
    refine run0 ?_
    rw [em]
    exact ⟨.inr rfl, _, Imp.refl _, .three (.tmp rfl) (.tmp rfl) (.tmp rfl)⟩
  · skip
    refine awp_no rfl rfl ?_
    refine run0 ?_
    refine awp_no rfl rfl ?_
    refine run0 ?_
    refine awp_no rfl rfl ?_
    refine run0 ?_
    refine awp_no rfl rfl ?_
    refine run0 ?_
    refine awp_no rfl rfl ?_
    refine run0 ?_
    refine awp_no rfl rfl ?_
    refine run0 ?_
    rw [em]
    exact ⟨.inr rfl, _, Imp.refl _, .three (.tmp rfl) (.tmp rfl) (.tmp rfl)⟩
end Go.Proofs.Ytdnmoggifjlbiaa.AM

/- Joined texts, 20: MkE FsA AmNl DnA DnB DnC FsB MkD Wthn LawC RowsB LawF0 PCirc. -/
import Derived.Test.YtdnmoggifjlbiaaJ19
import Derived.Test.YtdnmoggifjlbiaaJ17
import Derived.Test.YtdnmoggifjlbiaaJ18
import Derived.Test.YtdnmoggifjlbiaaJ13
import Derived.Test.YtdnmoggifjlbiaaJ14
import Derived.Test.YtdnmoggifjlbiaaJ12
set_option linter.unusedVariables false
set_option linter.unusedSimpArgs false
/- Laws of systems: entries' weights; matrices of drawn systems. -/
namespace Go.Proofs.Ytdnmoggifjlbiaa.AM
open Go Go.RowKit Go.Proofs.Ytdnmoggifjlbiaa.PN Go.Proofs.Ytdnmoggifjlbiaa.V
open Go.Proofs.Ytdnmoggifjlbiaa.LA (S S_succ S_zero S_congr)
set_option linter.unusedVariables false
set_option linter.unusedSimpArgs false
set_option maxRecDepth 8000
set_option maxHeartbeats 8000000
theorem GD.ftok (g : GD) (U : Nat → Bool) : ∀ i, (g.ft i).ok U
  | 0 | 1 | 2 | 3 | 4 | 5 | 6 => trivial
  | _ + 7 => trivial
theorem le7 {σ : Ren} {T : TypeId} {f f' : Nat → AV} (h0 : Le σ (f 0) (f' 0)) (h1 : Le σ (f 1) (f' 1)) (h2 : Le σ (f 2) (f' 2)) (h3 : Le σ (f 3) (f' 3)) (h4 : Le σ (f 4) (f' 4)) (h5 : Le σ (f 5) (f' 5)) (h6 : Le σ (f 6) (f' 6)) : BLe σ (.ones T 7 f) (.ones T 7 f') :=
  bleo rfl fun i hi => by
    match i, hi with
    | 0, _ => exact h0
    | 1, _ => exact h1
    | 2, _ => exact h2
    | 3, _ => exact h3
    | 4, _ => exact h4
    | 5, _ => exact h5
    | 6, _ => exact h6
theorem GD.le_ft (g : GD) {σ : Ren} {T : TypeId} : BLe σ (.ones T 7 g.ft) (.ones T 7 g.ft) := le7 (Le.eq rfl rfl) (Le.eq rfl rfl) (Le.eq rfl rfl) (Le.eq rfl rfl) (Le.eq rfl rfl) (Le.eq rfl rfl) (Le.eq rfl rfl)
theorem pow_wt {p : Rat} (hp : wt p ≤ 4) : ∀ k, wt (p ^ k) ≤ 4 * k + 1 := by
  intro k
  induction k with
  | zero => rw [Rat.pow_zero]; decide
  | succ k ih => rw [Rat.pow_succ]; have := wt_mul (p ^ k) p; omega
theorem gent_wt {g : GD} (h : g.OK) {i j : Nat} (hi : i < g.n) (hj : j < g.n) : wt (gent g i j) ≤ 300 := by
  have n8 := h.n8; have r3 := h.r3; have k1 := h.k1; have k7 := h.k7; have sm := h.sm
  obtain ⟨m1, m2, m3, m4⟩ := ok_lens h
  have hk : g.k = 1 ∨ g.k = 2 ∨ g.k = 3 ∨ g.k = 4 ∨ g.k = 5 ∨ g.k = 6 ∨ g.k = 7 := by omega
  have row : ∀ u, u < g.n → u * g.r + g.r ≤ g.n * g.r := fun u hu => by rw [← Nat.succ_mul]; exact Nat.mul_le_mul_right _ hu
  have hne : g.k = 5 ∨ g.k = 7 → g.A i - g.B j ≠ 0 := fun hk e => h.ne i (by omega) j (by omega) (by rw [← Rat.sub_add_cancel (a := g.A i) (b := g.B j), e, Rat.zero_add])
  unfold gent
  rcases hk with hk | hk | hk | hk | hk | hk | hk
  · rw [hk]; have := sm.A (i + g.n - 1 - j) (by omega); show wt (g.A (i + g.n - 1 - j)) ≤ 300; omega
  · rw [hk]; have := sm.A (i + j) (by omega); show wt (g.A (i + j)) ≤ 300; omega
  · have hlt : (i + g.n - j) % g.n < g.n := Nat.mod_lt _ (by omega)
    rw [hk]; have := sm.A ((i + g.n - j) % g.n) (by omega); show wt (g.A ((i + g.n - j) % g.n)) ≤ 300; omega
  · rw [hk]; have := pow_wt (sm.A i (by omega)) j; show wt (g.A i ^ j) ≤ 300; omega
  · have h1 := wt_div 1 (g.A i - g.B j) (hne (.inl hk)); have h2 := wt_sub (g.A i) (g.B j); have h3 := sm.A i (by omega); have h4 := sm.B j (by omega)
    have h5 : wt 1 ≤ 1 := by decide
    rw [hk]; show wt (1 / (g.A i - g.B j)) ≤ 300; omega
  · obtain ⟨hg, hh⟩ := m4 (.inl hk)
    have := wt_sum (n := min i j + 1) (K := 28) (f := fun m => rdot g (i - m) (j - m)) fun u hu => by
      have h1 := row (i - u) (by omega); have h2 := row (j - u) (by omega)
      exact rdot_wt sm (by omega) (by omega) r3
    rw [hk]; show wt (S (min i j + 1) fun m => rdot g (i - m) (j - m)) ≤ 300; omega
  · obtain ⟨hg, hh⟩ := m4 (.inr hk)
    have h0 := row i hi; have h0' := row j hj
    have h1 := wt_div (rdot g i j) (g.A i - g.B j) (hne (.inr hk)); have h2 := wt_sub (g.A i) (g.B j); have h3 := sm.A i (by omega); have h4 := sm.B j (by omega)
    have h5 := rdot_wt (i := i) (j := j) sm (by omega) (by omega) r3
    rw [hk]; show wt (rdot g i j / (g.A i - g.B j)) ≤ 300; omega
/-- The matrix of a drawn system. -/
theorem ex_mk {kind n most : Int} {zs : List Int} (m1 : 1 ≤ most) (m8 : most ≤ 8) : Has Try.prog 33 [.ag 7 fun i => ((mkg kind n zs most).ft i).old] (.mat true (mkN n most) (fun _ => mkN n most) (fun i j => .q (gent (mkg kind n zs most) i j))) :=
  Has.ag (u' := (mkg kind n zs most).f) (g7 rfl rfl rfl rfl rfl rfl rfl) (ge_expand (g := mkg kind n zs most) (mkg_ok m1 m8))
theorem mkN_le {n most : Int} (m1 : 1 ≤ most) : 1 ≤ mkN n most ∧ (mkN n most : Int) ≤ most ∧ ((mkN n most : Nat) : Int) = 1 + wthn n most := by
  obtain ⟨b1, b2⟩ := wthn_lt (a := n) (n := most) (by omega)
  unfold mkN
  omega
end Go.Proofs.Ytdnmoggifjlbiaa.AM
/- Package fast: entries, displaced. -/
namespace Go.Proofs.Ytdnmoggifjlbiaa.AM
open Go Go.RowKit Go.Proofs.Ytdnmoggifjlbiaa.PN Go.Proofs.Ytdnmoggifjlbiaa.V
open Go.Proofs.Ytdnmoggifjlbiaa.LA (S S_succ S_zero S_congr)
set_option linter.unusedVariables false
set_option linter.unusedSimpArgs false
set_option maxRecDepth 8000
set_option maxHeartbeats 8000000
/-- A system, and its matrix. -/
def GD.bd (g : GD) (i : Nat) : AV := [AV.i g.k, .i g.n, .i g.r, .row false g.la (fun i => .q (g.A i)), .row false g.lb (fun i => .q (g.B i)), .row false g.lg (fun i => .q (g.G i)), .row false g.lh (fun i => .q (g.H i)), .mat false g.n (fun _ => g.n) (fun i j => .q (gent g i j))].getD i (.v undef)
def GD.bv (g : GD) : AV := .ag 8 g.bd
theorem GD.bdok (g : GD) (U : Nat → Bool) : ∀ i, (g.bd i).ok U
  | 0 | 1 | 2 | 3 | 4 | 5 | 6 | 7 => trivial
  | _ + 8 => trivial
theorem g8 {f f' : Nat → AV} (h0 : f 0 = f' 0) (h1 : f 1 = f' 1) (h2 : f 2 = f' 2) (h3 : f 3 = f' 3) (h4 : f 4 = f' 4) (h5 : f 5 = f' 5) (h6 : f 6 = f' 6) (h7 : f 7 = f' 7) : ∀ i, i < 8 → f i = f' i := fun i hi => by
  match i, hi with
  | 0, _ => exact h0
  | 1, _ => exact h1
  | 2, _ => exact h2
  | 3, _ => exact h3
  | 4, _ => exact h4
  | 5, _ => exact h5
  | 6, _ => exact h6
  | 7, _ => exact h7
theorem gat_wt {g : GD} (h : g.OK) (a b : Int) : wt (gat g a b) ≤ 300 := by
  unfold gat
  split
  · have : wt 0 ≤ 1 := by decide
    omega
  · exact gent_wt h (by omega) (by omega)
theorem fs_zero : Has Try.prog 106 [] (.q 0) := by
  refine Has.imp (r := .ra (.raw false [] [1])) ?_ rfl (fun S B β w v => rv_zero)
  refine has_of Try.func106 (by kernel_rfl) rfl Try.ntmps106 Try.results106 rfl rfl rfl ?_
  refine run0 ?_
  refine ⟨.inr rfl, _, Imp.refl _, ?_⟩
  exact .one (.rat rfl rfl (by decide) rfl (by decide) rfl)
theorem fs_at {g : GD} (h : g.OK) {a b : Int} (ha : -1 ≤ a) (hb : -1 ≤ b) : Has Try.prog 94 [g.bv, .i a, .i b] (.q (gat g a b)) := by
  refine has_of Try.func94 (by kernel_rfl) rfl Try.ntmps94 Try.results94 rfl rfl rfl ?_
  by_cases a0 : a < 0
  · have e0 : decide (a < 0) = true := decide_eq_true a0
    have e1 : (decide (a < 0) == false) = false := by rw [e0]; rfl
    refine run0 ?_
    refine awp_yes rfl rfl ?_
    rw [gat_out (.inl a0)]
    repeat(first|refine run1 ?_|((with_reducible apply st_call);exact rfl;exact rfl;exact rfl;first|(exact fs_zero))|((with_reducible apply st_callg);exact rfl;exact rfl;(first|exact rfl|assumption);exact rfl;exact rfl;exact rfl;first|(exact fs_zero)))
    exact ⟨.inr rfl, _, Imp.refl _, .one (.rat rfl rfl (by decide) rfl (by decide) rfl)⟩
  have e0 : decide (a < 0) = false := decide_eq_false a0
  have e1 : (decide (a < 0) == false) = true := by rw [e0]; rfl
  by_cases b0 : b < 0
  · have f0 : decide (b < 0) = true := decide_eq_true b0
    have f1 : (decide (b < 0) == false) = false := by rw [f0]; rfl
    refine run0 ?_
    refine awp_yes rfl rfl ?_
    rw [gat_out (.inr (.inl b0))]
    repeat(first|refine run1 ?_|((with_reducible apply st_call);exact rfl;exact rfl;exact rfl;first|(exact fs_zero))|((with_reducible apply st_callg);exact rfl;exact rfl;(first|exact rfl|assumption);exact rfl;exact rfl;exact rfl;first|(exact fs_zero)))
    exact ⟨.inr rfl, _, Imp.refl _, .one (.rat rfl rfl (by decide) rfl (by decide) rfl)⟩
  have f0 : decide (b < 0) = false := decide_eq_false b0
  have f1 : (decide (b < 0) == false) = true := by rw [f0]; rfl
  by_cases a1 : (g.n : Int) ≤ a
  · have g0 : decide ((g.n : Int) ≤ a) = true := decide_eq_true a1
    have g1 : (decide ((g.n : Int) ≤ a) == false) = false := by rw [g0]; rfl
    refine run0 ?_
    refine awp_yes rfl rfl ?_
    rw [gat_out (.inr (.inr (.inl a1)))]
    repeat(first|refine run1 ?_|((with_reducible apply st_call);exact rfl;exact rfl;exact rfl;first|(exact fs_zero))|((with_reducible apply st_callg);exact rfl;exact rfl;(first|exact rfl|assumption);exact rfl;exact rfl;exact rfl;first|(exact fs_zero)))
    exact ⟨.inr rfl, _, Imp.refl _, .one (.rat rfl rfl (by decide) rfl (by decide) rfl)⟩
  have g0 : decide ((g.n : Int) ≤ a) = false := decide_eq_false a1
  have g1 : (decide ((g.n : Int) ≤ a) == false) = true := by rw [g0]; rfl
  by_cases b1 : (g.n : Int) ≤ b
  · have h0 : decide ((g.n : Int) ≤ b) = true := decide_eq_true b1
    refine run0 ?_
    refine awp_yes rfl h0 ?_
    rw [gat_out (.inr (.inr (.inr b1)))]
    repeat(first|refine run1 ?_|((with_reducible apply st_call);exact rfl;exact rfl;exact rfl;first|(exact fs_zero))|((with_reducible apply st_callg);exact rfl;exact rfl;(first|exact rfl|assumption);exact rfl;exact rfl;exact rfl;first|(exact fs_zero)))
    exact ⟨.inr rfl, _, Imp.refl _, .one (.rat rfl rfl (by decide) rfl (by decide) rfl)⟩
  have h0 : decide ((g.n : Int) ≤ b) = false := decide_eq_false b1
  refine run0 ?_
  refine awp_no rfl h0 ?_
  rw [show gat g a b = gent g a.toNat b.toNat by unfold gat; rw [if_neg (by omega)]]
  refine run0 ?_
  exact ⟨.inr rfl, _, Imp.refl _, .one (.rat rfl rfl (by decide) rfl (by decide) rfl)⟩
theorem fs_slant {g : GD} (h : g.OK) {i j : Nat} (hi : i < g.n) (hj : j < g.n) : Has Try.prog 74 [g.bv, .i i, .i j] (.q (gat g i j - gat g ((i : Int) - 1) ((j : Int) - 1))) := by
  have n8 := h.n8
  have w1 := gat_wt h i j; have w2 := gat_wt h ((i : Int) - 1) ((j : Int) - 1)
  refine has_of Try.func74 (by kernel_rfl) rfl Try.ntmps74 Try.results74 rfl rfl rfl ?_
  repeat(first|refine run1 ?_|((with_reducible apply st_call);exact rfl;exact rfl;exact rfl;first|(exact Has.ag (g8 rfl rfl rfl rfl rfl rfl rfl rfl) (fs_at h (by omega) (by omega)))|(exact h_sub (by omega) (by omega)))|((with_reducible apply st_callg);exact rfl;exact rfl;(first|exact rfl|assumption);exact rfl;exact rfl;exact rfl;first|(exact Has.ag (g8 rfl rfl rfl rfl rfl rfl rfl rfl) (fs_at h (by omega) (by omega)))|(exact h_sub (by omega) (by omega))))
  exact ⟨.inr rfl, _, Imp.refl _, .one (.rat rfl rfl (by decide) rfl (by decide) rfl)⟩
theorem fs_across {g : GD} (h : g.OK) {i j : Nat} (hi : i < g.n) (hj : j < g.n) : Has Try.prog 75 [g.bv, .i i, .i j] (.q (gat g ((i : Int) - 1) j - gat g i ((j : Int) - 1))) := by
  have n8 := h.n8
  have w1 := gat_wt h ((i : Int) - 1) j; have w2 := gat_wt h i ((j : Int) - 1)
  refine has_of Try.func75 (by kernel_rfl) rfl Try.ntmps75 Try.results75 rfl rfl rfl ?_
  repeat(first|refine run1 ?_|((with_reducible apply st_call);exact rfl;exact rfl;exact rfl;first|(exact Has.ag (g8 rfl rfl rfl rfl rfl rfl rfl rfl) (fs_at h (by omega) (by omega)))|(exact h_sub (by omega) (by omega)))|((with_reducible apply st_callg);exact rfl;exact rfl;(first|exact rfl|assumption);exact rfl;exact rfl;exact rfl;first|(exact Has.ag (g8 rfl rfl rfl rfl rfl rfl rfl rfl) (fs_at h (by omega) (by omega)))|(exact h_sub (by omega) (by omega))))
  exact ⟨.inr rfl, _, Imp.refl _, .one (.rat rfl rfl (by decide) rfl (by decide) rfl)⟩
theorem fs_nodes {g : GD} (h : g.OK) (hk : g.k = 4) {i j : Nat} (hi : i < g.n) (hj : j < g.n) : Has Try.prog 76 [g.bv, .i i, .i j] (.q (g.A i * gat g i j - gat g i ((j : Int) + 1))) := by
  have n8 := h.n8
  obtain ⟨m1, m2, m3, m4⟩ := ok_lens h
  have hl : i < g.la := by omega
  have w1 := gat_wt h i j; have w2 := gat_wt h i ((j : Int) + 1); have w3 := h.sm.A i hl
  have w4 := wt_mul (g.A i) (gat g i j)
  refine has_of Try.func76 (by kernel_rfl) rfl Try.ntmps76 Try.results76 rfl rfl rfl ?_
  repeat(first|refine run1 ?_|((with_reducible apply st_call);exact rfl;exact rfl;exact rfl;first|(exact Has.ag (g8 rfl rfl rfl rfl rfl rfl rfl rfl) (fs_at h (by omega) (by omega)))|(exact h_sub (p := g.A i * gat g i j) (by omega) (by omega))|(exact h_mul (p := g.A i) (by omega) (by omega)))|((with_reducible apply st_callg);exact rfl;exact rfl;(first|exact rfl|assumption);exact rfl;exact rfl;exact rfl;first|(exact Has.ag (g8 rfl rfl rfl rfl rfl rfl rfl rfl) (fs_at h (by omega) (by omega)))|(exact h_sub (p := g.A i * gat g i j) (by omega) (by omega))|(exact h_mul (p := g.A i) (by omega) (by omega))))
  exact ⟨.inr rfl, _, Imp.refl _, .one (.rat rfl rfl (by decide) rfl (by decide) rfl)⟩
theorem fs_apart {g : GD} (h : g.OK) (hk : g.k = 5 ∨ g.k = 7) {i j : Nat} (hi : i < g.n) (hj : j < g.n) : Has Try.prog 77 [g.bv, .i i, .i j] (.q ((g.A i - g.B j) * gat g i j)) := by
  have n8 := h.n8
  obtain ⟨m1, m2, m3, m4⟩ := ok_lens h
  have hl : i < g.la := by omega
  have hl2 : j < g.lb := by omega
  have w1 := gat_wt h i j; have w2 := h.sm.A i hl; have w3 := h.sm.B j hl2
  have w4 := wt_sub (g.A i) (g.B j)
  refine has_of Try.func77 (by kernel_rfl) rfl Try.ntmps77 Try.results77 rfl rfl rfl ?_
  repeat(first|refine run1 ?_|((with_reducible apply st_call);exact rfl;exact rfl;exact rfl;first|(exact Has.ag (g8 rfl rfl rfl rfl rfl rfl rfl rfl) (fs_at h (by omega) (by omega)))|(exact h_sub (p := g.A i) (q := g.B j) (by omega) (by omega))|(exact h_mul (p := g.A i - g.B j) (by omega) (by omega)))|((with_reducible apply st_callg);exact rfl;exact rfl;(first|exact rfl|assumption);exact rfl;exact rfl;exact rfl;first|(exact Has.ag (g8 rfl rfl rfl rfl rfl rfl rfl rfl) (fs_at h (by omega) (by omega)))|(exact h_sub (p := g.A i) (q := g.B j) (by omega) (by omega))|(exact h_mul (p := g.A i - g.B j) (by omega) (by omega))))
  exact ⟨.inr rfl, _, Imp.refl _, .one (.rat rfl rfl (by decide) rfl (by decide) rfl)⟩
/-- How a kind is displaced. -/
def wayF (i : Nat) : FuncId := match i with
  | 1 => 75
  | 3 => 76
  | 4 => 77
  | 6 => 77
  | _ => 74
def wayT : List (Int × FuncId) := [(1, 74), (3, 74), (6, 74), (2, 75), (4, 76), (5, 77), (7, 77)]
theorem fs_way {g : GD} (h : g.OK) {i j : Nat} (hi : i < g.n) (hj : j < g.n) : Has Try.prog (wayF (g.k - 1)) [g.bv, .i i, .i j] (.q (gdis g i j)) := by
  have h1 := h.k1; have h7 := h.k7
  have hk : g.k = 1 ∨ g.k = 2 ∨ g.k = 3 ∨ g.k = 4 ∨ g.k = 5 ∨ g.k = 6 ∨ g.k = 7 := by omega
  have eS : g.k = 1 ∨ g.k = 3 ∨ g.k = 6 → Has Try.prog (wayF (g.k - 1)) [g.bv, .i i, .i j] (.q (gdis g i j)) := fun hk => by
    have e : gdis g i j = gat g i j - gat g ((i : Int) - 1) ((j : Int) - 1) := by
      unfold gdis
      rcases hk with hk | hk | hk <;> (rw [hk]; rfl)
    have e2 : wayF (g.k - 1) = 74 := by rcases hk with hk | hk | hk <;> (rw [hk]; rfl)
    rw [e, e2]
    exact fs_slant h hi hj
  have eA : g.k = 5 ∨ g.k = 7 → Has Try.prog (wayF (g.k - 1)) [g.bv, .i i, .i j] (.q (gdis g i j)) := fun hk => by
    have e : gdis g i j = (g.A i - g.B j) * gat g i j := by
      unfold gdis
      rcases hk with hk | hk <;> (rw [hk]; rfl)
    have e2 : wayF (g.k - 1) = 77 := by rcases hk with hk | hk <;> (rw [hk]; rfl)
    rw [e, e2]
    exact fs_apart h hk hi hj
  rcases hk with hk | hk | hk | hk | hk | hk | hk
  · exact eS (.inl hk)
  · have e : gdis g i j = gat g ((i : Int) - 1) j - gat g i ((j : Int) - 1) := by unfold gdis; rw [hk]; rfl
    have e2 : wayF (g.k - 1) = 75 := by rw [hk]; rfl
    rw [e, e2]
    exact fs_across h hi hj
  · exact eS (.inr (.inl hk))
  · have e : gdis g i j = g.A i * gat g i j - gat g i ((j : Int) + 1) := by unfold gdis; rw [hk]; rfl
    have e2 : wayF (g.k - 1) = 76 := by rw [hk]; rfl
    rw [e, e2]
    exact fs_nodes h hk hi hj
  · exact eA (.inl hk)
  · exact eS (.inr (.inr hk))
  · exact eA (.inr hk)
theorem way_ty : ∃ E, Try.prog.underlying 78 = some (.map INT E) := ⟨77, by kernel_rfl⟩
theorem fs_ways (g : GD) : Has Try.prog 55 [g.bv] (.mf [1, 2, 3, 4, 5, 6, 7] fun i => .bnd (wayF i) (.ag 8 g.bd)) := by
  obtain ⟨E, hE⟩ := way_ty
  refine has_of Try.func55 (by kernel_rfl) rfl Try.ntmps55 Try.results55 rfl rfl rfl ?_
  refine run2 ?_
  refine (awp_mf (N := 19) (n := 7) (g := 1) (m := 8) (f := g.bd) (tab := wayT) (T := 80) (M := 78) ?_ hE rfl ?_ rfl rfl rfl rfl rfl [1, 2, 3, 4, 5, 6, 7] wayF ?_ ?_ ?_)
  · refine ⟨rfl, ⟨_, rfl, rfl, rfl, rfl⟩, fun j hj => ?_, fun j hj => ?_, fun j hj => ?_, ?_, ?_⟩
    · match j, hj with
      | 0, _ | 1, _ | 2, _ | 3, _ | 4, _ | 5, _ | 6, _ => exact ⟨_, rfl, rfl, rfl, rfl⟩
    · match j, hj with
      | 0, _ | 1, _ | 2, _ | 3, _ | 4, _ | 5, _ | 6, _ => exact ⟨_, rfl, rfl, rfl, rfl⟩
    · match j, hj with
      | 0, _ | 1, _ | 2, _ | 3, _ | 4, _ | 5, _ | 6, _ => exact ⟨_, rfl, rfl, rfl, rfl⟩
    · exact ⟨_, rfl, rfl, rfl, rfl⟩
    · exact ⟨_, rfl, rfl, rfl, rfl⟩
  · intro i j hi hj e
    have key : ∀ i, i < 7 → ∀ j, j < 7 → (wayT.getD i (0, 0)).1 = (wayT.getD j (0, 0)).1 → i = j := by decide
    exact key i hi j hj e
  · intro i hi
    match i, hi with
    | 0, _ => exact ⟨0, by decide, rfl, rfl⟩
    | 1, _ => exact ⟨2, by decide, rfl, rfl⟩
    | 2, _ => exact ⟨5, by decide, rfl, rfl⟩
    | 3, _ => exact ⟨1, by decide, rfl, rfl⟩
    | 4, _ => exact ⟨3, by decide, rfl, rfl⟩
    | 5, _ => exact ⟨4, by decide, rfl, rfl⟩
    | 6, _ => exact ⟨6, by decide, rfl, rfl⟩
  · intro j hj
    match j, hj with
    | 0, _ => exact ⟨0, by decide, rfl⟩
    | 1, _ => exact ⟨3, by decide, rfl⟩
    | 2, _ => exact ⟨1, by decide, rfl⟩
    | 3, _ => exact ⟨4, by decide, rfl⟩
    | 4, _ => exact ⟨5, by decide, rfl⟩
    | 5, _ => exact ⟨2, by decide, rfl⟩
    | 6, _ => exact ⟨6, by decide, rfl⟩
  · refine awp_ret ⟨.inr rfl, _, Imp.refl _, ?_⟩
    exact .one (.tmp rfl)
end Go.Proofs.Ytdnmoggifjlbiaa.AM
/- A slice beside nil. -/
namespace Go.Proofs.Ytdnmoggifjlbiaa.AM
open Go Go.RowKit Go.Proofs.Ytdnmoggifjlbiaa.PN Go.Proofs.Ytdnmoggifjlbiaa.V
set_option linter.unusedVariables false
set_option linter.unusedSimpArgs false
theorem rv_mat {S : Nat → Prop} {B : Nat} {β : Nat → Nat → Value} {w : World} {fr : Bool} {n m : Nat} {F G : Nat → Nat → RA} (h : ∀ i, i < n → ∀ j, j < m → F i j = G i j) (v : Value) (hv : RV S B β w (.mat fr n (fun _ => m) F) v) : RV S B β w (.mat fr n (fun _ => m) G) v := by
  obtain ⟨A, c, e1, e2, e3, e4⟩ := hv
  refine ⟨A, c, e1, e2, e3, fun i hi => ?_⟩
  obtain ⟨b, off, cs, x, a1, a2, a3, a4, a5, a6⟩ := e4 i hi
  exact ⟨b, off, cs, x, a1, a2, a3, a4, a5, row_congr (fun j hj => h i hi j hj) a6⟩
/-- Whether a slice is none. -/
def nilOf : AV → Option (Bool × Prop)
  | .mat _ n _ _ => some (false, 0 < n)
  | .row _ n _ => some (false, 0 < n)
  | .seq _ l => some (false, 0 < l.length)
  | .v (.slice none 0 0) => some (true, True)
  | _ => none
theorem nilOf_ok {S : Nat → Prop} {B : Nat} {β : Nat → Nat → Value} {w : World} {x : AV} {v : Value} {b : Bool} {c : Prop} (h : RV S B β w x v) (hn : nilOf x = some (b, c)) (hc : c) : ∃ A n k, v = .slice A n k ∧ A.isNone = b := by
  unfold nilOf at hn
  split at hn
  · cases hn
    obtain ⟨A, k, e, _, _, hx⟩ := h
    obtain ⟨b, off, cs, x, hA, _⟩ := hx 0 hc
    exact ⟨A, _, k, e, by rw [hA]; rfl⟩
  · cases hn
    obtain ⟨A, k, e, _, _, hx⟩ := h
    obtain ⟨b, off, hA, _⟩ := hx 0 hc
    exact ⟨A, _, k, e, by rw [hA]; rfl⟩
  · cases hn
    obtain ⟨A, k, e, _, _, hx⟩ := h
    obtain ⟨p, hA, _⟩ := hx 0 hc
    exact ⟨A, _, k, e, by rw [hA]; rfl⟩
  · cases hn; exact ⟨none, 0, 0, h, rfl⟩
  · cases hn
theorem run_eq_slice {T E : TypeId} (h : Try.prog.underlying T = some (.slice E)) (A : Option Addr) (n k : Nat) (w : World) : (Op.equal T (.slice A n k) (.slice none 0 0)).run Try.prog w = .ok A.isNone w := by
  have key : ∀ d, (Op.equalIn (d + 1) T (.slice A n k) (.slice none 0 0)).run Try.prog w = .ok A.isNone w := by
    intro d
    cases A <;> simp [Op.equalIn, run_underlying h]
  exact key 9999
theorem ok_eqnil {o : Oper} {s : St} {x : Operand} {T T' : TypeId} {y : AV} {b : Bool} {c : Prop} (ho : o.op = .binOp .eql T x (.const (.slice none 0 0)) T') (hT : memN T sliceT = true) (hx : avo s x = some y) (hn : nilOf y = some (b, c)) (hc : c) : LOK Try.prog o s ⟨some (.v (.bool b)), [], []⟩ := by
  refine lok_val fun s2 hl W N β w ac hs => ⟨.bool b, ?_, fun z hz => by cases hz; exact ⟨trivial, rfl⟩⟩
  obtain ⟨A, n, k, e, hb⟩ := nilOf_ok (hs.opd (x := x) (by rw [hl.avo (by rw [ho]; simp [Op.operands])]; exact hx)).2 hn hc
  obtain ⟨E, hE⟩ := slice_ok hT
  have h2 : ac.eval (.const (.slice none 0 0)) = .slice none 0 0 := rfl
  unfold execOp; rw [ho]; simp only []; rw [e, h2]
  have hg : (eqGuard .eql T x (.const (.slice none 0 0)) (.slice A n k) (.slice none 0 0)).run Try.prog w = .ok () w := by simp [eqGuard]
  have hb2 : (binOp .eql T (.slice A n k) (.slice none 0 0)).run Try.prog w = .ok (.bool b) w := by
    simp only [binOp, Sem.run_bind, run_eq_slice hE]
    rw [← hb]; rfl
  simp only [Sem.run_bind, hg, Result.andThen_ok, hb2]; rfl
section
variable {ops : Array Oper} {l : List Oper} {s : St} {acc : List Fp} {K : St → List Fp → Prop} {d : Option Tmp} {ty : TypeId} {ps : String} {aft : Array Edge}
theorem st_eqnil {x : Operand} {T T' : TypeId} {y : AV} {b : Bool} {c : Prop} (hx : avo s x = some y) (hn : nilOf y = some (b, c)) (hT : memN T sliceT = true) (hc : c) (k : AOps Try.prog ops l (nxt s d (some (.v (.bool b))) []) (([], []) :: acc) K) : AOps Try.prog ops (⟨d, .binOp .eql T x (.const (.slice none 0 0)) T', ty, ps, aft, none⟩ :: l) s acc K :=
  st_lok (ok_eqnil rfl hT hx hn hc) k
end
end Go.Proofs.Ytdnmoggifjlbiaa.AM
/- Dense matrices: walks: zero, one, dot. -/
namespace Go.Proofs.Ytdnmoggifjlbiaa.AM
open Go Go.RowKit Go.Proofs.Ytdnmoggifjlbiaa.PN Go.Proofs.Ytdnmoggifjlbiaa.V
open Go.Proofs.Ytdnmoggifjlbiaa.LA (S S_succ S_zero S_congr)
set_option linter.unusedVariables false
set_option linter.unusedSimpArgs false
theorem d_zero : Has Try.prog 84 [] (.q 0) := by
  refine Has.imp (r := .ra (.raw false [] [1])) ?_ rfl (fun S B β w v => rv_zero)
  refine has_of Try.func84 (by kernel_rfl) rfl Try.ntmps84 Try.results84 rfl rfl rfl ?_
  refine run0 ?_
  refine ⟨.inr rfl, _, Imp.refl _, ?_⟩
  exact .one (.rat rfl rfl (by decide) rfl (by decide) rfl)
theorem d_dot {n K : Nat} {f g : Nat → Rat} [hf : ∀ i, Wt (f i) K] [hg : ∀ i, Wt (g i) K] (hn : n ≤ 8) (hK : K ≤ 1000000000) : Has Try.prog 60 [.row false n (fun i => .q (f i)), .row false n (fun i => .q (g i))] (.q (S n fun i => f i * g i)) := by
  refine has_of Try.func60 (by kernel_rfl) rfl Try.ntmps60 Try.results60 rfl rfl rfl ?_
  repeat(first|refine run1 ?_|((with_reducible apply st_call);exact rfl;exact rfl;exact rfl;first|(exact d_zero))|((with_reducible apply st_callg);exact rfl;exact rfl;(first|exact rfl|assumption);exact rfl;exact rfl;exact rfl;first|(exact d_zero)))
  refine awp_loop (fun m s => ∃ k, k ≤ n ∧ m = n - k ∧ s = stl [(0, .row false n (fun i => .q (f i))), (1, .row false n (fun i => .q (g i))), (4, .rptr 4 0 0), (5, .rptr 5 0 0), (12, .i (min (n : Int) n)), (13, .i (k : Int))] [(4, (1, fun _ => .rats 1 (fun _ => ra0))), (5, (1, fun _ => .rats 1 (fun _ => .q (S k fun i => f i * g i))))]) n _ (imp_id ?_ ?_) ⟨0, Nat.zero_le _, rfl, rfl⟩ ?_
  · repeat (first | exact True.intro | refine alle rfl (Le.id rfl) (by first | exact True.intro | rfl) ?_)
  · repeat (first | exact True.intro | refine allh rfl (by decide) (ble1 rfl) True.intro ?_)
  · rintro m s ⟨k, hk, rfl, rfl⟩
    have w1 : Wt (S k fun i => f i * g i) (8 * (K + K + 1) + 1) := Wt.sum (by omega) fun i _ => inferInstance
    refine run0 ?_
    refine awp_if rfl (fun h => ?_) (fun h => ?_)
    · have h : k < n := by omega
      repeat(first|refine run1 ?_|((with_reducible apply st_call);exact rfl;exact rfl;exact rfl;first|(exact c_mul ⟨by omega, by omega⟩)|(exact c_add ⟨by omega, by omega⟩))|((with_reducible apply st_callg);exact rfl;exact rfl;(first|exact rfl|assumption);exact rfl;exact rfl;exact rfl;first|(exact c_mul ⟨by omega, by omega⟩)|(exact c_add ⟨by omega, by omega⟩)))
      refine q_loop (m' := n - (k + 1)) (by omega) (imp_id (e := [(0, .row false n (fun i => .q (f i))), (1, .row false n (fun i => .q (g i))), (4, .rptr 4 0 0), (5, .rptr 5 0 0), (12, .i (min (n : Int) n)), (13, .i ((k + 1 : Nat) : Int))]) (h := [(4, (1, fun _ => .rats 1 (fun _ => ra0))), (5, (1, fun _ => .rats 1 (fun _ => .q (S (k + 1) fun i => f i * g i))))]) ?_ ?_) ⟨k + 1, by omega, rfl, rfl⟩
      · repeat (first | exact True.intro | refine alle rfl (Le.id rfl) (by first | exact True.intro | rfl) ?_)
      · repeat (first | exact True.intro | refine allh rfl (by decide) (ble1 rfl) True.intro ?_)
    · obtain rfl : k = n := by omega
      refine run0 ?_
      refine ⟨.inr rfl, _, Imp.refl _, ?_⟩
      exact .one (.rat rfl rfl (by decide) rfl (by decide) rfl)
end Go.Proofs.Ytdnmoggifjlbiaa.AM
/- Dense matrices: walks: right rows, square matrices, products with vectors. -/
namespace Go.Proofs.Ytdnmoggifjlbiaa.AM
open Go Go.RowKit Go.Proofs.Ytdnmoggifjlbiaa.PN Go.Proofs.Ytdnmoggifjlbiaa.V
open Go.Proofs.Ytdnmoggifjlbiaa.LA (S S_succ S_zero S_congr)
set_option linter.unusedVariables false
set_option linter.unusedSimpArgs false
theorem shape_u : Try.prog.underlying 97 = some (.array 2 3) := by kernel_rfl
theorem int_u : Try.prog.underlying 3 = some (.int .i64) := by kernel_rfl
theorem int_info : (Try.prog.info? 3).map (fun i => (i.zero, i.size, i.bytes)) = some (some (.int .i64 0), 1, 8) := by kernel_rfl
theorem run_eq_shape (w : World) (a b c d : Int) : (Op.equal 97 (.agg #[.int .i64 a, .int .i64 b]) (.agg #[.int .i64 c, .int .i64 d])).run Try.prog w = .ok (decide (a = c) && decide (b = d)) w := by
  obtain ⟨i0, hi, hz0, hz1, hz2⟩ := info_parts int_info
  have hint : ∀ (n : Nat) (x y : Int), (Op.equalIn (n + 1) 3 (.int .i64 x) (.int .i64 y)).run Try.prog w = .ok (decide (x = y)) w := by
    intro n x y
    simp [Op.equalIn, run_underlying int_u, beq_dec]
  have hp : ∀ (xs : Array Value) (o : Nat) (v : Value), xs[o]? = some v → (part 3 xs o).run Try.prog w = .ok v w := by
    intro xs o v h
    simp [part, isAgg, run_underlying int_u, h]
  have hp0 : ∀ x y : Int, (part 3 #[.int .i64 x, .int .i64 y] 0).run Try.prog w = .ok (.int .i64 x) w := fun x y => hp _ 0 _ rfl
  have hp1 : ∀ x y : Int, (part 3 #[.int .i64 x, .int .i64 y] 1).run Try.prog w = .ok (.int .i64 y) w := fun x y => hp _ 1 _ rfl
  unfold Op.equal
  rw [show Op.maxDepth = 9998 + 1 + 1 from rfl]
  unfold Op.equalIn
  rw [Sem.run_bind, run_underlying shape_u w]
  by_cases h1 : a = c <;> by_cases h2 : b = d <;>
  simp [sizeOf, typeInfo, hi, hz1, hint, hp0, hp1, h1, h2, Std.Legacy.Range.forIn_eq_forIn_range', List.range'_succ]
theorem pair_vals {S : Nat → Prop} {B : Nat} {β : Nat → Nat → Value} {w : World} {f : Nat → AV} {v : Value} {a b : Int} (h : RV S B β w (.ag 2 f) v) (h0 : f 0 = .i a) (h1 : f 1 = .i b) : v = .agg #[.int .i64 a, .int .i64 b] := by
  obtain ⟨cs, rfl, h2, h3⟩ := h
  obtain ⟨y0, e0, _, r0⟩ := h3 0 (by decide)
  obtain ⟨y1, e1, _, r1⟩ := h3 1 (by decide)
  rw [h0] at r0; rw [h1] at r1
  have r0 : y0 = .int .i64 a := r0
  have r1 : y1 = .int .i64 b := r1
  subst r0; subst r1
  obtain ⟨cs⟩ := cs
  match cs, h2 with
  | [x, y], _ => cases e0; cases e1; rfl
theorem ok_neq_shape {o : Oper} {s : St} {x y : Operand} {T' : TypeId} {f g : Nat → AV} {a b c d : Int} (ho : o.op = .binOp .neq 97 x y T') (hx : avo s x = some (.ag 2 f)) (hy : avo s y = some (.ag 2 g)) (h0 : f 0 = .i a) (h1 : f 1 = .i b) (h2 : g 0 = .i c) (h3 : g 1 = .i d) :
    LOK Try.prog o s ⟨some (.b (!(decide (a = c) && decide (b = d)))), [], []⟩ := by
  refine lok_val fun s2 hl W N β w ac hs => ⟨.bool (!(decide (a = c) && decide (b = d))), ?_, fun z hz => by cases hz; exact ⟨trivial, rfl⟩⟩
  have e1 := pair_vals (hs.opd (x := x) (by rw [hl.avo (by rw [ho]; simp [Op.operands])]; exact hx)).2 h0 h1
  have e2 := pair_vals (hs.opd (x := y) (by rw [hl.avo (by rw [ho]; simp [Op.operands])]; exact hy)).2 h2 h3
  have hg : (Try.prog.eqGuardType Try.prog.depth 97) = false := by kernel_rfl
  unfold execOp; rw [ho]; simp only []; rw [e1, e2]
  simp [eqGuard, binOp, program, Sem.run, hg, run_eq_shape]
theorem d_right {n K : Nat} {f : Nat → Rat} [hf : ∀ i, Wt (f i) K] (hK : K ≤ 1000000000000) (hn : n ≤ 1000000) : Has Try.prog 59 [.row false n (fun i => .q (f i))] (.b true) := by
  refine has_of Try.func59 (by kernel_rfl) rfl Try.ntmps59 Try.results59 rfl rfl rfl ?_
  refine run0 ?_
  refine awp_loop (fun m s => ∃ k, k ≤ n ∧ m = n - k ∧ s = stl [(0, .row false n (fun i => .q (f i))), (5, .row false n (fun i => .q (f i))), (6, .i (n : Int)), (7, .i (k : Int))] []) n _ (imp_id ?_ ?_) ⟨0, Nat.zero_le _, rfl, rfl⟩ ?_
  · exact eA
  · exact hA
  · rintro m s ⟨k, hk, rfl, rfl⟩
    refine run0 ?_
    refine awp_if rfl (fun h => ?_) (fun h => ?_)
    · have h : k < n := by omega
      repeat(first|refine run1 ?_|((with_reducible apply st_call);exact rfl;exact rfl;exact rfl;first|(exact c_right hK))|((with_reducible apply st_callg);exact rfl;exact rfl;(first|exact rfl|assumption);exact rfl;exact rfl;exact rfl;first|(exact c_right hK)))
      refine awp_no rfl rfl ?_
      refine run0 ?_
      refine q_loop ?_ (imp_id ?_ ?_) ⟨k + 1, ?_, rfl, rfl⟩
      · omega
      · exact eA
      · exact hA
      · omega
    · refine run0 ?_
      refine ⟨.inr rfl, _, Imp.refl _, ?_⟩
      exact .one (.tmp rfl)
end Go.Proofs.Ytdnmoggifjlbiaa.AM
/- Dense matrices: walks: square matrices, products with vectors. -/
namespace Go.Proofs.Ytdnmoggifjlbiaa.AM
open Go Go.RowKit Go.Proofs.Ytdnmoggifjlbiaa.PN Go.Proofs.Ytdnmoggifjlbiaa.V
open Go.Proofs.Ytdnmoggifjlbiaa.LA (S S_succ S_zero S_congr)
set_option linter.unusedVariables false
set_option linter.unusedSimpArgs false
theorem d_square {n K : Nat} {F : Nat → Nat → Rat} [hf : ∀ i j, Wt (F i j) K] (hK : K ≤ 1000000000000) (h0 : 0 < n) (hn : n ≤ 1000000) : Has Try.prog 58 [.mat false n (fun _ => n) (fun i j => .q (F i j))] (.b true) := by
  refine has_of Try.func58 (by kernel_rfl) rfl Try.ntmps58 Try.results58 rfl rfl rfl ?_
  refine run0 ?_
  refine awp_loop (fun m s => ∃ k, k ≤ n ∧ m = n - k ∧ s = stl [(0, .mat false n (fun _ => n) (fun i j => .q (F i j))), (3, .i (n : Int)), (8, .mat false n (fun _ => n) (fun i j => .q (F i j))), (9, .i (n : Int)), (10, .i (k : Int))] []) n _ (imp_id ?_ ?_) ⟨0, Nat.zero_le _, rfl, rfl⟩ ?_
  · exact eA
  · exact hA
  · rintro m s ⟨k, hk, rfl, rfl⟩
    refine run0 ?_
    refine awp_if rfl (fun h => ?_) (fun h => ?_)
    · have h : k < n := by omega
      refine run0 ?_
      with_reducible apply st_lok
      · exact ok_neq_shape (a := n) (b := n) (c := n) (d := n) rfl rfl rfl rfl rfl rfl rfl
      have e1 : (!(decide ((n : Int) = n) && decide ((n : Int) = n))) = false := by simp
      rw [e1]
      repeat(first|refine run1 ?_|((with_reducible apply st_call);exact rfl;exact rfl;exact rfl;first|(exact d_right hK hn))|((with_reducible apply st_callg);exact rfl;exact rfl;(first|exact rfl|assumption);exact rfl;exact rfl;exact rfl;first|(exact d_right hK hn)))
      refine awp_no rfl rfl ?_
      refine run0 ?_
      refine q_loop ?_ (imp_id ?_ ?_) ⟨k + 1, ?_, rfl, rfl⟩
      · omega
      · exact eA
      · exact hA
      · omega
    · refine run0 ?_
      refine ⟨.inr rfl, _, Imp.refl _, ?_⟩
      have e : (some (AV.b (decide (0 < (n : Int))))) = some (.b true) := by congr 2; simp; omega
      exact .one (.tmp e)
theorem d_apply {n K L : Nat} {F : Nat → Nat → Rat} {v : Nat → Rat} [hf : ∀ i j, Wt (F i j) K] [hv : ∀ i, Wt (v i) L] (hK : K ≤ 1000000000) (hL : L ≤ K) (h0 : 0 < n) (hn : n ≤ 8) : Has Try.prog 34 [.mat false n (fun _ => n) (fun i j => .q (F i j)), .row false n (fun i => .q (v i))] (.row true n (fun i => .q (S n fun j => F i j * v j))) := by
  have hv' : ∀ i, Wt (v i) K := fun i => (hv i).mono hL
  refine has_of Try.func34 (by kernel_rfl) rfl Try.ntmps34 Try.results34 rfl rfl rfl ?_
  repeat(first|refine run1 ?_|((with_reducible apply st_call);exact rfl;exact rfl;exact rfl;first|(exact d_square (by omega) h0 (by omega))|(exact d_right (hf := hv) (by omega) (by omega)))|((with_reducible apply st_callg);exact rfl;exact rfl;(first|exact rfl|assumption);exact rfl;exact rfl;exact rfl;first|(exact d_square (by omega) h0 (by omega))|(exact d_right (hf := hv) (by omega) (by omega))))
  rw [show decide ((n : Int) ≠ n) = false by simp]
  repeat(first|refine run1 ?_|((with_reducible apply st_call);exact rfl;exact rfl;exact rfl;first|(exact d_square (by omega) h0 (by omega))|(exact d_right (hf := hv) (by omega) (by omega)))|((with_reducible apply st_callg);exact rfl;exact rfl;(first|exact rfl|assumption);exact rfl;exact rfl;exact rfl;first|(exact d_square (by omega) h0 (by omega))|(exact d_right (hf := hv) (by omega) (by omega))))
  refine awp_no rfl rfl ?_
  refine run0 ?_
  refine awp_loop (fun m s => ∃ k, k ≤ n ∧ m = n - k ∧ s = stl [(0, .mat false n (fun _ => n) (fun i j => .q (F i j))), (1, .row false n (fun i => .q (v i))), (5, .own 25 0), (26, .mat false n (fun _ => n) (fun i j => .q (F i j))), (27, .i (n : Int)), (28, .i (k : Int))] [(25, (1, fun _ => .rats n (grow (fun i => .q (S n fun j => F i j * v j)) ra0 k)))]) n _ (imp_id ?_ ?_) ⟨0, Nat.zero_le _, rfl, rfl⟩ ?_
  · exact eA
  · exact hA
  · rintro m s ⟨k, hk, rfl, rfl⟩
    refine run0 ?_
    refine awp_if rfl (fun h => ?_) (fun h => ?_)
    · have h : k < n := by omega
      repeat(first|refine run1 ?_|((with_reducible apply st_call);exact rfl;exact rfl;exact rfl;first|(exact d_dot hn hK))|((with_reducible apply st_callg);exact rfl;exact rfl;(first|exact rfl|assumption);exact rfl;exact rfl;exact rfl;first|(exact d_dot hn hK)))
      refine q_loop ?_ (imp_id ?_ ?_) ⟨k + 1, ?_, rfl, rfl⟩
      · omega
      · exact eA
      · refine allh rfl (by decide) (blen rfl fun i hi => grow_step _ _ k i) True.intro True.intro
      · omega
    · obtain rfl : k = n := by omega
      refine run0 ?_
      refine ⟨.inr rfl, _, imp_rowv 4 (fun i => .q (S k fun j => F i j * v j)) rfl rfl rfl (fun i hi => grow_full _ _ hi), ?_⟩
      exact .one (.tmp rfl)
end Go.Proofs.Ytdnmoggifjlbiaa.AM
/- Package fast: displaced matrices, applied ones. -/
namespace Go.Proofs.Ytdnmoggifjlbiaa.AM
open Go Go.RowKit Go.Proofs.Ytdnmoggifjlbiaa.PN Go.Proofs.Ytdnmoggifjlbiaa.V
open Go.Proofs.Ytdnmoggifjlbiaa.LA (S S_succ S_zero S_congr)
set_option linter.unusedVariables false
set_option linter.unusedSimpArgs false
set_option maxRecDepth 8000
set_option maxHeartbeats 8000000
theorem fs_disp {g : GD} (h : g.OK) : Has Try.prog 31 [g.v] (.mat true g.n (fun _ => g.n) (fun i j => .q (gdis g i j))) := by
  have n8 := h.n8; have n1 := h.n1; have k1 := h.k1; have k7 := h.k7
  obtain ⟨E, hE⟩ := way_ty
  have hks : ([1, 2, 3, 4, 5, 6, 7] : List Int).getD (g.k - 1) 0 = (g.k : Int) := by
    have hk : g.k = 1 ∨ g.k = 2 ∨ g.k = 3 ∨ g.k = 4 ∨ g.k = 5 ∨ g.k = 6 ∨ g.k = 7 := by omega
    rcases hk with hk | hk | hk | hk | hk | hk | hk <;> rw [hk] <;> rfl
  have hone : ∀ j, j < ([1, 2, 3, 4, 5, 6, 7] : List Int).length → ([1, 2, 3, 4, 5, 6, 7] : List Int).getD j 0 = (g.k : Int) → j = g.k - 1 := fun j hj e => by
    match j, hj with
    | 0, _ | 1, _ | 2, _ | 3, _ | 4, _ | 5, _ | 6, _ => simp at e; omega
  have hrow : ∀ (k : Nat) (U : Nat → Bool) (i : Nat), (grow (fun i => AV.row true g.n (fun j => .q (gdis g i j))) (.v (.slice none 0 0)) k i).ok U := fun k U i =>
    grow_ok (v := fun i => AV.row true g.n (fun j => RA.q (gdis g i j))) (z := .v (.slice none 0 0)) (fun _ => True.intro) True.intro i
  refine has_of Try.func31 (by kernel_rfl) rfl Try.ntmps31 Try.results31 rfl rfl rfl ?_
  repeat(first|refine run1 ?_|((with_reducible apply st_call);exact rfl;exact rfl;exact rfl;first|(exact Has.ag (g7 rfl rfl rfl rfl rfl rfl rfl) (ge_expand h)))|((with_reducible apply st_callg);exact rfl;exact rfl;(first|exact rfl|assumption);exact rfl;exact rfl;exact rfl;first|(exact Has.ag (g7 rfl rfl rfl rfl rfl rfl rfl) (ge_expand h))))
  refine st_eqnil rfl rfl rfl n1 ?_
  refine run0 ?_
  refine awp_no rfl rfl ?_
  repeat(first|refine run1 ?_|((with_reducible apply st_call);exact rfl;exact rfl;exact rfl;first|(exact Has.ag (g8 rfl rfl rfl rfl rfl rfl rfl rfl) (fs_ways g)))|((with_reducible apply st_callg);exact rfl;exact rfl;(first|exact rfl|assumption);exact rfl;exact rfl;exact rfl;first|(exact Has.ag (g8 rfl rfl rfl rfl rfl rfl rfl rfl) (fs_ways g))))
  refine st_lok (ok_lookupf (i := g.k - 1) rfl hE rfl rfl (by show g.k - 1 < 7; omega) hks hone) ?_
  refine run0 ?_
  refine awp_loop (fun m' s => ∃ k, k ≤ g.n ∧ m' = g.n - k ∧ s = stl [(1, .ptr 1 0 0), (4, .bnd (wayF (g.k - 1)) (.ag 8 g.bd)), (5, .own 21 0), (23, .i g.n), (24, .i (k : Int))] [(1, (1, fun _ => .ones 26 7 g.f)), (21, (1, fun _ => .ones WT g.n (grow (fun i => .row true g.n (fun j => .q (gdis g i j))) (.v (.slice none 0 0)) k)))]) g.n _ (imp_id ?_ ?_) ⟨0, Nat.zero_le _, rfl, rfl⟩ ?_
  · exact alle rfl (Le.id rfl) rfl (alle rfl (Le.id rfl) (fun i _ => g.bdok _ i) (by exact eA))
  · refine allh rfl (by decide) (bleo rfl fun _ _ => Le.id rfl) (fun i _ => g.fok _ i) (allh rfl (by decide) (bleo rfl fun i hi => Le.id rfl) ?_ True.intro)
    intro i hi; exact True.intro
  · rintro m' s ⟨k, hk, rfl, rfl⟩
    refine run0 ?_
    refine awp_if rfl (fun h' => ?_) (fun h' => ?_)
    · have hkn : k < g.n := by omega
      refine run0 ?_
      rw [updN_same]
      refine run0 ?_
      refine awp_loop (fun m' s => ∃ j, j ≤ g.n ∧ m' = g.n - j ∧ s = stl [(1, .ptr 1 0 0), (4, .bnd (wayF (g.k - 1)) (.ag 8 g.bd)), (5, .own 21 0), (6, .i (k : Int)), (23, .i g.n), (24, .i (k : Int)), (37, .i g.n), (38, .i (j : Int))] [(1, (1, fun _ => .ones 26 7 g.f)), (21, (1, fun _ => .ones WT g.n (updN (grow (fun i => .row true g.n (fun j => .q (gdis g i j))) (.v (.slice none 0 0)) k) k (.own 31 0)))), (31, (1, fun _ => .rats g.n (grow (fun j => .q (gdis g k j)) ra0 j)))]) g.n _ (imp_id ?_ ?_) ⟨0, Nat.zero_le _, rfl, rfl⟩ ?_
      · exact alle rfl (Le.id rfl) rfl (alle rfl (Le.id rfl) (fun i _ => g.bdok _ i) (by exact eA))
      · refine allh rfl (by decide) (bleo rfl fun _ _ => Le.id rfl) (fun i _ => g.fok _ i) (allh rfl (by decide) (bleo rfl fun i hi => Le.id rfl) ?_ (allh rfl (by decide) (blen rfl fun i hi => rfl) True.intro True.intro))
        intro i hi
        by_cases e : i = k
        · subst e; rw [updN_same]; rfl
        · rw [updN_ne _ _ e]; exact hrow _ _ i
      · rintro m' s ⟨j, hj, rfl, rfl⟩
        refine run0 ?_
        refine awp_if rfl (fun h1 => ?_) (fun h1 => ?_)
        · have hjn : j < g.n := by omega
          refine run0 ?_
          rw [show updN (grow (fun i => AV.row true g.n (fun j => .q (gdis g i j))) (.v (.slice none 0 0)) k) k (.own 31 0) ((k : Int)).toNat = .own 31 0 from updN_same _ _ _]
          repeat(first|refine run1 ?_|((with_reducible apply st_call);exact rfl;exact rfl;exact rfl;first|(exact Has.ag (g8 rfl rfl rfl rfl rfl rfl rfl rfl) (fs_way h hkn hjn)))|((with_reducible apply st_callg);exact rfl;exact rfl;(first|exact rfl|assumption);exact rfl;exact rfl;exact rfl;first|(exact Has.ag (g8 rfl rfl rfl rfl rfl rfl rfl rfl) (fs_way h hkn hjn))))
          refine q_loop ?_ (imp_id ?_ ?_) ⟨j + 1, ?_, rfl, rfl⟩
          · omega
          · exact alle rfl (Le.id rfl) rfl (alle rfl (Le.id rfl) (fun i _ => g.bdok _ i) (by exact eA))
          · refine allh rfl (by decide) (bleo rfl fun _ _ => Le.id rfl) (fun i _ => g.fok _ i) (allh rfl (by decide) (bleo rfl fun i hi => Le.id rfl) ?_ (allh rfl (by decide) (blen rfl fun i hi => grow_step _ _ j i) True.intro True.intro))
            intro i hi
            by_cases e : i = k
            · subst e; rw [updN_same]; rfl
            · rw [updN_ne _ _ e]; exact hrow _ _ i
          · omega
        · have ej : j = g.n := by omega
          subst ej
          refine run0 ?_
          refine q_loop ?_ ((imp_pub 21 k rfl rfl hkn (updN_same _ _ _) rfl rfl (by decide)).trans (imp_id ?_ ?_)) ⟨k + 1, ?_, rfl, rfl⟩
          · omega
          · exact alle rfl (Le.id rfl) rfl (alle rfl (Le.id rfl) (fun i _ => g.bdok _ i) (by exact eA))
          · refine allh rfl (by decide) (bleo rfl fun _ _ => Le.id rfl) (fun i _ => g.fok _ i) (allh rfl (by decide) (bleo rfl fun i hi => ?_) (fun i _ => hrow _ _ i) True.intro)
            by_cases e : i = k
            · subst e
              rw [updN_same, grow_full _ _ (Nat.lt_succ_self i)]
              exact Le.row rfl (fun j hj => grow_full _ _ hj) fun h => h
            · rw [updN_ne _ _ e, updN_ne _ _ e, ← grow_step, updN_ne _ _ e]
              exact Le.id rfl
          · omega
    · have ek : k = g.n := by omega
      subst ek
      refine run0 ?_
      refine ⟨.inr rfl, _, imp_mat 2 (fun _ => g.n) (fun i j => .q (gdis g i j)) rfl rfl rfl (fun i hi => grow_full _ _ hi), ?_⟩
      exact .one (.tmp rfl)
/-- The matrix; nought outside. -/
def gec (g : GD) (i j : Nat) : Rat := if i < g.n ∧ j < g.n then gent g i j else 0
theorem gec_in {g : GD} {i j : Nat} (hi : i < g.n) (hj : j < g.n) : gec g i j = gent g i j := if_pos ⟨hi, hj⟩
theorem gec_wt {g : GD} (h : g.OK) (i j : Nat) : Wt (gec g i j) 300 := by
  unfold gec
  split
  · exact ⟨gent_wt h (by omega) (by omega)⟩
  · exact ⟨by decide⟩
theorem Has.gec {P : Program} {f : FuncId} {g : GD} {xs : List AV} {r : AV} (H : Has P f (.mat false g.n (fun _ => g.n) (fun i j => .q (gec g i j)) :: xs) r) : Has P f (.mat false g.n (fun _ => g.n) (fun i j => .q (gent g i j)) :: xs) r :=
  Has.args H fun S B β w vs hv => rvs_cons (rv_mat fun i hi j hj => by rw [gec_in hi hj]) rvs_same hv
theorem fs_apply {g : GD} {v : Nat → Rat} {n : Nat} (h : g.OK) (hv : ∀ i, Wt (v i) 200) (hn : n ≤ 1000) : Has Try.prog 15 [g.v, .row false n (fun i => .q (v i))] (if n = g.n then .tup (.row true g.n fun i => .q (S g.n fun j => gec g i j * v j)) (.i 0) else .tup (.v (.slice none 0 0)) (.i 3)) := by
  have n8 := h.n8; have n1 := h.n1
  have he := gec_wt h
  by_cases hl : n = g.n
  · rw [if_pos hl]
    subst hl
    refine has_of Try.func15 (by kernel_rfl) rfl Try.ntmps15 Try.results15 rfl rfl rfl ?_
    refine run0 ?_
    refine awp_no rfl (decide_eq_false fun e => e rfl) ?_
    repeat(first|refine run1 ?_|((with_reducible apply st_call);exact rfl;exact rfl;exact rfl;first|(exact Has.ag (g7 rfl rfl rfl rfl rfl rfl rfl) (ge_expand h)))|((with_reducible apply st_callg);exact rfl;exact rfl;(first|exact rfl|assumption);exact rfl;exact rfl;exact rfl;first|(exact Has.ag (g7 rfl rfl rfl rfl rfl rfl rfl) (ge_expand h))))
    refine st_eqnil rfl rfl rfl n1 ?_
    refine run0 ?_
    refine awp_no rfl rfl ?_
    repeat(first|refine run1 ?_|((with_reducible apply st_call);exact rfl;exact rfl;exact rfl;first|(exact Has.gec (d_apply (hf := he) (hv := hv) (by decide) (by decide) n1 n8)))|((with_reducible apply st_callg);exact rfl;exact rfl;(first|exact rfl|assumption);exact rfl;exact rfl;exact rfl;first|(exact Has.gec (d_apply (hf := he) (hv := hv) (by decide) (by decide) n1 n8))))
    exact ⟨.inr rfl, _, Imp.refl _, .two (.tmp rfl) (.tmp rfl)⟩
  · rw [if_neg hl]
    refine has_of Try.func15 (by kernel_rfl) rfl Try.ntmps15 Try.results15 rfl rfl rfl ?_
    refine run0 ?_
    refine awp_yes rfl (decide_eq_true fun e => hl (by omega)) ?_
    refine run0 ?_
    exact ⟨.inr rfl, _, Imp.refl _, .two (.tmp rfl) (.tmp rfl)⟩
end Go.Proofs.Ytdnmoggifjlbiaa.AM
/- Laws of systems: what is known. -/
namespace Go.Proofs.Ytdnmoggifjlbiaa.AM
open Go Go.RowKit Go.Proofs.Ytdnmoggifjlbiaa.PN Go.Proofs.Ytdnmoggifjlbiaa.V
open Go.Proofs.Ytdnmoggifjlbiaa.LA (S S_succ S_zero S_congr)
set_option linter.unusedVariables false
set_option linter.unusedSimpArgs false
set_option maxRecDepth 8000
set_option maxHeartbeats 8000000
theorem rv_agv {S : Nat → Prop} {B : Nat} {β : Nat → Nat → Value} {w : World} {n : Nat} {f f' : Nat → AV} (h : ∀ i, i < n → ∀ v, RV S B β w (f i) v → RV S B β w (f' i) v) (v : Value) (hv : RV S B β w (.ag n f) v) : RV S B β w (.ag n f') v := by
  obtain ⟨cs, e1, e2, e3⟩ := hv
  refine ⟨cs, e1, e2, fun i hi => ?_⟩
  obtain ⟨y, a0, a1, a2⟩ := e3 i hi
  exact ⟨y, a0, a1, h i hi y a2⟩
theorem Has.agv {P : Program} {f : FuncId} {n : Nat} {u u' : Nat → AV} {xs : List AV} {r : AV} (h : ∀ S B β w i, i < n → ∀ v, RV S B β w (u i) v → RV S B β w (u' i) v) (H : Has P f (.ag n u' :: xs) r) : Has P f (.ag n u :: xs) r :=
  Has.args H fun S B β w vs hv => rvs_cons (rv_agv (h S B β w)) rvs_same hv
theorem rv_nil0 {S : Nat → Prop} {B : Nat} {β : Nat → Nat → Value} {w : World} {f : Nat → RA} (v : Value) (hv : RV S B β w (.v (.slice none 0 0)) v) : RV S B β w (.row false 0 f) v :=
  ⟨none, 0, hv, Nat.le_refl _, Nat.zero_le _, fun i hi => absurd hi (Nat.not_lt_zero _)⟩
theorem rv_eq {S : Nat → Prop} {B : Nat} {β : Nat → Nat → Value} {w : World} {x y : AV} (h : x = y) (v : Value) (hv : RV S B β w x v) : RV S B β w y v := h ▸ hv
def kg : GD := ⟨3, 1, 0, 1, 0, 0, 0, fun _ => 5, fun _ => 0, fun _ => 0, fun _ => 0⟩
theorem kg_ok : kg.OK := by
  refine ⟨by decide, by decide, by decide, by decide, by decide, fun h => (by cases h), fun _ => rfl, ?_, ⟨fun i _ => by show wt 5 ≤ 4; decide, fun i hi => absurd hi (Nat.not_lt_zero _), fun i hi => absurd hi (Nat.not_lt_zero _), fun i hi => absurd hi (Nat.not_lt_zero _)⟩, fun i hi j hj => absurd hj (Nat.not_lt_zero _)⟩
  intro i hi
  have hi4 : i = 0 ∨ i = 1 ∨ i = 2 ∨ i = 3 := by omega
  rcases hi4 with rfl | rfl | rfl | rfl <;> decide
theorem kg_args {S : Nat → Prop} {B : Nat} {β : Nat → Nat → Value} {w : World} {u : Nat → AV} {q : Nat → RA} (h0 : u 0 = .i 3) (h1 : u 1 = .i 1) (h2 : u 2 = .i 0) (h3 : u 3 = .row false 1 q) (hq : q 0 = .q 5) (h4 : u 4 = .v (.slice none 0 0)) (h5 : u 5 = .v (.slice none 0 0)) (h6 : u 6 = .v (.slice none 0 0)) : ∀ i, i < 7 → ∀ v, RV S B β w (u i) v → RV S B β w (kg.f i) v := by
  intro i hi v hv
  match i, hi with
  | 0, _ => rw [h0] at hv; exact hv
  | 1, _ => rw [h1] at hv; exact hv
  | 2, _ => rw [h2] at hv; exact hv
  | 3, _ =>
    rw [h3] at hv
    refine rv_row (fun i hi => ?_) v hv
    have hi : i < 1 := hi
    obtain rfl : i = 0 := by omega
    exact hq
  | 4, _ => rw [h4] at hv; exact rv_nil0 v hv
  | 5, _ => rw [h5] at hv; exact rv_nil0 v hv
  | 6, _ => rw [h6] at hv; exact rv_nil0 v hv
end Go.Proofs.Ytdnmoggifjlbiaa.AM
/- Numbers from 0 to n - 1, in each package of laws. -/
namespace Go.Proofs.Ytdnmoggifjlbiaa.AM
open Go Go.RowKit Go.Proofs.Ytdnmoggifjlbiaa.PN Go.Proofs.Ytdnmoggifjlbiaa.V
set_option linter.unusedVariables false
set_option linter.unusedSimpArgs false
end Go.Proofs.Ytdnmoggifjlbiaa.AM
/- Laws of dense matrices: walks: rows and matrices that are the same; ones. -/
namespace Go.Proofs.Ytdnmoggifjlbiaa.AM
open Go Go.RowKit Go.Proofs.Ytdnmoggifjlbiaa.PN Go.Proofs.Ytdnmoggifjlbiaa.V
open Go.Proofs.Ytdnmoggifjlbiaa.LA (S S_succ S_zero S_congr)
set_option linter.unusedVariables false
set_option linter.unusedSimpArgs false
set_option maxRecDepth 4000
set_option maxHeartbeats 4000000
theorem k_rows {n K : Nat} {f g : Nat → Rat} [hf : ∀ i, Wt (f i) K] (hK : K ≤ 1000000000000) (hn : n ≤ 1000) (h : ∀ i, i < n → f i = g i) : Has Try.prog 25 [.row false n (fun i => .q (f i)), .row false n (fun i => .q (g i))] (.b true) := by
  refine has_of Try.func25 (by kernel_rfl) rfl Try.ntmps25 Try.results25 rfl rfl rfl ?_
  refine run0 ?_
  refine awp_no rfl (decide_eq_false (fun h => h rfl)) ?_
  refine run0 ?_
  refine awp_loop (fun m s => ∃ k, k ≤ n ∧ m = n - k ∧ s = stl [(0, .row false n (fun i => .q (f i))), (1, .row false n (fun i => .q (g i))), (5, .i (k : Int))] []) n _ (imp_id ?_ ?_) ⟨0, Nat.zero_le _, rfl, rfl⟩ ?_
  · exact eA
  · exact hA
  · rintro m s ⟨k, hk, rfl, rfl⟩
    refine run0 ?_
    refine awp_if rfl (fun h1 => ?_) (fun h1 => ?_)
    · have h1 : k < n := by omega
      have e := h k h1
      have wg : Wt (g k) K := by rw [← e]; exact hf k
      have C := cs_same (p := f k) (q := g k) ⟨hK, hK⟩
      rw [decide_eq_true e] at C
      repeat(first|refine run1 ?_|((with_reducible apply st_call);exact rfl;exact rfl;exact rfl;first|(exact C))|((with_reducible apply st_callg);exact rfl;exact rfl;(first|exact rfl|assumption);exact rfl;exact rfl;exact rfl;first|(exact C)))
      refine awp_no rfl rfl ?_
      refine run0 ?_
      refine q_loop ?_ (imp_id ?_ ?_) ⟨k + 1, ?_, rfl, rfl⟩
      · omega
      · exact eA
      · exact hA
      · omega
    · refine run0 ?_
      refine ⟨.inr rfl, _, Imp.refl _, ?_⟩
      exact .one (.tmp rfl)
end Go.Proofs.Ytdnmoggifjlbiaa.AM
/- Rows that are the same: the rest. -/
namespace Go.Proofs.Ytdnmoggifjlbiaa.AM
open Go Go.RowKit Go.Proofs.Ytdnmoggifjlbiaa.PN Go.Proofs.Ytdnmoggifjlbiaa.V
open Go.Proofs.Ytdnmoggifjlbiaa.LA (S S_succ S_zero S_congr)
set_option linter.unusedVariables false
set_option linter.unusedSimpArgs false
set_option maxRecDepth 4000
set_option maxHeartbeats 4000000
theorem k_rowsb {n K : Nat} {f g : Nat → Rat} (hf : ∀ i, i < n → Wt (f i) K) (hK1 : 1 ≤ K) (hK : K ≤ 1000000000000) (hn : n ≤ 1000) (h : ∀ i, i < n → f i = g i) : Has Try.prog 25 [.row false n (fun i => .q (f i)), .row false n (fun i => .q (g i))] (.b true) := by
  have w : ∀ i, Wt (if i < n then f i else 0) K := fun i => by
    split
    · rename_i h; exact hf i h
    · exact (inferInstance : Wt 0 1).mono hK1
  refine Has.args (k_rows (f := fun i => if i < n then f i else 0) (g := fun i => if i < n then f i else 0) (hf := w) hK hn (fun _ _ => rfl)) fun S B β w vs hv => rvs_cons (rv_row fun i hi => ?_) (fun us hu => rvs_cons (rv_row fun i hi => ?_) (fun us hu => hu) hu) hv
  · rw [if_pos hi]
  · rw [if_pos hi, h i hi]
end Go.Proofs.Ytdnmoggifjlbiaa.AM
/- Laws of matrices that are applied: what is known. -/
namespace Go.Proofs.Ytdnmoggifjlbiaa.AM
open Go Go.RowKit Go.Proofs.Ytdnmoggifjlbiaa.PN Go.Proofs.Ytdnmoggifjlbiaa.V
open Go.Proofs.Ytdnmoggifjlbiaa.LA (S S_succ S_zero S_congr)
set_option linter.unusedVariables false
set_option linter.unusedSimpArgs false
set_option maxRecDepth 8000
set_option maxHeartbeats 8000000
inductive RowC : AV → Nat → (Nat → Rat) → Prop
  | nil {f : Nat → Rat} : RowC (.v (.slice none 0 0)) 0 f
  | row {n : Nat} {q : Nat → RA} {f : Nat → Rat} (h : ∀ i, i < n → q i = .q (f i)) : RowC (.row false n q) n f
theorem RowC.nil' {x : AV} {f : Nat → Rat} (h : x = .v (.slice none 0 0)) : RowC x 0 f := by rw [h]; exact .nil
theorem RowC.row' {x : AV} {n : Nat} {q : Nat → RA} {f : Nat → Rat} (h : x = .row false n q) (k : ∀ i, i < n → q i = .q (f i)) : RowC x n f := by rw [h]; exact .row k
theorem RowC.one {x : AV} {q : Nat → RA} {f : Nat → Rat} (h : x = .row false 1 q) (k : q 0 = .q (f 0)) : RowC x 1 f := .row' h fun i hi => by
  obtain rfl : i = 0 := by omega
  exact k
theorem RowC.rv {x : AV} {n : Nat} {f : Nat → Rat} (h : RowC x n f) {S : Nat → Prop} {B : Nat} {β : Nat → Nat → Value} {w : World} (v : Value) (hv : RV S B β w x v) : RV S B β w (.row false n fun i => .q (f i)) v := by
  cases h with
  | nil => exact rv_nil0 v hv
  | row h => exact rv_row h v hv
theorem gd_args {g : GD} {S : Nat → Prop} {B : Nat} {β : Nat → Nat → Value} {w : World} {u : Nat → AV} (h0 : u 0 = .i g.k) (h1 : u 1 = .i g.n) (h2 : u 2 = .i g.r) (h3 : RowC (u 3) g.la g.A) (h4 : RowC (u 4) g.lb g.B) (h5 : RowC (u 5) g.lg g.G) (h6 : RowC (u 6) g.lh g.H) : ∀ i, i < 7 → ∀ v, RV S B β w (u i) v → RV S B β w (g.f i) v := by
  intro i hi v hv
  match i, hi with
  | 0, _ => rw [h0] at hv; exact hv
  | 1, _ => rw [h1] at hv; exact hv
  | 2, _ => rw [h2] at hv; exact hv
  | 3, _ => exact h3.rv v hv
  | 4, _ => exact h4.rv v hv
  | 5, _ => exact h5.rv v hv
  | 6, _ => exact h6.rv v hv
def kg9 : GD := ⟨5, 1, 0, 1, 1, 0, 0, fun _ => 3, fun _ => 1, fun _ => 0, fun _ => 0⟩
theorem kg9_ok : kg9.OK := by
  refine ⟨by decide, by decide, by decide, by decide, by decide, fun h => (by cases h), fun _ => rfl, ?_, ⟨fun i _ => by show wt 3 ≤ 4; decide, fun i _ => by show wt 1 ≤ 4; decide, fun i hi => absurd hi (Nat.not_lt_zero _), fun i hi => absurd hi (Nat.not_lt_zero _)⟩, fun i hi j hj => by show (3 : Rat) ≠ 1; decide⟩
  intro i hi
  have hi4 : i = 0 ∨ i = 1 ∨ i = 2 ∨ i = 3 := by omega
  rcases hi4 with rfl | rfl | rfl | rfl <;> decide
theorem k_rows00 : Has Try.prog 25 [.v (.slice none 0 0), .v (.slice none 0 0)] (.b true) :=
  Has.args (k_rowsb (n := 0) (K := 1) (f := fun _ => 0) (g := fun _ => 0) (fun i hi => absurd hi (Nat.not_lt_zero _)) (by decide) (by decide) (by decide) fun i hi => absurd hi (Nat.not_lt_zero _)) fun S B β w vs hv => rvs_cons rv_nil0 (fun us hu => rvs_cons rv_nil0 (fun us hu => hu) hu) hv
theorem has_nil1 {P : Program} {f : FuncId} {x r : AV} {q : Nat → RA} (H : Has P f [x, .row false 0 q] r) : Has P f [x, .v (.slice none 0 0)] r :=
  Has.args H fun S B β w vs hv => rvs_cons (fun v hv => hv) (fun us hu => rvs_cons rv_nil0 (fun us hu => hu) hu) hv
theorem k_known9 : Has Try.prog 13 [] (.b true) := by
  have e1 : gdis kg9 0 0 = 1 := by decide +kernel
  have cs := hs_same (p := gdis kg9 0 0) (q := 1) (by rw [e1]; decide) (by decide)
  rw [decide_eq_true e1] at cs
  have cd : Has Try.prog 31 [kg9.v] (.mat true 1 (fun _ => 1) (fun i j => .q (gdis kg9 i j))) := fs_disp kg9_ok
  have c3 := hs_int 3 (by decide) (by decide)
  have c1 := hs_int 1 (by decide) (by decide)
  have ca := fs_apply (g := kg9) (v := fun _ => 0) (n := 0) kg9_ok (fun i => ⟨by decide⟩) (by decide)
  rw [if_neg (show ¬ (0 = kg9.n) from by decide)] at ca
  refine has_of Try.func13 (by kernel_rfl) rfl Try.ntmps13 Try.results13 rfl rfl rfl ?_
  repeat(first|refine run1p ?_|((with_reducible apply st_call);exact rfl;exact rfl;exact rfl;first|(exact c3)|(exact c1))|((with_reducible apply st_callg);exact rfl;exact rfl;(first|exact rfl|assumption);exact rfl;exact rfl;exact rfl;first|(exact c3)|(exact c1)))
  repeat(first|refine run1p ?_|((with_reducible apply st_call);exact rfl;exact rfl;exact rfl;first|(exact Has.agv (fun S B β w => gd_args (g := kg9) rfl rfl rfl (.one rfl rfl) (.one rfl rfl) (.nil' rfl) (.nil' rfl)) cd)|(exact Has.agv (fun S B β w => gd_args (g := kg9) rfl rfl rfl (.one rfl rfl) (.one rfl rfl) (.nil' rfl) (.nil' rfl)) (has_nil1 ca))|(exact c1)|(exact cs))|((with_reducible apply st_callg);exact rfl;exact rfl;(first|exact rfl|assumption);exact rfl;exact rfl;exact rfl;first|(exact Has.agv (fun S B β w => gd_args (g := kg9) rfl rfl rfl (.one rfl rfl) (.one rfl rfl) (.nil' rfl) (.nil' rfl)) cd)|(exact Has.agv (fun S B β w => gd_args (g := kg9) rfl rfl rfl (.one rfl rfl) (.one rfl rfl) (.nil' rfl) (.nil' rfl)) (has_nil1 ca))|(exact c1)|(exact cs)))
  refine ⟨.inr rfl, _, Imp.refl _, .one (.tmp ?_)⟩
  rfl
theorem app_wt {g : GD} (h : g.OK) {v : Nat → Rat} {L : Nat} (hL : L ≤ 200) (hv : ∀ i, Wt (v i) L) (i : Nat) : wt (S g.n fun j => gec g i j * v j) ≤ 5000 := by
  have n8 := h.n8
  have := wt_sum (n := g.n) (K := 500) (f := fun j => gec g i j * v j) fun u _ => by
    have h1 := wt_mul (gec g i u) (v u); have h2 := (gec_wt h i u).le; have h3 := (hv u).le
    omega
  have h4 := Nat.mul_le_mul_right (500 + 1) n8
  omega
end Go.Proofs.Ytdnmoggifjlbiaa.AM
/- Sums round about. -/
namespace Go.Proofs.Ytdnmoggifjlbiaa.LA
theorem S_turn {n d : Nat} (hd : d ≤ n) (f : Nat → Rat) : S n (fun j => f ((j + d) % n)) = S n f := by
  have h1 : S n (fun j => f ((j + d) % n)) = S ((n - d) + d) (fun j => f ((j + d) % n)) := by rw [Nat.sub_add_cancel hd]
  have h2 : S n f = S (d + (n - d)) f := by rw [Nat.add_sub_cancel' hd]
  rw [h1, h2, S_append, S_append, Rat.add_comm]
  congr 1
  · refine S_congr fun t ht => ?_
    rw [show n - d + t + d = n + t by omega, Nat.add_mod_left, Nat.mod_eq_of_lt (by omega)]
  · refine S_congr fun j hj => ?_
    rw [Nat.mod_eq_of_lt (by omega), Nat.add_comm]
theorem S_circ {n i : Nat} (hi : i < n) (f : Nat → Rat) : S n (fun j => f ((i + n - j) % n)) = S n f := by
  rw [← S_rev n (fun j => f ((i + n - j) % n)), ← S_turn (show i + 1 ≤ n from hi) f]
  refine S_congr fun j hj => ?_
  rw [show i + n - (n - 1 - j) = j + (i + 1) by omega]
end Go.Proofs.Ytdnmoggifjlbiaa.LA

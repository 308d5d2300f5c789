/- Joined texts, 23: FsA AmNl FsB GenF GenG MkD. -/
import Derived.Test.YtdnmoggifjlbiaaGreatJ17
import Derived.Test.YtdnmoggifjlbiaaGreatJ22
import Derived.Test.YtdnmoggifjlbiaaGreatJ18
import Derived.Test.YtdnmoggifjlbiaaGreatJ20
import Derived.Test.YtdnmoggifjlbiaaGreatJ13
import Derived.Test.YtdnmoggifjlbiaaGreatJ14
import Derived.Test.YtdnmoggifjlbiaaGreatJ15
import Derived.Test.YtdnmoggifjlbiaaGreatJ19
set_option linter.unusedVariables false
set_option linter.unusedSimpArgs false
/- Package fast: entries, displaced. -/
namespace Go.Proofs.YtdnmoggifjlbiaaGreat.AM
open Go Go.RowKit Go.Proofs.YtdnmoggifjlbiaaGreat.PN Go.Proofs.YtdnmoggifjlbiaaGreat.V
open Go.Proofs.YtdnmoggifjlbiaaGreat.LA (S S_succ S_zero S_congr)
set_option linter.unusedVariables false
set_option linter.unusedSimpArgs false
set_option maxRecDepth 8000
set_option maxHeartbeats 8000000
/-- A system, and its matrix. -/
def GD.bd (g : GD) (i : Nat) : AV := [AV.i g.k, .i g.n, .i g.r, .row false g.la (fun i => .q (g.A i)), .row false g.lb (fun i => .q (g.B i)), .row false g.lg (fun i => .q (g.G i)), .row false g.lh (fun i => .q (g.H i)), .mat false g.n (fun _ => g.n) (fun i j => .q (gent g i j))].getD i (.v undef)
def GD.bv (g : GD) : AV := .ag 8 g.bd
theorem GD.bdok (g : GD) (U : Nat → Bool) : ∀ i, (g.bd i).ok U
  | 0 | 1 | 2 | 3 | 4 | 5 | 6 | 7 => trivial
  | _ + 8 => trivial
theorem g8 {f f' : Nat → AV} (h0 : f 0 = f' 0) (h1 : f 1 = f' 1) (h2 : f 2 = f' 2) (h3 : f 3 = f' 3) (h4 : f 4 = f' 4) (h5 : f 5 = f' 5) (h6 : f 6 = f' 6) (h7 : f 7 = f' 7) : ∀ i, i < 8 → f i = f' i := fun i hi => by
  match i, hi with
  | 0, _ => exact h0
  | 1, _ => exact h1
  | 2, _ => exact h2
  | 3, _ => exact h3
  | 4, _ => exact h4
  | 5, _ => exact h5
  | 6, _ => exact h6
  | 7, _ => exact h7
theorem gat_wt {g : GD} (h : g.OK) (a b : Int) : wt (gat g a b) ≤ 300 := by
  unfold gat
  split
  · have : wt 0 ≤ 1 := by decide
    omega
  · exact gent_wt h (by omega) (by omega)
theorem fs_zero : Has Tryz.prog 161 [] (.q 0) := by
  refine Has.imp (r := .ra (.raw false [] [1])) ?_ rfl (fun S B β w v => rv_zero)
  refine has_of Tryz.func161 (by kernel_rfl) rfl Tryz.ntmps161 Tryz.results161 rfl rfl rfl ?_
  refine run0 ?_
  refine ⟨.inr rfl, _, Imp.refl _, ?_⟩
  exact .one (.rat rfl rfl (by decide) rfl (by decide) rfl)
theorem fs_at {g : GD} (h : g.OK) {a b : Int} (ha : -1 ≤ a) (hb : -1 ≤ b) : Has Tryz.prog 136 [g.bv, .i a, .i b] (.q (gat g a b)) := by
  refine has_of Tryz.func136 (by kernel_rfl) rfl Tryz.ntmps136 Tryz.results136 rfl rfl rfl ?_
  by_cases a0 : a < 0
  · have e0 : decide (a < 0) = true := decide_eq_true a0
    have e1 : (decide (a < 0) == false) = false := by rw [e0]; rfl
    refine run0 ?_
    refine awp_yes rfl rfl ?_
    rw [gat_out (.inl a0)]
    repeat(first|refine run1 ?_|((with_reducible apply st_call);exact rfl;exact rfl;exact rfl;first|(exact fs_zero))|((with_reducible apply st_callg);exact rfl;exact rfl;(first|exact rfl|assumption);exact rfl;exact rfl;exact rfl;first|(exact fs_zero)))
    exact ⟨.inr rfl, _, Imp.refl _, .one (.rat rfl rfl (by decide) rfl (by decide) rfl)⟩
  have e0 : decide (a < 0) = false := decide_eq_false a0
  have e1 : (decide (a < 0) == false) = true := by rw [e0]; rfl
  by_cases b0 : b < 0
  · have f0 : decide (b < 0) = true := decide_eq_true b0
    have f1 : (decide (b < 0) == false) = false := by rw [f0]; rfl
    refine run0 ?_
    refine awp_yes rfl rfl ?_
    rw [gat_out (.inr (.inl b0))]
    repeat(first|refine run1 ?_|((with_reducible apply st_call);exact rfl;exact rfl;exact rfl;first|(exact fs_zero))|((with_reducible apply st_callg);exact rfl;exact rfl;(first|exact rfl|assumption);exact rfl;exact rfl;exact rfl;first|(exact fs_zero)))
    exact ⟨.inr rfl, _, Imp.refl _, .one (.rat rfl rfl (by decide) rfl (by decide) rfl)⟩
  have f0 : decide (b < 0) = false := decide_eq_false b0
  have f1 : (decide (b < 0) == false) = true := by rw [f0]; rfl
  by_cases a1 : (g.n : Int) ≤ a
  · have g0 : decide ((g.n : Int) ≤ a) = true := decide_eq_true a1
    have g1 : (decide ((g.n : Int) ≤ a) == false) = false := by rw [g0]; rfl
    refine run0 ?_
    refine awp_yes rfl rfl ?_
    rw [gat_out (.inr (.inr (.inl a1)))]
    repeat(first|refine run1 ?_|((with_reducible apply st_call);exact rfl;exact rfl;exact rfl;first|(exact fs_zero))|((with_reducible apply st_callg);exact rfl;exact rfl;(first|exact rfl|assumption);exact rfl;exact rfl;exact rfl;first|(exact fs_zero)))
    exact ⟨.inr rfl, _, Imp.refl _, .one (.rat rfl rfl (by decide) rfl (by decide) rfl)⟩
  have g0 : decide ((g.n : Int) ≤ a) = false := decide_eq_false a1
  have g1 : (decide ((g.n : Int) ≤ a) == false) = true := by rw [g0]; rfl
  by_cases b1 : (g.n : Int) ≤ b
  · have h0 : decide ((g.n : Int) ≤ b) = true := decide_eq_true b1
    refine run0 ?_
    refine awp_yes rfl h0 ?_
    rw [gat_out (.inr (.inr (.inr b1)))]
    repeat(first|refine run1 ?_|((with_reducible apply st_call);exact rfl;exact rfl;exact rfl;first|(exact fs_zero))|((with_reducible apply st_callg);exact rfl;exact rfl;(first|exact rfl|assumption);exact rfl;exact rfl;exact rfl;first|(exact fs_zero)))
    exact ⟨.inr rfl, _, Imp.refl _, .one (.rat rfl rfl (by decide) rfl (by decide) rfl)⟩
  have h0 : decide ((g.n : Int) ≤ b) = false := decide_eq_false b1
  refine run0 ?_
  refine awp_no rfl h0 ?_
  rw [show gat g a b = gent g a.toNat b.toNat by unfold gat; rw [if_neg (by omega)]]
  refine run0 ?_
  exact ⟨.inr rfl, _, Imp.refl _, .one (.rat rfl rfl (by decide) rfl (by decide) rfl)⟩
theorem fs_slant {g : GD} (h : g.OK) {i j : Nat} (hi : i < g.n) (hj : j < g.n) : Has Tryz.prog 98 [g.bv, .i i, .i j] (.q (gat g i j - gat g ((i : Int) - 1) ((j : Int) - 1))) := by
  have n8 := h.n8
  have w1 := gat_wt h i j; have w2 := gat_wt h ((i : Int) - 1) ((j : Int) - 1)
  refine has_of Tryz.func98 (by kernel_rfl) rfl Tryz.ntmps98 Tryz.results98 rfl rfl rfl ?_
  repeat(first|refine run1 ?_|((with_reducible apply st_call);exact rfl;exact rfl;exact rfl;first|(exact Has.ag (g8 rfl rfl rfl rfl rfl rfl rfl rfl) (fs_at h (by omega) (by omega)))|(exact h_sub (by omega) (by omega)))|((with_reducible apply st_callg);exact rfl;exact rfl;(first|exact rfl|assumption);exact rfl;exact rfl;exact rfl;first|(exact Has.ag (g8 rfl rfl rfl rfl rfl rfl rfl rfl) (fs_at h (by omega) (by omega)))|(exact h_sub (by omega) (by omega))))
  exact ⟨.inr rfl, _, Imp.refl _, .one (.rat rfl rfl (by decide) rfl (by decide) rfl)⟩
theorem fs_across {g : GD} (h : g.OK) {i j : Nat} (hi : i < g.n) (hj : j < g.n) : Has Tryz.prog 99 [g.bv, .i i, .i j] (.q (gat g ((i : Int) - 1) j - gat g i ((j : Int) - 1))) := by
  have n8 := h.n8
  have w1 := gat_wt h ((i : Int) - 1) j; have w2 := gat_wt h i ((j : Int) - 1)
  refine has_of Tryz.func99 (by kernel_rfl) rfl Tryz.ntmps99 Tryz.results99 rfl rfl rfl ?_
  repeat(first|refine run1 ?_|((with_reducible apply st_call);exact rfl;exact rfl;exact rfl;first|(exact Has.ag (g8 rfl rfl rfl rfl rfl rfl rfl rfl) (fs_at h (by omega) (by omega)))|(exact h_sub (by omega) (by omega)))|((with_reducible apply st_callg);exact rfl;exact rfl;(first|exact rfl|assumption);exact rfl;exact rfl;exact rfl;first|(exact Has.ag (g8 rfl rfl rfl rfl rfl rfl rfl rfl) (fs_at h (by omega) (by omega)))|(exact h_sub (by omega) (by omega))))
  exact ⟨.inr rfl, _, Imp.refl _, .one (.rat rfl rfl (by decide) rfl (by decide) rfl)⟩
theorem fs_nodes {g : GD} (h : g.OK) (hk : g.k = 4) {i j : Nat} (hi : i < g.n) (hj : j < g.n) : Has Tryz.prog 100 [g.bv, .i i, .i j] (.q (g.A i * gat g i j - gat g i ((j : Int) + 1))) := by
  have n8 := h.n8
  obtain ⟨m1, m2, m3, m4⟩ := ok_lens h
  have hl : i < g.la := by omega
  have w1 := gat_wt h i j; have w2 := gat_wt h i ((j : Int) + 1); have w3 := h.sm.A i hl
  have w4 := wt_mul (g.A i) (gat g i j)
  refine has_of Tryz.func100 (by kernel_rfl) rfl Tryz.ntmps100 Tryz.results100 rfl rfl rfl ?_
  repeat(first|refine run1 ?_|((with_reducible apply st_call);exact rfl;exact rfl;exact rfl;first|(exact Has.ag (g8 rfl rfl rfl rfl rfl rfl rfl rfl) (fs_at h (by omega) (by omega)))|(exact h_sub (p := g.A i * gat g i j) (by omega) (by omega))|(exact h_mul (p := g.A i) (by omega) (by omega)))|((with_reducible apply st_callg);exact rfl;exact rfl;(first|exact rfl|assumption);exact rfl;exact rfl;exact rfl;first|(exact Has.ag (g8 rfl rfl rfl rfl rfl rfl rfl rfl) (fs_at h (by omega) (by omega)))|(exact h_sub (p := g.A i * gat g i j) (by omega) (by omega))|(exact h_mul (p := g.A i) (by omega) (by omega))))
  exact ⟨.inr rfl, _, Imp.refl _, .one (.rat rfl rfl (by decide) rfl (by decide) rfl)⟩
theorem fs_apart {g : GD} (h : g.OK) (hk : g.k = 5 ∨ g.k = 7) {i j : Nat} (hi : i < g.n) (hj : j < g.n) : Has Tryz.prog 101 [g.bv, .i i, .i j] (.q ((g.A i - g.B j) * gat g i j)) := by
  have n8 := h.n8
  obtain ⟨m1, m2, m3, m4⟩ := ok_lens h
  have hl : i < g.la := by omega
  have hl2 : j < g.lb := by omega
  have w1 := gat_wt h i j; have w2 := h.sm.A i hl; have w3 := h.sm.B j hl2
  have w4 := wt_sub (g.A i) (g.B j)
  refine has_of Tryz.func101 (by kernel_rfl) rfl Tryz.ntmps101 Tryz.results101 rfl rfl rfl ?_
  repeat(first|refine run1 ?_|((with_reducible apply st_call);exact rfl;exact rfl;exact rfl;first|(exact Has.ag (g8 rfl rfl rfl rfl rfl rfl rfl rfl) (fs_at h (by omega) (by omega)))|(exact h_sub (p := g.A i) (q := g.B j) (by omega) (by omega))|(exact h_mul (p := g.A i - g.B j) (by omega) (by omega)))|((with_reducible apply st_callg);exact rfl;exact rfl;(first|exact rfl|assumption);exact rfl;exact rfl;exact rfl;first|(exact Has.ag (g8 rfl rfl rfl rfl rfl rfl rfl rfl) (fs_at h (by omega) (by omega)))|(exact h_sub (p := g.A i) (q := g.B j) (by omega) (by omega))|(exact h_mul (p := g.A i - g.B j) (by omega) (by omega))))
  exact ⟨.inr rfl, _, Imp.refl _, .one (.rat rfl rfl (by decide) rfl (by decide) rfl)⟩
/-- How a kind is displaced. -/
def wayF (i : Nat) : FuncId := match i with
  | 1 => 99
  | 3 => 100
  | 4 => 101
  | 6 => 101
  | _ => 98
def wayT : List (Int × FuncId) := [(1, 98), (3, 98), (6, 98), (2, 99), (4, 100), (5, 101), (7, 101)]
theorem fs_way {g : GD} (h : g.OK) {i j : Nat} (hi : i < g.n) (hj : j < g.n) : Has Tryz.prog (wayF (g.k - 1)) [g.bv, .i i, .i j] (.q (gdis g i j)) := by
  have h1 := h.k1; have h7 := h.k7
  have hk : g.k = 1 ∨ g.k = 2 ∨ g.k = 3 ∨ g.k = 4 ∨ g.k = 5 ∨ g.k = 6 ∨ g.k = 7 := by omega
  have eS : g.k = 1 ∨ g.k = 3 ∨ g.k = 6 → Has Tryz.prog (wayF (g.k - 1)) [g.bv, .i i, .i j] (.q (gdis g i j)) := fun hk => by
    have e : gdis g i j = gat g i j - gat g ((i : Int) - 1) ((j : Int) - 1) := by
      unfold gdis
      rcases hk with hk | hk | hk <;> (rw [hk]; rfl)
    have e2 : wayF (g.k - 1) = 98 := by rcases hk with hk | hk | hk <;> (rw [hk]; rfl)
    rw [e, e2]
    exact fs_slant h hi hj
  have eA : g.k = 5 ∨ g.k = 7 → Has Tryz.prog (wayF (g.k - 1)) [g.bv, .i i, .i j] (.q (gdis g i j)) := fun hk => by
    have e : gdis g i j = (g.A i - g.B j) * gat g i j := by
      unfold gdis
      rcases hk with hk | hk <;> (rw [hk]; rfl)
    have e2 : wayF (g.k - 1) = 101 := by rcases hk with hk | hk <;> (rw [hk]; rfl)
    rw [e, e2]
    exact fs_apart h hk hi hj
  rcases hk with hk | hk | hk | hk | hk | hk | hk
  · exact eS (.inl hk)
  · have e : gdis g i j = gat g ((i : Int) - 1) j - gat g i ((j : Int) - 1) := by unfold gdis; rw [hk]; rfl
    have e2 : wayF (g.k - 1) = 99 := by rw [hk]; rfl
    rw [e, e2]
    exact fs_across h hi hj
  · exact eS (.inr (.inl hk))
  · have e : gdis g i j = g.A i * gat g i j - gat g i ((j : Int) + 1) := by unfold gdis; rw [hk]; rfl
    have e2 : wayF (g.k - 1) = 100 := by rw [hk]; rfl
    rw [e, e2]
    exact fs_nodes h hk hi hj
  · exact eA (.inl hk)
  · exact eS (.inr (.inr hk))
  · exact eA (.inr hk)
theorem way_ty : ∃ E, Tryz.prog.underlying 79 = some (.map INT E) := ⟨78, by kernel_rfl⟩
theorem fs_ways (g : GD) : Has Tryz.prog 65 [g.bv] (.mf [1, 2, 3, 4, 5, 6, 7] fun i => .bnd (wayF i) (.ag 8 g.bd)) := by
  obtain ⟨E, hE⟩ := way_ty
  refine has_of Tryz.func65 (by kernel_rfl) rfl Tryz.ntmps65 Tryz.results65 rfl rfl rfl ?_
  refine run2 ?_
  refine (awp_mf (N := 19) (n := 7) (g := 1) (m := 8) (f := g.bd) (tab := wayT) (T := 81) (M := 79) ?_ hE rfl ?_ rfl rfl rfl rfl rfl [1, 2, 3, 4, 5, 6, 7] wayF ?_ ?_ ?_)
  · refine ⟨rfl, ⟨_, rfl, rfl, rfl, rfl⟩, fun j hj => ?_, fun j hj => ?_, fun j hj => ?_, ?_, ?_⟩
    · match j, hj with
      | 0, _ | 1, _ | 2, _ | 3, _ | 4, _ | 5, _ | 6, _ => exact ⟨_, rfl, rfl, rfl, rfl⟩
    · match j, hj with
      | 0, _ | 1, _ | 2, _ | 3, _ | 4, _ | 5, _ | 6, _ => exact ⟨_, rfl, rfl, rfl, rfl⟩
    · match j, hj with
      | 0, _ | 1, _ | 2, _ | 3, _ | 4, _ | 5, _ | 6, _ => exact ⟨_, rfl, rfl, rfl, rfl⟩
    · exact ⟨_, rfl, rfl, rfl, rfl⟩
    · exact ⟨_, rfl, rfl, rfl, rfl⟩
  · intro i j hi hj e
    have key : ∀ i, i < 7 → ∀ j, j < 7 → (wayT.getD i (0, 0)).1 = (wayT.getD j (0, 0)).1 → i = j := by decide
    exact key i hi j hj e
  · intro i hi
    match i, hi with
    | 0, _ => exact ⟨0, by decide, rfl, rfl⟩
    | 1, _ => exact ⟨2, by decide, rfl, rfl⟩
    | 2, _ => exact ⟨5, by decide, rfl, rfl⟩
    | 3, _ => exact ⟨1, by decide, rfl, rfl⟩
    | 4, _ => exact ⟨3, by decide, rfl, rfl⟩
    | 5, _ => exact ⟨4, by decide, rfl, rfl⟩
    | 6, _ => exact ⟨6, by decide, rfl, rfl⟩
  · intro j hj
    match j, hj with
    | 0, _ => exact ⟨0, by decide, rfl⟩
    | 1, _ => exact ⟨3, by decide, rfl⟩
    | 2, _ => exact ⟨1, by decide, rfl⟩
    | 3, _ => exact ⟨4, by decide, rfl⟩
    | 4, _ => exact ⟨5, by decide, rfl⟩
    | 5, _ => exact ⟨2, by decide, rfl⟩
    | 6, _ => exact ⟨6, by decide, rfl⟩
  · refine awp_ret ⟨.inr rfl, _, Imp.refl _, ?_⟩
    exact .one (.tmp rfl)
end Go.Proofs.YtdnmoggifjlbiaaGreat.AM
/- A slice beside nil. -/
namespace Go.Proofs.YtdnmoggifjlbiaaGreat.AM
open Go Go.RowKit Go.Proofs.YtdnmoggifjlbiaaGreat.PN Go.Proofs.YtdnmoggifjlbiaaGreat.V
set_option linter.unusedVariables false
set_option linter.unusedSimpArgs false
theorem rv_mat {S : Nat → Prop} {B : Nat} {β : Nat → Nat → Value} {w : World} {fr : Bool} {n m : Nat} {F G : Nat → Nat → RA} (h : ∀ i, i < n → ∀ j, j < m → F i j = G i j) (v : Value) (hv : RV S B β w (.mat fr n (fun _ => m) F) v) : RV S B β w (.mat fr n (fun _ => m) G) v := by
  obtain ⟨A, c, e1, e2, e3, e4⟩ := hv
  refine ⟨A, c, e1, e2, e3, fun i hi => ?_⟩
  obtain ⟨b, off, cs, x, a1, a2, a3, a4, a5, a6⟩ := e4 i hi
  exact ⟨b, off, cs, x, a1, a2, a3, a4, a5, row_congr (fun j hj => h i hi j hj) a6⟩
/-- Whether a slice is none. -/
def nilOf : AV → Option (Bool × Prop)
  | .mat _ n _ _ => some (false, 0 < n)
  | .row _ n _ => some (false, 0 < n)
  | .seq _ l => some (false, 0 < l.length)
  | .v (.slice none 0 0) => some (true, True)
  | _ => none
theorem nilOf_ok {S : Nat → Prop} {B : Nat} {β : Nat → Nat → Value} {w : World} {x : AV} {v : Value} {b : Bool} {c : Prop} (h : RV S B β w x v) (hn : nilOf x = some (b, c)) (hc : c) : ∃ A n k, v = .slice A n k ∧ A.isNone = b := by
  unfold nilOf at hn
  split at hn
  · cases hn
    obtain ⟨A, k, e, _, _, hx⟩ := h
    obtain ⟨b, off, cs, x, hA, _⟩ := hx 0 hc
    exact ⟨A, _, k, e, by rw [hA]; rfl⟩
  · cases hn
    obtain ⟨A, k, e, _, _, hx⟩ := h
    obtain ⟨b, off, hA, _⟩ := hx 0 hc
    exact ⟨A, _, k, e, by rw [hA]; rfl⟩
  · cases hn
    obtain ⟨A, k, e, _, _, hx⟩ := h
    obtain ⟨p, hA, _⟩ := hx 0 hc
    exact ⟨A, _, k, e, by rw [hA]; rfl⟩
  · cases hn; exact ⟨none, 0, 0, h, rfl⟩
  · cases hn
theorem run_eq_slice {T E : TypeId} (h : Tryz.prog.underlying T = some (.slice E)) (A : Option Addr) (n k : Nat) (w : World) : (Op.equal T (.slice A n k) (.slice none 0 0)).run Tryz.prog w = .ok A.isNone w := by
  have key : ∀ d, (Op.equalIn (d + 1) T (.slice A n k) (.slice none 0 0)).run Tryz.prog w = .ok A.isNone w := by
    intro d
    cases A <;> simp [Op.equalIn, run_underlying h]
  exact key 9999
theorem ok_eqnil {o : Oper} {s : St} {x : Operand} {T T' : TypeId} {y : AV} {b : Bool} {c : Prop} (ho : o.op = .binOp .eql T x (.const (.slice none 0 0)) T') (hT : memN T sliceT = true) (hx : avo s x = some y) (hn : nilOf y = some (b, c)) (hc : c) : LOK Tryz.prog o s ⟨some (.v (.bool b)), [], []⟩ := by
  refine lok_val fun s2 hl W N β w ac hs => ⟨.bool b, ?_, fun z hz => by cases hz; exact ⟨trivial, rfl⟩⟩
  obtain ⟨A, n, k, e, hb⟩ := nilOf_ok (hs.opd (x := x) (by rw [hl.avo (by rw [ho]; simp [Op.operands])]; exact hx)).2 hn hc
  obtain ⟨E, hE⟩ := slice_ok hT
  have h2 : ac.eval (.const (.slice none 0 0)) = .slice none 0 0 := rfl
  unfold execOp; rw [ho]; simp only []; rw [e, h2]
  have hg : (eqGuard .eql T x (.const (.slice none 0 0)) (.slice A n k) (.slice none 0 0)).run Tryz.prog w = .ok () w := by simp [eqGuard]
  have hb2 : (binOp .eql T (.slice A n k) (.slice none 0 0)).run Tryz.prog w = .ok (.bool b) w := by
    simp only [binOp, Sem.run_bind, run_eq_slice hE]
    rw [← hb]; rfl
  simp only [Sem.run_bind, hg, Result.andThen_ok, hb2]; rfl
section
variable {ops : Array Oper} {l : List Oper} {s : St} {acc : List Fp} {K : St → List Fp → Prop} {d : Option Tmp} {ty : TypeId} {ps : String} {aft : Array Edge}
theorem st_eqnil {x : Operand} {T T' : TypeId} {y : AV} {b : Bool} {c : Prop} (hx : avo s x = some y) (hn : nilOf y = some (b, c)) (hT : memN T sliceT = true) (hc : c) (k : AOps Tryz.prog ops l (nxt s d (some (.v (.bool b))) []) (([], []) :: acc) K) : AOps Tryz.prog ops (⟨d, .binOp .eql T x (.const (.slice none 0 0)) T', ty, ps, aft, none⟩ :: l) s acc K :=
  st_lok (ok_eqnil rfl hT hx hn hc) k
end
end Go.Proofs.YtdnmoggifjlbiaaGreat.AM
/- Package fast: displaced matrices, applied ones. -/
namespace Go.Proofs.YtdnmoggifjlbiaaGreat.AM
open Go Go.RowKit Go.Proofs.YtdnmoggifjlbiaaGreat.PN Go.Proofs.YtdnmoggifjlbiaaGreat.V
open Go.Proofs.YtdnmoggifjlbiaaGreat.LA (S S_succ S_zero S_congr)
set_option linter.unusedVariables false
set_option linter.unusedSimpArgs false
set_option maxRecDepth 8000
set_option maxHeartbeats 8000000
theorem fs_disp {g : GD} (h : g.OK) : Has Tryz.prog 25 [g.v] (.mat true g.n (fun _ => g.n) (fun i j => .q (gdis g i j))) := by
  have n8 := h.n8; have n1 := h.n1; have k1 := h.k1; have k7 := h.k7
  obtain ⟨E, hE⟩ := way_ty
  have hks : ([1, 2, 3, 4, 5, 6, 7] : List Int).getD (g.k - 1) 0 = (g.k : Int) := by
    have hk : g.k = 1 ∨ g.k = 2 ∨ g.k = 3 ∨ g.k = 4 ∨ g.k = 5 ∨ g.k = 6 ∨ g.k = 7 := by omega
    rcases hk with hk | hk | hk | hk | hk | hk | hk <;> rw [hk] <;> rfl
  have hone : ∀ j, j < ([1, 2, 3, 4, 5, 6, 7] : List Int).length → ([1, 2, 3, 4, 5, 6, 7] : List Int).getD j 0 = (g.k : Int) → j = g.k - 1 := fun j hj e => by
    match j, hj with
    | 0, _ | 1, _ | 2, _ | 3, _ | 4, _ | 5, _ | 6, _ => simp at e; omega
  have hrow : ∀ (k : Nat) (U : Nat → Bool) (i : Nat), (grow (fun i => AV.row true g.n (fun j => .q (gdis g i j))) (.v (.slice none 0 0)) k i).ok U := fun k U i =>
    grow_ok (v := fun i => AV.row true g.n (fun j => RA.q (gdis g i j))) (z := .v (.slice none 0 0)) (fun _ => True.intro) True.intro i
  refine has_of Tryz.func25 (by kernel_rfl) rfl Tryz.ntmps25 Tryz.results25 rfl rfl rfl ?_
  repeat(first|refine run1 ?_|((with_reducible apply st_call);exact rfl;exact rfl;exact rfl;first|(exact Has.ag (g7 rfl rfl rfl rfl rfl rfl rfl) (ge_expand h)))|((with_reducible apply st_callg);exact rfl;exact rfl;(first|exact rfl|assumption);exact rfl;exact rfl;exact rfl;first|(exact Has.ag (g7 rfl rfl rfl rfl rfl rfl rfl) (ge_expand h))))
  refine st_eqnil rfl rfl rfl n1 ?_
  refine run0 ?_
  refine awp_no rfl rfl ?_
  repeat(first|refine run1 ?_|((with_reducible apply st_call);exact rfl;exact rfl;exact rfl;first|(exact Has.ag (g8 rfl rfl rfl rfl rfl rfl rfl rfl) (fs_ways g)))|((with_reducible apply st_callg);exact rfl;exact rfl;(first|exact rfl|assumption);exact rfl;exact rfl;exact rfl;first|(exact Has.ag (g8 rfl rfl rfl rfl rfl rfl rfl rfl) (fs_ways g))))
  refine st_lok (ok_lookupf (i := g.k - 1) rfl hE rfl rfl (by show g.k - 1 < 7; omega) hks hone) ?_
  refine run0 ?_
  refine awp_loop (fun m' s => ∃ k, k ≤ g.n ∧ m' = g.n - k ∧ s = stl [(1, .ptr 1 0 0), (4, .bnd (wayF (g.k - 1)) (.ag 8 g.bd)), (5, .own 21 0), (23, .i g.n), (24, .i (k : Int))] [(1, (1, fun _ => .ones 26 7 g.f)), (21, (1, fun _ => .ones WT g.n (grow (fun i => .row true g.n (fun j => .q (gdis g i j))) (.v (.slice none 0 0)) k)))]) g.n _ (imp_id ?_ ?_) ⟨0, Nat.zero_le _, rfl, rfl⟩ ?_
  · exact alle rfl (Le.id rfl) rfl (alle rfl (Le.id rfl) (fun i _ => g.bdok _ i) (by exact eA))
  · refine allh rfl (by decide) (bleo rfl fun _ _ => Le.id rfl) (fun i _ => g.fok _ i) (allh rfl (by decide) (bleo rfl fun i hi => Le.id rfl) ?_ True.intro)
    intro i hi; exact True.intro
  · rintro m' s ⟨k, hk, rfl, rfl⟩
    refine run0 ?_
    refine awp_if rfl (fun h' => ?_) (fun h' => ?_)
    · have hkn : k < g.n := by omega
      refine run0 ?_
      rw [updN_same]
      refine run0 ?_
      refine awp_loop (fun m' s => ∃ j, j ≤ g.n ∧ m' = g.n - j ∧ s = stl [(1, .ptr 1 0 0), (4, .bnd (wayF (g.k - 1)) (.ag 8 g.bd)), (5, .own 21 0), (6, .i (k : Int)), (23, .i g.n), (24, .i (k : Int)), (37, .i g.n), (38, .i (j : Int))] [(1, (1, fun _ => .ones 26 7 g.f)), (21, (1, fun _ => .ones WT g.n (updN (grow (fun i => .row true g.n (fun j => .q (gdis g i j))) (.v (.slice none 0 0)) k) k (.own 31 0)))), (31, (1, fun _ => .rats g.n (grow (fun j => .q (gdis g k j)) ra0 j)))]) g.n _ (imp_id ?_ ?_) ⟨0, Nat.zero_le _, rfl, rfl⟩ ?_
      · exact alle rfl (Le.id rfl) rfl (alle rfl (Le.id rfl) (fun i _ => g.bdok _ i) (by exact eA))
      · refine allh rfl (by decide) (bleo rfl fun _ _ => Le.id rfl) (fun i _ => g.fok _ i) (allh rfl (by decide) (bleo rfl fun i hi => Le.id rfl) ?_ (allh rfl (by decide) (blen rfl fun i hi => rfl) True.intro True.intro))
        intro i hi
        by_cases e : i = k
        · subst e; rw [updN_same]; rfl
        · rw [updN_ne _ _ e]; exact hrow _ _ i
      · rintro m' s ⟨j, hj, rfl, rfl⟩
        refine run0 ?_
        refine awp_if rfl (fun h1 => ?_) (fun h1 => ?_)
        · have hjn : j < g.n := by omega
          refine run0 ?_
          rw [show updN (grow (fun i => AV.row true g.n (fun j => .q (gdis g i j))) (.v (.slice none 0 0)) k) k (.own 31 0) ((k : Int)).toNat = .own 31 0 from updN_same _ _ _]
          repeat(first|refine run1 ?_|((with_reducible apply st_call);exact rfl;exact rfl;exact rfl;first|(exact Has.ag (g8 rfl rfl rfl rfl rfl rfl rfl rfl) (fs_way h hkn hjn)))|((with_reducible apply st_callg);exact rfl;exact rfl;(first|exact rfl|assumption);exact rfl;exact rfl;exact rfl;first|(exact Has.ag (g8 rfl rfl rfl rfl rfl rfl rfl rfl) (fs_way h hkn hjn))))
          refine q_loop ?_ (imp_id ?_ ?_) ⟨j + 1, ?_, rfl, rfl⟩
          · omega
          · exact alle rfl (Le.id rfl) rfl (alle rfl (Le.id rfl) (fun i _ => g.bdok _ i) (by exact eA))
          · refine allh rfl (by decide) (bleo rfl fun _ _ => Le.id rfl) (fun i _ => g.fok _ i) (allh rfl (by decide) (bleo rfl fun i hi => Le.id rfl) ?_ (allh rfl (by decide) (blen rfl fun i hi => grow_step _ _ j i) True.intro True.intro))
            intro i hi
            by_cases e : i = k
            · subst e; rw [updN_same]; rfl
            · rw [updN_ne _ _ e]; exact hrow _ _ i
          · omega
        · have ej : j = g.n := by omega
          subst ej
          refine run0 ?_
          refine q_loop ?_ ((imp_pub 21 k rfl rfl hkn (updN_same _ _ _) rfl rfl (by decide)).trans (imp_id ?_ ?_)) ⟨k + 1, ?_, rfl, rfl⟩
          · omega
          · exact alle rfl (Le.id rfl) rfl (alle rfl (Le.id rfl) (fun i _ => g.bdok _ i) (by exact eA))
          · refine allh rfl (by decide) (bleo rfl fun _ _ => Le.id rfl) (fun i _ => g.fok _ i) (allh rfl (by decide) (bleo rfl fun i hi => ?_) (fun i _ => hrow _ _ i) True.intro)
            by_cases e : i = k
            · subst e
              rw [updN_same, grow_full _ _ (Nat.lt_succ_self i)]
              exact Le.row rfl (fun j hj => grow_full _ _ hj) fun h => h
            · rw [updN_ne _ _ e, updN_ne _ _ e, ← grow_step, updN_ne _ _ e]
              exact Le.id rfl
          · omega
    · have ek : k = g.n := by omega
      subst ek
      refine run0 ?_
      refine ⟨.inr rfl, _, imp_mat 2 (fun _ => g.n) (fun i j => .q (gdis g i j)) rfl rfl rfl (fun i hi => grow_full _ _ hi), ?_⟩
      exact .one (.tmp rfl)
end Go.Proofs.YtdnmoggifjlbiaaGreat.AM
/- The document's systems: entries. -/
namespace Go.Proofs.YtdnmoggifjlbiaaGreat.AM
open Go Go.RowKit Go.Proofs.YtdnmoggifjlbiaaGreat.PN Go.Proofs.YtdnmoggifjlbiaaGreat.V
open Go.Proofs.YtdnmoggifjlbiaaGreat.LA (S S_succ S_zero S_congr)
set_option linter.unusedVariables false
set_option linter.unusedSimpArgs false
set_option maxRecDepth 8000
set_option maxHeartbeats 8000000
theorem r5_row {g : GD} {i j : Nat} (sm : g.Sm) (hr : g.r ≤ 3) (hi : i < 8) (hj : j < 8) (hg : i * g.r + g.r ≤ g.lg) (hh : j * g.r + g.r ≤ g.lh) : Has Tryz.prog 64 [g.v, .i i, .i j] (.q (rdot g i j)) := by
  have hI : i * g.r ≤ 8 * 3 := Nat.mul_le_mul (by omega) hr
  have hJ : j * g.r ≤ 8 * 3 := Nat.mul_le_mul (by omega) hr
  have eI : (i : Int) * (g.r : Int) = ((i * g.r : Nat) : Int) := (Int.natCast_mul i g.r).symm
  have eJ : (j : Int) * (g.r : Int) = ((j * g.r : Nat) : Int) := (Int.natCast_mul j g.r).symm
  refine has_of Tryz.func64 (by kernel_rfl) rfl Tryz.ntmps64 Tryz.results64 rfl rfl rfl ?_
  repeat(first|refine run1 ?_|((with_reducible apply st_call);exact rfl;exact rfl;exact rfl;first|(exact hs_zero))|((with_reducible apply st_callg);exact rfl;exact rfl;(first|exact rfl|assumption);exact rfl;exact rfl;exact rfl;first|(exact hs_zero)))
  refine awp_loop (fun m s => ∃ k, k ≤ g.r ∧ m = g.r - k ∧ s = stl [(1, .i i), (2, .i j), (3, .ptr 3 0 0), (6, .rptr 6 0 0), (7, .rptr 7 0 0), (8, .i (k : Int))] [(3, (1, fun _ => .ones 26 7 g.f)), (6, (1, fun _ => .rats 1 (fun _ => ra0))), (7, (1, fun _ => .rats 1 (fun _ => .q (S k fun k => g.G (i * g.r + k) * g.H (j * g.r + k)))))]) g.r _ (imp_id ?_ ?_) ⟨0, Nat.zero_le _, rfl, rfl⟩ ?_
  · exact eA
  · refine allh rfl (by decide) (bleo rfl fun _ _ => Le.id rfl) (fun i _ => g.fok _ i) ?_
    exact hA
  · rintro m s ⟨k, hk, rfl, rfl⟩
    refine run0 ?_
    refine awp_if rfl (fun h => ?_) (fun h => ?_)
    · have h : k < g.r := by omega
      have w1 : wt (S k fun k => g.G (i * g.r + k) * g.H (j * g.r + k)) ≤ k * 9 + 1 := wt_sum (K := 8) fun u hu => by
        have h1 := wt_mul (g.G (i * g.r + u)) (g.H (j * g.r + u)); have h2 := sm.G (i * g.r + u) (by omega); have h3 := sm.H (j * g.r + u) (by omega)
        omega
      have w2 := sm.G (i * g.r + k) (by omega); have w3 := sm.H (j * g.r + k) (by omega)
      have w4 := wt_mul (g.G (i * g.r + k)) (g.H (j * g.r + k))
      have q1 : 0 ≤ (i : Int) * (g.r : Int) := by rw [eI]; omega
      have q2 : (i : Int) * (g.r : Int) ≤ 24 := by rw [eI]; omega
      have q3 : (i : Int) * (g.r : Int) + k < g.lg := by rw [eI]; omega
      have q4 : 0 ≤ (j : Int) * (g.r : Int) := by rw [eJ]; omega
      have q5 : (j : Int) * (g.r : Int) ≤ 24 := by rw [eJ]; omega
      have q6 : (j : Int) * (g.r : Int) + k < g.lh := by rw [eJ]; omega
      have e1 : ((i : Int) * (g.r : Int) + (k : Int)).toNat = i * g.r + k := by rw [eI]; omega
      have e2 : ((j : Int) * (g.r : Int) + (k : Int)).toNat = j * g.r + k := by rw [eJ]; omega
      refine run0 ?_
      rw [e1, e2]
      repeat(first|refine run1 ?_|((with_reducible apply st_call);exact rfl;exact rfl;exact rfl;first|(exact hs_mul (by omega) (by omega))|(exact hs_add (by omega) (by omega)))|((with_reducible apply st_callg);exact rfl;exact rfl;(first|exact rfl|assumption);exact rfl;exact rfl;exact rfl;first|(exact hs_mul (by omega) (by omega))|(exact hs_add (by omega) (by omega))))
      refine q_loop ?_ (imp_id ?_ ?_) ⟨k + 1, ?_, rfl, rfl⟩
      · omega
      · exact eA
      · refine allh rfl (by decide) (bleo rfl fun _ _ => Le.id rfl) (fun i _ => g.fok _ i) ?_
        exact hA
      · omega
    · have ek : k = g.r := by omega
      unfold rdot
      rw [← ek]
      refine run0 ?_
      refine ⟨.inr rfl, _, Imp.refl _, ?_⟩
      exact .one (.rat rfl rfl (by decide) rfl (by decide) rfl)
theorem r5_entry {g : GD} (h : g.OK) {i j : Nat} (hi : i < g.n) (hj : j < g.n) : Has Tryz.prog 24 [g.v, .i i, .i j] (.q (gent g i j)) := by
  have n8 := h.n8; have r3 := h.r3; have k1 := h.k1; have k7 := h.k7; have sm := h.sm
  obtain ⟨m1, m2, m3, m4⟩ := ok_lens h
  have hk : g.k = 1 ∨ g.k = 2 ∨ g.k = 3 ∨ g.k = 4 ∨ g.k = 5 ∨ g.k = 6 ∨ g.k = 7 := by omega
  have hin : i * g.r + g.r ≤ g.n * g.r := by rw [← Nat.succ_mul]; exact Nat.mul_le_mul_right _ hi
  have hjn : j * g.r + g.r ≤ g.n * g.r := by rw [← Nat.succ_mul]; exact Nat.mul_le_mul_right _ hj
  unfold gent
  refine has_of Tryz.func24 (by kernel_rfl) rfl Tryz.ntmps24 Tryz.results24 rfl rfl rfl ?_
  refine run0p ?_
  rcases hk with hk | hk | hk | hk | hk | hk | hk
  · have w := sm.A (i + g.n - 1 - j) (by omega)
    have e1 : ((i : Int) - (j : Int) + (g.n : Int) - 1).toNat = i + g.n - 1 - j := by omega
    have w0 : wt 0 ≤ 1 := by decide
    refine awp_yes rfl (kdec hk rfl) ?_
    refine run0p ?_
    rw [e1]
    repeat(first|refine run1p ?_|((with_reducible apply st_call);exact rfl;exact rfl;exact rfl;first|(exact k_copy (by omega)))|((with_reducible apply st_callg);exact rfl;exact rfl;(first|exact rfl|assumption);exact rfl;exact rfl;exact rfl;first|(exact k_copy (by omega))))
    refine ⟨.inr rfl, _, Imp.refl _, .one (.rat rfl rfl (by decide) rfl (by decide) ?_)⟩
    rw [hk]; rfl
  · have w := sm.A (i + j) (by omega)
    have e1 : ((i : Int) + (j : Int)).toNat = i + j := by omega
    have w0 : wt 0 ≤ 1 := by decide
    refine awp_no rfl (kndec hk (by decide)) ?_
    refine run0p ?_
    refine awp_yes rfl (kdec hk rfl) ?_
    refine run0p ?_
    rw [e1]
    repeat(first|refine run1p ?_|((with_reducible apply st_call);exact rfl;exact rfl;exact rfl;first|(exact k_copy (by omega)))|((with_reducible apply st_callg);exact rfl;exact rfl;(first|exact rfl|assumption);exact rfl;exact rfl;exact rfl;first|(exact k_copy (by omega))))
    refine ⟨.inr rfl, _, Imp.refl _, .one (.rat rfl rfl (by decide) rfl (by decide) ?_)⟩
    rw [hk]; rfl
  · have hlt : (i + g.n - j) % g.n < g.n := Nat.mod_lt _ (by omega)
    have w := sm.A ((i + g.n - j) % g.n) (by omega)
    have w0 : wt 0 ≤ 1 := by decide
    have e0 : Int.tmod ((i : Int) - (j : Int) + (g.n : Int)) (g.n : Int) = (((i + g.n - j) % g.n : Nat) : Int) := by
      rw [Int.tmod_eq_emod_of_nonneg (by omega), show ((i : Int) - (j : Int) + (g.n : Int)) = ((i + g.n - j : Nat) : Int) by omega]
      rfl
    have e1 : (Int.tmod ((i : Int) - (j : Int) + (g.n : Int)) (g.n : Int)).toNat = (i + g.n - j) % g.n := by rw [e0]; rfl
    have q1 : 0 ≤ Int.tmod ((i : Int) - (j : Int) + (g.n : Int)) (g.n : Int) := by rw [e0]; omega
    have q2 : Int.tmod ((i : Int) - (j : Int) + (g.n : Int)) (g.n : Int) < g.la := by rw [e0]; omega
    refine awp_no rfl (kndec hk (by decide)) ?_
    refine run0p ?_
    refine awp_no rfl (kndec hk (by decide)) ?_
    refine run0p ?_
    refine awp_yes rfl (kdec hk rfl) ?_
    refine run0p ?_
    rw [e1]
    repeat(first|refine run1p ?_|((with_reducible apply st_call);exact rfl;exact rfl;exact rfl;first|(exact k_copy (by omega)))|((with_reducible apply st_callg);exact rfl;exact rfl;(first|exact rfl|assumption);exact rfl;exact rfl;exact rfl;first|(exact k_copy (by omega))))
    refine ⟨.inr rfl, _, Imp.refl _, .one (.rat rfl rfl (by decide) rfl (by decide) ?_)⟩
    rw [hk]; rfl
  · have w := sm.A i (by omega)
    refine awp_no rfl (kndec hk (by decide)) ?_
    refine run0p ?_
    refine awp_no rfl (kndec hk (by decide)) ?_
    refine run0p ?_
    refine awp_no rfl (kndec hk (by decide)) ?_
    refine run0p ?_
    refine awp_yes rfl (kdec hk rfl) ?_
    repeat(first|refine run1p ?_|((with_reducible apply st_call);exact rfl;exact rfl;exact rfl;first|(exact hs_int 1 (by decide) (by decide)))|((with_reducible apply st_callg);exact rfl;exact rfl;(first|exact rfl|assumption);exact rfl;exact rfl;exact rfl;first|(exact hs_int 1 (by decide) (by decide))))
    refine awp_loop (fun m s => ∃ k, k ≤ j ∧ m = j - k ∧ s = stl [(1, .i i), (2, .i j), (3, .ptr 3 0 0), (6, .rptr 6 0 0), (7, .rptr 7 0 0), (8, .i (k : Int))] [(3, (1, fun _ => .ones 26 7 g.f)), (6, (1, fun _ => .rats 1 (fun _ => ra0))), (7, (1, fun _ => .rats 1 (fun _ => .q (g.A i ^ k))))]) j _ (imp_id ?_ ?_) ⟨0, Nat.zero_le _, rfl, rfl⟩ ?_
    · exact eA
    · refine allh rfl (by decide) (bleo rfl fun _ _ => Le.id rfl) (fun i _ => g.fok _ i) (allh rfl (by decide) (ble1 rfl) True.intro (allh rfl (by decide) (ble1 (by rw [Rat.pow_zero]; rfl)) True.intro True.intro))
    · rintro m s ⟨k, hk', rfl, rfl⟩
      have w1 := pow_wt w k
      refine run0p ?_
      refine awp_if rfl (fun h' => ?_) (fun h' => ?_)
      · have h' : k < j := by omega
        repeat(first|refine run1p ?_|((with_reducible apply st_call);exact rfl;exact rfl;exact rfl;first|(exact hs_mul (p := g.A i ^ k) (q := g.A i) (by omega) (by omega)))|((with_reducible apply st_callg);exact rfl;exact rfl;(first|exact rfl|assumption);exact rfl;exact rfl;exact rfl;first|(exact hs_mul (p := g.A i ^ k) (q := g.A i) (by omega) (by omega))))
        refine q_loop ?_ (imp_id ?_ ?_) ⟨k + 1, ?_, rfl, rfl⟩
        · omega
        · exact eA
        · refine allh rfl (by decide) (bleo rfl fun _ _ => Le.id rfl) (fun i _ => g.fok _ i) (allh rfl (by decide) (ble1 rfl) True.intro (allh rfl (by decide) (ble1 (by rw [Rat.pow_succ]; rfl)) True.intro True.intro))
        · omega
      · have ek : k = j := by omega
        refine run0p ?_
        refine ⟨.inr rfl, _, Imp.refl _, .one (.rat rfl rfl (by decide) rfl (by decide) ?_)⟩
        rw [hk, ek]; rfl
  · have w0 : wt 1 ≤ 1 := by decide
    refine awp_no rfl (kndec hk (by decide)) ?_
    refine run0p ?_
    refine awp_no rfl (kndec hk (by decide)) ?_
    refine run0p ?_
    refine awp_no rfl (kndec hk (by decide)) ?_
    refine run0p ?_
    refine awp_no rfl (kndec hk (by decide)) ?_
    refine run0p ?_
    refine awp_yes rfl (kdec hk rfl) ?_
    have u1 := sm.A i (by omega); have u2 := sm.B j (by omega)
    have u3 := wt_sub (g.A i) (g.B j)
    have hne : g.A i - g.B j ≠ 0 := fun e => h.ne i (by omega) j (by omega) (by rw [← Rat.sub_add_cancel (a := g.A i) (b := g.B j), e, Rat.zero_add])
    repeat(first|refine run1p ?_|((with_reducible apply st_call);exact rfl;exact rfl;exact rfl;first|(exact hs_int 1 (by decide) (by decide))|(exact k_sub (p := g.A i) (q := g.B j) (by omega) (by omega))|(exact hs_over (p := 1) (q := g.A i - g.B j) (by omega) (by omega) hne))|((with_reducible apply st_callg);exact rfl;exact rfl;(first|exact rfl|assumption);exact rfl;exact rfl;exact rfl;first|(exact hs_int 1 (by decide) (by decide))|(exact k_sub (p := g.A i) (q := g.B j) (by omega) (by omega))|(exact hs_over (p := 1) (q := g.A i - g.B j) (by omega) (by omega) hne)))
    refine ⟨.inr rfl, _, Imp.refl _, .one (.rat rfl rfl (by decide) rfl (by decide) ?_)⟩
    rw [hk]; rfl
  · obtain ⟨hg, hh⟩ := m4 (.inl hk)
    refine awp_no rfl (kndec hk (by decide)) ?_
    refine run0p ?_
    refine awp_no rfl (kndec hk (by decide)) ?_
    refine run0p ?_
    refine awp_no rfl (kndec hk (by decide)) ?_
    refine run0p ?_
    refine awp_no rfl (kndec hk (by decide)) ?_
    refine run0p ?_
    refine awp_no rfl (kndec hk (by decide)) ?_
    refine run0p ?_
    refine awp_yes rfl (kdec hk rfl) ?_
    repeat(first|refine run1p ?_|((with_reducible apply st_call);exact rfl;exact rfl;exact rfl;first|(exact hs_zero))|((with_reducible apply st_callg);exact rfl;exact rfl;(first|exact rfl|assumption);exact rfl;exact rfl;exact rfl;first|(exact hs_zero)))
    have wS : ∀ m, m ≤ 8 → m ≤ min i j + 1 → wt (S m fun m => rdot g (i - m) (j - m)) ≤ 8 * 29 + 1 := fun m hm8 hm => by
      have := wt_sum (n := m) (K := 28) (f := fun m => rdot g (i - m) (j - m)) fun u hu => by
        have h1 : (i - u) * g.r + g.r ≤ g.n * g.r := by rw [← Nat.succ_mul]; exact Nat.mul_le_mul_right _ (by omega)
        have h2 : (j - u) * g.r + g.r ≤ g.n * g.r := by rw [← Nat.succ_mul]; exact Nat.mul_le_mul_right _ (by omega)
        exact rdot_wt sm (by omega) (by omega) r3
      omega
    refine awp_loop (fun m' s => ∃ m, m ≤ min i j + 1 ∧ m' = min i j + 1 - m ∧ s = stl [(1, .i i), (2, .i j), (3, .ptr 3 0 0), (6, .rptr 6 0 0), (9, .rptr 9 0 0), (10, .i (m : Int))] [(3, (1, fun _ => .ones 26 7 g.f)), (6, (1, fun _ => .rats 1 (fun _ => ra0))), (9, (1, fun _ => .rats 1 (fun _ => .q (S m fun m => rdot g (i - m) (j - m)))))]) (min i j + 1) _ (imp_id ?_ ?_) ⟨0, Nat.zero_le _, rfl, rfl⟩ ?_
    · exact eA
    · refine allh rfl (by decide) (bleo rfl fun _ _ => Le.id rfl) (fun i _ => g.fok _ i) ?_
      exact hA
    · rintro m' s ⟨m, hm, rfl, rfl⟩
      have w1 := wS m (by omega) hm
      refine run0p ?_
      refine awp_if rfl (fun h' => ?_) (fun h' => ?_)
      · have h' : m ≤ min i j := by omega
        have h1 : (i - m) * g.r + g.r ≤ g.n * g.r := by rw [← Nat.succ_mul]; exact Nat.mul_le_mul_right _ (by omega)
        have h2 : (j - m) * g.r + g.r ≤ g.n * g.r := by rw [← Nat.succ_mul]; exact Nat.mul_le_mul_right _ (by omega)
        have w2 := rdot_wt (g := g) (i := i - m) (j := j - m) sm (by omega) (by omega) r3
        have ei : (i : Int) - (m : Int) = ((i - m : Nat) : Int) := by omega
        have ej : (j : Int) - (m : Int) = ((j - m : Nat) : Int) := by omega
        refine run0p ?_
        rw [ei, ej]
        repeat(first|refine run1p ?_|((with_reducible apply st_call);exact rfl;exact rfl;exact rfl;first|(exact Has.ag (g7 rfl rfl rfl rfl rfl rfl rfl) (r5_row (i := i - m) (j := j - m) sm r3 (by omega) (by omega) (by omega) (by omega)))|(exact hs_add (by omega) (by omega)))|((with_reducible apply st_callg);exact rfl;exact rfl;(first|exact rfl|assumption);exact rfl;exact rfl;exact rfl;first|(exact Has.ag (g7 rfl rfl rfl rfl rfl rfl rfl) (r5_row (i := i - m) (j := j - m) sm r3 (by omega) (by omega) (by omega) (by omega)))|(exact hs_add (by omega) (by omega))))
        refine q_loop ?_ (imp_id ?_ ?_) ⟨m + 1, ?_, rfl, rfl⟩
        · omega
        · exact eA
        · refine allh rfl (by decide) (bleo rfl fun _ _ => Le.id rfl) (fun i _ => g.fok _ i) ?_
          exact hA
        · omega
      · have em : min i j + 1 = m := by omega
        refine run0p ?_
        refine ⟨.inr rfl, _, Imp.refl _, .one (.rat rfl rfl (by decide) rfl (by decide) ?_)⟩
        rw [hk, ← em]; rfl
  · obtain ⟨hg, hh⟩ := m4 (.inr hk)
    have w0 := rdot_wt (g := g) (i := i) (j := j) sm (by omega) (by omega) r3
    refine awp_no rfl (kndec hk (by decide)) ?_
    refine run0p ?_
    refine awp_no rfl (kndec hk (by decide)) ?_
    refine run0p ?_
    refine awp_no rfl (kndec hk (by decide)) ?_
    refine run0p ?_
    refine awp_no rfl (kndec hk (by decide)) ?_
    refine run0p ?_
    refine awp_no rfl (kndec hk (by decide)) ?_
    refine run0p ?_
    refine awp_no rfl (kndec hk (by decide)) ?_
    have u1 := sm.A i (by omega); have u2 := sm.B j (by omega)
    have u3 := wt_sub (g.A i) (g.B j)
    have hne : g.A i - g.B j ≠ 0 := fun e => h.ne i (by omega) j (by omega) (by rw [← Rat.sub_add_cancel (a := g.A i) (b := g.B j), e, Rat.zero_add])
    repeat(first|refine run1p ?_|((with_reducible apply st_call);exact rfl;exact rfl;exact rfl;first|(exact Has.ag (g7 rfl rfl rfl rfl rfl rfl rfl) (r5_row sm r3 (by omega) (by omega) (by omega) (by omega)))|(exact k_sub (p := g.A i) (q := g.B j) (by omega) (by omega))|(exact hs_over (p := rdot g i j) (q := g.A i - g.B j) (by omega) (by omega) hne))|((with_reducible apply st_callg);exact rfl;exact rfl;(first|exact rfl|assumption);exact rfl;exact rfl;exact rfl;first|(exact Has.ag (g7 rfl rfl rfl rfl rfl rfl rfl) (r5_row sm r3 (by omega) (by omega) (by omega) (by omega)))|(exact k_sub (p := g.A i) (q := g.B j) (by omega) (by omega))|(exact hs_over (p := rdot g i j) (q := g.A i - g.B j) (by omega) (by omega) hne)))
    refine ⟨.inr rfl, _, Imp.refl _, .one (.rat rfl rfl (by decide) rfl (by decide) ?_)⟩
    rw [hk]; rfl
end Go.Proofs.YtdnmoggifjlbiaaGreat.AM
/- The document's systems: the whole matrix. -/
namespace Go.Proofs.YtdnmoggifjlbiaaGreat.AM
open Go Go.RowKit Go.Proofs.YtdnmoggifjlbiaaGreat.PN Go.Proofs.YtdnmoggifjlbiaaGreat.V
open Go.Proofs.YtdnmoggifjlbiaaGreat.LA (S S_succ S_zero S_congr)
set_option linter.unusedVariables false
set_option linter.unusedSimpArgs false
set_option maxRecDepth 8000
set_option maxHeartbeats 8000000
theorem le_fok (g : GD) {σ : Ren} (i : Nat) (hi : i < 7) : Le σ (g.f i) (g.f i) := by
  match i, hi with
  | 0, _ | 1, _ | 2, _ | 3, _ | 4, _ | 5, _ | 6, _ => exact Le.eq rfl rfl
theorem r5_expand {g : GD} (h : g.OK) : Has Tryz.prog 35 [g.v] (.mat true g.n (fun _ => g.n) (fun i j => .q (gent g i j))) := by
  have n8 := h.n8; have n1 := h.n1
  have hG := h
  refine has_of Tryz.func35 (by kernel_rfl) rfl Tryz.ntmps35 Tryz.results35 rfl rfl rfl ?_
  refine run0 ?_
  refine awp_loop (fun m' s => ∃ r, r ≤ g.n ∧ m' = g.n - r ∧ s = accS 3 (.ones WT r fun i => .row true g.n fun j => .q (gent g i j)) [(1, .ptr 1 0 0), (4, .i (r : Int))] [(1, (1, fun _ => .ones 26 7 g.f))]) g.n _ (acc_start rfl rfl (by exact ⟨by decide, rfl⟩) rfl (by decide) ?_ ?_) ⟨0, Nat.zero_le _, rfl, rfl⟩ ?_
  · exact eA
  · exact allh rfl (by decide) (bleo rfl fun _ _ => Le.id rfl) (fun i _ => g.fok _ i) True.intro
  · rintro m' s ⟨r, hr, rfl, rfl⟩
    refine run0 ?_
    refine awp_if rfl (fun h => ?_) (fun h => ?_)
    · have h : r < g.n := by omega
      refine run0 ?_
      refine awp_loop (fun m' s => ∃ c, c ≤ g.n ∧ m' = g.n - c ∧ s = accS 5 (.rats c fun j => .q (gent g r j)) [(1, .ptr 1 0 0), (3, .own 3 0), (4, .i (r : Int)), (6, .i (c : Int))] [(1, (1, fun _ => .ones 26 7 g.f)), (3, (1, fun _ => .ones WT r fun i => .row true g.n fun j => .q (gent g i j)))]) g.n _ (acc_start rfl rfl (by exact rfl) rfl (by decide) ?_ ?_) ⟨0, Nat.zero_le _, rfl, rfl⟩ ?_
      · exact eA
      · exact allh rfl (by decide) (bleo rfl fun _ _ => Le.id rfl) (fun i _ => g.fok _ i) (allh rfl (by decide) (bleo rfl fun _ _ => Le.id rfl) (fun i _ => True.intro) True.intro)
      · rintro m' s ⟨c, hc, rfl, rfl⟩
        refine run0 ?_
        refine awp_if rfl (fun h1 => ?_) (fun h1 => ?_)
        · have h1 : c < g.n := by omega
          repeat(first|refine run1 ?_|((with_reducible apply st_call);exact rfl;exact rfl;exact rfl;first|(exact Has.ag (g7 rfl rfl rfl rfl rfl rfl rfl) (r5_entry hG h h1)))|((with_reducible apply st_callg);exact rfl;exact rfl;(first|exact rfl|assumption);exact rfl;exact rfl;exact rfl;first|(exact Has.ag (g7 rfl rfl rfl rfl rfl rfl rfl) (r5_entry hG h h1))))
          refine q_loop (m' := g.n - (c + 1)) (by omega) (acc_next (a := 25) rfl rfl rfl (glue_one rfl) (by exact True.intro) rfl rfl ?_ ?_) ⟨c + 1, by omega, rfl, rfl⟩
          · refine alle rfl (Le.ptr (s1_ne (by decide))) rfl (alle rfl (Le.own (s1_ne (by decide))) rfl (alle rfl (Le.eq rfl rfl) True.intro (alle rfl (Le.eq rfl rfl) True.intro True.intro)))
          · refine allh rfl Nat.zero_lt_one (bleo rfl fun i hi => le_fok g i hi) (fun i _ => g.fok _ i) (allh rfl Nat.zero_lt_one (bleo rfl fun _ _ => Le.eq rfl rfl) (fun _ _ => True.intro) True.intro)
        · have ec : c = g.n := by omega
          subst ec
          refine run0 ?_
          refine q_loop (m' := g.n - (r + 1)) (by omega) (acc_pub (a := 29) (c := 5) rfl rfl rfl (fun i hi => if_pos hi) (by show (if _ then _ else _) = _; rw [if_neg (Nat.lt_irrefl _), Nat.sub_self]; rfl) rfl rfl (fun _ _ => rfl) rfl rfl (fun _ => by exact True.intro) (by decide) rfl rfl ?_ ?_) ⟨r + 1, by omega, rfl, rfl⟩
          · refine alle rfl (Le.ptr (s1_ne (by decide))) rfl (alle rfl (Le.eq rfl rfl) True.intro True.intro)
          · exact allh rfl Nat.zero_lt_one (bleo rfl fun i hi => le_fok g i hi) (fun i _ => g.fok _ i) True.intro
    · have er : r = g.n := by omega
      subst er
      refine run0 ?_
      refine ⟨.inr rfl, _, imp_mat 2 (fun _ => g.n) (fun i j => .q (gent g i j)) rfl rfl rfl (fun _ _ => rfl), ?_⟩
      exact .one (.tmp rfl)
end Go.Proofs.YtdnmoggifjlbiaaGreat.AM
/- Laws of systems: what is known. -/
namespace Go.Proofs.YtdnmoggifjlbiaaGreat.AM
open Go Go.RowKit Go.Proofs.YtdnmoggifjlbiaaGreat.PN Go.Proofs.YtdnmoggifjlbiaaGreat.V
open Go.Proofs.YtdnmoggifjlbiaaGreat.LA (S S_succ S_zero S_congr)
set_option linter.unusedVariables false
set_option linter.unusedSimpArgs false
set_option maxRecDepth 8000
set_option maxHeartbeats 8000000
theorem rv_agv {S : Nat → Prop} {B : Nat} {β : Nat → Nat → Value} {w : World} {n : Nat} {f f' : Nat → AV} (h : ∀ i, i < n → ∀ v, RV S B β w (f i) v → RV S B β w (f' i) v) (v : Value) (hv : RV S B β w (.ag n f) v) : RV S B β w (.ag n f') v := by
  obtain ⟨cs, e1, e2, e3⟩ := hv
  refine ⟨cs, e1, e2, fun i hi => ?_⟩
  obtain ⟨y, a0, a1, a2⟩ := e3 i hi
  exact ⟨y, a0, a1, h i hi y a2⟩
theorem Has.agv {P : Program} {f : FuncId} {n : Nat} {u u' : Nat → AV} {xs : List AV} {r : AV} (h : ∀ S B β w i, i < n → ∀ v, RV S B β w (u i) v → RV S B β w (u' i) v) (H : Has P f (.ag n u' :: xs) r) : Has P f (.ag n u :: xs) r :=
  Has.args H fun S B β w vs hv => rvs_cons (rv_agv (h S B β w)) rvs_same hv
theorem rv_nil0 {S : Nat → Prop} {B : Nat} {β : Nat → Nat → Value} {w : World} {f : Nat → RA} (v : Value) (hv : RV S B β w (.v (.slice none 0 0)) v) : RV S B β w (.row false 0 f) v :=
  ⟨none, 0, hv, Nat.le_refl _, Nat.zero_le _, fun i hi => absurd hi (Nat.not_lt_zero _)⟩
theorem rv_eq {S : Nat → Prop} {B : Nat} {β : Nat → Nat → Value} {w : World} {x y : AV} (h : x = y) (v : Value) (hv : RV S B β w x v) : RV S B β w y v := h ▸ hv
def kg : GD := ⟨3, 1, 0, 1, 0, 0, 0, fun _ => 5, fun _ => 0, fun _ => 0, fun _ => 0⟩
theorem kg_ok : kg.OK := by
  refine ⟨by decide, by decide, by decide, by decide, by decide, fun h => (by cases h), fun _ => rfl, ?_, ⟨fun i _ => by show wt 5 ≤ 4; decide, fun i hi => absurd hi (Nat.not_lt_zero _), fun i hi => absurd hi (Nat.not_lt_zero _), fun i hi => absurd hi (Nat.not_lt_zero _)⟩, fun i hi j hj => absurd hj (Nat.not_lt_zero _)⟩
  intro i hi
  have hi4 : i = 0 ∨ i = 1 ∨ i = 2 ∨ i = 3 := by omega
  rcases hi4 with rfl | rfl | rfl | rfl <;> decide
theorem kg_args {S : Nat → Prop} {B : Nat} {β : Nat → Nat → Value} {w : World} {u : Nat → AV} {q : Nat → RA} (h0 : u 0 = .i 3) (h1 : u 1 = .i 1) (h2 : u 2 = .i 0) (h3 : u 3 = .row false 1 q) (hq : q 0 = .q 5) (h4 : u 4 = .v (.slice none 0 0)) (h5 : u 5 = .v (.slice none 0 0)) (h6 : u 6 = .v (.slice none 0 0)) : ∀ i, i < 7 → ∀ v, RV S B β w (u i) v → RV S B β w (kg.f i) v := by
  intro i hi v hv
  match i, hi with
  | 0, _ => rw [h0] at hv; exact hv
  | 1, _ => rw [h1] at hv; exact hv
  | 2, _ => rw [h2] at hv; exact hv
  | 3, _ =>
    rw [h3] at hv
    refine rv_row (fun i hi => ?_) v hv
    have hi : i < 1 := hi
    obtain rfl : i = 0 := by omega
    exact hq
  | 4, _ => rw [h4] at hv; exact rv_nil0 v hv
  | 5, _ => rw [h5] at hv; exact rv_nil0 v hv
  | 6, _ => rw [h6] at hv; exact rv_nil0 v hv
end Go.Proofs.YtdnmoggifjlbiaaGreat.AM

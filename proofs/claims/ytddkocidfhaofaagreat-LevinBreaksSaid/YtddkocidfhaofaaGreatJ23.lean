/- Joined texts, 23: MkC MkD LvE PMin PSolve PCram LawN. -/
import Derived.Test.YtddkocidfhaofaaGreatJ22
import Derived.Test.YtddkocidfhaofaaGreatJ21
import Derived.Test.YtddkocidfhaofaaGreatJ14
set_option linter.unusedVariables false
set_option linter.unusedSimpArgs false
/- Systems that are drawn: they are right. -/
namespace Go.Proofs.YtddkocidfhaofaaGreat.AM
open Go Go.RowKit Go.Proofs.YtddkocidfhaofaaGreat.PN Go.Proofs.YtddkocidfhaofaaGreat.V
open Go.Proofs.YtddkocidfhaofaaGreat.LA (S S_succ S_zero S_congr)
set_option linter.unusedVariables false
set_option linter.unusedSimpArgs false
set_option maxRecDepth 8000
set_option maxHeartbeats 8000000
theorem smal_rng : ∀ x : _root_.Fin 41, ∀ y : _root_.Fin 5, -20 ≤ (((x.val : Int) - 20 : Int) : Rat) / ((1 + (y.val : Int) : Int) : Rat) ∧ (((x.val : Int) - 20 : Int) : Rat) / ((1 + (y.val : Int) : Int) : Rat) ≤ 20 := by decide +kernel
theorem smal_le (a : Int) : -20 ≤ smal a ∧ smal a ≤ 20 := by
  obtain ⟨h1, h2⟩ := wthn_lt (a := a) (n := 41) (by decide)
  obtain ⟨h3, h4⟩ := wthn_lt (a := a.tdiv 41) (n := 5) (by decide)
  have := smal_rng ⟨(wthn a 41).toNat, by omega⟩ ⟨(wthn (a.tdiv 41) 5).toNat, by omega⟩
  rw [show (((wthn a 41).toNat : Nat) : Int) = wthn a 41 by omega, show (((wthn (a.tdiv 41) 5).toNat : Nat) : Int) = wthn (a.tdiv 41) 5 by omega] at this
  exact this
theorem far {p x y : Rat} (hp : p ≤ 20) (hx : -20 ≤ x) (hy : 100 ≤ y) : p ≠ x + y := by
  intro e
  have h1 : -20 + y ≤ x + y := Rat.add_le_add_right.2 hx
  have h2 : -20 + 100 ≤ -20 + y := Rat.add_le_add_left.2 hy
  have h3 : (-20 + 100 : Rat) ≤ 20 := Rat.le_trans h2 (Rat.le_trans h1 (by rw [← e]; exact hp))
  exact absurd h3 (by decide +kernel)
theorem hun (c : Nat) : (100 : Rat) ≤ ((100 + c : Int) : Rat) := by
  have : ((100 : Int) : Rat) ≤ ((100 + c : Int) : Rat) := Rat.intCast_le_intCast.2 (by omega)
  exact this
/-- A number of the second row is none of the first row's. -/
theorem bpart_ne {A : Nat → Rat} {c : Nat} {x : Rat} (hA : ∀ i, A i ≤ 20) (hx : -20 ≤ x) : ∀ r, (bpart A c x r = x ∧ ∀ i, i < r → A i ≠ x) ∨ bpart A c x r = x + ((100 + c : Int) : Rat)
  | 0 => .inl ⟨rfl, fun i hi => absurd hi (Nat.not_lt_zero _)⟩
  | r + 1 => by
    show ((if _ then _ else _) = x ∧ _) ∨ (if _ then _ else _) = _
    rcases bpart_ne hA hx r with ⟨h1, h2⟩ | h1
    · rw [h1]
      by_cases e : A r = x
      · rw [if_pos e]; exact .inr rfl
      · rw [if_neg e]
        refine .inl ⟨rfl, fun i hi => ?_⟩
        by_cases h : i = r
        · rw [h]; exact e
        · exact h2 i (by omega)
    · rw [h1, if_neg (far (hA r) hx (hun c))]; exact .inr rfl
theorem bpart_out {A : Nat → Rat} {c n : Nat} {x : Rat} (hA : ∀ i, A i ≤ 20) (hx : -20 ≤ x) {i : Nat} (hi : i < n) : A i ≠ bpart A c x n := by
  rcases bpart_ne (c := c) hA hx n with ⟨h1, h2⟩ | h1
  · rw [h1]; exact h2 i hi
  · rw [h1]; exact far (hA i) hx (hun c)
theorem bpart_wt2 {A : Nat → Rat} {c n : Nat} {x : Rat} (hA : ∀ i, A i ≤ 20) (hx : -20 ≤ x) (hw : wt x ≤ 1) (hc : c ≤ 100) : wt (bpart A c x n) ≤ 3 := by
  rcases bpart_ne (c := c) hA hx n with ⟨h1, _⟩ | h1
  · rw [h1]; omega
  · rw [h1]
    have h1 := wt_add x ((100 + c : Int) : Rat)
    have h2 : wt ((100 + c : Int) : Rat) ≤ 1 := int_wt (by omega)
    omega
theorem mkL_wt {zs : List Int} {a b i : Nat} (hb : b ≤ 100) : wt (mkL zs a b b 0 i) ≤ 4 := by
  have h1 := (rowq_wt zs i).le
  unfold mkL
  split
  · omega
  · split
    · split
      · have := bpart_wt2 (A := rowq zs) (c := i - a) (n := a) (x := rowq zs i) (fun i => (smal_le _).2) (smal_le _).1 h1 (by omega)
        omega
      · split
        · have := bpart_wt2 (A := rowq zs) (c := b) (n := 0) (x := rowq zs i) (fun i => (smal_le _).2) (smal_le _).1 h1 (by omega)
          omega
        · omega
    · omega
theorem len_of {k i l n r : Nat} {x y z : Int} (h0 : mpz (cmap (k : Nat) (i : Nat)) 0 = x) (h1 : mpz (cmap (k : Nat) (i : Nat)) 1 = y) (h2 : mpz (cmap (k : Nat) (i : Nat)) 2 = z) (h : (l : Int) = x * n + y * n * r + z) : (l : Int) = mpz (cmap (k : Nat) (i : Nat)) 0 * n + mpz (cmap (k : Nat) (i : Nat)) 1 * n * r + mpz (cmap (k : Nat) (i : Nat)) 2 := by rw [h0, h1, h2]; exact h
theorem gmk_ok {k n r : Nat} {zs : List Int} (k1 : 1 ≤ k) (k7 : k ≤ 7) (n1 : 1 ≤ n) (n8 : n ≤ 8) (r3 : r ≤ 3) (rk : likeB k = true → 1 ≤ r) (r0 : likeB k = false → r = 0) : (gmk k n r zs).OK := by
  obtain ⟨t0, t1, t2, t3⟩ := cn_le k1 k7 n1 n8 r3 rk
  refine ⟨k1, k7, n1, n8, r3, rk, r0, fun i hi => ?_, ⟨fun i _ => mkL_wt (by omega), fun i _ => mkL_wt (by omega), fun i _ => mkL_wt (by omega), fun i _ => mkL_wt (by omega)⟩, fun i hi j hj => ?_⟩
  · have hk : k = 1 ∨ k = 2 ∨ k = 3 ∨ k = 4 ∨ k = 5 ∨ k = 6 ∨ k = 7 := by omega
    have hi4 : i = 0 ∨ i = 1 ∨ i = 2 ∨ i = 3 := by omega
    have em : ((n * r : Nat) : Int) = (n : Int) * r := Int.natCast_mul n r
    rcases hk with rfl | rfl | rfl | rfl | rfl | rfl | rfl
    · rcases hi4 with rfl | rfl | rfl | rfl
      · exact len_of (k := 1) (i := 0) (n := n) (r := r) (x := 2) (y := 0) (z := (-1)) (by decide) (by decide) (by decide) (by show ((2 * n - 1 : Nat) : Int) = _; omega)
      · exact len_of (k := 1) (i := 1) (n := n) (r := r) (x := 0) (y := 0) (z := 0) (by decide) (by decide) (by decide) (by show ((0 : Nat) : Int) = _; simp)
      · exact len_of (k := 1) (i := 2) (n := n) (r := r) (x := 0) (y := 0) (z := 0) (by decide) (by decide) (by decide) (by show ((0 : Nat) : Int) = _; simp)
      · exact len_of (k := 1) (i := 3) (n := n) (r := r) (x := 0) (y := 0) (z := 0) (by decide) (by decide) (by decide) (by show ((0 : Nat) : Int) = _; simp)
    · rcases hi4 with rfl | rfl | rfl | rfl
      · exact len_of (k := 2) (i := 0) (n := n) (r := r) (x := 2) (y := 0) (z := (-1)) (by decide) (by decide) (by decide) (by show ((2 * n - 1 : Nat) : Int) = _; omega)
      · exact len_of (k := 2) (i := 1) (n := n) (r := r) (x := 0) (y := 0) (z := 0) (by decide) (by decide) (by decide) (by show ((0 : Nat) : Int) = _; simp)
      · exact len_of (k := 2) (i := 2) (n := n) (r := r) (x := 0) (y := 0) (z := 0) (by decide) (by decide) (by decide) (by show ((0 : Nat) : Int) = _; simp)
      · exact len_of (k := 2) (i := 3) (n := n) (r := r) (x := 0) (y := 0) (z := 0) (by decide) (by decide) (by decide) (by show ((0 : Nat) : Int) = _; simp)
    · rcases hi4 with rfl | rfl | rfl | rfl
      · exact len_of (k := 3) (i := 0) (n := n) (r := r) (x := 1) (y := 0) (z := 0) (by decide) (by decide) (by decide) (by show ((n : Nat) : Int) = _; simp)
      · exact len_of (k := 3) (i := 1) (n := n) (r := r) (x := 0) (y := 0) (z := 0) (by decide) (by decide) (by decide) (by show ((0 : Nat) : Int) = _; simp)
      · exact len_of (k := 3) (i := 2) (n := n) (r := r) (x := 0) (y := 0) (z := 0) (by decide) (by decide) (by decide) (by show ((0 : Nat) : Int) = _; simp)
      · exact len_of (k := 3) (i := 3) (n := n) (r := r) (x := 0) (y := 0) (z := 0) (by decide) (by decide) (by decide) (by show ((0 : Nat) : Int) = _; simp)
    · rcases hi4 with rfl | rfl | rfl | rfl
      · exact len_of (k := 4) (i := 0) (n := n) (r := r) (x := 1) (y := 0) (z := 0) (by decide) (by decide) (by decide) (by show ((n : Nat) : Int) = _; simp)
      · exact len_of (k := 4) (i := 1) (n := n) (r := r) (x := 0) (y := 0) (z := 0) (by decide) (by decide) (by decide) (by show ((0 : Nat) : Int) = _; simp)
      · exact len_of (k := 4) (i := 2) (n := n) (r := r) (x := 0) (y := 0) (z := 0) (by decide) (by decide) (by decide) (by show ((0 : Nat) : Int) = _; simp)
      · exact len_of (k := 4) (i := 3) (n := n) (r := r) (x := 0) (y := 0) (z := 0) (by decide) (by decide) (by decide) (by show ((0 : Nat) : Int) = _; simp)
    · rcases hi4 with rfl | rfl | rfl | rfl
      · exact len_of (k := 5) (i := 0) (n := n) (r := r) (x := 1) (y := 0) (z := 0) (by decide) (by decide) (by decide) (by show ((n : Nat) : Int) = _; simp)
      · exact len_of (k := 5) (i := 1) (n := n) (r := r) (x := 1) (y := 0) (z := 0) (by decide) (by decide) (by decide) (by show ((n : Nat) : Int) = _; simp)
      · exact len_of (k := 5) (i := 2) (n := n) (r := r) (x := 0) (y := 0) (z := 0) (by decide) (by decide) (by decide) (by show ((0 : Nat) : Int) = _; simp)
      · exact len_of (k := 5) (i := 3) (n := n) (r := r) (x := 0) (y := 0) (z := 0) (by decide) (by decide) (by decide) (by show ((0 : Nat) : Int) = _; simp)
    · rcases hi4 with rfl | rfl | rfl | rfl
      · exact len_of (k := 6) (i := 0) (n := n) (r := r) (x := 0) (y := 0) (z := 0) (by decide) (by decide) (by decide) (by show ((0 : Nat) : Int) = _; simp)
      · exact len_of (k := 6) (i := 1) (n := n) (r := r) (x := 0) (y := 0) (z := 0) (by decide) (by decide) (by decide) (by show ((0 : Nat) : Int) = _; simp)
      · exact len_of (k := 6) (i := 2) (n := n) (r := r) (x := 0) (y := 1) (z := 0) (by decide) (by decide) (by decide) (by show ((n * r : Nat) : Int) = _; rw [em]; simp)
      · exact len_of (k := 6) (i := 3) (n := n) (r := r) (x := 0) (y := 1) (z := 0) (by decide) (by decide) (by decide) (by show ((n * r : Nat) : Int) = _; rw [em]; simp)
    · rcases hi4 with rfl | rfl | rfl | rfl
      · exact len_of (k := 7) (i := 0) (n := n) (r := r) (x := 1) (y := 0) (z := 0) (by decide) (by decide) (by decide) (by show ((n : Nat) : Int) = _; simp)
      · exact len_of (k := 7) (i := 1) (n := n) (r := r) (x := 1) (y := 0) (z := 0) (by decide) (by decide) (by decide) (by show ((n : Nat) : Int) = _; simp)
      · exact len_of (k := 7) (i := 2) (n := n) (r := r) (x := 0) (y := 1) (z := 0) (by decide) (by decide) (by decide) (by show ((n * r : Nat) : Int) = _; rw [em]; simp)
      · exact len_of (k := 7) (i := 3) (n := n) (r := r) (x := 0) (y := 1) (z := 0) (by decide) (by decide) (by decide) (by show ((n * r : Nat) : Int) = _; rw [em]; simp)
  · have hi : i < cnA k n := hi
    have hj : j < cnB k n := hj
    show mkL zs (cnA k n) (cnB k n) (cnB k n) 0 (0 + i) ≠ mkL zs (cnA k n) (cnB k n) (cnB k n) 0 (cnA k n + j)
    rw [Nat.zero_add, mkL_A hi]
    have e : mkL zs (cnA k n) (cnB k n) (cnB k n) 0 (cnA k n + j) = bpart (rowq zs) j (rowq zs (cnA k n + j)) (cnA k n) := by
      unfold mkL
      rw [if_neg (by omega), if_pos (by omega), if_pos (by omega), Nat.add_sub_cancel_left]
    rw [e]
    exact bpart_out (fun i => (smal_le _).2) (smal_le _).1 hi
theorem mkg_ok {kind n most : Int} {zs : List Int} (m1 : 1 ≤ most) (m8 : most ≤ 8) : (mkg kind n zs most).OK := by
  obtain ⟨a1, a2⟩ := wthn_lt (a := kind) (n := 7) (by decide)
  obtain ⟨b1, b2⟩ := wthn_lt (a := n) (n := most) (by omega)
  obtain ⟨c1, c2⟩ := wthn_lt (a := n.tdiv 8) (n := 2) (by decide)
  have eK : 1 + wthn kind 7 = ((mkK kind : Nat) : Int) := by unfold mkK; omega
  have eN : 1 + wthn n most = ((mkN n most : Nat) : Int) := by unfold mkN; omega
  refine gmk_ok (by omega) (by omega) (by omega) (by omega) ?_ (fun h => ?_) (fun h => ?_)
  · unfold mkR; split <;> omega
  · unfold mkR; rw [if_pos h]; omega
  · unfold mkR; rw [if_neg (by rw [h]; decide)]
end Go.Proofs.YtddkocidfhaofaaGreat.AM
/- Laws of systems: what is known. -/
namespace Go.Proofs.YtddkocidfhaofaaGreat.AM
open Go Go.RowKit Go.Proofs.YtddkocidfhaofaaGreat.PN Go.Proofs.YtddkocidfhaofaaGreat.V
open Go.Proofs.YtddkocidfhaofaaGreat.LA (S S_succ S_zero S_congr)
set_option linter.unusedVariables false
set_option linter.unusedSimpArgs false
set_option maxRecDepth 8000
set_option maxHeartbeats 8000000
theorem rv_agv {S : Nat → Prop} {B : Nat} {β : Nat → Nat → Value} {w : World} {n : Nat} {f f' : Nat → AV} (h : ∀ i, i < n → ∀ v, RV S B β w (f i) v → RV S B β w (f' i) v) (v : Value) (hv : RV S B β w (.ag n f) v) : RV S B β w (.ag n f') v := by
  obtain ⟨cs, e1, e2, e3⟩ := hv
  refine ⟨cs, e1, e2, fun i hi => ?_⟩
  obtain ⟨y, a0, a1, a2⟩ := e3 i hi
  exact ⟨y, a0, a1, h i hi y a2⟩
theorem Has.agv {P : Program} {f : FuncId} {n : Nat} {u u' : Nat → AV} {xs : List AV} {r : AV} (h : ∀ S B β w i, i < n → ∀ v, RV S B β w (u i) v → RV S B β w (u' i) v) (H : Has P f (.ag n u' :: xs) r) : Has P f (.ag n u :: xs) r :=
  Has.args H fun S B β w vs hv => rvs_cons (rv_agv (h S B β w)) rvs_same hv
theorem rv_nil0 {S : Nat → Prop} {B : Nat} {β : Nat → Nat → Value} {w : World} {f : Nat → RA} (v : Value) (hv : RV S B β w (.v (.slice none 0 0)) v) : RV S B β w (.row false 0 f) v :=
  ⟨none, 0, hv, Nat.le_refl _, Nat.zero_le _, fun i hi => absurd hi (Nat.not_lt_zero _)⟩
theorem rv_eq {S : Nat → Prop} {B : Nat} {β : Nat → Nat → Value} {w : World} {x y : AV} (h : x = y) (v : Value) (hv : RV S B β w x v) : RV S B β w y v := h ▸ hv
def kg : GD := ⟨3, 1, 0, 1, 0, 0, 0, fun _ => 5, fun _ => 0, fun _ => 0, fun _ => 0⟩
theorem kg_ok : kg.OK := by
  refine ⟨by decide, by decide, by decide, by decide, by decide, fun h => (by cases h), fun _ => rfl, ?_, ⟨fun i _ => by show wt 5 ≤ 4; decide, fun i hi => absurd hi (Nat.not_lt_zero _), fun i hi => absurd hi (Nat.not_lt_zero _), fun i hi => absurd hi (Nat.not_lt_zero _)⟩, fun i hi j hj => absurd hj (Nat.not_lt_zero _)⟩
  intro i hi
  have hi4 : i = 0 ∨ i = 1 ∨ i = 2 ∨ i = 3 := by omega
  rcases hi4 with rfl | rfl | rfl | rfl <;> decide
theorem kg_args {S : Nat → Prop} {B : Nat} {β : Nat → Nat → Value} {w : World} {u : Nat → AV} {q : Nat → RA} (h0 : u 0 = .i 3) (h1 : u 1 = .i 1) (h2 : u 2 = .i 0) (h3 : u 3 = .row false 1 q) (hq : q 0 = .q 5) (h4 : u 4 = .v (.slice none 0 0)) (h5 : u 5 = .v (.slice none 0 0)) (h6 : u 6 = .v (.slice none 0 0)) : ∀ i, i < 7 → ∀ v, RV S B β w (u i) v → RV S B β w (kg.f i) v := by
  intro i hi v hv
  match i, hi with
  | 0, _ => rw [h0] at hv; exact hv
  | 1, _ => rw [h1] at hv; exact hv
  | 2, _ => rw [h2] at hv; exact hv
  | 3, _ =>
    rw [h3] at hv
    refine rv_row (fun i hi => ?_) v hv
    have hi : i < 1 := hi
    obtain rfl : i = 0 := by omega
    exact hq
  | 4, _ => rw [h4] at hv; exact rv_nil0 v hv
  | 5, _ => rw [h5] at hv; exact rv_nil0 v hv
  | 6, _ => rw [h6] at hv; exact rv_nil0 v hv
end Go.Proofs.YtddkocidfhaofaaGreat.AM
/- Package levin: steps; what law 10 knows. -/
namespace Go.Proofs.YtddkocidfhaofaaGreat.AM
open Go Go.RowKit Go.Proofs.YtddkocidfhaofaaGreat.PN Go.Proofs.YtddkocidfhaofaaGreat.V
open Go.Proofs.YtddkocidfhaofaaGreat.LA (S S_succ S_zero S_congr longer later)
set_option linter.unusedVariables false
set_option linter.unusedSimpArgs false
set_option maxRecDepth 8000
set_option maxHeartbeats 8000000
/-- An own slice, renamed; more memory beside. -/
theorem own_next {s : St} (t g : Nat) {a : Nat} {b b' : Blk} {F : Nat → Blk} {e : List (Nat × AV)} {l : List (Nat × Fam)} (ht : s.env t = some (.own a 0)) (ha : s.heap a = some (1, F)) (hF : F 0 = b') (hb : BLe (s1 g a) b' b) (hok : b.ok (fun _ => false)) (hg : fx3 g = false) (ha3 : fx3 a = false) (hn : notIn g a (keys l) = true)
    (he : AllE s (s1 g a) (fun x => memN x (g :: keys l)) e) (hl : AllH s (s1 g a) (fun x => memN x (g :: keys l)) l) (h9 : (!(s.used 60) || (memN 60 (g :: keys l) && memN 61 (g :: keys l) && memN 62 (g :: keys l))) = true := by exact rfl) : Imp s (stl ((t, .own g 0) :: e) ((g, (1, fun _ => b)) :: l)) := by
  refine imp_stl (h := (g, (1, fun _ => b)) :: l) (s1 g a) (fun _ x hx r => s1_ne (fun e => by subst e; rw [hg] at hx; cases hx)) (s1_injl hn) ⟨⟨_, ht, Le.own s1_t, memN_head _ _⟩, he⟩ ⟨fun r hr => ?_, hl⟩ h9
  obtain rfl : r = 0 := by omega
  rw [s1_t]
  exact ⟨1, F, ha, Nat.zero_lt_one, by rw [hF]; exact hb, Blk.ok_mono (fun g h => by cases h) hok⟩
theorem lv_steps {g : GD} (h : g.OK) (hk : g.k = 1) {K : Nat} (hK : K ≤ g.n) (hd : ∀ k, k < K → lvd (gent g) k ≠ 0) (hz : K < g.n → lvd (gent g) K = 0) : Has Tryz.prog 9 [g.v] (.tup3 (.mat true K (fun i => i + 1) (fun i j => .q (lvf (gent g) (i + 1) j * 1))) (.i (if K < g.n then ((K + 1 : Nat) : Int) else 0)) (.i (if K < g.n then 8 else 0))) := by
  have n8 := h.n8; have n1 := h.n1
  have hF := toe_wt h hk
  have hw := lv_wt hF
  refine has_of Tryz.func9 (by kernel_rfl) rfl Tryz.ntmps9 Tryz.results9 rfl rfl rfl ?_
  refine run0 ?_
  ((with_reducible apply st_callH); exact rfl; exact rfl; exact rfl; exact (lv_of' h hk); (first | exact True.intro | exact ⟨rfl, rfl, rfl, True.intro⟩); exact rfl; exact rfl; exact rfl; exact rfl; (focus (repeat (first | exact True.intro | refine ⟨(by first | exact True.intro | rfl | exact ok_none (closed_ok rfl)), ?_⟩))); (first | exact True.intro | exact okf_WH | exact okf_pf (by exact True.intro) (by exact True.intro)))
  refine run0 ?_
  refine awp_no rfl rfl ?_
  refine run0 ?_
  refine awp_loop (fun m' s => ∃ k, k ≤ K ∧ m' = g.n - k ∧ s = stl [(2, .own 63 0), (5, .ptr 60 0 0), (16, .i g.n), (17, .i (k : Int))] ((63, (1, fun _ => .ones WT k fun i => .row true (i + 1) fun j => .q (lvf (gent g) (i + 1) j * 1))) :: PFk g.n (gent g) k)) g.n _ ((imp_nil 2 63 (.ones WT 0 fun i => .row true (i + 1) fun j => .q (lvf (gent g) (i + 1) j * 1)) rfl rfl (by exact ⟨by decide, rfl⟩)).trans (imp_id ?_ ?_)) ⟨0, Nat.zero_le _, rfl, rfl⟩ ?_
  · exact eA
  · exact allh rfl (by decide) (bleo rfl fun i hi => absurd hi (Nat.not_lt_zero _)) (fun _ _ => True.intro) (allh rfl (by decide) (pf_le (Le.eq rfl rfl) Le.nilrow Le.nilrow) (fun i _ => prF_ok (by exact True.intro) (by exact True.intro) i) (allz (allz True.intro)))
  rintro m' s ⟨k, hk', rfl, rfl⟩
  refine run0 ?_
  refine awp_if rfl (fun h1 => ?_) (fun h1 => ?_)
  · have h1 : k < g.n := by omega
    by_cases hkk : k = K
    · subst hkk
      obtain ⟨x, y, H⟩ := lv_next_no hF n8 h1 (hz h1)
      rw [if_pos h1, if_pos h1]
      refine run0 ?_
      ((with_reducible apply st_callH); exact rfl; exact rfl; exact rfl; exact (H); (first | exact True.intro | exact ⟨rfl, rfl, rfl, True.intro⟩); exact rfl; exact rfl; exact rfl; exact rfl; (focus (repeat (first | exact True.intro | refine ⟨(by first | exact True.intro | rfl | exact ok_none (closed_ok rfl)), ?_⟩))); (first | exact True.intro | exact okf_WH | exact okf_pf (by exact True.intro) (by exact True.intro)))
      refine run0 ?_
      refine awp_yes rfl rfl ?_
      refine run0 ?_
      exact ⟨.inr rfl, _, imp_matn 2 (fun i => i + 1) (fun i j => .q (lvf (gent g) (i + 1) j * 1)) rfl rfl rfl (fun i hi => rfl) rfl, .three (.tmp rfl) (.tmp rfl) (.tmp rfl)⟩
    have hkK : k < K := by omega
    have hW := (lvW_le (k := k + 1) (by omega)).1
    have wf : ∀ i, i < k + 1 → wt (lvf (gent g) (k + 1) i) ≤ 600000000 := fun i hi => Nat.le_trans (hw (k + 1) (by omega) i hi).1 hW
    have cs := lv_scaled (n := k + 1) (v := lvf (gent g) (k + 1)) (t := 1) (K := 600000000) wf (by decide) (by decide) (by omega)
    refine run0 ?_
    ((with_reducible apply st_callH); exact rfl; exact rfl; exact rfl; exact (lv_next hF n8 h1 (hd k hkK)); (first | exact True.intro | exact ⟨rfl, rfl, rfl, True.intro⟩); exact rfl; exact rfl; exact rfl; exact rfl; (focus (repeat (first | exact True.intro | refine ⟨(by first | exact True.intro | rfl | exact ok_none (closed_ok rfl)), ?_⟩))); (first | exact True.intro | exact okf_WH | exact okf_pf (by exact True.intro) (by exact True.intro)))
    refine run0 ?_
    refine awp_no rfl rfl ?_
    repeat(first|refine run1 ?_|((with_reducible apply st_call);exact rfl;exact rfl;exact rfl;first|(exact lv_one)|(exact cs))|((with_reducible apply st_callg);exact rfl;exact rfl;(first|exact rfl|assumption);exact rfl;exact rfl;exact rfl;first|(exact lv_one)|(exact cs)))
    refine q_loop (m' := g.n - (k + 1)) (by omega) (own_next 2 63 (a := 34) rfl rfl rfl (glue_row (fun _ _ => Le.eq rfl rfl) (Le.eq rfl rfl)) (by exact fun _ _ => True.intro) rfl rfl rfl ?_ ?_) ⟨k + 1, by omega, rfl, rfl⟩
    · exact alle rfl (Le.ptr (s1_ne (by decide))) rfl (alle rfl (Le.eq rfl rfl) True.intro (alle rfl (Le.eq rfl rfl) True.intro True.intro))
    · exact allh rfl Nat.zero_lt_one (pf_le (Le.eq rfl rfl) (Le.eq rfl rfl) (Le.eq rfl rfl)) (fun i _ => prF_ok (by exact True.intro) (by exact True.intro) i) (allz (allz True.intro))
  · have ek : k = g.n := by omega
    have eK : K = k := by omega
    subst eK
    rw [if_neg (by omega), if_neg (by omega)]
    refine run0 ?_
    exact ⟨.inr rfl, _, imp_matn 2 (fun i => i + 1) (fun i j => .q (lvf (gent g) (i + 1) j * 1)) rfl rfl rfl (fun i hi => rfl) rfl, .three (.tmp rfl) (.tmp rfl) (.tmp rfl)⟩
theorem lv_steps_kind {g : GD} (hk : g.k ≠ 1) : Has Tryz.prog 9 [g.v] (.tup3 (.v (.slice none 0 0)) (.i 0) (.i 2)) := by
  refine has_of Tryz.func9 (by kernel_rfl) rfl Tryz.ntmps9 Tryz.results9 rfl rfl rfl ?_
  repeat(first|refine run1 ?_|((with_reducible apply st_call);exact rfl;exact rfl;exact rfl;first|(exact Has.ag (g7 rfl rfl rfl rfl rfl rfl rfl) (lv_of_no hk)))|((with_reducible apply st_callg);exact rfl;exact rfl;(first|exact rfl|assumption);exact rfl;exact rfl;exact rfl;first|(exact Has.ag (g7 rfl rfl rfl rfl rfl rfl rfl) (lv_of_no hk))))
  refine awp_yes rfl rfl ?_
  refine run0 ?_
  exact ⟨.inr rfl, _, Imp.refl _, .three (.tmp rfl) (.tmp rfl) (.tmp rfl)⟩
def kgt : GD := ⟨1, 1, 0, 1, 0, 0, 0, fun _ => 2, fun _ => 0, fun _ => 0, fun _ => 0⟩
theorem kgt_ok : kgt.OK := by
  refine ⟨by decide, by decide, by decide, by decide, by decide, fun h => (by cases h), fun _ => rfl, ?_, ⟨fun i _ => by show wt 2 ≤ 4; decide, fun i hi => absurd hi (Nat.not_lt_zero _), fun i hi => absurd hi (Nat.not_lt_zero _), fun i hi => absurd hi (Nat.not_lt_zero _)⟩, fun i hi j hj => absurd hj (Nat.not_lt_zero _)⟩
  intro i hi
  have hi4 : i = 0 ∨ i = 1 ∨ i = 2 ∨ i = 3 := by omega
  rcases hi4 with rfl | rfl | rfl | rfl <;> decide
theorem kgt_args {S : Nat → Prop} {B : Nat} {β : Nat → Nat → Value} {w : World} {u : Nat → AV} {q : Nat → RA} (h0 : u 0 = .i 1) (h1 : u 1 = .i 1) (h2 : u 2 = .i 0) (h3 : u 3 = .row false 1 q) (hq : q 0 = .q 2) (h4 : u 4 = .v (.slice none 0 0)) (h5 : u 5 = .v (.slice none 0 0)) (h6 : u 6 = .v (.slice none 0 0)) : ∀ i, i < 7 → ∀ v, RV S B β w (u i) v → RV S B β w (kgt.f i) v := by
  intro i hi v hv
  match i, hi with
  | 0, _ => rw [h0] at hv; exact hv
  | 1, _ => rw [h1] at hv; exact hv
  | 2, _ => rw [h2] at hv; exact hv
  | 3, _ =>
    rw [h3] at hv
    refine rv_row (fun i hi => ?_) v hv
    have hi : i < 1 := hi
    obtain rfl : i = 0 := by omega
    exact hq
  | 4, _ => rw [h4] at hv; exact rv_nil0 v hv
  | 5, _ => rw [h5] at hv; exact rv_nil0 v hv
  | 6, _ => rw [h6] at hv; exact rv_nil0 v hv
theorem k_known10 : Has Tryz.prog 7 [] (.b true) := by
  have c2 := hs_int 2 (by decide) (by decide)
  have ch := hs_of 1 2 (by decide) (by decide) (by decide) (by decide)
  have cs : Has Tryz.prog 9 [kgt.v] (.tup3 (.mat true 1 (fun i => i + 1) (fun i j => .q (lvf (gent kgt) (i + 1) j * 1))) (.i 0) (.i 0)) := lv_steps kgt_ok rfl (K := 1) (Nat.le_refl 1) (fun k hk => by
    obtain rfl : k = 0 := by omega
    show (2 : Rat) ≠ 0
    decide) (fun h => absurd h (by decide))
  have ev : lvf (gent kgt) (0 + 1) 0 * 1 = ((1 : Int) : Rat) / ((2 : Int) : Rat) := by
    show (1 / 2 : Rat) * 1 = _
    decide +kernel
  have ce := hs_same (p := lvf (gent kgt) (0 + 1) 0 * 1) (q := ((1 : Int) : Rat) / ((2 : Int) : Rat)) (by rw [ev]; decide +kernel) (by decide +kernel)
  rw [decide_eq_true ev] at ce
  generalize lvf (gent kgt) = L at *
  refine has_of Tryz.func7 (by kernel_rfl) rfl Tryz.ntmps7 Tryz.results7 rfl rfl rfl ?_
  repeat(first|refine run1p ?_|((with_reducible apply st_call);exact rfl;exact rfl;exact rfl;first|(exact c2))|((with_reducible apply st_callg);exact rfl;exact rfl;(first|exact rfl|assumption);exact rfl;exact rfl;exact rfl;first|(exact c2)))
  repeat(first|refine run1p ?_|((with_reducible apply st_call);exact rfl;exact rfl;exact rfl;first|(exact Has.agv (fun S B β w => kgt_args rfl rfl rfl rfl rfl rfl rfl rfl) cs)|(exact ch)|(exact ce))|((with_reducible apply st_callg);exact rfl;exact rfl;(first|exact rfl|assumption);exact rfl;exact rfl;exact rfl;first|(exact Has.agv (fun S B β w => kgt_args rfl rfl rfl rfl rfl rfl rfl rfl) cs)|(exact ch)|(exact ce)))
  exact ⟨.inr rfl, _, Imp.refl _, .one (.tmp rfl)⟩
end Go.Proofs.YtddkocidfhaofaaGreat.AM
/- Drawn systems: how long their entries are, by bits. -/
namespace Go.Proofs.YtddkocidfhaofaaGreat.AM
open Go.Proofs.YtddkocidfhaofaaGreat.PN
open Go.Proofs.YtddkocidfhaofaaGreat.LA (S S_succ S_zero S_congr)
set_option linter.unusedVariables false
set_option linter.unusedSimpArgs false
set_option maxRecDepth 8000
set_option maxHeartbeats 8000000
/-- So many parts of one size. -/
def Fq (D M : Nat) (q : Rat) : Prop := ∃ z : Int, q = (z : Rat) / ((D : Int) : Rat) ∧ z.natAbs ≤ M
theorem Fq.bt {D M k : Nat} {q : Rat} (h : Fq D M q) (hD : D ≠ 0) (h1 : M < 2 ^ k) (h2 : D < 2 ^ k) : Bt q k := by
  obtain ⟨z, rfl, hz⟩ := h
  have e : (z : Rat) / ((D : Int) : Rat) = PN.mk (decide (z < 0)) z.natAbs D := by
    unfold PN.mk
    have h6 : PN.sg (decide (z < 0)) z.natAbs = z := by
      unfold PN.sg
      by_cases h : z < 0
      · rw [decide_eq_true h]; simp; omega
      · rw [decide_eq_false h]; simp; omega
    rw [h6, Rat.mkRat_eq_div]
    rfl
  rw [e]
  exact Bt.of_mk _ hD (by omega) h2
theorem Fq.mul {D M D' M' : Nat} {p q : Rat} (h : Fq D M p) (k : Fq D' M' q) : Fq (D * D') (M * M') (p * q) := by
  obtain ⟨z, rfl, hz⟩ := h
  obtain ⟨y, rfl, hy⟩ := k
  refine ⟨z * y, ?_, by rw [Int.natAbs_mul]; exact Nat.mul_le_mul hz hy⟩
  rw [Rat.intCast_mul, show ((D * D' : Nat) : Int) = (D : Int) * (D' : Int) from Int.natCast_mul D D', Rat.intCast_mul, Rat.div_def, Rat.div_def, Rat.div_def, Rat.inv_mul_rev]
  rw [Rat.mul_assoc, Rat.mul_assoc, ← Rat.mul_assoc (_)⁻¹ (y : Rat), Rat.mul_comm (_)⁻¹ (y : Rat), Rat.mul_assoc (y : Rat), Rat.mul_comm ((D : Int) : Rat)⁻¹]
theorem Fq.add {D M M' : Nat} {p q : Rat} (h : Fq D M p) (k : Fq D M' q) : Fq D (M + M') (p + q) := by
  obtain ⟨z, rfl, hz⟩ := h
  obtain ⟨y, rfl, hy⟩ := k
  refine ⟨z + y, ?_, by omega⟩
  rw [Rat.intCast_add, Rat.div_def, Rat.div_def, Rat.div_def, Rat.add_mul]
theorem Fq.zero (D : Nat) : Fq D 0 0 := ⟨0, by rw [Rat.div_def]; simp, Nat.le_refl _⟩
theorem Fq.mono {D M M' : Nat} {q : Rat} (h : Fq D M q) (k : M ≤ M') : Fq D M' q := by
  obtain ⟨z, e, hz⟩ := h
  exact ⟨z, e, Nat.le_trans hz k⟩
theorem Fq.sum {D M n : Nat} {f : Nat → Rat} (h : ∀ i, i < n → Fq D M (f i)) : Fq D (n * M) (S n f) := by
  induction n with
  | zero => rw [Nat.zero_mul]; exact Fq.zero D
  | succ n ih => rw [Nat.succ_mul]; exact (ih fun i hi => h i (by omega)).add (h n (by omega))
theorem smal_parts : ∀ x : _root_.Fin 41, ∀ y : _root_.Fin 5, (((x.val : Int) - 20 : Int) : Rat) / ((1 + (y.val : Int) : Int) : Rat) = ((((x.val : Int) - 20) * (60 / (1 + (y.val : Int))) : Int) : Rat) / (((60 : Nat) : Int) : Rat) ∧ (((x.val : Int) - 20) * (60 / (1 + (y.val : Int)))).natAbs ≤ 1200 := by decide +kernel
theorem smal_fq (a : Int) : Fq 60 1200 (smal a) := by
  obtain ⟨h1, h2⟩ := wthn_lt (a := a) (n := 41) (by decide)
  obtain ⟨h3, h4⟩ := wthn_lt (a := a.tdiv 41) (n := 5) (by decide)
  have := smal_parts ⟨(wthn a 41).toNat, by omega⟩ ⟨(wthn (a.tdiv 41) 5).toNat, by omega⟩
  rw [show (((wthn a 41).toNat : Nat) : Int) = wthn a 41 by omega, show (((wthn (a.tdiv 41) 5).toNat : Nat) : Int) = wthn (a.tdiv 41) 5 by omega] at this
  exact ⟨_, this.1, this.2⟩
/-- A system whose numbers are small. -/
structure Sml5 (g : GD) : Prop where
  n : g.n ≤ 8
  r : g.r ≤ 2
  A : ∀ i, i < g.la → Bt (g.A i) 5
  B : ∀ i, i < g.lb → Bt (g.B i) 13
  G : ∀ i, i < g.lg → Fq 60 1200 (g.G i)
  H : ∀ i, i < g.lh → Fq 60 1200 (g.H i)
theorem bpart_bt {zs : List Int} {c n : Nat} {x : Rat} (hc : c ≤ 20) (hx : -20 ≤ x) (hb : Bt x 5) : Bt (bpart (rowq zs) c x n) 13 := by
  rcases bpart_ne (A := rowq zs) (c := c) (fun i => (smal_le _).2) hx n with ⟨h1, _⟩ | h1
  · rw [h1]; exact hb.mono (by decide)
  · rw [h1]
    have key : ∀ c : _root_.Fin 21, nm (((100 + (c.val : Int) : Int)) : Rat) < 2 ^ 7 ∧ (((100 + (c.val : Int) : Int)) : Rat).den < 2 ^ 7 := by decide +kernel
    have h2 := key ⟨c, by omega⟩
    have : Bt ((100 + c : Int) : Rat) 7 := ⟨h2.1, h2.2⟩
    exact (inferInstance : Bt (x + ((100 + c : Int) : Rat)) (5 + 7 + 1))
theorem mkg_sml {kind n most : Int} {zs : List Int} (h1 : 1 ≤ most) (h8 : most ≤ 8) : Sml5 (mkg kind n zs most) := by
  obtain ⟨b1, b2⟩ := wthn_lt (a := n) (n := most) (by omega)
  obtain ⟨c1, c2⟩ := wthn_lt (a := n.tdiv 8) (n := 2) (by decide)
  have hB : ∀ (k m i : Nat), m ≤ 8 → i < cnB k m → i ≤ 20 := fun k m i hm hi => by
    unfold cnB at hi
    split at hi <;> omega
  have hn : mkN n most ≤ 8 := by unfold mkN; omega
  refine ⟨hn, ?_, fun i hi => ?_, fun i hi => ?_, fun i _ => ?_, fun i _ => ?_⟩
  · show mkR (mkK kind) n ≤ 2
    unfold mkR; split <;> omega
  · have hi : i < cnA (mkK kind) (mkN n most) := hi
    show Bt (mkL zs _ _ _ 0 (0 + i)) 5
    rw [Nat.zero_add, mkL_A hi]; exact rowq_bt zs i
  · have hi' := hB _ _ _ hn hi
    show Bt (mkL zs (cnA (mkK kind) (mkN n most)) (cnB (mkK kind) (mkN n most)) (cnB (mkK kind) (mkN n most)) 0 (cnA (mkK kind) (mkN n most) + i)) 13
    have hi : i < cnB (mkK kind) (mkN n most) := hi
    unfold mkL
    rw [if_neg (by omega), if_pos (by omega), if_pos (by omega), Nat.add_sub_cancel_left]
    exact bpart_bt hi' (smal_le _).1 (rowq_bt zs _)
  · show Fq 60 1200 (mkL zs _ _ _ 0 _)
    unfold mkL
    rw [if_neg (by omega), if_neg (by omega)]
    exact smal_fq _
  · show Fq 60 1200 (mkL zs _ _ _ 0 _)
    unfold mkL
    rw [if_neg (by omega), if_neg (by omega)]
    exact smal_fq _
theorem rdot_fq {g : GD} (s : Sml5 g) {i j : Nat} (hg : i * g.r + g.r ≤ g.lg) (hh : j * g.r + g.r ≤ g.lh) : Fq 3600 2880000 (rdot g i j) :=
  (Fq.sum (M := 1440000) fun k hk => (s.G _ (by omega)).mul (s.H _ (by omega))).mono (Nat.mul_le_mul_right 1440000 s.r)
theorem pow_bt {p : Rat} (hp : Bt p 5) : ∀ k, Bt (p ^ k) (1 + 5 * k)
  | 0 => by rw [Rat.pow_zero]; exact Bt.one
  | k + 1 => by
    have := pow_bt hp k
    rw [Rat.pow_succ]
    exact (inferInstance : Bt (p ^ k * p) (1 + 5 * k + 5)).mono (by omega)
theorem gent_bt {g : GD} (h : g.OK) (s : Sml5 g) {i j : Nat} (hi : i < g.n) (hj : j < g.n) : Bt (gent g i j) 41 := by
  have n5 := s.n; have k1 := h.k1; have k7 := h.k7
  obtain ⟨m1, m2, m3, m4⟩ := ok_lens h
  have hk : g.k = 1 ∨ g.k = 2 ∨ g.k = 3 ∨ g.k = 4 ∨ g.k = 5 ∨ g.k = 6 ∨ g.k = 7 := by omega
  have row : ∀ u, u < g.n → u * g.r + g.r ≤ g.n * g.r := fun u hu => by rw [← Nat.succ_mul]; exact Nat.mul_le_mul_right _ hu
  unfold gent
  rcases hk with hk | hk | hk | hk | hk | hk | hk
  · rw [hk]; exact (s.A (i + g.n - 1 - j) (by omega)).mono (by decide)
  · rw [hk]; exact (s.A (i + j) (by omega)).mono (by decide)
  · have hlt : (i + g.n - j) % g.n < g.n := Nat.mod_lt _ (by omega)
    rw [hk]; exact (s.A ((i + g.n - j) % g.n) (by omega)).mono (by decide)
  · rw [hk]; exact (pow_bt (s.A i (by omega)) j).mono (by omega)
  · have hA := s.A i (by omega); have hB := s.B j (by omega)
    rw [hk]; exact (inferInstance : Bt (1 / (g.A i - g.B j)) (1 + (5 + 13 + 1))).mono (by decide)
  · obtain ⟨hg, hh⟩ := m4 (.inl hk)
    have hs := Fq.sum (n := min i j + 1) (D := 3600) (M := 2880000) (f := fun m => rdot g (i - m) (j - m)) fun u hu => by
      have h1 := row (i - u) (by omega); have h2 := row (j - u) (by omega)
      exact rdot_fq s (by omega) (by omega)
    rw [hk]; exact (hs.bt (k := 25) (by decide) (Nat.lt_of_le_of_lt (Nat.mul_le_mul_right 2880000 (show min i j + 1 ≤ 8 by omega)) (by decide)) (by decide)).mono (by decide)
  · obtain ⟨hg, hh⟩ := m4 (.inr hk)
    have h0 := row i hi; have h0' := row j hj
    have hA := s.A i (by omega); have hB := s.B j (by omega)
    have hR := (rdot_fq s (i := i) (j := j) (by omega) (by omega)).bt (k := 22) (by decide) (by decide) (by decide)
    rw [hk]; exact (inferInstance : Bt (rdot g i j / (g.A i - g.B j)) (22 + (5 + 13 + 1)))
end Go.Proofs.YtddkocidfhaofaaGreat.AM
/- Systems: what both ways answer, in plain functions. -/
namespace Go.Proofs.YtddkocidfhaofaaGreat.AM
open Go.Proofs.YtddkocidfhaofaaGreat.PN
open Go.Proofs.YtddkocidfhaofaaGreat.LA (Mt S S_succ S_zero S_congr S_add S_mul S_mulr S_single S_null S_append det HasRank app unique)
set_option linter.unusedVariables false
set_option linter.unusedSimpArgs false
/-- A matrix with a column more. -/
abbrev augb (n : Nat) (F : Nat → Nat → Rat) (b : Nat → Rat) : Nat → Nat → Rat := aug n F fun i j => b (i + j)
/-- All columns cleaned; the answer. -/
noncomputable def gj (n : Nat) (F : Nat → Nat → Rat) (b : Nat → Rat) : ES := stps n (n + 1) true (augb n F b) n
noncomputable def gjx (n : Nat) (F : Nat → Nat → Rat) (b : Nat → Rat) (i : Nat) : Rat := PR (gj n F b) i n / PR (gj n F b) i i
/-- The triangle; from the last row up. -/
noncomputable def gt (n : Nat) (F : Nat → Nat → Rat) (b : Nat → Rat) : ES := stps n (n + 1) false (augb n F b) n
def bsx (n : Nat) (P : Nat → Nat → Rat) : Nat → Nat → Rat
  | 0 => fun _ => 0
  | k + 1 => updN (bsx n P k) (n - 1 - k) ((P (n - 1 - k) n - S k fun u => P (n - 1 - k) (n - 1 - k + 1 + u) * bsx n P k (n - 1 - k + 1 + u)) / P (n - 1 - k) (n - 1 - k))
theorem bsx_at {n : Nat} {P : Nat → Nat → Rat} {k : Nat} : bsx n P (k + 1) (n - 1 - k) = (P (n - 1 - k) n - S k fun u => P (n - 1 - k) (n - 1 - k + 1 + u) * bsx n P k (n - 1 - k + 1 + u)) / P (n - 1 - k) (n - 1 - k) := updN_same _ _ _
theorem bsx_later {n : Nat} {P : Nat → Nat → Rat} : ∀ {k k' i : Nat}, k ≤ k' → k' ≤ n → n - k ≤ i → i < n → bsx n P k' i = bsx n P k i := by
  intro k k' i h
  induction h with
  | refl => intro _ _ _; rfl
  | step h ih =>
    rename_i m
    intro h1 h2 h3
    have h' : k ≤ m := h
    rw [← ih (by omega) h2 h3]
    exact updN_ne _ _ (show i ≠ n - 1 - m by omega)
/-- From the last row up: what was asked. -/
theorem bsx_solves {n : Nat} {P : Nat → Nat → Rat} (hz : ∀ i j, i < n → j < i → P i j = 0) (hd : ∀ i, i < n → P i i ≠ 0) {i : Nat} (hi : i < n) : S n (fun j => P i j * bsx n P n j) = P i n := by
  obtain ⟨k, rfl⟩ : ∃ k, i = n - 1 - k := ⟨n - 1 - i, by omega⟩
  obtain ⟨k, hk, hki⟩ : ∃ k', k' < n ∧ n - 1 - k = n - 1 - k' := ⟨n - 1 - (n - 1 - k), by omega, by omega⟩
  rw [hki] at hi ⊢
  clear hki
  generalize hI : n - 1 - k = I at *
  have hn : n = I + (1 + k) := by omega
  have e0 : S n (fun j => P I j * bsx n P n j) = S (I + (1 + k)) (fun j => P I j * bsx n P n j) := by rw [← hn]
  rw [e0, S_append, S_null (n := I) (fun j hj => by rw [hz I j hi hj, Rat.zero_mul]), S_append, S_succ, S_zero, Rat.zero_add, Rat.zero_add]
  have e1 : bsx n P n (I + 0) = (P I n - S k fun u => P I (I + 1 + u) * bsx n P k (I + 1 + u)) / P I I := by
    rw [Nat.add_zero, bsx_later (k := k + 1) (by omega) (Nat.le_refl n) (by omega) hi]
    have := bsx_at (n := n) (P := P) (k := k)
    rw [hI] at this; exact this
  have e2 : S k (fun i => P I (I + (1 + i)) * bsx n P n (I + (1 + i))) = S k (fun u => P I (I + 1 + u) * bsx n P k (I + 1 + u)) := S_congr fun u hu => by
    rw [show I + (1 + u) = I + 1 + u by omega, bsx_later (k := k) (by omega) (Nat.le_refl n) (by omega) (by omega)]
  rw [e1, e2, Nat.add_zero]
  generalize S k (fun u => P I (I + 1 + u) * bsx n P k (I + 1 + u)) = s
  rw [Rat.mul_comm, Rat.div_mul_cancel (hd I hi)]
  grind
/-- What the rows of P send x to, those of A do, too. -/
theorem ker_app {n : Nat} {A : Nat → Nat → Rat} {x : Nat → Rat} (h : Ker n (n + 1) A fun j => if j < n then x j else -1) {r : Nat} (hr : r < n) : S n (fun j => A r j * x j) = A r n := by
  have h1 := h r hr
  rw [S_succ] at h1
  dsimp only at h1
  rw [if_neg (Nat.lt_irrefl n), S_congr (g := fun j => A r j * x j) fun j hj => by rw [if_pos hj]] at h1
  grind
theorem app_ker {n : Nat} {A : Nat → Nat → Rat} {x : Nat → Rat} (h : ∀ r, r < n → S n (fun j => A r j * x j) = A r n) : Ker n (n + 1) A fun j => if j < n then x j else -1 := by
  intro r hr
  rw [S_succ]
  dsimp only
  rw [if_neg (Nat.lt_irrefl n), S_congr (g := fun j => A r j * x j) fun j hj => by rw [if_pos hj], h r hr]
  grind
theorem augb_app {n : Nat} {F : Nat → Nat → Rat} {b x : Nat → Rat} {r : Nat} (h : S n (fun j => augb n F b r j * x j) = augb n F b r n) : app n F x r = b r := by
  have e1 : S n (fun j => augb n F b r j * x j) = app n F x r := S_congr fun j hj => by
    show (if j < n then _ else _) * _ = _; rw [if_pos hj]
  rw [← e1, h]
  show (if n < n then _ else b (r + (n - n))) = _
  rw [if_neg (Nat.lt_irrefl n), Nat.sub_self, Nat.add_zero]
theorem det_augb (n : Nat) (F : Nat → Nat → Rat) (b : Nat → Rat) : det n (augb n F b) = det n F := LA.det_congr fun i j _ hj => if_pos hj
theorem gj_full (n : Nat) (F : Nat → Nat → Rat) (b : Nat → Rat) : (gj n F b).at' < n ↔ gdet n F = 0 := by
  have h1 := LA.rank_full (fin_rank (n := n) (m := n + 1) (all := true) (A := augb n F b) (Nat.le_succ n))
  rw [gdet_det, ← det_augb n F b]
  unfold gj
  constructor
  · intro h; exact Classical.byContradiction fun h2 => by have := h1.2.2 h2; omega
  · intro h
    rcases Nat.lt_or_ge (stps n (n + 1) true (augb n F b) n).at' n with h3 | h3
    · exact h3
    · exact absurd h (h1.2.1 (by omega))
theorem gt_full (n : Nat) (F : Nat → Nat → Rat) (b : Nat → Rat) : (gt n F b).at' < n ↔ gdet n F = 0 := by
  have h1 := LA.rank_full (fin_rank (n := n) (m := n + 1) (all := false) (A := augb n F b) (Nat.le_succ n))
  rw [gdet_det, ← det_augb n F b]
  unfold gt
  constructor
  · intro h; exact Classical.byContradiction fun h2 => by have := h1.2.2 h2; omega
  · intro h
    rcases Nat.lt_or_ge (stps n (n + 1) false (augb n F b) n).at' n with h3 | h3
    · exact h3
    · exact absurd h (h1.2.1 (by omega))
theorem gt_det (n : Nat) (F : Nat → Nat → Rat) (b : Nat → Rat) : dd n (gt n F b) = gdet n F := by
  rw [gdet_det, ← det_augb n F b]; exact fin_det (Nat.le_succ n)
theorem gj_nz {n : Nat} {F : Nat → Nat → Rat} {b : Nat → Rat} (h : gdet n F ≠ 0) : (gj n F b).at' = n ∧ (∀ i, i < n → PR (gj n F b) i i ≠ 0) ∧ ∀ i, i < n → app n F (gjx n F b) i = b i := by
  obtain ⟨σ, col, hG⟩ := stps_gi (n := n) (m := n + 1) (all := true) (A := augb n F b) n (Nat.le_succ n)
  have h1 := (stps_perm (n := n) (m := n + 1) (all := true) (A := augb n F b) n).1
  have h2 := gj_full n F b
  have hG : GI n (n + 1) n true (augb n F b) (gj n F b) σ col := hG
  have h1 : (gj n F b).at' ≤ n := h1
  have hf : (gj n F b).at' = n := by
    rcases Nat.lt_or_ge (gj n F b).at' n with h3 | h3
    · exact absurd (h2.1 h3) h
    · omega
  have hcol := hG.full hf
  have hnz : ∀ i, i < n → PR (gj n F b) i i ≠ 0 := fun i hi => by have := hG.nz i (by omega); rw [hcol i hi] at this; exact this
  refine ⟨hf, hnz, fun i hi => ?_⟩
  refine augb_app (ker_app (hG.re.ker (app_ker fun r hr => ?_)) hi)
  rw [S_single hr (fun j hj hne => by rw [show PR (gj n F b) r j = 0 by have := hG.cl rfl j r (by omega) hr (Ne.symm hne); rw [hcol j hj] at this; exact this, Rat.zero_mul])]
  unfold gjx
  rw [Rat.mul_comm, Rat.div_mul_cancel (hnz r hr)]
theorem gt_nz {n : Nat} {F : Nat → Nat → Rat} {b : Nat → Rat} (h : gdet n F ≠ 0) : (gt n F b).at' = n ∧ (∀ i, i < n → PR (gt n F b) i i ≠ 0) ∧ ∀ i, i < n → app n F (bsx n (PR (gt n F b)) n) i = b i := by
  obtain ⟨σ, col, hG⟩ := stps_gi (n := n) (m := n + 1) (all := false) (A := augb n F b) n (Nat.le_succ n)
  have h1 := (stps_perm (n := n) (m := n + 1) (all := false) (A := augb n F b) n).1
  have h2 := gt_full n F b
  have hG : GI n (n + 1) n false (augb n F b) (gt n F b) σ col := hG
  have h1 : (gt n F b).at' ≤ n := h1
  have hf : (gt n F b).at' = n := by
    rcases Nat.lt_or_ge (gt n F b).at' n with h3 | h3
    · exact absurd (h2.1 h3) h
    · omega
  have hcol := hG.full hf
  have hnz : ∀ i, i < n → PR (gt n F b) i i ≠ 0 := fun i hi => by have := hG.nz i (by omega); rw [hcol i hi] at this; exact this
  refine ⟨hf, hnz, fun i hi => ?_⟩
  exact augb_app (ker_app (hG.re.ker (app_ker fun r hr => bsx_solves (fun i j hi hj => hG.ahead i (by omega) j (by rw [hcol i hi]; exact hj)) hnz hr)) hi)
theorem solve_same {n : Nat} {F : Nat → Nat → Rat} {b : Nat → Rat} (h : gdet n F ≠ 0) {i : Nat} (hi : i < n) : gjx n F b i = bsx n (PR (gt n F b)) n i := by
  refine unique (by rw [← gdet_det]; exact h) (fun r hr => ?_) i hi
  rw [(gj_nz (b := b) h).2.2 r hr, (gt_nz (b := b) h).2.2 r hr]
/-! ### How long they are -/
theorem pr_bits {n m K : Nat} {A : Nat → Nat → Rat} (hK : 1 ≤ K) [hA : ∀ i j, Bt (A i j) K] : ∀ c, ∀ r, r < n → ∀ j, Bt (PR (stps n m false A c) r j) (4 ^ (min r (stps n m false A c).at') * (K + 1) - 1)
  | 0, r, hr, j => by
    have h : Bt (PR (stps n m false A 0) r j) K := hA r j
    refine h.mono ?_
    show K ≤ 4 ^ (min r 0) * (K + 1) - 1
    rw [Nat.min_zero, Nat.pow_zero]; omega
  | c + 1, r, hr, j => by
    have ih := pr_bits (n := n) (m := m) hK (hA := hA) c
    obtain ⟨_, hlt, hinj⟩ := stps_perm (n := n) (m := m) (all := false) (A := A) c
    show Bt (PR (stp n m false (stps n m false A c) c) r j) (4 ^ (min r (stp n m false (stps n m false A c) c).at') * (K + 1) - 1)
    generalize stps n m false A c = s at *
    obtain ⟨a, d, π, B⟩ := s
    have ih : ∀ r, r < n → ∀ j, Bt (B (π r) j) (4 ^ (min r a) * (K + 1) - 1) := ih
    unfold stp
    split
    · rename_i hi
      obtain ⟨h1, _⟩ := fnd_le (fun i => B (π i) c ≠ 0) (n - a) a
      have hi : fnd (fun i => B (π i) c ≠ 0) (n - a) a < n := hi
      show Bt (cln B (swp π (fnd (fun i => B (π i) c ≠ 0) (n - a) a) a) false a c m n (swp π (fnd (fun i => B (π i) c ≠ 0) (n - a) a) a r) j) (4 ^ (min r (a + 1)) * (K + 1) - 1)
      generalize fnd (fun i => B (π i) c ≠ 0) (n - a) a = i0 at *
      have han : a < n := by omega
      have hinj' := swp_inj (n := n) (i := i0) (j := a) hinj hi han
      have hs : ∀ r, r < n → a ≤ r → ∀ j, Bt (B (swp π i0 a r) j) (4 ^ a * (K + 1) - 1) := fun r hr har j => by
        have key : ∃ r', r' < n ∧ a ≤ r' ∧ swp π i0 a r = π r' := by
          unfold swp updN
          by_cases e1 : r = a
          · rw [if_pos e1]; exact ⟨i0, hi, h1, rfl⟩
          · rw [if_neg e1]
            by_cases e2 : r = i0
            · rw [if_pos e2]; exact ⟨a, han, Nat.le_refl a, rfl⟩
            · rw [if_neg e2]; exact ⟨r, hr, har, rfl⟩
        obtain ⟨r', h3, h4, h5⟩ := key
        have := ih r' h3 j
        rw [show min r' a = a by omega] at this
        rw [h5]; exact this
      have hp : 1 ≤ 4 ^ a := Nat.pow_pos (by decide)
      have hpk : K + 1 ≤ 4 ^ a * (K + 1) := Nat.le_mul_of_pos_left _ hp
      rcases Nat.lt_or_ge a r with h2 | h2
      · rw [show min r (a + 1) = a + 1 by omega, Nat.pow_succ, Nat.mul_right_comm]
        by_cases hj : c ≤ j ∧ j < m
        · rw [cln_at hinj' hr j ⟨.inl h2, hj⟩]
          have w1 := hs r hr (by omega)
          have w2 := hs a han (Nat.le_refl a)
          exact (inferInstance : Bt (B (swp π i0 a r) j - B (swp π i0 a r) c / B (swp π i0 a a) c * B (swp π i0 a a) j) _).mono (by omega)
        · rw [cln_not hinj' hr j (fun e => hj e.2)]
          exact (hs r hr (by omega) j).mono (by omega)
      · rw [cln_not hinj' hr j (fun e => by rcases e.1 with h3 | ⟨h3, _⟩; omega; cases h3), show min r (a + 1) = r by omega]
        by_cases e : r = a
        · subst e; exact hs r hr (Nat.le_refl r) j
        · have e2 : swp π i0 a r = π r := by
            unfold swp updN
            rw [if_neg e, if_neg (by omega)]
          have := ih r hr j
          rw [show min r a = r by omega] at this
          rw [e2]; exact this
    · exact ih r hr j
/-- How long the parts of an answer are, from the last up. -/
def sbd (X : Nat → Nat) (Y : Nat → Nat) (i : Nat) : Nat → Nat
  | 0 => X i
  | k + 1 => sbd X Y i k + (X i + Y (i + 1 + k)) + 1
def ybd (n : Nat) (X : Nat → Nat) : Nat → Nat → Nat
  | 0 => fun _ => 0
  | k + 1 => fun i => if i = n - 1 - k then sbd X (ybd n X k) (n - 1 - k) k + X (n - 1 - k) else ybd n X k i
def ybOK (n : Nat) (X : Nat → Nat) : Bool := (List.range n).all fun k => Nat.ble (sbd X (ybd n X k) (n - 1 - k) k) 15000 && Nat.ble (X (n - 1 - k)) 15000
theorem sbd_wt {n i : Nat} {P : Nat → Nat → Rat} {x : Nat → Rat} {X Y : Nat → Nat} (h0 : Wt (P i n) (X i)) (hP : ∀ j, Wt (P i j) (X i)) : ∀ k, (∀ u, u < k → Wt (x (i + 1 + u)) (Y (i + 1 + u))) → Wt (P i n - S k fun u => P i (i + 1 + u) * x (i + 1 + u)) (sbd X Y i k)
  | 0, _ => by rw [S_zero, Rat.sub_eq_add_neg, Rat.neg_zero, Rat.add_zero]; exact h0
  | k + 1, h => by
    have h1 := sbd_wt (n := n) (x := x) (X := X) (Y := Y) h0 hP k (fun u hu => h u (by omega))
    have h2 := h k (Nat.lt_succ_self k)
    have h3 := hP (i + 1 + k)
    rw [S_succ, show ∀ a b c : Rat, a - (b + c) = (a - b) - c by intros; grind]
    exact (inferInstance : Wt ((P i n - S k fun u => P i (i + 1 + u) * x (i + 1 + u)) - P i (i + 1 + k) * x (i + 1 + k)) _)
theorem ybd_wt {n : Nat} {P : Nat → Nat → Rat} {X : Nat → Nat} (hP : ∀ i, i < n → ∀ j, Wt (P i j) (X i)) : ∀ k, k ≤ n → ∀ i, n - k ≤ i → i < n → Wt (bsx n P k i) (ybd n X k i)
  | 0, _, i, h1, h2 => by omega
  | k + 1, hk, i, h1, h2 => by
    have ih := ybd_wt (X := X) hP k (by omega)
    by_cases e : i = n - 1 - k
    · subst e
      rw [bsx_at]
      show Wt _ (if _ then _ else _)
      rw [if_pos rfl]
      have h3 := sbd_wt (n := n) (x := bsx n P k) (X := X) (Y := ybd n X k) (hP _ h2 n) (hP _ h2) k (fun u hu => ih _ (by omega) (by omega))
      have h4 := hP _ h2 (n - 1 - k)
      exact inferInstance
    · show Wt (updN (bsx n P k) (n - 1 - k) _ i) (if _ then _ else _)
      rw [updN_ne _ _ e, if_neg e]
      exact ih i (by omega) h2
end Go.Proofs.YtddkocidfhaofaaGreat.AM
/- Answers of small systems: how long they are. -/
namespace Go.Proofs.YtddkocidfhaofaaGreat.AM
open Go.Proofs.YtddkocidfhaofaaGreat.PN
open Go.Proofs.YtddkocidfhaofaaGreat.LA (Mt S S_succ S_zero S_congr app det cupd cupd_at cupd_ne cramer)
set_option linter.unusedVariables false
set_option linter.unusedSimpArgs false
set_option maxRecDepth 8000
set_option maxHeartbeats 8000000
theorem Fq.sg (i : Nat) : Fq 1 1 (LA.sg i) := by
  unfold LA.sg
  split
  · exact ⟨1, by decide +kernel, by decide⟩
  · exact ⟨-1, by decide +kernel, by decide⟩
def fac : Nat → Nat
  | 0 => 1
  | n + 1 => (n + 1) * fac n
theorem det_fq {D M : Nat} : ∀ {n : Nat} {F : Mt}, (∀ i j, i < n → j < n → Fq D M (F i j)) → Fq (D ^ n) (fac n * M ^ n) (det n F)
  | 0, F, _ => ⟨1, by show (1 : Rat) = _; rw [Nat.pow_zero]; decide +kernel, by rw [Nat.pow_zero]; decide⟩
  | n + 1, F, h => by
    have hs : ∀ i, i < n + 1 → Fq (D ^ (n + 1)) (fac n * M ^ (n + 1)) (LA.sg i * F i 0 * det n (LA.del i F)) := fun i hi => by
      have h1 := det_fq (n := n) (F := LA.del i F) fun r c hr hc => by
        show Fq D M (F (LA.skip i r) (c + 1))
        refine h _ _ ?_ (by omega)
        unfold LA.skip; split <;> omega
      have h2 := ((Fq.sg i).mul (h i 0 hi (by omega))).mul h1
      have e1 : 1 * D * D ^ n = D ^ (n + 1) := by rw [Nat.one_mul, Nat.pow_succ, Nat.mul_comm]
      have e2 : 1 * M * (fac n * M ^ n) = fac n * M ^ (n + 1) := by rw [Nat.one_mul, Nat.pow_succ, Nat.mul_left_comm, Nat.mul_comm M]
      rw [e1, e2] at h2
      exact h2
    have := Fq.sum hs
    rw [← Nat.mul_assoc] at this
    exact this
theorem quo_bt {E M k : Nat} {p q : Rat} (hp : Fq E M p) (hq : Fq E M q) (h0 : q ≠ 0) (hM : M < 2 ^ k) : Bt (p / q) k := by
  obtain ⟨y, rfl, hy⟩ := hp
  obtain ⟨z, rfl, hz⟩ := hq
  have hz0 : z ≠ 0 := fun e => h0 (by rw [e, Rat.div_def]; simp)
  have hE : ((E : Int) : Rat) ≠ 0 := fun e => h0 (by rw [e, Rat.div_def, Rat.inv_zero, Rat.mul_zero])
  have hzr : ((z : Int) : Rat) ≠ 0 := fun e => hz0 (by exact_mod_cast e)
  have e : ((y : Int) : Rat) / ((E : Int) : Rat) / (((z : Int) : Rat) / ((E : Int) : Rat)) = ((y : Int) : Rat) / ((z : Int) : Rat) := by
    rw [Rat.div_def, Rat.div_def, Rat.div_def, Rat.div_def, Rat.inv_mul_rev, Rat.inv_inv]
    rw [Rat.mul_assoc, ← Rat.mul_assoc (_)⁻¹ ((E : Int) : Rat), Rat.inv_mul_cancel _ hE, Rat.one_mul]
  rw [e]
  have e2 : ((y : Int) : Rat) / ((z : Int) : Rat) = ((y * z.sign : Int) : Rat) / (((z.natAbs : Nat) : Int) : Rat) := by
    have hs : z.sign * z = (z.natAbs : Int) := by rw [Int.mul_comm]; exact Int.mul_sign_self z
    have h1 : (((z.natAbs : Nat) : Int) : Rat) = ((z.sign : Int) : Rat) * ((z : Int) : Rat) := by rw [← Rat.intCast_mul, hs]
    have hsz : z.sign * z.sign = 1 := by
      rcases Int.lt_trichotomy z 0 with h | h | h
      · rw [Int.sign_eq_neg_one_of_neg h]; rfl
      · exact absurd h hz0
      · rw [Int.sign_eq_one_of_pos h]; rfl
    have hss : ((z.sign : Int) : Rat) * ((z.sign : Int) : Rat) = 1 := by rw [← Rat.intCast_mul, hsz]; rfl
    have hsi : ((z.sign : Int) : Rat)⁻¹ = ((z.sign : Int) : Rat) := by
      have hne : ((z.sign : Int) : Rat) ≠ 0 := fun e => by rw [e, Rat.mul_zero] at hss; exact absurd hss (by decide)
      calc ((z.sign : Int) : Rat)⁻¹ = ((z.sign : Int) : Rat)⁻¹ * (((z.sign : Int) : Rat) * ((z.sign : Int) : Rat)) := by rw [hss, Rat.mul_one]
        _ = ((z.sign : Int) : Rat) := by rw [← Rat.mul_assoc, Rat.inv_mul_cancel _ hne, Rat.one_mul]
    rw [h1, Rat.intCast_mul, Rat.div_def, Rat.div_def, Rat.inv_mul_rev, hsi]
    rw [Rat.mul_assoc ((y : Int) : Rat), ← Rat.mul_assoc ((z.sign : Int) : Rat), Rat.mul_comm ((z.sign : Int) : Rat) (_)⁻¹, Rat.mul_assoc (_)⁻¹, hss, Rat.mul_one]
  have h3 : z.natAbs ≠ 0 := by omega
  exact Fq.bt (D := z.natAbs) (M := M) ⟨y * z.sign, e2, by
    rw [Int.natAbs_mul]
    have : z.sign.natAbs ≤ 1 := by
      rcases Int.lt_trichotomy z 0 with h | h | h
      · rw [Int.sign_eq_neg_one_of_neg h]; decide
      · rw [h]; decide
      · rw [Int.sign_eq_one_of_pos h]; decide
    exact Nat.le_trans (Nat.mul_le_mul_left _ this) (by rw [Nat.mul_one]; exact hy)⟩ h3 hM (Nat.lt_of_le_of_lt hz hM)
theorem fac6 : ∀ n : _root_.Fin 7, fac n.val * 1200 ^ n.val < 2 ^ 72 := by decide
/-- An answer of a small system. -/
theorem ans_bt {n : Nat} {F : Nat → Nat → Rat} {b x : Nat → Rat} (hF : ∀ i j, i < n → j < n → Fq 60 1200 (F i j)) (hb : ∀ i, i < n → Fq 60 1200 (b i)) (hn : n ≤ 6) (hd : det n F ≠ 0) (hx : ∀ i, i < n → app n F x i = b i) {c : Nat} (hc : c < n) : Bt (x c) 72 := by
  have h1 := cramer n F x hc
  have h2 := det_fq (n := n) (F := cupd F c (app n F x)) fun i j hi hj => by
    by_cases e : j = c
    · subst e; rw [cupd_at, hx i hi]; exact hb i hi
    · rw [cupd_ne _ _ _ e]; exact hF i j hi hj
  have h3 := det_fq (n := n) (F := F) hF
  have e : x c = det n (cupd F c (app n F x)) / det n F := by
    rw [h1, Rat.div_def, Rat.mul_comm (det n F), Rat.mul_assoc, Rat.mul_inv_cancel _ hd, Rat.mul_one]
  rw [e]
  exact quo_bt h2 h3 hd (fac6 ⟨n, by omega⟩)
theorem ans_wt {n : Nat} {F : Nat → Nat → Rat} {b x : Nat → Rat} (hF : ∀ i j, i < n → j < n → Fq 60 1200 (F i j)) (hb : ∀ i, i < n → Fq 60 1200 (b i)) (hn : n ≤ 6) (hd : det n F ≠ 0) (hx : ∀ i, i < n → app n F x i = b i) {c : Nat} (hc : c < n) : Wt (x c) 3 :=
  (ans_bt hF hb hn hd hx hc).wt (by decide)
end Go.Proofs.YtddkocidfhaofaaGreat.AM
/- Systems: both ways walked. -/
namespace Go.Proofs.YtddkocidfhaofaaGreat.AM
open Go Go.RowKit Go.Proofs.YtddkocidfhaofaaGreat.PN Go.Proofs.YtddkocidfhaofaaGreat.V
open Go.Proofs.YtddkocidfhaofaaGreat.LA (S S_succ S_zero S_congr)
set_option linter.unusedVariables false
set_option linter.unusedSimpArgs false
set_option maxRecDepth 8000
set_option maxHeartbeats 8000000
theorem augb_wt {n K : Nat} {F : Nat → Nat → Rat} {b : Nat → Rat} [hf : ∀ i j, Wt (F i j) K] [hb : ∀ i, Wt (b i) K] (i j : Nat) : Wt (augb n F b i j) K := by
  unfold augb aug; split
  · exact hf i j
  · exact hb _
end Go.Proofs.YtddkocidfhaofaaGreat.AM

/- Joined texts, 22: LawY AmZb LawZ. -/
import Derived.Test.YtjngpgpgajkieaaJ21
import Derived.Test.YtjngpgpgajkieaaJ15
import Derived.Test.YtjngpgpgajkieaaJ20
set_option linter.unusedVariables false
set_option linter.unusedSimpArgs false
/- Laws of systems: GenLike, the plain law. -/
namespace Go.Proofs.Ytjngpgpgajkieaa.AM
open Go Go.RowKit Go.Proofs.Ytjngpgpgajkieaa.PN Go.Proofs.Ytjngpgpgajkieaa.V
open Go.Proofs.Ytjngpgpgajkieaa.LA (S S_succ S_zero S_congr S_null)
set_option linter.unusedVariables false
set_option linter.unusedSimpArgs false
set_option maxRecDepth 8000
set_option maxHeartbeats 8000000
def lf (i : Nat) : Rat := if i = 0 then 1 else 0
def lr (a : GD) (i : Nat) : Rat := if i = 0 then 0 else a.A (a.n - 1 - i)
/-- A Toeplitz matrix as one of displacement two. -/
def lkg (a : GD) : GD := ⟨6, a.n, 2, 0, 0, 2 * a.n, 2 * a.n, fun _ => 0, fun _ => 0, fun u => if u % 2 = 0 then a.A (u / 2 + a.n - 1) else lf (u / 2), fun u => if u % 2 = 0 then lf (u / 2) else lr a (u / 2)⟩
theorem lk_g0 (a : GD) (i : Nat) : (lkg a).G (2 * i) = a.A (i + a.n - 1) := by
  show (if 2 * i % 2 = 0 then _ else _) = _
  rw [if_pos (by omega), show 2 * i / 2 = i by omega]
theorem lk_g1 (a : GD) (i : Nat) : (lkg a).G (2 * i + 1) = lf i := by
  show (if (2 * i + 1) % 2 = 0 then _ else _) = _
  rw [if_neg (by omega), show (2 * i + 1) / 2 = i by omega]
theorem lk_h0 (a : GD) (i : Nat) : (lkg a).H (2 * i) = lf i := by
  show (if 2 * i % 2 = 0 then _ else _) = _
  rw [if_pos (by omega), show 2 * i / 2 = i by omega]
theorem lk_h1 (a : GD) (i : Nat) : (lkg a).H (2 * i + 1) = lr a i := by
  show (if (2 * i + 1) % 2 = 0 then _ else _) = _
  rw [if_neg (by omega), show (2 * i + 1) / 2 = i by omega]
theorem lf_wt (i : Nat) : wt (lf i) ≤ 1 := by
  unfold lf; split
  · decide
  · decide
theorem lr_wt {a : GD} (h : a.OK) (hk : a.k = 1) (i : Nat) : wt (lr a i) ≤ 4 := by
  have := (ok_lens h).1 (.inl hk); have n1 := h.n1
  unfold lr; split
  · decide
  · exact h.sm.A _ (by omega)
theorem lk_ok {a : GD} (h : a.OK) (hk : a.k = 1) : (lkg a).OK := by
  have hla := (ok_lens h).1 (.inl hk); have n1 := h.n1
  have em : ((2 * a.n : Nat) : Int) = 0 * (a.n : Int) + 1 * (a.n : Int) * ((2 : Nat) : Int) + 0 := by omega
  refine ⟨(by decide : 1 ≤ 6), (by decide : 6 ≤ 7), h.n1, h.n8, (by decide : 2 ≤ 3), fun _ => (by decide : 1 ≤ 2), (fun h => by cases h), fun i hi => ?_, ⟨fun i hi => absurd hi (Nat.not_lt_zero _), fun i hi => absurd hi (Nat.not_lt_zero _), fun u hu => ?_, fun u hu => ?_⟩, fun i hi => absurd hi (Nat.not_lt_zero _)⟩
  · have hi4 : i = 0 ∨ i = 1 ∨ i = 2 ∨ i = 3 := by omega
    rcases hi4 with rfl | rfl | rfl | rfl
    · exact len_of (k := 6) (i := 0) (n := a.n) (r := 2) (x := 0) (y := 0) (z := 0) (by decide) (by decide) (by decide) (by show ((0 : Nat) : Int) = _; simp)
    · exact len_of (k := 6) (i := 1) (n := a.n) (r := 2) (x := 0) (y := 0) (z := 0) (by decide) (by decide) (by decide) (by show ((0 : Nat) : Int) = _; simp)
    · exact len_of (k := 6) (i := 2) (n := a.n) (r := 2) (x := 0) (y := 1) (z := 0) (by decide) (by decide) (by decide) em
    · exact len_of (k := 6) (i := 3) (n := a.n) (r := 2) (x := 0) (y := 1) (z := 0) (by decide) (by decide) (by decide) em
  · have hu : u < 2 * a.n := hu
    show wt (if u % 2 = 0 then _ else _) ≤ 4
    split
    · exact h.sm.A _ (by omega)
    · exact Nat.le_trans (lf_wt _) (by decide)
  · show wt (if u % 2 = 0 then _ else _) ≤ 4
    split
    · exact Nat.le_trans (lf_wt _) (by decide)
    · exact lr_wt h hk _
theorem lk_dot (a : GD) (i j : Nat) : rdot (lkg a) i j = a.A (i + a.n - 1) * lf j + lf i * lr a j := by
  show S 2 (fun k => (lkg a).G (i * 2 + k) * (lkg a).H (j * 2 + k)) = _
  rw [S_succ, S_succ, S_zero, Rat.zero_add]
  show (lkg a).G (i * 2) * (lkg a).H (j * 2) + (lkg a).G (i * 2 + 1) * (lkg a).H (j * 2 + 1) = _
  rw [Nat.mul_comm i 2, Nat.mul_comm j 2, lk_g0, lk_g1, lk_h0, lk_h1]
theorem lk_ent {a : GD} (hk : a.k = 1) {i j : Nat} (hi : i < a.n) (hj : j < a.n) : gent (lkg a) i j = gent a i j := by
  have e : gent a i j = a.A (i + a.n - 1 - j) := by unfold gent; rw [hk]; rfl
  rw [e]
  show S (min i j + 1) (fun m => rdot (lkg a) (i - m) (j - m)) = _
  rw [S_succ, S_null (fun m hm => by
    show rdot (lkg a) (i - m) (j - m) = 0
    rw [lk_dot]; unfold lf; rw [if_neg (by omega), if_neg (by omega), Rat.mul_zero, Rat.zero_mul, Rat.add_zero]), Rat.zero_add]
  show rdot (lkg a) (i - min i j) (j - min i j) = _
  rw [lk_dot]
  by_cases h : j ≤ i
  · rw [show j - min i j = 0 by omega, show lf 0 = 1 from rfl, show lr a 0 = 0 from rfl, Rat.mul_one, Rat.mul_zero, Rat.add_zero]
    congr 1; omega
  · have e1 : lf (j - min i j) = 0 := if_neg (by omega)
    have e2 : lr a (j - min i j) = a.A (a.n - 1 - (j - min i j)) := if_neg (by omega)
    rw [e1, e2, show i - min i j = 0 by omega, show lf 0 = 1 from rfl, Rat.mul_zero, Rat.one_mul, Rat.zero_add]
    congr 1; omega
end Go.Proofs.Ytjngpgpgajkieaa.AM
/- Two slices that are gathered at a time. -/
namespace Go.Proofs.Ytjngpgpgajkieaa.AM
open Go Go.RowKit Go.Proofs.Ytjngpgpgajkieaa.PN Go.Proofs.Ytjngpgpgajkieaa.V
set_option linter.unusedVariables false
set_option linter.unusedSimpArgs false
abbrev acc2S (t1 t2 : Nat) (b1 b2 : Blk) (e : List (Nat × AV)) (l : List (Nat × Fam)) : St := stl ((t1, .own t1 0) :: (t2, .own t2 0) :: e) ((t1, (1, fun _ => b1)) :: (t2, (1, fun _ => b2)) :: l)
def s2 (t1 a1 t2 a2 : Nat) : Ren := fun g r => if g = t1 then (a1, r) else if g = t2 then (a2, r) else (g, r)
theorem s2_1 {t1 a1 t2 a2 r : Nat} : s2 t1 a1 t2 a2 t1 r = (a1, r) := by unfold s2; rw [if_pos rfl]
theorem s2_2 {t1 a1 t2 a2 r : Nat} (h : t2 ≠ t1) : s2 t1 a1 t2 a2 t2 r = (a2, r) := by unfold s2; rw [if_neg h, if_pos rfl]
theorem s2_ne {t1 a1 t2 a2 g r : Nat} (h : g ≠ t1) (h' : g ≠ t2) : s2 t1 a1 t2 a2 g r = (g, r) := by unfold s2; rw [if_neg h, if_neg h']
theorem s2_inj {t1 a1 t2 a2 : Nat} {l : List Nat} (ht : t2 ≠ t1) (ha : a1 ≠ a2) (h1 : notIn t1 a1 l = true) (h2 : notIn t2 a2 l = true) (g1 r1 g2 r2 : Nat) (k1 : memN g1 (t1 :: t2 :: l) = true) (k2 : memN g2 (t1 :: t2 :: l) = true) (e : s2 t1 a1 t2 a2 g1 r1 = s2 t1 a1 t2 a2 g2 r2) : g1 = g2 ∧ r1 = r2 := by
  have key : ∀ g, memN g (t1 :: t2 :: l) = true → g = t1 ∨ g = t2 ∨ (memN g l = true ∧ (g ≠ t1 ∧ g ≠ a1) ∧ g ≠ t2 ∧ g ≠ a2) := fun g h => by
    rcases memN_uncons h with h | h
    · exact .inl h
    · rcases memN_uncons h with h | h
      · exact .inr (.inl h)
      · exact .inr (.inr ⟨h, notIn_ne h1 _ h, notIn_ne h2 _ h⟩)
  rcases key g1 k1 with rfl | rfl | ⟨_, m1, m2⟩ <;> rcases key g2 k2 with rfl | rfl | ⟨_, n1, n2⟩
  · rw [s2_1, s2_1] at e; cases e; exact ⟨rfl, rfl⟩
  · rw [s2_1, s2_2 ht] at e; cases e; exact absurd rfl ha
  · rw [s2_1, s2_ne n1.1 n2.1] at e; cases e; exact absurd rfl n1.2
  · rw [s2_1, s2_2 ht] at e; cases e; exact absurd rfl ha
  · rw [s2_2 ht, s2_2 ht] at e; cases e; exact ⟨rfl, rfl⟩
  · rw [s2_2 ht, s2_ne n1.1 n2.1] at e; cases e; exact absurd rfl n2.2
  · rw [s2_1, s2_ne m1.1 m2.1] at e; cases e; exact absurd rfl m1.2
  · rw [s2_2 ht, s2_ne m1.1 m2.1] at e; cases e; exact absurd rfl m2.2
  · rw [s2_ne n1.1 n2.1, s2_ne m1.1 m2.1] at e; cases e; exact ⟨rfl, rfl⟩
theorem blk_id (b : Blk) : BLe idR b b := by
  cases b with
  | rats n f => exact blen rfl fun _ _ => rfl
  | ones T n f => exact bleo rfl fun _ _ => Le.id rfl
theorem nilB_ok {b : Blk} (h : nilB b) (U : Nat → Bool) : b.ok U := by
  cases b with
  | rats n f => exact True.intro
  | ones T n f => exact fun i hi => by have := h.2; omega
/-- The state with two slices of nothing. -/
abbrev two0 (s : St) (t1 t2 : Nat) (b1 b2 : Blk) : St := ⟨put (put s.env t1 (some (.own t1 0))) t2 (some (.own t2 0)), put (put s.heap t1 (some (1, fun _ => b1))) t2 (some (1, fun _ => b2)), mark (mark s.used t1) t2⟩
theorem acc2_start {s : St} {t1 t2 : Nat} {b1 b2 : Blk} {e : List (Nat × AV)} {l : List (Nat × Fam)} (h1 : s.env t1 = some (.v (.slice none 0 0))) (h2 : s.env t2 = some (.v (.slice none 0 0))) (g1 : s.used t1 = false) (g2 : s.used t2 = false) (n1 : nilB b1) (n2 : nilB b2) (h60 : s.used 60 = false) (hne : t2 ≠ t1 ∧ t1 ≠ 60 ∧ t2 ≠ 60)
    (he : AllE (two0 s t1 t2 b1 b2) idR (fun g => memN g (t1 :: t2 :: keys l)) e) (hl : AllH (two0 s t1 t2 b1 b2) idR (fun g => memN g (t1 :: t2 :: keys l)) l) : Imp s (acc2S t1 t2 b1 b2 e l) := by
  obtain ⟨h21, h1n, h2n⟩ := hne
  refine (imp_nil t1 t1 b1 h1 g1 n1).trans ((imp_nil t2 t2 b2 ((put_ne _ _ h21).trans h2) ((mark_ne _ h21).trans g2) n2).trans (imp_id (h := (t1, (1, fun _ => b1)) :: (t2, (1, fun _ => b2)) :: l) ⟨⟨_, (put_ne _ _ (Ne.symm h21)).trans (put_same _ _ _), Le.id rfl, memN_head _ _⟩, ⟨_, put_same _ _ _, Le.id rfl, memN_tail (memN_head _ _)⟩, he⟩ ⟨fun r hr => ?_, fun r hr => ?_, hl⟩ ?_))
  · obtain rfl : r = 0 := by omega
    exact ⟨1, _, (put_ne _ _ (Ne.symm h21)).trans (put_same _ _ _), Nat.zero_lt_one, blk_id b1, nilB_ok n1 _⟩
  · obtain rfl : r = 0 := by omega
    exact ⟨1, _, put_same _ _ _, Nat.zero_lt_one, blk_id b2, nilB_ok n2 _⟩
  · show (!(mark (mark s.used t1) t2 60) || _) = true
    rw [mark_ne _ (Ne.symm h2n), mark_ne _ (Ne.symm h1n), h60]; rfl
theorem acc2_next {s : St} {t1 a1 t2 a2 : Nat} {b1 b1' b2 b2' : Blk} {F1 F2 : Nat → Blk} {e : List (Nat × AV)} {l : List (Nat × Fam)} (h1 : s.env t1 = some (.own a1 0)) (h2 : s.env t2 = some (.own a2 0)) (k1 : s.heap a1 = some (1, F1)) (k2 : s.heap a2 = some (1, F2)) (e1 : F1 0 = b1') (e2 : F2 0 = b2') (hb1 : BLe (s2 t1 a1 t2 a2) b1' b1) (hb2 : BLe (s2 t1 a1 t2 a2) b2' b2)
    (o1 : b1.ok (fun _ => false)) (o2 : b2.ok (fun _ => false)) (h60 : s.used 60 = false) (hne : t2 ≠ t1 ∧ a1 ≠ a2) (n1 : notIn t1 a1 (keys l) = true) (n2 : notIn t2 a2 (keys l) = true)
    (he : AllE s (s2 t1 a1 t2 a2) (fun g => memN g (t1 :: t2 :: keys l)) e) (hl : AllH s (s2 t1 a1 t2 a2) (fun g => memN g (t1 :: t2 :: keys l)) l) : Imp s (acc2S t1 t2 b1 b2 e l) := by
  refine imp_stl (h := (t1, (1, fun _ => b1)) :: (t2, (1, fun _ => b2)) :: l) (s2 t1 a1 t2 a2) (fun h => by rw [h60] at h; cases h) (s2_inj hne.1 hne.2 n1 n2) ⟨⟨_, h1, Le.own s2_1, memN_head _ _⟩, ⟨_, h2, Le.own (s2_2 hne.1), memN_tail (memN_head _ _)⟩, he⟩ ⟨fun r hr => ?_, fun r hr => ?_, hl⟩ (by rw [h60]; rfl)
  · obtain rfl : r = 0 := by omega
    rw [s2_1]
    exact ⟨1, F1, k1, Nat.zero_lt_one, by rw [e1]; exact hb1, Blk.ok_mono (fun g h => by cases h) o1⟩
  · obtain rfl : r = 0 := by omega
    rw [s2_2 hne.1]
    exact ⟨1, F2, k2, Nat.zero_lt_one, by rw [e2]; exact hb2, Blk.ok_mono (fun g h => by cases h) o2⟩
/-- The block behind a row that is laid into it. -/
theorem pub_blk {σ : Ren} {k m m' : Nat} {f v : Nat → AV} {q w : Nat → RA} (hf : ∀ i, i < k → f i = v i) (hq : ∀ j, j < m → q j = w j) (hv : v k = .row true m' w) (hm : m = m') (hok : ∀ i, (v i).ok (fun _ => false)) : BLe σ (.ones WT (k + 1) (updN f k (.row true m q))) (.ones WT (k + 1) v) := by
  refine bleo rfl fun i hi => ?_
  by_cases c : i = k
  · subst c
    rw [updN_same, hv]
    exact Le.row hm hq fun h => h
  · rw [updN_ne _ _ c, hf i (by omega)]
    exact Le.same (hok i)
end Go.Proofs.Ytjngpgpgajkieaa.AM
/- Laws of systems: GenLike, walked. -/
namespace Go.Proofs.Ytjngpgpgajkieaa.AM
open Go Go.RowKit Go.Proofs.Ytjngpgpgajkieaa.PN Go.Proofs.Ytjngpgpgajkieaa.V
open Go.Proofs.Ytjngpgpgajkieaa.LA (S S_succ S_zero S_congr)
set_option linter.unusedVariables false
set_option linter.unusedSimpArgs false
set_option maxRecDepth 8000
set_option maxHeartbeats 8000000
theorem fld2_next {s : St} {t1 a1 t2 a2 : Nat} {b1 b1' b2 b2' : Blk} {F1 F2 : Nat → Blk} {e : List (Nat × AV)} {l : List (Nat × Fam)} (k1 : s.heap a1 = some (1, F1)) (k2 : s.heap a2 = some (1, F2)) (e1 : F1 0 = b1') (e2 : F2 0 = b2') (hb1 : BLe (s2 t1 a1 t2 a2) b1' b1) (hb2 : BLe (s2 t1 a1 t2 a2) b2' b2)
    (o1 : b1.ok (fun _ => false)) (o2 : b2.ok (fun _ => false)) (h60 : s.used 60 = false) (hne : t2 ≠ t1 ∧ a1 ≠ a2) (n1 : notIn t1 a1 (keys l) = true) (n2 : notIn t2 a2 (keys l) = true)
    (he : AllE s (s2 t1 a1 t2 a2) (fun g => memN g (t1 :: t2 :: keys l)) e) (hl : AllH s (s2 t1 a1 t2 a2) (fun g => memN g (t1 :: t2 :: keys l)) l) : Imp s (stl e ((t1, (1, fun _ => b1)) :: (t2, (1, fun _ => b2)) :: l)) := by
  refine imp_stl (h := (t1, (1, fun _ => b1)) :: (t2, (1, fun _ => b2)) :: l) (s2 t1 a1 t2 a2) (fun h => by rw [h60] at h; cases h) (s2_inj hne.1 hne.2 n1 n2) he ⟨fun r hr => ?_, fun r hr => ?_, hl⟩ (by rw [h60]; rfl)
  · obtain rfl : r = 0 := by omega
    rw [s2_1]
    exact ⟨1, F1, k1, Nat.zero_lt_one, by rw [e1]; exact hb1, Blk.ok_mono (fun g h => by cases h) o1⟩
  · obtain rfl : r = 0 := by omega
    rw [s2_2 hne.1]
    exact ⟨1, F2, k2, Nat.zero_lt_one, by rw [e2]; exact hb2, Blk.ok_mono (fun g h => by cases h) o2⟩
theorem glue_two {σ : Ren} {k n m : Nat} {v f : Nat → RA} (hn : n = k + 2) (hm : m = k + 2) (h0 : f 0 = v k) (h1 : f 1 = v (k + 1)) : BLe σ (.rats n (glue k v f)) (.rats m v) := by
  subst hn; subst hm
  refine blen rfl fun i hi => ?_
  unfold glue
  by_cases e : i < k
  · rw [if_pos e]
  · rw [if_neg e]
    by_cases e2 : i = k
    · subst e2; rw [Nat.sub_self, h0]
    · obtain rfl : i = k + 1 := by omega
      rw [show k + 1 - k = 1 by omega, h1]
def xf (n : Nat) (x y : AV) (i : Nat) : AV := [AV.i 6, .i n, .i 2, nilS, nilS, x, y].getD i (.v undef)
theorem xf_ok {n : Nat} {x y : AV} {U : Nat → Bool} (hx : x.ok U) (hy : y.ok U) : ∀ i, (xf n x y i).ok U
  | 0 | 1 | 2 | 3 | 4 => trivial
  | 5 => hx
  | 6 => hy
  | _ + 7 => trivial
def linL (a : GD) (E : List (Nat × AV)) : Nat → St
  | 0 => stl E [(5, (1, fun _ => .ones 24 7 a.ft)), (7, (1, fun _ => .ones 24 7 (xf a.n nilS nilS)))]
  | k + 1 => stl E [(70, (1, fun _ => .rats (2 * (k + 1)) fun i => .q ((lkg a).G i))), (71, (1, fun _ => .rats (2 * (k + 1)) fun i => .q ((lkg a).H i))), (5, (1, fun _ => .ones 24 7 a.ft)), (7, (1, fun _ => .ones 24 7 (xf a.n (.own 70 0) (.own 71 0))))]
theorem lk_args {a : GD} {S : Nat → Prop} {B : Nat} {β : Nat → Nat → Value} {w : World} {u : Nat → AV} (h0 : u 0 = .i 6) (h1 : u 1 = .i a.n) (h2 : u 2 = .i 2) (h3 : u 3 = nilS) (h4 : u 4 = nilS) (h5 : u 5 = (lkg a).f 5) (h6 : u 6 = (lkg a).f 6) : ∀ i, i < 7 → ∀ v, RV S B β w (u i) v → RV S B β w ((lkg a).f i) v := by
  intro i hi v hv
  match i, hi with
  | 0, _ => rw [h0] at hv; exact hv
  | 1, _ => rw [h1] at hv; exact hv
  | 2, _ => rw [h2] at hv; exact hv
  | 3, _ => rw [h3] at hv; exact rv_nil0 v hv
  | 4, _ => rw [h4] at hv; exact rv_nil0 v hv
  | 5, _ => rw [h5] at hv; exact hv
  | 6, _ => rw [h6] at hv; exact hv
theorem k_like {n : Int} {zs : List Int} (hn : Fits .i64 n) (hz : AllFit zs) : Has Try.prog 8 [.i n, .seq .i64 zs] (.b true) := by
  have m := k_mk (kind := 0) (n := n) (most := 6) (zs := zs) (by show _ ∧ _; omega) hn hz (by decide) (by decide)
  have o := mkg_ok (kind := 0) (n := n) (zs := zs) (most := 6) (by decide) (by decide)
  have hk : (mkg 0 n zs 6).k = 1 := by show mkK 0 = 1; decide
  generalize mkg 0 n zs 6 = a at *
  have n8 := o.n8; have n1 := o.n1
  have ol := lk_ok o hk
  have hla := (ok_lens o).1 (.inl hk)
  have wl : ∀ i, i < a.n → ∀ j, j < a.n → wt (gent (lkg a) i j) ≤ 300 := fun i hi j hj => gent_wt ol hi hj
  have call := k_allb (n := a.n) (m := a.n) (F := gent (lkg a)) (G := gent a) wl (by omega) (by omega) fun i hi j hj => lk_ent hk hi hj
  refine has_of Try.func8 (by kernel_rfl) rfl Try.ntmps8 Try.results8 rfl rfl rfl ?_
  repeat(first|refine run1p ?_|((with_reducible apply st_call);exact rfl;exact rfl;exact rfl;first|(exact k_known5))|((with_reducible apply st_callg);exact rfl;exact rfl;(first|exact rfl|assumption);exact rfl;exact rfl;exact rfl;first|(exact k_known5)))
  refine awp_no rfl rfl ?_
  repeat(first|refine run1p ?_|((with_reducible apply st_call);exact rfl;exact rfl;exact rfl;first|(exact m))|((with_reducible apply st_callg);exact rfl;exact rfl;(first|exact rfl|assumption);exact rfl;exact rfl;exact rfl;first|(exact m)))
  refine awp_bjoin (stl [(5, .ptr 5 0 0), (7, .ptr 7 0 0)] [(5, (1, fun _ => .ones 24 7 a.ft)), (7, (1, fun _ => .ones 24 7 (xf a.n (.row true (2 * a.n) fun i => .q ((lkg a).G i)) (.row true (2 * a.n) fun i => .q ((lkg a).H i)))))]) (awp_loop (fun m' s => ∃ k, k ≤ a.n ∧ m' = a.n - k ∧ s = linL a [(5, .ptr 5 0 0), (6, .i a.n), (7, .ptr 7 0 0), (8, .i (k : Int))] k) a.n _ (imp_id (e := [(5, .ptr 5 0 0), (6, .i a.n), (7, .ptr 7 0 0), (8, .i ((0 : Nat) : Int))]) (h := [(5, (1, fun _ => .ones 24 7 a.ft)), (7, (1, fun _ => .ones 24 7 (xf a.n nilS nilS)))]) ?_ ?_) ⟨0, Nat.zero_le _, rfl, rfl⟩ ?_) ?_
  · exact eA
  · exact allh rfl (by decide) (bleo rfl fun _ _ => Le.id rfl) (fun i _ => a.ftok _ i) (allh rfl (by decide) (ble7 rfl rfl rfl rfl rfl rfl rfl) (fun i _ => xf_ok (x := nilS) (y := nilS) True.intro True.intro i) True.intro)
  · rintro m' s ⟨k, hk', rfl, rfl⟩
    rcases k with _ | k
    · refine run0p ?_
      refine awp_if rfl (fun h => ?_) (fun h => ?_)
      · have h : 0 < a.n := by omega
        have w1 := o.sm.A (a.n - 1 - 0) (by omega)
        have w2 := o.sm.A (0 + a.n - 1) (by omega)
        have e1 : ((a.n : Int) - 1 - ((0 : Nat) : Int)).toNat = a.n - 1 - 0 := by omega
        have e2 : (((0 : Nat) : Int) + (a.n : Int) - 1).toNat = 0 + a.n - 1 := by omega
        repeat(first|refine run1p ?_|((with_reducible apply st_call);exact rfl;exact rfl;exact rfl;first|(exact hs_zero))|((with_reducible apply st_callg);exact rfl;exact rfl;(first|exact rfl|assumption);exact rfl;exact rfl;exact rfl;first|(exact hs_zero)))
        rw [e1]
        repeat(first|refine run1p ?_|((with_reducible apply st_call);exact rfl;exact rfl;exact rfl;first|(exact hs_zero)|(exact k_copy (by omega)))|((with_reducible apply st_callg);exact rfl;exact rfl;(first|exact rfl|assumption);exact rfl;exact rfl;exact rfl;first|(exact hs_zero)|(exact k_copy (by omega))))
        refine awp_yes rfl rfl ?_
        repeat(first|refine run1p ?_|((with_reducible apply st_call);exact rfl;exact rfl;exact rfl;first|(exact hs_int 1 (by decide) (by decide))|(exact hs_zero))|((with_reducible apply st_callg);exact rfl;exact rfl;(first|exact rfl|assumption);exact rfl;exact rfl;exact rfl;first|(exact hs_int 1 (by decide) (by decide))|(exact hs_zero)))
        rw [e2]
        repeat(first|refine run1p ?_|((with_reducible apply st_call);exact rfl;exact rfl;exact rfl;first|(exact k_copy (by omega))|(exact k_copy (by decide)))|((with_reducible apply st_callg);exact rfl;exact rfl;(first|exact rfl|assumption);exact rfl;exact rfl;exact rfl;first|(exact k_copy (by omega))|(exact k_copy (by decide))))
        refine q_loop (m' := a.n - (0 + 1)) (by omega) (fld2_next (t1 := 70) (a1 := 52) (t2 := 71) (a2 := 1060) rfl rfl rfl rfl (blen rfl fun i hi => ?_) (blen rfl fun i hi => ?_) (by exact True.intro) (by exact True.intro) rfl (by decide) rfl rfl ?_ ?_) ⟨0 + 1, by omega, rfl, rfl⟩
        · match i, hi with
          | 0, _ => exact congrArg RA.q (lk_g0 a 0).symm
          | 1, _ => exact congrArg RA.q (lk_g1 a 0).symm
        · match i, hi with
          | 0, _ => exact congrArg RA.q (lk_h0 a 0).symm
          | 1, _ => exact congrArg RA.q (lk_h1 a 0).symm
        · refine alle rfl (Le.ptr (s2_ne (by decide) (by decide))) rfl (alle rfl (Le.eq rfl rfl) True.intro (alle rfl (Le.ptr (s2_ne (by decide) (by decide))) rfl (alle rfl (Le.eq rfl rfl) True.intro True.intro)))
        · exact allh rfl Nat.zero_lt_one a.le_ft (fun i _ => a.ftok _ i) (allh rfl Nat.zero_lt_one (le7 (Le.eq rfl rfl) (Le.eq rfl rfl) (Le.eq rfl rfl) (Le.eq rfl rfl) (Le.eq rfl rfl) (Le.own s2_1) (Le.own (s2_2 (by decide)))) (fun i _ => xf_ok (x := .own 70 0) (y := .own 71 0) (by exact rfl) (by exact rfl) i) True.intro)
      · omega
    · refine run0p ?_
      refine awp_if rfl (fun h => ?_) (fun h => ?_)
      · have h : k + 1 < a.n := by omega
        have w1 := o.sm.A (a.n - 1 - (k + 1)) (by omega)
        have w2 := o.sm.A (k + 1 + a.n - 1) (by omega)
        have e1 : ((a.n : Int) - 1 - ((k + 1 : Nat) : Int)).toNat = a.n - 1 - (k + 1) := by omega
        have e2 : (((k + 1 : Nat) : Int) + (a.n : Int) - 1).toNat = k + 1 + a.n - 1 := by omega
        repeat(first|refine run1p ?_|((with_reducible apply st_call);exact rfl;exact rfl;exact rfl;first|(exact hs_zero))|((with_reducible apply st_callg);exact rfl;exact rfl;(first|exact rfl|assumption);exact rfl;exact rfl;exact rfl;first|(exact hs_zero)))
        rw [e1]
        repeat(first|refine run1p ?_|((with_reducible apply st_call);exact rfl;exact rfl;exact rfl;first|(exact hs_zero)|(exact k_copy (by omega)))|((with_reducible apply st_callg);exact rfl;exact rfl;(first|exact rfl|assumption);exact rfl;exact rfl;exact rfl;first|(exact hs_zero)|(exact k_copy (by omega))))
        refine awp_no rfl (decide_eq_false (by omega)) ?_
        refine run0p ?_
        rw [e2]
        repeat(first|refine run1p ?_|((with_reducible apply st_call);exact rfl;exact rfl;exact rfl;first|(exact k_copy (by omega))|(exact k_copy (by decide)))|((with_reducible apply st_callg);exact rfl;exact rfl;(first|exact rfl|assumption);exact rfl;exact rfl;exact rfl;first|(exact k_copy (by omega))|(exact k_copy (by decide))))
        refine q_loop (m' := a.n - (k + 1 + 1)) (by omega) (fld2_next (t1 := 70) (a1 := 52) (t2 := 71) (a2 := 1060) rfl rfl rfl rfl (glue_two rfl rfl (congrArg RA.q (lk_g0 a (k + 1)).symm) (congrArg RA.q (lk_g1 a (k + 1)).symm)) (glue_two rfl rfl (congrArg RA.q (lk_h0 a (k + 1)).symm) (congrArg RA.q (lk_h1 a (k + 1)).symm)) (by exact True.intro) (by exact True.intro) rfl (by decide) rfl rfl ?_ ?_) ⟨k + 1 + 1, by omega, rfl, rfl⟩
        · refine alle rfl (Le.ptr (s2_ne (by decide) (by decide))) rfl (alle rfl (Le.eq rfl rfl) True.intro (alle rfl (Le.ptr (s2_ne (by decide) (by decide))) rfl (alle rfl (Le.eq rfl rfl) True.intro True.intro)))
        · exact allh rfl Nat.zero_lt_one a.le_ft (fun i _ => a.ftok _ i) (allh rfl Nat.zero_lt_one (le7 (Le.eq rfl rfl) (Le.eq rfl rfl) (Le.eq rfl rfl) (Le.eq rfl rfl) (Le.eq rfl rfl) (Le.own s2_1) (Le.own (s2_2 (by decide)))) (fun i _ => xf_ok (x := .own 70 0) (y := .own 71 0) (by exact rfl) (by exact rfl) i) True.intro)
      · have h0 : 2 * (k + 1) = 2 * a.n := by omega
        refine run0p ?_
        refine ⟨rfl, (imp_pub 7 5 rfl rfl (by decide) rfl rfl rfl (by decide)).trans ((imp_pub 7 6 rfl rfl (by decide) rfl rfl rfl (by decide)).trans (imp_id ?_ ?_))⟩
        · exact eA
        · exact allh rfl (by decide) (bleo rfl fun _ _ => Le.id rfl) (fun i _ => a.ftok _ i) (allh rfl (by decide) (le7 (Le.id rfl) (Le.id rfl) (Le.id rfl) (Le.id rfl) (Le.id rfl) (Le.row h0 (fun _ _ => rfl) fun h => h) (Le.row h0 (fun _ _ => rfl) fun h => h)) (fun i _ => xf_ok (x := .row true (2 * a.n) fun i => .q ((lkg a).G i)) (y := .row true (2 * a.n) fun i => .q ((lkg a).H i)) True.intro True.intro i) True.intro)
  repeat(first|refine run1p ?_|((with_reducible apply st_call);exact rfl;exact rfl;exact rfl;first|(exact Has.agv (fun S B β w => lk_args rfl rfl rfl rfl rfl rfl rfl) (g_check ol))|(exact Has.agv (fun S B β w => lk_args rfl rfl rfl rfl rfl rfl rfl) (ge_expand ol))|(exact Has.ag (u' := a.f) (g7 rfl rfl rfl rfl rfl rfl rfl) (ge_expand (g := a) o))|(exact call))|((with_reducible apply st_callg);exact rfl;exact rfl;(first|exact rfl|assumption);exact rfl;exact rfl;exact rfl;first|(exact Has.agv (fun S B β w => lk_args rfl rfl rfl rfl rfl rfl rfl) (g_check ol))|(exact Has.agv (fun S B β w => lk_args rfl rfl rfl rfl rfl rfl rfl) (ge_expand ol))|(exact Has.ag (u' := a.f) (g7 rfl rfl rfl rfl rfl rfl rfl) (ge_expand (g := a) o))|(exact call)))
  exact ⟨.inr rfl, _, Imp.refl _, .one (.tmp rfl)⟩
end Go.Proofs.Ytjngpgpgajkieaa.AM

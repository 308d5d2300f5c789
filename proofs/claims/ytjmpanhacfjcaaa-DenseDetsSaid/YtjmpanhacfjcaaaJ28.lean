/- Joined texts, 28: PBits AmZ LawI. -/
import Derived.Test.YtjmpanhacfjcaaaJ27
import Derived.Test.YtjmpanhacfjcaaaJ26
import Derived.Test.YtjmpanhacfjcaaaJ22
/- How long numbers are, by bits: while the steps are done. -/
namespace Go.Proofs.Ytjmpanhacfjcaaa.AM
open Go.Proofs.Ytjmpanhacfjcaaa.PN
open Go.Proofs.Ytjmpanhacfjcaaa.LA (S S_succ S_zero S_congr)
set_option linter.unusedVariables false
set_option linter.unusedSimpArgs false
class Bt (q : Rat) (k : outParam Nat) : Prop where
  n : nm q < 2 ^ k
  d : q.den < 2 ^ k
theorem Bt.mono {q : Rat} {a b : Nat} (h : Bt q a) (k : a ≤ b) : Bt q b :=
  ⟨Nat.lt_of_lt_of_le h.n (Nat.pow_le_pow_right (by decide) k), Nat.lt_of_lt_of_le h.d (Nat.pow_le_pow_right (by decide) k)⟩
theorem Bt.of_mk {n d k : Nat} (s : Bool) (hd : d ≠ 0) (h1 : n < 2 ^ k) (h2 : d < 2 ^ k) : Bt (PN.mk s n d) k :=
  ⟨by rw [mk_num s hd]; exact Nat.lt_of_le_of_lt (Nat.div_le_self _ _) h1, by rw [mk_den s hd]; exact Nat.lt_of_le_of_lt (Nat.div_le_self _ _) h2⟩
theorem lt_mul {x y a b : Nat} (h : x < 2 ^ a) (k : y < 2 ^ b) : x * y < 2 ^ (a + b) := by rw [Nat.pow_add]; exact Nat.mul_lt_mul'' h k
instance Bt.mul {p q : Rat} {a b : Nat} [h : Bt p a] [k : Bt q b] : Bt (p * q) (a + b) := by
  rw [mul_parts]
  exact Bt.of_mk _ (Nat.mul_ne_zero (den_ne p) (den_ne q)) (lt_mul h.n k.n) (lt_mul h.d k.d)
theorem Bt.pos {q : Rat} {a : Nat} (h : Bt q a) : 0 < a := by
  rcases Nat.eq_zero_or_pos a with rfl | h0
  · have := h.d; have := q.den_pos; omega
  · exact h0
instance Bt.zero : Bt 0 1 := ⟨by decide, by decide⟩
instance Bt.one : Bt 1 1 := ⟨by decide, by decide⟩
instance Bt.div {p q : Rat} {a b : Nat} [h : Bt p a] [k : Bt q b] : Bt (p / q) (a + b) := by
  by_cases e : q = 0
  · rw [e, Rat.div_def, Rat.inv_zero, Rat.mul_zero]
    exact Bt.zero.mono (by have := h.pos; omega)
  · rw [div_parts p q e]
    exact Bt.of_mk _ (Nat.mul_ne_zero (den_ne p) (fun e' => e (nm_eq_zero.1 e'))) (lt_mul h.n k.d) (lt_mul h.d k.n)
instance Bt.add {p q : Rat} {a b : Nat} [h : Bt p a] [k : Bt q b] : Bt (p + q) (a + b + 1) := by
  have h1 := lt_mul h.n k.d
  have h2 : nm q * p.den < 2 ^ (a + b) := by rw [Nat.add_comm]; exact lt_mul k.n h.d
  have h3 := lt_mul h.d k.d
  have hp : 2 ^ (a + b + 1) = 2 ^ (a + b) * 2 := Nat.pow_succ ..
  have hd := Nat.mul_ne_zero (den_ne p) (den_ne q)
  by_cases e : ng p = ng q
  · rw [add_parts_same p q e]; exact Bt.of_mk _ hd (by omega) (by omega)
  · rcases Nat.le_total (nm q * p.den) (nm p * q.den) with hle | hle
    · rw [add_parts_ge p q e hle]; exact Bt.of_mk _ hd (by omega) (by omega)
    · rw [add_parts_lt p q e hle]; exact Bt.of_mk _ hd (by omega) (by omega)
instance Bt.neg {p : Rat} {a : Nat} [h : Bt p a] : Bt (-p) a := ⟨by rw [neg_nm]; exact h.n, by rw [neg_den]; exact h.d⟩
instance Bt.sub {p q : Rat} {a b : Nat} [h : Bt p a] [k : Bt q b] : Bt (p - q) (a + b + 1) := by
  rw [Rat.sub_eq_add_neg]; exact inferInstance
theorem Bt.wt {q : Rat} {k X : Nat} (h : Bt q k) (hX : k / 32 + 1 ≤ X) : Wt q X := by
  have hB : 2 ^ k ≤ B ^ (k / 32 + 1) := by
    rw [show B ^ (k / 32 + 1) = 2 ^ (32 * (k / 32 + 1)) by rw [Nat.pow_mul]]
    exact Nat.pow_le_pow_right (by decide) (by omega)
  refine ⟨Nat.le_trans ?_ hX⟩
  have h1 := (lt_iff (nm q) _).1 (Nat.lt_of_lt_of_le h.n hB)
  have h2 := (lt_iff q.den _).1 (Nat.lt_of_lt_of_le h.d hB)
  unfold PN.wt
  omega
/-- How many bits numbers have when a pivots are found. -/
def gb (n K a : Nat) : Nat := 4 ^ (min a (n - 1)) * (K + 1)
theorem gb_pos (n K a : Nat) : K + 1 ≤ gb n K a := Nat.le_mul_of_pos_left _ (Nat.pow_pos (by decide))
theorem gb_last {n K a : Nat} (h : ¬ a + 1 ≤ n - 1) : gb n K (a + 1) = gb n K a ∨ a + 1 ≤ n - 1 := by
  unfold gb
  exact .inl (by rw [show min (a + 1) (n - 1) = min a (n - 1) by omega])
theorem gb_step {n K a : Nat} (h : a + 1 ≤ n - 1) : gb n K (a + 1) = 4 * gb n K a := by
  unfold gb
  rw [show min (a + 1) (n - 1) = min a (n - 1) + 1 by omega, Nat.pow_succ]
  ac_rfl
structure EB (n K : Nat) (s : ES) : Prop where
  A : ∀ i j, Bt (s.A i j) (gb n K s.at' - 1)
  d : Bt s.d (3 * gb n K s.at')
  d' : s.at' < n → Bt s.d (2 * gb n K s.at')
theorem det1_bt {d : Rat} {X i j : Nat} [h : Bt d X] : Bt (det1 d i j) X := by
  unfold det1; split
  · exact h
  · exact inferInstance
theorem stp_eb {n m c K : Nat} {s : ES} (hn : 0 < n) (h : EB n K s) : EB n K (stp n m false s c) := by
  unfold stp
  split
  · rename_i hi
    obtain ⟨h1, h2, _, _⟩ := fnd_le (fun i => s.A (s.π i) c ≠ 0) (n - s.at') s.at'
    generalize fnd (fun i => s.A (s.π i) c ≠ 0) (n - s.at') s.at' = i0 at *
    have han : s.at' < n := by omega
    have w1 := det1_bt (i := i0) (j := s.at') (h := h.d' han)
    have w2 := h.A (s.π i0) c
    have hp := gb_pos n K s.at'
    have w3 := Bt.mul (h := w1) (k := w2)
    by_cases hl : s.at' + 1 ≤ n - 1
    · have e := gb_step (K := K) hl
      refine ⟨fun i j => ?_, w3.mono ?_, fun _ => w3.mono ?_⟩
      · show Bt (cln _ _ _ _ _ _ _ i j) (gb n K (s.at' + 1) - 1)
        rw [e]
        unfold cln
        split
        · have hA := h.A
          exact (inferInstance : Bt (s.A i j - s.A i c / s.A (swp s.π i0 s.at' s.at') c * s.A (swp s.π i0 s.at' s.at') j) _).mono (by omega)
        · exact (h.A i j).mono (by omega)
      · show _ ≤ 3 * gb n K (s.at' + 1); omega
      · show _ ≤ 2 * gb n K (s.at' + 1); omega
    · have e : gb n K (s.at' + 1) = gb n K s.at' := (gb_last hl).resolve_right hl
      refine ⟨fun i j => ?_, w3.mono ?_, fun hlt => ?_⟩
      · show Bt (cln _ _ _ _ _ _ _ i j) (gb n K (s.at' + 1) - 1)
        rw [e]
        unfold cln
        rw [if_neg]
        · exact h.A i j
        · rintro ⟨⟨k, h3, h4, _⟩, _⟩
          rcases h4 with h4 | ⟨h4, _⟩
          · omega
          · cases h4
      · show _ ≤ 3 * gb n K (s.at' + 1); omega
      · have hlt : s.at' + 1 < n := hlt
        omega
  · exact h
theorem stps_eb {n m K : Nat} {A : Nat → Nat → Rat} (hn : 0 < n) (hK : 1 ≤ K) [hA : ∀ i j, Bt (A i j) K] : ∀ c, EB n K (stps n m false A c)
  | 0 => by
    have e : gb n K 0 = K + 1 := by unfold gb; rw [Nat.zero_min, Nat.pow_zero, Nat.one_mul]
    have h1 : Bt (1 : Rat) 1 := inferInstance
    refine ⟨fun i j => ?_, ?_, fun _ => ?_⟩
    · show Bt (A i j) (gb n K 0 - 1); rw [e]; exact hA i j
    · show Bt (1 : Rat) (3 * gb n K 0); rw [e]; exact h1.mono (by omega)
    · show Bt (1 : Rat) (2 * gb n K 0); rw [e]; exact h1.mono (by omega)
  | c + 1 => stp_eb hn (stps_eb hn hK c)
theorem gb_le (n K a : Nat) : gb n K a ≤ 4 ^ (n - 1) * (K + 1) := Nat.mul_le_mul_right _ (Nat.pow_le_pow_right (by decide) (Nat.min_le_right _ _))
theorem TB.of {n m K X : Nat} {A : Nat → Nat → Rat} (hn : 0 < n) (hK : 1 ≤ K) [hA : ∀ i j, Bt (A i j) K] (hX : (3 * (4 ^ (n - 1) * (K + 1))) / 32 + 1 ≤ X) : TB n m X A := by
  refine ⟨fun c _ => ?_, fun c _ i j => ?_⟩
  · have h := (stps_eb (m := m) hn hK (hA := hA) c).d
    have := gb_le n K (stps n m false A c).at'
    exact (h.mono (show _ ≤ 3 * (4 ^ (n - 1) * (K + 1)) by omega)).wt hX
  · have h := (stps_eb (m := m) hn hK (hA := hA) c).A i j
    have := gb_le n K (stps n m false A c).at'
    exact (h.mono (show _ ≤ 3 * (4 ^ (n - 1) * (K + 1)) by omega)).wt hX
end Go.Proofs.Ytjmpanhacfjcaaa.AM
/- Slices that are gathered from none, in one form. -/
namespace Go.Proofs.Ytjmpanhacfjcaaa.AM
open Go Go.RowKit Go.Proofs.Ytjmpanhacfjcaaa.PN Go.Proofs.Ytjmpanhacfjcaaa.V
set_option linter.unusedVariables false
set_option linter.unusedSimpArgs false
def nilB : Blk → Prop
  | .rats n _ => n = 0
  | .ones T n _ => T ≠ U32 ∧ n = 0
/-- A slot that holds no slice holds an own one of nothing. -/
theorem imp_nil {s : St} (t g : Nat) (b : Blk) (ht : s.env t = some (.v (.slice none 0 0))) (hg : s.used g = false) (hb : nilB b) :
    Imp s ⟨put s.env t (some (.own g 0)), put s.heap g (some (1, fun _ => b)), mark s.used g⟩ := by
  intro W N β w a hs
  have hok : ∀ U, b.ok U := fun U => by
    cases b with
    | rats n f => trivial
    | ones T n f => exact fun i hi => by have := hb.2; omega
  have h2 := hs.newfam hg none (fun o ho => by cases ho) (.slice none 0 0) b (O := fun _ => False) hs.kept (Ext.refl _ _) (fun i h => h.elim) (fun i hi => by cases hi) (fun S' β' _ => ⟨hok _, by
    cases b with
    | rats n f => exact .inl ⟨rfl, hb⟩
    | ones T n f => exact ⟨hb.1, .inl ⟨rfl, hb.2⟩⟩⟩)
  have h2 : Sim W N (setv β g (.slice none 0 0)) w a ⟨s.env, put s.heap g (some (1, fun _ => b)), mark s.used g⟩ := h2
  refine ⟨_, h2.kept, h2.nodef, h2.size, fun t' z hz => ?_, h2.heap, h2.live, h2.inj, h2.fix, h2.pin, h2.fixd, h2.keep⟩
  have hz : put s.env t (some (.own g 0)) t' = some z := hz
  by_cases e : t' = t
  · subst e
    rw [put_same] at hz; cases hz
    have hv : a.tmps.getD t' undef = .slice none 0 0 := (hs.env t' _ ht).2
    refine ⟨mark_same _ _, ?_, none, 0, 0, hv⟩
    rw [hv]; unfold setv; rw [if_pos rfl]
  · rw [put_ne _ _ e] at hz; exact h2.env t' z hz
theorem s1_t {t a r : Nat} : s1 t a t r = (a, r) := by unfold s1; rw [if_pos rfl]
theorem s1_ne {t a g r : Nat} (h : g ≠ t) : s1 t a g r = (g, r) := by unfold s1; rw [if_neg h]
def notIn (t a : Nat) : List Nat → Bool
  | [] => true
  | x :: l => !(Nat.beq x t) && (!(Nat.beq x a) && notIn t a l)
theorem notIn_ne {t a : Nat} : ∀ {l : List Nat}, notIn t a l = true → ∀ x, memN x l = true → x ≠ t ∧ x ≠ a
  | [], _, x, h => by cases h
  | y :: l, hf, x, h => by
    unfold notIn at hf
    simp only [Bool.and_eq_true, Bool.not_eq_true'] at hf
    obtain ⟨h1, h2, h5⟩ := hf
    unfold memN at h
    have ne : ∀ {p q : Nat}, Nat.beq p q = false → p ≠ q := fun h e => by rw [e, Nat.beq_refl] at h; cases h
    cases e : Nat.beq x y with
    | true =>
      have := Nat.eq_of_beq_eq_true e
      subst this
      exact ⟨ne h1, ne h2⟩
    | false => rw [e] at h; exact notIn_ne h5 x h
theorem s1_injl {t a : Nat} {l : List Nat} (hl : notIn t a l = true) (g1 r1 g2 r2 : Nat) (h1 : memN g1 (t :: l) = true) (h2 : memN g2 (t :: l) = true) (e : s1 t a g1 r1 = s1 t a g2 r2) : g1 = g2 ∧ r1 = r2 := by
  rcases memN_uncons h1 with rfl | h1
  · rcases memN_uncons h2 with rfl | h2
    · rw [s1_t, s1_t] at e; cases e; exact ⟨rfl, rfl⟩
    · obtain ⟨n1, n2⟩ := notIn_ne hl _ h2
      rw [s1_t, s1_ne n1] at e; cases e; exact absurd rfl n2
  · obtain ⟨n1, n2⟩ := notIn_ne hl _ h1
    rcases memN_uncons h2 with rfl | h2
    · rw [s1_t, s1_ne n1] at e; cases e; exact absurd rfl n2
    · obtain ⟨m1, m2⟩ := notIn_ne hl _ h2
      rw [s1_ne n1, s1_ne m1] at e; cases e; exact ⟨rfl, rfl⟩
/-- A slice in slot t, its block b; more memory beside. -/
abbrev accS (t : Nat) (b : Blk) (e : List (Nat × AV)) (l : List (Nat × Fam)) : St := stl ((t, .own t 0) :: e) ((t, (1, fun _ => b)) :: l)
theorem acc_start {s : St} {t : Nat} {b : Blk} {e : List (Nat × AV)} {l : List (Nat × Fam)} (ht : s.env t = some (.v (.slice none 0 0))) (hg : s.used t = false) (hb : nilB b) (h60 : s.used 60 = false) (ht60 : t ≠ 60)
    (he : AllE ⟨put s.env t (some (.own t 0)), put s.heap t (some (1, fun _ => b)), mark s.used t⟩ idR (fun g => memN g (t :: keys l)) e) (hl : AllH ⟨put s.env t (some (.own t 0)), put s.heap t (some (1, fun _ => b)), mark s.used t⟩ idR (fun g => memN g (t :: keys l)) l) : Imp s (accS t b e l) := by
  refine (imp_nil t t b ht hg hb).trans (imp_id (h := (t, (1, fun _ => b)) :: l) ⟨⟨_, put_same _ _ _, Le.id rfl, memN_head _ _⟩, he⟩ ⟨fun r hr => ?_, hl⟩ ?_)
  · obtain rfl : r = 0 := by omega
    refine ⟨1, _, put_same _ _ _, Nat.zero_lt_one, ?_, ?_⟩
    · cases b with
      | rats n f => exact blen rfl fun _ _ => rfl
      | ones T n f => exact bleo rfl fun _ _ => Le.id rfl
    · cases b with
      | rats n f => exact True.intro
      | ones T n f => exact fun i hi => by have := hb.2; omega
  · show (!(mark s.used t 60) || _) = true
    rw [mark_ne _ (Ne.symm ht60), h60]; rfl
theorem acc_next {s : St} {t a : Nat} {b b' : Blk} {F : Nat → Blk} {e : List (Nat × AV)} {l : List (Nat × Fam)} (ht : s.env t = some (.own a 0)) (ha : s.heap a = some (1, F)) (hF : F 0 = b') (hb : BLe (s1 t a) b' b) (hok : b.ok (fun _ => false)) (h60 : s.used 60 = false) (hn : notIn t a (keys l) = true)
    (he : AllE s (s1 t a) (fun g => memN g (t :: keys l)) e) (hl : AllH s (s1 t a) (fun g => memN g (t :: keys l)) l) : Imp s (accS t b e l) := by
  refine imp_stl (h := (t, (1, fun _ => b)) :: l) (s1 t a) (fun h => by rw [h60] at h; cases h) (s1_injl hn) ⟨⟨_, ht, Le.own s1_t, memN_head _ _⟩, he⟩ ⟨fun r hr => ?_, hl⟩ (by rw [h60]; rfl)
  obtain rfl : r = 0 := by omega
  rw [s1_t]
  exact ⟨1, F, ha, Nat.zero_lt_one, by rw [hF]; exact hb, Blk.ok_mono (fun g h => by cases h) hok⟩
theorem glue_one {σ : Ren} {k : Nat} {v f : Nat → RA} (h : f 0 = v k) : BLe σ (.rats (k + 1) (glue k v f)) (.rats (k + 1) v) := by
  refine blen rfl fun i hi => ?_
  unfold glue
  by_cases e : i < k
  · rw [if_pos e]
  · obtain rfl : i = k := by omega
    rw [if_neg e, Nat.sub_self, h]
theorem glue_row {σ : Ren} {k : Nat} {v f : Nat → AV} (hv : ∀ i, i < k → Le σ (v i) (v i)) (h : Le σ (f 0) (v k)) : BLe σ (.ones WT (k + 1) (glue k v f)) (.ones WT (k + 1) v) := by
  refine bleo rfl fun i hi => ?_
  unfold glue
  by_cases e : i < k
  · rw [if_pos e]; exact hv i e
  · obtain rfl : i = k := by omega
    rw [if_neg e, Nat.sub_self]; exact h
/-- The same where the new row lies in an own slice that is written no more. -/
theorem acc_pub {s : St} {t a c k m m' : Nat} {f v : Nat → AV} {q w : Nat → RA} {F F' : Nat → Blk} {e : List (Nat × AV)} {l : List (Nat × Fam)} (ht : s.env t = some (.own a 0)) (ha : s.heap a = some (1, F)) (hF : F 0 = .ones WT (k + 1) f) (hf : ∀ i, i < k → f i = v i) (hk : f k = .own c 0)
    (hc : s.heap c = some (1, F')) (hF' : F' 0 = .rats m q) (hq : ∀ j, j < m → q j = w j) (hv : v k = .row true m' w) (hm : m = m') (hok : ∀ i, (v i).ok (fun _ => false)) (hac : c ≠ a) (h60 : s.used 60 = false) (hn : notIn t a (keys l) = true)
    (he : AllE s (s1 t a) (fun g => memN g (t :: keys l)) e) (hl : AllH ⟨s.env, put (put s.heap c none) a (some (1, fun _ => .ones WT (k + 1) (updN f k (.row true m q)))), s.used⟩ (s1 t a) (fun g => memN g (t :: keys l)) l) : Imp s (accS t (.ones WT (k + 1) v) e l) := by
  refine (imp_pub a k ha hF (Nat.lt_succ_self k) hk hc hF' hac).trans (acc_next ht (put_same _ _ _) rfl ?_ (fun i _ => hok i) h60 hn (AllE.env (s := s) (s' := ⟨s.env, put (put s.heap c none) a (some (1, fun _ => .ones WT (k + 1) (updN f k (.row true m q)))), s.used⟩) rfl he) hl)
  refine bleo rfl fun i hi => ?_
  by_cases c : i = k
  · subst c
    rw [updN_same, hv]
    exact Le.row hm hq fun h => h
  · rw [updN_ne _ _ c, hf i (by omega)]
    exact Le.same (hok i)
theorem imp_matn {s : St} (t : Nat) {g n n' : Nat} {F : Nat → Blk} {f : Nat → AV} (m : Nat → Nat) (G : Nat → Nat → RA) (hx : s.env t = some (.own g 0)) (hg : s.heap g = some (1, F)) (hF : F 0 = .ones WT n f) (hf : ∀ i, i < n → f i = .row true (m i) (G i)) (hn : n = n') : Imp s ⟨put s.env t (some (.mat true n' m G)), put s.heap g none, s.used⟩ := by
  subst hn; exact imp_mat t m G hx hg hF hf
/-- Rows that others have, too. -/
theorem imp_matf {s : St} (t : Nat) {g n : Nat} {F : Nat → Blk} {f : Nat → AV} (m : Nat → Nat) (G : Nat → Nat → RA) (hx : s.env t = some (.own g 0)) (hg : s.heap g = some (1, F)) (hF : F 0 = .ones WT n f) (hf : ∀ i, i < n → ∃ fr, f i = .row fr (m i) (G i)) : Imp s ⟨put s.env t (some (.mat false n m G)), put s.heap g none, s.used⟩ :=
  imp_turn1 hx hg trivial fun W N β w a hs v hv hok hb S' h1 h2 => by
    rw [hF] at hb
    obtain ⟨e0, A, n', c, e⟩ := hv
    rcases hb.2 with ⟨e', rfl⟩ | ⟨k, cs, hB, hr, hat, hx⟩
    · exact ⟨none, 0, e0.trans e', Nat.le_refl _, Nat.zero_le _, fun i hi => absurd hi (Nat.not_lt_zero _)⟩
    · have hub := ub_at hat
      rcases hat with ⟨e', _⟩ | ⟨cap, e', h3, h4, _⟩
      · rw [← e0, e] at e'; cases e'
      · refine ⟨_, cap, e0.trans e', h3, h4, fun i hi => ?_⟩
        obtain ⟨y, a0, a1, a2⟩ := hx i hi
        obtain ⟨fr, hfi⟩ := hf i hi
        rw [hfi] at a2
        refine ⟨k, 0, cs, y, rfl, h2 k hub, (fun e => by cases e), hr, by rw [Nat.zero_add]; exact a0, ?_⟩
        obtain ⟨A2, c2, b1, b2, b3, b4⟩ := a2
        exact ⟨A2, c2, b1, b2, b3, fun j hj => by obtain ⟨bb, off, d1, d2, d3, d4⟩ := b4 j hj; exact ⟨bb, off, d1, h1 _ d2, (fun e => by cases e), d4⟩⟩
end Go.Proofs.Ytjmpanhacfjcaaa.AM
/- The document's dense matrices: walked. -/
namespace Go.Proofs.Ytjmpanhacfjcaaa.AM
open Go Go.RowKit Go.Proofs.Ytjmpanhacfjcaaa.PN Go.Proofs.Ytjmpanhacfjcaaa.V
open Go.Proofs.Ytjmpanhacfjcaaa.LA (S S_succ S_zero S_congr)
set_option linter.unusedVariables false
set_option linter.unusedSimpArgs false
set_option maxRecDepth 4000
set_option maxHeartbeats 4000000
theorem r7_apply {n m K : Nat} {F : Nat → Nat → Rat} {v : Nat → Rat} [hf : ∀ i j, Wt (F i j) K] [hv : ∀ i, Wt (v i) K] (hK : K ≤ 600) (hn : n ≤ 8) (hm : m ≤ 8) : Has Try.prog 27 [.mat false n (fun _ => m) (fun i j => .q (F i j)), .row false m (fun i => .q (v i))] (.row true n (fun i => .q (S m fun j => F i j * v j))) := by
  refine has_of Try.func27 (by kernel_rfl) rfl Try.ntmps27 Try.results27 rfl rfl rfl ?_
  repeat(first|(with_reducible first|refine awp_seq ?_|refine awp_block ?_|refine awp_skip ?_|refine awp_exit ?_|refine awp_ret ?_|refine q_then ?_|refine q_block ?_|refine q_then_exit ?_|refine q_then_ret ?_|refine q_block_exit ?_|refine q_block_ret ?_|refine q_loop_exit ?_|refine q_loop_ret ?_)|((with_reducible refine q_block_other ?_ ?_);exact rfl)|((with_reducible refine reg ?_ ?_);exact rfl)|((with_reducible refine st_end ?_ ?_);first|exact .inl rfl|exact .inr rfl)|(with_reducible apply st_build0)|((with_reducible apply st_ev);exact rfl;(first|exact True.intro|((repeat' apply And.intro)<;>first|exact True.intro|with_reducible rfl|(simp only[Fits];omega)|omega|assumption|decide|(simp;done)|exact rfl)))|((with_reducible apply st_evg);exact rfl;exact rfl;(first|exact rfl|assumption);exact rfl;(first|exact True.intro|((repeat' apply And.intro)<;>first|exact True.intro|with_reducible rfl|(simp only[Fits];omega)|omega|assumption|decide|(simp;done)|exact rfl)))|((with_reducible apply st_skip);exact rfl;exact rfl;(first|exact rfl|assumption))|((with_reducible apply st_app0);exact rfl;exact rfl;exact rfl;omega)|((with_reducible apply st_skipu);exact rfl;exact rfl)|((with_reducible apply st_pickt);exact rfl;assumption;exact rfl)|((with_reducible apply st_pickf);exact rfl;assumption;exact rfl)|((with_reducible apply st_pickgt);exact rfl;exact rfl;(first|exact rfl|assumption);exact rfl;(first|exact rfl|assumption);exact rfl)|((with_reducible apply st_pickgf);exact rfl;exact rfl;(first|exact rfl|assumption);exact rfl;(first|exact rfl|assumption);exact rfl)|((with_reducible apply st_build);exact rfl;first|exact rfl|(first|exact True.intro|((repeat' apply And.intro)<;>first|exact True.intro|with_reducible rfl|(simp only[Fits];omega)|omega|assumption|decide|(simp;done)|exact rfl))))
  refine awp_loop (fun m' s => ∃ k, k ≤ n ∧ m' = n - k ∧ s = accS 5 (.rats k (fun i => .q (S m fun j => F i j * v j))) [(0, .mat false n (fun _ => m) (fun i j => .q (F i j))), (1, .row false m (fun i => .q (v i))), (6, .i (k : Int))] []) n _ (acc_start rfl rfl (by exact rfl) rfl (by decide) ?_ ?_) ⟨0, Nat.zero_le _, rfl, rfl⟩ ?_
  · repeat (first | exact True.intro | refine alle rfl (Le.id rfl) (by first | exact True.intro | rfl) ?_)
  · repeat (first | exact True.intro | refine allh rfl (by decide) (by first | exact ble1 rfl | exact blen rfl (fun _ _ => rfl) | exact bleo rfl (fun _ _ => Le.id rfl)) (by first | exact True.intro | (intro i hi; exact True.intro)) ?_)
  · rintro m' s ⟨k, hk, rfl, rfl⟩
    repeat(first|(with_reducible first|refine awp_seq ?_|refine awp_block ?_|refine awp_skip ?_|refine awp_exit ?_|refine awp_ret ?_|refine q_then ?_|refine q_block ?_|refine q_then_exit ?_|refine q_then_ret ?_|refine q_block_exit ?_|refine q_block_ret ?_|refine q_loop_exit ?_|refine q_loop_ret ?_)|((with_reducible refine q_block_other ?_ ?_);exact rfl)|((with_reducible refine reg ?_ ?_);exact rfl)|((with_reducible refine st_end ?_ ?_);first|exact .inl rfl|exact .inr rfl)|(with_reducible apply st_build0)|((with_reducible apply st_ev);exact rfl;(first|exact True.intro|((repeat' apply And.intro)<;>first|exact True.intro|with_reducible rfl|(simp only[Fits];omega)|omega|assumption|decide|(simp;done)|exact rfl)))|((with_reducible apply st_evg);exact rfl;exact rfl;(first|exact rfl|assumption);exact rfl;(first|exact True.intro|((repeat' apply And.intro)<;>first|exact True.intro|with_reducible rfl|(simp only[Fits];omega)|omega|assumption|decide|(simp;done)|exact rfl)))|((with_reducible apply st_skip);exact rfl;exact rfl;(first|exact rfl|assumption))|((with_reducible apply st_app0);exact rfl;exact rfl;exact rfl;omega)|((with_reducible apply st_skipu);exact rfl;exact rfl)|((with_reducible apply st_pickt);exact rfl;assumption;exact rfl)|((with_reducible apply st_pickf);exact rfl;assumption;exact rfl)|((with_reducible apply st_pickgt);exact rfl;exact rfl;(first|exact rfl|assumption);exact rfl;(first|exact rfl|assumption);exact rfl)|((with_reducible apply st_pickgf);exact rfl;exact rfl;(first|exact rfl|assumption);exact rfl;(first|exact rfl|assumption);exact rfl)|((with_reducible apply st_build);exact rfl;first|exact rfl|(first|exact True.intro|((repeat' apply And.intro)<;>first|exact True.intro|with_reducible rfl|(simp only[Fits];omega)|omega|assumption|decide|(simp;done)|exact rfl))))
    refine awp_if rfl (fun h => ?_) (fun h => ?_)
    · have h : k < n := by omega
      repeat(first|(with_reducible first|refine awp_seq ?_|refine awp_block ?_|refine awp_skip ?_|refine awp_exit ?_|refine awp_ret ?_|refine q_then ?_|refine q_block ?_|refine q_then_exit ?_|refine q_then_ret ?_|refine q_block_exit ?_|refine q_block_ret ?_|refine q_loop_exit ?_|refine q_loop_ret ?_)|((with_reducible refine q_block_other ?_ ?_);exact rfl)|((with_reducible refine reg ?_ ?_);exact rfl)|((with_reducible refine st_end ?_ ?_);first|exact .inl rfl|exact .inr rfl)|(with_reducible apply st_build0)|((with_reducible apply st_ev);exact rfl;(first|exact True.intro|((repeat' apply And.intro)<;>first|exact True.intro|with_reducible rfl|(simp only[Fits];omega)|omega|assumption|decide|(simp;done)|exact rfl)))|((with_reducible apply st_evg);exact rfl;exact rfl;(first|exact rfl|assumption);exact rfl;(first|exact True.intro|((repeat' apply And.intro)<;>first|exact True.intro|with_reducible rfl|(simp only[Fits];omega)|omega|assumption|decide|(simp;done)|exact rfl)))|((with_reducible apply st_skip);exact rfl;exact rfl;(first|exact rfl|assumption))|((with_reducible apply st_app0);exact rfl;exact rfl;exact rfl;omega)|((with_reducible apply st_skipu);exact rfl;exact rfl)|((with_reducible apply st_pickt);exact rfl;assumption;exact rfl)|((with_reducible apply st_pickf);exact rfl;assumption;exact rfl)|((with_reducible apply st_pickgt);exact rfl;exact rfl;(first|exact rfl|assumption);exact rfl;(first|exact rfl|assumption);exact rfl)|((with_reducible apply st_pickgf);exact rfl;exact rfl;(first|exact rfl|assumption);exact rfl;(first|exact rfl|assumption);exact rfl)|((with_reducible apply st_build);exact rfl;first|exact rfl|(first|exact True.intro|((repeat' apply And.intro)<;>first|exact True.intro|with_reducible rfl|(simp only[Fits];omega)|omega|assumption|decide|(simp;done)|exact rfl)))|((with_reducible apply st_call);exact rfl;exact rfl;exact rfl;first|(exact hs_zero))|((with_reducible apply st_callg);exact rfl;exact rfl;(first|exact rfl|assumption);exact rfl;exact rfl;exact rfl;first|(exact hs_zero)))
      refine awp_loop (fun m' s => ∃ j, j ≤ m ∧ m' = m - j ∧ s = accS 5 (.rats k (fun i => .q (S m fun j => F i j * v j))) [(0, .mat false n (fun _ => m) (fun i j => .q (F i j))), (1, .row false m (fun i => .q (v i))), (6, .i (k : Int)), (7, .rptr 7 0 0), (8, .i (j : Int))] [(7, (1, fun _ => .rats 1 fun _ => .q (S j fun j => F k j * v j)))]) m _ (imp_id ?_ ?_) ⟨0, Nat.zero_le _, rfl, rfl⟩ ?_
      · repeat (first | exact True.intro | refine alle rfl (Le.id rfl) (by first | exact True.intro | rfl) ?_)
      · repeat (first | exact True.intro | refine allh rfl (by decide) (by first | exact ble1 rfl | exact blen rfl (fun _ _ => rfl) | exact bleo rfl (fun _ _ => Le.id rfl)) (by first | exact True.intro | (intro i hi; exact True.intro)) ?_)
      · rintro m' s ⟨j, hj, rfl, rfl⟩
        have w1 : Wt (S j fun j => F k j * v j) (8 * (K + K + 1) + 1) := Wt.sum (by omega) fun i _ => inferInstance
        repeat(first|(with_reducible first|refine awp_seq ?_|refine awp_block ?_|refine awp_skip ?_|refine awp_exit ?_|refine awp_ret ?_|refine q_then ?_|refine q_block ?_|refine q_then_exit ?_|refine q_then_ret ?_|refine q_block_exit ?_|refine q_block_ret ?_|refine q_loop_exit ?_|refine q_loop_ret ?_)|((with_reducible refine q_block_other ?_ ?_);exact rfl)|((with_reducible refine reg ?_ ?_);exact rfl)|((with_reducible refine st_end ?_ ?_);first|exact .inl rfl|exact .inr rfl)|(with_reducible apply st_build0)|((with_reducible apply st_ev);exact rfl;(first|exact True.intro|((repeat' apply And.intro)<;>first|exact True.intro|with_reducible rfl|(simp only[Fits];omega)|omega|assumption|decide|(simp;done)|exact rfl)))|((with_reducible apply st_evg);exact rfl;exact rfl;(first|exact rfl|assumption);exact rfl;(first|exact True.intro|((repeat' apply And.intro)<;>first|exact True.intro|with_reducible rfl|(simp only[Fits];omega)|omega|assumption|decide|(simp;done)|exact rfl)))|((with_reducible apply st_skip);exact rfl;exact rfl;(first|exact rfl|assumption))|((with_reducible apply st_app0);exact rfl;exact rfl;exact rfl;omega)|((with_reducible apply st_skipu);exact rfl;exact rfl)|((with_reducible apply st_pickt);exact rfl;assumption;exact rfl)|((with_reducible apply st_pickf);exact rfl;assumption;exact rfl)|((with_reducible apply st_pickgt);exact rfl;exact rfl;(first|exact rfl|assumption);exact rfl;(first|exact rfl|assumption);exact rfl)|((with_reducible apply st_pickgf);exact rfl;exact rfl;(first|exact rfl|assumption);exact rfl;(first|exact rfl|assumption);exact rfl)|((with_reducible apply st_build);exact rfl;first|exact rfl|(first|exact True.intro|((repeat' apply And.intro)<;>first|exact True.intro|with_reducible rfl|(simp only[Fits];omega)|omega|assumption|decide|(simp;done)|exact rfl))))
        refine awp_if rfl (fun h1 => ?_) (fun h1 => ?_)
        · have h1 : j < m := by omega
          repeat(first|(with_reducible first|refine awp_seq ?_|refine awp_block ?_|refine awp_skip ?_|refine awp_exit ?_|refine awp_ret ?_|refine q_then ?_|refine q_block ?_|refine q_then_exit ?_|refine q_then_ret ?_|refine q_block_exit ?_|refine q_block_ret ?_|refine q_loop_exit ?_|refine q_loop_ret ?_)|((with_reducible refine q_block_other ?_ ?_);exact rfl)|((with_reducible refine reg ?_ ?_);exact rfl)|((with_reducible refine st_end ?_ ?_);first|exact .inl rfl|exact .inr rfl)|(with_reducible apply st_build0)|((with_reducible apply st_ev);exact rfl;(first|exact True.intro|((repeat' apply And.intro)<;>first|exact True.intro|with_reducible rfl|(simp only[Fits];omega)|omega|assumption|decide|(simp;done)|exact rfl)))|((with_reducible apply st_evg);exact rfl;exact rfl;(first|exact rfl|assumption);exact rfl;(first|exact True.intro|((repeat' apply And.intro)<;>first|exact True.intro|with_reducible rfl|(simp only[Fits];omega)|omega|assumption|decide|(simp;done)|exact rfl)))|((with_reducible apply st_skip);exact rfl;exact rfl;(first|exact rfl|assumption))|((with_reducible apply st_app0);exact rfl;exact rfl;exact rfl;omega)|((with_reducible apply st_skipu);exact rfl;exact rfl)|((with_reducible apply st_pickt);exact rfl;assumption;exact rfl)|((with_reducible apply st_pickf);exact rfl;assumption;exact rfl)|((with_reducible apply st_pickgt);exact rfl;exact rfl;(first|exact rfl|assumption);exact rfl;(first|exact rfl|assumption);exact rfl)|((with_reducible apply st_pickgf);exact rfl;exact rfl;(first|exact rfl|assumption);exact rfl;(first|exact rfl|assumption);exact rfl)|((with_reducible apply st_build);exact rfl;first|exact rfl|(first|exact True.intro|((repeat' apply And.intro)<;>first|exact True.intro|with_reducible rfl|(simp only[Fits];omega)|omega|assumption|decide|(simp;done)|exact rfl)))|((with_reducible apply st_call);exact rfl;exact rfl;exact rfl;first|(exact cs_mul ⟨by omega, by omega⟩)|(exact cs_add ⟨by omega, by omega⟩))|((with_reducible apply st_callg);exact rfl;exact rfl;(first|exact rfl|assumption);exact rfl;exact rfl;exact rfl;first|(exact cs_mul ⟨by omega, by omega⟩)|(exact cs_add ⟨by omega, by omega⟩)))
          refine q_loop (m' := m - (j + 1)) (by omega) (imp_id (e := (5, .own 5 0) :: [(0, .mat false n (fun _ => m) (fun i j => .q (F i j))), (1, .row false m (fun i => .q (v i))), (6, .i (k : Int)), (7, .rptr 7 0 0), (8, .i ((j + 1 : Nat) : Int))]) (h := (5, (1, fun _ => .rats k (fun i => .q (S m fun j => F i j * v j)))) :: [(7, (1, fun _ => .rats 1 fun _ => .q (S (j + 1) fun j => F k j * v j)))]) ?_ ?_) ⟨j + 1, by omega, rfl, rfl⟩
          · repeat (first | exact True.intro | refine alle rfl (Le.id rfl) (by first | exact True.intro | rfl) ?_)
          · repeat (first | exact True.intro | refine allh rfl (by decide) (by first | exact ble1 rfl | exact blen rfl (fun _ _ => rfl) | exact bleo rfl (fun _ _ => Le.id rfl)) (by first | exact True.intro | (intro i hi; exact True.intro)) ?_)
        · obtain rfl : j = m := by omega
          repeat(first|(with_reducible first|refine awp_seq ?_|refine awp_block ?_|refine awp_skip ?_|refine awp_exit ?_|refine awp_ret ?_|refine q_then ?_|refine q_block ?_|refine q_then_exit ?_|refine q_then_ret ?_|refine q_block_exit ?_|refine q_block_ret ?_|refine q_loop_exit ?_|refine q_loop_ret ?_)|((with_reducible refine q_block_other ?_ ?_);exact rfl)|((with_reducible refine reg ?_ ?_);exact rfl)|((with_reducible refine st_end ?_ ?_);first|exact .inl rfl|exact .inr rfl)|(with_reducible apply st_build0)|((with_reducible apply st_ev);exact rfl;(first|exact True.intro|((repeat' apply And.intro)<;>first|exact True.intro|with_reducible rfl|(simp only[Fits];omega)|omega|assumption|decide|(simp;done)|exact rfl)))|((with_reducible apply st_evg);exact rfl;exact rfl;(first|exact rfl|assumption);exact rfl;(first|exact True.intro|((repeat' apply And.intro)<;>first|exact True.intro|with_reducible rfl|(simp only[Fits];omega)|omega|assumption|decide|(simp;done)|exact rfl)))|((with_reducible apply st_skip);exact rfl;exact rfl;(first|exact rfl|assumption))|((with_reducible apply st_app0);exact rfl;exact rfl;exact rfl;omega)|((with_reducible apply st_skipu);exact rfl;exact rfl)|((with_reducible apply st_pickt);exact rfl;assumption;exact rfl)|((with_reducible apply st_pickf);exact rfl;assumption;exact rfl)|((with_reducible apply st_pickgt);exact rfl;exact rfl;(first|exact rfl|assumption);exact rfl;(first|exact rfl|assumption);exact rfl)|((with_reducible apply st_pickgf);exact rfl;exact rfl;(first|exact rfl|assumption);exact rfl;(first|exact rfl|assumption);exact rfl)|((with_reducible apply st_build);exact rfl;first|exact rfl|(first|exact True.intro|((repeat' apply And.intro)<;>first|exact True.intro|with_reducible rfl|(simp only[Fits];omega)|omega|assumption|decide|(simp;done)|exact rfl))))
          refine q_loop (m' := n - (k + 1)) (by omega) (acc_next (a := 39) rfl rfl rfl (glue_one rfl) (by exact True.intro) rfl rfl ?_ (by exact True.intro)) ⟨k + 1, by omega, rfl, rfl⟩
          refine alle rfl (Le.eq rfl rfl) True.intro (alle rfl (Le.eq rfl rfl) True.intro (alle rfl (Le.eq rfl rfl) True.intro True.intro))
    · obtain rfl : k = n := by omega
      repeat(first|(with_reducible first|refine awp_seq ?_|refine awp_block ?_|refine awp_skip ?_|refine awp_exit ?_|refine awp_ret ?_|refine q_then ?_|refine q_block ?_|refine q_then_exit ?_|refine q_then_ret ?_|refine q_block_exit ?_|refine q_block_ret ?_|refine q_loop_exit ?_|refine q_loop_ret ?_)|((with_reducible refine q_block_other ?_ ?_);exact rfl)|((with_reducible refine reg ?_ ?_);exact rfl)|((with_reducible refine st_end ?_ ?_);first|exact .inl rfl|exact .inr rfl)|(with_reducible apply st_build0)|((with_reducible apply st_ev);exact rfl;(first|exact True.intro|((repeat' apply And.intro)<;>first|exact True.intro|with_reducible rfl|(simp only[Fits];omega)|omega|assumption|decide|(simp;done)|exact rfl)))|((with_reducible apply st_evg);exact rfl;exact rfl;(first|exact rfl|assumption);exact rfl;(first|exact True.intro|((repeat' apply And.intro)<;>first|exact True.intro|with_reducible rfl|(simp only[Fits];omega)|omega|assumption|decide|(simp;done)|exact rfl)))|((with_reducible apply st_skip);exact rfl;exact rfl;(first|exact rfl|assumption))|((with_reducible apply st_app0);exact rfl;exact rfl;exact rfl;omega)|((with_reducible apply st_skipu);exact rfl;exact rfl)|((with_reducible apply st_pickt);exact rfl;assumption;exact rfl)|((with_reducible apply st_pickf);exact rfl;assumption;exact rfl)|((with_reducible apply st_pickgt);exact rfl;exact rfl;(first|exact rfl|assumption);exact rfl;(first|exact rfl|assumption);exact rfl)|((with_reducible apply st_pickgf);exact rfl;exact rfl;(first|exact rfl|assumption);exact rfl;(first|exact rfl|assumption);exact rfl)|((with_reducible apply st_build);exact rfl;first|exact rfl|(first|exact True.intro|((repeat' apply And.intro)<;>first|exact True.intro|with_reducible rfl|(simp only[Fits];omega)|omega|assumption|decide|(simp;done)|exact rfl))))
      refine ⟨.inr rfl, _, imp_row 4 rfl rfl rfl, ?_⟩
      exact .one (.tmp rfl)
theorem r7_turn {n K : Nat} {F : Nat → Nat → Rat} [hf : ∀ i j, Wt (F i j) K] (hK : K ≤ 1000) (hn : n ≤ 8) : Has Try.prog 40 [.mat false n (fun _ => n) (fun i j => .q (F i j))] (.mat true n (fun _ => n) (fun i j => .q (F j i))) := by
  refine has_of Try.func40 (by kernel_rfl) rfl Try.ntmps40 Try.results40 rfl rfl rfl ?_
  repeat(first|(with_reducible first|refine awp_seq ?_|refine awp_block ?_|refine awp_skip ?_|refine awp_exit ?_|refine awp_ret ?_|refine q_then ?_|refine q_block ?_|refine q_then_exit ?_|refine q_then_ret ?_|refine q_block_exit ?_|refine q_block_ret ?_|refine q_loop_exit ?_|refine q_loop_ret ?_)|((with_reducible refine q_block_other ?_ ?_);exact rfl)|((with_reducible refine reg ?_ ?_);exact rfl)|((with_reducible refine st_end ?_ ?_);first|exact .inl rfl|exact .inr rfl)|(with_reducible apply st_build0)|((with_reducible apply st_ev);exact rfl;(first|exact True.intro|((repeat' apply And.intro)<;>first|exact True.intro|with_reducible rfl|(simp only[Fits];omega)|omega|assumption|decide|(simp;done)|exact rfl)))|((with_reducible apply st_evg);exact rfl;exact rfl;(first|exact rfl|assumption);exact rfl;(first|exact True.intro|((repeat' apply And.intro)<;>first|exact True.intro|with_reducible rfl|(simp only[Fits];omega)|omega|assumption|decide|(simp;done)|exact rfl)))|((with_reducible apply st_skip);exact rfl;exact rfl;(first|exact rfl|assumption))|((with_reducible apply st_app0);exact rfl;exact rfl;exact rfl;omega)|((with_reducible apply st_skipu);exact rfl;exact rfl)|((with_reducible apply st_pickt);exact rfl;assumption;exact rfl)|((with_reducible apply st_pickf);exact rfl;assumption;exact rfl)|((with_reducible apply st_pickgt);exact rfl;exact rfl;(first|exact rfl|assumption);exact rfl;(first|exact rfl|assumption);exact rfl)|((with_reducible apply st_pickgf);exact rfl;exact rfl;(first|exact rfl|assumption);exact rfl;(first|exact rfl|assumption);exact rfl)|((with_reducible apply st_build);exact rfl;first|exact rfl|(first|exact True.intro|((repeat' apply And.intro)<;>first|exact True.intro|with_reducible rfl|(simp only[Fits];omega)|omega|assumption|decide|(simp;done)|exact rfl))))
  refine awp_loop (fun m' s => ∃ k, k ≤ n ∧ m' = n - k ∧ s = accS 3 (.ones WT k (fun j => .row true n fun i => .q (F i j))) [(0, .mat false n (fun _ => n) (fun i j => .q (F i j))), (4, .i (k : Int))] []) n _ (acc_start rfl rfl (by exact ⟨by decide, rfl⟩) rfl (by decide) ?_ ?_) ⟨0, Nat.zero_le _, rfl, rfl⟩ ?_
  · repeat (first | exact True.intro | refine alle rfl (Le.id rfl) (by first | exact True.intro | rfl) ?_)
  · repeat (first | exact True.intro | refine allh rfl (by decide) (by first | exact ble1 rfl | exact blen rfl (fun _ _ => rfl) | exact bleo rfl (fun _ _ => Le.id rfl)) (by first | exact True.intro | (intro i hi; exact True.intro)) ?_)
  · rintro m' s ⟨k, hk, rfl, rfl⟩
    repeat(first|(with_reducible first|refine awp_seq ?_|refine awp_block ?_|refine awp_skip ?_|refine awp_exit ?_|refine awp_ret ?_|refine q_then ?_|refine q_block ?_|refine q_then_exit ?_|refine q_then_ret ?_|refine q_block_exit ?_|refine q_block_ret ?_|refine q_loop_exit ?_|refine q_loop_ret ?_)|((with_reducible refine q_block_other ?_ ?_);exact rfl)|((with_reducible refine reg ?_ ?_);exact rfl)|((with_reducible refine st_end ?_ ?_);first|exact .inl rfl|exact .inr rfl)|(with_reducible apply st_build0)|((with_reducible apply st_ev);exact rfl;(first|exact True.intro|((repeat' apply And.intro)<;>first|exact True.intro|with_reducible rfl|(simp only[Fits];omega)|omega|assumption|decide|(simp;done)|exact rfl)))|((with_reducible apply st_evg);exact rfl;exact rfl;(first|exact rfl|assumption);exact rfl;(first|exact True.intro|((repeat' apply And.intro)<;>first|exact True.intro|with_reducible rfl|(simp only[Fits];omega)|omega|assumption|decide|(simp;done)|exact rfl)))|((with_reducible apply st_skip);exact rfl;exact rfl;(first|exact rfl|assumption))|((with_reducible apply st_app0);exact rfl;exact rfl;exact rfl;omega)|((with_reducible apply st_skipu);exact rfl;exact rfl)|((with_reducible apply st_pickt);exact rfl;assumption;exact rfl)|((with_reducible apply st_pickf);exact rfl;assumption;exact rfl)|((with_reducible apply st_pickgt);exact rfl;exact rfl;(first|exact rfl|assumption);exact rfl;(first|exact rfl|assumption);exact rfl)|((with_reducible apply st_pickgf);exact rfl;exact rfl;(first|exact rfl|assumption);exact rfl;(first|exact rfl|assumption);exact rfl)|((with_reducible apply st_build);exact rfl;first|exact rfl|(first|exact True.intro|((repeat' apply And.intro)<;>first|exact True.intro|with_reducible rfl|(simp only[Fits];omega)|omega|assumption|decide|(simp;done)|exact rfl))))
    refine awp_if rfl (fun h => ?_) (fun h => ?_)
    · have h : k < n := by omega
      repeat(first|(with_reducible first|refine awp_seq ?_|refine awp_block ?_|refine awp_skip ?_|refine awp_exit ?_|refine awp_ret ?_|refine q_then ?_|refine q_block ?_|refine q_then_exit ?_|refine q_then_ret ?_|refine q_block_exit ?_|refine q_block_ret ?_|refine q_loop_exit ?_|refine q_loop_ret ?_)|((with_reducible refine q_block_other ?_ ?_);exact rfl)|((with_reducible refine reg ?_ ?_);exact rfl)|((with_reducible refine st_end ?_ ?_);first|exact .inl rfl|exact .inr rfl)|(with_reducible apply st_build0)|((with_reducible apply st_ev);exact rfl;(first|exact True.intro|((repeat' apply And.intro)<;>first|exact True.intro|with_reducible rfl|(simp only[Fits];omega)|omega|assumption|decide|(simp;done)|exact rfl)))|((with_reducible apply st_evg);exact rfl;exact rfl;(first|exact rfl|assumption);exact rfl;(first|exact True.intro|((repeat' apply And.intro)<;>first|exact True.intro|with_reducible rfl|(simp only[Fits];omega)|omega|assumption|decide|(simp;done)|exact rfl)))|((with_reducible apply st_skip);exact rfl;exact rfl;(first|exact rfl|assumption))|((with_reducible apply st_app0);exact rfl;exact rfl;exact rfl;omega)|((with_reducible apply st_skipu);exact rfl;exact rfl)|((with_reducible apply st_pickt);exact rfl;assumption;exact rfl)|((with_reducible apply st_pickf);exact rfl;assumption;exact rfl)|((with_reducible apply st_pickgt);exact rfl;exact rfl;(first|exact rfl|assumption);exact rfl;(first|exact rfl|assumption);exact rfl)|((with_reducible apply st_pickgf);exact rfl;exact rfl;(first|exact rfl|assumption);exact rfl;(first|exact rfl|assumption);exact rfl)|((with_reducible apply st_build);exact rfl;first|exact rfl|(first|exact True.intro|((repeat' apply And.intro)<;>first|exact True.intro|with_reducible rfl|(simp only[Fits];omega)|omega|assumption|decide|(simp;done)|exact rfl))))
      refine awp_loop (fun m' s => ∃ j, j ≤ n ∧ m' = n - j ∧ s = accS 5 (.rats j (fun i => .q (F i k))) [(0, .mat false n (fun _ => n) (fun i j => .q (F i j))), (3, .own 3 0), (4, .i (k : Int)), (6, .i (j : Int))] [(3, (1, fun _ => .ones WT k (fun j => .row true n fun i => .q (F i j))))]) n _ (acc_start rfl rfl (by exact rfl) rfl (by decide) ?_ ?_) ⟨0, Nat.zero_le _, rfl, rfl⟩ ?_
      · repeat (first | exact True.intro | refine alle rfl (Le.id rfl) (by first | exact True.intro | rfl) ?_)
      · repeat (first | exact True.intro | refine allh rfl (by decide) (by first | exact ble1 rfl | exact blen rfl (fun _ _ => rfl) | exact bleo rfl (fun _ _ => Le.id rfl)) (by first | exact True.intro | (intro i hi; exact True.intro)) ?_)
      · rintro m' s ⟨j, hj, rfl, rfl⟩
        repeat(first|(with_reducible first|refine awp_seq ?_|refine awp_block ?_|refine awp_skip ?_|refine awp_exit ?_|refine awp_ret ?_|refine q_then ?_|refine q_block ?_|refine q_then_exit ?_|refine q_then_ret ?_|refine q_block_exit ?_|refine q_block_ret ?_|refine q_loop_exit ?_|refine q_loop_ret ?_)|((with_reducible refine q_block_other ?_ ?_);exact rfl)|((with_reducible refine reg ?_ ?_);exact rfl)|((with_reducible refine st_end ?_ ?_);first|exact .inl rfl|exact .inr rfl)|(with_reducible apply st_build0)|((with_reducible apply st_ev);exact rfl;(first|exact True.intro|((repeat' apply And.intro)<;>first|exact True.intro|with_reducible rfl|(simp only[Fits];omega)|omega|assumption|decide|(simp;done)|exact rfl)))|((with_reducible apply st_evg);exact rfl;exact rfl;(first|exact rfl|assumption);exact rfl;(first|exact True.intro|((repeat' apply And.intro)<;>first|exact True.intro|with_reducible rfl|(simp only[Fits];omega)|omega|assumption|decide|(simp;done)|exact rfl)))|((with_reducible apply st_skip);exact rfl;exact rfl;(first|exact rfl|assumption))|((with_reducible apply st_app0);exact rfl;exact rfl;exact rfl;omega)|((with_reducible apply st_skipu);exact rfl;exact rfl)|((with_reducible apply st_pickt);exact rfl;assumption;exact rfl)|((with_reducible apply st_pickf);exact rfl;assumption;exact rfl)|((with_reducible apply st_pickgt);exact rfl;exact rfl;(first|exact rfl|assumption);exact rfl;(first|exact rfl|assumption);exact rfl)|((with_reducible apply st_pickgf);exact rfl;exact rfl;(first|exact rfl|assumption);exact rfl;(first|exact rfl|assumption);exact rfl)|((with_reducible apply st_build);exact rfl;first|exact rfl|(first|exact True.intro|((repeat' apply And.intro)<;>first|exact True.intro|with_reducible rfl|(simp only[Fits];omega)|omega|assumption|decide|(simp;done)|exact rfl))))
        refine awp_if rfl (fun h1 => ?_) (fun h1 => ?_)
        · have h1 : j < n := by omega
          repeat(first|(with_reducible first|refine awp_seq ?_|refine awp_block ?_|refine awp_skip ?_|refine awp_exit ?_|refine awp_ret ?_|refine q_then ?_|refine q_block ?_|refine q_then_exit ?_|refine q_then_ret ?_|refine q_block_exit ?_|refine q_block_ret ?_|refine q_loop_exit ?_|refine q_loop_ret ?_)|((with_reducible refine q_block_other ?_ ?_);exact rfl)|((with_reducible refine reg ?_ ?_);exact rfl)|((with_reducible refine st_end ?_ ?_);first|exact .inl rfl|exact .inr rfl)|(with_reducible apply st_build0)|((with_reducible apply st_ev);exact rfl;(first|exact True.intro|((repeat' apply And.intro)<;>first|exact True.intro|with_reducible rfl|(simp only[Fits];omega)|omega|assumption|decide|(simp;done)|exact rfl)))|((with_reducible apply st_evg);exact rfl;exact rfl;(first|exact rfl|assumption);exact rfl;(first|exact True.intro|((repeat' apply And.intro)<;>first|exact True.intro|with_reducible rfl|(simp only[Fits];omega)|omega|assumption|decide|(simp;done)|exact rfl)))|((with_reducible apply st_skip);exact rfl;exact rfl;(first|exact rfl|assumption))|((with_reducible apply st_app0);exact rfl;exact rfl;exact rfl;omega)|((with_reducible apply st_skipu);exact rfl;exact rfl)|((with_reducible apply st_pickt);exact rfl;assumption;exact rfl)|((with_reducible apply st_pickf);exact rfl;assumption;exact rfl)|((with_reducible apply st_pickgt);exact rfl;exact rfl;(first|exact rfl|assumption);exact rfl;(first|exact rfl|assumption);exact rfl)|((with_reducible apply st_pickgf);exact rfl;exact rfl;(first|exact rfl|assumption);exact rfl;(first|exact rfl|assumption);exact rfl)|((with_reducible apply st_build);exact rfl;first|exact rfl|(first|exact True.intro|((repeat' apply And.intro)<;>first|exact True.intro|with_reducible rfl|(simp only[Fits];omega)|omega|assumption|decide|(simp;done)|exact rfl)))|((with_reducible apply st_call);exact rfl;exact rfl;exact rfl;first|(exact k_copy (Nat.le_trans (hf _ _).le (by omega))))|((with_reducible apply st_callg);exact rfl;exact rfl;(first|exact rfl|assumption);exact rfl;exact rfl;exact rfl;first|(exact k_copy (Nat.le_trans (hf _ _).le (by omega)))))
          refine q_loop (m' := n - (j + 1)) (by omega) (acc_next (a := 29) rfl rfl rfl (glue_one rfl) (by exact True.intro) rfl rfl ?_ ?_) ⟨j + 1, by omega, rfl, rfl⟩
          · refine alle rfl (Le.eq rfl rfl) True.intro (alle rfl (Le.own (s1_ne (by decide))) rfl (alle rfl (Le.eq rfl rfl) True.intro (alle rfl (Le.eq rfl rfl) True.intro True.intro)))
          · refine allh rfl Nat.zero_lt_one (bleo rfl fun _ _ => Le.eq rfl rfl) (fun _ _ => True.intro) True.intro
        · obtain rfl : j = n := by omega
          repeat(first|(with_reducible first|refine awp_seq ?_|refine awp_block ?_|refine awp_skip ?_|refine awp_exit ?_|refine awp_ret ?_|refine q_then ?_|refine q_block ?_|refine q_then_exit ?_|refine q_then_ret ?_|refine q_block_exit ?_|refine q_block_ret ?_|refine q_loop_exit ?_|refine q_loop_ret ?_)|((with_reducible refine q_block_other ?_ ?_);exact rfl)|((with_reducible refine reg ?_ ?_);exact rfl)|((with_reducible refine st_end ?_ ?_);first|exact .inl rfl|exact .inr rfl)|(with_reducible apply st_build0)|((with_reducible apply st_ev);exact rfl;(first|exact True.intro|((repeat' apply And.intro)<;>first|exact True.intro|with_reducible rfl|(simp only[Fits];omega)|omega|assumption|decide|(simp;done)|exact rfl)))|((with_reducible apply st_evg);exact rfl;exact rfl;(first|exact rfl|assumption);exact rfl;(first|exact True.intro|((repeat' apply And.intro)<;>first|exact True.intro|with_reducible rfl|(simp only[Fits];omega)|omega|assumption|decide|(simp;done)|exact rfl)))|((with_reducible apply st_skip);exact rfl;exact rfl;(first|exact rfl|assumption))|((with_reducible apply st_app0);exact rfl;exact rfl;exact rfl;omega)|((with_reducible apply st_skipu);exact rfl;exact rfl)|((with_reducible apply st_pickt);exact rfl;assumption;exact rfl)|((with_reducible apply st_pickf);exact rfl;assumption;exact rfl)|((with_reducible apply st_pickgt);exact rfl;exact rfl;(first|exact rfl|assumption);exact rfl;(first|exact rfl|assumption);exact rfl)|((with_reducible apply st_pickgf);exact rfl;exact rfl;(first|exact rfl|assumption);exact rfl;(first|exact rfl|assumption);exact rfl)|((with_reducible apply st_build);exact rfl;first|exact rfl|(first|exact True.intro|((repeat' apply And.intro)<;>first|exact True.intro|with_reducible rfl|(simp only[Fits];omega)|omega|assumption|decide|(simp;done)|exact rfl))))
          refine q_loop (m' := j - (k + 1)) (by omega) (acc_pub (a := 33) (c := 5) rfl rfl rfl (fun i hi => if_pos hi) (by show (if _ then _ else _) = _; rw [if_neg (Nat.lt_irrefl _), Nat.sub_self]; rfl) rfl rfl (fun _ _ => rfl) rfl rfl (fun _ => by exact True.intro) (by decide) rfl rfl ?_ (by exact True.intro)) ⟨k + 1, by omega, rfl, rfl⟩
          refine alle rfl (Le.eq rfl rfl) True.intro (alle rfl (Le.eq rfl rfl) True.intro True.intro)
    · obtain rfl : k = n := by omega
      repeat(first|(with_reducible first|refine awp_seq ?_|refine awp_block ?_|refine awp_skip ?_|refine awp_exit ?_|refine awp_ret ?_|refine q_then ?_|refine q_block ?_|refine q_then_exit ?_|refine q_then_ret ?_|refine q_block_exit ?_|refine q_block_ret ?_|refine q_loop_exit ?_|refine q_loop_ret ?_)|((with_reducible refine q_block_other ?_ ?_);exact rfl)|((with_reducible refine reg ?_ ?_);exact rfl)|((with_reducible refine st_end ?_ ?_);first|exact .inl rfl|exact .inr rfl)|(with_reducible apply st_build0)|((with_reducible apply st_ev);exact rfl;(first|exact True.intro|((repeat' apply And.intro)<;>first|exact True.intro|with_reducible rfl|(simp only[Fits];omega)|omega|assumption|decide|(simp;done)|exact rfl)))|((with_reducible apply st_evg);exact rfl;exact rfl;(first|exact rfl|assumption);exact rfl;(first|exact True.intro|((repeat' apply And.intro)<;>first|exact True.intro|with_reducible rfl|(simp only[Fits];omega)|omega|assumption|decide|(simp;done)|exact rfl)))|((with_reducible apply st_skip);exact rfl;exact rfl;(first|exact rfl|assumption))|((with_reducible apply st_app0);exact rfl;exact rfl;exact rfl;omega)|((with_reducible apply st_skipu);exact rfl;exact rfl)|((with_reducible apply st_pickt);exact rfl;assumption;exact rfl)|((with_reducible apply st_pickf);exact rfl;assumption;exact rfl)|((with_reducible apply st_pickgt);exact rfl;exact rfl;(first|exact rfl|assumption);exact rfl;(first|exact rfl|assumption);exact rfl)|((with_reducible apply st_pickgf);exact rfl;exact rfl;(first|exact rfl|assumption);exact rfl;(first|exact rfl|assumption);exact rfl)|((with_reducible apply st_build);exact rfl;first|exact rfl|(first|exact True.intro|((repeat' apply And.intro)<;>first|exact True.intro|with_reducible rfl|(simp only[Fits];omega)|omega|assumption|decide|(simp;done)|exact rfl))))
      refine ⟨.inr rfl, _, imp_mat 2 (fun _ => k) (fun i j => .q (F j i)) rfl rfl rfl (fun _ _ => rfl), ?_⟩
      exact .one (.tmp rfl)
end Go.Proofs.Ytjmpanhacfjcaaa.AM

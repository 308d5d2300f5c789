/- Joined texts, 20: PBits PGauss LawI LawJ PDet PSolve LawN Wthn. -/
import Derived.Test.YtdnmoggifjlbiaaGreatJLawTurnedKnown19
import Derived.Test.YtdnmoggifjlbiaaGreatJLawTurnedKnown12
import Derived.Test.YtdnmoggifjlbiaaGreatJLawTurnedKnown13
import Derived.Test.YtdnmoggifjlbiaaGreatJLawTurnedKnown17
set_option linter.unusedVariables false
set_option linter.unusedSimpArgs false
/- How long numbers are, by bits: while the steps are done. -/
namespace Go.Proofs.YtdnmoggifjlbiaaGreat.AM
open Go.Proofs.YtdnmoggifjlbiaaGreat.PN
open Go.Proofs.YtdnmoggifjlbiaaGreat.LA (S S_succ S_zero S_congr)
set_option linter.unusedVariables false
set_option linter.unusedSimpArgs false
/-- How many bits numbers have when a pivots are found. -/
def gb (n K a : Nat) : Nat := 4 ^ (min a (n - 1)) * (K + 1)
theorem gb_pos (n K a : Nat) : K + 1 ≤ gb n K a := Nat.le_mul_of_pos_left _ (Nat.pow_pos (by decide))
theorem gb_last {n K a : Nat} (h : ¬ a + 1 ≤ n - 1) : gb n K (a + 1) = gb n K a ∨ a + 1 ≤ n - 1 := by
  unfold gb
  exact .inl (by rw [show min (a + 1) (n - 1) = min a (n - 1) by omega])
theorem gb_step {n K a : Nat} (h : a + 1 ≤ n - 1) : gb n K (a + 1) = 4 * gb n K a := by
  unfold gb
  rw [show min (a + 1) (n - 1) = min a (n - 1) + 1 by omega, Nat.pow_succ]
  ac_rfl
structure EB (n K : Nat) (s : ES) : Prop where
  A : ∀ i j, Bt (s.A i j) (gb n K s.at' - 1)
  d : Bt s.d (3 * gb n K s.at')
  d' : s.at' < n → Bt s.d (2 * gb n K s.at')
theorem det1_bt {d : Rat} {X i j : Nat} [h : Bt d X] : Bt (det1 d i j) X := by
  unfold det1; split
  · exact h
  · exact inferInstance
theorem stp_eb {n m c K : Nat} {s : ES} (hn : 0 < n) (h : EB n K s) : EB n K (stp n m false s c) := by
  unfold stp
  split
  · rename_i hi
    obtain ⟨h1, h2, _, _⟩ := fnd_le (fun i => s.A (s.π i) c ≠ 0) (n - s.at') s.at'
    generalize fnd (fun i => s.A (s.π i) c ≠ 0) (n - s.at') s.at' = i0 at *
    have han : s.at' < n := by omega
    have w1 := det1_bt (i := i0) (j := s.at') (h := h.d' han)
    have w2 := h.A (s.π i0) c
    have hp := gb_pos n K s.at'
    have w3 := Bt.mul (h := w1) (k := w2)
    by_cases hl : s.at' + 1 ≤ n - 1
    · have e := gb_step (K := K) hl
      refine ⟨fun i j => ?_, w3.mono ?_, fun _ => w3.mono ?_⟩
      · show Bt (cln _ _ _ _ _ _ _ i j) (gb n K (s.at' + 1) - 1)
        rw [e]
        unfold cln
        split
        · have hA := h.A
          exact (inferInstance : Bt (s.A i j - s.A i c / s.A (swp s.π i0 s.at' s.at') c * s.A (swp s.π i0 s.at' s.at') j) _).mono (by omega)
        · exact (h.A i j).mono (by omega)
      · show _ ≤ 3 * gb n K (s.at' + 1); omega
      · show _ ≤ 2 * gb n K (s.at' + 1); omega
    · have e : gb n K (s.at' + 1) = gb n K s.at' := (gb_last hl).resolve_right hl
      refine ⟨fun i j => ?_, w3.mono ?_, fun hlt => ?_⟩
      · show Bt (cln _ _ _ _ _ _ _ i j) (gb n K (s.at' + 1) - 1)
        rw [e]
        unfold cln
        rw [if_neg]
        · exact h.A i j
        · rintro ⟨⟨k, h3, h4, _⟩, _⟩
          rcases h4 with h4 | ⟨h4, _⟩
          · omega
          · cases h4
      · show _ ≤ 3 * gb n K (s.at' + 1); omega
      · have hlt : s.at' + 1 < n := hlt
        omega
  · exact h
theorem stps_eb {n m K : Nat} {A : Nat → Nat → Rat} (hn : 0 < n) (hK : 1 ≤ K) [hA : ∀ i j, Bt (A i j) K] : ∀ c, EB n K (stps n m false A c)
  | 0 => by
    have e : gb n K 0 = K + 1 := by unfold gb; rw [Nat.zero_min, Nat.pow_zero, Nat.one_mul]
    have h1 : Bt (1 : Rat) 1 := inferInstance
    refine ⟨fun i j => ?_, ?_, fun _ => ?_⟩
    · show Bt (A i j) (gb n K 0 - 1); rw [e]; exact hA i j
    · show Bt (1 : Rat) (3 * gb n K 0); rw [e]; exact h1.mono (by omega)
    · show Bt (1 : Rat) (2 * gb n K 0); rw [e]; exact h1.mono (by omega)
  | c + 1 => stp_eb hn (stps_eb hn hK c)
theorem gb_le (n K a : Nat) : gb n K a ≤ 4 ^ (n - 1) * (K + 1) := Nat.mul_le_mul_right _ (Nat.pow_le_pow_right (by decide) (Nat.min_le_right _ _))
theorem TB.of {n m K X : Nat} {A : Nat → Nat → Rat} (hn : 0 < n) (hK : 1 ≤ K) [hA : ∀ i j, Bt (A i j) K] (hX : (3 * (4 ^ (n - 1) * (K + 1))) / 32 + 1 ≤ X) : TB n m X A := by
  refine ⟨fun c _ => ?_, fun c _ i j => ?_⟩
  · have h := (stps_eb (m := m) hn hK (hA := hA) c).d
    have := gb_le n K (stps n m false A c).at'
    exact (h.mono (show _ ≤ 3 * (4 ^ (n - 1) * (K + 1)) by omega)).wt hX
  · have h := (stps_eb (m := m) hn hK (hA := hA) c).A i j
    have := gb_le n K (stps n m false A c).at'
    exact (h.mono (show _ ≤ 3 * (4 ^ (n - 1) * (K + 1)) by omega)).wt hX
end Go.Proofs.YtdnmoggifjlbiaaGreat.AM
/- What elimination tells: the determinant, the rank; what it leaves. -/
namespace Go.Proofs.YtdnmoggifjlbiaaGreat.AM
open Go.Proofs.YtdnmoggifjlbiaaGreat.LA (Mt S S_succ S_zero S_congr S_add S_mul S_mulr S_single S_null S_cut det det_congr det_swp det_addr det_low HasRank rank_swp rank_addr rank_congr addr upd upd_at upd_ne one inverse Eqn mul tr)
set_option linter.unusedVariables false
set_option linter.unusedSimpArgs false
/-- Rows exchanged, multiples of rows added to others: of n rows, m columns. -/
inductive RE (n m : Nat) : Mt → Mt → Rat → Prop where
  | refl {A B : Mt} (h : ∀ i j, i < n → j < m → A i j = B i j) : RE n m A B 1
  | swp {A B C : Mt} {σ : Rat} (a b : Nat) (ha : a < n) (hb : b < n) (hab : a ≠ b) (h : RE n m A B σ) (hC : ∀ i j, i < n → j < m → C i j = LA.swp B a b i j) : RE n m A C (-σ)
  | addr {A B C : Mt} {σ : Rat} (a b : Nat) (f : Rat) (ha : a < n) (hb : b < n) (hab : a ≠ b) (h : RE n m A B σ) (hC : ∀ i j, i < n → j < m → C i j = LA.addr B a b f i j) : RE n m A C σ
theorem RE.congr {n m : Nat} {A B C : Mt} {σ : Rat} (h : RE n m A B σ) (hc : ∀ i j, i < n → j < m → B i j = C i j) : RE n m A C σ := by
  cases h with
  | refl h => exact .refl fun i j hi hj => (h i j hi hj).trans (hc i j hi hj)
  | swp a b ha hb hab h hC => exact .swp a b ha hb hab h fun i j hi hj => (hc i j hi hj).symm.trans (hC i j hi hj)
  | addr a b f ha hb hab h hC => exact .addr a b f ha hb hab h fun i j hi hj => (hc i j hi hj).symm.trans (hC i j hi hj)
theorem RE.det {n m : Nat} {A B : Mt} {σ : Rat} (hnm : n ≤ m) (h : RE n m A B σ) : det n B = σ * det n A := by
  induction h with
  | refl h => rw [Rat.one_mul]; exact det_congr fun i j hi hj => (h i j hi (by omega)).symm
  | swp a b ha hb hab h hC ih => rw [det_congr (B := LA.swp _ a b) fun i j hi hj => hC i j hi (by omega), det_swp _ ha hb hab, ih, Rat.neg_mul]
  | addr a b f ha hb hab h hC ih => rw [det_congr (B := LA.addr _ a b f) fun i j hi hj => hC i j hi (by omega), det_addr _ ha hb hab, ih]
theorem RE.rank {n m : Nat} {A B : Mt} {σ : Rat} (hnm : n ≤ m) (h : RE n m A B σ) : ∀ {r : Nat}, HasRank n B r → HasRank n A r := by
  induction h with
  | refl h => exact fun k => rank_congr (fun i j hi hj => (h i j hi (by omega)).symm) k
  | swp a b ha hb hab h hC ih =>
    refine fun k => ih (rank_congr (fun i j hi hj => ?_) (rank_swp ha hb hab k))
    unfold LA.swp
    by_cases e1 : i = a
    · subst e1
      rw [if_pos rfl, hC b j hb (by omega)]
      unfold LA.swp
      rw [if_neg (Ne.symm hab), if_pos rfl]
    · rw [if_neg e1]
      by_cases e2 : i = b
      · subst e2
        rw [if_pos rfl, hC a j ha (by omega)]
        unfold LA.swp
        rw [if_pos rfl]
      · rw [if_neg e2, hC i j hi (by omega)]
        unfold LA.swp
        rw [if_neg e1, if_neg e2]
  | addr a b f ha hb hab h hC ih =>
    refine fun k => ih (rank_congr (fun i j hi hj => ?_) (rank_addr ha hb hab (-f) k))
    unfold LA.addr
    by_cases e1 : i = a
    · subst e1
      rw [upd_at, hC i j hi (by omega), hC b j hb (by omega)]
      unfold LA.addr
      rw [upd_at, upd_ne _ _ _ (Ne.symm hab)]
      grind
    · rw [upd_ne _ _ _ e1, hC i j hi (by omega)]
      unfold LA.addr
      rw [upd_ne _ _ _ e1]
/-- What all rows send to nought. -/
def Ker (n m : Nat) (A : Mt) (y : Nat → Rat) : Prop := ∀ r, r < n → S m (fun j => A r j * y j) = 0
theorem RE.ker {n m : Nat} {A B : Mt} {σ : Rat} (h : RE n m A B σ) {y : Nat → Rat} : Ker n m B y → Ker n m A y := by
  induction h with
  | refl h => intro k r hr; rw [S_congr fun j hj => by rw [h r j hr hj]]; exact k r hr
  | swp a b ha hb hab h hC ih =>
    rename_i B C σ
    intro k
    refine ih fun r hr => ?_
    have key : ∀ r r', r < n → r' < n → (∀ j, j < m → C r j = B r' j) → S m (fun j => B r' j * y j) = 0 := fun r r' h1 h2 h3 => by
      rw [S_congr (g := fun j => C r j * y j) fun j hj => by rw [h3 j hj]]; exact k r h1
    by_cases e1 : r = a
    · subst e1; exact key b r hb hr fun j hj => by rw [hC b j hb hj]; unfold LA.swp; rw [if_neg (Ne.symm hab), if_pos rfl]
    · by_cases e2 : r = b
      · subst e2; exact key a r ha hr fun j hj => by rw [hC a j ha hj]; unfold LA.swp; rw [if_pos rfl]
      · exact key r r hr hr fun j hj => by rw [hC r j hr hj]; unfold LA.swp; rw [if_neg e1, if_neg e2]
  | addr a b f ha hb hab h hC ih =>
    rename_i B C σ
    intro k
    refine ih fun r hr => ?_
    have kb : S m (fun j => B b j * y j) = 0 := by
      rw [S_congr (g := fun j => C b j * y j) fun j hj => by rw [hC b j hb hj]; unfold LA.addr; rw [upd_ne _ _ _ (Ne.symm hab)]]
      exact k b hb
    by_cases e1 : r = a
    · subst e1
      have k1 := k r hr
      rw [S_congr (g := fun j => B r j * y j + f * (B b j * y j)) fun j hj => by rw [hC r j hr hj]; unfold LA.addr; rw [upd_at]; grind, S_add, S_mul, kb] at k1
      grind
    · rw [S_congr (g := fun j => C r j * y j) fun j hj => by rw [hC r j hr hj]; unfold LA.addr; rw [upd_ne _ _ _ e1]]
      exact k r hr
theorem RE.sq {n m : Nat} {A B : Mt} {σ : Rat} (h : RE n m A B σ) : σ * σ = 1 := by
  induction h with
  | refl h => exact Rat.one_mul 1
  | swp a b ha hb hab h hC ih => rw [Rat.neg_mul, Rat.mul_neg, Rat.neg_neg]; exact ih
  | addr a b f ha hb hab h hC ih => exact ih
def prodP (f : Nat → Rat) : Nat → Rat
  | 0 => 1
  | k + 1 => prodP f k * f k
theorem prodP_congr {f g : Nat → Rat} : ∀ {k : Nat}, (∀ i, i < k → f i = g i) → prodP f k = prodP g k
  | 0, _ => rfl
  | k + 1, h => by unfold prodP; rw [prodP_congr fun i hi => h i (by omega), h k (Nat.lt_succ_self k)]
/-- The rows in their order. -/
def PR (s : ES) : Mt := fun r j => s.A (s.π r) j
/-- What holds behind c columns. -/
structure GI (n m c : Nat) (all : Bool) (A : Mt) (s : ES) (σ : Rat) (col : Nat → Nat) : Prop where
  re : RE n m A (PR s) σ
  d : s.d = σ * prodP (fun i => PR s i (col i)) s.at'
  low : ∀ r j, s.at' ≤ r → r < n → j < c → PR s r j = 0
  lt : ∀ i, i < s.at' → col i < c
  nz : ∀ i, i < s.at' → PR s i (col i) ≠ 0
  ahead : ∀ i, i < s.at' → ∀ j, j < col i → PR s i j = 0
  inc : ∀ i j, i < j → j < s.at' → col i < col j
  cl : all = true → ∀ i r, i < s.at' → r < n → r ≠ i → PR s r (col i) = 0
theorem cln_at {B : Nat → Nat → Rat} {π : Nat → Nat} {all : Bool} {a c m n r : Nat} (hinj : ∀ i j, i < n → j < n → π i = π j → i = j) (hr : r < n) (j : Nat) (hj : tst all a r ∧ c ≤ j ∧ j < m) : cln B π all a c m n (π r) j = B (π r) j - B (π r) c / B (π a) c * B (π a) j := by
  unfold cln; rw [if_pos ⟨⟨r, hr, hj.1, rfl⟩, hj.2⟩]
theorem cln_not {B : Nat → Nat → Rat} {π : Nat → Nat} {all : Bool} {a c m n r : Nat} (hinj : ∀ i j, i < n → j < n → π i = π j → i = j) (hr : r < n) (j : Nat) (hj : ¬ (tst all a r ∧ c ≤ j ∧ j < m)) : cln B π all a c m n (π r) j = B (π r) j := by
  unfold cln; rw [if_neg]
  rintro ⟨⟨i, h1, h2, h3⟩, h4⟩
  exact hj ⟨by rw [hinj r i hr h1 h3]; exact h2, h4⟩
/-- Rows from the one at a place on, cleaned, one by one. -/
theorem re_clean {n m c a : Nat} {all : Bool} {A Q : Mt} {σ : Rat} (h : RE n m A Q σ) (ha : a < n) (hz : ∀ j, j < c → Q a j = 0) (C : Mt)
    (h1 : ∀ r j, r < n → j < m → tst all a r → c ≤ j → C r j = Q r j - Q r c / Q a c * Q a j) (h2 : ∀ r j, r < n → j < m → ¬ (tst all a r ∧ c ≤ j) → C r j = Q r j) : RE n m A C σ := by
  have key : ∀ k, k ≤ n → RE n m A (fun r j => if r < k then C r j else Q r j) σ := by
    intro k
    induction k with
    | zero => intro _; exact h
    | succ k ih =>
      intro hk
      by_cases ht : tst all a k
      · refine .addr k a (-(Q k c / Q a c)) (by omega) ha (tst_ne ht) (ih (by omega)) fun i j hi hj => ?_
        unfold LA.addr
        have hCa : ∀ j, j < m → (if a < k then C a j else Q a j) = Q a j := fun j hj => by
          split
          · exact h2 a j ha hj fun e => tst_ne e.1 rfl
          · rfl
        by_cases e : i = k
        · subst e
          rw [upd_at]
          dsimp only
          rw [if_pos (Nat.lt_succ_self i), if_neg (Nat.lt_irrefl _), hCa j hj]
          by_cases hcj : c ≤ j
          · rw [h1 i j hi hj ht hcj]; grind
          · rw [h2 i j hi hj (fun e => hcj e.2), hz j (by omega)]; grind
        · rw [upd_ne _ _ _ e]
          by_cases e2 : i < k
          · rw [if_pos (by omega), if_pos e2]
          · rw [if_neg (by omega), if_neg e2]
      · refine (ih (by omega)).congr fun i j hi hj => ?_
        by_cases e : i = k
        · subst e; rw [if_neg (Nat.lt_irrefl _), if_pos (by omega), h2 i j hi hj (fun e => ht e.1)]
        · by_cases e2 : i < k
          · rw [if_pos e2, if_pos (by omega)]
          · rw [if_neg e2, if_neg (by omega)]
  exact (key n (Nat.le_refl n)).congr fun i j hi _ => if_pos hi
theorem det1_swp {d : Rat} {i a : Nat} : det1 d i a = (if i = a then 1 else -1) * d := by
  unfold det1
  split
  · rw [Rat.one_mul]
  · rw [Rat.neg_mul, Rat.one_mul]
theorem gi_step {n m c : Nat} {all : Bool} {A : Mt} {s : ES} {σ : Rat} {col : Nat → Nat} (hm : c < m) (hlt : ∀ i, i < n → s.π i < n) (hinj : ∀ i j, i < n → j < n → s.π i = s.π j → i = j) (h : GI n m c all A s σ col) :
    ∃ σ' col', GI n m (c + 1) all A (stp n m all s c) σ' col' := by
  obtain ⟨f1, f2, f3, f4⟩ := fnd_le (fun i => s.A (s.π i) c ≠ 0) (n - s.at') s.at'
  by_cases hfn : fnd (fun i => s.A (s.π i) c ≠ 0) (n - s.at') s.at' < n
  · have e : stp n m all s c = ⟨s.at' + 1, det1 s.d (fnd (fun i => s.A (s.π i) c ≠ 0) (n - s.at') s.at') s.at' * s.A (s.π (fnd (fun i => s.A (s.π i) c ≠ 0) (n - s.at') s.at')) c, swp s.π (fnd (fun i => s.A (s.π i) c ≠ 0) (n - s.at') s.at') s.at',
      cln s.A (swp s.π (fnd (fun i => s.A (s.π i) c ≠ 0) (n - s.at') s.at') s.at') all s.at' c m n⟩ := if_pos hfn
    rw [e]
    have hnz := f4 (by omega)
    clear e f2 f3 f4
    obtain ⟨a, d, π, B⟩ := s
    dsimp only at *
    generalize fnd (fun i => B (π i) c ≠ 0) (n - a) a = i0 at *
    have han : a < n := by omega
    have hinj' := swp_inj hinj hfn han
    have hP : ∀ r j, PR ⟨a, d, π, B⟩ r j = B (π r) j := fun _ _ => rfl
    -- the rows behind the exchange
    have hQa : ∀ j, B (swp π i0 a a) j = B (π i0) j := fun j => by rw [swp_at]
    have hQ : ∀ r, r ≠ a → ∃ r', (r' = if r = i0 then a else r) ∧ ∀ j, B (swp π i0 a r) j = B (π r') j := fun r hr => by
      refine ⟨_, rfl, fun j => ?_⟩
      unfold swp updN
      rw [if_neg hr]
      by_cases e : r = i0
      · rw [if_pos e, if_pos e]
      · rw [if_neg e, if_neg e]
    have hQi : ∀ r, r < a → ∀ j, B (swp π i0 a r) j = B (π r) j := fun r hr j => by
      obtain ⟨r', e, h2⟩ := hQ r (by omega)
      rw [if_neg (by omega)] at e
      rw [h2, e]
    have hQz : ∀ r j, a ≤ r → r < n → j < c → B (swp π i0 a r) j = 0 := fun r j h1 h2 h3 => by
      by_cases e : r = a
      · subst e; rw [hQa]; exact h.low i0 j f1 hfn h3
      · obtain ⟨r', e2, h4⟩ := hQ r e
        rw [h4]
        refine h.low r' j ?_ ?_ h3
        · show a ≤ r'; rw [e2]; split <;> omega
        · rw [e2]; split <;> omega
    have hre : RE n m A (fun r j => B (swp π i0 a r) j) ((if i0 = a then 1 else -1) * σ) := by
      by_cases e : i0 = a
      · rw [if_pos e, Rat.one_mul]
        exact h.re.congr fun i j _ _ => by rw [hP, e, swp_self]
      · rw [if_neg e, show (-1 : Rat) * σ = -σ by rw [Rat.neg_mul, Rat.one_mul]]
        refine .swp i0 a hfn han e h.re fun i j hi hj => ?_
        unfold LA.swp
        show B (swp π i0 a i) j = if i = i0 then B (π a) j else if i = a then B (π i0) j else B (π i) j
        unfold swp updN
        by_cases e1 : i = a
        · rw [if_pos e1]
          by_cases e2 : i = i0
          · exact absurd (e2.symm.trans e1) e
          · rw [if_neg e2, if_pos e1]
        · rw [if_neg e1]
          by_cases e2 : i = i0
          · rw [if_pos e2, if_pos e2]
          · rw [if_neg e2, if_neg e2, if_neg e1]
    have hpv : B (swp π i0 a a) c ≠ 0 := by rw [hQa]; exact hnz
    have hC1 : ∀ r j, r < n → j < m → tst all a r → c ≤ j → cln B (swp π i0 a) all a c m n (swp π i0 a r) j = B (swp π i0 a r) j - B (swp π i0 a r) c / B (swp π i0 a a) c * B (swp π i0 a a) j := fun r j hr hj ht hcj => cln_at hinj' hr j ⟨ht, hcj, hj⟩
    have hC2 : ∀ r j, r < n → ¬ (tst all a r ∧ c ≤ j) → cln B (swp π i0 a) all a c m n (swp π i0 a r) j = B (swp π i0 a r) j := fun r j hr hn => cln_not hinj' hr j fun e => hn ⟨e.1, e.2.1⟩
    have hcl0 : ∀ r, r < n → tst all a r → cln B (swp π i0 a) all a c m n (swp π i0 a r) c = 0 := fun r hr ht => by
      rw [hC1 r c hr hm ht (Nat.le_refl c), Rat.div_mul_cancel hpv]; grind
    have hPn : ∀ r j, PR ⟨a + 1, det1 d i0 a * B (π i0) c, swp π i0 a, cln B (swp π i0 a) all a c m n⟩ r j = cln B (swp π i0 a) all a c m n (swp π i0 a r) j := fun _ _ => rfl
    have hsame : ∀ i, i < a → ∀ j, j < c → cln B (swp π i0 a) all a c m n (swp π i0 a i) j = B (π i) j := fun i hi j hj => by
      rw [hC2 i j (by omega) (fun e => by omega), hQi i hi]
    have hrow : ∀ j, cln B (swp π i0 a) all a c m n (swp π i0 a a) j = B (π i0) j := fun j => by
      rw [hC2 a j han (fun e => tst_ne e.1 rfl), hQa]
    refine ⟨(if i0 = a then 1 else -1) * σ, fun i => if i = a then c else col i, ?_, ?_, ?_, ?_, ?_, ?_, ?_, ?_⟩
    · exact (re_clean hre han (fun j hj => hQz a j (Nat.le_refl a) han hj) (fun r j => cln B (swp π i0 a) all a c m n (swp π i0 a r) j) hC1 (fun r j hr _ hn => hC2 r j hr hn)).congr fun _ _ _ _ => rfl
    · show det1 d i0 a * B (π i0) c = (if i0 = a then 1 else -1) * σ * (prodP (fun i => cln B (swp π i0 a) all a c m n (swp π i0 a i) (if i = a then c else col i)) a * cln B (swp π i0 a) all a c m n (swp π i0 a a) (if a = a then c else col a))
      have hd : d = σ * prodP (fun i => B (π i) (col i)) a := h.d
      have e1 : prodP (fun i => cln B (swp π i0 a) all a c m n (swp π i0 a i) (if i = a then c else col i)) a = prodP (fun i => B (π i) (col i)) a := prodP_congr fun i hi => by
        rw [if_neg (show ¬ i = a by omega)]; exact hsame i hi _ (h.lt i hi)
      rw [e1, if_pos rfl, hrow, det1_swp, hd]
      grind
    · intro r j h1 h2 h3
      have h1 : a + 1 ≤ r := h1
      rw [hPn]
      by_cases e : j = c
      · subst e; exact hcl0 r h2 (.inl (by omega))
      · rw [hC2 r j h2 (fun e => by omega)]; exact hQz r j (by omega) h2 (by omega)
    · intro i hi
      have hi : i < a + 1 := hi
      split
      · omega
      · have := h.lt i (show i < a by omega); omega
    · intro i hi
      have hi : i < a + 1 := hi
      rw [hPn]
      by_cases e : i = a
      · subst e; rw [if_pos rfl, hrow]; exact hnz
      · rw [if_neg e, hsame i (by omega) _ (h.lt i (show i < a by omega))]; exact h.nz i (show i < a by omega)
    · intro i hi j hj
      have hi : i < a + 1 := hi
      rw [hPn]
      by_cases e : i = a
      · subst e; rw [if_pos rfl] at hj; rw [hrow]; exact h.low i0 j f1 hfn hj
      · rw [if_neg e] at hj
        have hia : i < a := by omega
        rw [hsame i hia j (by have := h.lt i hia; omega)]; exact h.ahead i hia j hj
    · intro i j hij hj
      have hj : j < a + 1 := hj
      rw [if_neg (show ¬ i = a by omega)]
      split
      · exact h.lt i (show i < a by omega)
      · exact h.inc i j hij (show j < a by omega)
    · intro hall i r hi hr hri
      have hi : i < a + 1 := hi
      rw [hPn]
      by_cases e : i = a
      · subst e
        rw [if_pos rfl]
        exact hcl0 r hr (by
          rcases Nat.lt_or_ge i r with h1 | h1
          · exact .inl h1
          · exact .inr ⟨hall, by omega⟩)
      · have hia : i < a := by omega
        have hci := h.lt i hia
        rw [if_neg e, hC2 r _ hr (fun e => by omega)]
        by_cases e2 : r < a
        · rw [hQi r e2]; exact h.cl hall i r hia hr hri
        · exact hQz r _ (by omega) hr hci
  · have e : stp n m all s c = s := if_neg hfn
    rw [e]
    refine ⟨σ, col, h.re, h.d, fun r j h1 h2 h3 => ?_, fun i hi => Nat.lt_succ_of_lt (h.lt i hi), h.nz, h.ahead, h.inc, h.cl⟩
    by_cases e : j = c
    · subst e; exact Classical.byContradiction fun hne => f3 r h1 (by omega) hne
    · exact h.low r j h1 h2 (by omega)
theorem stps_perm {n m : Nat} {all : Bool} {A : Nat → Nat → Rat} : ∀ c, (stps n m all A c).at' ≤ c ∧ (∀ i, i < n → (stps n m all A c).π i < n) ∧ ∀ i j, i < n → j < n → (stps n m all A c).π i = (stps n m all A c).π j → i = j
  | 0 => ⟨Nat.le_refl _, fun i hi => hi, fun i j _ _ e => e⟩
  | c + 1 => by
    obtain ⟨h1, h2, h3⟩ := stps_perm (n := n) (m := m) (all := all) (A := A) c
    show (stp n m all (stps n m all A c) c).at' ≤ c + 1 ∧ (∀ i, i < n → (stp n m all (stps n m all A c) c).π i < n) ∧ ∀ i j, i < n → j < n → (stp n m all (stps n m all A c) c).π i = (stp n m all (stps n m all A c) c).π j → i = j
    generalize stps n m all A c = s at *
    unfold stp
    split
    · rename_i hi
      have h4 := (fnd_le (fun i => s.A (s.π i) c ≠ 0) (n - s.at') s.at').1
      exact ⟨by show s.at' + 1 ≤ c + 1; omega, swp_lt h2 hi (by omega), swp_inj h3 hi (by omega)⟩
    · exact ⟨by omega, h2, h3⟩
theorem stps_gi {n m : Nat} {all : Bool} {A : Mt} : ∀ c, c ≤ m → ∃ σ col, GI n m c all A (stps n m all A c) σ col
  | 0, _ => ⟨1, fun _ => 0, .refl fun _ _ _ _ => rfl, (Rat.one_mul 1).symm, fun r j _ _ h => absurd h (Nat.not_lt_zero _), fun i h => absurd h (Nat.not_lt_zero _), fun i h => absurd h (Nat.not_lt_zero _), fun i h => absurd h (Nat.not_lt_zero _), fun i j _ h => absurd h (Nat.not_lt_zero _), fun _ i r h => absurd h (Nat.not_lt_zero _)⟩
  | c + 1, hc => by
    obtain ⟨σ, col, h⟩ := stps_gi (n := n) (m := m) (all := all) (A := A) c (by omega)
    obtain ⟨_, h2, h3⟩ := stps_perm (n := n) (m := m) (all := all) (A := A) c
    exact gi_step (by omega) h2 h3 h
theorem GI.le {n m c : Nat} {all : Bool} {A : Mt} {s : ES} {σ : Rat} {col : Nat → Nat} (h : GI n m c all A s σ col) : ∀ i, i < s.at' → i ≤ col i
  | 0, _ => Nat.zero_le _
  | i + 1, hi => by
    have h1 := h.le i (by omega)
    have h2 := h.inc i (i + 1) (by omega) hi
    omega
/-- Where all columns have a pivot each stands in its row. -/
theorem GI.full {n m : Nat} {all : Bool} {A : Mt} {s : ES} {σ : Rat} {col : Nat → Nat} (h : GI n m n all A s σ col) (hf : s.at' = n) : ∀ i, i < n → col i = i := by
  have hge : ∀ k i, i + k + 1 = n → col i ≤ i := by
    intro k
    induction k with
    | zero => intro i hi; have := h.lt i (by omega); omega
    | succ k ih =>
      intro i hi
      have h1 := ih (i + 1) (by omega)
      have h2 := h.inc i (i + 1) (by omega) (by omega)
      omega
  intro i hi
  have h1 := h.le i (by omega)
  have h2 := hge (n - 1 - i) i (by omega)
  omega
theorem prodP_fold (f : Nat → Rat) (n : Nat) : (List.range n).foldl (fun p i => p * f i) 1 = prodP f n := by
  induction n with
  | zero => rfl
  | succ n ih => rw [List.range_succ, List.foldl_append, ih]; rfl
theorem fin_det {n m : Nat} {all : Bool} {A : Mt} (hnm : n ≤ m) : (if (stps n m all A n).at' < n then 0 else (stps n m all A n).d) = det n A := by
  obtain ⟨σ, col, h⟩ := stps_gi (n := n) (m := m) (all := all) (A := A) n hnm
  obtain ⟨hle, _, _⟩ := stps_perm (n := n) (m := m) (all := all) (A := A) n
  generalize stps n m all A n = s at *
  have h1 := h.re.det hnm
  have h2 := h.re.sq
  split
  · rename_i hlt
    have h3 : det n (PR s) = 0 := LA.det_zero_row _ (a := n - 1) (by omega) fun j hj => h.low (n - 1) j (by omega) (by omega) hj
    rw [h3] at h1
    have : det n A = σ * (σ * det n A) := by rw [← Rat.mul_assoc, h2, Rat.one_mul]
    rw [this, ← h1, Rat.mul_zero]
  · have hf : s.at' = n := by omega
    have hcol := h.full hf
    have h3 : det n (PR s) = prodP (fun i => PR s i i) n := by
      rw [det_low n _ (fun i j hi hj => h.ahead i (by omega) j (by rw [hcol i hi]; exact hj)), prodP_fold]
    have h4 := h.d
    rw [hf, prodP_congr (g := fun i => PR s i i) (fun i hi => by rw [hcol i hi]), ← h3, h1] at h4
    rw [h4, ← Rat.mul_assoc, h2, Rat.one_mul]
theorem fin_rank {n m : Nat} {all : Bool} {A : Mt} (hnm : n ≤ m) : HasRank n A (stps n m all A n).at' := by
  obtain ⟨σ, col, h⟩ := stps_gi (n := n) (m := m) (all := all) (A := A) n hnm
  obtain ⟨hle, _, _⟩ := stps_perm (n := n) (m := m) (all := all) (A := A) n
  generalize stps n m all A n = s at *
  refine h.re.rank hnm ⟨⟨one, PR s, fun i j hi hj => ?_⟩, ?_⟩
  · by_cases e : i < s.at'
    · rw [S_single e (fun k hk hne => by unfold one; rw [if_neg (Ne.symm hne), Rat.zero_mul])]
      unfold one; rw [if_pos rfl, Rat.one_mul]
    · rw [h.low i j (by omega) hi (by omega), S_null fun k hk => by unfold one; rw [if_neg (by omega), Rat.zero_mul]]
  · -- the pivots' columns have a right inverse
    have hd : det s.at' (tr fun i k => PR s i (col k)) ≠ 0 := by
      rw [LA.det_tr, det_low s.at' _ (fun i j hi hj => h.ahead i hi (col j) (h.inc j i hj hi))]
      rw [prodP_fold]
      have : ∀ k, k ≤ s.at' → prodP (fun i => PR s i (col i)) k ≠ 0 := by
        intro k
        induction k with
        | zero => intro _; show (1 : Rat) ≠ 0; decide
        | succ k ih => intro hk; exact fun e => (Rat.mul_eq_zero.1 e).elim (ih (by omega)) (h.nz k (by omega))
      exact this s.at' (Nat.le_refl _)
    obtain ⟨X, hX⟩ := inverse _ hd
    refine ⟨one, fun j b => S s.at' fun k => if j = col k then X b k else 0, fun a b ha hb => ?_⟩
    have e1 : S n (fun i => S n (fun j => one a i * PR s i j * S s.at' fun k => if j = col k then X b k else 0)) = S n (fun j => PR s a j * S s.at' fun k => if j = col k then X b k else 0) := by
      rw [S_single (k := a) (by omega) (fun i _ hne => S_null fun j _ => by unfold one; rw [if_neg (Ne.symm hne), Rat.zero_mul, Rat.zero_mul])]
      exact S_congr fun j _ => by unfold one; rw [if_pos rfl, Rat.one_mul]
    rw [e1]
    have e2 : S n (fun j => PR s a j * S s.at' fun k => if j = col k then X b k else 0) = S s.at' (fun k => S n fun j => PR s a j * (if j = col k then X b k else 0)) := by
      rw [← LA.S_swap]
      exact S_congr fun j _ => (S_mul _ _ _).symm
    rw [e2]
    have e3 : S s.at' (fun k => S n fun j => PR s a j * (if j = col k then X b k else 0)) = S s.at' (fun k => X b k * PR s a (col k)) := S_congr fun k hk => by
      rw [S_single (k := col k) (h.lt k hk) (fun j _ hne => by rw [if_neg hne, Rat.mul_zero]), if_pos rfl, Rat.mul_comm]
    rw [e3, LA.one_symm]
    exact hX b a hb ha
end Go.Proofs.YtdnmoggifjlbiaaGreat.AM
/- The document's dense matrices: walked. -/
namespace Go.Proofs.YtdnmoggifjlbiaaGreat.AM
open Go Go.RowKit Go.Proofs.YtdnmoggifjlbiaaGreat.PN Go.Proofs.YtdnmoggifjlbiaaGreat.V
open Go.Proofs.YtdnmoggifjlbiaaGreat.LA (S S_succ S_zero S_congr)
set_option linter.unusedVariables false
set_option linter.unusedSimpArgs false
set_option maxRecDepth 4000
set_option maxHeartbeats 4000000
end Go.Proofs.YtdnmoggifjlbiaaGreat.AM
/- The document's dense matrices: the rest; leading minors: walked. -/
namespace Go.Proofs.YtdnmoggifjlbiaaGreat.AM
open Go Go.RowKit Go.Proofs.YtdnmoggifjlbiaaGreat.PN Go.Proofs.YtdnmoggifjlbiaaGreat.V
open Go.Proofs.YtdnmoggifjlbiaaGreat.LA (S S_succ S_zero S_congr)
set_option linter.unusedVariables false
set_option linter.unusedSimpArgs false
set_option maxRecDepth 4000
set_option maxHeartbeats 4000000
theorem stps_congr {n m : Nat} {all : Bool} {A A' : Nat → Nat → Rat} (h : ∀ i j, j < m → A i j = A' i j) : ∀ c, c ≤ m → (stps n m all A c).at' = (stps n m all A' c).at' ∧ (stps n m all A c).d = (stps n m all A' c).d ∧ (stps n m all A c).π = (stps n m all A' c).π ∧ ∀ i j, j < m → (stps n m all A c).A i j = (stps n m all A' c).A i j
  | 0, _ => ⟨rfl, rfl, rfl, h⟩
  | c + 1, hc => by
    obtain ⟨h1, h2, h3, h4⟩ := stps_congr h c (by omega)
    show (stp n m all (stps n m all A c) c).at' = (stp n m all (stps n m all A' c) c).at' ∧ (stp n m all (stps n m all A c) c).d = (stp n m all (stps n m all A' c) c).d ∧ (stp n m all (stps n m all A c) c).π = (stp n m all (stps n m all A' c) c).π ∧ ∀ i j, j < m → (stp n m all (stps n m all A c) c).A i j = (stp n m all (stps n m all A' c) c).A i j
    generalize stps n m all A c = s at *
    generalize stps n m all A' c = s' at *
    obtain ⟨a, d, π, B⟩ := s
    obtain ⟨a', d', π', B'⟩ := s'
    have h1 : a = a' := h1
    have h2 : d = d' := h2
    have h3 : π = π' := h3
    have k4 : ∀ i j, j < m → B i j = B' i j := h4
    clear h4
    subst h1; subst h2; subst h3
    have hp : (fun i => B (π i) c ≠ 0) = (fun i => B' (π i) c ≠ 0) := by funext i; rw [k4 _ _ (by omega)]
    unfold stp
    simp only [hp]
    split
    · refine ⟨rfl, ?_, rfl, fun i j hj => ?_⟩
      · show _ * B _ c = _ * B' _ c
        rw [k4 _ _ (by omega)]
      · show cln B _ _ _ _ _ _ i j = cln B' _ _ _ _ _ _ i j
        unfold cln
        rw [k4 i j hj, k4 i c (by omega), k4 _ c (by omega), k4 _ j hj]
    · exact ⟨rfl, rfl, rfl, k4⟩
theorem gs_eq (n : Nat) (F : Nat → Nat → Rat) : (stps n n false F n).at' = (gs n F).at' ∧ (stps n n false F n).d = (gs n F).d := by
  have h := stps_congr (n := n) (m := n) (all := false) (A := F) (A' := aug n F fun _ _ => 0) (fun i j hj => by unfold aug; rw [if_pos hj]) n (Nat.le_refl n)
  exact ⟨h.1, h.2.1⟩
theorem dd_gdet (n : Nat) (F : Nat → Nat → Rat) : dd n (stps n n false F n) = gdet n F := by
  obtain ⟨h1, h2⟩ := gs_eq n F
  unfold dd gdet
  rw [h1, h2]
end Go.Proofs.YtdnmoggifjlbiaaGreat.AM
/- Determinants and ranks: the plain laws. -/
namespace Go.Proofs.YtdnmoggifjlbiaaGreat.AM
open Go.Proofs.YtdnmoggifjlbiaaGreat.LA (Mt S S_succ S_zero S_congr det det_congr det_swp det_mul det_tr det_one HasRank rank_full rank_unique rank_tr)
set_option linter.unusedVariables false
set_option linter.unusedSimpArgs false
theorem gdet_det (n : Nat) (F : Nat → Nat → Rat) : gdet n F = det n F := by rw [← dd_gdet]; exact fin_det (Nat.le_refl n)
end Go.Proofs.YtdnmoggifjlbiaaGreat.AM
/- Systems: what both ways answer, in plain functions. -/
namespace Go.Proofs.YtdnmoggifjlbiaaGreat.AM
open Go.Proofs.YtdnmoggifjlbiaaGreat.PN
open Go.Proofs.YtdnmoggifjlbiaaGreat.LA (Mt S S_succ S_zero S_congr S_add S_mul S_mulr S_single S_null S_append det HasRank app unique)
set_option linter.unusedVariables false
set_option linter.unusedSimpArgs false
/-- A matrix with a column more. -/
abbrev augb (n : Nat) (F : Nat → Nat → Rat) (b : Nat → Rat) : Nat → Nat → Rat := aug n F fun i j => b (i + j)
/-- All columns cleaned; the answer. -/
noncomputable def gj (n : Nat) (F : Nat → Nat → Rat) (b : Nat → Rat) : ES := stps n (n + 1) true (augb n F b) n
noncomputable def gjx (n : Nat) (F : Nat → Nat → Rat) (b : Nat → Rat) (i : Nat) : Rat := PR (gj n F b) i n / PR (gj n F b) i i
/-- The triangle; from the last row up. -/
noncomputable def gt (n : Nat) (F : Nat → Nat → Rat) (b : Nat → Rat) : ES := stps n (n + 1) false (augb n F b) n
def bsx (n : Nat) (P : Nat → Nat → Rat) : Nat → Nat → Rat
  | 0 => fun _ => 0
  | k + 1 => updN (bsx n P k) (n - 1 - k) ((P (n - 1 - k) n - S k fun u => P (n - 1 - k) (n - 1 - k + 1 + u) * bsx n P k (n - 1 - k + 1 + u)) / P (n - 1 - k) (n - 1 - k))
/-- What the rows of P send x to, those of A do, too. -/
theorem ker_app {n : Nat} {A : Nat → Nat → Rat} {x : Nat → Rat} (h : Ker n (n + 1) A fun j => if j < n then x j else -1) {r : Nat} (hr : r < n) : S n (fun j => A r j * x j) = A r n := by
  have h1 := h r hr
  rw [S_succ] at h1
  dsimp only at h1
  rw [if_neg (Nat.lt_irrefl n), S_congr (g := fun j => A r j * x j) fun j hj => by rw [if_pos hj]] at h1
  grind
theorem app_ker {n : Nat} {A : Nat → Nat → Rat} {x : Nat → Rat} (h : ∀ r, r < n → S n (fun j => A r j * x j) = A r n) : Ker n (n + 1) A fun j => if j < n then x j else -1 := by
  intro r hr
  rw [S_succ]
  dsimp only
  rw [if_neg (Nat.lt_irrefl n), S_congr (g := fun j => A r j * x j) fun j hj => by rw [if_pos hj], h r hr]
  grind
theorem augb_app {n : Nat} {F : Nat → Nat → Rat} {b x : Nat → Rat} {r : Nat} (h : S n (fun j => augb n F b r j * x j) = augb n F b r n) : app n F x r = b r := by
  have e1 : S n (fun j => augb n F b r j * x j) = app n F x r := S_congr fun j hj => by
    show (if j < n then _ else _) * _ = _; rw [if_pos hj]
  rw [← e1, h]
  show (if n < n then _ else b (r + (n - n))) = _
  rw [if_neg (Nat.lt_irrefl n), Nat.sub_self, Nat.add_zero]
theorem det_augb (n : Nat) (F : Nat → Nat → Rat) (b : Nat → Rat) : det n (augb n F b) = det n F := LA.det_congr fun i j _ hj => if_pos hj
theorem gj_full (n : Nat) (F : Nat → Nat → Rat) (b : Nat → Rat) : (gj n F b).at' < n ↔ gdet n F = 0 := by
  have h1 := LA.rank_full (fin_rank (n := n) (m := n + 1) (all := true) (A := augb n F b) (Nat.le_succ n))
  rw [gdet_det, ← det_augb n F b]
  unfold gj
  constructor
  · intro h; exact Classical.byContradiction fun h2 => by have := h1.2.2 h2; omega
  · intro h
    rcases Nat.lt_or_ge (stps n (n + 1) true (augb n F b) n).at' n with h3 | h3
    · exact h3
    · exact absurd h (h1.2.1 (by omega))
theorem gj_nz {n : Nat} {F : Nat → Nat → Rat} {b : Nat → Rat} (h : gdet n F ≠ 0) : (gj n F b).at' = n ∧ (∀ i, i < n → PR (gj n F b) i i ≠ 0) ∧ ∀ i, i < n → app n F (gjx n F b) i = b i := by
  obtain ⟨σ, col, hG⟩ := stps_gi (n := n) (m := n + 1) (all := true) (A := augb n F b) n (Nat.le_succ n)
  have h1 := (stps_perm (n := n) (m := n + 1) (all := true) (A := augb n F b) n).1
  have h2 := gj_full n F b
  have hG : GI n (n + 1) n true (augb n F b) (gj n F b) σ col := hG
  have h1 : (gj n F b).at' ≤ n := h1
  have hf : (gj n F b).at' = n := by
    rcases Nat.lt_or_ge (gj n F b).at' n with h3 | h3
    · exact absurd (h2.1 h3) h
    · omega
  have hcol := hG.full hf
  have hnz : ∀ i, i < n → PR (gj n F b) i i ≠ 0 := fun i hi => by have := hG.nz i (by omega); rw [hcol i hi] at this; exact this
  refine ⟨hf, hnz, fun i hi => ?_⟩
  refine augb_app (ker_app (hG.re.ker (app_ker fun r hr => ?_)) hi)
  rw [S_single hr (fun j hj hne => by rw [show PR (gj n F b) r j = 0 by have := hG.cl rfl j r (by omega) hr (Ne.symm hne); rw [hcol j hj] at this; exact this, Rat.zero_mul])]
  unfold gjx
  rw [Rat.mul_comm, Rat.div_mul_cancel (hnz r hr)]
/-! ### How long they are -/
theorem pr_bits {n m K : Nat} {A : Nat → Nat → Rat} (hK : 1 ≤ K) [hA : ∀ i j, Bt (A i j) K] : ∀ c, ∀ r, r < n → ∀ j, Bt (PR (stps n m false A c) r j) (4 ^ (min r (stps n m false A c).at') * (K + 1) - 1)
  | 0, r, hr, j => by
    have h : Bt (PR (stps n m false A 0) r j) K := hA r j
    refine h.mono ?_
    show K ≤ 4 ^ (min r 0) * (K + 1) - 1
    rw [Nat.min_zero, Nat.pow_zero]; omega
  | c + 1, r, hr, j => by
    have ih := pr_bits (n := n) (m := m) hK (hA := hA) c
    obtain ⟨_, hlt, hinj⟩ := stps_perm (n := n) (m := m) (all := false) (A := A) c
    show Bt (PR (stp n m false (stps n m false A c) c) r j) (4 ^ (min r (stp n m false (stps n m false A c) c).at') * (K + 1) - 1)
    generalize stps n m false A c = s at *
    obtain ⟨a, d, π, B⟩ := s
    have ih : ∀ r, r < n → ∀ j, Bt (B (π r) j) (4 ^ (min r a) * (K + 1) - 1) := ih
    unfold stp
    split
    · rename_i hi
      obtain ⟨h1, _⟩ := fnd_le (fun i => B (π i) c ≠ 0) (n - a) a
      have hi : fnd (fun i => B (π i) c ≠ 0) (n - a) a < n := hi
      show Bt (cln B (swp π (fnd (fun i => B (π i) c ≠ 0) (n - a) a) a) false a c m n (swp π (fnd (fun i => B (π i) c ≠ 0) (n - a) a) a r) j) (4 ^ (min r (a + 1)) * (K + 1) - 1)
      generalize fnd (fun i => B (π i) c ≠ 0) (n - a) a = i0 at *
      have han : a < n := by omega
      have hinj' := swp_inj (n := n) (i := i0) (j := a) hinj hi han
      have hs : ∀ r, r < n → a ≤ r → ∀ j, Bt (B (swp π i0 a r) j) (4 ^ a * (K + 1) - 1) := fun r hr har j => by
        have key : ∃ r', r' < n ∧ a ≤ r' ∧ swp π i0 a r = π r' := by
          unfold swp updN
          by_cases e1 : r = a
          · rw [if_pos e1]; exact ⟨i0, hi, h1, rfl⟩
          · rw [if_neg e1]
            by_cases e2 : r = i0
            · rw [if_pos e2]; exact ⟨a, han, Nat.le_refl a, rfl⟩
            · rw [if_neg e2]; exact ⟨r, hr, har, rfl⟩
        obtain ⟨r', h3, h4, h5⟩ := key
        have := ih r' h3 j
        rw [show min r' a = a by omega] at this
        rw [h5]; exact this
      have hp : 1 ≤ 4 ^ a := Nat.pow_pos (by decide)
      have hpk : K + 1 ≤ 4 ^ a * (K + 1) := Nat.le_mul_of_pos_left _ hp
      rcases Nat.lt_or_ge a r with h2 | h2
      · rw [show min r (a + 1) = a + 1 by omega, Nat.pow_succ, Nat.mul_right_comm]
        by_cases hj : c ≤ j ∧ j < m
        · rw [cln_at hinj' hr j ⟨.inl h2, hj⟩]
          have w1 := hs r hr (by omega)
          have w2 := hs a han (Nat.le_refl a)
          exact (inferInstance : Bt (B (swp π i0 a r) j - B (swp π i0 a r) c / B (swp π i0 a a) c * B (swp π i0 a a) j) _).mono (by omega)
        · rw [cln_not hinj' hr j (fun e => hj e.2)]
          exact (hs r hr (by omega) j).mono (by omega)
      · rw [cln_not hinj' hr j (fun e => by rcases e.1 with h3 | ⟨h3, _⟩; omega; cases h3), show min r (a + 1) = r by omega]
        by_cases e : r = a
        · subst e; exact hs r hr (Nat.le_refl r) j
        · have e2 : swp π i0 a r = π r := by
            unfold swp updN
            rw [if_neg e, if_neg (by omega)]
          have := ih r hr j
          rw [show min r a = r by omega] at this
          rw [e2]; exact this
    · exact ih r hr j
/-- How long the parts of an answer are, from the last up. -/
def sbd (X : Nat → Nat) (Y : Nat → Nat) (i : Nat) : Nat → Nat
  | 0 => X i
  | k + 1 => sbd X Y i k + (X i + Y (i + 1 + k)) + 1
def ybd (n : Nat) (X : Nat → Nat) : Nat → Nat → Nat
  | 0 => fun _ => 0
  | k + 1 => fun i => if i = n - 1 - k then sbd X (ybd n X k) (n - 1 - k) k + X (n - 1 - k) else ybd n X k i
def ybOK (n : Nat) (X : Nat → Nat) : Bool := (List.range n).all fun k => Nat.ble (sbd X (ybd n X k) (n - 1 - k) k) 15000 && Nat.ble (X (n - 1 - k)) 15000
end Go.Proofs.YtdnmoggifjlbiaaGreat.AM
/- Systems: both ways walked. -/
namespace Go.Proofs.YtdnmoggifjlbiaaGreat.AM
open Go Go.RowKit Go.Proofs.YtdnmoggifjlbiaaGreat.PN Go.Proofs.YtdnmoggifjlbiaaGreat.V
open Go.Proofs.YtdnmoggifjlbiaaGreat.LA (S S_succ S_zero S_congr)
set_option linter.unusedVariables false
set_option linter.unusedSimpArgs false
set_option maxRecDepth 8000
set_option maxHeartbeats 8000000
theorem augb_wt {n K : Nat} {F : Nat → Nat → Rat} {b : Nat → Rat} [hf : ∀ i j, Wt (F i j) K] [hb : ∀ i, Wt (b i) K] (i j : Nat) : Wt (augb n F b i j) K := by
  unfold augb aug; split
  · exact hf i j
  · exact hb _
theorem d_beside {n i : Nat} {b : Nat → Rat} (hi : i < n) (hn : n ≤ 8) : Has Tryz.prog 111 [.i i, .cp (.row false n fun i => .q (b i))] (.row false 1 (fun j => .q (b (i + j)))) := by
  refine has_of Tryz.func111 (by kernel_rfl) rfl Tryz.ntmps111 Tryz.results111 rfl rfl rfl ?_
  refine run0 ?_
  refine ⟨.inr rfl, _, imp_slot (y := .row false 1 (fun j => .q (b (i + j)))) 3 rfl True.intro (Le.row (by omega) (fun _ _ => rfl) fun h => h), ?_⟩
  exact .one (.tmp rfl)
theorem d_solve {n K : Nat} {F : Nat → Nat → Rat} {b : Nat → Rat} [hf : ∀ i j, Wt (F i j) K] [hb : ∀ i, Wt (b i) K] (hK : K ≤ 399) (h0 : 0 < n) (hn : n ≤ 8) : Has Tryz.prog 77 [.mat false n (fun _ => n) (fun i j => .q (F i j)), .row false n (fun i => .q (b i))] (if gdet n F = 0 then .tup (.row true 0 fun _ => .q 0) (.i 9) else .tup (.row true n fun i => .q (gjx n F b i)) (.i 0)) := by
  have hcl : (if gdet n F = 0 then AV.tup (.row true 0 fun _ => .q 0) (.i 9) else .tup (.row true n fun i => .q (gjx n F b i)) (.i 0)).closed = true := by split <;> rfl
  refine has_of Tryz.func77 (by kernel_rfl) rfl Tryz.ntmps77 Tryz.results77 rfl hcl rfl ?_
  have wA : ∀ i j, Wt (augb n F b i j) K := fun i j => augb_wt (hf := hf) (hb := hb) i j
  refine run2 ?_
  refine awp_imp (imp_cell 3 rfl rfl rfl rfl) ?_
  have gN : decide ((n : Int) ≠ n) = false := decide_eq_false fun h => h rfl
  have gN2 : (decide ((n : Int) ≠ n) == false) = true := by rw [gN]; rfl
  repeat(first|refine run1 ?_|((with_reducible apply st_call);exact rfl;exact rfl;exact rfl;first|(exact d_square (hf := hf) (by omega) h0 (by omega))|(exact d_right (hf := hb) (by omega) (by omega)))|((with_reducible apply st_callg);exact rfl;exact rfl;(first|exact rfl|assumption);exact rfl;exact rfl;exact rfl;first|(exact d_square (hf := hf) (by omega) h0 (by omega))|(exact d_right (hf := hb) (by omega) (by omega))))
  refine awp_no rfl rfl ?_
  have c := d_of (n := n) (e := 1) (mm := 1) (g := 111) (c := fun i => ([AV.cp (.row false n fun i => .q (b i))].getD i (.v undef)).old) (F := F) (G := fun i j => b (i + j)) hn h0 (Nat.le_refl 1) rfl (fun i hi => d_beside hi hn)
  refine run0 ?_
  ((with_reducible apply st_callH); exact rfl; exact rfl; exact rfl; exact (c); (first | exact True.intro | exact ⟨rfl, rfl, rfl, True.intro⟩); exact rfl; exact rfl; exact rfl; exact rfl; (focus (repeat (first | exact True.intro | refine ⟨(by first | exact True.intro | rfl | exact ok_none (closed_ok rfl)), ?_⟩))); (first | exact True.intro | exact okf_WH | exact okf_pf (by exact True.intro) (by exact True.intro)))
  refine run0 ?_
  ((with_reducible apply st_callH); exact rfl; exact rfl; exact rfl; exact (d_steps (all := true) (hA := wA) (by omega) hn (by omega) (Nat.le_succ n)); (first | exact True.intro | exact ⟨rfl, rfl, rfl, True.intro⟩); exact rfl; exact rfl; exact rfl; exact rfl; (focus (repeat (first | exact True.intro | refine ⟨(by first | exact True.intro | rfl | exact ok_none (closed_ok rfl)), ?_⟩))); (first | exact True.intro | exact okf_WH | exact okf_pf (by exact True.intro) (by exact True.intro)))
  refine run0 ?_
  have hok := stps_ok (n := n) (m := n + 1) (all := true) (hA := wA) n
  have hX : 5 ^ n * (K + 1) ≤ 390625 * 400 := Nat.mul_le_mul (Nat.pow_le_pow_right (by decide) hn) (by omega)
  have eg : stps n (n + 1) true (augb n F b) n = gj n F b := rfl
  by_cases hd : gdet n F = 0
  · have hlt := (gj_full n F b).2 hd
    rw [if_pos hd]
    refine awp_yes rfl ?_ ?_
    · exact decide_eq_true (show ((stps n (n + 1) true (augb n F b) n).at' : Int) < n by rw [eg]; omega)
    refine run0 ?_
    refine ⟨.inr rfl, _, imp_slot (y := .row true 0 fun _ => .q 0) 4 rfl True.intro Le.nilrow, ?_⟩
    exact .two (.tmp rfl) (.tmp rfl)
  · obtain ⟨hat, hnz, _⟩ := gj_nz (b := b) hd
    have hxe : gjx n F b = fun i => PR (gj n F b) i n / PR (gj n F b) i i := rfl
    rw [if_neg hd, hxe]
    refine awp_no rfl ?_ ?_
    · exact decide_eq_false (show ¬ ((stps n (n + 1) true (augb n F b) n).at' : Int) < n by rw [eg]; omega)
    rw [eg] at hok
    rw [eg]
    generalize gj n F b = T at *
    obtain ⟨a, d, π, B⟩ := T
    have hlt : ∀ i, i < n → π i < n := hok.lt
    have wB : ∀ i j, Wt (B i j) (390625 * 400) := fun i j => (hok.wA i j).mono hX
    have hnz : ∀ i, i < n → B (π i) i ≠ 0 := hnz
    have hP : ∀ i j, PR ⟨a, d, π, B⟩ i j = B (π i) j := fun _ _ => rfl
    simp only [hP]
    refine run0 ?_
    refine awp_loop (fun m' s => ∃ k, k ≤ n ∧ m' = n - k ∧ s = stl [(0, .mat false n (fun _ => n) (fun i j => .q (F i j))), (7, .own 35 0), (6, .ptr 60 0 0), (39, .own 61 0), (40, .i n), (41, .i (k : Int))] (WH n (n + 1) d π B ++ [(35, (1, fun _ => .rats n (grow (fun i => .q (B (π i) n / B (π i) i)) ra0 k)))])) n _ (imp_WHt rfl rfl (fun _ _ => rfl) rfl rfl (fun _ _ => rfl) rfl (fun r hr => blen rfl fun _ _ => rfl) ?_ ?_) ⟨0, Nat.zero_le _, rfl, rfl⟩ ?_
    · exact eA
    · refine allh rfl (by decide) (blen rfl fun _ _ => rfl) True.intro True.intro
    · rintro m' s ⟨k, hk, rfl, rfl⟩
      refine run0 ?_
      refine awp_if rfl (fun h => ?_) (fun h => ?_)
      · have h' : (k : Int) < n := h
        have hkn : k < n := by omega
        have hpk := hlt k hkn
        repeat(first|refine run1 ?_|((with_reducible apply st_call);exact rfl;exact rfl;exact rfl;first|(exact c_quo ⟨by omega, by omega⟩ (hnz k hkn)))|((with_reducible apply st_callg);exact rfl;exact rfl;(first|exact rfl|assumption);exact rfl;exact rfl;exact rfl;first|(exact c_quo ⟨by omega, by omega⟩ (hnz k hkn))))
        refine q_loop (m' := n - (k + 1)) (by omega) (imp_WHt (n := n) (m := n + 1) (d := d) (π := π) (A := B) (e := [(0, .mat false n (fun _ => n) (fun i j => .q (F i j))), (7, .own 35 0), (6, .ptr 60 0 0), (39, .own 61 0), (40, .i n), (41, .i ((k + 1 : Nat) : Int))]) (t := [(35, (1, fun _ => .rats n (grow (fun i => .q (B (π i) n / B (π i) i)) ra0 (k + 1))))]) rfl rfl (fun _ _ => rfl) rfl rfl (fun _ _ => rfl) rfl (fun r hr => blen rfl fun _ _ => rfl) ?_ ?_) ⟨k + 1, by omega, rfl, rfl⟩
        · exact eA
        · refine allh rfl (by decide) (blen rfl fun i hi => grow_step _ _ k i) True.intro True.intro
      · have h' : ¬ (k : Int) < n := h
        obtain rfl : k = n := by omega
        refine run0 ?_
        refine ⟨.inr rfl, _, imp_rowv 4 (fun i => .q (B (π i) k / B (π i) i)) rfl rfl rfl (fun i hi => grow_full _ _ hi), ?_⟩
        exact .two (.tmp rfl) (.tmp rfl)
end Go.Proofs.YtdnmoggifjlbiaaGreat.AM
/- Numbers from 0 to n - 1, in each package of laws. -/
namespace Go.Proofs.YtdnmoggifjlbiaaGreat.AM
open Go Go.RowKit Go.Proofs.YtdnmoggifjlbiaaGreat.PN Go.Proofs.YtdnmoggifjlbiaaGreat.V
set_option linter.unusedVariables false
set_option linter.unusedSimpArgs false
theorem k_within12 {a n : Int} (hn : 0 < n) (hn' : n < 1000000000) : Has Tryz.prog 41 [.i a, .i n] (.i (wthn a n)) := by
  refine has_of Tryz.func41 (by kernel_rfl) rfl Tryz.ntmps41 Tryz.results41 rfl rfl rfl ?_
  have h1 := Int.tmod_lt_of_pos a hn
  have h2 : -n < a.tmod n := Int.lt_tmod_of_pos a hn
  refine run0 ?_
  refine awp_if rfl (fun h => ?_) (fun h => ?_)
  · have e : wthn a n = a.tmod n + n := if_pos h
    rw [e]
    refine run0 ?_
    refine ⟨.inr rfl, _, Imp.refl _, ?_⟩
    exact .one (.tmp rfl)
  · have e : wthn a n = a.tmod n := if_neg h
    rw [e]
    refine run0 ?_
    refine ⟨.inr rfl, _, Imp.refl _, ?_⟩
    exact .one (.tmp rfl)
end Go.Proofs.YtdnmoggifjlbiaaGreat.AM

/- Joined texts, 21: PGauss LawC DnH DnI LawA LawD PRing LawE. -/
import Derived.Test.YtdnmoggifjlbiaaGreatJ20
import Derived.Test.YtdnmoggifjlbiaaGreatJ13
import Derived.Test.YtdnmoggifjlbiaaGreatJ19
import Derived.Test.YtdnmoggifjlbiaaGreatJ14
set_option linter.unusedVariables false
set_option linter.unusedSimpArgs false
/- What elimination tells: the determinant, the rank; what it leaves. -/
namespace Go.Proofs.YtdnmoggifjlbiaaGreat.AM
open Go.Proofs.YtdnmoggifjlbiaaGreat.LA (Mt S S_succ S_zero S_congr S_add S_mul S_mulr S_single S_null S_cut det det_congr det_swp det_addr det_low HasRank rank_swp rank_addr rank_congr addr upd upd_at upd_ne one inverse Eqn mul tr)
set_option linter.unusedVariables false
set_option linter.unusedSimpArgs false
/-- Rows exchanged, multiples of rows added to others: of n rows, m columns. -/
inductive RE (n m : Nat) : Mt → Mt → Rat → Prop where
  | refl {A B : Mt} (h : ∀ i j, i < n → j < m → A i j = B i j) : RE n m A B 1
  | swp {A B C : Mt} {σ : Rat} (a b : Nat) (ha : a < n) (hb : b < n) (hab : a ≠ b) (h : RE n m A B σ) (hC : ∀ i j, i < n → j < m → C i j = LA.swp B a b i j) : RE n m A C (-σ)
  | addr {A B C : Mt} {σ : Rat} (a b : Nat) (f : Rat) (ha : a < n) (hb : b < n) (hab : a ≠ b) (h : RE n m A B σ) (hC : ∀ i j, i < n → j < m → C i j = LA.addr B a b f i j) : RE n m A C σ
theorem RE.congr {n m : Nat} {A B C : Mt} {σ : Rat} (h : RE n m A B σ) (hc : ∀ i j, i < n → j < m → B i j = C i j) : RE n m A C σ := by
  cases h with
  | refl h => exact .refl fun i j hi hj => (h i j hi hj).trans (hc i j hi hj)
  | swp a b ha hb hab h hC => exact .swp a b ha hb hab h fun i j hi hj => (hc i j hi hj).symm.trans (hC i j hi hj)
  | addr a b f ha hb hab h hC => exact .addr a b f ha hb hab h fun i j hi hj => (hc i j hi hj).symm.trans (hC i j hi hj)
theorem RE.det {n m : Nat} {A B : Mt} {σ : Rat} (hnm : n ≤ m) (h : RE n m A B σ) : det n B = σ * det n A := by
  induction h with
  | refl h => rw [Rat.one_mul]; exact det_congr fun i j hi hj => (h i j hi (by omega)).symm
  | swp a b ha hb hab h hC ih => rw [det_congr (B := LA.swp _ a b) fun i j hi hj => hC i j hi (by omega), det_swp _ ha hb hab, ih, Rat.neg_mul]
  | addr a b f ha hb hab h hC ih => rw [det_congr (B := LA.addr _ a b f) fun i j hi hj => hC i j hi (by omega), det_addr _ ha hb hab, ih]
theorem RE.rank {n m : Nat} {A B : Mt} {σ : Rat} (hnm : n ≤ m) (h : RE n m A B σ) : ∀ {r : Nat}, HasRank n B r → HasRank n A r := by
  induction h with
  | refl h => exact fun k => rank_congr (fun i j hi hj => (h i j hi (by omega)).symm) k
  | swp a b ha hb hab h hC ih =>
    refine fun k => ih (rank_congr (fun i j hi hj => ?_) (rank_swp ha hb hab k))
    unfold LA.swp
    by_cases e1 : i = a
    · subst e1
      rw [if_pos rfl, hC b j hb (by omega)]
      unfold LA.swp
      rw [if_neg (Ne.symm hab), if_pos rfl]
    · rw [if_neg e1]
      by_cases e2 : i = b
      · subst e2
        rw [if_pos rfl, hC a j ha (by omega)]
        unfold LA.swp
        rw [if_pos rfl]
      · rw [if_neg e2, hC i j hi (by omega)]
        unfold LA.swp
        rw [if_neg e1, if_neg e2]
  | addr a b f ha hb hab h hC ih =>
    refine fun k => ih (rank_congr (fun i j hi hj => ?_) (rank_addr ha hb hab (-f) k))
    unfold LA.addr
    by_cases e1 : i = a
    · subst e1
      rw [upd_at, hC i j hi (by omega), hC b j hb (by omega)]
      unfold LA.addr
      rw [upd_at, upd_ne _ _ _ (Ne.symm hab)]
      grind
    · rw [upd_ne _ _ _ e1, hC i j hi (by omega)]
      unfold LA.addr
      rw [upd_ne _ _ _ e1]
/-- What all rows send to nought. -/
def Ker (n m : Nat) (A : Mt) (y : Nat → Rat) : Prop := ∀ r, r < n → S m (fun j => A r j * y j) = 0
theorem RE.ker {n m : Nat} {A B : Mt} {σ : Rat} (h : RE n m A B σ) {y : Nat → Rat} : Ker n m B y → Ker n m A y := by
  induction h with
  | refl h => intro k r hr; rw [S_congr fun j hj => by rw [h r j hr hj]]; exact k r hr
  | swp a b ha hb hab h hC ih =>
    rename_i B C σ
    intro k
    refine ih fun r hr => ?_
    have key : ∀ r r', r < n → r' < n → (∀ j, j < m → C r j = B r' j) → S m (fun j => B r' j * y j) = 0 := fun r r' h1 h2 h3 => by
      rw [S_congr (g := fun j => C r j * y j) fun j hj => by rw [h3 j hj]]; exact k r h1
    by_cases e1 : r = a
    · subst e1; exact key b r hb hr fun j hj => by rw [hC b j hb hj]; unfold LA.swp; rw [if_neg (Ne.symm hab), if_pos rfl]
    · by_cases e2 : r = b
      · subst e2; exact key a r ha hr fun j hj => by rw [hC a j ha hj]; unfold LA.swp; rw [if_pos rfl]
      · exact key r r hr hr fun j hj => by rw [hC r j hr hj]; unfold LA.swp; rw [if_neg e1, if_neg e2]
  | addr a b f ha hb hab h hC ih =>
    rename_i B C σ
    intro k
    refine ih fun r hr => ?_
    have kb : S m (fun j => B b j * y j) = 0 := by
      rw [S_congr (g := fun j => C b j * y j) fun j hj => by rw [hC b j hb hj]; unfold LA.addr; rw [upd_ne _ _ _ (Ne.symm hab)]]
      exact k b hb
    by_cases e1 : r = a
    · subst e1
      have k1 := k r hr
      rw [S_congr (g := fun j => B r j * y j + f * (B b j * y j)) fun j hj => by rw [hC r j hr hj]; unfold LA.addr; rw [upd_at]; grind, S_add, S_mul, kb] at k1
      grind
    · rw [S_congr (g := fun j => C r j * y j) fun j hj => by rw [hC r j hr hj]; unfold LA.addr; rw [upd_ne _ _ _ e1]]
      exact k r hr
theorem RE.sq {n m : Nat} {A B : Mt} {σ : Rat} (h : RE n m A B σ) : σ * σ = 1 := by
  induction h with
  | refl h => exact Rat.one_mul 1
  | swp a b ha hb hab h hC ih => rw [Rat.neg_mul, Rat.mul_neg, Rat.neg_neg]; exact ih
  | addr a b f ha hb hab h hC ih => exact ih
def prodP (f : Nat → Rat) : Nat → Rat
  | 0 => 1
  | k + 1 => prodP f k * f k
theorem prodP_congr {f g : Nat → Rat} : ∀ {k : Nat}, (∀ i, i < k → f i = g i) → prodP f k = prodP g k
  | 0, _ => rfl
  | k + 1, h => by unfold prodP; rw [prodP_congr fun i hi => h i (by omega), h k (Nat.lt_succ_self k)]
/-- The rows in their order. -/
def PR (s : ES) : Mt := fun r j => s.A (s.π r) j
/-- What holds behind c columns. -/
structure GI (n m c : Nat) (all : Bool) (A : Mt) (s : ES) (σ : Rat) (col : Nat → Nat) : Prop where
  re : RE n m A (PR s) σ
  d : s.d = σ * prodP (fun i => PR s i (col i)) s.at'
  low : ∀ r j, s.at' ≤ r → r < n → j < c → PR s r j = 0
  lt : ∀ i, i < s.at' → col i < c
  nz : ∀ i, i < s.at' → PR s i (col i) ≠ 0
  ahead : ∀ i, i < s.at' → ∀ j, j < col i → PR s i j = 0
  inc : ∀ i j, i < j → j < s.at' → col i < col j
  cl : all = true → ∀ i r, i < s.at' → r < n → r ≠ i → PR s r (col i) = 0
theorem cln_at {B : Nat → Nat → Rat} {π : Nat → Nat} {all : Bool} {a c m n r : Nat} (hinj : ∀ i j, i < n → j < n → π i = π j → i = j) (hr : r < n) (j : Nat) (hj : tst all a r ∧ c ≤ j ∧ j < m) : cln B π all a c m n (π r) j = B (π r) j - B (π r) c / B (π a) c * B (π a) j := by
  unfold cln; rw [if_pos ⟨⟨r, hr, hj.1, rfl⟩, hj.2⟩]
theorem cln_not {B : Nat → Nat → Rat} {π : Nat → Nat} {all : Bool} {a c m n r : Nat} (hinj : ∀ i j, i < n → j < n → π i = π j → i = j) (hr : r < n) (j : Nat) (hj : ¬ (tst all a r ∧ c ≤ j ∧ j < m)) : cln B π all a c m n (π r) j = B (π r) j := by
  unfold cln; rw [if_neg]
  rintro ⟨⟨i, h1, h2, h3⟩, h4⟩
  exact hj ⟨by rw [hinj r i hr h1 h3]; exact h2, h4⟩
/-- Rows from the one at a place on, cleaned, one by one. -/
theorem re_clean {n m c a : Nat} {all : Bool} {A Q : Mt} {σ : Rat} (h : RE n m A Q σ) (ha : a < n) (hz : ∀ j, j < c → Q a j = 0) (C : Mt)
    (h1 : ∀ r j, r < n → j < m → tst all a r → c ≤ j → C r j = Q r j - Q r c / Q a c * Q a j) (h2 : ∀ r j, r < n → j < m → ¬ (tst all a r ∧ c ≤ j) → C r j = Q r j) : RE n m A C σ := by
  have key : ∀ k, k ≤ n → RE n m A (fun r j => if r < k then C r j else Q r j) σ := by
    intro k
    induction k with
    | zero => intro _; exact h
    | succ k ih =>
      intro hk
      by_cases ht : tst all a k
      · refine .addr k a (-(Q k c / Q a c)) (by omega) ha (tst_ne ht) (ih (by omega)) fun i j hi hj => ?_
        unfold LA.addr
        have hCa : ∀ j, j < m → (if a < k then C a j else Q a j) = Q a j := fun j hj => by
          split
          · exact h2 a j ha hj fun e => tst_ne e.1 rfl
          · rfl
        by_cases e : i = k
        · subst e
          rw [upd_at]
          dsimp only
          rw [if_pos (Nat.lt_succ_self i), if_neg (Nat.lt_irrefl _), hCa j hj]
          by_cases hcj : c ≤ j
          · rw [h1 i j hi hj ht hcj]; grind
          · rw [h2 i j hi hj (fun e => hcj e.2), hz j (by omega)]; grind
        · rw [upd_ne _ _ _ e]
          by_cases e2 : i < k
          · rw [if_pos (by omega), if_pos e2]
          · rw [if_neg (by omega), if_neg e2]
      · refine (ih (by omega)).congr fun i j hi hj => ?_
        by_cases e : i = k
        · subst e; rw [if_neg (Nat.lt_irrefl _), if_pos (by omega), h2 i j hi hj (fun e => ht e.1)]
        · by_cases e2 : i < k
          · rw [if_pos e2, if_pos (by omega)]
          · rw [if_neg e2, if_neg (by omega)]
  exact (key n (Nat.le_refl n)).congr fun i j hi _ => if_pos hi
theorem det1_swp {d : Rat} {i a : Nat} : det1 d i a = (if i = a then 1 else -1) * d := by
  unfold det1
  split
  · rw [Rat.one_mul]
  · rw [Rat.neg_mul, Rat.one_mul]
theorem gi_step {n m c : Nat} {all : Bool} {A : Mt} {s : ES} {σ : Rat} {col : Nat → Nat} (hm : c < m) (hlt : ∀ i, i < n → s.π i < n) (hinj : ∀ i j, i < n → j < n → s.π i = s.π j → i = j) (h : GI n m c all A s σ col) :
    ∃ σ' col', GI n m (c + 1) all A (stp n m all s c) σ' col' := by
  obtain ⟨f1, f2, f3, f4⟩ := fnd_le (fun i => s.A (s.π i) c ≠ 0) (n - s.at') s.at'
  by_cases hfn : fnd (fun i => s.A (s.π i) c ≠ 0) (n - s.at') s.at' < n
  · have e : stp n m all s c = ⟨s.at' + 1, det1 s.d (fnd (fun i => s.A (s.π i) c ≠ 0) (n - s.at') s.at') s.at' * s.A (s.π (fnd (fun i => s.A (s.π i) c ≠ 0) (n - s.at') s.at')) c, swp s.π (fnd (fun i => s.A (s.π i) c ≠ 0) (n - s.at') s.at') s.at',
      cln s.A (swp s.π (fnd (fun i => s.A (s.π i) c ≠ 0) (n - s.at') s.at') s.at') all s.at' c m n⟩ := if_pos hfn
    rw [e]
    have hnz := f4 (by omega)
    clear e f2 f3 f4
    obtain ⟨a, d, π, B⟩ := s
    dsimp only at *
    generalize fnd (fun i => B (π i) c ≠ 0) (n - a) a = i0 at *
    have han : a < n := by omega
    have hinj' := swp_inj hinj hfn han
    have hP : ∀ r j, PR ⟨a, d, π, B⟩ r j = B (π r) j := fun _ _ => rfl
    -- the rows behind the exchange
    have hQa : ∀ j, B (swp π i0 a a) j = B (π i0) j := fun j => by rw [swp_at]
    have hQ : ∀ r, r ≠ a → ∃ r', (r' = if r = i0 then a else r) ∧ ∀ j, B (swp π i0 a r) j = B (π r') j := fun r hr => by
      refine ⟨_, rfl, fun j => ?_⟩
      unfold swp updN
      rw [if_neg hr]
      by_cases e : r = i0
      · rw [if_pos e, if_pos e]
      · rw [if_neg e, if_neg e]
    have hQi : ∀ r, r < a → ∀ j, B (swp π i0 a r) j = B (π r) j := fun r hr j => by
      obtain ⟨r', e, h2⟩ := hQ r (by omega)
      rw [if_neg (by omega)] at e
      rw [h2, e]
    have hQz : ∀ r j, a ≤ r → r < n → j < c → B (swp π i0 a r) j = 0 := fun r j h1 h2 h3 => by
      by_cases e : r = a
      · subst e; rw [hQa]; exact h.low i0 j f1 hfn h3
      · obtain ⟨r', e2, h4⟩ := hQ r e
        rw [h4]
        refine h.low r' j ?_ ?_ h3
        · show a ≤ r'; rw [e2]; split <;> omega
        · rw [e2]; split <;> omega
    have hre : RE n m A (fun r j => B (swp π i0 a r) j) ((if i0 = a then 1 else -1) * σ) := by
      by_cases e : i0 = a
      · rw [if_pos e, Rat.one_mul]
        exact h.re.congr fun i j _ _ => by rw [hP, e, swp_self]
      · rw [if_neg e, show (-1 : Rat) * σ = -σ by rw [Rat.neg_mul, Rat.one_mul]]
        refine .swp i0 a hfn han e h.re fun i j hi hj => ?_
        unfold LA.swp
        show B (swp π i0 a i) j = if i = i0 then B (π a) j else if i = a then B (π i0) j else B (π i) j
        unfold swp updN
        by_cases e1 : i = a
        · rw [if_pos e1]
          by_cases e2 : i = i0
          · exact absurd (e2.symm.trans e1) e
          · rw [if_neg e2, if_pos e1]
        · rw [if_neg e1]
          by_cases e2 : i = i0
          · rw [if_pos e2, if_pos e2]
          · rw [if_neg e2, if_neg e2, if_neg e1]
    have hpv : B (swp π i0 a a) c ≠ 0 := by rw [hQa]; exact hnz
    have hC1 : ∀ r j, r < n → j < m → tst all a r → c ≤ j → cln B (swp π i0 a) all a c m n (swp π i0 a r) j = B (swp π i0 a r) j - B (swp π i0 a r) c / B (swp π i0 a a) c * B (swp π i0 a a) j := fun r j hr hj ht hcj => cln_at hinj' hr j ⟨ht, hcj, hj⟩
    have hC2 : ∀ r j, r < n → ¬ (tst all a r ∧ c ≤ j) → cln B (swp π i0 a) all a c m n (swp π i0 a r) j = B (swp π i0 a r) j := fun r j hr hn => cln_not hinj' hr j fun e => hn ⟨e.1, e.2.1⟩
    have hcl0 : ∀ r, r < n → tst all a r → cln B (swp π i0 a) all a c m n (swp π i0 a r) c = 0 := fun r hr ht => by
      rw [hC1 r c hr hm ht (Nat.le_refl c), Rat.div_mul_cancel hpv]; grind
    have hPn : ∀ r j, PR ⟨a + 1, det1 d i0 a * B (π i0) c, swp π i0 a, cln B (swp π i0 a) all a c m n⟩ r j = cln B (swp π i0 a) all a c m n (swp π i0 a r) j := fun _ _ => rfl
    have hsame : ∀ i, i < a → ∀ j, j < c → cln B (swp π i0 a) all a c m n (swp π i0 a i) j = B (π i) j := fun i hi j hj => by
      rw [hC2 i j (by omega) (fun e => by omega), hQi i hi]
    have hrow : ∀ j, cln B (swp π i0 a) all a c m n (swp π i0 a a) j = B (π i0) j := fun j => by
      rw [hC2 a j han (fun e => tst_ne e.1 rfl), hQa]
    refine ⟨(if i0 = a then 1 else -1) * σ, fun i => if i = a then c else col i, ?_, ?_, ?_, ?_, ?_, ?_, ?_, ?_⟩
    · exact (re_clean hre han (fun j hj => hQz a j (Nat.le_refl a) han hj) (fun r j => cln B (swp π i0 a) all a c m n (swp π i0 a r) j) hC1 (fun r j hr _ hn => hC2 r j hr hn)).congr fun _ _ _ _ => rfl
    · show det1 d i0 a * B (π i0) c = (if i0 = a then 1 else -1) * σ * (prodP (fun i => cln B (swp π i0 a) all a c m n (swp π i0 a i) (if i = a then c else col i)) a * cln B (swp π i0 a) all a c m n (swp π i0 a a) (if a = a then c else col a))
      have hd : d = σ * prodP (fun i => B (π i) (col i)) a := h.d
      have e1 : prodP (fun i => cln B (swp π i0 a) all a c m n (swp π i0 a i) (if i = a then c else col i)) a = prodP (fun i => B (π i) (col i)) a := prodP_congr fun i hi => by
        rw [if_neg (show ¬ i = a by omega)]; exact hsame i hi _ (h.lt i hi)
      rw [e1, if_pos rfl, hrow, det1_swp, hd]
      grind
    · intro r j h1 h2 h3
      have h1 : a + 1 ≤ r := h1
      rw [hPn]
      by_cases e : j = c
      · subst e; exact hcl0 r h2 (.inl (by omega))
      · rw [hC2 r j h2 (fun e => by omega)]; exact hQz r j (by omega) h2 (by omega)
    · intro i hi
      have hi : i < a + 1 := hi
      split
      · omega
      · have := h.lt i (show i < a by omega); omega
    · intro i hi
      have hi : i < a + 1 := hi
      rw [hPn]
      by_cases e : i = a
      · subst e; rw [if_pos rfl, hrow]; exact hnz
      · rw [if_neg e, hsame i (by omega) _ (h.lt i (show i < a by omega))]; exact h.nz i (show i < a by omega)
    · intro i hi j hj
      have hi : i < a + 1 := hi
      rw [hPn]
      by_cases e : i = a
      · subst e; rw [if_pos rfl] at hj; rw [hrow]; exact h.low i0 j f1 hfn hj
      · rw [if_neg e] at hj
        have hia : i < a := by omega
        rw [hsame i hia j (by have := h.lt i hia; omega)]; exact h.ahead i hia j hj
    · intro i j hij hj
      have hj : j < a + 1 := hj
      rw [if_neg (show ¬ i = a by omega)]
      split
      · exact h.lt i (show i < a by omega)
      · exact h.inc i j hij (show j < a by omega)
    · intro hall i r hi hr hri
      have hi : i < a + 1 := hi
      rw [hPn]
      by_cases e : i = a
      · subst e
        rw [if_pos rfl]
        exact hcl0 r hr (by
          rcases Nat.lt_or_ge i r with h1 | h1
          · exact .inl h1
          · exact .inr ⟨hall, by omega⟩)
      · have hia : i < a := by omega
        have hci := h.lt i hia
        rw [if_neg e, hC2 r _ hr (fun e => by omega)]
        by_cases e2 : r < a
        · rw [hQi r e2]; exact h.cl hall i r hia hr hri
        · exact hQz r _ (by omega) hr hci
  · have e : stp n m all s c = s := if_neg hfn
    rw [e]
    refine ⟨σ, col, h.re, h.d, fun r j h1 h2 h3 => ?_, fun i hi => Nat.lt_succ_of_lt (h.lt i hi), h.nz, h.ahead, h.inc, h.cl⟩
    by_cases e : j = c
    · subst e; exact Classical.byContradiction fun hne => f3 r h1 (by omega) hne
    · exact h.low r j h1 h2 (by omega)
theorem stps_perm {n m : Nat} {all : Bool} {A : Nat → Nat → Rat} : ∀ c, (stps n m all A c).at' ≤ c ∧ (∀ i, i < n → (stps n m all A c).π i < n) ∧ ∀ i j, i < n → j < n → (stps n m all A c).π i = (stps n m all A c).π j → i = j
  | 0 => ⟨Nat.le_refl _, fun i hi => hi, fun i j _ _ e => e⟩
  | c + 1 => by
    obtain ⟨h1, h2, h3⟩ := stps_perm (n := n) (m := m) (all := all) (A := A) c
    show (stp n m all (stps n m all A c) c).at' ≤ c + 1 ∧ (∀ i, i < n → (stp n m all (stps n m all A c) c).π i < n) ∧ ∀ i j, i < n → j < n → (stp n m all (stps n m all A c) c).π i = (stp n m all (stps n m all A c) c).π j → i = j
    generalize stps n m all A c = s at *
    unfold stp
    split
    · rename_i hi
      have h4 := (fnd_le (fun i => s.A (s.π i) c ≠ 0) (n - s.at') s.at').1
      exact ⟨by show s.at' + 1 ≤ c + 1; omega, swp_lt h2 hi (by omega), swp_inj h3 hi (by omega)⟩
    · exact ⟨by omega, h2, h3⟩
theorem stps_gi {n m : Nat} {all : Bool} {A : Mt} : ∀ c, c ≤ m → ∃ σ col, GI n m c all A (stps n m all A c) σ col
  | 0, _ => ⟨1, fun _ => 0, .refl fun _ _ _ _ => rfl, (Rat.one_mul 1).symm, fun r j _ _ h => absurd h (Nat.not_lt_zero _), fun i h => absurd h (Nat.not_lt_zero _), fun i h => absurd h (Nat.not_lt_zero _), fun i h => absurd h (Nat.not_lt_zero _), fun i j _ h => absurd h (Nat.not_lt_zero _), fun _ i r h => absurd h (Nat.not_lt_zero _)⟩
  | c + 1, hc => by
    obtain ⟨σ, col, h⟩ := stps_gi (n := n) (m := m) (all := all) (A := A) c (by omega)
    obtain ⟨_, h2, h3⟩ := stps_perm (n := n) (m := m) (all := all) (A := A) c
    exact gi_step (by omega) h2 h3 h
theorem GI.le {n m c : Nat} {all : Bool} {A : Mt} {s : ES} {σ : Rat} {col : Nat → Nat} (h : GI n m c all A s σ col) : ∀ i, i < s.at' → i ≤ col i
  | 0, _ => Nat.zero_le _
  | i + 1, hi => by
    have h1 := h.le i (by omega)
    have h2 := h.inc i (i + 1) (by omega) hi
    omega
/-- Where all columns have a pivot each stands in its row. -/
theorem GI.full {n m : Nat} {all : Bool} {A : Mt} {s : ES} {σ : Rat} {col : Nat → Nat} (h : GI n m n all A s σ col) (hf : s.at' = n) : ∀ i, i < n → col i = i := by
  have hge : ∀ k i, i + k + 1 = n → col i ≤ i := by
    intro k
    induction k with
    | zero => intro i hi; have := h.lt i (by omega); omega
    | succ k ih =>
      intro i hi
      have h1 := ih (i + 1) (by omega)
      have h2 := h.inc i (i + 1) (by omega) (by omega)
      omega
  intro i hi
  have h1 := h.le i (by omega)
  have h2 := hge (n - 1 - i) i (by omega)
  omega
theorem prodP_fold (f : Nat → Rat) (n : Nat) : (List.range n).foldl (fun p i => p * f i) 1 = prodP f n := by
  induction n with
  | zero => rfl
  | succ n ih => rw [List.range_succ, List.foldl_append, ih]; rfl
theorem fin_det {n m : Nat} {all : Bool} {A : Mt} (hnm : n ≤ m) : (if (stps n m all A n).at' < n then 0 else (stps n m all A n).d) = det n A := by
  obtain ⟨σ, col, h⟩ := stps_gi (n := n) (m := m) (all := all) (A := A) n hnm
  obtain ⟨hle, _, _⟩ := stps_perm (n := n) (m := m) (all := all) (A := A) n
  generalize stps n m all A n = s at *
  have h1 := h.re.det hnm
  have h2 := h.re.sq
  split
  · rename_i hlt
    have h3 : det n (PR s) = 0 := LA.det_zero_row _ (a := n - 1) (by omega) fun j hj => h.low (n - 1) j (by omega) (by omega) hj
    rw [h3] at h1
    have : det n A = σ * (σ * det n A) := by rw [← Rat.mul_assoc, h2, Rat.one_mul]
    rw [this, ← h1, Rat.mul_zero]
  · have hf : s.at' = n := by omega
    have hcol := h.full hf
    have h3 : det n (PR s) = prodP (fun i => PR s i i) n := by
      rw [det_low n _ (fun i j hi hj => h.ahead i (by omega) j (by rw [hcol i hi]; exact hj)), prodP_fold]
    have h4 := h.d
    rw [hf, prodP_congr (g := fun i => PR s i i) (fun i hi => by rw [hcol i hi]), ← h3, h1] at h4
    rw [h4, ← Rat.mul_assoc, h2, Rat.one_mul]
theorem fin_rank {n m : Nat} {all : Bool} {A : Mt} (hnm : n ≤ m) : HasRank n A (stps n m all A n).at' := by
  obtain ⟨σ, col, h⟩ := stps_gi (n := n) (m := m) (all := all) (A := A) n hnm
  obtain ⟨hle, _, _⟩ := stps_perm (n := n) (m := m) (all := all) (A := A) n
  generalize stps n m all A n = s at *
  refine h.re.rank hnm ⟨⟨one, PR s, fun i j hi hj => ?_⟩, ?_⟩
  · by_cases e : i < s.at'
    · rw [S_single e (fun k hk hne => by unfold one; rw [if_neg (Ne.symm hne), Rat.zero_mul])]
      unfold one; rw [if_pos rfl, Rat.one_mul]
    · rw [h.low i j (by omega) hi (by omega), S_null fun k hk => by unfold one; rw [if_neg (by omega), Rat.zero_mul]]
  · -- the pivots' columns have a right inverse
    have hd : det s.at' (tr fun i k => PR s i (col k)) ≠ 0 := by
      rw [LA.det_tr, det_low s.at' _ (fun i j hi hj => h.ahead i hi (col j) (h.inc j i hj hi))]
      rw [prodP_fold]
      have : ∀ k, k ≤ s.at' → prodP (fun i => PR s i (col i)) k ≠ 0 := by
        intro k
        induction k with
        | zero => intro _; show (1 : Rat) ≠ 0; decide
        | succ k ih => intro hk; exact fun e => (Rat.mul_eq_zero.1 e).elim (ih (by omega)) (h.nz k (by omega))
      exact this s.at' (Nat.le_refl _)
    obtain ⟨X, hX⟩ := inverse _ hd
    refine ⟨one, fun j b => S s.at' fun k => if j = col k then X b k else 0, fun a b ha hb => ?_⟩
    have e1 : S n (fun i => S n (fun j => one a i * PR s i j * S s.at' fun k => if j = col k then X b k else 0)) = S n (fun j => PR s a j * S s.at' fun k => if j = col k then X b k else 0) := by
      rw [S_single (k := a) (by omega) (fun i _ hne => S_null fun j _ => by unfold one; rw [if_neg (Ne.symm hne), Rat.zero_mul, Rat.zero_mul])]
      exact S_congr fun j _ => by unfold one; rw [if_pos rfl, Rat.one_mul]
    rw [e1]
    have e2 : S n (fun j => PR s a j * S s.at' fun k => if j = col k then X b k else 0) = S s.at' (fun k => S n fun j => PR s a j * (if j = col k then X b k else 0)) := by
      rw [← LA.S_swap]
      exact S_congr fun j _ => (S_mul _ _ _).symm
    rw [e2]
    have e3 : S s.at' (fun k => S n fun j => PR s a j * (if j = col k then X b k else 0)) = S s.at' (fun k => X b k * PR s a (col k)) := S_congr fun k hk => by
      rw [S_single (k := col k) (h.lt k hk) (fun j _ hne => by rw [if_neg hne, Rat.mul_zero]), if_pos rfl, Rat.mul_comm]
    rw [e3, LA.one_symm]
    exact hX b a hb ha
end Go.Proofs.YtdnmoggifjlbiaaGreat.AM
/- Laws of dense matrices: walks: rows and matrices that are the same; ones. -/
namespace Go.Proofs.YtdnmoggifjlbiaaGreat.AM
open Go Go.RowKit Go.Proofs.YtdnmoggifjlbiaaGreat.PN Go.Proofs.YtdnmoggifjlbiaaGreat.V
open Go.Proofs.YtdnmoggifjlbiaaGreat.LA (S S_succ S_zero S_congr)
set_option linter.unusedVariables false
set_option linter.unusedSimpArgs false
set_option maxRecDepth 4000
set_option maxHeartbeats 4000000
theorem k_rows {n K : Nat} {f g : Nat → Rat} [hf : ∀ i, Wt (f i) K] (hK : K ≤ 1000000000000) (hn : n ≤ 1000) (h : ∀ i, i < n → f i = g i) : Has Tryz.prog 19 [.row false n (fun i => .q (f i)), .row false n (fun i => .q (g i))] (.b true) := by
  refine has_of Tryz.func19 (by kernel_rfl) rfl Tryz.ntmps19 Tryz.results19 rfl rfl rfl ?_
  refine run0 ?_
  refine awp_no rfl (decide_eq_false (fun h => h rfl)) ?_
  refine run0 ?_
  refine awp_loop (fun m s => ∃ k, k ≤ n ∧ m = n - k ∧ s = stl [(0, .row false n (fun i => .q (f i))), (1, .row false n (fun i => .q (g i))), (5, .i (k : Int))] []) n _ (imp_id ?_ ?_) ⟨0, Nat.zero_le _, rfl, rfl⟩ ?_
  · exact eA
  · exact hA
  · rintro m s ⟨k, hk, rfl, rfl⟩
    refine run0 ?_
    refine awp_if rfl (fun h1 => ?_) (fun h1 => ?_)
    · have h1 : k < n := by omega
      have e := h k h1
      have wg : Wt (g k) K := by rw [← e]; exact hf k
      have C := cs_same (p := f k) (q := g k) ⟨hK, hK⟩
      rw [decide_eq_true e] at C
      repeat(first|refine run1 ?_|((with_reducible apply st_call);exact rfl;exact rfl;exact rfl;first|(exact C))|((with_reducible apply st_callg);exact rfl;exact rfl;(first|exact rfl|assumption);exact rfl;exact rfl;exact rfl;first|(exact C)))
      refine awp_no rfl rfl ?_
      refine run0 ?_
      refine q_loop ?_ (imp_id ?_ ?_) ⟨k + 1, ?_, rfl, rfl⟩
      · omega
      · exact eA
      · exact hA
      · omega
    · refine run0 ?_
      refine ⟨.inr rfl, _, Imp.refl _, ?_⟩
      exact .one (.tmp rfl)
theorem k_all {n m K : Nat} {F G : Nat → Nat → Rat} [hf : ∀ i j, Wt (F i j) K] (hK : K ≤ 1000000000000) (hn : n ≤ 1000) (hm : m ≤ 1000) (h : ∀ i, i < n → ∀ j, j < m → F i j = G i j) : Has Tryz.prog 26 [.mat false n (fun _ => m) (fun i j => .q (F i j)), .mat false n (fun _ => m) (fun i j => .q (G i j))] (.b true) := by
  refine has_of Tryz.func26 (by kernel_rfl) rfl Tryz.ntmps26 Tryz.results26 rfl rfl rfl ?_
  refine run0 ?_
  refine awp_no rfl (decide_eq_false (fun h => h rfl)) ?_
  refine run0 ?_
  refine awp_loop (fun m' s => ∃ k, k ≤ n ∧ m' = n - k ∧ s = stl [(0, .mat false n (fun _ => m) (fun i j => .q (F i j))), (1, .mat false n (fun _ => m) (fun i j => .q (G i j))), (5, .i (k : Int))] []) n _ (imp_id ?_ ?_) ⟨0, Nat.zero_le _, rfl, rfl⟩ ?_
  · exact eA
  · exact hA
  · rintro m' s ⟨k, hk, rfl, rfl⟩
    refine run0 ?_
    refine awp_if rfl (fun h1 => ?_) (fun h1 => ?_)
    · have h1 : k < n := by omega
      repeat(first|refine run1 ?_|((with_reducible apply st_call);exact rfl;exact rfl;exact rfl;first|(exact k_rows (hf := hf k) hK hm (h k h1)))|((with_reducible apply st_callg);exact rfl;exact rfl;(first|exact rfl|assumption);exact rfl;exact rfl;exact rfl;first|(exact k_rows (hf := hf k) hK hm (h k h1))))
      refine awp_no rfl rfl ?_
      refine run0 ?_
      refine q_loop ?_ (imp_id ?_ ?_) ⟨k + 1, ?_, rfl, rfl⟩
      · omega
      · exact eA
      · exact hA
      · omega
    · refine run0 ?_
      refine ⟨.inr rfl, _, Imp.refl _, ?_⟩
      exact .one (.tmp rfl)
end Go.Proofs.YtdnmoggifjlbiaaGreat.AM
/- Dense matrices: walks: all steps. -/
namespace Go.Proofs.YtdnmoggifjlbiaaGreat.AM
open Go Go.RowKit Go.Proofs.YtdnmoggifjlbiaaGreat.PN Go.Proofs.YtdnmoggifjlbiaaGreat.V
open Go.Proofs.YtdnmoggifjlbiaaGreat.LA (S S_succ S_zero S_congr)
set_option linter.unusedVariables false
set_option linter.unusedSimpArgs false
set_option maxRecDepth 4000
set_option maxHeartbeats 4000000
theorem okf_WH {n m : Nat} {d : Rat} {π : Nat → Nat} {A : Nat → Nat → Rat} : okf (fun g => memN g (keys (WH n m d π A))) (WH n m d π A) :=
  ⟨fun _ _ i _ => wk_ok rfl d i, fun _ _ _ _ => rfl, fun _ _ => True.intro, True.intro⟩
theorem stp_yes {n m col : Nat} {all : Bool} {s : ES} (h : fnd (fun i => s.A (s.π i) col ≠ 0) (n - s.at') s.at' < n) : stp n m all s col = ⟨s.at' + 1, det1 s.d (fnd (fun i => s.A (s.π i) col ≠ 0) (n - s.at') s.at') s.at' * s.A (s.π (fnd (fun i => s.A (s.π i) col ≠ 0) (n - s.at') s.at')) col, swp s.π (fnd (fun i => s.A (s.π i) col ≠ 0) (n - s.at') s.at') s.at',
      cln s.A (swp s.π (fnd (fun i => s.A (s.π i) col ≠ 0) (n - s.at') s.at') s.at') all s.at' col m n⟩ := if_pos h
theorem stp_no {n m col : Nat} {all : Bool} {s : ES} (h : ¬ fnd (fun i => s.A (s.π i) col ≠ 0) (n - s.at') s.at' < n) : stp n m all s col = s := if_neg h
theorem d_steps {n m K : Nat} {all : Bool} {A : Nat → Nat → Rat} [hA : ∀ i j, Wt (A i j) K] (hK : K ≤ 400) (hn : n ≤ 8) (hm : m ≤ 9) (hnm : n ≤ m) :
    HasH Tryz.prog 112 (WH n m 1 (fun i => i) A) [.ptr 60 0 0, .b all] (.i (stps n m all A n).at') (WH n m (stps n m all A n).d (stps n m all A n).π (stps n m all A n).A) := by
  refine hasH_of Tryz.func112 (by kernel_rfl) rfl Tryz.ntmps112 Tryz.results112 True.intro rfl rfl ?_
  refine run0 ?_
  refine awp_loop (fun m' s => ∃ c, c ≤ n ∧ m' = n - c ∧ s = stl [(0, .ptr 60 0 0), (1, .b all), (5, .i (stps n m all A c).at'), (6, .i (c : Int))] (WH n m (stps n m all A c).d (stps n m all A c).π (stps n m all A c).A)) n _ (imp_WH rfl rfl (fun _ _ => rfl) rfl rfl (fun _ _ => rfl) rfl (fun r hr => blen rfl fun _ _ => rfl) ?_) ⟨0, Nat.zero_le _, rfl, rfl⟩ ?_
  · exact eA
  · rintro m' s ⟨c, hc, rfl, rfl⟩
    have hok := stps_ok (n := n) (m := m) (all := all) (A := A) c
    have hnx : stps n m all A (c + 1) = stp n m all (stps n m all A c) c := rfl
    have hX : 5 ^ c * (K + 1) ≤ 390625 * 401 := Nat.mul_le_mul (Nat.pow_le_pow_right (by decide) (show c ≤ 8 by omega)) (by omega)
    generalize 5 ^ c * (K + 1) = X at hok hX
    generalize hT : stps n m all A c = T at *
    obtain ⟨a, d, π, B⟩ := T
    have hle : a ≤ c := hok.le
    have hlt : ∀ i, i < n → π i < n := hok.lt
    have hinj : ∀ i j, i < n → j < n → π i = π j → i = j := hok.inj
    have wd : Wt d X := hok.wd
    have wB : ∀ i j, Wt (B i j) X := hok.wA
    by_cases hcn : c < n
    · have hcn' : (c : Int) < (n : Int) := by omega
      have g1 : (decide ((c : Int) < (n : Int)) == true) = true := by rw [decide_eq_true hcn']; rfl
      have g2 : decide ((c : Int) < (n : Int)) = true := decide_eq_true hcn'
      refine run0 ?_
      refine awp_yes rfl ?_ ?_
      · exact decide_eq_true (show (a : Int) < n by omega)
      clear g1 g2
      refine run0 ?_
      have han : a < n := by omega
      obtain ⟨f1, f2, f3, f4⟩ := fnd_le (fun i => B (π i) c ≠ 0) (n - a) a
      by_cases hfn : fnd (fun i => B (π i) c ≠ 0) (n - a) a < n
      · have e1 := stp_yes (m := m) (all := all) (s := ⟨a, d, π, B⟩) (col := c) hfn
        have hnz := f4 (by omega)
        dsimp only at e1 hnz
        generalize fnd (fun i => B (π i) c ≠ 0) (n - a) a = i at *
        have hz : ∀ j, a ≤ j → j < i → B (π j) c = 0 := fun j h1 h2 => Classical.byContradiction fun h => f3 j h1 h2 h
        ((with_reducible apply st_callH); exact rfl; exact rfl; exact rfl; exact (d_pivot_yes (hA := wB) (hd := wd) (by omega) (by omega) hn hm (by omega) hlt f1 hfn hz hnz); (first | exact True.intro | exact ⟨rfl, rfl, rfl, True.intro⟩); exact rfl; exact rfl; exact rfl; exact rfl; (focus (repeat (first | exact True.intro | refine ⟨(by first | exact True.intro | rfl | exact ok_none (closed_ok rfl)), ?_⟩))); (first | exact True.intro | exact okf_WH))
        refine run0 ?_
        refine awp_no rfl rfl ?_
        refine run0 ?_
        have hlt' := swp_lt hlt hfn han
        have hinj' := swp_inj hinj hfn han
        have hat : swp π i a a = π i := swp_at π i a
        generalize swp π i a = π' at *
        generalize det1 d i a * B (π i) c = d' at *
        refine awp_loop (fun m' s => ∃ k, k ≤ n ∧ m' = n - k ∧ s = stl [(0, .ptr 60 0 0), (1, .b all), (5, .i (a : Int)), (6, .i (c : Int)), (35, .i (n : Int)), (36, .i (k : Int))] (WH n m d' π' (cln B π' all a c m k))) n _ (imp_WH rfl rfl (fun _ _ => rfl) rfl rfl (fun _ _ => rfl) rfl (fun r hr => blen rfl fun j _ => congrArg RA.q (congrFun (congrFun (cln_zero B π' all a c m).symm r) j)) ?_) ⟨0, Nat.zero_le _, rfl, rfl⟩ ?_
        · exact eA
        · rintro m' s ⟨k, hk, rfl, rfl⟩
          refine run0 ?_
          refine awp_if rfl (fun h => ?_) (fun h => ?_)
          · have hkn : k < n := by omega
            have wC : ∀ r j, Wt (cln B π' all a c m k r j) (4 * X + 1) := fun r j => cln_wt (h := wB) r j
            have hpk := hlt' k hkn
            have hpa := hlt' a han
            have hrow : cln B π' all a c m k (π' a) c = B (π' a) c := cln_row (n := n) (fun i h1 h2 h3 => tst_ne h2 (hinj' a i han (by omega) h3).symm) c
            have hne0 : cln B π' all a c m k (π' a) c ≠ 0 := by rw [hrow, hat]; exact hnz
            by_cases ht : tst all a k
            · have hne : π' k ≠ π' a := fun e => tst_ne ht (hinj' k a hkn han e)
              have est := cln_step (m := m) (all := all) (A := B) (col := c) hinj' han hkn ht
              rcases ht with h1 | ⟨hall, h1⟩
              · have hi1 : (a : Int) < (k : Int) := by omega
                have gA : (decide ((a : Int) < (k : Int)) == false) = false := by rw [decide_eq_true hi1]; rfl
                have pA : decide ((a : Int) < (k : Int)) = true := decide_eq_true hi1
                refine run0 ?_
                refine awp_yes rfl rfl ?_
                refine run0 ?_
                ((with_reducible apply st_callH); exact rfl; exact rfl; exact rfl; exact (d_clean (d := d') (hA := wC) (by omega) hn hm (by omega) hkn han hpk hpa hne hne0); (first | exact True.intro | exact ⟨rfl, rfl, rfl, True.intro⟩); exact rfl; exact rfl; exact rfl; exact rfl; (focus (repeat (first | exact True.intro | refine ⟨(by first | exact True.intro | rfl | exact ok_none (closed_ok rfl)), ?_⟩))); (first | exact True.intro | exact okf_WH))
                refine run0 ?_
                refine q_loop (m' := n - (k + 1)) (by omega) (imp_WH (e := [(0, .ptr 60 0 0), (1, .b all), (5, .i (a : Int)), (6, .i (c : Int)), (35, .i (n : Int)), (36, .i ((k + 1 : Nat) : Int))]) (n := n) (m := m) (d := d') (π := π') (A := cln B π' all a c m (k + 1)) rfl rfl (fun _ _ => rfl) rfl rfl (fun _ _ => rfl) rfl (fun r hr => blen rfl fun j _ => congrArg RA.q (congrFun (congrFun est r) j)) ?_) ⟨k + 1, by omega, rfl, rfl⟩
                exact eA
              · subst hall
                have hi1 : ¬ (a : Int) < (k : Int) := by omega
                have gA : (decide ((a : Int) < (k : Int)) == false) = true := by rw [decide_eq_false hi1]; rfl
                have pA : decide ((a : Int) < (k : Int)) = false := decide_eq_false hi1
                refine run0 ?_
                refine awp_yes rfl ?_ ?_
                · exact decide_eq_true (show (k : Int) < (a : Int) by omega)
                refine run0 ?_
                ((with_reducible apply st_callH); exact rfl; exact rfl; exact rfl; exact (d_clean (d := d') (hA := wC) (by omega) hn hm (by omega) hkn han hpk hpa hne hne0); (first | exact True.intro | exact ⟨rfl, rfl, rfl, True.intro⟩); exact rfl; exact rfl; exact rfl; exact rfl; (focus (repeat (first | exact True.intro | refine ⟨(by first | exact True.intro | rfl | exact ok_none (closed_ok rfl)), ?_⟩))); (first | exact True.intro | exact okf_WH))
                refine run0 ?_
                refine q_loop (m' := n - (k + 1)) (by omega) (imp_WH (e := [(0, .ptr 60 0 0), (1, .b true), (5, .i (a : Int)), (6, .i (c : Int)), (35, .i (n : Int)), (36, .i ((k + 1 : Nat) : Int))]) (n := n) (m := m) (d := d') (π := π') (A := cln B π' true a c m (k + 1)) rfl rfl (fun _ _ => rfl) rfl rfl (fun _ _ => rfl) rfl (fun r hr => blen rfl fun j _ => congrArg RA.q (congrFun (congrFun est r) j)) ?_) ⟨k + 1, by omega, rfl, rfl⟩
                exact eA
            · have est := cln_skip (A := B) (π := π') (col := c) (m := m) ht
              have hi1 : ¬ (a : Int) < (k : Int) := fun h => ht (.inl (by omega))
              have gA : (decide ((a : Int) < (k : Int)) == false) = true := by rw [decide_eq_false hi1]; rfl
              have pA : decide ((a : Int) < (k : Int)) = false := decide_eq_false hi1
              cases all with
              | false =>
                refine run0 ?_
                refine awp_no rfl rfl ?_
                refine run0 ?_
                refine q_loop (m' := n - (k + 1)) (by omega) (imp_WH (e := [(0, .ptr 60 0 0), (1, .b false), (5, .i (a : Int)), (6, .i (c : Int)), (35, .i (n : Int)), (36, .i ((k + 1 : Nat) : Int))]) (n := n) (m := m) (d := d') (π := π') (A := cln B π' false a c m (k + 1)) rfl rfl (fun _ _ => rfl) rfl rfl (fun _ _ => rfl) rfl (fun r hr => blen rfl fun j _ => congrArg RA.q (congrFun (congrFun est r) j)) ?_) ⟨k + 1, by omega, rfl, rfl⟩
                exact eA
              | true =>
                refine run0 ?_
                refine awp_no rfl ?_ ?_
                · exact decide_eq_false (show ¬ (k : Int) < (a : Int) from fun h => ht (.inr ⟨rfl, by omega⟩))
                refine run0 ?_
                refine q_loop (m' := n - (k + 1)) (by omega) (imp_WH (e := [(0, .ptr 60 0 0), (1, .b true), (5, .i (a : Int)), (6, .i (c : Int)), (35, .i (n : Int)), (36, .i ((k + 1 : Nat) : Int))]) (n := n) (m := m) (d := d') (π := π') (A := cln B π' true a c m (k + 1)) rfl rfl (fun _ _ => rfl) rfl rfl (fun _ _ => rfl) rfl (fun r hr => blen rfl fun j _ => congrArg RA.q (congrFun (congrFun est r) j)) ?_) ⟨k + 1, by omega, rfl, rfl⟩
                exact eA
          · obtain rfl : k = n := by omega
            refine run0 ?_
            refine q_loop (m' := k - (c + 1)) (by omega) (imp_WH (e := [(0, .ptr 60 0 0), (1, .b all), (5, .i ((a + 1 : Nat) : Int)), (6, .i ((c + 1 : Nat) : Int))]) (n := k) (m := m) (d := d') (π := π') (A := cln B π' all a c m k) rfl rfl (fun _ _ => rfl) rfl rfl (fun _ _ => rfl) rfl (fun r hr => blen rfl fun _ _ => rfl) ?_) ⟨c + 1, by omega, rfl, ?_⟩
            · exact eA
            · have e := hnx.trans e1
              rw [e]
      · have e1 := stp_no (m := m) (all := all) (s := ⟨a, d, π, B⟩) (col := c) hfn
        have hz : ∀ j, a ≤ j → j < n → B (π j) c = 0 := fun j h1 h2 => Classical.byContradiction fun h => f3 j h1 (by omega) h
        ((with_reducible apply st_callH); exact rfl; exact rfl; exact rfl; exact (d_pivot_no (d := d) (at' := a) (col := c) hn hm (by omega) hlt (by omega) hz); (first | exact True.intro | exact ⟨rfl, rfl, rfl, True.intro⟩); exact rfl; exact rfl; exact rfl; exact rfl; (focus (repeat (first | exact True.intro | refine ⟨(by first | exact True.intro | rfl | exact ok_none (closed_ok rfl)), ?_⟩))); (first | exact True.intro | exact okf_WH))
        refine run0 ?_
        refine awp_yes rfl rfl ?_
        refine run0 ?_
        refine q_loop (m' := n - (c + 1)) (by omega) (imp_WH (e := [(0, .ptr 60 0 0), (1, .b all), (5, .i (a : Int)), (6, .i ((c + 1 : Nat) : Int))]) (n := n) (m := m) (d := d) (π := π) (A := B) rfl rfl (fun _ _ => rfl) rfl rfl (fun _ _ => rfl) rfl (fun r hr => blen rfl fun _ _ => rfl) ?_) ⟨c + 1, by omega, rfl, ?_⟩
        · exact eA
        · have e := hnx.trans e1
          rw [e]
    · obtain rfl : c = n := by omega
      have hcn' : ¬ (c : Int) < (c : Int) := by omega
      have g1 : (decide ((c : Int) < (c : Int)) == true) = false := by rw [decide_eq_false hcn']; rfl
      have g2 : decide ((c : Int) < (c : Int)) = false := decide_eq_false hcn'
      refine run0 ?_
      refine awp_no rfl rfl ?_
      refine run0 ?_
      refine ⟨.inr rfl, [(4, .i (a : Int))], ?_, ?_⟩
      · rw [hT]
        refine imp_WH rfl rfl (fun _ _ => rfl) rfl rfl (fun _ _ => rfl) rfl (fun r hr => blen rfl fun _ _ => rfl) ?_
        exact eA
      · rw [hT]; exact .one (.tmp rfl)
end Go.Proofs.YtdnmoggifjlbiaaGreat.AM
/- Dense matrices: walks: determinants, ranks. -/
namespace Go.Proofs.YtdnmoggifjlbiaaGreat.AM
open Go Go.RowKit Go.Proofs.YtdnmoggifjlbiaaGreat.PN Go.Proofs.YtdnmoggifjlbiaaGreat.V
open Go.Proofs.YtdnmoggifjlbiaaGreat.LA (S S_succ S_zero S_congr)
set_option linter.unusedVariables false
set_option linter.unusedSimpArgs false
set_option maxRecDepth 4000
set_option maxHeartbeats 4000000
theorem aug_wt {n K : Nat} {F : Nat → Nat → Rat} [hf : ∀ i j, Wt (F i j) K] (i j : Nat) : Wt (aug n F (fun _ _ => 0) i j) (K + 1) := by
  unfold aug
  split
  · exact (hf i j).mono (by omega)
  · exact (inferInstance : Wt 0 1).mono (by omega)
/-- What the steps make of a matrix. -/
noncomputable def gs (n : Nat) (F : Nat → Nat → Rat) : ES := stps n n false (aug n F fun _ _ => 0) n
noncomputable def gdet (n : Nat) (F : Nat → Nat → Rat) : Rat := if (gs n F).at' < n then 0 else (gs n F).d
end Go.Proofs.YtdnmoggifjlbiaaGreat.AM
/- Laws of dense matrices: walks: what they share. -/
namespace Go.Proofs.YtdnmoggifjlbiaaGreat.AM
open Go Go.RowKit Go.Proofs.YtdnmoggifjlbiaaGreat.PN Go.Proofs.YtdnmoggifjlbiaaGreat.V
open Go.Proofs.YtdnmoggifjlbiaaGreat.LA (S S_succ S_zero S_congr)
set_option linter.unusedVariables false
set_option linter.unusedSimpArgs false
set_option maxRecDepth 4000
set_option maxHeartbeats 4000000
theorem gdet_one {x : Rat} (h : x ≠ 0) : gdet 1 (fun _ _ => x) = x := by
  have e : gs 1 (fun _ _ => x) = ⟨1, x, swp (fun i => i) 0 0, cln (aug 1 (fun _ _ => x) fun _ _ => 0) (swp (fun i => i) 0 0) false 0 0 1 1⟩ := by
    show stp 1 1 false ⟨0, 1, fun i => i, aug 1 (fun _ _ => x) fun _ _ => 0⟩ 0 = _
    have hf : fnd (fun i => aug 1 (fun _ _ => x) (fun _ _ => 0) i 0 ≠ 0) 1 0 = 0 := by
      unfold fnd; rw [if_pos]; exact h
    unfold stp
    show (if fnd (fun i => aug 1 (fun _ _ => x) (fun _ _ => 0) i 0 ≠ 0) 1 0 < 1 then _ else _) = _
    rw [if_pos (by rw [hf]; decide)]
    show ES.mk _ _ _ _ = _
    simp only [show fnd (fun i => aug 1 (fun _ _ => x) (fun _ _ => 0) i 0 ≠ 0) (1 - 0) 0 = 0 from hf]
    congr 1
    show det1 1 0 0 * x = x
    unfold det1
    rw [if_pos rfl, Rat.one_mul]
  unfold gdet
  rw [e]
  exact if_neg (Nat.lt_irrefl 1)
theorem c_three : Has Tryz.prog 22 [.i 3] (.q 3) := by
  have h := hs_int 3 (by decide) (by decide)
  rw [show ((3 : Int) : Rat) = 3 from rfl] at h
  exact h
end Go.Proofs.YtdnmoggifjlbiaaGreat.AM
/- Laws of dense matrices: walks: ones from corner to corner. -/
namespace Go.Proofs.YtdnmoggifjlbiaaGreat.AM
open Go Go.RowKit Go.Proofs.YtdnmoggifjlbiaaGreat.PN Go.Proofs.YtdnmoggifjlbiaaGreat.V
open Go.Proofs.YtdnmoggifjlbiaaGreat.LA (S S_succ S_zero S_congr)
set_option linter.unusedVariables false
set_option linter.unusedSimpArgs false
set_option maxRecDepth 4000
set_option maxHeartbeats 4000000
/-- Rows that are gathered in slot t: none, or k of them. -/
def matS (t : Nat) (e : List (Nat × AV)) (v : Nat → AV) : Nat → St
  | 0 => stl ((t, .v (.slice none 0 0)) :: e) []
  | k + 1 => stl ((t, .own t 0) :: e) [(t, (1, fun _ => .ones WT (k + 1) v))]
theorem mat_close {s : St} {e : List (Nat × AV)} {k m t a b : Nat} {v f : Nat → AV} {w q : Nat → RA} {F F' : Nat → Blk} (ht : s.env t = some (.own a 0)) (ha : s.heap a = some (1, F)) (hF : F 0 = .ones WT (k + 1) f) (hf : ∀ i, i < k → f i = v i) (hk : f k = .own b 0)
    (hb : s.heap b = some (1, F')) (hF' : F' 0 = .rats m q) (hq : ∀ j, j < m → q j = w j) (hv : v k = .row true m w) (hok : ∀ i, (v i).ok (fun _ => false)) (hab : b ≠ a) (h60 : s.used 60 = false) (ht60 : t ≠ 60) (he : AllE s (s1 t a) (fun g => memN g [t]) e) : Imp s (matS t e v (k + 1)) := by
  refine (imp_pub a k ha hF (Nat.lt_succ_self k) hk hb hF' hab).trans ?_
  have e1 : s1 t a t 0 = (a, 0) := by unfold s1; rw [if_pos rfl]
  have hm : memN t [t] = true := by show (bif Nat.beq t t then true else false) = true; rw [Nat.beq_refl]; rfl
  refine imp_stl (h := [(t, (1, fun _ => .ones WT (k + 1) v))]) (s1 t a) (fun h => by have h : s.used 60 = true := h; rw [h60] at h; cases h) (fun g r g' r' h1 h2 => s1_inj t a g r g' r' h1 h2) ⟨⟨_, ht, Le.own e1, hm⟩, AllE.env (s := s) (by rfl) he⟩ ⟨fun r hr => ?_, trivial⟩ (by show (!(s.used 60) || _) = true; rw [h60]; rfl)
  obtain rfl : r = 0 := by omega
  rw [e1]
  refine ⟨1, _, put_same _ _ _, Nat.zero_lt_one, bleo rfl fun i hi => ?_, fun i _ => ok_none (hok i)⟩
  by_cases c : i = k
  · subst c
    rw [updN_same, hv]
    exact Le.row rfl hq fun h => h
  · rw [updN_ne _ _ c, hf i (by omega)]
    exact Le.same (hok i)
def idm (i j : Nat) : Rat := if i = j then 1 else 0
instance idm_wt (i j : Nat) : Wt (idm i j) 1 := ⟨by unfold idm; split <;> decide⟩
theorem c_unit : Has Tryz.prog 22 [.i 1] (.q 1) := by
  have h := hs_int 1 (by decide) (by decide)
  rw [show ((1 : Int) : Rat) = 1 from rfl] at h
  exact h
end Go.Proofs.YtdnmoggifjlbiaaGreat.AM
/- Products of matrices: the plain laws that DenseRing asks for. -/
namespace Go.Proofs.YtdnmoggifjlbiaaGreat.AM
open Go.Proofs.YtdnmoggifjlbiaaGreat.LA (S S_succ S_zero S_congr S_mul S_mulr S_swap S_single)
set_option linter.unusedVariables false
set_option linter.unusedSimpArgs false
theorem ring_assoc (n : Nat) (A B C : Nat → Nat → Rat) (i j : Nat) : (S n fun k => (S n fun l => A i l * B l k) * C k j) = S n fun l => A i l * S n fun k => B l k * C k j := by
  have h1 : (S n fun k => (S n fun l => A i l * B l k) * C k j) = S n fun k => S n fun l => A i l * (B l k * C k j) := S_congr fun k _ => by
    rw [← S_mulr]
    exact S_congr fun l _ => Rat.mul_assoc _ _ _
  rw [h1, S_swap]
  exact S_congr fun l _ => S_mul _ _ _
theorem ring_apply (n : Nat) (A B : Nat → Nat → Rat) (v : Nat → Rat) (i : Nat) : (S n fun k => (S n fun l => A i l * B l k) * v k) = S n fun l => A i l * S n fun k => B l k * v k :=
  ring_assoc n A B (fun k _ => v k) i 0
theorem ring_one {n : Nat} (A : Nat → Nat → Rat) (i : Nat) {j : Nat} (hj : j < n) : (S n fun k => A i k * idm k j) = A i j := by
  rw [S_single hj (fun k _ hk => by unfold idm; rw [if_neg hk, Rat.mul_zero])]
  unfold idm
  rw [if_pos rfl, Rat.mul_one]
theorem ring_turn (n : Nat) (A B : Nat → Nat → Rat) (i j : Nat) : (S n fun k => A j k * B k i) = S n fun k => B k i * A j k :=
  S_congr fun k _ => Rat.mul_comm _ _
end Go.Proofs.YtdnmoggifjlbiaaGreat.AM
/- Laws of dense matrices: walks: matrices of small numbers (under way). -/
namespace Go.Proofs.YtdnmoggifjlbiaaGreat.AM
open Go Go.RowKit Go.Proofs.YtdnmoggifjlbiaaGreat.PN Go.Proofs.YtdnmoggifjlbiaaGreat.V
open Go.Proofs.YtdnmoggifjlbiaaGreat.LA (S S_succ S_zero S_congr)
set_option linter.unusedVariables false
set_option linter.unusedSimpArgs false
set_option maxRecDepth 4000
set_option maxHeartbeats 4000000
/-- Rows that are gathered in slot 6, all of them own. -/
def famS (e : List (Nat × AV)) (m : Nat) (A : Nat → Nat → Rat) : Nat → St
  | 0 => stl ((6, .v (.slice none 0 0)) :: e) []
  | k + 1 => stl ((6, .own 6 0) :: e) [(6, (1, fun _ => .ones WT (k + 1) (fun i => .own 3 i))), (3, (k + 1, fun r => .rats m (fun j => .q (A r j))))]
def sm (k : Nat) : Ren := fun g r => if g = 3 then (if r < k then (3, r) else (31, r - k)) else if g = 6 then (33, r) else (g, r)
theorem sm_inj (k : Nat) (g r g' r' : Nat) (hg : memN g [6, 3] = true) (hg' : memN g' [6, 3] = true) (e : sm k g r = sm k g' r') : g = g' ∧ r = r' := by
  have m1 := memN_spec hg
  have m2 := memN_spec hg'
  simp only [List.mem_cons, List.not_mem_nil, or_false] at m1 m2
  unfold sm at e
  rcases m1 with rfl | rfl <;> rcases m2 with rfl | rfl <;> simp at e ⊢
  · exact e
  · split at e <;> simp at e
  · split at e <;> simp at e
  · split at e <;> split at e <;> simp at e <;> omega
theorem fam_close {s : St} {e : List (Nat × AV)} {k m : Nat} {A : Nat → Nat → Rat} {F1 F2 F3 : Nat → Blk} {f1 : Nat → AV} (h6 : s.env 6 = some (.own 33 0))
    (h33 : s.heap 33 = some (1, F1)) (e33 : F1 0 = .ones WT (k + 1) f1) (g33 : ∀ i, i < k → f1 i = .own 3 i) (g33' : f1 k = .own 31 0) (h3 : 0 < k → s.heap 3 = some (k, F2)) (g3 : ∀ r, r < k → BLe (sm k) (F2 r) (.rats m fun j => .q (A r j)))
    (h31 : s.heap 31 = some (1, F3)) (g31 : BLe (sm k) (F3 0) (.rats m fun j => .q (A k j))) (h60 : s.used 60 = false) (he : AllE s (sm k) (fun g => memN g [6, 3]) e) : Imp s (famS e m A (k + 1)) := by
  refine imp_stl (h := [(6, (1, fun _ => .ones WT (k + 1) (fun i => .own 3 i))), (3, (k + 1, fun r => .rats m (fun j => .q (A r j))))]) (sm k) (fun h => by rw [h60] at h; cases h) (fun g r g' r' h1 h2 => sm_inj k g r g' r' h1 h2) ⟨⟨_, h6, Le.own rfl, rfl⟩, he⟩ ⟨fun r hr => ?_, fun r hr => ?_, trivial⟩ (by rw [h60]; rfl)
  · obtain rfl : r = 0 := by omega
    refine ⟨1, F1, h33, Nat.zero_lt_one, ?_, fun i hi => rfl⟩
    show BLe (sm k) (F1 0) _
    rw [e33]
    refine bleo rfl fun i hi => ?_
    by_cases e : i < k
    · rw [g33 i e]; exact Le.own (by unfold sm; rw [if_pos rfl, if_pos e])
    · obtain rfl : i = k := by omega
      rw [g33']; exact Le.own (by unfold sm; rw [if_pos rfl, if_neg e, Nat.sub_self])
  · by_cases e : r < k
    · have e1 : sm k 3 r = (3, r) := by unfold sm; rw [if_pos rfl, if_pos e]
      rw [e1]
      exact ⟨k, F2, h3 (by omega), e, g3 r e, trivial⟩
    · obtain rfl : r = k := by omega
      have e1 : sm r 3 r = (31, 0) := by unfold sm; rw [if_pos rfl, if_neg e, Nat.sub_self]
      rw [e1]
      exact ⟨1, F3, h31, Nat.zero_lt_one, g31, trivial⟩
/-- The rows, as they are drawn. -/
def mbase (n : Nat) (zs : List Int) (i j : Nat) : Rat := rowq zs (i * n + j)
theorem mul_cast (n : Nat) : (n : Int) * (n : Int) = ((n * n : Nat) : Int) := (Int.natCast_mul n n).symm
theorem cut_blk {σ : Ren} {n k : Nat} {zs : List Int} {g : Nat → RA} : BLe σ (.rats (0 + ((k : Int) * (n : Int) + n - (k : Int) * (n : Int)).toNat) (glue 0 g (fun i => .q (rowq zs (((k : Int) * (n : Int)).toNat + i))))) (.rats n fun j => .q (mbase n zs k j)) := by
  have e : (k : Int) * (n : Int) = ((k * n : Nat) : Int) := (Int.natCast_mul k n).symm
  rw [e]
  refine blen (by omega) fun j hj => ?_
  unfold glue mbase
  rw [if_neg (Nat.not_lt_zero _), Nat.sub_zero]
  rfl
/-- The last row's place, and the one ahead of it. -/
def la (n : Nat) : Nat := ((n : Int) - 1).toNat
def lb2 (n : Nat) : Nat := ((n : Int) - 2).toNat
def nv (n : Nat) (zs : List Int) (c : Nat) : Rat := if 2 < n then mbase n zs 0 c + mbase n zs (lb2 n) c else mbase n zs 0 c
def mx (n : Nat) (zs : List Int) (j : Nat) : Nat → Nat → Rat := fun r c => if r = la n ∧ c < j then nv n zs c else mbase n zs r c
def mc (n : Nat) (zs : List Int) : Prop := 1 < n ∧ 2 < zs.length ∧ wthn (zs.getD 2 0) 3 = 0
open Classical in
/-- The matrix that is made. -/
noncomputable def mkm (n : Nat) (zs : List Int) (i j : Nat) : Rat := if mc n zs then mx n zs n i j else mbase n zs i j
theorem imp_fam {s : St} {e : List (Nat × AV)} {n m : Nat} {A : Nat → Nat → Rat} {F1 F2 : Nat → Blk} {f1 : Nat → AV} (h6 : s.heap 6 = some (1, F1)) (e6 : F1 0 = .ones WT n f1) (g6 : ∀ i, i < n → f1 i = .own 3 i) (h3 : s.heap 3 = some (n, F2)) (g3 : ∀ r, r < n → BLe idR (F2 r) (.rats m fun j => .q (A r j)))
    (h60 : s.used 60 = false) (he : AllE s idR (fun g => memN g [6, 3]) e) : Imp s (stl e [(6, (1, fun _ => .ones WT n (fun i => .own 3 i))), (3, (n, fun r => .rats m (fun j => .q (A r j))))]) := by
  refine imp_id he ⟨fun r hr => ?_, fun r hr => ⟨n, F2, h3, hr, g3 r hr, trivial⟩, trivial⟩ (by rw [h60]; rfl)
  obtain rfl : r = 0 := by omega
  refine ⟨1, F1, h6, by decide, ?_, fun i hi => rfl⟩
  show BLe idR (F1 0) _
  rw [e6]; exact bleo rfl fun i hi => Le.id (g6 i hi)
def mx1 (n : Nat) (zs : List Int) (j : Nat) : Nat → Nat → Rat := fun r c => if r = la n ∧ c = j then mx n zs j 0 j else mx n zs j r c
theorem mx_zero {n : Nat} {zs : List Int} {j r c : Nat} (h : r ≠ la n) : mx n zs j r c = mbase n zs r c := by
  unfold mx; rw [if_neg (fun e => h e.1)]
theorem mx_step {n : Nat} {zs : List Int} {j r c : Nat} (h1 : 1 < n) (h2 : 2 < n) : (if r = la n ∧ c = j then mx1 n zs j 0 j + mx1 n zs j (lb2 n) j else mx1 n zs j r c) = mx n zs (j + 1) r c := by
  have e0 : (0 : Nat) ≠ la n := by unfold la; omega
  have e2 : lb2 n ≠ la n := by unfold la lb2; omega
  have a0 : mx1 n zs j 0 j = mbase n zs 0 j := by unfold mx1; rw [if_neg (fun e => e0 e.1), mx_zero e0]
  have a2 : mx1 n zs j (lb2 n) j = mbase n zs (lb2 n) j := by unfold mx1; rw [if_neg (fun e => e2 e.1), mx_zero e2]
  rw [a0, a2]
  by_cases hr : r = la n
  · by_cases hc : c = j
    · rw [if_pos ⟨hr, hc⟩]; unfold mx; rw [if_pos ⟨hr, by omega⟩]; unfold nv; rw [if_pos h2, hc]
    · rw [if_neg (fun e => hc e.2)]
      unfold mx1; rw [if_neg (fun e => hc e.2)]
      unfold mx
      by_cases hl : c < j
      · rw [if_pos ⟨hr, hl⟩, if_pos ⟨hr, by omega⟩]
      · rw [if_neg (fun e => hl e.2), if_neg (by omega)]
  · rw [if_neg (fun e => hr e.1)]
    unfold mx1; rw [if_neg (fun e => hr e.1), mx_zero hr, mx_zero hr]
theorem mx_step2 {n : Nat} {zs : List Int} {j r c : Nat} (h1 : 1 < n) (h2 : ¬ 2 < n) : mx1 n zs j r c = mx n zs (j + 1) r c := by
  have e0 : (0 : Nat) ≠ la n := by unfold la; omega
  unfold mx1
  by_cases hr : r = la n
  · by_cases hc : c = j
    · rw [if_pos ⟨hr, hc⟩, mx_zero e0]; unfold mx; rw [if_pos ⟨hr, by omega⟩]; unfold nv; rw [if_neg h2, hc]
    · rw [if_neg (fun e => hc e.2)]
      unfold mx
      by_cases hl : c < j
      · rw [if_pos ⟨hr, hl⟩, if_pos ⟨hr, by omega⟩]
      · rw [if_neg (fun e => hl e.2), if_neg (by omega)]
  · rw [if_neg (fun e => hr e.1), mx_zero hr, mx_zero hr]
instance mbase_wt (n : Nat) (zs : List Int) (i j : Nat) : Wt (mbase n zs i j) 1 := rowq_wt _ _
theorem nv_wt (n : Nat) (zs : List Int) (c : Nat) : Wt (nv n zs c) 3 := by
  unfold nv; split
  · exact (inferInstance : Wt (mbase n zs 0 c + mbase n zs (lb2 n) c) (1 + 1 + 1))
  · exact (mbase_wt n zs 0 c).mono (by decide)
theorem mx_wt (n : Nat) (zs : List Int) (j r c : Nat) : Wt (mx n zs j r c) 3 := by
  unfold mx; split
  · exact nv_wt _ _ _
  · exact (mbase_wt _ _ _ _).mono (by decide)
theorem mx1_wt (n : Nat) (zs : List Int) (j r c : Nat) : Wt (mx1 n zs j r c) 3 := by
  unfold mx1; split
  · exact mx_wt _ _ _ _ _
  · exact mx_wt _ _ _ _ _
theorem mkm_wt (n : Nat) (zs : List Int) (i j : Nat) : Wt (mkm n zs i j) 3 := by
  unfold mkm; split
  · exact mx_wt _ _ _ _ _
  · exact (mbase_wt _ _ _ _).mono (by decide)
end Go.Proofs.YtdnmoggifjlbiaaGreat.AM

/- Joined texts, 31: PGauss PDet LawL. -/
import Derived.Test.YtjmpanhacfjcaaaJ18
import Derived.Test.YtjmpanhacfjcaaaJ12
import Derived.Test.YtjmpanhacfjcaaaJ29
import Derived.Test.YtjmpanhacfjcaaaJ30
/- What elimination tells: the determinant, the rank; what it leaves. -/
namespace Go.Proofs.Ytjmpanhacfjcaaa.AM
open Go.Proofs.Ytjmpanhacfjcaaa.LA (Mt S S_succ S_zero S_congr S_add S_mul S_mulr S_single S_null S_cut det det_congr det_swp det_addr det_low HasRank rank_swp rank_addr rank_congr addr upd upd_at upd_ne one inverse Eqn mul tr)
set_option linter.unusedVariables false
set_option linter.unusedSimpArgs false
/-- Rows exchanged, multiples of rows added to others: of n rows, m columns. -/
inductive RE (n m : Nat) : Mt → Mt → Rat → Prop where
  | refl {A B : Mt} (h : ∀ i j, i < n → j < m → A i j = B i j) : RE n m A B 1
  | swp {A B C : Mt} {σ : Rat} (a b : Nat) (ha : a < n) (hb : b < n) (hab : a ≠ b) (h : RE n m A B σ) (hC : ∀ i j, i < n → j < m → C i j = LA.swp B a b i j) : RE n m A C (-σ)
  | addr {A B C : Mt} {σ : Rat} (a b : Nat) (f : Rat) (ha : a < n) (hb : b < n) (hab : a ≠ b) (h : RE n m A B σ) (hC : ∀ i j, i < n → j < m → C i j = LA.addr B a b f i j) : RE n m A C σ
theorem RE.congr {n m : Nat} {A B C : Mt} {σ : Rat} (h : RE n m A B σ) (hc : ∀ i j, i < n → j < m → B i j = C i j) : RE n m A C σ := by
  cases h with
  | refl h => exact .refl fun i j hi hj => (h i j hi hj).trans (hc i j hi hj)
  | swp a b ha hb hab h hC => exact .swp a b ha hb hab h fun i j hi hj => (hc i j hi hj).symm.trans (hC i j hi hj)
  | addr a b f ha hb hab h hC => exact .addr a b f ha hb hab h fun i j hi hj => (hc i j hi hj).symm.trans (hC i j hi hj)
theorem RE.det {n m : Nat} {A B : Mt} {σ : Rat} (hnm : n ≤ m) (h : RE n m A B σ) : det n B = σ * det n A := by
  induction h with
  | refl h => rw [Rat.one_mul]; exact det_congr fun i j hi hj => (h i j hi (by omega)).symm
  | swp a b ha hb hab h hC ih => rw [det_congr (B := LA.swp _ a b) fun i j hi hj => hC i j hi (by omega), det_swp _ ha hb hab, ih, Rat.neg_mul]
  | addr a b f ha hb hab h hC ih => rw [det_congr (B := LA.addr _ a b f) fun i j hi hj => hC i j hi (by omega), det_addr _ ha hb hab, ih]
theorem RE.rank {n m : Nat} {A B : Mt} {σ : Rat} (hnm : n ≤ m) (h : RE n m A B σ) : ∀ {r : Nat}, HasRank n B r → HasRank n A r := by
  induction h with
  | refl h => exact fun k => rank_congr (fun i j hi hj => (h i j hi (by omega)).symm) k
  | swp a b ha hb hab h hC ih =>
    refine fun k => ih (rank_congr (fun i j hi hj => ?_) (rank_swp ha hb hab k))
    unfold LA.swp
    by_cases e1 : i = a
    · subst e1
      rw [if_pos rfl, hC b j hb (by omega)]
      unfold LA.swp
      rw [if_neg (Ne.symm hab), if_pos rfl]
    · rw [if_neg e1]
      by_cases e2 : i = b
      · subst e2
        rw [if_pos rfl, hC a j ha (by omega)]
        unfold LA.swp
        rw [if_pos rfl]
      · rw [if_neg e2, hC i j hi (by omega)]
        unfold LA.swp
        rw [if_neg e1, if_neg e2]
  | addr a b f ha hb hab h hC ih =>
    refine fun k => ih (rank_congr (fun i j hi hj => ?_) (rank_addr ha hb hab (-f) k))
    unfold LA.addr
    by_cases e1 : i = a
    · subst e1
      rw [upd_at, hC i j hi (by omega), hC b j hb (by omega)]
      unfold LA.addr
      rw [upd_at, upd_ne _ _ _ (Ne.symm hab)]
      grind
    · rw [upd_ne _ _ _ e1, hC i j hi (by omega)]
      unfold LA.addr
      rw [upd_ne _ _ _ e1]
/-- What all rows send to nought. -/
def Ker (n m : Nat) (A : Mt) (y : Nat → Rat) : Prop := ∀ r, r < n → S m (fun j => A r j * y j) = 0
theorem RE.ker {n m : Nat} {A B : Mt} {σ : Rat} (h : RE n m A B σ) {y : Nat → Rat} : Ker n m B y → Ker n m A y := by
  induction h with
  | refl h => intro k r hr; rw [S_congr fun j hj => by rw [h r j hr hj]]; exact k r hr
  | swp a b ha hb hab h hC ih =>
    rename_i B C σ
    intro k
    refine ih fun r hr => ?_
    have key : ∀ r r', r < n → r' < n → (∀ j, j < m → C r j = B r' j) → S m (fun j => B r' j * y j) = 0 := fun r r' h1 h2 h3 => by
      rw [S_congr (g := fun j => C r j * y j) fun j hj => by rw [h3 j hj]]; exact k r h1
    by_cases e1 : r = a
    · subst e1; exact key b r hb hr fun j hj => by rw [hC b j hb hj]; unfold LA.swp; rw [if_neg (Ne.symm hab), if_pos rfl]
    · by_cases e2 : r = b
      · subst e2; exact key a r ha hr fun j hj => by rw [hC a j ha hj]; unfold LA.swp; rw [if_pos rfl]
      · exact key r r hr hr fun j hj => by rw [hC r j hr hj]; unfold LA.swp; rw [if_neg e1, if_neg e2]
  | addr a b f ha hb hab h hC ih =>
    rename_i B C σ
    intro k
    refine ih fun r hr => ?_
    have kb : S m (fun j => B b j * y j) = 0 := by
      rw [S_congr (g := fun j => C b j * y j) fun j hj => by rw [hC b j hb hj]; unfold LA.addr; rw [upd_ne _ _ _ (Ne.symm hab)]]
      exact k b hb
    by_cases e1 : r = a
    · subst e1
      have k1 := k r hr
      rw [S_congr (g := fun j => B r j * y j + f * (B b j * y j)) fun j hj => by rw [hC r j hr hj]; unfold LA.addr; rw [upd_at]; grind, S_add, S_mul, kb] at k1
      grind
    · rw [S_congr (g := fun j => C r j * y j) fun j hj => by rw [hC r j hr hj]; unfold LA.addr; rw [upd_ne _ _ _ e1]]
      exact k r hr
theorem RE.sq {n m : Nat} {A B : Mt} {σ : Rat} (h : RE n m A B σ) : σ * σ = 1 := by
  induction h with
  | refl h => exact Rat.one_mul 1
  | swp a b ha hb hab h hC ih => rw [Rat.neg_mul, Rat.mul_neg, Rat.neg_neg]; exact ih
  | addr a b f ha hb hab h hC ih => exact ih
def prodP (f : Nat → Rat) : Nat → Rat
  | 0 => 1
  | k + 1 => prodP f k * f k
theorem prodP_congr {f g : Nat → Rat} : ∀ {k : Nat}, (∀ i, i < k → f i = g i) → prodP f k = prodP g k
  | 0, _ => rfl
  | k + 1, h => by unfold prodP; rw [prodP_congr fun i hi => h i (by omega), h k (Nat.lt_succ_self k)]
/-- The rows in their order. -/
def PR (s : ES) : Mt := fun r j => s.A (s.π r) j
/-- What holds behind c columns. -/
structure GI (n m c : Nat) (all : Bool) (A : Mt) (s : ES) (σ : Rat) (col : Nat → Nat) : Prop where
  re : RE n m A (PR s) σ
  d : s.d = σ * prodP (fun i => PR s i (col i)) s.at'
  low : ∀ r j, s.at' ≤ r → r < n → j < c → PR s r j = 0
  lt : ∀ i, i < s.at' → col i < c
  nz : ∀ i, i < s.at' → PR s i (col i) ≠ 0
  ahead : ∀ i, i < s.at' → ∀ j, j < col i → PR s i j = 0
  inc : ∀ i j, i < j → j < s.at' → col i < col j
  cl : all = true → ∀ i r, i < s.at' → r < n → r ≠ i → PR s r (col i) = 0
theorem cln_at {B : Nat → Nat → Rat} {π : Nat → Nat} {all : Bool} {a c m n r : Nat} (hinj : ∀ i j, i < n → j < n → π i = π j → i = j) (hr : r < n) (j : Nat) (hj : tst all a r ∧ c ≤ j ∧ j < m) : cln B π all a c m n (π r) j = B (π r) j - B (π r) c / B (π a) c * B (π a) j := by
  unfold cln; rw [if_pos ⟨⟨r, hr, hj.1, rfl⟩, hj.2⟩]
theorem cln_not {B : Nat → Nat → Rat} {π : Nat → Nat} {all : Bool} {a c m n r : Nat} (hinj : ∀ i j, i < n → j < n → π i = π j → i = j) (hr : r < n) (j : Nat) (hj : ¬ (tst all a r ∧ c ≤ j ∧ j < m)) : cln B π all a c m n (π r) j = B (π r) j := by
  unfold cln; rw [if_neg]
  rintro ⟨⟨i, h1, h2, h3⟩, h4⟩
  exact hj ⟨by rw [hinj r i hr h1 h3]; exact h2, h4⟩
/-- Rows from the one at a place on, cleaned, one by one. -/
theorem re_clean {n m c a : Nat} {all : Bool} {A Q : Mt} {σ : Rat} (h : RE n m A Q σ) (ha : a < n) (hz : ∀ j, j < c → Q a j = 0) (C : Mt)
    (h1 : ∀ r j, r < n → j < m → tst all a r → c ≤ j → C r j = Q r j - Q r c / Q a c * Q a j) (h2 : ∀ r j, r < n → j < m → ¬ (tst all a r ∧ c ≤ j) → C r j = Q r j) : RE n m A C σ := by
  have key : ∀ k, k ≤ n → RE n m A (fun r j => if r < k then C r j else Q r j) σ := by
    intro k
    induction k with
    | zero => intro _; exact h
    | succ k ih =>
      intro hk
      by_cases ht : tst all a k
      · refine .addr k a (-(Q k c / Q a c)) (by omega) ha (tst_ne ht) (ih (by omega)) fun i j hi hj => ?_
        unfold LA.addr
        have hCa : ∀ j, j < m → (if a < k then C a j else Q a j) = Q a j := fun j hj => by
          split
          · exact h2 a j ha hj fun e => tst_ne e.1 rfl
          · rfl
        by_cases e : i = k
        · subst e
          rw [upd_at]
          dsimp only
          rw [if_pos (Nat.lt_succ_self i), if_neg (Nat.lt_irrefl _), hCa j hj]
          by_cases hcj : c ≤ j
          · rw [h1 i j hi hj ht hcj]; grind
          · rw [h2 i j hi hj (fun e => hcj e.2), hz j (by omega)]; grind
        · rw [upd_ne _ _ _ e]
          by_cases e2 : i < k
          · rw [if_pos (by omega), if_pos e2]
          · rw [if_neg (by omega), if_neg e2]
      · refine (ih (by omega)).congr fun i j hi hj => ?_
        by_cases e : i = k
        · subst e; rw [if_neg (Nat.lt_irrefl _), if_pos (by omega), h2 i j hi hj (fun e => ht e.1)]
        · by_cases e2 : i < k
          · rw [if_pos e2, if_pos (by omega)]
          · rw [if_neg e2, if_neg (by omega)]
  exact (key n (Nat.le_refl n)).congr fun i j hi _ => if_pos hi
theorem det1_swp {d : Rat} {i a : Nat} : det1 d i a = (if i = a then 1 else -1) * d := by
  unfold det1
  split
  · rw [Rat.one_mul]
  · rw [Rat.neg_mul, Rat.one_mul]
theorem gi_step {n m c : Nat} {all : Bool} {A : Mt} {s : ES} {σ : Rat} {col : Nat → Nat} (hm : c < m) (hlt : ∀ i, i < n → s.π i < n) (hinj : ∀ i j, i < n → j < n → s.π i = s.π j → i = j) (h : GI n m c all A s σ col) :
    ∃ σ' col', GI n m (c + 1) all A (stp n m all s c) σ' col' := by
  obtain ⟨f1, f2, f3, f4⟩ := fnd_le (fun i => s.A (s.π i) c ≠ 0) (n - s.at') s.at'
  by_cases hfn : fnd (fun i => s.A (s.π i) c ≠ 0) (n - s.at') s.at' < n
  · have e : stp n m all s c = ⟨s.at' + 1, det1 s.d (fnd (fun i => s.A (s.π i) c ≠ 0) (n - s.at') s.at') s.at' * s.A (s.π (fnd (fun i => s.A (s.π i) c ≠ 0) (n - s.at') s.at')) c, swp s.π (fnd (fun i => s.A (s.π i) c ≠ 0) (n - s.at') s.at') s.at',
      cln s.A (swp s.π (fnd (fun i => s.A (s.π i) c ≠ 0) (n - s.at') s.at') s.at') all s.at' c m n⟩ := if_pos hfn
    rw [e]
    have hnz := f4 (by omega)
    clear e f2 f3 f4
    obtain ⟨a, d, π, B⟩ := s
    dsimp only at *
    generalize fnd (fun i => B (π i) c ≠ 0) (n - a) a = i0 at *
    have han : a < n := by omega
    have hinj' := swp_inj hinj hfn han
    have hP : ∀ r j, PR ⟨a, d, π, B⟩ r j = B (π r) j := fun _ _ => rfl
    -- the rows behind the exchange
    have hQa : ∀ j, B (swp π i0 a a) j = B (π i0) j := fun j => by rw [swp_at]
    have hQ : ∀ r, r ≠ a → ∃ r', (r' = if r = i0 then a else r) ∧ ∀ j, B (swp π i0 a r) j = B (π r') j := fun r hr => by
      refine ⟨_, rfl, fun j => ?_⟩
      unfold swp updN
      rw [if_neg hr]
      by_cases e : r = i0
      · rw [if_pos e, if_pos e]
      · rw [if_neg e, if_neg e]
    have hQi : ∀ r, r < a → ∀ j, B (swp π i0 a r) j = B (π r) j := fun r hr j => by
      obtain ⟨r', e, h2⟩ := hQ r (by omega)
      rw [if_neg (by omega)] at e
      rw [h2, e]
    have hQz : ∀ r j, a ≤ r → r < n → j < c → B (swp π i0 a r) j = 0 := fun r j h1 h2 h3 => by
      by_cases e : r = a
      · subst e; rw [hQa]; exact h.low i0 j f1 hfn h3
      · obtain ⟨r', e2, h4⟩ := hQ r e
        rw [h4]
        refine h.low r' j ?_ ?_ h3
        · show a ≤ r'; rw [e2]; split <;> omega
        · rw [e2]; split <;> omega
    have hre : RE n m A (fun r j => B (swp π i0 a r) j) ((if i0 = a then 1 else -1) * σ) := by
      by_cases e : i0 = a
      · rw [if_pos e, Rat.one_mul]
        exact h.re.congr fun i j _ _ => by rw [hP, e, swp_self]
      · rw [if_neg e, show (-1 : Rat) * σ = -σ by rw [Rat.neg_mul, Rat.one_mul]]
        refine .swp i0 a hfn han e h.re fun i j hi hj => ?_
        unfold LA.swp
        show B (swp π i0 a i) j = if i = i0 then B (π a) j else if i = a then B (π i0) j else B (π i) j
        unfold swp updN
        by_cases e1 : i = a
        · rw [if_pos e1]
          by_cases e2 : i = i0
          · exact absurd (e2.symm.trans e1) e
          · rw [if_neg e2, if_pos e1]
        · rw [if_neg e1]
          by_cases e2 : i = i0
          · rw [if_pos e2, if_pos e2]
          · rw [if_neg e2, if_neg e2, if_neg e1]
    have hpv : B (swp π i0 a a) c ≠ 0 := by rw [hQa]; exact hnz
    have hC1 : ∀ r j, r < n → j < m → tst all a r → c ≤ j → cln B (swp π i0 a) all a c m n (swp π i0 a r) j = B (swp π i0 a r) j - B (swp π i0 a r) c / B (swp π i0 a a) c * B (swp π i0 a a) j := fun r j hr hj ht hcj => cln_at hinj' hr j ⟨ht, hcj, hj⟩
    have hC2 : ∀ r j, r < n → ¬ (tst all a r ∧ c ≤ j) → cln B (swp π i0 a) all a c m n (swp π i0 a r) j = B (swp π i0 a r) j := fun r j hr hn => cln_not hinj' hr j fun e => hn ⟨e.1, e.2.1⟩
    have hcl0 : ∀ r, r < n → tst all a r → cln B (swp π i0 a) all a c m n (swp π i0 a r) c = 0 := fun r hr ht => by
      rw [hC1 r c hr hm ht (Nat.le_refl c), Rat.div_mul_cancel hpv]; grind
    have hPn : ∀ r j, PR ⟨a + 1, det1 d i0 a * B (π i0) c, swp π i0 a, cln B (swp π i0 a) all a c m n⟩ r j = cln B (swp π i0 a) all a c m n (swp π i0 a r) j := fun _ _ => rfl
    have hsame : ∀ i, i < a → ∀ j, j < c → cln B (swp π i0 a) all a c m n (swp π i0 a i) j = B (π i) j := fun i hi j hj => by
      rw [hC2 i j (by omega) (fun e => by omega), hQi i hi]
    have hrow : ∀ j, cln B (swp π i0 a) all a c m n (swp π i0 a a) j = B (π i0) j := fun j => by
      rw [hC2 a j han (fun e => tst_ne e.1 rfl), hQa]
    refine ⟨(if i0 = a then 1 else -1) * σ, fun i => if i = a then c else col i, ?_, ?_, ?_, ?_, ?_, ?_, ?_, ?_⟩
    · exact (re_clean hre han (fun j hj => hQz a j (Nat.le_refl a) han hj) (fun r j => cln B (swp π i0 a) all a c m n (swp π i0 a r) j) hC1 (fun r j hr _ hn => hC2 r j hr hn)).congr fun _ _ _ _ => rfl
    · show det1 d i0 a * B (π i0) c = (if i0 = a then 1 else -1) * σ * (prodP (fun i => cln B (swp π i0 a) all a c m n (swp π i0 a i) (if i = a then c else col i)) a * cln B (swp π i0 a) all a c m n (swp π i0 a a) (if a = a then c else col a))
      have hd : d = σ * prodP (fun i => B (π i) (col i)) a := h.d
      have e1 : prodP (fun i => cln B (swp π i0 a) all a c m n (swp π i0 a i) (if i = a then c else col i)) a = prodP (fun i => B (π i) (col i)) a := prodP_congr fun i hi => by
        rw [if_neg (show ¬ i = a by omega)]; exact hsame i hi _ (h.lt i hi)
      rw [e1, if_pos rfl, hrow, det1_swp, hd]
      grind
    · intro r j h1 h2 h3
      have h1 : a + 1 ≤ r := h1
      rw [hPn]
      by_cases e : j = c
      · subst e; exact hcl0 r h2 (.inl (by omega))
      · rw [hC2 r j h2 (fun e => by omega)]; exact hQz r j (by omega) h2 (by omega)
    · intro i hi
      have hi : i < a + 1 := hi
      split
      · omega
      · have := h.lt i (show i < a by omega); omega
    · intro i hi
      have hi : i < a + 1 := hi
      rw [hPn]
      by_cases e : i = a
      · subst e; rw [if_pos rfl, hrow]; exact hnz
      · rw [if_neg e, hsame i (by omega) _ (h.lt i (show i < a by omega))]; exact h.nz i (show i < a by omega)
    · intro i hi j hj
      have hi : i < a + 1 := hi
      rw [hPn]
      by_cases e : i = a
      · subst e; rw [if_pos rfl] at hj; rw [hrow]; exact h.low i0 j f1 hfn hj
      · rw [if_neg e] at hj
        have hia : i < a := by omega
        rw [hsame i hia j (by have := h.lt i hia; omega)]; exact h.ahead i hia j hj
    · intro i j hij hj
      have hj : j < a + 1 := hj
      rw [if_neg (show ¬ i = a by omega)]
      split
      · exact h.lt i (show i < a by omega)
      · exact h.inc i j hij (show j < a by omega)
    · intro hall i r hi hr hri
      have hi : i < a + 1 := hi
      rw [hPn]
      by_cases e : i = a
      · subst e
        rw [if_pos rfl]
        exact hcl0 r hr (by
          rcases Nat.lt_or_ge i r with h1 | h1
          · exact .inl h1
          · exact .inr ⟨hall, by omega⟩)
      · have hia : i < a := by omega
        have hci := h.lt i hia
        rw [if_neg e, hC2 r _ hr (fun e => by omega)]
        by_cases e2 : r < a
        · rw [hQi r e2]; exact h.cl hall i r hia hr hri
        · exact hQz r _ (by omega) hr hci
  · have e : stp n m all s c = s := if_neg hfn
    rw [e]
    refine ⟨σ, col, h.re, h.d, fun r j h1 h2 h3 => ?_, fun i hi => Nat.lt_succ_of_lt (h.lt i hi), h.nz, h.ahead, h.inc, h.cl⟩
    by_cases e : j = c
    · subst e; exact Classical.byContradiction fun hne => f3 r h1 (by omega) hne
    · exact h.low r j h1 h2 (by omega)
theorem stps_perm {n m : Nat} {all : Bool} {A : Nat → Nat → Rat} : ∀ c, (stps n m all A c).at' ≤ c ∧ (∀ i, i < n → (stps n m all A c).π i < n) ∧ ∀ i j, i < n → j < n → (stps n m all A c).π i = (stps n m all A c).π j → i = j
  | 0 => ⟨Nat.le_refl _, fun i hi => hi, fun i j _ _ e => e⟩
  | c + 1 => by
    obtain ⟨h1, h2, h3⟩ := stps_perm (n := n) (m := m) (all := all) (A := A) c
    show (stp n m all (stps n m all A c) c).at' ≤ c + 1 ∧ (∀ i, i < n → (stp n m all (stps n m all A c) c).π i < n) ∧ ∀ i j, i < n → j < n → (stp n m all (stps n m all A c) c).π i = (stp n m all (stps n m all A c) c).π j → i = j
    generalize stps n m all A c = s at *
    unfold stp
    split
    · rename_i hi
      have h4 := (fnd_le (fun i => s.A (s.π i) c ≠ 0) (n - s.at') s.at').1
      exact ⟨by show s.at' + 1 ≤ c + 1; omega, swp_lt h2 hi (by omega), swp_inj h3 hi (by omega)⟩
    · exact ⟨by omega, h2, h3⟩
theorem stps_gi {n m : Nat} {all : Bool} {A : Mt} : ∀ c, c ≤ m → ∃ σ col, GI n m c all A (stps n m all A c) σ col
  | 0, _ => ⟨1, fun _ => 0, .refl fun _ _ _ _ => rfl, (Rat.one_mul 1).symm, fun r j _ _ h => absurd h (Nat.not_lt_zero _), fun i h => absurd h (Nat.not_lt_zero _), fun i h => absurd h (Nat.not_lt_zero _), fun i h => absurd h (Nat.not_lt_zero _), fun i j _ h => absurd h (Nat.not_lt_zero _), fun _ i r h => absurd h (Nat.not_lt_zero _)⟩
  | c + 1, hc => by
    obtain ⟨σ, col, h⟩ := stps_gi (n := n) (m := m) (all := all) (A := A) c (by omega)
    obtain ⟨_, h2, h3⟩ := stps_perm (n := n) (m := m) (all := all) (A := A) c
    exact gi_step (by omega) h2 h3 h
theorem GI.le {n m c : Nat} {all : Bool} {A : Mt} {s : ES} {σ : Rat} {col : Nat → Nat} (h : GI n m c all A s σ col) : ∀ i, i < s.at' → i ≤ col i
  | 0, _ => Nat.zero_le _
  | i + 1, hi => by
    have h1 := h.le i (by omega)
    have h2 := h.inc i (i + 1) (by omega) hi
    omega
/-- Where all columns have a pivot each stands in its row. -/
theorem GI.full {n m : Nat} {all : Bool} {A : Mt} {s : ES} {σ : Rat} {col : Nat → Nat} (h : GI n m n all A s σ col) (hf : s.at' = n) : ∀ i, i < n → col i = i := by
  have hge : ∀ k i, i + k + 1 = n → col i ≤ i := by
    intro k
    induction k with
    | zero => intro i hi; have := h.lt i (by omega); omega
    | succ k ih =>
      intro i hi
      have h1 := ih (i + 1) (by omega)
      have h2 := h.inc i (i + 1) (by omega) (by omega)
      omega
  intro i hi
  have h1 := h.le i (by omega)
  have h2 := hge (n - 1 - i) i (by omega)
  omega
theorem prodP_fold (f : Nat → Rat) (n : Nat) : (List.range n).foldl (fun p i => p * f i) 1 = prodP f n := by
  induction n with
  | zero => rfl
  | succ n ih => rw [List.range_succ, List.foldl_append, ih]; rfl
theorem fin_det {n m : Nat} {all : Bool} {A : Mt} (hnm : n ≤ m) : (if (stps n m all A n).at' < n then 0 else (stps n m all A n).d) = det n A := by
  obtain ⟨σ, col, h⟩ := stps_gi (n := n) (m := m) (all := all) (A := A) n hnm
  obtain ⟨hle, _, _⟩ := stps_perm (n := n) (m := m) (all := all) (A := A) n
  generalize stps n m all A n = s at *
  have h1 := h.re.det hnm
  have h2 := h.re.sq
  split
  · rename_i hlt
    have h3 : det n (PR s) = 0 := LA.det_zero_row _ (a := n - 1) (by omega) fun j hj => h.low (n - 1) j (by omega) (by omega) hj
    rw [h3] at h1
    have : det n A = σ * (σ * det n A) := by rw [← Rat.mul_assoc, h2, Rat.one_mul]
    rw [this, ← h1, Rat.mul_zero]
  · have hf : s.at' = n := by omega
    have hcol := h.full hf
    have h3 : det n (PR s) = prodP (fun i => PR s i i) n := by
      rw [det_low n _ (fun i j hi hj => h.ahead i (by omega) j (by rw [hcol i hi]; exact hj)), prodP_fold]
    have h4 := h.d
    rw [hf, prodP_congr (g := fun i => PR s i i) (fun i hi => by rw [hcol i hi]), ← h3, h1] at h4
    rw [h4, ← Rat.mul_assoc, h2, Rat.one_mul]
theorem fin_rank {n m : Nat} {all : Bool} {A : Mt} (hnm : n ≤ m) : HasRank n A (stps n m all A n).at' := by
  obtain ⟨σ, col, h⟩ := stps_gi (n := n) (m := m) (all := all) (A := A) n hnm
  obtain ⟨hle, _, _⟩ := stps_perm (n := n) (m := m) (all := all) (A := A) n
  generalize stps n m all A n = s at *
  refine h.re.rank hnm ⟨⟨one, PR s, fun i j hi hj => ?_⟩, ?_⟩
  · by_cases e : i < s.at'
    · rw [S_single e (fun k hk hne => by unfold one; rw [if_neg (Ne.symm hne), Rat.zero_mul])]
      unfold one; rw [if_pos rfl, Rat.one_mul]
    · rw [h.low i j (by omega) hi (by omega), S_null fun k hk => by unfold one; rw [if_neg (by omega), Rat.zero_mul]]
  · -- the pivots' columns have a right inverse
    have hd : det s.at' (tr fun i k => PR s i (col k)) ≠ 0 := by
      rw [LA.det_tr, det_low s.at' _ (fun i j hi hj => h.ahead i hi (col j) (h.inc j i hj hi))]
      rw [prodP_fold]
      have : ∀ k, k ≤ s.at' → prodP (fun i => PR s i (col i)) k ≠ 0 := by
        intro k
        induction k with
        | zero => intro _; show (1 : Rat) ≠ 0; decide
        | succ k ih => intro hk; exact fun e => (Rat.mul_eq_zero.1 e).elim (ih (by omega)) (h.nz k (by omega))
      exact this s.at' (Nat.le_refl _)
    obtain ⟨X, hX⟩ := inverse _ hd
    refine ⟨one, fun j b => S s.at' fun k => if j = col k then X b k else 0, fun a b ha hb => ?_⟩
    have e1 : S n (fun i => S n (fun j => one a i * PR s i j * S s.at' fun k => if j = col k then X b k else 0)) = S n (fun j => PR s a j * S s.at' fun k => if j = col k then X b k else 0) := by
      rw [S_single (k := a) (by omega) (fun i _ hne => S_null fun j _ => by unfold one; rw [if_neg (Ne.symm hne), Rat.zero_mul, Rat.zero_mul])]
      exact S_congr fun j _ => by unfold one; rw [if_pos rfl, Rat.one_mul]
    rw [e1]
    have e2 : S n (fun j => PR s a j * S s.at' fun k => if j = col k then X b k else 0) = S s.at' (fun k => S n fun j => PR s a j * (if j = col k then X b k else 0)) := by
      rw [← LA.S_swap]
      exact S_congr fun j _ => (S_mul _ _ _).symm
    rw [e2]
    have e3 : S s.at' (fun k => S n fun j => PR s a j * (if j = col k then X b k else 0)) = S s.at' (fun k => X b k * PR s a (col k)) := S_congr fun k hk => by
      rw [S_single (k := col k) (h.lt k hk) (fun j _ hne => by rw [if_neg hne, Rat.mul_zero]), if_pos rfl, Rat.mul_comm]
    rw [e3, LA.one_symm]
    exact hX b a hb ha
end Go.Proofs.Ytjmpanhacfjcaaa.AM
/- Determinants and ranks: the plain laws. -/
namespace Go.Proofs.Ytjmpanhacfjcaaa.AM
open Go.Proofs.Ytjmpanhacfjcaaa.LA (Mt S S_succ S_zero S_congr det det_congr det_swp det_mul det_tr det_one HasRank rank_full rank_unique rank_tr)
set_option linter.unusedVariables false
set_option linter.unusedSimpArgs false
theorem gdet_det (n : Nat) (F : Nat → Nat → Rat) : gdet n F = det n F := by rw [← dd_gdet]; exact fin_det (Nat.le_refl n)
theorem gs_rank (n : Nat) (F : Nat → Nat → Rat) : HasRank n F (gs n F).at' := by rw [← (gs_eq n F).1]; exact fin_rank (Nat.le_refl n)
theorem gs_le (n : Nat) (F : Nat → Nat → Rat) : (gs n F).at' ≤ n := (rank_full (gs_rank n F)).1
theorem gs_of {n r : Nat} {F : Nat → Nat → Rat} (h : HasRank n F r) : (gs n F).at' = r := rank_unique (gs_rank n F) h
theorem gdet_mul (n : Nat) (A B : Nat → Nat → Rat) : gdet n (fun i j => S n fun k => A i k * B k j) = gdet n A * gdet n B := by
  rw [gdet_det, gdet_det, gdet_det]; exact det_mul n A B
theorem gdet_turn (n : Nat) (A : Nat → Nat → Rat) : gdet n (fun i j => A j i) = gdet n A := by
  rw [gdet_det, gdet_det]; exact det_tr n A
theorem rank_turn (n : Nat) (A : Nat → Nat → Rat) : (gs n fun i j => A j i).at' = (gs n A).at' := gs_of (rank_tr (gs_rank n A))
theorem gdet_zero (n : Nat) (A : Nat → Nat → Rat) : gdet n A = 0 ↔ (gs n A).at' < n := by
  obtain ⟨h1, h2⟩ := rank_full (gs_rank n A)
  rw [gdet_det]
  constructor
  · intro h
    rcases Nat.lt_or_ge (gs n A).at' n with h3 | h3
    · exact h3
    · exact absurd h (h2.1 (by omega))
  · intro h
    exact Classical.byContradiction fun h3 => by have := h2.2 h3; omega
theorem gdet_swap {n : Nat} (A : Nat → Nat → Rat) {i j : Nat} (hi : i < n) (hj : j < n) : gdet n (fun r c => A (swp (fun i => i) i j r) c) = if i = j then gdet n A else - gdet n A := by
  rw [gdet_det, gdet_det]
  by_cases e : i = j
  · subst e; rw [if_pos rfl]
    exact det_congr fun r c _ _ => by rw [swp_self]
  · rw [if_neg e, ← det_swp A hi hj e]
    refine det_congr fun r c _ _ => ?_
    unfold swp updN LA.swp
    by_cases e1 : r = j
    · subst e1; rw [if_pos rfl, if_neg (Ne.symm e), if_pos rfl]
    · rw [if_neg e1]
      by_cases e2 : r = i
      · subst e2; rw [if_pos rfl, if_pos rfl]
      · rw [if_neg e2, if_neg e2, if_neg e1]
theorem gdet_id (n : Nat) : gdet n idm = 1 := by rw [gdet_det]; exact det_one n
theorem rank_id (n : Nat) : (gs n idm).at' = n := by
  have h := (rank_full (gs_rank n idm)).2
  refine h.2 ?_
  rw [← gdet_det, gdet_id]; decide
end Go.Proofs.Ytjmpanhacfjcaaa.AM
/- Laws of dense matrices: DenseDets, walked. -/
namespace Go.Proofs.Ytjmpanhacfjcaaa.AM
open Go Go.RowKit Go.Proofs.Ytjmpanhacfjcaaa.PN Go.Proofs.Ytjmpanhacfjcaaa.V
open Go.Proofs.Ytjmpanhacfjcaaa.LA (S S_succ S_zero S_congr)
set_option linter.unusedVariables false
set_option linter.unusedSimpArgs false
set_option maxRecDepth 8000
set_option maxHeartbeats 8000000
theorem wt_gdet {n K : Nat} {F : Nat → Nat → Rat} [hf : ∀ i j, Wt (F i j) K] (hn : n ≤ 8) : Wt (gdet n F) (390625 * (K + 2)) := by
  have h := stps_ok (n := n) (m := n) (all := false) (hA := fun i j => hf i j) n
  rw [← dd_gdet]
  have h1 : 5 ^ n * (K + 1) ≤ 390625 * (K + 1) := Nat.mul_le_mul_right _ (Nat.pow_le_pow_right (by decide) hn)
  have h2 : 390625 * (K + 1) ≤ 390625 * (K + 2) := by omega
  exact dd_wt (h := h.wd.mono (by omega)) (by omega)
theorem tdiv_fit {a d : Int} (ha : Fits .i64 a) (hd : 2 ≤ d) : -9223372036854775808 ≤ a.tdiv d ∧ a.tdiv d ≤ 9223372036854775807 := by
  have hf : -9223372036854775808 ≤ a ∧ a ≤ 9223372036854775807 := ha
  have e1 : (a.tdiv d).natAbs = a.natAbs / d.natAbs := Int.natAbs_tdiv a d
  have e2 : a.natAbs / d.natAbs ≤ a.natAbs / 2 := Nat.div_le_div_left (by omega) (by decide)
  omega
theorem k_dets {n k : Int} {ns ms : List Int} (_ : Fits .i64 n) (h1 : AllFit ns) (h2 : AllFit ms) (h3 : Fits .i64 k) : Has Try.prog 7 [.i n, .seq .i64 ns, .seq .i64 ms, .i k] (.b true) := by
  refine has_of Try.func7 (by kernel_rfl) rfl Try.ntmps7 Try.results7 rfl rfl rfl ?_
  obtain ⟨q1, q2⟩ := wthn_lt (a := n) (n := 4) (by decide)
  obtain ⟨N, hN⟩ : ∃ N : Nat, 1 + wthn n 4 = (N : Int) := ⟨(1 + wthn n 4).toNat, by omega⟩
  have hN0 : 0 < N := by omega
  have hN8 : N ≤ 8 := by omega
  repeat(first|(with_reducible first|refine awp_seq ?_|refine awp_block ?_|refine awp_skip ?_|refine awp_exit ?_|refine awp_ret ?_|refine q_then ?_|refine q_block ?_|refine q_then_exit ?_|refine q_then_ret ?_|refine q_block_exit ?_|refine q_block_ret ?_|refine q_loop_exit ?_|refine q_loop_ret ?_)|((with_reducible refine q_block_other ?_ ?_);exact rfl)|((with_reducible refine reg ?_ ?_);exact rfl)|((with_reducible refine st_end ?_ ?_);first|exact .inl rfl|exact .inr rfl)|(with_reducible apply st_build0)|((with_reducible apply st_ev);exact rfl;(first|exact True.intro|((repeat' apply And.intro)<;>first|exact True.intro|with_reducible rfl|(simp only[Fits];omega)|omega|assumption|decide|(simp;done)|exact rfl)))|((with_reducible apply st_evg);exact rfl;exact rfl;(first|exact rfl|assumption);exact rfl;(first|exact True.intro|((repeat' apply And.intro)<;>first|exact True.intro|with_reducible rfl|(simp only[Fits];omega)|omega|assumption|decide|(simp;done)|exact rfl)))|((with_reducible apply st_skip);exact rfl;exact rfl;(first|exact rfl|assumption))|((with_reducible apply st_app0);exact rfl;exact rfl;exact rfl;omega)|((with_reducible apply st_skipu);exact rfl;exact rfl)|((with_reducible apply st_pickt);exact rfl;assumption;exact rfl)|((with_reducible apply st_pickf);exact rfl;assumption;exact rfl)|((with_reducible apply st_pickgt);exact rfl;exact rfl;(first|exact rfl|assumption);exact rfl;(first|exact rfl|assumption);exact rfl)|((with_reducible apply st_pickgf);exact rfl;exact rfl;(first|exact rfl|assumption);exact rfl;(first|exact rfl|assumption);exact rfl)|((with_reducible apply st_build);exact rfl;first|exact rfl|(first|exact True.intro|((repeat' apply And.intro)<;>first|exact True.intro|with_reducible rfl|(simp only[Fits];omega)|omega|assumption|decide|(simp;done)|exact rfl)))|((with_reducible apply st_call);exact rfl;exact rfl;exact rfl;first|(exact k_known))|((with_reducible apply st_callg);exact rfl;exact rfl;(first|exact rfl|assumption);exact rfl;exact rfl;exact rfl;first|(exact k_known)))
  refine awp_no rfl rfl ?_
  repeat(first|(with_reducible first|refine awp_seq ?_|refine awp_block ?_|refine awp_skip ?_|refine awp_exit ?_|refine awp_ret ?_|refine q_then ?_|refine q_block ?_|refine q_then_exit ?_|refine q_then_ret ?_|refine q_block_exit ?_|refine q_block_ret ?_|refine q_loop_exit ?_|refine q_loop_ret ?_)|((with_reducible refine q_block_other ?_ ?_);exact rfl)|((with_reducible refine reg ?_ ?_);exact rfl)|((with_reducible refine st_end ?_ ?_);first|exact .inl rfl|exact .inr rfl)|(with_reducible apply st_build0)|((with_reducible apply st_ev);exact rfl;(first|exact True.intro|((repeat' apply And.intro)<;>first|exact True.intro|with_reducible rfl|(simp only[Fits];omega)|omega|assumption|decide|(simp;done)|exact rfl)))|((with_reducible apply st_evg);exact rfl;exact rfl;(first|exact rfl|assumption);exact rfl;(first|exact True.intro|((repeat' apply And.intro)<;>first|exact True.intro|with_reducible rfl|(simp only[Fits];omega)|omega|assumption|decide|(simp;done)|exact rfl)))|((with_reducible apply st_skip);exact rfl;exact rfl;(first|exact rfl|assumption))|((with_reducible apply st_app0);exact rfl;exact rfl;exact rfl;omega)|((with_reducible apply st_skipu);exact rfl;exact rfl)|((with_reducible apply st_pickt);exact rfl;assumption;exact rfl)|((with_reducible apply st_pickf);exact rfl;assumption;exact rfl)|((with_reducible apply st_pickgt);exact rfl;exact rfl;(first|exact rfl|assumption);exact rfl;(first|exact rfl|assumption);exact rfl)|((with_reducible apply st_pickgf);exact rfl;exact rfl;(first|exact rfl|assumption);exact rfl;(first|exact rfl|assumption);exact rfl)|((with_reducible apply st_build);exact rfl;first|exact rfl|(first|exact True.intro|((repeat' apply And.intro)<;>first|exact True.intro|with_reducible rfl|(simp only[Fits];omega)|omega|assumption|decide|(simp;done)|exact rfl)))|((with_reducible apply st_call);exact rfl;exact rfl;exact rfl;first|(exact k_within7 (by decide) (by decide)))|((with_reducible apply st_callg);exact rfl;exact rfl;(first|exact rfl|assumption);exact rfl;exact rfl;exact rfl;first|(exact k_within7 (by decide) (by decide))))
  rw [hN]
  have wA : ∀ i j, Wt (mkm N ns i j) 3 := fun i j => mkm_wt _ _ _ _
  have wB : ∀ i j, Wt (mkm N ms i j) 3 := fun i j => mkm_wt _ _ _ _
  have hT : TB N N 2400 (mkm N ns) := mkm_TB hN0 (by omega)
  have m1 := k_make hN0 hN8 h1
  have m2 := k_make hN0 hN8 h2
  have w1 := gdet_wt (mkm_TB (n := N) (zs := ns) hN0 (by omega))
  have w2 := gdet_wt (mkm_TB (n := N) (zs := ms) hN0 (by omega))
  generalize mkm N ns = A at *
  generalize mkm N ms = B at *
  have wAB : ∀ i j, Wt (S N fun k => A i k * B k j) 57 := fun i j => Wt.sum hN8 fun k _ => (inferInstance : Wt (A i k * B k j) (3 + 3))
  have wAt : ∀ i j, Wt (A j i) 3 := fun i j => wA j i
  obtain ⟨i1, i2⟩ := wthn_lt (a := k) (n := (N : Int)) (by omega)
  obtain ⟨j1, j2⟩ := wthn_lt (a := k.tdiv 8) (n := (N : Int)) (by omega)
  have b1 := k_within7 (a := k) (n := (N : Int)) (by omega) (by omega)
  have b2 := k_within7 (a := k.tdiv 8) (n := (N : Int)) (by omega) (by omega)
  obtain ⟨I, hI⟩ : ∃ I : Nat, wthn k N = (I : Int) := ⟨(wthn k N).toNat, by omega⟩
  obtain ⟨J, hJ⟩ : ∃ J : Nat, wthn (k.tdiv 8) N = (J : Int) := ⟨(wthn (k.tdiv 8) N).toNat, by omega⟩
  rw [hI] at b1 i1 i2
  rw [hJ] at b2 j1 j2
  have hIN : I < N := by omega
  have hJN : J < N := by omega
  have hq := tdiv_fit h3 (show (2 : Int) ≤ 8 by decide)
  have wS : ∀ i j, Wt (A (swp (fun i => i) I J i) j) 3 := fun i j => wA _ _
  have c1 := d_Det (hf := wA) (by decide) hN0 hN8
  have c2 := d_Det (hf := wB) (by decide) hN0 hN8
  have c3 := d_mul (hf := wA) (hg := wB) (by decide) (by decide) hN0 hN8
  have c4 := d_Det (hf := wAB) (by decide) hN0 hN8
  rw [gdet_mul] at c4
  have c5 := cs_mul (p := gdet N A) (q := gdet N B) ⟨by decide, by decide⟩
  have c6 := cs_same (p := gdet N A * gdet N B) (q := gdet N A * gdet N B) ⟨by decide, by decide⟩
  rw [decide_eq_true (rfl : gdet N A * gdet N B = gdet N A * gdet N B)] at c6
  have c7 := d_turn (hf := wA) (by decide) hN0 hN8
  have c8 := d_Det (hf := wAt) (by decide) hN0 hN8
  rw [gdet_turn] at c8
  have c9 := cs_same (p := gdet N A) (q := gdet N A) ⟨by decide, by decide⟩
  rw [decide_eq_true (rfl : gdet N A = gdet N A)] at c9
  have c10 := hs_nought (p := gdet N A)
  have c11 := d_Rank (hf := wA) (by decide) hN0 hN8
  have c12 := d_Rank (hf := wAt) (by decide) hN0 hN8
  rw [rank_turn] at c12
  have hz := gdet_zero N A
  have hr := gs_le N A
  have c13 := d_Det (hf := wS) (by decide) hN0 hN8
  rw [gdet_swap A hIN hJN] at c13
  have c14 := k_one (n := N) (by omega)
  have c15 := d_Det (hf := fun i j => idm_wt i j) (by decide) hN0 hN8
  rw [gdet_id] at c15
  have c16 := d_Rank (hf := fun i j => idm_wt i j) (by decide) hN0 hN8
  rw [rank_id] at c16
  have c17 := cs_same (p := (1 : Rat)) (q := 1) ⟨by decide, by decide⟩
  rw [decide_eq_true (rfl : (1 : Rat) = 1)] at c17
  have c18 := k_neg (p := gdet N A) (Nat.le_trans w1.le (by decide))
  have c19 := cs_same (p := -gdet N A) (q := -gdet N A) ⟨by decide, by decide⟩
  rw [decide_eq_true (rfl : -gdet N A = -gdet N A)] at c19
  generalize gdet N A = dA at *
  generalize gdet N B = dB at *
  generalize (gs N A).at' = r at *
  have g0 : decide (dA = 0) = decide ((r : Int) < (N : Int)) := decide_eq_decide.2 ⟨fun h => by have := hz.1 h; omega, fun h => hz.2 (by omega)⟩
  have g1 : (!(decide (dA = 0) == decide ((r : Int) < (N : Int)))) = false := by rw [g0]; simp
  have g2 : ((!(decide (dA = 0) == decide ((r : Int) < (N : Int)))) == false) = true := by rw [g1]; rfl
  repeat(first|(with_reducible first|refine awp_seq ?_|refine awp_block ?_|refine awp_skip ?_|refine awp_exit ?_|refine awp_ret ?_|refine q_then ?_|refine q_block ?_|refine q_then_exit ?_|refine q_then_ret ?_|refine q_block_exit ?_|refine q_block_ret ?_|refine q_loop_exit ?_|refine q_loop_ret ?_)|((with_reducible refine q_block_other ?_ ?_);exact rfl)|((with_reducible refine reg ?_ ?_);exact rfl)|((with_reducible refine st_end ?_ ?_);first|exact .inl rfl|exact .inr rfl)|(with_reducible apply st_build0)|((with_reducible apply st_ev);exact rfl;(first|exact True.intro|((repeat' apply And.intro)<;>first|exact True.intro|with_reducible rfl|(simp only[Fits];omega)|omega|assumption|decide|(simp;done)|exact rfl)))|((with_reducible apply st_evg);exact rfl;exact rfl;(first|exact rfl|assumption);exact rfl;(first|exact True.intro|((repeat' apply And.intro)<;>first|exact True.intro|with_reducible rfl|(simp only[Fits];omega)|omega|assumption|decide|(simp;done)|exact rfl)))|((with_reducible apply st_skip);exact rfl;exact rfl;(first|exact rfl|assumption))|((with_reducible apply st_app0);exact rfl;exact rfl;exact rfl;omega)|((with_reducible apply st_skipu);exact rfl;exact rfl)|((with_reducible apply st_pickt);exact rfl;assumption;exact rfl)|((with_reducible apply st_pickf);exact rfl;assumption;exact rfl)|((with_reducible apply st_pickgt);exact rfl;exact rfl;(first|exact rfl|assumption);exact rfl;(first|exact rfl|assumption);exact rfl)|((with_reducible apply st_pickgf);exact rfl;exact rfl;(first|exact rfl|assumption);exact rfl;(first|exact rfl|assumption);exact rfl)|((with_reducible apply st_build);exact rfl;first|exact rfl|(first|exact True.intro|((repeat' apply And.intro)<;>first|exact True.intro|with_reducible rfl|(simp only[Fits];omega)|omega|assumption|decide|(simp;done)|exact rfl)))|((with_reducible apply st_call);exact rfl;exact rfl;exact rfl;first|(exact m1)|(exact m2)|(exact c1)|(exact c2)|(exact c3)|(exact c4)|(exact c5)|(exact c6)|(exact c7)|(exact c8)|(exact c9)|(exact c10)|(exact c11)|(exact c12))|((with_reducible apply st_callg);exact rfl;exact rfl;(first|exact rfl|assumption);exact rfl;exact rfl;exact rfl;first|(exact m1)|(exact m2)|(exact c1)|(exact c2)|(exact c3)|(exact c4)|(exact c5)|(exact c6)|(exact c7)|(exact c8)|(exact c9)|(exact c10)|(exact c11)|(exact c12)))
  refine awp_no rfl (decide_eq_false fun h => h rfl) ?_
  clear g0 g1 g2
  repeat(first|(with_reducible first|refine awp_seq ?_|refine awp_block ?_|refine awp_skip ?_|refine awp_exit ?_|refine awp_ret ?_|refine q_then ?_|refine q_block ?_|refine q_then_exit ?_|refine q_then_ret ?_|refine q_block_exit ?_|refine q_block_ret ?_|refine q_loop_exit ?_|refine q_loop_ret ?_)|((with_reducible refine q_block_other ?_ ?_);exact rfl)|((with_reducible refine reg ?_ ?_);exact rfl)|((with_reducible refine st_end ?_ ?_);first|exact .inl rfl|exact .inr rfl)|(with_reducible apply st_build0)|((with_reducible apply st_ev);exact rfl;(first|exact True.intro|((repeat' apply And.intro)<;>first|exact True.intro|with_reducible rfl|(simp only[Fits];omega)|omega|assumption|decide|(simp;done)|exact rfl)))|((with_reducible apply st_evg);exact rfl;exact rfl;(first|exact rfl|assumption);exact rfl;(first|exact True.intro|((repeat' apply And.intro)<;>first|exact True.intro|with_reducible rfl|(simp only[Fits];omega)|omega|assumption|decide|(simp;done)|exact rfl)))|((with_reducible apply st_skip);exact rfl;exact rfl;(first|exact rfl|assumption))|((with_reducible apply st_app0);exact rfl;exact rfl;exact rfl;omega)|((with_reducible apply st_skipu);exact rfl;exact rfl)|((with_reducible apply st_pickt);exact rfl;assumption;exact rfl)|((with_reducible apply st_pickf);exact rfl;assumption;exact rfl)|((with_reducible apply st_pickgt);exact rfl;exact rfl;(first|exact rfl|assumption);exact rfl;(first|exact rfl|assumption);exact rfl)|((with_reducible apply st_pickgf);exact rfl;exact rfl;(first|exact rfl|assumption);exact rfl;(first|exact rfl|assumption);exact rfl)|((with_reducible apply st_build);exact rfl;first|exact rfl|(first|exact True.intro|((repeat' apply And.intro)<;>first|exact True.intro|with_reducible rfl|(simp only[Fits];omega)|omega|assumption|decide|(simp;done)|exact rfl)))|((with_reducible apply st_call);exact rfl;exact rfl;exact rfl;first|(exact b1)|(exact b2)|(exact c18))|((with_reducible apply st_callg);exact rfl;exact rfl;(first|exact rfl|assumption);exact rfl;exact rfl;exact rfl;first|(exact b1)|(exact b2)|(exact c18)))
  have hrow : ∀ i, updN (updN (glue 0 (fun i => [].getD i (.v undef)) fun i => AV.row true N (fun j => .q (A i j))) I (.row true N (fun j => .q (A J j)))) J (.row true N (fun j => .q (A I j))) i = .row true N (fun j => .q (A (swp (fun i => i) I J i) j)) := fun i => by
    unfold swp updN glue
    rw [if_neg (Nat.not_lt_zero i), Nat.sub_zero]
    by_cases e1 : i = J
    · rw [if_pos e1, if_pos e1]
    · rw [if_neg e1, if_neg e1]
      by_cases e2 : i = I
      · rw [if_pos e2, if_pos e2]
      · rw [if_neg e2, if_neg e2]
  refine awp_if rfl (fun h => ?_) (fun h => ?_)
  · have h : I = J := by omega
    rw [if_pos h] at c13
    (repeat (first|(with_reducible first|refine awp_seq ?_|refine awp_block ?_|refine awp_skip ?_|refine awp_exit ?_|refine awp_ret ?_|refine q_then ?_|refine q_block ?_|refine q_then_exit ?_|refine q_then_ret ?_|refine q_block_exit ?_|refine q_block_ret ?_|refine q_loop_exit ?_|refine q_loop_ret ?_)|((with_reducible refine q_block_other ?_ ?_);exact rfl)))
    (with_reducible refine reg ?_ ?_); exact rfl
    repeat(first|(with_reducible first|refine awp_seq ?_|refine awp_block ?_|refine awp_skip ?_|refine awp_exit ?_|refine awp_ret ?_|refine q_then ?_|refine q_block ?_|refine q_then_exit ?_|refine q_then_ret ?_|refine q_block_exit ?_|refine q_block_ret ?_|refine q_loop_exit ?_|refine q_loop_ret ?_)|((with_reducible refine q_block_other ?_ ?_);exact rfl)|((with_reducible refine st_end ?_ ?_);first|exact .inl rfl|exact .inr rfl)|(with_reducible apply st_build0)|((with_reducible apply st_ev);exact rfl;(first|exact True.intro|((repeat' apply And.intro)<;>first|exact True.intro|with_reducible rfl|(simp only[Fits];omega)|omega|assumption|decide|(simp;done)|exact rfl)))|((with_reducible apply st_evg);exact rfl;exact rfl;(first|exact rfl|assumption);exact rfl;(first|exact True.intro|((repeat' apply And.intro)<;>first|exact True.intro|with_reducible rfl|(simp only[Fits];omega)|omega|assumption|decide|(simp;done)|exact rfl)))|((with_reducible apply st_skip);exact rfl;exact rfl;(first|exact rfl|assumption))|((with_reducible apply st_app0);exact rfl;exact rfl;exact rfl;omega)|((with_reducible apply st_skipu);exact rfl;exact rfl)|((with_reducible apply st_pickt);exact rfl;assumption;exact rfl)|((with_reducible apply st_pickf);exact rfl;assumption;exact rfl)|((with_reducible apply st_pickgt);exact rfl;exact rfl;(first|exact rfl|assumption);exact rfl;(first|exact rfl|assumption);exact rfl)|((with_reducible apply st_pickgf);exact rfl;exact rfl;(first|exact rfl|assumption);exact rfl;(first|exact rfl|assumption);exact rfl)|((with_reducible apply st_build);exact rfl;first|exact rfl|(first|exact True.intro|((repeat' apply And.intro)<;>first|exact True.intro|with_reducible rfl|(simp only[Fits];omega)|omega|assumption|decide|(simp;done)|exact rfl))))
    refine awp_imp (imp_matn 12 (fun _ => N) (fun i j => .q (A (swp (fun i => i) I J i) j)) rfl rfl rfl (fun i hi => hrow i) (Nat.zero_add N)) ?_
    repeat(first|(with_reducible first|refine awp_seq ?_|refine awp_block ?_|refine awp_skip ?_|refine awp_exit ?_|refine awp_ret ?_|refine q_then ?_|refine q_block ?_|refine q_then_exit ?_|refine q_then_ret ?_|refine q_block_exit ?_|refine q_block_ret ?_|refine q_loop_exit ?_|refine q_loop_ret ?_)|((with_reducible refine q_block_other ?_ ?_);exact rfl)|((with_reducible refine reg ?_ ?_);exact rfl)|((with_reducible refine st_end ?_ ?_);first|exact .inl rfl|exact .inr rfl)|(with_reducible apply st_build0)|((with_reducible apply st_ev);exact rfl;(first|exact True.intro|((repeat' apply And.intro)<;>first|exact True.intro|with_reducible rfl|(simp only[Fits];omega)|omega|assumption|decide|(simp;done)|exact rfl)))|((with_reducible apply st_evg);exact rfl;exact rfl;(first|exact rfl|assumption);exact rfl;(first|exact True.intro|((repeat' apply And.intro)<;>first|exact True.intro|with_reducible rfl|(simp only[Fits];omega)|omega|assumption|decide|(simp;done)|exact rfl)))|((with_reducible apply st_skip);exact rfl;exact rfl;(first|exact rfl|assumption))|((with_reducible apply st_app0);exact rfl;exact rfl;exact rfl;omega)|((with_reducible apply st_skipu);exact rfl;exact rfl)|((with_reducible apply st_pickt);exact rfl;assumption;exact rfl)|((with_reducible apply st_pickf);exact rfl;assumption;exact rfl)|((with_reducible apply st_pickgt);exact rfl;exact rfl;(first|exact rfl|assumption);exact rfl;(first|exact rfl|assumption);exact rfl)|((with_reducible apply st_pickgf);exact rfl;exact rfl;(first|exact rfl|assumption);exact rfl;(first|exact rfl|assumption);exact rfl)|((with_reducible apply st_build);exact rfl;first|exact rfl|(first|exact True.intro|((repeat' apply And.intro)<;>first|exact True.intro|with_reducible rfl|(simp only[Fits];omega)|omega|assumption|decide|(simp;done)|exact rfl)))|((with_reducible apply st_call);exact rfl;exact rfl;exact rfl;first|(exact c13)|(exact c9)|(exact c14)|(exact c15)|(exact c_unit)|(exact c17)|(exact c16))|((with_reducible apply st_callg);exact rfl;exact rfl;(first|exact rfl|assumption);exact rfl;exact rfl;exact rfl;first|(exact c13)|(exact c9)|(exact c14)|(exact c15)|(exact c_unit)|(exact c17)|(exact c16)))
    refine ⟨.inr rfl, _, Imp.refl _, ?_⟩
    exact .one (.tmp (congrArg (fun b => some (AV.b b)) (decide_eq_true rfl)))
  · have h : I ≠ J := by omega
    rw [if_neg h] at c13
    refine awp_imp (imp_matn 12 (fun _ => N) (fun i j => .q (A (swp (fun i => i) I J i) j)) rfl rfl rfl (fun i hi => hrow i) (Nat.zero_add N)) ?_
    repeat(first|(with_reducible first|refine awp_seq ?_|refine awp_block ?_|refine awp_skip ?_|refine awp_exit ?_|refine awp_ret ?_|refine q_then ?_|refine q_block ?_|refine q_then_exit ?_|refine q_then_ret ?_|refine q_block_exit ?_|refine q_block_ret ?_|refine q_loop_exit ?_|refine q_loop_ret ?_)|((with_reducible refine q_block_other ?_ ?_);exact rfl)|((with_reducible refine reg ?_ ?_);exact rfl)|((with_reducible refine st_end ?_ ?_);first|exact .inl rfl|exact .inr rfl)|(with_reducible apply st_build0)|((with_reducible apply st_ev);exact rfl;(first|exact True.intro|((repeat' apply And.intro)<;>first|exact True.intro|with_reducible rfl|(simp only[Fits];omega)|omega|assumption|decide|(simp;done)|exact rfl)))|((with_reducible apply st_evg);exact rfl;exact rfl;(first|exact rfl|assumption);exact rfl;(first|exact True.intro|((repeat' apply And.intro)<;>first|exact True.intro|with_reducible rfl|(simp only[Fits];omega)|omega|assumption|decide|(simp;done)|exact rfl)))|((with_reducible apply st_skip);exact rfl;exact rfl;(first|exact rfl|assumption))|((with_reducible apply st_app0);exact rfl;exact rfl;exact rfl;omega)|((with_reducible apply st_skipu);exact rfl;exact rfl)|((with_reducible apply st_pickt);exact rfl;assumption;exact rfl)|((with_reducible apply st_pickf);exact rfl;assumption;exact rfl)|((with_reducible apply st_pickgt);exact rfl;exact rfl;(first|exact rfl|assumption);exact rfl;(first|exact rfl|assumption);exact rfl)|((with_reducible apply st_pickgf);exact rfl;exact rfl;(first|exact rfl|assumption);exact rfl;(first|exact rfl|assumption);exact rfl)|((with_reducible apply st_build);exact rfl;first|exact rfl|(first|exact True.intro|((repeat' apply And.intro)<;>first|exact True.intro|with_reducible rfl|(simp only[Fits];omega)|omega|assumption|decide|(simp;done)|exact rfl)))|((with_reducible apply st_call);exact rfl;exact rfl;exact rfl;first|(exact c13)|(exact c19)|(exact c14)|(exact c15)|(exact c_unit)|(exact c17)|(exact c16))|((with_reducible apply st_callg);exact rfl;exact rfl;(first|exact rfl|assumption);exact rfl;exact rfl;exact rfl;first|(exact c13)|(exact c19)|(exact c14)|(exact c15)|(exact c_unit)|(exact c17)|(exact c16)))
    refine ⟨.inr rfl, _, Imp.refl _, ?_⟩
    exact .one (.tmp (congrArg (fun b => some (AV.b b)) (decide_eq_true rfl)))
end Go.Proofs.Ytjmpanhacfjcaaa.AM

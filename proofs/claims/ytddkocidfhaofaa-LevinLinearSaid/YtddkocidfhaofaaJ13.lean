/- Joined texts, 13: LLev AmQ AmR AmT AmU. -/
import Derived.Test.YtddkocidfhaofaaJ12
set_option linter.unusedVariables false
set_option linter.unusedSimpArgs false
/- Toeplitz matrices by leading parts. -/
namespace Go.Proofs.Ytddkocidfhaofaa.LA
theorem left_kernel {n : Nat} (A : Mt) : det n A = 0 → ∃ z : Nat → Rat, (∃ c, c < n ∧ z c ≠ 0) ∧ ∀ j, j < n → S n (fun i => z i * A i j) = 0 := by
  refine by_rows (n := n) (P := fun A => det n A = 0 → ∃ z : Nat → Rat, (∃ c, c < n ∧ z c ≠ 0) ∧ ∀ j, j < n → S n (fun i => z i * A i j) = 0) ?_ ?_ ?_ ?_ ?_ A
  · intro A B h hA hd
    obtain ⟨z, hz, hk⟩ := hA (by rw [det_congr h]; exact hd)
    exact ⟨z, hz, fun j hj => by rw [← hk j hj]; exact S_congr fun i hi => by rw [h i j hi hj]⟩
  · intro h; rw [det_one] at h; exact absurd h (by decide)
  · intro A a ha h _
    refine ⟨fun i => if i = a then 1 else 0, ⟨a, ha, by dsimp only; rw [if_pos rfl]; decide⟩, fun j hj => ?_⟩
    refine S_null fun i hi => ?_
    by_cases e : i = a
    · subst e; rw [h j hj]; grind
    · dsimp only; rw [if_neg e]; grind
  · intro A a b f ha hb hab h hd
    obtain ⟨z, ⟨c, hc, hzc⟩, hk⟩ := h (by rw [det_addr A ha hb hab]; exact hd)
    refine ⟨fun i => if i = b then z b + f * z a else z i, ?_, fun j hj => ?_⟩
    · by_cases e : z a = 0
      · by_cases e2 : c = b
        · subst e2; exact ⟨c, hc, by dsimp only; rw [if_pos rfl, e]; intro h0; apply hzc; grind⟩
        · exact ⟨c, hc, by dsimp only; rw [if_neg e2]; exact hzc⟩
      · exact ⟨a, ha, by dsimp only; rw [if_neg hab]; exact e⟩
    · rw [← hk j hj]
      rw [S_congr (g := fun i => z i * A i j + (if i = b then f * z a * A b j else 0)) (fun i _ => by
        dsimp only
        by_cases e : i = b
        · subst e; rw [if_pos rfl, if_pos rfl]; grind
        · rw [if_neg e, if_neg e]; grind), S_add]
      rw [S_congr (f := fun i => z i * addr A a b f i j) (g := fun i => z i * A i j + (if i = a then f * z a * A b j else 0)) (fun i _ => by
        unfold addr upd
        by_cases e : i = a
        · subst e; rw [if_pos rfl, if_pos rfl]; grind
        · rw [if_neg e, if_neg e]; grind), S_add]
      rw [S_single (k := b) (f := fun i => if i = b then f * z a * A b j else 0) hb (fun k _ hne => by rw [if_neg hne]), if_pos rfl]
      rw [S_single (k := a) (f := fun i => if i = a then f * z a * A b j else 0) ha (fun k _ hne => by rw [if_neg hne]), if_pos rfl]
  · intro A a f ha hf h hd
    obtain ⟨z, ⟨c, hc, hzc⟩, hk⟩ := h (by rw [det_scl A ha, hd]; grind)
    refine ⟨fun i => if i = a then f * z a else z i, ?_, fun j hj => ?_⟩
    · by_cases e2 : c = a
      · subst e2
        refine ⟨c, hc, ?_⟩
        dsimp only; rw [if_pos rfl]
        intro h0
        rcases Rat.mul_eq_zero.mp h0 with h1 | h1
        · exact hf h1
        · exact hzc h1
      · exact ⟨c, hc, by dsimp only; rw [if_neg e2]; exact hzc⟩
    · rw [← hk j hj]
      refine S_congr fun i _ => ?_
      unfold scl upd
      by_cases e : i = a
      · subst e; dsimp only; rw [if_pos rfl, if_pos rfl]; grind
      · dsimp only; rw [if_neg e, if_neg e]
theorem left_unique {n : Nat} {A : Mt} (hd : det n A ≠ 0) {z : Nat → Rat} (h : ∀ j, j < n → S n (fun i => z i * A i j) = 0) : ∀ c, c < n → z c = 0 := by
  have := unique (n := n) (A := tr A) (by rw [det_tr]; exact hd) (x := z) (y := fun _ => 0) (fun i hi => by
    unfold app tr
    rw [S_null (n := n) (f := fun j => A j i * 0) (fun j _ => by grind), ← h i hi]
    exact S_congr fun j _ => by grind)
  exact this
/-- The same along diagonals. -/
def Toe (n : Nat) (m : Mt) : Prop := ∀ i j, i + 1 < n → j + 1 < n → m (i + 1) (j + 1) = m i j
/-- What the leading part of k rows sends to a one ahead of noughts, and behind them. -/
def Two (m : Mt) (k : Nat) (f l : Nat → Rat) : Prop := (∀ i, i < k → app k m f i = if i = 0 then 1 else 0) ∧ ∀ i, i < k → app k m l i = if i + 1 = k then 1 else 0
def longer (k : Nat) (f : Nat → Rat) : Nat → Rat := fun i => if i < k then f i else 0
def later (l : Nat → Rat) : Nat → Rat := fun i => if i = 0 then 0 else l (i - 1)
theorem app_longer (m : Mt) (k : Nat) (f : Nat → Rat) (i : Nat) : app (k + 1) m (longer k f) i = app k m f i := by
  unfold app longer
  rw [S_succ, if_neg (by omega), S_congr (g := fun j => m i j * f j) (fun j hj => by rw [if_pos hj])]; grind
theorem app_later (m : Mt) (k : Nat) (l : Nat → Rat) (i : Nat) : app (k + 1) m (later l) i = S k (fun j => m i (j + 1) * l j) := by
  unfold app later
  rw [S_first, if_pos rfl, S_congr (g := fun j => m i (j + 1) * l j) (fun j hj => by rw [if_neg (by omega), Nat.add_sub_cancel])]; grind
theorem two_longer {n k : Nat} {m : Mt} {f l : Nat → Rat} (hk : 0 < k) (h : Two m k f l) : ∀ i, i ≤ k → app (k + 1) m (longer k f) i = if i = 0 then 1 else if i = k then S k (fun j => m k j * f j) else 0 := by
  intro i hi
  rw [app_longer]
  by_cases e : i = k
  · subst e; rw [if_neg (by omega), if_pos rfl]; rfl
  · rw [h.1 i (by omega), if_neg e]
theorem two_later {n k : Nat} {m : Mt} {f l : Nat → Rat} (hk : 0 < k) (hn : k < n) (ht : Toe n m) (h : Two m k f l) : ∀ i, i ≤ k → app (k + 1) m (later l) i = if i = 0 then S k (fun j => m 0 (j + 1) * l j) else if i = k then 1 else 0 := by
  intro i hi
  rw [app_later]
  by_cases e : i = 0
  · subst e; rw [if_pos rfl]
  · obtain ⟨p, rfl⟩ : ∃ p, i = p + 1 := ⟨i - 1, by omega⟩
    rw [if_neg e, S_congr (g := fun j => m p j * l j) (fun j hj => by rw [ht p j (by omega) (by omega)])]
    have := h.2 p (by omega)
    unfold app at this
    rw [this]
theorem two_next {n k : Nat} {m : Mt} {f l : Nat → Rat} (hk : 0 < k) (hn : k < n) (ht : Toe n m) (h : Two m k f l)
    {x y : Rat} (hx : x = S k (fun j => m k j * f j)) (hy : y = S k (fun j => m 0 (j + 1) * l j)) :
    (∀ i, i ≤ k → app (k + 1) m (fun j => longer k f j - x * later l j) i = if i = 0 then 1 - x * y else 0) ∧
    (∀ i, i ≤ k → app (k + 1) m (fun j => later l j - y * longer k f j) i = if i = k then 1 - x * y else 0) := by
  have hu := two_longer (n := n) hk h
  have hv := two_later hk hn ht h
  rw [← hx] at hu
  rw [← hy] at hv
  constructor
  · intro i hi
    rw [app_sub, app_mul, hu i hi, hv i hi]
    by_cases e : i = 0
    · simp only [if_pos e]
    · simp only [if_neg e]
      by_cases e2 : i = k
      · simp only [if_pos e2]; grind
      · simp only [if_neg e2]; grind
  · intro i hi
    rw [app_sub, app_mul, hu i hi, hv i hi]
    by_cases e : i = 0
    · simp only [if_pos e, if_neg (show ¬ i = k from by omega)]; grind
    · simp only [if_neg e]
      by_cases e2 : i = k
      · simp only [if_pos e2]; grind
      · simp only [if_neg e2]; grind
theorem two_step {n k : Nat} {m : Mt} {f l : Nat → Rat} (hk : 0 < k) (hn : k < n) (ht : Toe n m) (h : Two m k f l)
    {x y by_ : Rat} (hx : x = S k (fun j => m k j * f j)) (hy : y = S k (fun j => m 0 (j + 1) * l j)) (hby : by_ * (1 - x * y) = 1) :
    Two m (k + 1) (fun j => (longer k f j - x * later l j) * by_) (fun j => (later l j - y * longer k f j) * by_) := by
  obtain ⟨h1, h2⟩ := two_next hk hn ht h hx hy
  constructor
  · intro i hi
    rw [show (fun j => (longer k f j - x * later l j) * by_) = (fun j => by_ * (longer k f j - x * later l j)) from by funext j; grind, app_mul, h1 i (by omega)]
    by_cases e : i = 0
    · simp only [if_pos e]; exact hby
    · simp only [if_neg e]; grind
  · intro i hi
    rw [show (fun j => (later l j - y * longer k f j) * by_) = (fun j => by_ * (later l j - y * longer k f j)) from by funext j; grind, app_mul, h2 i (by omega)]
    by_cases e : i = k
    · simp only [if_pos e, if_pos (show i + 1 = k + 1 from by omega)]; exact hby
    · simp only [if_neg e, if_neg (show ¬ i + 1 = k + 1 from by omega)]; grind
/-- Where a step can be done, the leading minor is not nought. -/
theorem two_minor {k : Nat} {m : Mt} {f l : Nat → Rat} (hd : det k m ≠ 0) (h : Two m (k + 1) f l) : det (k + 1) m ≠ 0 := by
  intro h0
  obtain ⟨z, ⟨c, hc, hzc⟩, hz⟩ := left_kernel m h0
  have pair : ∀ g : Nat → Rat, S (k + 1) (fun i => z i * app (k + 1) m g i) = 0 := by
    intro g
    unfold app
    rw [S_congr (g := fun i => S (k + 1) (fun j => g j * (z i * m i j))) (fun i _ => by rw [← S_mul]; exact S_congr fun j _ => by grind), S_swap]
    exact S_null fun j hj => by rw [S_mul, hz j hj]; grind
  have hk0 : z k = 0 := by
    have := pair l
    rw [S_single (k := k) (by omega) (fun i hi hne => by rw [h.2 i hi, if_neg (by omega)]; grind), h.2 k (by omega), if_pos rfl] at this
    grind
  have hrest := left_unique hd (z := z) (fun j hj => by
    have := hz j (by omega)
    rw [S_succ, hk0] at this
    grind)
  by_cases e : c = k
  · subst e; exact hzc hk0
  · exact hzc (hrest c (by omega))
theorem shift_det {n k : Nat} {m : Mt} (ht : Toe n m) (hk : k < n) : det k (del 0 m) = det k m := by
  refine det_congr fun i j hi hj => ?_
  have hs : skip 0 i = i + 1 := by unfold skip; rw [if_neg (by omega)]
  unfold del
  rw [hs]; exact ht i j (by omega) (by omega)
/-- The first number, times the leading minor, is the one ahead. -/
theorem first_minor {n k : Nat} {m : Mt} {f : Nat → Rat} (ht : Toe n m) (hk : k < n) (h : ∀ i, i < k + 1 → app (k + 1) m f i = if i = 0 then 1 else 0) : f 0 * det (k + 1) m = det k m := by
  have hc := cramer (k + 1) m f (c := 0) (by omega)
  have e : det (k + 1) (cupd m 0 (app (k + 1) m f)) = det k m := by
    rw [← shift_det ht hk]
    have e1 : det (k + 1) (cupd m 0 (app (k + 1) m f)) = det (k + 1) (cupd m 0 (fun i => if i = 0 then 1 else 0)) := det_congr fun i j hi _ => by
      by_cases ej : j = 0
      · subst ej; rw [cupd_at, cupd_at]; exact h i hi
      · rw [cupd_ne _ _ _ ej, cupd_ne _ _ _ ej]
    rw [e1]
    show S (k + 1) (fun i => sg i * cupd m 0 (fun i => if i = 0 then 1 else 0) i 0 * det k (del i (cupd m 0 (fun i => if i = 0 then 1 else 0)))) = _
    rw [S_single (k := 0) (by omega) (fun i _ hne => by rw [cupd_at, if_neg hne]; grind), cupd_at, if_pos rfl]
    have e2 : det k (del 0 (cupd m 0 (fun i => if i = 0 then 1 else 0))) = det k (del 0 m) := det_congr fun i j _ _ => by
      unfold del; rw [cupd_ne _ _ _ (by omega)]
    rw [e2, show sg 0 = 1 from rfl]; grind
  rw [e] at hc
  rw [hc]; grind
/-- Where a step cannot be done, the leading minor is nought. -/
theorem two_break {n k : Nat} {m : Mt} {f l : Nat → Rat} (hn : k + 1 < n) (ht : Toe n m) (h : Two m (k + 1) f l) (hd0 : det k m ≠ 0)
    {x y : Rat} (hx : x = S (k + 1) (fun j => m (k + 1) j * f j)) (hy : y = S (k + 1) (fun j => m 0 (j + 1) * l j)) (hz : 1 - x * y = 0) : det (k + 1 + 1) m = 0 := by
  obtain ⟨h1, _⟩ := two_next (by omega) hn ht h hx hy
  have hf : f 0 ≠ 0 := by
    intro h0
    have := first_minor ht (show k < n from by omega) h.1
    rw [h0] at this
    apply hd0; grind
  refine kernel (x := fun j => longer (k + 1) f j - x * later l j) (fun i hi => ?_) (c := 0) (by omega) ?_
  · rw [h1 i (by omega), hz]; split <;> rfl
  · unfold longer later
    rw [if_pos (by omega), if_pos rfl]
    intro h0; apply hf; grind
end Go.Proofs.Ytddkocidfhaofaa.LA
/- How long numbers are; helps for walks. -/
namespace Go.Proofs.Ytddkocidfhaofaa.AM
open Go Go.RowKit Go.Proofs.Ytddkocidfhaofaa.PN Go.Proofs.Ytddkocidfhaofaa.V
open Go.Proofs.Ytddkocidfhaofaa.LA (S S_succ S_zero S_congr)
set_option linter.unusedVariables false
set_option linter.unusedSimpArgs false
class Wt (q : Rat) (k : outParam Nat) : Prop where
  le : wt q ≤ k
instance Wt.mul {p q : Rat} {a b : Nat} [h : Wt p a] [k : Wt q b] : Wt (p * q) (a + b) := ⟨Nat.le_trans (wt_mul p q) (Nat.add_le_add h.le k.le)⟩
instance Wt.add {p q : Rat} {a b : Nat} [h : Wt p a] [k : Wt q b] : Wt (p + q) (a + b + 1) := ⟨Nat.le_trans (wt_add p q) (Nat.add_le_add_right (Nat.add_le_add h.le k.le) 1)⟩
instance Wt.sub {p q : Rat} {a b : Nat} [h : Wt p a] [k : Wt q b] : Wt (p - q) (a + b + 1) := ⟨Nat.le_trans (wt_sub p q) (Nat.add_le_add_right (Nat.add_le_add h.le k.le) 1)⟩
instance Wt.neg {p : Rat} {a : Nat} [h : Wt p a] : Wt (-p) a := ⟨by rw [wt_neg]; exact h.le⟩
instance Wt.div {p q : Rat} {a b : Nat} [h : Wt p a] [k : Wt q b] : Wt (p / q) (a + b) := ⟨by
  by_cases e : q = 0
  · have e0 : p / q = 0 := by rw [e, Rat.div_def, Rat.inv_zero, Rat.mul_zero]
    have h1 : wt 0 ≤ 1 := by decide
    have := wt_pos p; have := h.le
    rw [e0]; omega
  · exact Nat.le_trans (wt_div p q e) (Nat.add_le_add h.le k.le)⟩
instance Wt.zero : Wt 0 1 := ⟨by decide⟩
instance Wt.one : Wt 1 1 := ⟨by decide⟩
theorem Wt.of {q : Rat} {k : Nat} (h : wt q ≤ k) : Wt q k := ⟨h⟩
theorem Wt.mono {q : Rat} {a b : Nat} (h : Wt q a) (k : a ≤ b) : Wt q b := ⟨Nat.le_trans h.le k⟩
/-- A sum of at most eight numbers. -/
theorem Wt.sum {n K : Nat} {f : Nat → Rat} (hn : n ≤ 8) (h : ∀ i, i < n → Wt (f i) K) : Wt (S n f) (8 * (K + 1) + 1) := by
  have key : ∀ m, m ≤ n → wt (S m f) ≤ m * (K + 1) + 1 := by
    intro m hm
    induction m with
    | zero =>
        rw [S_zero]
        have : wt 0 ≤ 1 := by decide
        omega
    | succ m ih =>
      rw [S_succ]
      have h1 := wt_add (S m f) (f m)
      have h2 := (h m (by omega)).le
      have h3 := ih (by omega)
      rw [Nat.succ_mul]
      omega
  refine ⟨Nat.le_trans (key n (Nat.le_refl _)) ?_⟩
  have := Nat.mul_le_mul_right (K + 1) hn
  omega
section
variable {p q : Rat} {a b : Nat} [hp : Wt p a] [hq : Wt q b]
theorem c_mul (h : a ≤ 1000000000000 ∧ b ≤ 1000000000000) : Has Try.prog 48 [.q p, .q q] (.q (p * q)) := h_mul (Nat.le_trans hp.le h.1) (Nat.le_trans hq.le h.2)
theorem c_add (h : a ≤ 1000000000000 ∧ b ≤ 1000000000000) : Has Try.prog 59 [.q p, .q q] (.q (p + q)) := h_add (Nat.le_trans hp.le h.1) (Nat.le_trans hq.le h.2)
theorem c_sub (h : a ≤ 1000000000000 ∧ b ≤ 1000000000000) : Has Try.prog 47 [.q p, .q q] (.q (p - q)) := h_sub (Nat.le_trans hp.le h.1) (Nat.le_trans hq.le h.2)
theorem c_quo (h : a ≤ 1000000000000 ∧ b ≤ 1000000000000) (h0 : q ≠ 0) : Has Try.prog 43 [.q p, .q q] (.tup (.q (p / q)) (.i 0)) := h_quo (Nat.le_trans hp.le h.1) (Nat.le_trans hq.le h.2) h0
theorem cs_mul (h : a ≤ 15000 ∧ b ≤ 15000) : Has Try.prog 11 [.q p, .q q] (.q (p * q)) := hs_mul (Nat.le_trans hp.le h.1) (Nat.le_trans hq.le h.2)
theorem cs_add (h : a ≤ 15000 ∧ b ≤ 15000) : Has Try.prog 10 [.q p, .q q] (.q (p + q)) := hs_add (Nat.le_trans hp.le h.1) (Nat.le_trans hq.le h.2)
theorem cs_same (h : a ≤ 1000000000000 ∧ b ≤ 1000000000000) : Has Try.prog 13 [.q p, .q q] (.b (decide (p = q))) := hs_same (Nat.le_trans hp.le h.1) (Nat.le_trans hq.le h.2)
end
section
variable {p : Rat} {a : Nat} [hp : Wt p a]
theorem c_neg (h : a ≤ 1000000000000) : Has Try.prog 50 [.q p] (.q (-p)) := h_neg (Nat.le_trans hp.le h)
theorem c_right (h : a ≤ 1000000000000) : Has Try.prog 87 [.q p] (.b true) := h_right (Nat.le_trans hp.le h)
end
/-! ### For loops -/
theorem awp_if {P : Program} {N : Nat} {Q : Exit → St → Prop} {s : St} {c : Operand} {x y : Code} {p : Prop} [Decidable p] (hc : avo s c = some (.v (.bool (decide p)))) (ht : p → AWP P N x Q s) (hf : ¬ p → AWP P N y Q s) : AWP P N (.cond c x y) Q s :=
  awp_cond hc (fun h => ht (of_decide_eq_true h)) (fun h => hf (of_decide_eq_false h))
theorem awp_ifn {P : Program} {N : Nat} {Q : Exit → St → Prop} {s : St} {c : Operand} {x y : Code} {p : Prop} [Decidable p] (hc : avo s c = some (.v (.bool (!(decide p))))) (ht : ¬ p → AWP P N x Q s) (hf : p → AWP P N y Q s) : AWP P N (.cond c x y) Q s :=
  awp_cond hc (fun h => ht (by simpa using h)) (fun h => hf (by simpa using h))
theorem awp_yes {P : Program} {N : Nat} {Q : Exit → St → Prop} {s : St} {c : Operand} {x y : Code} {b : Bool} (hc : avo s c = some (.v (.bool b))) (hb : b = true) (h : AWP P N x Q s) : AWP P N (.cond c x y) Q s :=
  awp_cond hc (fun _ => h) (fun e => by rw [hb] at e; cases e)
theorem awp_no {P : Program} {N : Nat} {Q : Exit → St → Prop} {s : St} {c : Operand} {x y : Code} {b : Bool} (hc : avo s c = some (.v (.bool b))) (hb : b = false) (h : AWP P N y Q s) : AWP P N (.cond c x y) Q s :=
  awp_cond hc (fun e => by rw [hb] at e; cases e) (fun _ => h)
theorem alle {s : St} {σ : Ren} {U : Nat → Bool} {t : Nat} {x y : AV} {l : List (Nat × AV)} (h : s.env t = some x) (hl : Le σ x y) (ho : y.ok U) (k : AllE s σ U l) : AllE s σ U ((t, y) :: l) := ⟨⟨x, h, hl, ho⟩, k⟩
theorem allh {s : St} {σ : Ren} {U : Nat → Bool} {g n' : Nat} {F F' : Nat → Blk} {l : List (Nat × Fam)} (h : s.heap (σ g 0).1 = some (n', F')) (hn : (σ g 0).2 < n') (hb : BLe σ (F' (σ g 0).2) (F 0)) (ho : (F 0).ok U) (k : AllH s σ U l) : AllH s σ U ((g, (1, F)) :: l) :=
  ⟨fun r hr => by
    obtain rfl : r = 0 := by omega
    exact ⟨n', F', h, hn, hb, ho⟩, k⟩
theorem ble1 {σ : Ren} {f f' : Nat → RA} (h : f 0 = f' 0) : BLe σ (.rats 1 f) (.rats 1 f') := by
  refine ⟨rfl, fun i hi => ?_⟩
  obtain rfl : i = 0 := by omega
  exact h
theorem blen {σ : Ren} {n n' : Nat} {f f' : Nat → RA} (hn : n = n') (h : ∀ i, i < n → f i = f' i) : BLe σ (.rats n f) (.rats n' f') := ⟨hn, h⟩
theorem bleo {σ : Ren} {T : TypeId} {n n' : Nat} {f f' : Nat → AV} (hn : n = n') (h : ∀ i, i < n → Le σ (f i) (f' i)) : BLe σ (.ones T n f) (.ones T n' f') := ⟨rfl, hn, h⟩
theorem eA {G : Prop} (h : G := by repeat (first | exact True.intro | refine alle rfl (Le.id rfl) (by first | exact True.intro | rfl) ?_)) : G := h
theorem hA {G : Prop} (h : G := by repeat (first | exact True.intro | refine allh rfl (by decide) (by first | exact ble1 rfl | exact blen rfl (fun _ _ => rfl) | exact bleo rfl (fun _ _ => Le.id rfl)) (by first | exact True.intro | (intro i hi; exact True.intro)) ?_)) : G := h
end Go.Proofs.Ytddkocidfhaofaa.AM
/- An own row that lies in another own slice is written no more. -/
namespace Go.Proofs.Ytddkocidfhaofaa.AM
open Go Go.RowKit Go.Proofs.Ytddkocidfhaofaa.PN Go.Proofs.Ytddkocidfhaofaa.V
set_option linter.unusedVariables false
set_option linter.unusedSimpArgs false
theorem imp_pub {s : St} (g' i : Nat) {g n m : Nat} {T : TypeId} {F F' : Nat → Blk} {f : Nat → AV} {q : Nat → RA} (hg' : s.heap g' = some (1, F')) (hF' : F' 0 = .ones T n f) (hi : i < n) (hfi : f i = .own g 0) (hg : s.heap g = some (1, F)) (hF : F 0 = .rats m q) (hne : g ≠ g') :
    Imp s ⟨s.env, put (put s.heap g none) g' (some (1, fun _ => .ones T n (updN f i (.row true m q)))), s.used⟩ := by
  intro W N β w a hs
  have hheap : ∀ h n1 F1 r, put (put s.heap g none) g' (some (1, fun _ => .ones T n (updN f i (.row true m q)))) h = some (n1, F1) → r < n1 → ∃ n2 F2, s.heap h = some (n2, F2) ∧ r < n2 ∧ h ≠ g ∧ (h = g' → F1 r = .ones T n (updN f i (.row true m q)) ∧ r = 0) ∧ (h ≠ g' → F1 = F2) := by
    intro h n1 F1 r e1 e2
    by_cases c1 : h = g'
    · subst c1
      rw [put_same] at e1; cases e1
      obtain rfl : r = 0 := by omega
      exact ⟨1, F', hg', by decide, fun e => hne e.symm, fun _ => ⟨rfl, rfl⟩, fun e => absurd rfl e⟩
    · rw [put_ne _ _ c1] at e1
      by_cases c2 : h = g
      · subst c2; rw [put_same] at e1; cases e1
      · rw [put_ne _ _ c2] at e1
        exact ⟨n1, F1, e1, e2, c2, fun e => absurd e c1, fun _ => rfl⟩
  generalize hs' : (⟨s.env, put (put s.heap g none) g' (some (1, fun _ => .ones T n (updN f i (.row true m q)))), s.used⟩ : St) = s'
  have hown : ∀ k, Own s' β k → Own s β k ∧ ub (β g 0) ≠ some k := by
    rintro k ⟨h, n1, F1, r, h1, h2, h3⟩
    subst hs'
    obtain ⟨n2, F2, a1, a2, a3, _⟩ := hheap h n1 F1 r h1 h2
    exact ⟨⟨h, n2, F2, r, a1, a2, h3⟩, fun e => a3 (hs.inj _ _ _ _ _ _ _ _ k a1 a2 hg (by decide) h3 e).1⟩
  have kf : Fwd (notOwn W s β) (notOwn W s' β) W.w.heap.size W.w.heap.size s.used β β (fun _ => False) w w :=
    ⟨Ext.refl _ _, fun _ _ h => h, fun b hb _ => ⟨hb.1, fun ho => hb.2 (hown b ho).1⟩, Nat.le_refl _, fun _ _ _ => rfl⟩
  have hpub : ∀ b, ub (β g 0) = some b → notOwn W s' β b := fun b hb => ⟨fun hlt => W.law b (own_lt hs ⟨g, 1, F, 0, hg, by decide, hb⟩).1 hlt (hs.pin b ⟨g, 1, F, 0, hg, by decide, hb⟩), fun ho => (hown b ho).2 hb⟩
  refine ⟨β, hs.kept, hs.nodef, hs.size, fun t z hz => ?_, fun h n1 F1 r h1 h2 => ?_, fun h n1 F1 h1 => ?_, fun g1 n1 F1 r1 g2 n2 F2 r2 k h1 h2 h3 h4 h5 h6 => ?_, hs.fix, fun i ho => hs.pin i (hown i ho).1, by subst hs'; exact hs.fixd, by subst hs'; exact hs.keep⟩
  · subst hs'
    exact ⟨(hs.env t z hz).1, (hs.env t z hz).2.fwd kf (hs.env t z hz).1⟩
  · have h1' : put (put s.heap g none) g' (some (1, fun _ => .ones T n (updN f i (.row true m q)))) h = some (n1, F1) := by subst hs'; exact h1
    have hu : s'.used = s.used := by subst hs'; rfl
    rw [hu]
    obtain ⟨n2, F2, a1, a2, a3, a4, a5⟩ := hheap h n1 F1 r h1' h2
    obtain ⟨q1, q2⟩ := hs.heap h n2 F2 r a1 a2
    by_cases c1 : h = g'
    · obtain ⟨e1, rfl⟩ := a4 c1
      subst c1
      rw [hg'] at a1; cases a1
      rw [hF'] at q1 q2
      have q3 := RB.fwd kf q1 (fun _ _ h => h) q2
      rw [e1]
      refine ⟨fun j hj => ?_, q3.1, ?_⟩
      · by_cases c2 : j = i
        · subst c2; rw [updN_same]; exact True.intro
        · rw [updN_ne _ _ c2]; exact q1 j hj
      · rcases q3.2 with e | ⟨k, cs, hB, hr, hat, hx⟩
        · exact .inl e
        · refine .inr ⟨k, cs, hB, hr, hat, fun j hj => ?_⟩
          obtain ⟨y, b1, b2, b3⟩ := hx j hj
          by_cases c2 : j = i
          · subst c2
            rw [hfi] at b3
            refine ⟨y, b1, b2, ?_⟩
            rw [updN_same]
            have hb := (hs.heap g 1 F 0 hg (by decide)).2
            rw [hF] at hb
            exact own_row b3 hb hpub
          · exact ⟨y, b1, b2, by rw [updN_ne _ _ c2]; exact b3⟩
    · rw [a5 c1]
      exact ⟨q1, RB.fwd kf q1 (fun _ _ h => h) q2⟩
  · subst hs'
    by_cases c1 : h = g'
    · subst c1; exact hs.live _ _ _ hg'
    · have h1 : put (put s.heap g none) g' _ h = _ := h1
      rw [put_ne _ _ c1] at h1
      by_cases c2 : h = g
      · subst c2; rw [put_same] at h1; cases h1
      · rw [put_ne _ _ c2] at h1; exact hs.live _ _ _ h1
  · subst hs'
    obtain ⟨m1, G1, a1, a2, _⟩ := hheap g1 n1 F1 r1 h1 h2
    obtain ⟨m2, G2, b1, b2, _⟩ := hheap g2 n2 F2 r2 h3 h4
    exact hs.inj _ _ _ _ _ _ _ _ k a1 a2 b1 b2 h5 h6
/-- Numbers that are put, one by one, in the place of z. -/
def grow {α : Type} (v : Nat → α) (z : α) (k : Nat) : Nat → α := fun i => bif Nat.ble (i + 1) k then v i else z
theorem grow_step {α : Type} (v : Nat → α) (z : α) (k i : Nat) : updN (grow v z k) k (v k) i = grow v z (k + 1) i := by
  unfold updN
  by_cases h : i = k
  · subst h
    rw [if_pos rfl]; unfold grow
    rw [Nat.ble_eq_true_of_le (Nat.le_refl (i + 1))]; rfl
  · rw [if_neg h]; unfold grow
    by_cases h3 : i + 1 ≤ k
    · have h4 : i + 1 ≤ k + 1 := by omega
      rw [Nat.ble_eq_true_of_le h3, Nat.ble_eq_true_of_le h4]
    · have h4 : ¬ i + 1 ≤ k + 1 := by omega
      have e3 : Nat.ble (i + 1) k = false := by cases e : Nat.ble (i + 1) k with
        | true => exact absurd (Nat.le_of_ble_eq_true e) h3
        | false => rfl
      have e4 : Nat.ble (i + 1) (k + 1) = false := by cases e : Nat.ble (i + 1) (k + 1) with
        | true => exact absurd (Nat.le_of_ble_eq_true e) h4
        | false => rfl
      rw [e3, e4]
theorem grow_full {α : Type} (v : Nat → α) (z : α) {k i : Nat} (h : i < k) : grow v z k i = v i := by
  unfold grow; rw [Nat.ble_eq_true_of_le (show i + 1 ≤ k from h)]; rfl
theorem imp_rowv {s : St} (t : Nat) {g n : Nat} {F : Nat → Blk} {f : Nat → RA} (f' : Nat → RA) (hx : s.env t = some (.own g 0)) (hg : s.heap g = some (1, F)) (hF : F 0 = .rats n f) (h : ∀ i, i < n → f i = f' i) : Imp s ⟨put s.env t (some (.row true n f')), put s.heap g none, s.used⟩ := by
  have e : put s.env t (some (AV.row true n f')) = put (put s.env t (some (AV.row true n f))) t (some (AV.row true n f')) := by
    funext t'; unfold put; cases Nat.beq t' t <;> rfl
  rw [e]
  exact (imp_row t hx hg hF).trans (imp_slot t (put_same _ _ _) True.intro (Le.row rfl h fun h => h))
end Go.Proofs.Ytddkocidfhaofaa.AM
/- Calls that are handed own memory, and hand own memory back. -/
namespace Go.Proofs.Ytddkocidfhaofaa.AM
open Go Go.RowKit Go.Proofs.Ytddkocidfhaofaa.PN Go.Proofs.Ytddkocidfhaofaa.V
set_option linter.unusedVariables false
set_option linter.unusedSimpArgs false
def entH (xs : List AV) (h : List (Nat × Fam)) : St := ⟨lk xs, lkp h, fun g => memN g (keys h)⟩
def okK (h : List (Nat × Fam)) : Bool := (keys h).isEmpty || (memN 60 (keys h) && memN 61 (keys h) && memN 62 (keys h))
theorem okK_mem {h : List (Nat × Fam)} (hk : okK h = true) (hne : (keys h).isEmpty = false) {g : Nat} (hg : fx3 g = true) : memN g (keys h) = true := by
  unfold okK at hk
  rw [hne] at hk
  simp only [Bool.false_or, Bool.and_eq_true] at hk
  unfold fx3 at hg
  rw [Bool.or_eq_true, Bool.or_eq_true] at hg
  rcases hg with (hg | hg) | hg
  · rw [Nat.eq_of_beq_eq_true hg]; exact hk.1.1
  · rw [Nat.eq_of_beq_eq_true hg]; exact hk.1.2
  · rw [Nat.eq_of_beq_eq_true hg]; exact hk.2
/-- A call that begins with the families h, and ends with h'. -/
structure HasH (P : Program) (f : FuncId) (h : List (Nat × Fam)) (xs : List AV) (r : AV) (h' : List (Nat × Fam)) : Prop where
  b : callB P f = true
  run : ∀ (W : Wd) (β : Nat → Nat → Value) (w : World) (vs : List Value), xs.length = vs.length → ((keys h).isEmpty = false → W.F = some β) → Sim W vs.length β w ⟨vs.toArray, []⟩ (entH xs h) →
    Calls P f vs.toArray w fun e w' => ∃ v β', e = .returned v ∧ Sim W 1 β' w' ⟨#[v], []⟩ (stl [(0, r)] h') ∧ ∀ g, memN g (keys h) = true → β' g = β g
def oks (U : Nat → Bool) : List AV → Prop
  | [] => True
  | x :: l => x.ok U ∧ oks U l
def FinH (rs : Array ResultVar) (r : AV) (h' : List (Nat × Fam)) (e : Exit) (s : St) : Prop := (e = .normal ∨ e = .ret) ∧ ∃ env, Imp s (stl env h') ∧ Back (stl env h') rs r
theorem hasH_of {f : FuncId} {fn : Func} {c : Code} {N : Nat} {rs : Array ResultVar} {h h' : List (Nat × Fam)} {xs : List AV} {r : AV} (hf : Try.prog.funcs[f]? = some fn) (hB : callB Try.prog f = true) (hb : fn.body = some c) (hn : fn.ntmps = N) (hr : fn.results = rs) (hrc : r.ok (fun g => memN g (keys h'))) (hlen : Nat.ble xs.length N = true) (hk : (keys h).all fx3 = true)
    (k : AWP Try.prog N c (FinH rs r h') (entH xs h)) : HasH Try.prog f h xs r h' := by
  subst hn; subst hr
  refine ⟨hB, fun W β w vs hl hF hs0 => ?_⟩
  have hle : vs.length ≤ fn.ntmps := by rw [← hl]; exact Nat.le_of_ble_eq_true hlen
  refine calls_of_wp hf hb ?_
  have hs : Sim W fn.ntmps β w { tmps := vs.toArray ++ Array.replicate (fn.ntmps - vs.toArray.size) undef, defers := [] } (entH xs h) := by
    refine ⟨hs0.kept, rfl, by simp; omega, fun t x hx => ?_, hs0.heap, hs0.live, hs0.inj, hs0.fix, hs0.pin, hs0.fixd, hs0.keep⟩
    have h1 := hs0.env t x hx
    have hx : lk xs t = some x := hx
    rw [lk_get] at hx
    have hlt : t < xs.length := (List.getElem?_eq_some_iff.1 hx).1
    have hlt' : t < vs.toArray.size := by rw [List.size_toArray, ← hl]; exact hlt
    have hg : (vs.toArray ++ Array.replicate (fn.ntmps - vs.toArray.size) undef).getD t undef = vs.toArray.getD t undef := by
      rw [Array.getD_eq_getD_getElem?, Array.getElem?_append_left hlt', Array.getD_eq_getD_getElem?]
    rw [hg]
    exact h1
  refine wp_mono (k.out W β w _ hs) ?_
  rintro e a' w' ⟨β', s', hs', he, env, hi, hback⟩
  obtain ⟨β'', hs''⟩ := hi _ _ _ _ _ hs'
  obtain ⟨v, hrun, hv⟩ := back_run hback hs''
  have hfin : ∃ v' β', Ending.returned v = .returned v' ∧ Sim W 1 β' w' ⟨#[v'], []⟩ (stl [(0, r)] h') ∧ ∀ g, memN g (keys h) = true → β' g = β g := by
    refine ⟨v, β'', rfl, ⟨hs''.kept, rfl, rfl, fun t x hx => ?_, hs''.heap, hs''.live, hs''.inj, hs''.fix, hs''.pin, hs''.fixd, hs''.keep⟩, fun g hg => ?_⟩
    rotate_left
    · have hm := memN_spec hg
      have hne : (keys h).isEmpty = false := by
        cases e : keys h with
        | nil => rw [e] at hm; cases hm
        | cons _ _ => rfl
      exact hs''.fixd β (hF hne) g (List.all_eq_true.1 hk g hm)
    have hx : lkp [(0, r)] t = some x := hx
    have hm := lkp_mem hx
    simp only [List.mem_singleton, Prod.mk.injEq] at hm
    obtain ⟨rfl, rfl⟩ := hm
    exact ⟨hrc, hv⟩
  rcases he with rfl | rfl
  · exact ⟨hs''.nodef, v, hrun, hfin⟩
  · exact ⟨hs''.nodef, v, hrun, hfin⟩
theorem own_stl {s : St} {β : Nat → Nat → Value} {e : List (Nat × AV)} {h : List (Nat × Fam)} (hh : ∀ g fam, lkp h g = some fam → s.heap g = some fam) {k : Nat} (ho : Own (stl e h) β k) : Own s β k := by
  obtain ⟨g, n, F, r, h1, h2, h3⟩ := ho
  exact ⟨g, n, F, r, hh g _ h1, h2, h3⟩
/-- The callee's words of what it finds. -/
def subW {W : Wd} {N : Nat} {β : Nat → Nat → Value} {w : World} {a : Act} {s : St} (hs : Sim W N β w a s) (h : List (Nat × Fam)) (hh : ∀ g fam, lkp h g = some fam → s.heap g = some fam) : Wd :=
  ⟨W.w, fun k => (k < W.w1.heap.size → W.S k) ∧ (Own s β k → Own (stl [] h) β k), w, fun k => k < w.heap.size ∧ ¬ Own (stl [] h) β k,
    fun k h1 h2 h3 => by
      have ho : Own (stl [] h) β k := Classical.byContradiction fun ho => h3 ⟨h2, ho⟩
      exact ⟨fun hlt => W.law k h1 hlt (hs.pin k (own_stl hh ho)), fun _ => ho⟩,
    fun k hk => hk.1, if (keys h).isEmpty = true then none else some β⟩
theorem lkp_some {α : Type} : ∀ {l : List (Nat × α)} {t : Nat}, memN t (keys l) = true → ∃ x, lkp l t = some x
  | [], t, h => by cases h
  | (k, x) :: l, t, h => by
    unfold lkp
    unfold keys memN at h
    cases e : Nat.beq t k with
    | true => exact ⟨x, rfl⟩
    | false => rw [e] at h; exact lkp_some h
theorem Sim.into {W : Wd} {N : Nat} {β : Nat → Nat → Value} {w : World} {a : Act} {s : St} (hs : Sim W N β w a s) {h : List (Nat × Fam)} (hh : ∀ g fam, lkp h g = some fam → s.heap g = some fam) (hk : okK h = true) {xs : List AV} {vs : List Value} (hl : xs.length = vs.length)
    (hx : ∀ (t : Nat) (x : AV) (v : Value), xs[t]? = some x → vs[t]? = some v → x.ok (fun g => memN g (keys h)) ∧ RV (notOwn W s β) W.w.heap.size β w x v) (hf : ∀ g n F r, lkp h g = some (n, F) → r < n → (F r).ok (fun g => memN g (keys h))) :
    Sim (subW hs h hh) vs.length β w ⟨vs.toArray, []⟩ (entH xs h) := by
  have kf : Fwd (notOwn W s β) (notOwn (subW hs h hh) (entH xs h) β) W.w.heap.size W.w.heap.size s.used β β (fun _ => False) w w :=
    ⟨Ext.refl _ _, fun _ _ h => h, fun b hb _ => ⟨fun _ => ⟨hb.1, fun ho => absurd ho hb.2⟩, fun ho => hb.2 (own_stl (e := []) hh ho)⟩, Nat.le_refl _, fun _ _ _ => rfl⟩
  refine ⟨hs.kept, rfl, rfl, fun t x hx' => ?_, fun g n F r h1 h2 => ?_, fun g n F h1 => lkp_key h1, fun g n F r g' n' F' r' k h1 h2 h3 h4 h5 h6 => hs.inj _ _ _ _ _ _ _ _ k (hh _ _ h1) h2 (hh _ _ h3) h4 h5 h6, Ext.refl _ _, fun k ho hP => hP.2 ho, fun u hu g hg => ?_, fun u hu g hg => ?_⟩
  · have hx' : lk xs t = some x := hx'
    rw [lk_get] at hx'
    have hlt : t < vs.length := by rw [← hl]; exact (List.getElem?_eq_some_iff.1 hx').1
    obtain ⟨h1, h2⟩ := hx t x _ hx' (List.getElem?_eq_getElem hlt)
    refine ⟨h1, ?_⟩
    rw [show (vs.toArray.getD t undef) = vs[t] from by rw [Array.getD_eq_getD_getElem?]; simp [hlt]]
    refine RV.fwd (U := fun g => memN g (keys h)) (O := fun _ => False) ?_ h1 h2
    exact ⟨kf.ext, kf.out, kf.set, kf.base, fun _ _ _ => rfl⟩
  · have h1 : lkp h g = some (n, F) := h1
    obtain ⟨q1, q2⟩ := hs.heap _ _ _ _ (hh _ _ h1) h2
    exact ⟨hf g n F r h1 h2, RB.fwd kf q1 (fun _ _ h => h) q2⟩
  · have hu : (if (keys h).isEmpty = true then none else some β) = some u := hu
    split at hu
    · cases hu
    · cases hu; rfl
  · have hu : (if (keys h).isEmpty = true then none else some β) = some u := hu
    split at hu
    · cases hu
    · rename_i e
      exact okK_mem hk (by simpa using e) hg
def mixβ (h' : List (Nat × Fam)) (β β' : Nat → Nat → Value) : Nat → Nat → Value := fun g => if memN g (keys h') = true then β' g else β g
theorem Sim.back {W : Wd} {N : Nat} {β β' : Nat → Nat → Value} {w w' : World} {a : Act} {s s' : St} (hs : Sim W N β w a s) {h h' : List (Nat × Fam)} {r : AV} {v : Value} (hh : ∀ g fam, lkp h g = some fam → s.heap g = some fam)
    (hsub : ∀ g, memN g (keys h) = true → memN g (keys h') = true) (hnew : ∀ g, memN g (keys h') = true → memN g (keys h) = true ∨ s.used g = false)
    (hr : Sim (subW hs h hh) 1 β' w' ⟨#[v], []⟩ (stl [(0, r)] h')) (hβ : ∀ g, memN g (keys h) = true → β' g = β g)
    (henv : s'.env = s.env) (hheap : ∀ g, s'.heap g = if memN g (keys h') = true then lkp h' g else s.heap g) (hused : ∀ g, s'.used g = (memN g (keys h') || s.used g)) :
    Sim W N (mixβ h' β β') w' a s' ∧ r.ok s'.used ∧ RV (notOwn W s' (mixβ h' β β')) W.w.heap.size (mixβ h' β β') w' r v := by
  have hu1 : ∀ g, s.used g = true → s'.used g = true := fun g hg => by rw [hused, hg]; simp
  have hu2 : ∀ g, memN g (keys h') = true → s'.used g = true := fun g hg => by rw [hused, hg]; rfl
  have hb1 : ∀ g, memN g (keys h') = true → mixβ h' β β' g = β' g := fun g hg => if_pos hg
  have hb2 : ∀ g, ¬ memN g (keys h') = true → mixβ h' β β' g = β g := fun g hg => if_neg hg
  have hb3 : ∀ g, s.used g = true → mixβ h' β β' g = β g := fun g hg => by
    by_cases e : memN g (keys h') = true
    · rcases hnew g e with h1 | h1
      · rw [hb1 g e]; exact hβ g h1
      · rw [hg] at h1; cases h1
    · exact hb2 g e
  have hsz : w.heap.size ≤ w'.heap.size := hr.fix.size
  -- blocks of families
  have hold : ∀ i, i < w.heap.size → (∃ g n F r, lkp h' g = some (n, F) ∧ r < n ∧ ub (β' g r) = some i) → Own (stl [] h) β i := fun i hi ⟨g, n, F, q, h1, h2, h3⟩ =>
    Classical.byContradiction fun hn => hr.pin i ⟨g, n, F, q, h1, h2, h3⟩ ⟨hi, hn⟩
  have hfr : ∀ g n F q i, ¬ memN g (keys h') = true → s.heap g = some (n, F) → q < n → ub (β g q) = some i → ¬ Own (stl [] h) β i := by
    rintro g n F q i hg h1 h2 h3 ⟨g1, n1, F1, q1, k1, k2, k3⟩
    have := (hs.inj _ _ _ _ _ _ _ _ i h1 h2 (hh _ _ k1) k2 h3 k3).1
    exact hg (by rw [this]; exact hsub _ (lkp_key k1))
  have hsplit : ∀ i, Own s' (mixβ h' β β') i → (∃ g n F q, lkp h' g = some (n, F) ∧ q < n ∧ ub (β' g q) = some i) ∨ (∃ g n F q, ¬ memN g (keys h') = true ∧ s.heap g = some (n, F) ∧ q < n ∧ ub (β g q) = some i) := by
    rintro i ⟨g, n, F, q, h1, h2, h3⟩
    rw [hheap] at h1
    by_cases e : memN g (keys h') = true
    · rw [if_pos e] at h1; rw [hb1 g e] at h3; exact .inl ⟨g, n, F, q, h1, h2, h3⟩
    · rw [if_neg e] at h1; rw [hb2 g e] at h3; exact .inr ⟨g, n, F, q, e, h1, h2, h3⟩
  have hext : Ext (fun k => Own (stl [] h) β k) w w' := ⟨hr.fix.size, fun i hi ho => hr.fix.block i hi (fun hP => hP ⟨hi, ho⟩), hr.fix.limb⟩
  have kf : Fwd (notOwn W s β) (notOwn W s' (mixβ h' β β')) W.w.heap.size W.w.heap.size s.used β (mixβ h' β β') (fun k => Own (stl [] h) β k) w w' := by
    refine ⟨hext, fun b hb ho => hb.2 (own_stl hh ho), fun b hb hlt => ⟨hb.1, fun ho => ?_⟩, Nat.le_refl _, fun g q hg => by rw [hb3 g hg]⟩
    rcases hsplit b ho with h1 | ⟨g, n, F, q, h1, h2, h3, h4⟩
    · exact hb.2 (own_stl hh (hold b hlt h1))
    · exact hb.2 ⟨g, n, F, q, h2, h3, h4⟩
  have kf2 : Fwd (notOwn (subW hs h hh) (stl [(0, r)] h') β') (notOwn W s' (mixβ h' β β')) W.w.heap.size W.w.heap.size (fun g => memN g (keys h')) β' (mixβ h' β β') (fun _ => False) w' w' := by
    refine ⟨Ext.refl _ _, fun _ _ h => h, fun b hb _ => ⟨fun hlt => ?_, fun ho => ?_⟩, Nat.le_refl _, fun g q hg => by rw [hb1 g hg]⟩
    · exact (hb.1 (Nat.lt_of_lt_of_le hlt hs.fix.size)).1 hlt
    · rcases hsplit b ho with ⟨g, n, F, q, h1, h2, h3⟩ | ⟨g, n, F, q, h1, h2, h3, h4⟩
      · exact hb.2 ⟨g, n, F, q, h1, h2, h3⟩
      · have hown : Own s β b := ⟨g, n, F, q, h2, h3, h4⟩
        exact hfr g n F q b h1 h2 h3 h4 ((hb.1 (own_lt hs hown).2).2 hown)
  have hres : r.ok s'.used ∧ RV (notOwn W s' (mixβ h' β β')) W.w.heap.size (mixβ h' β β') w' r v := by
    obtain ⟨h1, h2⟩ := hr.env 0 r rfl
    exact ⟨AV.ok_mono hu2 h1, RV.fwd kf2 h1 h2⟩
  refine ⟨⟨hr.kept, hs.nodef, hs.size, fun t x hx => ?_, fun g n F q h1 h2 => ?_, fun g n F h1 => ?_, fun g1 n1 F1 r1 g2 n2 F2 r2 i h1 h2 h3 h4 h5 h6 => ?_, hs.fix.trans (hext.mono fun i hi => hs.pin i (own_stl hh hi)), fun i ho => ?_, fun u hu g hg => ?_, fun u hu g hg => hu1 g (hs.keep u hu g hg)⟩, hres⟩
  · rw [henv] at hx
    obtain ⟨h1, h2⟩ := hs.env t x hx
    exact ⟨AV.ok_mono hu1 h1, h2.fwd kf h1⟩
  · rw [hheap] at h1
    by_cases e : memN g (keys h') = true
    · rw [if_pos e] at h1
      obtain ⟨q1, q2⟩ := hr.heap g n F q h1 h2
      rw [hb1 g e]
      exact ⟨Blk.ok_mono hu2 q1, RB.fwd kf2 q1 (fun _ _ h => h) q2⟩
    · rw [if_neg e] at h1
      obtain ⟨q1, q2⟩ := hs.heap g n F q h1 h2
      rw [hb2 g e]
      exact ⟨Blk.ok_mono hu1 q1, RB.fwd kf q1 (fun i hi ho => hfr g n F q i e h1 h2 hi ho) q2⟩
  · rw [hheap] at h1
    by_cases e : memN g (keys h') = true
    · exact hu2 g e
    · rw [if_neg e] at h1; exact hu1 g (hs.live _ _ _ h1)
  · rw [hheap] at h1 h3
    by_cases e1 : memN g1 (keys h') = true <;> by_cases e2 : memN g2 (keys h') = true
    · rw [if_pos e1] at h1; rw [if_pos e2] at h3; rw [hb1 _ e1] at h5; rw [hb1 _ e2] at h6
      exact hr.inj _ _ _ _ _ _ _ _ i h1 h2 h3 h4 h5 h6
    · rw [if_pos e1] at h1; rw [if_neg e2] at h3; rw [hb1 _ e1] at h5; rw [hb2 _ e2] at h6
      exact absurd (hold i (own_lt hs ⟨g2, n2, F2, r2, h3, h4, h6⟩).2 ⟨g1, n1, F1, r1, h1, h2, h5⟩) (hfr g2 n2 F2 r2 i e2 h3 h4 h6)
    · rw [if_neg e1] at h1; rw [if_pos e2] at h3; rw [hb2 _ e1] at h5; rw [hb1 _ e2] at h6
      exact absurd (hold i (own_lt hs ⟨g1, n1, F1, r1, h1, h2, h5⟩).2 ⟨g2, n2, F2, r2, h3, h4, h6⟩) (hfr g1 n1 F1 r1 i e1 h1 h2 h5)
    · rw [if_neg e1] at h1; rw [if_neg e2] at h3; rw [hb2 _ e1] at h5; rw [hb2 _ e2] at h6
      exact hs.inj _ _ _ _ _ _ _ _ i h1 h2 h3 h4 h5 h6
  · rcases hsplit i ho with h1 | ⟨g, n, F, q, h1, h2, h3, h4⟩
    · intro hP
      have hlt := Nat.lt_of_lt_of_le (W.lt i hP) hs.fix.size
      exact hs.pin i (own_stl hh (hold i hlt h1)) hP
    · exact hs.pin i ⟨g, n, F, q, h2, h3, h4⟩
  · rw [hb3 g (hs.keep u hu g hg)]; exact hs.fixd u hu g hg
def upds : List (Nat × Fam) → List (Nat × Option Fam)
  | [] => []
  | (g, F) :: l => (g, some F) :: upds l
theorem memN_cons (t x : Nat) (l : List Nat) : memN t (x :: l) = bif Nat.beq t x then true else memN t l := rfl
theorem keys_cons {α : Type} (k : Nat) (x : α) (l : List (Nat × α)) : keys ((k, x) :: l) = k :: keys l := rfl
theorem lkp_cons {α : Type} (k t : Nat) (x : α) (l : List (Nat × α)) : lkp ((k, x) :: l) t = bif Nat.beq t k then some x else lkp l t := rfl
def noDup : List Nat → Bool
  | [] => true
  | a :: l => !(memN a l) && noDup l
theorem upds_mem : ∀ {h : List (Nat × Fam)} {p : Nat × Option Fam}, p ∈ upds h → memN p.1 (keys h) = true
  | [], p, hp => by cases hp
  | (g, F) :: l, p, hp => by
    unfold upds at hp
    unfold keys memN
    rcases List.mem_cons.1 hp with rfl | hp
    · show (bif Nat.beq g g then true else _) = true
      rw [Nat.beq_refl]; rfl
    · cases e : Nat.beq p.1 g with
      | true => rfl
      | false => exact upds_mem hp
theorem turn_upds : ∀ (h : List (Nat × Fam)) (s : St), noDup (keys h) = true → (turn s (upds h)).env = s.env ∧ (∀ g, (turn s (upds h)).heap g = if memN g (keys h) = true then lkp h g else s.heap g) ∧ ∀ g, (turn s (upds h)).used g = (memN g (keys h) || s.used g)
  | [], s, _ => ⟨rfl, fun g => rfl, fun g => rfl⟩
  | (k, F) :: l, s, hd => by
    unfold keys noDup at hd
    rw [Bool.and_eq_true] at hd
    obtain ⟨h1, h2, h3⟩ := turn_upds l ⟨s.env, put s.heap k (some F), mark s.used k⟩ hd.2
    refine ⟨h1, fun g => ?_, fun g => ?_⟩
    · refine (h2 g).trans ?_
      rw [keys_cons, memN_cons, lkp_cons]
      cases e : Nat.beq g k with
      | true =>
        have := Nat.eq_of_beq_eq_true e
        subst this
        have hn : memN g (keys l) = false := by simpa using hd.1
        rw [hn]
        exact put_same _ _ _
      | false =>
        show (if memN g (keys l) = true then lkp l g else put s.heap k (some F) g) = if memN g (keys l) = true then lkp l g else s.heap g
        rw [put_ne _ _ (fun e' => by rw [e', Nat.beq_refl] at e; cases e)]
    · refine (h3 g).trans ?_
      rw [keys_cons, memN_cons]
      show (memN g (keys l) || mark s.used k g) = _
      unfold mark
      cases e : Nat.beq g k with
      | true => simp
      | false => rfl
def famAt (s : St) : List (Nat × Fam) → Prop
  | [] => True
  | (g, F) :: l => s.heap g = some F ∧ famAt s l
theorem famAt.get {s : St} : ∀ {l : List (Nat × Fam)}, famAt s l → ∀ g fam, lkp l g = some fam → s.heap g = some fam
  | [], _, g, fam, h => by cases h
  | (k, F) :: l, hf, g, fam, h => by
    unfold lkp at h
    cases e : Nat.beq g k with
    | true => rw [e] at h; cases h; rw [Nat.eq_of_beq_eq_true e]; exact hf.1
    | false => rw [e] at h; exact famAt.get hf.2 g fam h
def okf (U : Nat → Bool) : List (Nat × Fam) → Prop
  | [] => True
  | (_, (n, F)) :: l => (∀ r, r < n → (F r).ok U) ∧ okf U l
theorem okf.get {U : Nat → Bool} : ∀ {l : List (Nat × Fam)}, okf U l → ∀ g n F r, lkp l g = some (n, F) → r < n → (F r).ok U
  | [], _, g, n, F, r, h, _ => by cases h
  | (k, (n0, F0)) :: l, hf, g, n, F, r, h, hr => by
    unfold lkp at h
    cases e : Nat.beq g k with
    | true => rw [e] at h; cases h; exact hf.1 r hr
    | false => rw [e] at h; exact okf.get hf.2 g n F r h hr
theorem oks.get {U : Nat → Bool} : ∀ {l : List AV}, oks U l → ∀ (t : Nat) (x : AV), l[t]? = some x → x.ok U
  | [], _, t, x, h => by cases h
  | y :: l, hf, 0, x, h => by cases h; exact hf.1
  | y :: l, hf, t + 1, x, h => oks.get hf.2 t x (by simpa using h)
theorem memN_of {g : Nat} : ∀ {l : List Nat}, g ∈ l → memN g l = true
  | [], h => by cases h
  | x :: l, h => by
    rw [memN_cons]
    rcases List.mem_cons.1 h with rfl | h
    · rw [Nat.beq_refl]; rfl
    · cases Nat.beq g x
      · exact memN_of h
      · rfl
theorem mem_upds : ∀ {h : List (Nat × Fam)} {g : Nat} {F : Fam}, (g, F) ∈ h → (g, some F) ∈ upds h
  | [], g, F, hp => by cases hp
  | (k, G) :: l, g, F, hp => by
    rcases List.mem_cons.1 hp with e | hp
    · cases e; exact List.mem_cons_self
    · exact List.mem_cons_of_mem _ (mem_upds hp)
theorem ok_callH {P : Program} {o : Oper} {s : St} {fo : Operand} {args : Array Operand} {Ts : Array TypeId} {F r : AV} {f : FuncId} {pre caps xs : List AV} {h h' : List (Nat × Fam)} (ho : o.op = .call { callee := .value fo, args := args, argTypes := Ts })
    (hF : avo s fo = some F) (hc : callee F = some (f, pre, caps)) (ha : avl s args.toList = some xs) (H : HasH P f h ((pre ++ xs ++ caps).map AV.old) r h')
    (hfam : famAt s h) (hsub : (keys h).all (fun g => memN g (keys h')) = true) (hnew : (keys h').all (fun g => memN g (keys h) || !(s.used g)) = true) (hk : okK h = true) (hd : noDup (keys h') = true)
    (hx : oks (fun g => memN g (keys h)) ((pre ++ xs ++ caps).map AV.old)) (hf : okf (fun g => memN g (keys h)) h) : LOK P o s ⟨some r, upds h', keys h⟩ := by
  have hnew' : ∀ g, memN g (keys h') = true → memN g (keys h) = true ∨ s.used g = false := fun g hg => by
    have := List.all_eq_true.1 hnew g (memN_spec hg)
    rw [Bool.or_eq_true] at this
    rcases this with h1 | h1
    · exact .inl h1
    · exact .inr (by simpa using h1)
  refine ⟨fun g hb hn => ?_, fun s2 h1 h2 h3 h4 W N β w a hs hN K Q hK => ?_⟩
  · obtain ⟨b, hb⟩ := hb
    rcases hnew' g (upds_mem hb) with h5 | h5
    · exact absurd (memN_spec h5) hn
    · exact h5
  · have hl : Like o (keys h) s s2 := ⟨h1, h2⟩
    obtain ⟨vs, hrun, hR0⟩ := call_args ho hF hc ha H.b hl hs
    have hR : RVs (notOwn W s2 β) W.w.heap.size β w ((pre ++ xs ++ caps).map AV.old) vs.toList := rvs_old hR0.1 hR0.2
    have hfam2 : ∀ g fam, lkp h g = some fam → s2.heap g = some fam := fun g fam hg => (h2 g (memN_spec (lkp_key hg))).trans (hfam.get g fam hg)
    have hnew2 : ∀ g, memN g (keys h') = true → memN g (keys h) = true ∨ s2.used g = false := fun g hg => by
      by_cases e : memN g (keys h) = true
      · exact .inl e
      · refine .inr (h4 g ?_ fun hm => e (memN_of hm))
        obtain ⟨x, hx⟩ := lkp_some hg
        exact ⟨some x, mem_upds (lkp_mem hx)⟩
    have hinto := hs.into hfam2 hk hR.1 (fun t x v e1 e2 => ⟨hx.get t x e1, hR.2 t x v e1 e2⟩) (hf.get)
    have hcall := H.run (subW hs h hfam2) β w vs.toList hR.1 (fun hne => by show (if _ then _ else _) = _; rw [if_neg (by simpa using hne)]) hinto
    unfold Oper.wp
    rw [hrun]
    show Calls P f _ w _
    rw [Array.toArray_toList] at hcall
    refine hcall.mono fun e w' he => ?_
    obtain ⟨v, β', rfl, hsim, hβ⟩ := he
    obtain ⟨t1, t2, t3⟩ := turn_upds h' s2 hd
    obtain ⟨b1, b2⟩ := hs.back (s' := turn s2 (upds h')) hfam2 (fun g hg => List.all_eq_true.1 hsub g (memN_spec hg)) hnew2 hsim hβ t1 t2 t3
    have b3 := b1.putv (d := o.dst) (v := v) (r := some r) hN (fun x hx _ => by cases hx; exact b2)
    refine hK (mixβ h' β β') _ w' ?_
    cases hd : o.dst with
    | none => rw [hd] at b3; exact b3
    | some t =>
      rw [hd] at b3
      have e : (s2.app (some t) ⟨some r, upds h', keys h⟩) = (turn s2 (upds h')).app (some t) ⟨some r, [], []⟩ := by
        show setE _ _ = setE _ _
        rw [turn_env]; rfl
      rw [e]
      exact b3
theorem st_callH {ops : Array Oper} {l : List Oper} {s : St} {acc : List Fp} {K : St → List Fp → Prop} {d : Option Tmp} {ty : TypeId} {ps : String} {aft : Array Edge} {fo : Operand} {args : Array Operand} {Ts : Array TypeId} {F r : AV} {f : FuncId} {pre caps xs : List AV} {h h' : List (Nat × Fam)}
    (hF : avo s fo = some F) (hc : callee F = some (f, pre, caps)) (ha : avl s args.toList = some xs) (H : HasH Try.prog f h ((pre ++ xs ++ caps).map AV.old) r h')
    (hfam : famAt s h) (hsub : (keys h).all (fun g => memN g (keys h')) = true) (hnew : (keys h').all (fun g => memN g (keys h) || !(s.used g)) = true) (hk : okK h = true) (hd : noDup (keys h') = true)
    (hx : oks (fun g => memN g (keys h)) ((pre ++ xs ++ caps).map AV.old)) (hf : okf (fun g => memN g (keys h)) h)
    (k : AOps Try.prog ops l (nxt s d (some r) (upds h')) ((keys h, (upds h').map (·.1)) :: acc) K) : AOps Try.prog ops (⟨d, .call ⟨.value fo, args, Ts⟩, ty, ps, aft, none⟩ :: l) s acc K :=
  .cons _ (.inl ⟨.none rfl, ok_callH rfl hF hc ha H hfam hsub hnew hk hd hx hf⟩) k
theorem ev_pick {s : St} {d : Option Tmp} {ty : TypeId} {ps : String} {aft : Array Edge} {gd : Option (Nat × Bool)} {c x y : Operand} {b v : Bool} {z : AV} (hc : avo s c = some (.v (.bool b))) (hb : b = v) (hx : avo s (bif v then x else y) = some z) : ev ⟨d, .pick c x y, ty, ps, aft, gd⟩ s = some (⟨some z, [], []⟩, True) := by
  subst hb
  show evPick s c x y = _
  unfold evPick
  rw [hc]
  simp only []
  rw [hx]
  rfl
section
variable {ops : Array Oper} {l : List Oper} {s : St} {acc : List Fp} {K : St → List Fp → Prop} {d : Option Tmp} {ty : TypeId} {ps : String} {aft : Array Edge} {c x y : Operand} {b : Bool} {z : AV}
theorem st_pickt (hc : avo s c = some (.v (.bool b))) (hb : b = true) (hx : avo s x = some z) (k : AOps Try.prog ops l (nxt s d (some z) []) (([], []) :: acc) K) : AOps Try.prog ops (⟨d, .pick c x y, ty, ps, aft, none⟩ :: l) s acc K :=
  st_ev (ev_pick hc hb hx) True.intro k
theorem st_pickf (hc : avo s c = some (.v (.bool b))) (hb : b = false) (hx : avo s y = some z) (k : AOps Try.prog ops l (nxt s d (some z) []) (([], []) :: acc) K) : AOps Try.prog ops (⟨d, .pick c x y, ty, ps, aft, none⟩ :: l) s acc K :=
  st_ev (ev_pick hc hb hx) True.intro k
theorem st_pickgt {j : Nat} {want b0 : Bool} {t : Tmp} (ht : (ops[j]?).bind (·.dst) = some t) (he : s.env t = some (.v (.bool b0))) (h0 : (b0 == want) = true) (hc : avo s c = some (.v (.bool b))) (hb : b = true) (hx : avo s x = some z) (k : AOps Try.prog ops l (nxt s d (some z) []) (([], []) :: acc) K) : AOps Try.prog ops (⟨d, .pick c x y, ty, ps, aft, some (j, want)⟩ :: l) s acc K :=
  st_evg ht he h0 (ev_pick hc hb hx) True.intro k
theorem st_pickgf {j : Nat} {want b0 : Bool} {t : Tmp} (ht : (ops[j]?).bind (·.dst) = some t) (he : s.env t = some (.v (.bool b0))) (h0 : (b0 == want) = true) (hc : avo s c = some (.v (.bool b))) (hb : b = false) (hx : avo s y = some z) (k : AOps Try.prog ops l (nxt s d (some z) []) (([], []) :: acc) K) : AOps Try.prog ops (⟨d, .pick c x y, ty, ps, aft, some (j, want)⟩ :: l) s acc K :=
  st_evg ht he h0 (ev_pick hc hb hx) True.intro k
end
end Go.Proofs.Ytddkocidfhaofaa.AM
/- Own slices that are handed to a call that only reads them. -/
namespace Go.Proofs.Ytddkocidfhaofaa.AM
open Go Go.RowKit Go.Proofs.Ytddkocidfhaofaa.PN Go.Proofs.Ytddkocidfhaofaa.V
set_option linter.unusedVariables false
set_option linter.unusedSimpArgs false
/-- A row, as it is or own. -/
inductive RView (s : St) (rd : List Nat) : AV → Nat → (Nat → RA) → Prop where
  | row {fr : Bool} {n : Nat} {f : Nat → RA} : RView s rd (.row fr n f) n f
  | own {g r n m : Nat} {F : Nat → Blk} {f f0 : Nat → RA} (hg : s.heap g = some (n, F)) (hr : r < n) (hF : F r = .rats m f0) (hrd : g ∈ rd) (he : ∀ i, i < m → f0 i = f i) : RView s rd (.own g r) m f
/-- What a reader may take a value for. -/
inductive View (s : St) (rd : List Nat) : AV → AV → Prop where
  | old {x y : AV} (h : x.old = y) : View s rd x y
  | row {x : AV} {n : Nat} {f : Nat → RA} (h : RView s rd x n f) : View s rd x (.row false n f)
  | mat {g r n n' : Nat} {F : Nat → Blk} {f : Nat → AV} {m : Nat → Nat} {G : Nat → Nat → RA} (hg : s.heap g = some (n', F)) (hr : r < n') (hF : F r = .ones WT n f) (hrd : g ∈ rd) (h : ∀ i, i < n → RView s rd (f i) (m i) (G i)) : View s rd (.own g r) (.mat false n m G)
def safe : AV → Bool
  | .v _ | .nat _ | .lb _ | .ra _ | .rs _ | .rn _ | .rd _ => true
  | .row fr _ _ => fr
  | .mat fr _ _ _ => fr
  | .tup a b => safe a && safe b
  | .tup3 a b c => safe a && (safe b && safe c)
  | _ => false
theorem safe_rv {S S' : Nat → Prop} {B B' : Nat} {β β' : Nat → Nat → Value} {w : World} (hS : ∀ b, B ≤ b → S' b) (hB : B' ≤ B) : ∀ {r : AV} {v : Value}, safe r = true → RV S B β w r v → RV S' B' β' w r v := by
  have row : ∀ {n : Nat} {f : Nat → RA} {v : Value}, RowV S B w true n f v → RowV S' B' w true n f v := by
    rintro n f v ⟨A, c, e1, e2, e3, e4⟩
    refine ⟨A, c, e1, e2, e3, fun i hi => ?_⟩
    obtain ⟨b, off, a1, a2, a3, a4⟩ := e4 i hi
    exact ⟨b, off, a1, hS b (a3 rfl), fun _ => Nat.le_trans hB (a3 rfl), a4⟩
  intro r
  induction r with
  | v x => exact fun _ h => h
  | nat n => exact fun _ h => h
  | lb l => exact fun _ h => h
  | ra r => exact fun _ h => h
  | rs r => exact fun _ h => h
  | rn r => exact fun _ h => h
  | rd r => exact fun _ h => h
  | row fr n f => intro v hs h; cases hs; exact row h
  | mat fr n m F =>
    intro v hs h
    cases hs
    obtain ⟨A, c, e1, e2, e3, e4⟩ := h
    refine ⟨A, c, e1, e2, e3, fun i hi => ?_⟩
    obtain ⟨b, off, cs, x, a1, a2, a3, a4, a5, a6⟩ := e4 i hi
    exact ⟨b, off, cs, x, a1, hS b (a3 rfl), fun _ => Nat.le_trans hB (a3 rfl), a4, a5, row a6⟩
  | tup a b iha ihb =>
    intro v hs h
    unfold safe at hs
    rw [Bool.and_eq_true] at hs
    obtain ⟨x, y, e, h1, h2⟩ := h
    exact ⟨x, y, e, iha hs.1 h1, ihb hs.2 h2⟩
  | tup3 a b c iha ihb ihc =>
    intro v hs h
    unfold safe at hs
    rw [Bool.and_eq_true, Bool.and_eq_true] at hs
    obtain ⟨x, y, z, e, h1, h2, h3⟩ := h
    exact ⟨x, y, z, e, iha hs.1 h1, ihb hs.2.1 h2, ihc hs.2.2 h3⟩
  | _ => intro v hs; cases hs
theorem ok_true : ∀ x : AV, x.ok (fun _ => true) := by
  intro x
  induction x with
  | own g r => rfl
  | ptr g r i => rfl
  | rptr g r i => rfl
  | fld g r i j => rfl
  | sl g r off n => rfl
  | cp x ih => exact ih
  | ag n f ih => exact fun i _ => ih i
  | tup a b iha ihb => exact ⟨iha, ihb⟩
  | tup3 a b c iha ihb ihc => exact ⟨iha, ihb, ihc⟩
  | clo f n c ih => exact fun i _ => ih i
  | bnd f x ih => exact ih
  | mf ks f ih => exact fun i _ => ih i
  | _ => trivial
theorem rv_all {S : Nat → Prop} {B B' : Nat} {β : Nat → Nat → Value} {w : World} {x : AV} {v : Value} (h : RV S B β w x v) : RV (fun _ => True) B' β w x.old v := by
  have h1 : RV S B' β w x.old v := rv_old h
  exact RV.fwd (U := fun _ => true) (O := fun _ => False) ⟨Ext.refl _ _, fun _ _ h => h, fun _ _ _ => trivial, Nat.le_refl _, fun _ _ _ => rfl⟩ (ok_true _) h1
theorem row_congr {S : Nat → Prop} {B : Nat} {w : World} {fr : Bool} {n : Nat} {f g : Nat → RA} {v : Value} (he : ∀ i, i < n → f i = g i) (h : RowV S B w fr n f v) : RowV S B w fr n g v := by
  obtain ⟨A, c, e1, e2, e3, e4⟩ := h
  refine ⟨A, c, e1, e2, e3, fun i hi => ?_⟩
  obtain ⟨b, off, a1, a2, a3, a4⟩ := e4 i hi
  exact ⟨b, off, a1, a2, a3, by rw [← he i hi]; exact a4⟩
theorem rview_rv {W : Wd} {N : Nat} {β : Nat → Nat → Value} {w : World} {a : Act} {s : St} (hs : Sim W N β w a s) {rd : List Nat} {x : AV} {n B' : Nat} {f : Nat → RA} {v : Value} (h : RView s rd x n f) (hv : RV (notOwn W s β) W.w.heap.size β w x v) : RowV (fun _ => True) B' w false n f v := by
  cases h with
  | row => exact rv_all (x := .row _ n f) hv
  | own hg hr hF hrd he =>
    have hb := (hs.heap _ _ _ _ hg hr).2
    rw [hF] at hb
    exact row_congr he (row_old (own_row (S' := fun _ => True) hv hb fun _ _ => trivial))
theorem view_rv {W : Wd} {N : Nat} {β : Nat → Nat → Value} {w : World} {a : Act} {s : St} (hs : Sim W N β w a s) {rd : List Nat} {x y : AV} {B' : Nat} {v : Value} (h : View s rd x y) (hv : RV (notOwn W s β) W.w.heap.size β w x v) : RV (fun _ => True) B' β w y v := by
  cases h with
  | old h => subst h; exact rv_all hv
  | row h => exact rview_rv hs h hv
  | mat hg hr hF hrd h =>
    have hb := (hs.heap _ _ _ _ hg hr).2
    rw [hF] at hb
    obtain ⟨e0, A, n', c, e⟩ := hv
    rcases hb.2 with ⟨e', rfl⟩ | ⟨k, cs, hB, hr, hat, hx⟩
    · exact ⟨none, 0, e0.trans e', Nat.le_refl _, Nat.zero_le _, fun i hi => absurd hi (Nat.not_lt_zero _)⟩
    · rcases hat with ⟨e', _⟩ | ⟨cap, e', h3, h4, _⟩
      · rw [← e0, e] at e'; cases e'
      · refine ⟨_, cap, e0.trans e', h3, h4, fun i hi => ?_⟩
        obtain ⟨y, a0, a1, a2⟩ := hx i hi
        exact ⟨k, 0, cs, y, rfl, trivial, fun h => (by cases h), hr, by rw [Nat.zero_add]; exact a0, rview_rv hs (h i hi) a2⟩
theorem RView.like {s s2 : St} {rd : List Nat} (hl : ∀ g ∈ rd, s2.heap g = s.heap g) {x : AV} {n : Nat} {f : Nat → RA} (h : RView s rd x n f) : RView s2 rd x n f := by
  cases h with
  | row => exact .row
  | own hg hr hF hrd he => exact .own ((hl _ hrd).trans hg) hr hF hrd he
theorem View.like {s s2 : St} {rd : List Nat} (hl : ∀ g ∈ rd, s2.heap g = s.heap g) {x y : AV} (h : View s rd x y) : View s2 rd x y := by
  cases h with
  | old h => exact .old h
  | row h => exact .row (h.like hl)
  | mat hg hr hF hrd h => exact .mat ((hl _ hrd).trans hg) hr hF hrd fun i hi => (h i hi).like hl
inductive Views (s : St) (rd : List Nat) : List AV → List AV → Prop where
  | nil : Views s rd [] []
  | cons {x y : AV} {xs ys : List AV} (h : View s rd x y) (k : Views s rd xs ys) : Views s rd (x :: xs) (y :: ys)
theorem Views.get {s : St} {rd : List Nat} : ∀ {xs ys : List AV}, Views s rd xs ys → xs.length = ys.length ∧ ∀ (i : Nat) (y : AV), ys[i]? = some y → ∃ x, xs[i]? = some x ∧ View s rd x y
  | _, _, .nil => ⟨rfl, fun i y h => by cases h⟩
  | _, _, .cons h k => by
    obtain ⟨h1, h2⟩ := k.get
    refine ⟨by simp [h1], fun i y hy => ?_⟩
    cases i with
    | zero => cases hy; exact ⟨_, rfl, h⟩
    | succ i => exact h2 i y (by simpa using hy)
theorem ok_callO {P : Program} {o : Oper} {s : St} {fo : Operand} {args : Array Operand} {Ts : Array TypeId} {F r : AV} {f : FuncId} {pre caps xs ys : List AV} {rd : List Nat} (ho : o.op = .call { callee := .value fo, args := args, argTypes := Ts })
    (hF : avo s fo = some F) (hc : callee F = some (f, pre, caps)) (ha : avl s args.toList = some xs) (hvs : Views s rd (pre ++ xs ++ caps) ys) (h : Has P f ys r) (hsafe : safe r = true) : LOK P o s ⟨some r, [], rd⟩ := by
  refine lok_kept fun s2 hl W N β w a hs K Q hK => ?_
  obtain ⟨vs, hrun, hlen, hR0⟩ := call_args ho hF hc ha h.b hl hs
  obtain ⟨hvl, hvg⟩ := hvs.get
  have hR : RVs (fun _ => True) w.heap.size β w ys vs.toList := by
    refine ⟨hvl.symm.trans hlen, fun i y v hy hv => ?_⟩
    obtain ⟨x, hx, hxy⟩ := hvg i y hy
    exact view_rv hs (hxy.like hl.heap) (hR0 i x v hx hv)
  have hcall := h.run w (fun _ => True) β vs.toList hR
  unfold Oper.wp
  rw [hrun]
  show Calls P f _ w _
  rw [Array.toArray_toList] at hcall
  refine hcall.mono fun e w' he => ?_
  obtain ⟨v, rfl, hk, hv⟩ := he
  refine hK v w' hk fun x hx => ?_
  cases hx
  exact ⟨ok_none h.ok, safe_rv (fun b hb => ⟨fun hlt => absurd (Nat.lt_of_lt_of_le hlt hs.fix.size) (by omega), fun ho => by have := (own_lt hs ho).2; omega⟩) hs.kept.size hsafe hv⟩
theorem st_callO {ops : Array Oper} {l : List Oper} {s : St} {acc : List Fp} {K : St → List Fp → Prop} {d : Option Tmp} {ty : TypeId} {ps : String} {aft : Array Edge} {fo : Operand} {args : Array Operand} {Ts : Array TypeId} {F r : AV} {f : FuncId} {pre caps xs ys : List AV} (rd : List Nat)
    (hF : avo s fo = some F) (hc : callee F = some (f, pre, caps)) (ha : avl s args.toList = some xs) (hvs : Views s rd (pre ++ xs ++ caps) ys) (h : Has Try.prog f ys r) (hsafe : safe r = true)
    (k : AOps Try.prog ops l (nxt s d (some r) []) ((rd, []) :: acc) K) : AOps Try.prog ops (⟨d, .call ⟨.value fo, args, Ts⟩, ty, ps, aft, none⟩ :: l) s acc K :=
  .cons _ (.inl ⟨.none rfl, ok_callO rfl hF hc ha hvs h hsafe⟩) k
end Go.Proofs.Ytddkocidfhaofaa.AM

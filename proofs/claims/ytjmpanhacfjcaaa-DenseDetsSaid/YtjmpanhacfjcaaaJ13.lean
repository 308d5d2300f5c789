/- Joined texts, 13: LLev AmQ AmR DnA DnB. -/
import Derived.Test.YtjmpanhacfjcaaaJ12
/- Toeplitz matrices by leading parts. -/
namespace Go.Proofs.Ytjmpanhacfjcaaa.LA
theorem left_kernel {n : Nat} (A : Mt) : det n A = 0 → ∃ z : Nat → Rat, (∃ c, c < n ∧ z c ≠ 0) ∧ ∀ j, j < n → S n (fun i => z i * A i j) = 0 := by
  refine by_rows (n := n) (P := fun A => det n A = 0 → ∃ z : Nat → Rat, (∃ c, c < n ∧ z c ≠ 0) ∧ ∀ j, j < n → S n (fun i => z i * A i j) = 0) ?_ ?_ ?_ ?_ ?_ A
  · intro A B h hA hd
    obtain ⟨z, hz, hk⟩ := hA (by rw [det_congr h]; exact hd)
    exact ⟨z, hz, fun j hj => by rw [← hk j hj]; exact S_congr fun i hi => by rw [h i j hi hj]⟩
  · intro h; rw [det_one] at h; exact absurd h (by decide)
  · intro A a ha h _
    refine ⟨fun i => if i = a then 1 else 0, ⟨a, ha, by dsimp only; rw [if_pos rfl]; decide⟩, fun j hj => ?_⟩
    refine S_null fun i hi => ?_
    by_cases e : i = a
    · subst e; rw [h j hj]; grind
    · dsimp only; rw [if_neg e]; grind
  · intro A a b f ha hb hab h hd
    obtain ⟨z, ⟨c, hc, hzc⟩, hk⟩ := h (by rw [det_addr A ha hb hab]; exact hd)
    refine ⟨fun i => if i = b then z b + f * z a else z i, ?_, fun j hj => ?_⟩
    · by_cases e : z a = 0
      · by_cases e2 : c = b
        · subst e2; exact ⟨c, hc, by dsimp only; rw [if_pos rfl, e]; intro h0; apply hzc; grind⟩
        · exact ⟨c, hc, by dsimp only; rw [if_neg e2]; exact hzc⟩
      · exact ⟨a, ha, by dsimp only; rw [if_neg hab]; exact e⟩
    · rw [← hk j hj]
      rw [S_congr (g := fun i => z i * A i j + (if i = b then f * z a * A b j else 0)) (fun i _ => by
        dsimp only
        by_cases e : i = b
        · subst e; rw [if_pos rfl, if_pos rfl]; grind
        · rw [if_neg e, if_neg e]; grind), S_add]
      rw [S_congr (f := fun i => z i * addr A a b f i j) (g := fun i => z i * A i j + (if i = a then f * z a * A b j else 0)) (fun i _ => by
        unfold addr upd
        by_cases e : i = a
        · subst e; rw [if_pos rfl, if_pos rfl]; grind
        · rw [if_neg e, if_neg e]; grind), S_add]
      rw [S_single (k := b) (f := fun i => if i = b then f * z a * A b j else 0) hb (fun k _ hne => by rw [if_neg hne]), if_pos rfl]
      rw [S_single (k := a) (f := fun i => if i = a then f * z a * A b j else 0) ha (fun k _ hne => by rw [if_neg hne]), if_pos rfl]
  · intro A a f ha hf h hd
    obtain ⟨z, ⟨c, hc, hzc⟩, hk⟩ := h (by rw [det_scl A ha, hd]; grind)
    refine ⟨fun i => if i = a then f * z a else z i, ?_, fun j hj => ?_⟩
    · by_cases e2 : c = a
      · subst e2
        refine ⟨c, hc, ?_⟩
        dsimp only; rw [if_pos rfl]
        intro h0
        rcases Rat.mul_eq_zero.mp h0 with h1 | h1
        · exact hf h1
        · exact hzc h1
      · exact ⟨c, hc, by dsimp only; rw [if_neg e2]; exact hzc⟩
    · rw [← hk j hj]
      refine S_congr fun i _ => ?_
      unfold scl upd
      by_cases e : i = a
      · subst e; dsimp only; rw [if_pos rfl, if_pos rfl]; grind
      · dsimp only; rw [if_neg e, if_neg e]
theorem left_unique {n : Nat} {A : Mt} (hd : det n A ≠ 0) {z : Nat → Rat} (h : ∀ j, j < n → S n (fun i => z i * A i j) = 0) : ∀ c, c < n → z c = 0 := by
  have := unique (n := n) (A := tr A) (by rw [det_tr]; exact hd) (x := z) (y := fun _ => 0) (fun i hi => by
    unfold app tr
    rw [S_null (n := n) (f := fun j => A j i * 0) (fun j _ => by grind), ← h i hi]
    exact S_congr fun j _ => by grind)
  exact this
/-- The same along diagonals. -/
def Toe (n : Nat) (m : Mt) : Prop := ∀ i j, i + 1 < n → j + 1 < n → m (i + 1) (j + 1) = m i j
/-- What the leading part of k rows sends to a one ahead of noughts, and behind them. -/
def Two (m : Mt) (k : Nat) (f l : Nat → Rat) : Prop := (∀ i, i < k → app k m f i = if i = 0 then 1 else 0) ∧ ∀ i, i < k → app k m l i = if i + 1 = k then 1 else 0
def longer (k : Nat) (f : Nat → Rat) : Nat → Rat := fun i => if i < k then f i else 0
def later (l : Nat → Rat) : Nat → Rat := fun i => if i = 0 then 0 else l (i - 1)
theorem app_longer (m : Mt) (k : Nat) (f : Nat → Rat) (i : Nat) : app (k + 1) m (longer k f) i = app k m f i := by
  unfold app longer
  rw [S_succ, if_neg (by omega), S_congr (g := fun j => m i j * f j) (fun j hj => by rw [if_pos hj])]; grind
theorem app_later (m : Mt) (k : Nat) (l : Nat → Rat) (i : Nat) : app (k + 1) m (later l) i = S k (fun j => m i (j + 1) * l j) := by
  unfold app later
  rw [S_first, if_pos rfl, S_congr (g := fun j => m i (j + 1) * l j) (fun j hj => by rw [if_neg (by omega), Nat.add_sub_cancel])]; grind
theorem two_longer {n k : Nat} {m : Mt} {f l : Nat → Rat} (hk : 0 < k) (h : Two m k f l) : ∀ i, i ≤ k → app (k + 1) m (longer k f) i = if i = 0 then 1 else if i = k then S k (fun j => m k j * f j) else 0 := by
  intro i hi
  rw [app_longer]
  by_cases e : i = k
  · subst e; rw [if_neg (by omega), if_pos rfl]; rfl
  · rw [h.1 i (by omega), if_neg e]
theorem two_later {n k : Nat} {m : Mt} {f l : Nat → Rat} (hk : 0 < k) (hn : k < n) (ht : Toe n m) (h : Two m k f l) : ∀ i, i ≤ k → app (k + 1) m (later l) i = if i = 0 then S k (fun j => m 0 (j + 1) * l j) else if i = k then 1 else 0 := by
  intro i hi
  rw [app_later]
  by_cases e : i = 0
  · subst e; rw [if_pos rfl]
  · obtain ⟨p, rfl⟩ : ∃ p, i = p + 1 := ⟨i - 1, by omega⟩
    rw [if_neg e, S_congr (g := fun j => m p j * l j) (fun j hj => by rw [ht p j (by omega) (by omega)])]
    have := h.2 p (by omega)
    unfold app at this
    rw [this]
theorem two_next {n k : Nat} {m : Mt} {f l : Nat → Rat} (hk : 0 < k) (hn : k < n) (ht : Toe n m) (h : Two m k f l)
    {x y : Rat} (hx : x = S k (fun j => m k j * f j)) (hy : y = S k (fun j => m 0 (j + 1) * l j)) :
    (∀ i, i ≤ k → app (k + 1) m (fun j => longer k f j - x * later l j) i = if i = 0 then 1 - x * y else 0) ∧
    (∀ i, i ≤ k → app (k + 1) m (fun j => later l j - y * longer k f j) i = if i = k then 1 - x * y else 0) := by
  have hu := two_longer (n := n) hk h
  have hv := two_later hk hn ht h
  rw [← hx] at hu
  rw [← hy] at hv
  constructor
  · intro i hi
    rw [app_sub, app_mul, hu i hi, hv i hi]
    by_cases e : i = 0
    · simp only [if_pos e]
    · simp only [if_neg e]
      by_cases e2 : i = k
      · simp only [if_pos e2]; grind
      · simp only [if_neg e2]; grind
  · intro i hi
    rw [app_sub, app_mul, hu i hi, hv i hi]
    by_cases e : i = 0
    · simp only [if_pos e, if_neg (show ¬ i = k from by omega)]; grind
    · simp only [if_neg e]
      by_cases e2 : i = k
      · simp only [if_pos e2]; grind
      · simp only [if_neg e2]; grind
theorem two_step {n k : Nat} {m : Mt} {f l : Nat → Rat} (hk : 0 < k) (hn : k < n) (ht : Toe n m) (h : Two m k f l)
    {x y by_ : Rat} (hx : x = S k (fun j => m k j * f j)) (hy : y = S k (fun j => m 0 (j + 1) * l j)) (hby : by_ * (1 - x * y) = 1) :
    Two m (k + 1) (fun j => (longer k f j - x * later l j) * by_) (fun j => (later l j - y * longer k f j) * by_) := by
  obtain ⟨h1, h2⟩ := two_next hk hn ht h hx hy
  constructor
  · intro i hi
    rw [show (fun j => (longer k f j - x * later l j) * by_) = (fun j => by_ * (longer k f j - x * later l j)) from by funext j; grind, app_mul, h1 i (by omega)]
    by_cases e : i = 0
    · simp only [if_pos e]; exact hby
    · simp only [if_neg e]; grind
  · intro i hi
    rw [show (fun j => (later l j - y * longer k f j) * by_) = (fun j => by_ * (later l j - y * longer k f j)) from by funext j; grind, app_mul, h2 i (by omega)]
    by_cases e : i = k
    · simp only [if_pos e, if_pos (show i + 1 = k + 1 from by omega)]; exact hby
    · simp only [if_neg e, if_neg (show ¬ i + 1 = k + 1 from by omega)]; grind
/-- Where a step can be done, the leading minor is not nought. -/
theorem two_minor {k : Nat} {m : Mt} {f l : Nat → Rat} (hd : det k m ≠ 0) (h : Two m (k + 1) f l) : det (k + 1) m ≠ 0 := by
  intro h0
  obtain ⟨z, ⟨c, hc, hzc⟩, hz⟩ := left_kernel m h0
  have pair : ∀ g : Nat → Rat, S (k + 1) (fun i => z i * app (k + 1) m g i) = 0 := by
    intro g
    unfold app
    rw [S_congr (g := fun i => S (k + 1) (fun j => g j * (z i * m i j))) (fun i _ => by rw [← S_mul]; exact S_congr fun j _ => by grind), S_swap]
    exact S_null fun j hj => by rw [S_mul, hz j hj]; grind
  have hk0 : z k = 0 := by
    have := pair l
    rw [S_single (k := k) (by omega) (fun i hi hne => by rw [h.2 i hi, if_neg (by omega)]; grind), h.2 k (by omega), if_pos rfl] at this
    grind
  have hrest := left_unique hd (z := z) (fun j hj => by
    have := hz j (by omega)
    rw [S_succ, hk0] at this
    grind)
  by_cases e : c = k
  · subst e; exact hzc hk0
  · exact hzc (hrest c (by omega))
theorem shift_det {n k : Nat} {m : Mt} (ht : Toe n m) (hk : k < n) : det k (del 0 m) = det k m := by
  refine det_congr fun i j hi hj => ?_
  have hs : skip 0 i = i + 1 := by unfold skip; rw [if_neg (by omega)]
  unfold del
  rw [hs]; exact ht i j (by omega) (by omega)
/-- The first number, times the leading minor, is the one ahead. -/
theorem first_minor {n k : Nat} {m : Mt} {f : Nat → Rat} (ht : Toe n m) (hk : k < n) (h : ∀ i, i < k + 1 → app (k + 1) m f i = if i = 0 then 1 else 0) : f 0 * det (k + 1) m = det k m := by
  have hc := cramer (k + 1) m f (c := 0) (by omega)
  have e : det (k + 1) (cupd m 0 (app (k + 1) m f)) = det k m := by
    rw [← shift_det ht hk]
    have e1 : det (k + 1) (cupd m 0 (app (k + 1) m f)) = det (k + 1) (cupd m 0 (fun i => if i = 0 then 1 else 0)) := det_congr fun i j hi _ => by
      by_cases ej : j = 0
      · subst ej; rw [cupd_at, cupd_at]; exact h i hi
      · rw [cupd_ne _ _ _ ej, cupd_ne _ _ _ ej]
    rw [e1]
    show S (k + 1) (fun i => sg i * cupd m 0 (fun i => if i = 0 then 1 else 0) i 0 * det k (del i (cupd m 0 (fun i => if i = 0 then 1 else 0)))) = _
    rw [S_single (k := 0) (by omega) (fun i _ hne => by rw [cupd_at, if_neg hne]; grind), cupd_at, if_pos rfl]
    have e2 : det k (del 0 (cupd m 0 (fun i => if i = 0 then 1 else 0))) = det k (del 0 m) := det_congr fun i j _ _ => by
      unfold del; rw [cupd_ne _ _ _ (by omega)]
    rw [e2, show sg 0 = 1 from rfl]; grind
  rw [e] at hc
  rw [hc]; grind
/-- Where a step cannot be done, the leading minor is nought. -/
theorem two_break {n k : Nat} {m : Mt} {f l : Nat → Rat} (hn : k + 1 < n) (ht : Toe n m) (h : Two m (k + 1) f l) (hd0 : det k m ≠ 0)
    {x y : Rat} (hx : x = S (k + 1) (fun j => m (k + 1) j * f j)) (hy : y = S (k + 1) (fun j => m 0 (j + 1) * l j)) (hz : 1 - x * y = 0) : det (k + 1 + 1) m = 0 := by
  obtain ⟨h1, _⟩ := two_next (by omega) hn ht h hx hy
  have hf : f 0 ≠ 0 := by
    intro h0
    have := first_minor ht (show k < n from by omega) h.1
    rw [h0] at this
    apply hd0; grind
  refine kernel (x := fun j => longer (k + 1) f j - x * later l j) (fun i hi => ?_) (c := 0) (by omega) ?_
  · rw [h1 i (by omega), hz]; split <;> rfl
  · unfold longer later
    rw [if_pos (by omega), if_pos rfl]
    intro h0; apply hf; grind
end Go.Proofs.Ytjmpanhacfjcaaa.LA
/- How long numbers are; helps for walks. -/
namespace Go.Proofs.Ytjmpanhacfjcaaa.AM
open Go Go.RowKit Go.Proofs.Ytjmpanhacfjcaaa.PN Go.Proofs.Ytjmpanhacfjcaaa.V
open Go.Proofs.Ytjmpanhacfjcaaa.LA (S S_succ S_zero S_congr)
set_option linter.unusedVariables false
set_option linter.unusedSimpArgs false
class Wt (q : Rat) (k : outParam Nat) : Prop where
  le : wt q ≤ k
instance Wt.mul {p q : Rat} {a b : Nat} [h : Wt p a] [k : Wt q b] : Wt (p * q) (a + b) := ⟨Nat.le_trans (wt_mul p q) (Nat.add_le_add h.le k.le)⟩
instance Wt.add {p q : Rat} {a b : Nat} [h : Wt p a] [k : Wt q b] : Wt (p + q) (a + b + 1) := ⟨Nat.le_trans (wt_add p q) (Nat.add_le_add_right (Nat.add_le_add h.le k.le) 1)⟩
instance Wt.sub {p q : Rat} {a b : Nat} [h : Wt p a] [k : Wt q b] : Wt (p - q) (a + b + 1) := ⟨Nat.le_trans (wt_sub p q) (Nat.add_le_add_right (Nat.add_le_add h.le k.le) 1)⟩
instance Wt.neg {p : Rat} {a : Nat} [h : Wt p a] : Wt (-p) a := ⟨by rw [wt_neg]; exact h.le⟩
instance Wt.div {p q : Rat} {a b : Nat} [h : Wt p a] [k : Wt q b] : Wt (p / q) (a + b) := ⟨by
  by_cases e : q = 0
  · have e0 : p / q = 0 := by rw [e, Rat.div_def, Rat.inv_zero, Rat.mul_zero]
    have h1 : wt 0 ≤ 1 := by decide
    have := wt_pos p; have := h.le
    rw [e0]; omega
  · exact Nat.le_trans (wt_div p q e) (Nat.add_le_add h.le k.le)⟩
instance Wt.zero : Wt 0 1 := ⟨by decide⟩
instance Wt.one : Wt 1 1 := ⟨by decide⟩
theorem Wt.of {q : Rat} {k : Nat} (h : wt q ≤ k) : Wt q k := ⟨h⟩
theorem Wt.mono {q : Rat} {a b : Nat} (h : Wt q a) (k : a ≤ b) : Wt q b := ⟨Nat.le_trans h.le k⟩
/-- A sum of at most eight numbers. -/
theorem Wt.sum {n K : Nat} {f : Nat → Rat} (hn : n ≤ 8) (h : ∀ i, i < n → Wt (f i) K) : Wt (S n f) (8 * (K + 1) + 1) := by
  have key : ∀ m, m ≤ n → wt (S m f) ≤ m * (K + 1) + 1 := by
    intro m hm
    induction m with
    | zero =>
        rw [S_zero]
        have : wt 0 ≤ 1 := by decide
        omega
    | succ m ih =>
      rw [S_succ]
      have h1 := wt_add (S m f) (f m)
      have h2 := (h m (by omega)).le
      have h3 := ih (by omega)
      rw [Nat.succ_mul]
      omega
  refine ⟨Nat.le_trans (key n (Nat.le_refl _)) ?_⟩
  have := Nat.mul_le_mul_right (K + 1) hn
  omega
section
variable {p q : Rat} {a b : Nat} [hp : Wt p a] [hq : Wt q b]
theorem c_mul (h : a ≤ 1000000000000 ∧ b ≤ 1000000000000) : Has Try.prog 89 [.q p, .q q] (.q (p * q)) := h_mul (Nat.le_trans hp.le h.1) (Nat.le_trans hq.le h.2)
theorem c_add (h : a ≤ 1000000000000 ∧ b ≤ 1000000000000) : Has Try.prog 72 [.q p, .q q] (.q (p + q)) := h_add (Nat.le_trans hp.le h.1) (Nat.le_trans hq.le h.2)
theorem c_sub (h : a ≤ 1000000000000 ∧ b ≤ 1000000000000) : Has Try.prog 97 [.q p, .q q] (.q (p - q)) := h_sub (Nat.le_trans hp.le h.1) (Nat.le_trans hq.le h.2)
theorem c_quo (h : a ≤ 1000000000000 ∧ b ≤ 1000000000000) (h0 : q ≠ 0) : Has Try.prog 59 [.q p, .q q] (.tup (.q (p / q)) (.i 0)) := h_quo (Nat.le_trans hp.le h.1) (Nat.le_trans hq.le h.2) h0
theorem cs_mul (h : a ≤ 15000 ∧ b ≤ 15000) : Has Try.prog 17 [.q p, .q q] (.q (p * q)) := hs_mul (Nat.le_trans hp.le h.1) (Nat.le_trans hq.le h.2)
theorem cs_add (h : a ≤ 15000 ∧ b ≤ 15000) : Has Try.prog 16 [.q p, .q q] (.q (p + q)) := hs_add (Nat.le_trans hp.le h.1) (Nat.le_trans hq.le h.2)
theorem cs_over (h : a ≤ 15000 ∧ b ≤ 15000) (h0 : q ≠ 0) : Has Try.prog 61 [.q p, .q q] (.q (p / q)) := hs_over (Nat.le_trans hp.le h.1) (Nat.le_trans hq.le h.2) h0
theorem cs_same (h : a ≤ 1000000000000 ∧ b ≤ 1000000000000) : Has Try.prog 18 [.q p, .q q] (.b (decide (p = q))) := hs_same (Nat.le_trans hp.le h.1) (Nat.le_trans hq.le h.2)
end
section
variable {p : Rat} {a : Nat} [hp : Wt p a]
theorem c_neg (h : a ≤ 1000000000000) : Has Try.prog 96 [.q p] (.q (-p)) := h_neg (Nat.le_trans hp.le h)
theorem c_right (h : a ≤ 1000000000000) : Has Try.prog 83 [.q p] (.b true) := h_right (Nat.le_trans hp.le h)
end
/-! ### For loops -/
theorem awp_if {P : Program} {N : Nat} {Q : Exit → St → Prop} {s : St} {c : Operand} {x y : Code} {p : Prop} [Decidable p] (hc : avo s c = some (.v (.bool (decide p)))) (ht : p → AWP P N x Q s) (hf : ¬ p → AWP P N y Q s) : AWP P N (.cond c x y) Q s :=
  awp_cond hc (fun h => ht (of_decide_eq_true h)) (fun h => hf (of_decide_eq_false h))
theorem awp_ifn {P : Program} {N : Nat} {Q : Exit → St → Prop} {s : St} {c : Operand} {x y : Code} {p : Prop} [Decidable p] (hc : avo s c = some (.v (.bool (!(decide p))))) (ht : ¬ p → AWP P N x Q s) (hf : p → AWP P N y Q s) : AWP P N (.cond c x y) Q s :=
  awp_cond hc (fun h => ht (by simpa using h)) (fun h => hf (by simpa using h))
theorem awp_yes {P : Program} {N : Nat} {Q : Exit → St → Prop} {s : St} {c : Operand} {x y : Code} {b : Bool} (hc : avo s c = some (.v (.bool b))) (hb : b = true) (h : AWP P N x Q s) : AWP P N (.cond c x y) Q s :=
  awp_cond hc (fun _ => h) (fun e => by rw [hb] at e; cases e)
theorem awp_no {P : Program} {N : Nat} {Q : Exit → St → Prop} {s : St} {c : Operand} {x y : Code} {b : Bool} (hc : avo s c = some (.v (.bool b))) (hb : b = false) (h : AWP P N y Q s) : AWP P N (.cond c x y) Q s :=
  awp_cond hc (fun e => by rw [hb] at e; cases e) (fun _ => h)
theorem alle {s : St} {σ : Ren} {U : Nat → Bool} {t : Nat} {x y : AV} {l : List (Nat × AV)} (h : s.env t = some x) (hl : Le σ x y) (ho : y.ok U) (k : AllE s σ U l) : AllE s σ U ((t, y) :: l) := ⟨⟨x, h, hl, ho⟩, k⟩
theorem allh {s : St} {σ : Ren} {U : Nat → Bool} {g n' : Nat} {F F' : Nat → Blk} {l : List (Nat × Fam)} (h : s.heap (σ g 0).1 = some (n', F')) (hn : (σ g 0).2 < n') (hb : BLe σ (F' (σ g 0).2) (F 0)) (ho : (F 0).ok U) (k : AllH s σ U l) : AllH s σ U ((g, (1, F)) :: l) :=
  ⟨fun r hr => by
    obtain rfl : r = 0 := by omega
    exact ⟨n', F', h, hn, hb, ho⟩, k⟩
theorem ble1 {σ : Ren} {f f' : Nat → RA} (h : f 0 = f' 0) : BLe σ (.rats 1 f) (.rats 1 f') := by
  refine ⟨rfl, fun i hi => ?_⟩
  obtain rfl : i = 0 := by omega
  exact h
theorem blen {σ : Ren} {n n' : Nat} {f f' : Nat → RA} (hn : n = n') (h : ∀ i, i < n → f i = f' i) : BLe σ (.rats n f) (.rats n' f') := ⟨hn, h⟩
theorem bleo {σ : Ren} {T : TypeId} {n n' : Nat} {f f' : Nat → AV} (hn : n = n') (h : ∀ i, i < n → Le σ (f i) (f' i)) : BLe σ (.ones T n f) (.ones T n' f') := ⟨rfl, hn, h⟩
end Go.Proofs.Ytjmpanhacfjcaaa.AM
/- An own row that lies in another own slice is written no more. -/
namespace Go.Proofs.Ytjmpanhacfjcaaa.AM
open Go Go.RowKit Go.Proofs.Ytjmpanhacfjcaaa.PN Go.Proofs.Ytjmpanhacfjcaaa.V
set_option linter.unusedVariables false
set_option linter.unusedSimpArgs false
theorem imp_pub {s : St} (g' i : Nat) {g n m : Nat} {T : TypeId} {F F' : Nat → Blk} {f : Nat → AV} {q : Nat → RA} (hg' : s.heap g' = some (1, F')) (hF' : F' 0 = .ones T n f) (hi : i < n) (hfi : f i = .own g 0) (hg : s.heap g = some (1, F)) (hF : F 0 = .rats m q) (hne : g ≠ g') :
    Imp s ⟨s.env, put (put s.heap g none) g' (some (1, fun _ => .ones T n (updN f i (.row true m q)))), s.used⟩ := by
  intro W N β w a hs
  have hheap : ∀ h n1 F1 r, put (put s.heap g none) g' (some (1, fun _ => .ones T n (updN f i (.row true m q)))) h = some (n1, F1) → r < n1 → ∃ n2 F2, s.heap h = some (n2, F2) ∧ r < n2 ∧ h ≠ g ∧ (h = g' → F1 r = .ones T n (updN f i (.row true m q)) ∧ r = 0) ∧ (h ≠ g' → F1 = F2) := by
    intro h n1 F1 r e1 e2
    by_cases c1 : h = g'
    · subst c1
      rw [put_same] at e1; cases e1
      obtain rfl : r = 0 := by omega
      exact ⟨1, F', hg', by decide, fun e => hne e.symm, fun _ => ⟨rfl, rfl⟩, fun e => absurd rfl e⟩
    · rw [put_ne _ _ c1] at e1
      by_cases c2 : h = g
      · subst c2; rw [put_same] at e1; cases e1
      · rw [put_ne _ _ c2] at e1
        exact ⟨n1, F1, e1, e2, c2, fun e => absurd e c1, fun _ => rfl⟩
  generalize hs' : (⟨s.env, put (put s.heap g none) g' (some (1, fun _ => .ones T n (updN f i (.row true m q)))), s.used⟩ : St) = s'
  have hown : ∀ k, Own s' β k → Own s β k ∧ ub (β g 0) ≠ some k := by
    rintro k ⟨h, n1, F1, r, h1, h2, h3⟩
    subst hs'
    obtain ⟨n2, F2, a1, a2, a3, _⟩ := hheap h n1 F1 r h1 h2
    exact ⟨⟨h, n2, F2, r, a1, a2, h3⟩, fun e => a3 (hs.inj _ _ _ _ _ _ _ _ k a1 a2 hg (by decide) h3 e).1⟩
  have kf : Fwd (notOwn W s β) (notOwn W s' β) W.w.heap.size W.w.heap.size s.used β β (fun _ => False) w w :=
    ⟨Ext.refl _ _, fun _ _ h => h, fun b hb _ => ⟨hb.1, fun ho => hb.2 (hown b ho).1⟩, Nat.le_refl _, fun _ _ _ => rfl⟩
  have hpub : ∀ b, ub (β g 0) = some b → notOwn W s' β b := fun b hb => ⟨fun hlt => W.law b (own_lt hs ⟨g, 1, F, 0, hg, by decide, hb⟩).1 hlt (hs.pin b ⟨g, 1, F, 0, hg, by decide, hb⟩), fun ho => (hown b ho).2 hb⟩
  refine ⟨β, hs.kept, hs.nodef, hs.size, fun t z hz => ?_, fun h n1 F1 r h1 h2 => ?_, fun h n1 F1 h1 => ?_, fun g1 n1 F1 r1 g2 n2 F2 r2 k h1 h2 h3 h4 h5 h6 => ?_, hs.fix, fun i ho => hs.pin i (hown i ho).1, by subst hs'; exact hs.fixd, by subst hs'; exact hs.keep⟩
  · subst hs'
    exact ⟨(hs.env t z hz).1, (hs.env t z hz).2.fwd kf (hs.env t z hz).1⟩
  · have h1' : put (put s.heap g none) g' (some (1, fun _ => .ones T n (updN f i (.row true m q)))) h = some (n1, F1) := by subst hs'; exact h1
    have hu : s'.used = s.used := by subst hs'; rfl
    rw [hu]
    obtain ⟨n2, F2, a1, a2, a3, a4, a5⟩ := hheap h n1 F1 r h1' h2
    obtain ⟨q1, q2⟩ := hs.heap h n2 F2 r a1 a2
    by_cases c1 : h = g'
    · obtain ⟨e1, rfl⟩ := a4 c1
      subst c1
      rw [hg'] at a1; cases a1
      rw [hF'] at q1 q2
      have q3 := RB.fwd kf q1 (fun _ _ h => h) q2
      rw [e1]
      refine ⟨fun j hj => ?_, q3.1, ?_⟩
      · by_cases c2 : j = i
        · subst c2; rw [updN_same]; exact True.intro
        · rw [updN_ne _ _ c2]; exact q1 j hj
      · rcases q3.2 with e | ⟨k, cs, hB, hr, hat, hx⟩
        · exact .inl e
        · refine .inr ⟨k, cs, hB, hr, hat, fun j hj => ?_⟩
          obtain ⟨y, b1, b2, b3⟩ := hx j hj
          by_cases c2 : j = i
          · subst c2
            rw [hfi] at b3
            refine ⟨y, b1, b2, ?_⟩
            rw [updN_same]
            have hb := (hs.heap g 1 F 0 hg (by decide)).2
            rw [hF] at hb
            exact own_row b3 hb hpub
          · exact ⟨y, b1, b2, by rw [updN_ne _ _ c2]; exact b3⟩
    · rw [a5 c1]
      exact ⟨q1, RB.fwd kf q1 (fun _ _ h => h) q2⟩
  · subst hs'
    by_cases c1 : h = g'
    · subst c1; exact hs.live _ _ _ hg'
    · have h1 : put (put s.heap g none) g' _ h = _ := h1
      rw [put_ne _ _ c1] at h1
      by_cases c2 : h = g
      · subst c2; rw [put_same] at h1; cases h1
      · rw [put_ne _ _ c2] at h1; exact hs.live _ _ _ h1
  · subst hs'
    obtain ⟨m1, G1, a1, a2, _⟩ := hheap g1 n1 F1 r1 h1 h2
    obtain ⟨m2, G2, b1, b2, _⟩ := hheap g2 n2 F2 r2 h3 h4
    exact hs.inj _ _ _ _ _ _ _ _ k a1 a2 b1 b2 h5 h6
/-- Numbers that are put, one by one, in the place of z. -/
def grow {α : Type} (v : Nat → α) (z : α) (k : Nat) : Nat → α := fun i => bif Nat.ble (i + 1) k then v i else z
theorem grow_step {α : Type} (v : Nat → α) (z : α) (k i : Nat) : updN (grow v z k) k (v k) i = grow v z (k + 1) i := by
  unfold updN
  by_cases h : i = k
  · subst h
    rw [if_pos rfl]; unfold grow
    rw [Nat.ble_eq_true_of_le (Nat.le_refl (i + 1))]; rfl
  · rw [if_neg h]; unfold grow
    by_cases h3 : i + 1 ≤ k
    · have h4 : i + 1 ≤ k + 1 := by omega
      rw [Nat.ble_eq_true_of_le h3, Nat.ble_eq_true_of_le h4]
    · have h4 : ¬ i + 1 ≤ k + 1 := by omega
      have e3 : Nat.ble (i + 1) k = false := by cases e : Nat.ble (i + 1) k with
        | true => exact absurd (Nat.le_of_ble_eq_true e) h3
        | false => rfl
      have e4 : Nat.ble (i + 1) (k + 1) = false := by cases e : Nat.ble (i + 1) (k + 1) with
        | true => exact absurd (Nat.le_of_ble_eq_true e) h4
        | false => rfl
      rw [e3, e4]
theorem grow_full {α : Type} (v : Nat → α) (z : α) {k i : Nat} (h : i < k) : grow v z k i = v i := by
  unfold grow; rw [Nat.ble_eq_true_of_le (show i + 1 ≤ k from h)]; rfl
theorem imp_rowv {s : St} (t : Nat) {g n : Nat} {F : Nat → Blk} {f : Nat → RA} (f' : Nat → RA) (hx : s.env t = some (.own g 0)) (hg : s.heap g = some (1, F)) (hF : F 0 = .rats n f) (h : ∀ i, i < n → f i = f' i) : Imp s ⟨put s.env t (some (.row true n f')), put s.heap g none, s.used⟩ := by
  have e : put s.env t (some (AV.row true n f')) = put (put s.env t (some (AV.row true n f))) t (some (AV.row true n f')) := by
    funext t'; unfold put; cases Nat.beq t' t <;> rfl
  rw [e]
  exact (imp_row t hx hg hF).trans (imp_slot t (put_same _ _ _) True.intro (Le.row rfl h fun h => h))
end Go.Proofs.Ytjmpanhacfjcaaa.AM
/- Dense matrices: walks: numbers, sums of products. -/
namespace Go.Proofs.Ytjmpanhacfjcaaa.AM
open Go Go.RowKit Go.Proofs.Ytjmpanhacfjcaaa.PN Go.Proofs.Ytjmpanhacfjcaaa.V
open Go.Proofs.Ytjmpanhacfjcaaa.LA (S S_succ S_zero S_congr)
set_option linter.unusedVariables false
set_option linter.unusedSimpArgs false
theorem lb_one {w : World} {v : Value} {S : Nat → Prop} (hS : ∀ b, S b) (h : Lbs w v [1]) : NatS w S v 1 := by
  obtain ⟨A, c, rfl, hc, hx⟩ := h
  refine ⟨A, c, rfl, hc, fun i hi => ?_⟩
  obtain ⟨b, off, cs, e1, e2, e3⟩ := hx i hi
  have hi : i < 1 := hi
  obtain rfl : i = 0 := by omega
  exact ⟨b, off, cs, e1, hS b, e2, by rw [e3]; congr 2⟩
theorem rv_zero {S : Nat → Prop} {B : Nat} {β : Nat → Nat → Value} {w : World} {v : Value} (h : RV S B β w (.ra (.raw false [] [1])) v) : RV S B β w (.q 0) v := by
  obtain ⟨s, vn, vd, rfl, h1, h2, h3⟩ := h
  refine ⟨s, vn, vd, rfl, h1, ?_, lb_one (fun _ => trivial) h3⟩
  obtain ⟨A, c, rfl, hc, hx⟩ := h2
  exact ⟨A, c, rfl, hc, fun i hi => absurd hi (Nat.not_lt_zero _)⟩
theorem rv_one {S : Nat → Prop} {B : Nat} {β : Nat → Nat → Value} {w : World} {v : Value} (h : RV S B β w (.ra (.raw false [1] [1])) v) : RV S B β w (.q 1) v := by
  obtain ⟨s, vn, vd, rfl, h1, h2, h3⟩ := h
  exact ⟨s, vn, vd, rfl, h1, lb_one (fun _ => trivial) h2, lb_one (fun _ => trivial) h3⟩
theorem Has.imp {f : FuncId} {xs : List AV} {r r' : AV} (h : Has Try.prog f xs r) (hc : r'.closed = true) (k : ∀ S B β w v, RV S B β w r v → RV S B β w r' v) : Has Try.prog f xs r' :=
  ⟨h.b, closed_ok hc, fun w S β vs hv => (h.run w S β vs hv).mono fun e w' ⟨v, he, hk, hr⟩ => ⟨v, he, hk, k _ _ _ _ _ hr⟩⟩
theorem d_zero : Has Try.prog 73 [] (.q 0) := by
  refine Has.imp (r := .ra (.raw false [] [1])) ?_ rfl (fun S B β w v => rv_zero)
  refine has_of Try.func73 (by kernel_rfl) rfl Try.ntmps73 Try.results73 rfl rfl rfl ?_
  repeat(first|(with_reducible first|refine awp_seq ?_|refine awp_block ?_|refine awp_skip ?_|refine awp_exit ?_|refine awp_ret ?_|refine q_then ?_|refine q_block ?_|refine q_then_exit ?_|refine q_then_ret ?_|refine q_block_exit ?_|refine q_block_ret ?_|refine q_loop_exit ?_|refine q_loop_ret ?_)|((with_reducible refine q_block_other ?_ ?_);exact rfl)|((with_reducible refine reg ?_ ?_);exact rfl)|((with_reducible refine st_end ?_ ?_);first|exact .inl rfl|exact .inr rfl)|(with_reducible apply st_build0)|((with_reducible apply st_ev);exact rfl;(first|exact True.intro|((repeat' apply And.intro)<;>first|exact True.intro|with_reducible rfl|(simp only[Fits];omega)|omega|assumption|decide|(simp;done)|exact rfl)))|((with_reducible apply st_evg);exact rfl;exact rfl;(first|exact rfl|assumption);exact rfl;(first|exact True.intro|((repeat' apply And.intro)<;>first|exact True.intro|with_reducible rfl|(simp only[Fits];omega)|omega|assumption|decide|(simp;done)|exact rfl)))|((with_reducible apply st_skip);exact rfl;exact rfl;(first|exact rfl|assumption))|((with_reducible apply st_app0);exact rfl;exact rfl;exact rfl;omega)|((with_reducible apply st_skipu);exact rfl;exact rfl)|((with_reducible apply st_pickt);exact rfl;assumption;exact rfl)|((with_reducible apply st_pickf);exact rfl;assumption;exact rfl)|((with_reducible apply st_pickgt);exact rfl;exact rfl;(first|exact rfl|assumption);exact rfl;(first|exact rfl|assumption);exact rfl)|((with_reducible apply st_pickgf);exact rfl;exact rfl;(first|exact rfl|assumption);exact rfl;(first|exact rfl|assumption);exact rfl)|((with_reducible apply st_build);exact rfl;first|exact rfl|(first|exact True.intro|((repeat' apply And.intro)<;>first|exact True.intro|with_reducible rfl|(simp only[Fits];omega)|omega|assumption|decide|(simp;done)|exact rfl))))
  refine ⟨.inr rfl, _, Imp.refl _, ?_⟩
  exact .one (.rat rfl rfl (by decide) rfl (by decide) rfl)
theorem d_one : Has Try.prog 80 [] (.q 1) := by
  refine Has.imp (r := .ra (.raw false [1] [1])) ?_ rfl (fun S B β w v => rv_one)
  refine has_of Try.func80 (by kernel_rfl) rfl Try.ntmps80 Try.results80 rfl rfl rfl ?_
  repeat(first|(with_reducible first|refine awp_seq ?_|refine awp_block ?_|refine awp_skip ?_|refine awp_exit ?_|refine awp_ret ?_|refine q_then ?_|refine q_block ?_|refine q_then_exit ?_|refine q_then_ret ?_|refine q_block_exit ?_|refine q_block_ret ?_|refine q_loop_exit ?_|refine q_loop_ret ?_)|((with_reducible refine q_block_other ?_ ?_);exact rfl)|((with_reducible refine reg ?_ ?_);exact rfl)|((with_reducible refine st_end ?_ ?_);first|exact .inl rfl|exact .inr rfl)|(with_reducible apply st_build0)|((with_reducible apply st_ev);exact rfl;(first|exact True.intro|((repeat' apply And.intro)<;>first|exact True.intro|with_reducible rfl|(simp only[Fits];omega)|omega|assumption|decide|(simp;done)|exact rfl)))|((with_reducible apply st_evg);exact rfl;exact rfl;(first|exact rfl|assumption);exact rfl;(first|exact True.intro|((repeat' apply And.intro)<;>first|exact True.intro|with_reducible rfl|(simp only[Fits];omega)|omega|assumption|decide|(simp;done)|exact rfl)))|((with_reducible apply st_skip);exact rfl;exact rfl;(first|exact rfl|assumption))|((with_reducible apply st_app0);exact rfl;exact rfl;exact rfl;omega)|((with_reducible apply st_skipu);exact rfl;exact rfl)|((with_reducible apply st_pickt);exact rfl;assumption;exact rfl)|((with_reducible apply st_pickf);exact rfl;assumption;exact rfl)|((with_reducible apply st_pickgt);exact rfl;exact rfl;(first|exact rfl|assumption);exact rfl;(first|exact rfl|assumption);exact rfl)|((with_reducible apply st_pickgf);exact rfl;exact rfl;(first|exact rfl|assumption);exact rfl;(first|exact rfl|assumption);exact rfl)|((with_reducible apply st_build);exact rfl;first|exact rfl|(first|exact True.intro|((repeat' apply And.intro)<;>first|exact True.intro|with_reducible rfl|(simp only[Fits];omega)|omega|assumption|decide|(simp;done)|exact rfl))))
  refine ⟨.inr rfl, _, Imp.refl _, ?_⟩
  exact .one (.rat rfl rfl (by decide) rfl (by decide) rfl)
theorem d_dot {n K : Nat} {f g : Nat → Rat} [hf : ∀ i, Wt (f i) K] [hg : ∀ i, Wt (g i) K] (hn : n ≤ 8) (hK : K ≤ 1000000000) : Has Try.prog 70 [.row false n (fun i => .q (f i)), .row false n (fun i => .q (g i))] (.q (S n fun i => f i * g i)) := by
  refine has_of Try.func70 (by kernel_rfl) rfl Try.ntmps70 Try.results70 rfl rfl rfl ?_
  repeat(first|(with_reducible first|refine awp_seq ?_|refine awp_block ?_|refine awp_skip ?_|refine awp_exit ?_|refine awp_ret ?_|refine q_then ?_|refine q_block ?_|refine q_then_exit ?_|refine q_then_ret ?_|refine q_block_exit ?_|refine q_block_ret ?_|refine q_loop_exit ?_|refine q_loop_ret ?_)|((with_reducible refine q_block_other ?_ ?_);exact rfl)|((with_reducible refine reg ?_ ?_);exact rfl)|((with_reducible refine st_end ?_ ?_);first|exact .inl rfl|exact .inr rfl)|(with_reducible apply st_build0)|((with_reducible apply st_ev);exact rfl;(first|exact True.intro|((repeat' apply And.intro)<;>first|exact True.intro|with_reducible rfl|(simp only[Fits];omega)|omega|assumption|decide|(simp;done)|exact rfl)))|((with_reducible apply st_evg);exact rfl;exact rfl;(first|exact rfl|assumption);exact rfl;(first|exact True.intro|((repeat' apply And.intro)<;>first|exact True.intro|with_reducible rfl|(simp only[Fits];omega)|omega|assumption|decide|(simp;done)|exact rfl)))|((with_reducible apply st_skip);exact rfl;exact rfl;(first|exact rfl|assumption))|((with_reducible apply st_app0);exact rfl;exact rfl;exact rfl;omega)|((with_reducible apply st_skipu);exact rfl;exact rfl)|((with_reducible apply st_pickt);exact rfl;assumption;exact rfl)|((with_reducible apply st_pickf);exact rfl;assumption;exact rfl)|((with_reducible apply st_pickgt);exact rfl;exact rfl;(first|exact rfl|assumption);exact rfl;(first|exact rfl|assumption);exact rfl)|((with_reducible apply st_pickgf);exact rfl;exact rfl;(first|exact rfl|assumption);exact rfl;(first|exact rfl|assumption);exact rfl)|((with_reducible apply st_build);exact rfl;first|exact rfl|(first|exact True.intro|((repeat' apply And.intro)<;>first|exact True.intro|with_reducible rfl|(simp only[Fits];omega)|omega|assumption|decide|(simp;done)|exact rfl)))|((with_reducible apply st_call);exact rfl;exact rfl;exact rfl;first|(exact d_zero))|((with_reducible apply st_callg);exact rfl;exact rfl;(first|exact rfl|assumption);exact rfl;exact rfl;exact rfl;first|(exact d_zero)))
  refine awp_loop (fun m s => ∃ k, k ≤ n ∧ m = n - k ∧ s = stl [(0, .row false n (fun i => .q (f i))), (1, .row false n (fun i => .q (g i))), (4, .rptr 4 0 0), (5, .rptr 5 0 0), (12, .i (min (n : Int) n)), (13, .i (k : Int))] [(4, (1, fun _ => .rats 1 (fun _ => ra0))), (5, (1, fun _ => .rats 1 (fun _ => .q (S k fun i => f i * g i))))]) n _ (imp_id ?_ ?_) ⟨0, Nat.zero_le _, rfl, rfl⟩ ?_
  · repeat (first | exact True.intro | refine alle rfl (Le.id rfl) (by first | exact True.intro | rfl) ?_)
  · repeat (first | exact True.intro | refine allh rfl (by decide) (ble1 rfl) True.intro ?_)
  · rintro m s ⟨k, hk, rfl, rfl⟩
    have w1 : Wt (S k fun i => f i * g i) (8 * (K + K + 1) + 1) := Wt.sum (by omega) fun i _ => inferInstance
    repeat(first|(with_reducible first|refine awp_seq ?_|refine awp_block ?_|refine awp_skip ?_|refine awp_exit ?_|refine awp_ret ?_|refine q_then ?_|refine q_block ?_|refine q_then_exit ?_|refine q_then_ret ?_|refine q_block_exit ?_|refine q_block_ret ?_|refine q_loop_exit ?_|refine q_loop_ret ?_)|((with_reducible refine q_block_other ?_ ?_);exact rfl)|((with_reducible refine reg ?_ ?_);exact rfl)|((with_reducible refine st_end ?_ ?_);first|exact .inl rfl|exact .inr rfl)|(with_reducible apply st_build0)|((with_reducible apply st_ev);exact rfl;(first|exact True.intro|((repeat' apply And.intro)<;>first|exact True.intro|with_reducible rfl|(simp only[Fits];omega)|omega|assumption|decide|(simp;done)|exact rfl)))|((with_reducible apply st_evg);exact rfl;exact rfl;(first|exact rfl|assumption);exact rfl;(first|exact True.intro|((repeat' apply And.intro)<;>first|exact True.intro|with_reducible rfl|(simp only[Fits];omega)|omega|assumption|decide|(simp;done)|exact rfl)))|((with_reducible apply st_skip);exact rfl;exact rfl;(first|exact rfl|assumption))|((with_reducible apply st_app0);exact rfl;exact rfl;exact rfl;omega)|((with_reducible apply st_skipu);exact rfl;exact rfl)|((with_reducible apply st_pickt);exact rfl;assumption;exact rfl)|((with_reducible apply st_pickf);exact rfl;assumption;exact rfl)|((with_reducible apply st_pickgt);exact rfl;exact rfl;(first|exact rfl|assumption);exact rfl;(first|exact rfl|assumption);exact rfl)|((with_reducible apply st_pickgf);exact rfl;exact rfl;(first|exact rfl|assumption);exact rfl;(first|exact rfl|assumption);exact rfl)|((with_reducible apply st_build);exact rfl;first|exact rfl|(first|exact True.intro|((repeat' apply And.intro)<;>first|exact True.intro|with_reducible rfl|(simp only[Fits];omega)|omega|assumption|decide|(simp;done)|exact rfl))))
    refine awp_if rfl (fun h => ?_) (fun h => ?_)
    · have h : k < n := by omega
      repeat(first|(with_reducible first|refine awp_seq ?_|refine awp_block ?_|refine awp_skip ?_|refine awp_exit ?_|refine awp_ret ?_|refine q_then ?_|refine q_block ?_|refine q_then_exit ?_|refine q_then_ret ?_|refine q_block_exit ?_|refine q_block_ret ?_|refine q_loop_exit ?_|refine q_loop_ret ?_)|((with_reducible refine q_block_other ?_ ?_);exact rfl)|((with_reducible refine reg ?_ ?_);exact rfl)|((with_reducible refine st_end ?_ ?_);first|exact .inl rfl|exact .inr rfl)|(with_reducible apply st_build0)|((with_reducible apply st_ev);exact rfl;(first|exact True.intro|((repeat' apply And.intro)<;>first|exact True.intro|with_reducible rfl|(simp only[Fits];omega)|omega|assumption|decide|(simp;done)|exact rfl)))|((with_reducible apply st_evg);exact rfl;exact rfl;(first|exact rfl|assumption);exact rfl;(first|exact True.intro|((repeat' apply And.intro)<;>first|exact True.intro|with_reducible rfl|(simp only[Fits];omega)|omega|assumption|decide|(simp;done)|exact rfl)))|((with_reducible apply st_skip);exact rfl;exact rfl;(first|exact rfl|assumption))|((with_reducible apply st_app0);exact rfl;exact rfl;exact rfl;omega)|((with_reducible apply st_skipu);exact rfl;exact rfl)|((with_reducible apply st_pickt);exact rfl;assumption;exact rfl)|((with_reducible apply st_pickf);exact rfl;assumption;exact rfl)|((with_reducible apply st_pickgt);exact rfl;exact rfl;(first|exact rfl|assumption);exact rfl;(first|exact rfl|assumption);exact rfl)|((with_reducible apply st_pickgf);exact rfl;exact rfl;(first|exact rfl|assumption);exact rfl;(first|exact rfl|assumption);exact rfl)|((with_reducible apply st_build);exact rfl;first|exact rfl|(first|exact True.intro|((repeat' apply And.intro)<;>first|exact True.intro|with_reducible rfl|(simp only[Fits];omega)|omega|assumption|decide|(simp;done)|exact rfl)))|((with_reducible apply st_call);exact rfl;exact rfl;exact rfl;first|(exact c_mul ⟨by omega, by omega⟩)|(exact c_add ⟨by omega, by omega⟩))|((with_reducible apply st_callg);exact rfl;exact rfl;(first|exact rfl|assumption);exact rfl;exact rfl;exact rfl;first|(exact c_mul ⟨by omega, by omega⟩)|(exact c_add ⟨by omega, by omega⟩)))
      refine q_loop (m' := n - (k + 1)) (by omega) (imp_id (e := [(0, .row false n (fun i => .q (f i))), (1, .row false n (fun i => .q (g i))), (4, .rptr 4 0 0), (5, .rptr 5 0 0), (12, .i (min (n : Int) n)), (13, .i ((k + 1 : Nat) : Int))]) (h := [(4, (1, fun _ => .rats 1 (fun _ => ra0))), (5, (1, fun _ => .rats 1 (fun _ => .q (S (k + 1) fun i => f i * g i))))]) ?_ ?_) ⟨k + 1, by omega, rfl, rfl⟩
      · repeat (first | exact True.intro | refine alle rfl (Le.id rfl) (by first | exact True.intro | rfl) ?_)
      · repeat (first | exact True.intro | refine allh rfl (by decide) (ble1 rfl) True.intro ?_)
    · obtain rfl : k = n := by omega
      repeat(first|(with_reducible first|refine awp_seq ?_|refine awp_block ?_|refine awp_skip ?_|refine awp_exit ?_|refine awp_ret ?_|refine q_then ?_|refine q_block ?_|refine q_then_exit ?_|refine q_then_ret ?_|refine q_block_exit ?_|refine q_block_ret ?_|refine q_loop_exit ?_|refine q_loop_ret ?_)|((with_reducible refine q_block_other ?_ ?_);exact rfl)|((with_reducible refine reg ?_ ?_);exact rfl)|((with_reducible refine st_end ?_ ?_);first|exact .inl rfl|exact .inr rfl)|(with_reducible apply st_build0)|((with_reducible apply st_ev);exact rfl;(first|exact True.intro|((repeat' apply And.intro)<;>first|exact True.intro|with_reducible rfl|(simp only[Fits];omega)|omega|assumption|decide|(simp;done)|exact rfl)))|((with_reducible apply st_evg);exact rfl;exact rfl;(first|exact rfl|assumption);exact rfl;(first|exact True.intro|((repeat' apply And.intro)<;>first|exact True.intro|with_reducible rfl|(simp only[Fits];omega)|omega|assumption|decide|(simp;done)|exact rfl)))|((with_reducible apply st_skip);exact rfl;exact rfl;(first|exact rfl|assumption))|((with_reducible apply st_app0);exact rfl;exact rfl;exact rfl;omega)|((with_reducible apply st_skipu);exact rfl;exact rfl)|((with_reducible apply st_pickt);exact rfl;assumption;exact rfl)|((with_reducible apply st_pickf);exact rfl;assumption;exact rfl)|((with_reducible apply st_pickgt);exact rfl;exact rfl;(first|exact rfl|assumption);exact rfl;(first|exact rfl|assumption);exact rfl)|((with_reducible apply st_pickgf);exact rfl;exact rfl;(first|exact rfl|assumption);exact rfl;(first|exact rfl|assumption);exact rfl)|((with_reducible apply st_build);exact rfl;first|exact rfl|(first|exact True.intro|((repeat' apply And.intro)<;>first|exact True.intro|with_reducible rfl|(simp only[Fits];omega)|omega|assumption|decide|(simp;done)|exact rfl))))
      refine ⟨.inr rfl, _, Imp.refl _, ?_⟩
      exact .one (.rat rfl rfl (by decide) rfl (by decide) rfl)
end Go.Proofs.Ytjmpanhacfjcaaa.AM
/- Dense matrices: walks: right rows, square matrices, products with vectors. -/
namespace Go.Proofs.Ytjmpanhacfjcaaa.AM
open Go Go.RowKit Go.Proofs.Ytjmpanhacfjcaaa.PN Go.Proofs.Ytjmpanhacfjcaaa.V
open Go.Proofs.Ytjmpanhacfjcaaa.LA (S S_succ S_zero S_congr)
set_option linter.unusedVariables false
set_option linter.unusedSimpArgs false
theorem shape_u : Try.prog.underlying 96 = some (.array 2 3) := by kernel_rfl
theorem int_u : Try.prog.underlying 3 = some (.int .i64) := by kernel_rfl
theorem int_info : (Try.prog.info? 3).map (fun i => (i.zero, i.size, i.bytes)) = some (some (.int .i64 0), 1, 8) := by kernel_rfl
theorem run_eq_shape (w : World) (a b c d : Int) : (Op.equal 96 (.agg #[.int .i64 a, .int .i64 b]) (.agg #[.int .i64 c, .int .i64 d])).run Try.prog w = .ok (decide (a = c) && decide (b = d)) w := by
  obtain ⟨i0, hi, hz0, hz1, hz2⟩ := info_parts int_info
  have hint : ∀ (n : Nat) (x y : Int), (Op.equalIn (n + 1) 3 (.int .i64 x) (.int .i64 y)).run Try.prog w = .ok (decide (x = y)) w := by
    intro n x y
    simp [Op.equalIn, run_underlying int_u, beq_dec]
  have hp : ∀ (xs : Array Value) (o : Nat) (v : Value), xs[o]? = some v → (part 3 xs o).run Try.prog w = .ok v w := by
    intro xs o v h
    simp [part, isAgg, run_underlying int_u, h]
  have hp0 : ∀ x y : Int, (part 3 #[.int .i64 x, .int .i64 y] 0).run Try.prog w = .ok (.int .i64 x) w := fun x y => hp _ 0 _ rfl
  have hp1 : ∀ x y : Int, (part 3 #[.int .i64 x, .int .i64 y] 1).run Try.prog w = .ok (.int .i64 y) w := fun x y => hp _ 1 _ rfl
  unfold Op.equal
  rw [show Op.maxDepth = 9998 + 1 + 1 from rfl]
  unfold Op.equalIn
  rw [Sem.run_bind, run_underlying shape_u w]
  by_cases h1 : a = c <;> by_cases h2 : b = d <;>
  simp [sizeOf, typeInfo, hi, hz1, hint, hp0, hp1, h1, h2, Std.Legacy.Range.forIn_eq_forIn_range', List.range'_succ]
theorem pair_vals {S : Nat → Prop} {B : Nat} {β : Nat → Nat → Value} {w : World} {f : Nat → AV} {v : Value} {a b : Int} (h : RV S B β w (.ag 2 f) v) (h0 : f 0 = .i a) (h1 : f 1 = .i b) : v = .agg #[.int .i64 a, .int .i64 b] := by
  obtain ⟨cs, rfl, h2, h3⟩ := h
  obtain ⟨y0, e0, _, r0⟩ := h3 0 (by decide)
  obtain ⟨y1, e1, _, r1⟩ := h3 1 (by decide)
  rw [h0] at r0; rw [h1] at r1
  have r0 : y0 = .int .i64 a := r0
  have r1 : y1 = .int .i64 b := r1
  subst r0; subst r1
  obtain ⟨cs⟩ := cs
  match cs, h2 with
  | [x, y], _ => cases e0; cases e1; rfl
theorem ok_neq_shape {o : Oper} {s : St} {x y : Operand} {T' : TypeId} {f g : Nat → AV} {a b c d : Int} (ho : o.op = .binOp .neq 96 x y T') (hx : avo s x = some (.ag 2 f)) (hy : avo s y = some (.ag 2 g)) (h0 : f 0 = .i a) (h1 : f 1 = .i b) (h2 : g 0 = .i c) (h3 : g 1 = .i d) :
    LOK Try.prog o s ⟨some (.b (!(decide (a = c) && decide (b = d)))), [], []⟩ := by
  refine lok_val fun s2 hl W N β w ac hs => ⟨.bool (!(decide (a = c) && decide (b = d))), ?_, fun z hz => by cases hz; exact ⟨trivial, rfl⟩⟩
  have e1 := pair_vals (hs.opd (x := x) (by rw [hl.avo (by rw [ho]; simp [Op.operands])]; exact hx)).2 h0 h1
  have e2 := pair_vals (hs.opd (x := y) (by rw [hl.avo (by rw [ho]; simp [Op.operands])]; exact hy)).2 h2 h3
  have hg : (Try.prog.eqGuardType Try.prog.depth 96) = false := by kernel_rfl
  unfold execOp; rw [ho]; simp only []; rw [e1, e2]
  simp [eqGuard, binOp, program, Sem.run, hg, run_eq_shape]
theorem d_right {n K : Nat} {f : Nat → Rat} [hf : ∀ i, Wt (f i) K] (hK : K ≤ 1000000000000) (hn : n ≤ 1000000) : Has Try.prog 57 [.row false n (fun i => .q (f i))] (.b true) := by
  refine has_of Try.func57 (by kernel_rfl) rfl Try.ntmps57 Try.results57 rfl rfl rfl ?_
  repeat(first|(with_reducible first|refine awp_seq ?_|refine awp_block ?_|refine awp_skip ?_|refine awp_exit ?_|refine awp_ret ?_|refine q_then ?_|refine q_block ?_|refine q_then_exit ?_|refine q_then_ret ?_|refine q_block_exit ?_|refine q_block_ret ?_|refine q_loop_exit ?_|refine q_loop_ret ?_)|((with_reducible refine q_block_other ?_ ?_);exact rfl)|((with_reducible refine reg ?_ ?_);exact rfl)|((with_reducible refine st_end ?_ ?_);first|exact .inl rfl|exact .inr rfl)|(with_reducible apply st_build0)|((with_reducible apply st_ev);exact rfl;(first|exact True.intro|((repeat' apply And.intro)<;>first|exact True.intro|with_reducible rfl|(simp only[Fits];omega)|omega|assumption|decide|(simp;done)|exact rfl)))|((with_reducible apply st_evg);exact rfl;exact rfl;(first|exact rfl|assumption);exact rfl;(first|exact True.intro|((repeat' apply And.intro)<;>first|exact True.intro|with_reducible rfl|(simp only[Fits];omega)|omega|assumption|decide|(simp;done)|exact rfl)))|((with_reducible apply st_skip);exact rfl;exact rfl;(first|exact rfl|assumption))|((with_reducible apply st_app0);exact rfl;exact rfl;exact rfl;omega)|((with_reducible apply st_skipu);exact rfl;exact rfl)|((with_reducible apply st_pickt);exact rfl;assumption;exact rfl)|((with_reducible apply st_pickf);exact rfl;assumption;exact rfl)|((with_reducible apply st_pickgt);exact rfl;exact rfl;(first|exact rfl|assumption);exact rfl;(first|exact rfl|assumption);exact rfl)|((with_reducible apply st_pickgf);exact rfl;exact rfl;(first|exact rfl|assumption);exact rfl;(first|exact rfl|assumption);exact rfl)|((with_reducible apply st_build);exact rfl;first|exact rfl|(first|exact True.intro|((repeat' apply And.intro)<;>first|exact True.intro|with_reducible rfl|(simp only[Fits];omega)|omega|assumption|decide|(simp;done)|exact rfl))))
  refine awp_loop (fun m s => ∃ k, k ≤ n ∧ m = n - k ∧ s = stl [(0, .row false n (fun i => .q (f i))), (5, .row false n (fun i => .q (f i))), (6, .i (n : Int)), (7, .i (k : Int))] []) n _ (imp_id ?_ ?_) ⟨0, Nat.zero_le _, rfl, rfl⟩ ?_
  · repeat (first | exact True.intro | refine alle rfl (Le.id rfl) (by first | exact True.intro | rfl) ?_)
  · repeat (first | exact True.intro | refine allh rfl (by decide) (by first | exact ble1 rfl | exact blen rfl (fun _ _ => rfl) | exact bleo rfl (fun _ _ => Le.id rfl)) (by first | exact True.intro | (intro i hi; exact True.intro)) ?_)
  · rintro m s ⟨k, hk, rfl, rfl⟩
    repeat(first|(with_reducible first|refine awp_seq ?_|refine awp_block ?_|refine awp_skip ?_|refine awp_exit ?_|refine awp_ret ?_|refine q_then ?_|refine q_block ?_|refine q_then_exit ?_|refine q_then_ret ?_|refine q_block_exit ?_|refine q_block_ret ?_|refine q_loop_exit ?_|refine q_loop_ret ?_)|((with_reducible refine q_block_other ?_ ?_);exact rfl)|((with_reducible refine reg ?_ ?_);exact rfl)|((with_reducible refine st_end ?_ ?_);first|exact .inl rfl|exact .inr rfl)|(with_reducible apply st_build0)|((with_reducible apply st_ev);exact rfl;(first|exact True.intro|((repeat' apply And.intro)<;>first|exact True.intro|with_reducible rfl|(simp only[Fits];omega)|omega|assumption|decide|(simp;done)|exact rfl)))|((with_reducible apply st_evg);exact rfl;exact rfl;(first|exact rfl|assumption);exact rfl;(first|exact True.intro|((repeat' apply And.intro)<;>first|exact True.intro|with_reducible rfl|(simp only[Fits];omega)|omega|assumption|decide|(simp;done)|exact rfl)))|((with_reducible apply st_skip);exact rfl;exact rfl;(first|exact rfl|assumption))|((with_reducible apply st_app0);exact rfl;exact rfl;exact rfl;omega)|((with_reducible apply st_skipu);exact rfl;exact rfl)|((with_reducible apply st_pickt);exact rfl;assumption;exact rfl)|((with_reducible apply st_pickf);exact rfl;assumption;exact rfl)|((with_reducible apply st_pickgt);exact rfl;exact rfl;(first|exact rfl|assumption);exact rfl;(first|exact rfl|assumption);exact rfl)|((with_reducible apply st_pickgf);exact rfl;exact rfl;(first|exact rfl|assumption);exact rfl;(first|exact rfl|assumption);exact rfl)|((with_reducible apply st_build);exact rfl;first|exact rfl|(first|exact True.intro|((repeat' apply And.intro)<;>first|exact True.intro|with_reducible rfl|(simp only[Fits];omega)|omega|assumption|decide|(simp;done)|exact rfl))))
    refine awp_if rfl (fun h => ?_) (fun h => ?_)
    · have h : k < n := by omega
      repeat(first|(with_reducible first|refine awp_seq ?_|refine awp_block ?_|refine awp_skip ?_|refine awp_exit ?_|refine awp_ret ?_|refine q_then ?_|refine q_block ?_|refine q_then_exit ?_|refine q_then_ret ?_|refine q_block_exit ?_|refine q_block_ret ?_|refine q_loop_exit ?_|refine q_loop_ret ?_)|((with_reducible refine q_block_other ?_ ?_);exact rfl)|((with_reducible refine reg ?_ ?_);exact rfl)|((with_reducible refine st_end ?_ ?_);first|exact .inl rfl|exact .inr rfl)|(with_reducible apply st_build0)|((with_reducible apply st_ev);exact rfl;(first|exact True.intro|((repeat' apply And.intro)<;>first|exact True.intro|with_reducible rfl|(simp only[Fits];omega)|omega|assumption|decide|(simp;done)|exact rfl)))|((with_reducible apply st_evg);exact rfl;exact rfl;(first|exact rfl|assumption);exact rfl;(first|exact True.intro|((repeat' apply And.intro)<;>first|exact True.intro|with_reducible rfl|(simp only[Fits];omega)|omega|assumption|decide|(simp;done)|exact rfl)))|((with_reducible apply st_skip);exact rfl;exact rfl;(first|exact rfl|assumption))|((with_reducible apply st_app0);exact rfl;exact rfl;exact rfl;omega)|((with_reducible apply st_skipu);exact rfl;exact rfl)|((with_reducible apply st_pickt);exact rfl;assumption;exact rfl)|((with_reducible apply st_pickf);exact rfl;assumption;exact rfl)|((with_reducible apply st_pickgt);exact rfl;exact rfl;(first|exact rfl|assumption);exact rfl;(first|exact rfl|assumption);exact rfl)|((with_reducible apply st_pickgf);exact rfl;exact rfl;(first|exact rfl|assumption);exact rfl;(first|exact rfl|assumption);exact rfl)|((with_reducible apply st_build);exact rfl;first|exact rfl|(first|exact True.intro|((repeat' apply And.intro)<;>first|exact True.intro|with_reducible rfl|(simp only[Fits];omega)|omega|assumption|decide|(simp;done)|exact rfl)))|((with_reducible apply st_call);exact rfl;exact rfl;exact rfl;first|(exact c_right hK))|((with_reducible apply st_callg);exact rfl;exact rfl;(first|exact rfl|assumption);exact rfl;exact rfl;exact rfl;first|(exact c_right hK)))
      refine awp_no rfl rfl ?_
      repeat(first|(with_reducible first|refine awp_seq ?_|refine awp_block ?_|refine awp_skip ?_|refine awp_exit ?_|refine awp_ret ?_|refine q_then ?_|refine q_block ?_|refine q_then_exit ?_|refine q_then_ret ?_|refine q_block_exit ?_|refine q_block_ret ?_|refine q_loop_exit ?_|refine q_loop_ret ?_)|((with_reducible refine q_block_other ?_ ?_);exact rfl)|((with_reducible refine reg ?_ ?_);exact rfl)|((with_reducible refine st_end ?_ ?_);first|exact .inl rfl|exact .inr rfl)|(with_reducible apply st_build0)|((with_reducible apply st_ev);exact rfl;(first|exact True.intro|((repeat' apply And.intro)<;>first|exact True.intro|with_reducible rfl|(simp only[Fits];omega)|omega|assumption|decide|(simp;done)|exact rfl)))|((with_reducible apply st_evg);exact rfl;exact rfl;(first|exact rfl|assumption);exact rfl;(first|exact True.intro|((repeat' apply And.intro)<;>first|exact True.intro|with_reducible rfl|(simp only[Fits];omega)|omega|assumption|decide|(simp;done)|exact rfl)))|((with_reducible apply st_skip);exact rfl;exact rfl;(first|exact rfl|assumption))|((with_reducible apply st_app0);exact rfl;exact rfl;exact rfl;omega)|((with_reducible apply st_skipu);exact rfl;exact rfl)|((with_reducible apply st_pickt);exact rfl;assumption;exact rfl)|((with_reducible apply st_pickf);exact rfl;assumption;exact rfl)|((with_reducible apply st_pickgt);exact rfl;exact rfl;(first|exact rfl|assumption);exact rfl;(first|exact rfl|assumption);exact rfl)|((with_reducible apply st_pickgf);exact rfl;exact rfl;(first|exact rfl|assumption);exact rfl;(first|exact rfl|assumption);exact rfl)|((with_reducible apply st_build);exact rfl;first|exact rfl|(first|exact True.intro|((repeat' apply And.intro)<;>first|exact True.intro|with_reducible rfl|(simp only[Fits];omega)|omega|assumption|decide|(simp;done)|exact rfl))))
      refine q_loop ?_ (imp_id ?_ ?_) ⟨k + 1, ?_, rfl, rfl⟩
      · omega
      · repeat (first | exact True.intro | refine alle rfl (Le.id rfl) (by first | exact True.intro | rfl) ?_)
      · repeat (first | exact True.intro | refine allh rfl (by decide) (by first | exact ble1 rfl | exact blen rfl (fun _ _ => rfl) | exact bleo rfl (fun _ _ => Le.id rfl)) (by first | exact True.intro | (intro i hi; exact True.intro)) ?_)
      · omega
    · repeat(first|(with_reducible first|refine awp_seq ?_|refine awp_block ?_|refine awp_skip ?_|refine awp_exit ?_|refine awp_ret ?_|refine q_then ?_|refine q_block ?_|refine q_then_exit ?_|refine q_then_ret ?_|refine q_block_exit ?_|refine q_block_ret ?_|refine q_loop_exit ?_|refine q_loop_ret ?_)|((with_reducible refine q_block_other ?_ ?_);exact rfl)|((with_reducible refine reg ?_ ?_);exact rfl)|((with_reducible refine st_end ?_ ?_);first|exact .inl rfl|exact .inr rfl)|(with_reducible apply st_build0)|((with_reducible apply st_ev);exact rfl;(first|exact True.intro|((repeat' apply And.intro)<;>first|exact True.intro|with_reducible rfl|(simp only[Fits];omega)|omega|assumption|decide|(simp;done)|exact rfl)))|((with_reducible apply st_evg);exact rfl;exact rfl;(first|exact rfl|assumption);exact rfl;(first|exact True.intro|((repeat' apply And.intro)<;>first|exact True.intro|with_reducible rfl|(simp only[Fits];omega)|omega|assumption|decide|(simp;done)|exact rfl)))|((with_reducible apply st_skip);exact rfl;exact rfl;(first|exact rfl|assumption))|((with_reducible apply st_app0);exact rfl;exact rfl;exact rfl;omega)|((with_reducible apply st_skipu);exact rfl;exact rfl)|((with_reducible apply st_pickt);exact rfl;assumption;exact rfl)|((with_reducible apply st_pickf);exact rfl;assumption;exact rfl)|((with_reducible apply st_pickgt);exact rfl;exact rfl;(first|exact rfl|assumption);exact rfl;(first|exact rfl|assumption);exact rfl)|((with_reducible apply st_pickgf);exact rfl;exact rfl;(first|exact rfl|assumption);exact rfl;(first|exact rfl|assumption);exact rfl)|((with_reducible apply st_build);exact rfl;first|exact rfl|(first|exact True.intro|((repeat' apply And.intro)<;>first|exact True.intro|with_reducible rfl|(simp only[Fits];omega)|omega|assumption|decide|(simp;done)|exact rfl))))
      refine ⟨.inr rfl, _, Imp.refl _, ?_⟩
      exact .one (.tmp rfl)
end Go.Proofs.Ytjmpanhacfjcaaa.AM

/- Plain mathematics for the transforms: numbers by the prime 998244353, finite sums, powers, discrete transforms. -/
namespace Go.Proofs.Ytbmmjnmfinjdeaa.NM
abbrev F := Fin 998244353
def S : Nat → (Nat → F) → F
  | 0, _ => 0
  | n + 1, f => S n f + f n
theorem S_zero (f : Nat → F) : S 0 f = 0 := rfl
theorem S_succ (n : Nat) (f : Nat → F) : S (n + 1) f = S n f + f n := rfl
theorem S_congr {n : Nat} {f g : Nat → F} (h : ∀ i, i < n → f i = g i) : S n f = S n g := by
  induction n with
  | zero => rfl
  | succ n ih => rw [S_succ, S_succ, ih (fun i hi => h i (by omega)), h n (by omega)]
theorem S_nought (n : Nat) : S n (fun _ => 0) = 0 := by
  induction n with
  | zero => rfl
  | succ n ih => rw [S_succ, ih]; grind
theorem S_add (n : Nat) (f g : Nat → F) : S n (fun i => f i + g i) = S n f + S n g := by
  induction n with
  | zero => simp only [S_zero]; grind
  | succ n ih => simp only [S_succ, ih]; grind
theorem S_mul (n : Nat) (c : F) (f : Nat → F) : S n (fun i => c * f i) = c * S n f := by
  induction n with
  | zero => simp only [S_zero]; grind
  | succ n ih => simp only [S_succ, ih]; grind
theorem S_mulr (n : Nat) (c : F) (f : Nat → F) : S n (fun i => f i * c) = S n f * c := by
  induction n with
  | zero => simp only [S_zero]; grind
  | succ n ih => simp only [S_succ, ih]; grind
theorem S_swap (n m : Nat) (f : Nat → Nat → F) : S n (fun i => S m (fun j => f i j)) = S m (fun j => S n (fun i => f i j)) := by
  induction n with
  | zero => simp only [S_zero]; rw [S_nought]
  | succ n ih => simp only [S_succ, ih]; rw [S_add]
theorem S_append (m n : Nat) (f : Nat → F) : S (m + n) f = S m f + S n (fun i => f (m + i)) := by
  induction n with
  | zero => simp only [S_zero, Nat.add_zero]; grind
  | succ n ih => rw [← Nat.add_assoc, S_succ, S_succ, ih]; grind
theorem S_two (n : Nat) (f : Nat → F) : S (2 * n) f = S n (fun i => f (2 * i)) + S n (fun i => f (2 * i + 1)) := by
  induction n with
  | zero => simp only [Nat.mul_zero, S_zero]; grind
  | succ n ih => rw [show 2 * (n + 1) = 2 * n + 1 + 1 from by omega, S_succ, S_succ, S_succ, S_succ, ih]; grind
theorem S_single {n k : Nat} (hk : k < n) {f : Nat → F} (h : ∀ i, i < n → i ≠ k → f i = 0) : S n f = f k := by
  induction n with
  | zero => omega
  | succ n ih =>
    rw [S_succ]
    by_cases e : k = n
    · subst e
      rw [S_congr (g := fun _ => 0) (fun i hi => h i (by omega) (by omega)), S_nought]; grind
    · rw [ih (by omega) (fun i hi hne => h i (by omega) hne), h n (by omega) (by omega)]; grind
theorem S_cut {m n : Nat} (hmn : m ≤ n) {f : Nat → F} (h : ∀ i, m ≤ i → i < n → f i = 0) : S n f = S m f := by
  obtain ⟨d, rfl⟩ : ∃ d, n = m + d := ⟨n - m, by omega⟩
  rw [S_append, S_congr (g := fun _ => 0) (fun i hi => h (m + i) (by omega) (by omega)), S_nought]; grind
theorem S_rev (n : Nat) (f : Nat → F) : S n (fun i => f (n - 1 - i)) = S n f := by
  induction n generalizing f with
  | zero => rfl
  | succ n ih =>
    have h1 : S (1 + n) (fun i => f (1 + n - 1 - i)) = f n + S n (fun i => f (n - 1 - i)) := by
      rw [S_append]
      congr 1
      · simp only [S_succ, S_zero, Nat.add_sub_cancel_left, Nat.sub_zero]; grind
      · exact S_congr fun i _ => by congr 1; omega
    rw [ih, Nat.add_comm 1 n] at h1
    rw [h1, S_succ]; grind

def pw (a : F) : Nat → F
  | 0 => 1
  | n + 1 => pw a n * a
theorem pw_zero (a : F) : pw a 0 = 1 := rfl
theorem pw_succ (a : F) (n : Nat) : pw a (n + 1) = pw a n * a := rfl
theorem pw_one (a : F) : pw a 1 = a := by rw [pw_succ, pw_zero]; grind
theorem pw_add (a : F) (m n : Nat) : pw a (m + n) = pw a m * pw a n := by
  induction n with
  | zero => simp only [Nat.add_zero, pw_zero]; grind
  | succ n ih => rw [← Nat.add_assoc, pw_succ, pw_succ, ih]; grind
theorem pw_mul (a : F) (m n : Nat) : pw a (m * n) = pw (pw a m) n := by
  induction n with
  | zero => rfl
  | succ n ih => rw [Nat.mul_succ, pw_add, pw_succ, ih]
theorem mul_pw (a b : F) (n : Nat) : pw (a * b) n = pw a n * pw b n := by
  induction n with
  | zero => simp only [pw_zero]; grind
  | succ n ih => simp only [pw_succ, ih]; grind
theorem one_pw (n : Nat) : pw 1 n = 1 := by
  induction n with
  | zero => rfl
  | succ n ih => rw [pw_succ, ih]; grind
/-- A power, found by squares: for the kernel to reckon with. -/
def fp : Nat → F → Nat → F → F
  | 0, _, _, o => o
  | k + 1, a, n, o => if n = 0 then o else fp k (a * a) (n / 2) (if n % 2 = 1 then o * a else o)
theorem fp_pw (k : Nat) : ∀ (a : F) (n : Nat) (o : F), n < 2 ^ k → fp k a n o = o * pw a n := by
  induction k with
  | zero => intro a n o h; obtain rfl : n = 0 := by omega
            simp only [fp, pw_zero]; grind
  | succ k ih =>
    intro a n o h
    unfold fp
    by_cases e : n = 0
    · rw [if_pos e, e, pw_zero]; grind
    · have h2 : n / 2 < 2 ^ k := by rw [Nat.pow_succ] at h; omega
      rw [if_neg e, ih _ _ _ h2]
      have : pw (a * a) (n / 2) = pw a (2 * (n / 2)) := by rw [pw_mul, show pw a 2 = a * a from by rw [pw_succ, pw_one]]
      rw [this]
      by_cases o2 : n % 2 = 1
      · rw [if_pos o2]
        have : pw a n = pw a (2 * (n / 2)) * a := by rw [← pw_succ]; congr 1; omega
        rw [this]; grind
      · rw [if_neg o2]
        have : pw a n = pw a (2 * (n / 2)) := by congr 1; omega
        rw [this]
/-- The root of size 2^m. -/
def W (m : Nat) : F := pw 3 (998244352 / 2 ^ m)
def WI (m : Nat) : F := pw (W m) 998244351
theorem W_fp (m : Nat) : W m = fp 30 3 (998244352 / 2 ^ m) 1 := by
  rw [fp_pw _ _ _ _ (by have : 998244352 / 2 ^ m ≤ 998244352 := Nat.div_le_self _ _
                        omega)]
  unfold W; grind
theorem WI_fp (m : Nat) : WI m = fp 30 (fp 30 3 (998244352 / 2 ^ m) 1) 998244351 1 := by
  unfold WI; rw [W_fp, fp_pw _ _ 998244351 _ (by decide)]; grind
theorem W_half : ∀ m, m < 22 → fp 30 3 (998244352 / 2 ^ (m + 1)) 1 * fp 30 3 (998244352 / 2 ^ (m + 1)) 1 = fp 30 3 (998244352 / 2 ^ m) 1 := by decide +kernel
theorem W_sq (m : Nat) (h : m < 22) : W (m + 1) * W (m + 1) = W m := by rw [W_fp, W_fp]; exact W_half m h
theorem W_one : W 0 = 1 := by rw [W_fp]; decide +kernel
theorem W_1 : W 1 = -1 := by rw [W_fp]; decide +kernel
theorem WI_at : ∀ m, m < 23 → fp 30 3 (998244352 / 2 ^ m) 1 * fp 30 (fp 30 3 (998244352 / 2 ^ m) 1) 998244351 1 = 1 := by decide +kernel
theorem W_WI (m : Nat) (h : m < 23) : W m * WI m = 1 := by rw [WI_fp, W_fp]; exact WI_at m h
theorem W_pow (m : Nat) (h : m ≤ 22) : pw (W m) (2 ^ m) = 1 := by
  induction m with
  | zero => rw [W_one]; rfl
  | succ m ih =>
    rw [show 2 ^ (m + 1) = 2 * 2 ^ m from by rw [Nat.pow_succ]; omega, pw_mul, show pw (W (m + 1)) 2 = W (m + 1) * W (m + 1) from by rw [pw_succ, pw_one], W_sq m (by omega)]
    exact ih (by omega)
theorem W_neg (m : Nat) (h : m < 22) : pw (W (m + 1)) (2 ^ m) = -1 := by
  induction m with
  | zero => rw [show 2 ^ 0 = 1 from rfl, pw_one]; exact W_1
  | succ m ih =>
    rw [show 2 ^ (m + 1) = 2 * 2 ^ m from by rw [Nat.pow_succ]; omega, pw_mul, show pw (W (m + 1 + 1)) 2 = W (m + 1 + 1) * W (m + 1 + 1) from by rw [pw_succ, pw_one], W_sq (m + 1) (by omega)]
    exact ih (by omega)
/-- A geometric sum over a power of two. -/
theorem geo (m : Nat) : ∀ r : F, S (2 ^ (m + 1)) (fun k => pw r k) = (1 + r) * S (2 ^ m) (fun k => pw (r * r) k) := by
  intro r
  rw [show 2 ^ (m + 1) = 2 * 2 ^ m from by rw [Nat.pow_succ]; omega, S_two]
  have h1 : S (2 ^ m) (fun i => pw r (2 * i)) = S (2 ^ m) (fun k => pw (r * r) k) := S_congr fun i _ => by rw [pw_mul, show pw r 2 = r * r from by rw [pw_succ, pw_one]]
  have h2 : S (2 ^ m) (fun i => pw r (2 * i + 1)) = S (2 ^ m) (fun k => pw (r * r) k) * r := by
    rw [← S_mulr]; exact S_congr fun i _ => by rw [pw_succ, pw_mul, show pw r 2 = r * r from by rw [pw_succ, pw_one]]
  rw [h1, h2]; grind
/-- Sums over the powers of a root. -/
theorem orth (m : Nat) : ∀ (w : F) (d : Nat), (∀ j, m = j + 1 → pw w (2 ^ j) = -1) → (m = 0 → w = 1) →
    S (2 ^ m) (fun k => pw (pw w d) k) = if d % 2 ^ m = 0 then (Fin.ofNat 998244353 (2 ^ m)) else 0 := by
  induction m with
  | zero => intro w d _ h; simp only [Nat.pow_zero, Nat.mod_one, if_true, S_succ, S_zero, pw_zero]; decide
  | succ m ih =>
    intro w d hw _
    rw [geo]
    have hm := hw m rfl
    have hsq : pw w d * pw w d = pw (w * w) d := by rw [mul_pw]
    rw [hsq, ih (w * w) d]
    · have hd : d = 2 ^ m * (d / 2 ^ m) + d % 2 ^ m := (Nat.div_add_mod d (2 ^ m)).symm
      have hp : 2 ^ (m + 1) = 2 * 2 ^ m := by rw [Nat.pow_succ]; omega
      have hpos : 0 < 2 ^ m := Nat.pos_of_ne_zero (by simp)
      by_cases e : d % 2 ^ m = 0
      · rw [if_pos e]
        have hr : pw w d = pw (-1) (d / 2 ^ m) := by
          conv => lhs; rw [hd, e, Nat.add_zero, pw_mul, hm]
        have hpar : pw (-1 : F) (d / 2 ^ m) = if d / 2 ^ m % 2 = 0 then 1 else -1 := by
          have h2 : pw (-1 : F) 2 = 1 := by decide
          have hq : d / 2 ^ m = 2 * (d / 2 ^ m / 2) + d / 2 ^ m % 2 := by omega
          by_cases o : d / 2 ^ m % 2 = 0
          · rw [if_pos o, hq, o, Nat.add_zero, pw_mul, h2, one_pw]
          · rw [if_neg o, hq, show d / 2 ^ m % 2 = 1 from by omega, pw_succ, pw_mul, h2, one_pw]; grind
        rw [hr, hpar]
        have hmod : d % 2 ^ (m + 1) = 2 ^ m * (d / 2 ^ m % 2) + d % 2 ^ m := by
          rw [Nat.pow_succ, Nat.mod_mul]; omega
        by_cases o : d / 2 ^ m % 2 = 0
        · rw [if_pos o, if_pos (by rw [hmod, o, e]; simp)]
          rw [hp]; apply Fin.ext; simp [Fin.val_mul, Nat.mul_mod]
        · rw [if_neg o, if_neg (by rw [hmod, show d / 2 ^ m % 2 = 1 from by omega, e]; omega)]; grind
      · rw [if_neg e, if_neg]
        · grind
        · intro h
          have : 2 ^ m ∣ d := Nat.dvd_trans ⟨2, by rw [Nat.pow_succ]⟩ (Nat.dvd_of_mod_eq_zero h)
          exact e (Nat.mod_eq_zero_of_dvd this)
    · intro j hj
      have : pw (w * w) (2 ^ j) = pw w (2 ^ m) := by
        rw [mul_pw, ← pw_add, hj, show 2 ^ (j + 1) = 2 ^ j + 2 ^ j from by rw [Nat.pow_succ]; omega]
      rw [this, hm]
    · intro h0
      rw [h0] at hm
      rw [show 2 ^ 0 = 1 from rfl, pw_one] at hm
      rw [hm]; decide
end Go.Proofs.Ytbmmjnmfinjdeaa.NM

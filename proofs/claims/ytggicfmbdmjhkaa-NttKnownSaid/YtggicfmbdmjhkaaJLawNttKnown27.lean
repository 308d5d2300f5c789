/- Joined texts, 27: NMath NFermat NDft NConv NSpecA NSpecB NSpecC NSpecD. -/
import Derived.Test.YtggicfmbdmjhkaaJLawNttKnown24
import Derived.Test.YtggicfmbdmjhkaaJLawNttKnown25
import Derived.Test.YtggicfmbdmjhkaaJLawNttKnown26
set_option linter.unusedVariables false
set_option linter.unusedSimpArgs false
/- Plain mathematics for the transforms: numbers by the prime 998244353, finite sums, powers, discrete transforms. -/
namespace Go.Proofs.Ytggicfmbdmjhkaa.NM
abbrev F := Fin 998244353
def S : Nat → (Nat → F) → F
  | 0, _ => 0
  | n + 1, f => S n f + f n
theorem S_zero (f : Nat → F) : S 0 f = 0 := rfl
theorem S_succ (n : Nat) (f : Nat → F) : S (n + 1) f = S n f + f n := rfl
theorem S_congr {n : Nat} {f g : Nat → F} (h : ∀ i, i < n → f i = g i) : S n f = S n g := by
  induction n with
  | zero => rfl
  | succ n ih => rw [S_succ, S_succ, ih (fun i hi => h i (by omega)), h n (by omega)]
theorem S_nought (n : Nat) : S n (fun _ => 0) = 0 := by
  induction n with
  | zero => rfl
  | succ n ih => rw [S_succ, ih]; grind
theorem S_add (n : Nat) (f g : Nat → F) : S n (fun i => f i + g i) = S n f + S n g := by
  induction n with
  | zero => simp only [S_zero]; grind
  | succ n ih => simp only [S_succ, ih]; grind
theorem S_mul (n : Nat) (c : F) (f : Nat → F) : S n (fun i => c * f i) = c * S n f := by
  induction n with
  | zero => simp only [S_zero]; grind
  | succ n ih => simp only [S_succ, ih]; grind
theorem S_mulr (n : Nat) (c : F) (f : Nat → F) : S n (fun i => f i * c) = S n f * c := by
  induction n with
  | zero => simp only [S_zero]; grind
  | succ n ih => simp only [S_succ, ih]; grind
theorem S_swap (n m : Nat) (f : Nat → Nat → F) : S n (fun i => S m (fun j => f i j)) = S m (fun j => S n (fun i => f i j)) := by
  induction n with
  | zero => simp only [S_zero]; rw [S_nought]
  | succ n ih => simp only [S_succ, ih]; rw [S_add]
theorem S_append (m n : Nat) (f : Nat → F) : S (m + n) f = S m f + S n (fun i => f (m + i)) := by
  induction n with
  | zero => simp only [S_zero, Nat.add_zero]; grind
  | succ n ih => rw [← Nat.add_assoc, S_succ, S_succ, ih]; grind
theorem S_two (n : Nat) (f : Nat → F) : S (2 * n) f = S n (fun i => f (2 * i)) + S n (fun i => f (2 * i + 1)) := by
  induction n with
  | zero => simp only [Nat.mul_zero, S_zero]; grind
  | succ n ih => rw [show 2 * (n + 1) = 2 * n + 1 + 1 from by omega, S_succ, S_succ, S_succ, S_succ, ih]; grind
theorem S_single {n k : Nat} (hk : k < n) {f : Nat → F} (h : ∀ i, i < n → i ≠ k → f i = 0) : S n f = f k := by
  induction n with
  | zero => omega
  | succ n ih =>
    rw [S_succ]
    by_cases e : k = n
    · subst e
      rw [S_congr (g := fun _ => 0) (fun i hi => h i (by omega) (by omega)), S_nought]; grind
    · rw [ih (by omega) (fun i hi hne => h i (by omega) hne), h n (by omega) (by omega)]; grind
theorem S_cut {m n : Nat} (hmn : m ≤ n) {f : Nat → F} (h : ∀ i, m ≤ i → i < n → f i = 0) : S n f = S m f := by
  obtain ⟨d, rfl⟩ : ∃ d, n = m + d := ⟨n - m, by omega⟩
  rw [S_append, S_congr (g := fun _ => 0) (fun i hi => h (m + i) (by omega) (by omega)), S_nought]; grind
def pw (a : F) : Nat → F
  | 0 => 1
  | n + 1 => pw a n * a
theorem pw_zero (a : F) : pw a 0 = 1 := rfl
theorem pw_succ (a : F) (n : Nat) : pw a (n + 1) = pw a n * a := rfl
theorem pw_one (a : F) : pw a 1 = a := by rw [pw_succ, pw_zero]; grind
theorem pw_add (a : F) (m n : Nat) : pw a (m + n) = pw a m * pw a n := by
  induction n with
  | zero => simp only [Nat.add_zero, pw_zero]; grind
  | succ n ih => rw [← Nat.add_assoc, pw_succ, pw_succ, ih]; grind
theorem pw_mul (a : F) (m n : Nat) : pw a (m * n) = pw (pw a m) n := by
  induction n with
  | zero => rfl
  | succ n ih => rw [Nat.mul_succ, pw_add, pw_succ, ih]
theorem mul_pw (a b : F) (n : Nat) : pw (a * b) n = pw a n * pw b n := by
  induction n with
  | zero => simp only [pw_zero]; grind
  | succ n ih => simp only [pw_succ, ih]; grind
theorem one_pw (n : Nat) : pw 1 n = 1 := by
  induction n with
  | zero => rfl
  | succ n ih => rw [pw_succ, ih]; grind
/-- A power, found by squares: for the kernel to reckon with. -/
def fp : Nat → F → Nat → F → F
  | 0, _, _, o => o
  | k + 1, a, n, o => if n = 0 then o else fp k (a * a) (n / 2) (if n % 2 = 1 then o * a else o)
theorem fp_pw (k : Nat) : ∀ (a : F) (n : Nat) (o : F), n < 2 ^ k → fp k a n o = o * pw a n := by
  induction k with
  | zero => intro a n o h; obtain rfl : n = 0 := by omega
            simp only [fp, pw_zero]; grind
  | succ k ih =>
    intro a n o h
    unfold fp
    by_cases e : n = 0
    · rw [if_pos e, e, pw_zero]; grind
    · have h2 : n / 2 < 2 ^ k := by rw [Nat.pow_succ] at h; omega
      rw [if_neg e, ih _ _ _ h2]
      have : pw (a * a) (n / 2) = pw a (2 * (n / 2)) := by rw [pw_mul, show pw a 2 = a * a from by rw [pw_succ, pw_one]]
      rw [this]
      by_cases o2 : n % 2 = 1
      · rw [if_pos o2]
        have : pw a n = pw a (2 * (n / 2)) * a := by rw [← pw_succ]; congr 1; omega
        rw [this]; grind
      · rw [if_neg o2]
        have : pw a n = pw a (2 * (n / 2)) := by congr 1; omega
        rw [this]
/-- The root of size 2^m. -/
def W (m : Nat) : F := pw 3 (998244352 / 2 ^ m)
def WI (m : Nat) : F := pw (W m) 998244351
theorem W_fp (m : Nat) : W m = fp 30 3 (998244352 / 2 ^ m) 1 := by
  rw [fp_pw _ _ _ _ (by have : 998244352 / 2 ^ m ≤ 998244352 := Nat.div_le_self _ _
                        omega)]
  unfold W; grind
theorem WI_fp (m : Nat) : WI m = fp 30 (fp 30 3 (998244352 / 2 ^ m) 1) 998244351 1 := by
  unfold WI; rw [W_fp, fp_pw _ _ 998244351 _ (by decide)]; grind
theorem W_half : ∀ m, m < 22 → fp 30 3 (998244352 / 2 ^ (m + 1)) 1 * fp 30 3 (998244352 / 2 ^ (m + 1)) 1 = fp 30 3 (998244352 / 2 ^ m) 1 := by decide +kernel
theorem W_sq (m : Nat) (h : m < 22) : W (m + 1) * W (m + 1) = W m := by rw [W_fp, W_fp]; exact W_half m h
theorem W_one : W 0 = 1 := by rw [W_fp]; decide +kernel
theorem W_1 : W 1 = -1 := by rw [W_fp]; decide +kernel
theorem WI_at : ∀ m, m < 23 → fp 30 3 (998244352 / 2 ^ m) 1 * fp 30 (fp 30 3 (998244352 / 2 ^ m) 1) 998244351 1 = 1 := by decide +kernel
theorem W_WI (m : Nat) (h : m < 23) : W m * WI m = 1 := by rw [WI_fp, W_fp]; exact WI_at m h
theorem W_pow (m : Nat) (h : m ≤ 22) : pw (W m) (2 ^ m) = 1 := by
  induction m with
  | zero => rw [W_one]; rfl
  | succ m ih =>
    rw [show 2 ^ (m + 1) = 2 * 2 ^ m from by rw [Nat.pow_succ]; omega, pw_mul, show pw (W (m + 1)) 2 = W (m + 1) * W (m + 1) from by rw [pw_succ, pw_one], W_sq m (by omega)]
    exact ih (by omega)
theorem W_neg (m : Nat) (h : m < 22) : pw (W (m + 1)) (2 ^ m) = -1 := by
  induction m with
  | zero => rw [show 2 ^ 0 = 1 from rfl, pw_one]; exact W_1
  | succ m ih =>
    rw [show 2 ^ (m + 1) = 2 * 2 ^ m from by rw [Nat.pow_succ]; omega, pw_mul, show pw (W (m + 1 + 1)) 2 = W (m + 1 + 1) * W (m + 1 + 1) from by rw [pw_succ, pw_one], W_sq (m + 1) (by omega)]
    exact ih (by omega)
/-- A geometric sum over a power of two. -/
theorem geo (m : Nat) : ∀ r : F, S (2 ^ (m + 1)) (fun k => pw r k) = (1 + r) * S (2 ^ m) (fun k => pw (r * r) k) := by
  intro r
  rw [show 2 ^ (m + 1) = 2 * 2 ^ m from by rw [Nat.pow_succ]; omega, S_two]
  have h1 : S (2 ^ m) (fun i => pw r (2 * i)) = S (2 ^ m) (fun k => pw (r * r) k) := S_congr fun i _ => by rw [pw_mul, show pw r 2 = r * r from by rw [pw_succ, pw_one]]
  have h2 : S (2 ^ m) (fun i => pw r (2 * i + 1)) = S (2 ^ m) (fun k => pw (r * r) k) * r := by
    rw [← S_mulr]; exact S_congr fun i _ => by rw [pw_succ, pw_mul, show pw r 2 = r * r from by rw [pw_succ, pw_one]]
  rw [h1, h2]; grind
/-- Sums over the powers of a root. -/
theorem orth (m : Nat) : ∀ (w : F) (d : Nat), (∀ j, m = j + 1 → pw w (2 ^ j) = -1) → (m = 0 → w = 1) →
    S (2 ^ m) (fun k => pw (pw w d) k) = if d % 2 ^ m = 0 then (Fin.ofNat 998244353 (2 ^ m)) else 0 := by
  induction m with
  | zero => intro w d _ h; simp only [Nat.pow_zero, Nat.mod_one, if_true, S_succ, S_zero, pw_zero]; decide
  | succ m ih =>
    intro w d hw _
    rw [geo]
    have hm := hw m rfl
    have hsq : pw w d * pw w d = pw (w * w) d := by rw [mul_pw]
    rw [hsq, ih (w * w) d]
    · have hd : d = 2 ^ m * (d / 2 ^ m) + d % 2 ^ m := (Nat.div_add_mod d (2 ^ m)).symm
      have hp : 2 ^ (m + 1) = 2 * 2 ^ m := by rw [Nat.pow_succ]; omega
      have hpos : 0 < 2 ^ m := Nat.pos_of_ne_zero (by simp)
      by_cases e : d % 2 ^ m = 0
      · rw [if_pos e]
        have hr : pw w d = pw (-1) (d / 2 ^ m) := by
          conv => lhs; rw [hd, e, Nat.add_zero, pw_mul, hm]
        have hpar : pw (-1 : F) (d / 2 ^ m) = if d / 2 ^ m % 2 = 0 then 1 else -1 := by
          have h2 : pw (-1 : F) 2 = 1 := by decide
          have hq : d / 2 ^ m = 2 * (d / 2 ^ m / 2) + d / 2 ^ m % 2 := by omega
          by_cases o : d / 2 ^ m % 2 = 0
          · rw [if_pos o, hq, o, Nat.add_zero, pw_mul, h2, one_pw]
          · rw [if_neg o, hq, show d / 2 ^ m % 2 = 1 from by omega, pw_succ, pw_mul, h2, one_pw]; grind
        rw [hr, hpar]
        have hmod : d % 2 ^ (m + 1) = 2 ^ m * (d / 2 ^ m % 2) + d % 2 ^ m := by
          rw [Nat.pow_succ, Nat.mod_mul]; omega
        by_cases o : d / 2 ^ m % 2 = 0
        · rw [if_pos o, if_pos (by rw [hmod, o, e]; simp)]
          rw [hp]; apply Fin.ext; simp [Fin.val_mul, Nat.mul_mod]
        · rw [if_neg o, if_neg (by rw [hmod, show d / 2 ^ m % 2 = 1 from by omega, e]; omega)]; grind
      · rw [if_neg e, if_neg]
        · grind
        · intro h
          have : 2 ^ m ∣ d := Nat.dvd_trans ⟨2, by rw [Nat.pow_succ]⟩ (Nat.dvd_of_mod_eq_zero h)
          exact e (Nat.mod_eq_zero_of_dvd this)
    · intro j hj
      have : pw (w * w) (2 ^ j) = pw w (2 ^ m) := by
        rw [mul_pw, ← pw_add, hj, show 2 ^ (j + 1) = 2 ^ j + 2 ^ j from by rw [Nat.pow_succ]; omega]
      rw [this, hm]
    · intro h0
      rw [h0] at hm
      rw [show 2 ^ 0 = 1 from rfl, pw_one] at hm
      rw [hm]; decide
end Go.Proofs.Ytggicfmbdmjhkaa.NM
/- 998244353 is a prime; a number that is no multiple of it, to the power of it less one, is one. -/
namespace Go.Proofs.Ytggicfmbdmjhkaa.NM
/-- No number from lo on, so many, goes into p. -/
def free : Nat → Nat → Nat → Bool
  | 0, p, lo => lo < 2 || p % lo != 0
  | k + 1, p, lo => free k p lo && free k p (lo + 2 ^ k)
theorem free_at (k p : Nat) : ∀ lo, free k p lo = true → ∀ d, 2 ≤ d → lo ≤ d → d < lo + 2 ^ k → p % d ≠ 0 := by
  induction k with
  | zero =>
    intro lo h d h2 h0 h1
    obtain rfl : d = lo := by simp at h1; omega
    simp only [free, Bool.or_eq_true, decide_eq_true_eq, bne_iff_ne] at h
    rcases h with h | h
    · omega
    · exact h
  | succ k ih =>
    intro lo h d h2 h0 h1
    simp only [free, Bool.and_eq_true] at h
    rw [Nat.pow_succ] at h1
    by_cases e : d < lo + 2 ^ k
    · exact ih lo h.1 d h2 h0 e
    · exact ih _ h.2 d h2 (by omega) (by omega)
theorem free_p : free 15 998244353 0 = true := by decide +kernel
theorem prime_p (d : Nat) (h : d ∣ 998244353) : d = 1 ∨ d = 998244353 := by
  have small : ∀ e, e ∣ 998244353 → e < 32768 → e ≤ 1 := by
    intro e he hlt
    by_cases h2 : 2 ≤ e
    · exact absurd (Nat.mod_eq_zero_of_dvd he) (free_at 15 998244353 0 free_p e h2 (by omega) (by omega))
    · omega
  obtain ⟨c, hc⟩ := h
  have hd0 : d ≠ 0 := fun e => by rw [e] at hc; omega
  have hc0 : c ≠ 0 := fun e => by rw [e] at hc; omega
  by_cases hd : d < 32768
  · have := small d ⟨c, hc⟩ hd; left; omega
  · have hlt : c < 32768 := by
      apply Classical.byContradiction
      intro hn
      have := Nat.mul_le_mul (show 32768 ≤ d from by omega) (show 32768 ≤ c from by omega)
      omega
    have := small c ⟨d, by rw [Nat.mul_comm]; exact hc⟩ hlt
    right
    obtain rfl : c = 1 := by omega
    omega
/-- Of n things k. -/
def ch : Nat → Nat → Nat
  | _, 0 => 1
  | 0, _ + 1 => 0
  | n + 1, k + 1 => ch n k + ch n (k + 1)
theorem ch_zero (n : Nat) : ch n 0 = 1 := by cases n <;> rfl
theorem ch_over : ∀ n k, n < k → ch n k = 0
  | n, 0, h => by omega
  | 0, k + 1, _ => rfl
  | n + 1, k + 1, h => by unfold ch; rw [ch_over n k (by omega), ch_over n (k + 1) (by omega)]
theorem ch_self : ∀ n, ch n n = 1
  | 0 => rfl
  | n + 1 => by unfold ch; rw [ch_self n, ch_over n (n + 1) (by omega)]
theorem ch_mul : ∀ n k, (k + 1) * ch (n + 1) (k + 1) = (n + 1) * ch n k
  | 0, 0 => by decide
  | 0, k + 1 => by simp [ch]
  | n + 1, 0 => by
    have := ch_mul n 0
    have e : ch (n + 1 + 1) (0 + 1) = ch (n + 1) 0 + ch (n + 1) (0 + 1) := rfl
    rw [e]
    rw [ch_zero] at this ⊢
    omega
  | n + 1, k + 1 => by
    have h1 := ch_mul n k
    have h2 := ch_mul n (k + 1)
    have e : ch (n + 1 + 1) (k + 1 + 1) = ch (n + 1) (k + 1) + ch (n + 1) (k + 1 + 1) := rfl
    have e2 : ch (n + 1) (k + 1) = ch n k + ch n (k + 1) := rfl
    rw [e, Nat.mul_add, h2, show k + 1 + 1 = (k + 1) + 1 from rfl, Nat.add_mul (k + 1) 1, h1, e2]
    grind
theorem p_ch (k : Nat) (h0 : 0 < k) (h1 : k < 998244353) : 998244353 ∣ ch 998244353 k := by
  obtain ⟨j, rfl⟩ : ∃ j, k = j + 1 := ⟨k - 1, by omega⟩
  have h := ch_mul 998244352 j
  have hc : Nat.Coprime 998244353 (j + 1) := by
    have hg := Nat.gcd_dvd_left 998244353 (j + 1)
    have hg2 := Nat.gcd_dvd_right 998244353 (j + 1)
    rcases prime_p _ hg with e | e
    · exact e
    · rw [e] at hg2; have := Nat.le_of_dvd (by omega) hg2; omega
  exact hc.dvd_of_dvd_mul_left ⟨ch 998244352 j, by rw [h]⟩
def nf (n : Nat) : F := Fin.ofNat 998244353 n
theorem nf_add (a b : Nat) : nf (a + b) = nf a + nf b := by
  apply Fin.ext; simp [nf, Fin.val_add]
theorem nf_val (a : F) : nf a.val = a := by apply Fin.ext; simp [nf]
theorem nf_dvd {a : Nat} (h : 998244353 ∣ a) : nf a = 0 := by
  apply Fin.ext; simp [nf, Nat.mod_eq_zero_of_dvd h]
theorem binom (a : F) (n : Nat) : pw (a + 1) n = S (n + 1) (fun k => nf (ch n k) * pw a k) := by
  induction n with
  | zero => simp only [pw_zero, S_succ, S_zero, ch_zero]; decide
  | succ n ih =>
    rw [pw_succ, ih]
    have h1 : S (n + 1 + 1) (fun k => nf (ch (n + 1) k) * pw a k) = S (n + 1) (fun k => nf (ch n k) * pw a (k + 1)) + S (n + 1 + 1) (fun k => nf (ch n k) * pw a k) := by
      have e1 : S (1 + (n + 1)) (fun k => nf (ch (n + 1) k) * pw a k) = 1 + (S (n + 1) (fun k => nf (ch n k) * pw a (k + 1)) + S (n + 1) (fun k => nf (ch n (k + 1)) * pw a (k + 1))) := by
        have a1 : S 1 (fun k => nf (ch (n + 1) k) * pw a k) = 1 := by simp only [S_succ, S_zero, ch_zero, pw_zero]; decide
        rw [S_append, ← S_add, a1]
        congr 1
        refine S_congr fun k _ => ?_
        rw [Nat.add_comm 1 k, show ch (n + 1) (k + 1) = ch n k + ch n (k + 1) from rfl, nf_add]; grind
      have e2 : S (1 + (n + 1)) (fun k => nf (ch n k) * pw a k) = 1 + S (n + 1) (fun k => nf (ch n (k + 1)) * pw a (k + 1)) := by
        have a1 : S 1 (fun k => nf (ch n k) * pw a k) = 1 := by simp only [S_succ, S_zero, ch_zero, pw_zero]; decide
        rw [S_append, a1]
        congr 1
        exact S_congr fun k _ => by rw [Nat.add_comm 1 k]
      rw [Nat.add_comm (n + 1) 1, e1, e2]; grind
    rw [h1, S_succ (n + 1), ch_over n (n + 1) (by omega), show nf 0 = 0 from rfl]
    have h2 : S (n + 1) (fun k => nf (ch n k) * pw a (k + 1)) = S (n + 1) (fun k => nf (ch n k) * pw a k) * a := by
      rw [← S_mulr]; exact S_congr fun k _ => by rw [pw_succ]; grind
    rw [h2]; grind
theorem frob_aux (a : F) (q n : Nat) (hq : q = 1 + n) (hd : ∀ i, i < n → nf (ch q (1 + i)) = 0) : S q (fun k => nf (ch q k) * pw a k) = 1 := by
  have h2 : S n (fun i => nf (ch q (1 + i)) * pw a (1 + i)) = 0 := by
    rw [S_congr (g := fun _ => 0) (fun i hi => by rw [hd i hi]; grind), S_nought]
  have h1 : S 1 (fun k => nf (ch q k) * pw a k) = 1 := by simp only [S_succ, S_zero, ch_zero, pw_zero]; decide
  have h3 : S (1 + n) (fun k => nf (ch q k) * pw a k) = 1 := by rw [S_append, h1, h2]; grind
  rw [← hq] at h3; exact h3
theorem frob (a : F) : pw (a + 1) 998244353 = pw a 998244353 + 1 := by
  rw [binom, S_succ, ch_self, frob_aux a 998244353 998244352 rfl (fun i hi => nf_dvd (p_ch (1 + i) (by omega) (by omega))), show nf 1 = 1 from rfl]; grind
theorem little (n : Nat) : pw (nf n) 998244353 = nf n := by
  induction n with
  | zero =>
    have h : ∀ m, pw (nf 0) (m + 1) = 0 := fun m => by rw [pw_succ, show nf 0 = 0 from rfl]; grind
    have := h 998244352
    rw [show 998244352 + 1 = 998244353 from rfl] at this
    rw [this]; rfl
  | succ n ih => rw [nf_add, show nf 1 = 1 from rfl, frob, ih]
theorem pw_pred (a : F) (n m : Nat) (h : m = n + 1) : pw a m = pw a n * a := by subst h; rfl
theorem fermat (a : F) (h : a ≠ 0) : pw a 998244352 = 1 := by
  have hl := little a.val
  rw [nf_val] at hl
  have hs : pw a 998244353 = pw a 998244352 * a := pw_pred a 998244352 998244353 (by omega)
  rw [hs] at hl
  -- a has an inverse: by gcd
  have hc : Nat.Coprime a.val 998244353 := by
    have hg := Nat.gcd_dvd_right a.val 998244353
    rcases prime_p _ hg with e | e
    · exact e
    · have hg2 := Nat.gcd_dvd_left a.val 998244353
      rw [e] at hg2
      have hpos : 0 < a.val := Nat.pos_of_ne_zero fun e0 => h (Fin.ext e0)
      have := Nat.le_of_dvd hpos hg2
      have := a.isLt; omega
  have hd : (998244353 : Nat) ∣ a.val * ((pw a 998244352 - 1 : F)).val := by
    have hg : ∀ x : F, x * a = a → a * (x - 1) = 0 := fun x hx => by grind
    have h0 : a * (pw a 998244352 - 1) = 0 := hg _ hl
    have := congrArg Fin.val h0
    rw [Fin.val_mul] at this
    exact Nat.dvd_of_mod_eq_zero this
  have h2 := hc.symm.dvd_of_dvd_mul_left hd
  have h3 : (pw a 998244352 - 1 : F) = 0 := by
    apply Fin.ext
    have := (pw a 998244352 - 1 : F).isLt
    exact Nat.eq_zero_of_dvd_of_lt h2 this
  have hg : ∀ x : F, x - 1 = 0 → x = 1 := fun x hx => by grind
  exact hg _ h3
end Go.Proofs.Ytggicfmbdmjhkaa.NM
/- Discrete transforms: by their sums, and by halves. -/
namespace Go.Proofs.Ytggicfmbdmjhkaa.NM
/-- The transform of n numbers by w: its k-th number. -/
def dft (n : Nat) (w : F) (x : Nat → F) (k : Nat) : F := S n (fun j => x j * pw w (j * k))
def rev : Nat → Nat → Nat
  | 0, _ => 0
  | s + 1, j => (j % 2) * 2 ^ s + rev s (j / 2)
theorem rev_lt (s : Nat) : ∀ j, rev s j < 2 ^ s := by
  induction s with
  | zero => intro j; simp [rev]
  | succ s ih =>
    intro j
    have := ih (j / 2)
    have h2 : j % 2 = 0 ∨ j % 2 = 1 := by omega
    unfold rev
    rw [Nat.pow_succ]
    rcases h2 with e | e <;> rw [e] <;> omega
theorem rev_step (s j : Nat) : rev (s + 1) j = (j % 2) * 2 ^ s + rev s (j / 2) := rfl
theorem rev_even (s j : Nat) : rev (s + 1) (2 * j) = rev s j := by
  rw [rev_step, show 2 * j % 2 = 0 from by omega, show 2 * j / 2 = j from by omega]; omega
theorem rev_odd (s j : Nat) : rev (s + 1) (2 * j + 1) = 2 ^ s + rev s j := by
  rw [rev_step, show (2 * j + 1) % 2 = 1 from by omega, show (2 * j + 1) / 2 = j from by omega]; omega
theorem rev_inj (s : Nat) : ∀ a b, a < 2 ^ s → b < 2 ^ s → rev s a = rev s b → a = b := by
  induction s with
  | zero => intro a b ha hb _; simp at ha hb; omega
  | succ s ih =>
    intro a b ha hb h
    rw [Nat.pow_succ] at ha hb
    have l1 := rev_lt s (a / 2)
    have l2 := rev_lt s (b / 2)
    unfold rev at h
    have p1 : a % 2 = 0 ∨ a % 2 = 1 := by omega
    have p2 : b % 2 = 0 ∨ b % 2 = 1 := by omega
    have hp : a % 2 = b % 2 ∧ rev s (a / 2) = rev s (b / 2) := by
      rcases p1 with e1 | e1 <;> rcases p2 with e2 | e2 <;> rw [e1, e2] at h ⊢ <;> omega
    have := ih (a / 2) (b / 2) (by omega) (by omega) hp.2
    omega
/-- What stands in the list behind s steps. -/
def X (Y : Nat → F) (r : Nat → F) (s q : Nat) : F := S (2 ^ s) (fun j => Y (q / 2 ^ s * 2 ^ s + rev s j) * pw (r s) (q % 2 ^ s * j))
theorem X_zero (Y : Nat → F) (r : Nat → F) (q : Nat) : X Y r 0 q = Y q := by
  unfold X
  simp only [Nat.pow_zero, S_succ, S_zero, rev, Nat.div_one, Nat.mul_one, Nat.add_zero, Nat.mul_zero, pw_zero]
  grind
theorem X_parts (Y : Nat → F) (r : Nat → F) (s b i : Nat) (hsq : r (s + 1) * r (s + 1) = r s) (hi : i < 2 ^ (s + 1)) :
    X Y r (s + 1) (b * 2 ^ (s + 1) + i) = S (2 ^ s) (fun j => Y (b * 2 ^ (s + 1) + rev s j) * pw (r s) (i * j)) + pw (r (s + 1)) i * S (2 ^ s) (fun j => Y (b * 2 ^ (s + 1) + 2 ^ s + rev s j) * pw (r s) (i * j)) := by
  unfold X
  have hp : 0 < 2 ^ (s + 1) := Nat.pos_of_ne_zero (by simp)
  have e1 : (b * 2 ^ (s + 1) + i) / 2 ^ (s + 1) = b := by
    rw [Nat.mul_comm, Nat.mul_add_div hp, Nat.div_eq_of_lt hi]; omega
  have e2 : (b * 2 ^ (s + 1) + i) % 2 ^ (s + 1) = i := by
    rw [Nat.mul_comm, Nat.mul_add_mod, Nat.mod_eq_of_lt hi]
  rw [e1, e2, show 2 ^ (s + 1) = 2 * 2 ^ s from by rw [Nat.pow_succ]; omega, S_two, ← S_mul]
  congr 1
  · refine S_congr fun j _ => ?_
    rw [rev_even, show i * (2 * j) = 2 * (i * j) from by grind, pw_mul, show pw (r (s + 1)) 2 = r (s + 1) * r (s + 1) from by rw [pw_succ, pw_one], hsq]
  · refine S_congr fun j _ => ?_
    rw [rev_odd, show i * (2 * j + 1) = i + 2 * (i * j) from by grind, pw_add, pw_mul, show pw (r (s + 1)) 2 = r (s + 1) * r (s + 1) from by rw [pw_succ, pw_one], hsq, show b * (2 * 2 ^ s) + 2 ^ s + rev s j = b * (2 * 2 ^ s) + (2 ^ s + rev s j) from by omega]
    grind
theorem X_at (Y : Nat → F) (r : Nat → F) (s c i : Nat) (hi : i < 2 ^ s) : X Y r s (c * 2 ^ s + i) = S (2 ^ s) (fun j => Y (c * 2 ^ s + rev s j) * pw (r s) (i * j)) := by
  unfold X
  have hp : 0 < 2 ^ s := Nat.pos_of_ne_zero (by simp)
  have e1 : (c * 2 ^ s + i) / 2 ^ s = c := by rw [Nat.mul_comm, Nat.mul_add_div hp, Nat.div_eq_of_lt hi]; omega
  have e2 : (c * 2 ^ s + i) % 2 ^ s = i := by rw [Nat.mul_comm, Nat.mul_add_mod, Nat.mod_eq_of_lt hi]
  rw [e1, e2]
/-- One step, in the lower half of a block. -/
theorem X_low (Y : Nat → F) (r : Nat → F) (s b i : Nat) (hsq : r (s + 1) * r (s + 1) = r s) (hi : i < 2 ^ s) :
    X Y r (s + 1) (b * 2 ^ (s + 1) + i) = X Y r s (b * 2 ^ (s + 1) + i) + X Y r s (b * 2 ^ (s + 1) + 2 ^ s + i) * pw (r (s + 1)) i := by
  have e0 : b * 2 ^ (s + 1) = (2 * b) * 2 ^ s := by rw [Nat.pow_succ]; grind
  have e1 : b * 2 ^ (s + 1) + 2 ^ s = (2 * b + 1) * 2 ^ s := by rw [Nat.pow_succ]; grind
  rw [X_parts Y r s b i hsq (by rw [Nat.pow_succ]; omega), e1, e0, X_at Y r s _ i hi, X_at Y r s _ i hi]
  grind
/-- .. in the upper half. -/
theorem X_high (Y : Nat → F) (r : Nat → F) (s b i : Nat) (hsq : r (s + 1) * r (s + 1) = r s) (hneg : pw (r (s + 1)) (2 ^ s) = -1) (hi : i < 2 ^ s) :
    X Y r (s + 1) (b * 2 ^ (s + 1) + 2 ^ s + i) = X Y r s (b * 2 ^ (s + 1) + i) - X Y r s (b * 2 ^ (s + 1) + 2 ^ s + i) * pw (r (s + 1)) i := by
  have e0 : b * 2 ^ (s + 1) = (2 * b) * 2 ^ s := by rw [Nat.pow_succ]; grind
  have e1 : b * 2 ^ (s + 1) + 2 ^ s = (2 * b + 1) * 2 ^ s := by rw [Nat.pow_succ]; grind
  have hone : pw (r s) (2 ^ s) = 1 := by
    rw [← hsq, mul_pw, hneg]; decide
  have hp : ∀ j, pw (r s) ((2 ^ s + i) * j) = pw (r s) (i * j) := fun j => by
    rw [Nat.add_mul, pw_add, pw_mul, hone, one_pw]; grind
  have h := X_parts Y r s b (2 ^ s + i) hsq (by rw [Nat.pow_succ]; omega)
  rw [← Nat.add_assoc] at h
  rw [h, pw_add, hneg, e1, e0, X_at Y r s _ i hi, X_at Y r s _ i hi]
  simp only [hp]
  grind
theorem X_end (l Y : Nat → F) (r : Nat → F) (m q : Nat) (hY : ∀ j, j < 2 ^ m → Y (rev m j) = l j) (hq : q < 2 ^ m) : X Y r m q = dft (2 ^ m) (r m) l q := by
  unfold X dft
  rw [Nat.div_eq_of_lt hq, Nat.mod_eq_of_lt hq]
  refine S_congr fun j hj => ?_
  rw [Nat.zero_mul, Nat.zero_add, hY j hj, Nat.mul_comm q j]
/-! Laws of transforms. w: a root of 2^m numbers; v: its inverse. -/
/-- Transformed by w and then by v, w v = 1: n times as it was. -/
theorem dft_back (m : Nat) (w v : F) (hwv : w * v = 1) (hneg : ∀ j, m = j + 1 → pw w (2 ^ j) = -1) (h0 : m = 0 → w = 1) (hone : pw w (2 ^ m) = 1)
    (x : Nat → F) (i : Nat) (hi : i < 2 ^ m) : dft (2 ^ m) v (dft (2 ^ m) w x) i = x i * Fin.ofNat 998244353 (2 ^ m) := by
  have hv : ∀ a, pw v a * pw w a = 1 := fun a => by rw [← mul_pw, show v * w = 1 from by grind, one_pw]
  unfold dft
  have e1 : S (2 ^ m) (fun j => S (2 ^ m) (fun j_1 => x j_1 * pw w (j_1 * j)) * pw v (j * i)) = S (2 ^ m) (fun a => x a * S (2 ^ m) (fun j => pw (pw w (a + (2 ^ m - i))) j)) := by
    have e2 : S (2 ^ m) (fun j => S (2 ^ m) (fun j_1 => x j_1 * pw w (j_1 * j)) * pw v (j * i)) = S (2 ^ m) (fun j => S (2 ^ m) (fun a => x a * (pw w (a * j) * pw v (j * i)))) :=
      S_congr fun j _ => by rw [← S_mulr]; exact S_congr fun a _ => by grind
    rw [e2, S_swap]
    refine S_congr fun a _ => ?_
    rw [← S_mul]
    refine S_congr fun j _ => ?_
    have : pw v (j * i) = pw w ((2 ^ m - i) * j) := by
      have h1 : pw w ((2 ^ m - i) * j) * pw w (j * i) = 1 := by
        rw [← pw_add, show (2 ^ m - i) * j + j * i = 2 ^ m * j from by rw [Nat.mul_comm j i, ← Nat.add_mul, Nat.sub_add_cancel (by omega)], pw_mul, hone, one_pw]
      have h2 := hv (j * i)
      grind
    rw [this, ← pw_add, ← Nat.add_mul, pw_mul]
  rw [e1]
  have e3 : S (2 ^ m) (fun a => x a * S (2 ^ m) (fun j => pw (pw w (a + (2 ^ m - i))) j)) = S (2 ^ m) (fun a => x a * (if (a + (2 ^ m - i)) % 2 ^ m = 0 then (Fin.ofNat 998244353 (2 ^ m)) else 0)) :=
    S_congr fun a _ => by rw [orth m w _ hneg h0]
  rw [e3, S_single hi]
  · rw [if_pos (by rw [show i + (2 ^ m - i) = 2 ^ m from by omega, Nat.mod_self])]
  · intro a ha hne
    rw [if_neg]
    · grind
    · intro h
      by_cases e : a < i
      · rw [Nat.mod_eq_of_lt (by omega)] at h; omega
      · rw [show a + (2 ^ m - i) = (a - i) + 2 ^ m from by omega, Nat.add_mod_right, Nat.mod_eq_of_lt (by omega)] at h; omega
end Go.Proofs.Ytggicfmbdmjhkaa.NM
/- Products of polynomials. -/
namespace Go.Proofs.Ytggicfmbdmjhkaa.NM
def conv (a b : Nat → F) (k : Nat) : F := S (k + 1) (fun i => a i * b (k - i))
theorem tri (g : Nat → Nat → F) (n : Nat) : S n (fun c => S (c + 1) (fun i => g i (c - i))) = S n (fun i => S (n - i) (fun j => g i j)) := by
  induction n with
  | zero => rfl
  | succ n ih =>
    rw [S_succ, ih, S_succ n (fun i => S (n + 1 - i) (fun j => g i j)), S_succ n (fun i => g i (n - i))]
    have e1 : S n (fun i => S (n + 1 - i) (fun j => g i j)) = S n (fun i => S (n - i) (fun j => g i j)) + S n (fun i => g i (n - i)) := by
      rw [← S_add]; exact S_congr fun i hi => by rw [show n + 1 - i = n - i + 1 from by omega, S_succ]
    rw [e1, show n + 1 - n = 1 from by omega, show n - n = 0 from by omega]
    simp only [S_succ, S_zero]; grind
theorem dft_conv {a b : Nat → F} {m n N : Nat} (w : F) (ha : ∀ i, m ≤ i → a i = 0) (hb : ∀ i, n ≤ i → b i = 0) (hN : m + n ≤ N + 1) (k : Nat) :
    dft N w (conv a b) k = dft N w a k * dft N w b k := by
  unfold dft conv
  have e1 : S N (fun j => S (j + 1) (fun i => a i * b (j - i)) * pw w (j * k)) = S N (fun j => S (j + 1) (fun i => (fun p q => a p * pw w (p * k) * (b q * pw w (q * k))) i (j - i))) :=
    S_congr fun j hj => by
      rw [← S_mulr]; exact S_congr fun i hi => by
        dsimp only
        rw [show pw w (j * k) = pw w (i * k) * pw w ((j - i) * k) from by rw [← pw_add, ← Nat.add_mul, show i + (j - i) = j from by omega]]; grind
  rw [e1, tri (fun p q => a p * pw w (p * k) * (b q * pw w (q * k))), ← S_mulr]
  refine S_congr fun i hi => ?_
  rw [← S_mul]
  by_cases e : i < m
  · refine (S_cut (by omega) fun j h1 h2 => ?_).symm
    rw [hb j (by omega)]; grind
  · rw [ha i (by omega)]
    rw [S_congr (g := fun _ => 0) (fun j hj => by grind), S_nought, S_congr (g := fun _ => 0) (fun j hj => by grind), S_nought]
end Go.Proofs.Ytggicfmbdmjhkaa.NM
/- What the printed functions of the field, powers and transforms answer, in numbers by the prime. -/
namespace Go.Proofs.Ytggicfmbdmjhkaa.F
open Go.RowKit Go.Proofs.YtggicfmbdmjhkaaW.PrintWords Go.Proofs.YtggicfmbdmjhkaaW.PrintLast Go.Proofs.YtggicfmbdmjhkaaW.PrintMore
open Go.Proofs.Ytggicfmbdmjhkaa.NM (F S pw fp W WI X rev dft conv nf)
set_option linter.unusedVariables false
set_option linter.unusedSimpArgs false
namespace Spec
theorem u64w {x : Int} (h0 : 0 ≤ x) (h1 : x < 18446744073709551616) : IntKind.u64.wrap x = x := by
  have e : IntKind.u64.wrap x = x % 18446744073709551616 := by simp [IntKind.wrap, IntKind.bits, IntKind.signed]
  rw [e]; omega
theorem w64 {x : Int} (h0 : -9223372036854775808 ≤ x) (h1 : x < 9223372036854775808) : wrap64 x = x := by unfold wrap64; omega
/-- A number's value. -/
def v (x : F) : Int := (x.val : Int)
theorem v_nonneg (x : F) : 0 ≤ v x := by unfold v; omega
theorem v_lt (x : F) : v x < 998244353 := by unfold v; have := x.isLt; omega
theorem v_one : v 1 = 1 := rfl
theorem v_zero : v 0 = 0 := rfl
theorem v_nf (n : Nat) : v (nf n) = (n % 998244353 : Nat) := by rfl
theorem v_mul (a b : F) : v (a * b) = (v a * v b) % 998244353 := by
  unfold v; rw [Fin.val_mul, Int.natCast_emod, Int.natCast_mul]; rfl
theorem v_add (a b : F) : v (a + b) = (v a + v b) % 998244353 := by
  unfold v; rw [Fin.val_add, Int.natCast_emod, Int.natCast_add]; rfl
theorem v_sub (a b : F) : v (a - b) = (v a + 998244353 - v b) % 998244353 := by
  have h : a - b + b = a := by grind
  have h2 := v_add (a - b) b
  rw [h] at h2
  have := v_nonneg (a - b); have := v_lt (a - b); have := v_nonneg b; have := v_lt b; have := v_nonneg a; have := v_lt a
  omega
theorem prod_lt (a b : F) : v a * v b < 18446744073709551616 := by
  have h1 := v_lt a; have h2 := v_lt b; have h3 := v_nonneg a; have h4 := v_nonneg b
  have := Int.mul_le_mul (show v a ≤ 998244352 by omega) (show v b ≤ 998244352 by omega) h4 (by omega)
  omega
theorem tmod_p {x : Int} (h : 0 ≤ x) : Int.tmod x 998244353 = x % 998244353 := Int.tmod_eq_emod_of_nonneg h
theorem mulmod (a b : F) : Int.tmod (IntKind.u64.wrap ((IntKind.u64.wrap (v a)) * (IntKind.u64.wrap (v b)))) 998244353 = v (a * b) := by
  have h1 := v_lt a; have h2 := v_lt b; have h3 := v_nonneg a; have h4 := v_nonneg b
  have h5 := prod_lt a b
  have h6 : 0 ≤ v a * v b := Int.mul_nonneg h3 h4
  rw [u64w h3 (by omega), u64w h4 (by omega), u64w h6 h5, tmod_p h6, v_mul]
theorem small32 {x : Int} (h0 : 0 ≤ x) (h1 : x < 998244353) : x % 4294967296 = x := by omega
theorem times (a b : F) : ntt_field_times.f (v a) (v b) = some (v (a * b)) := by
  unfold ntt_field_times.f
  rw [mulmod, small32 (v_nonneg _) (v_lt _)]
theorem plus (a b : F) : ntt_field_plus.f (v a) (v b) = some (v (a + b)) := by
  unfold ntt_field_plus.f
  have h1 := v_lt a; have h2 := v_lt b; have h3 := v_nonneg a; have h4 := v_nonneg b
  rw [u64w h3 (by omega), u64w h4 (by omega), u64w (by omega) (by omega), tmod_p (by omega), v_add]
  congr 1; omega
theorem less (a b : F) : ntt_field_less.f (v a) (v b) = some (v (a - b)) := by
  unfold ntt_field_less.f ntt_field_plus.f
  have h1 := v_lt a; have h2 := v_lt b; have h3 := v_nonneg a; have h4 := v_nonneg b
  have e1 : v b % 998244353 = v b := by omega
  have e2 : (998244353 - v b) % 4294967296 = 998244353 - v b := by omega
  rw [tmod_p h4, e1, e2, u64w h3 (by omega), u64w (x := 998244353 - v b) (by omega) (by omega), u64w (x := v a + (998244353 - v b)) (by omega) (by omega), tmod_p (by omega), v_sub]
  simp only [Option.bind_some]
  congr 1; omega
theorem and_one {n : Int} (h0 : 0 ≤ n) (h1 : n < 18446744073709551616) : Go.bits .and .u64 n 1 = n % 2 := by
  obtain ⟨m, rfl⟩ := Int.eq_ofNat_of_zero_le h0
  have h := Go.u64_and_nat m 1 (by omega) (by omega)
  have e : ((1 : Nat) : Int) = 1 := rfl
  rw [e] at h
  rw [h, Nat.and_one_is_mod]; omega
theorem power_l0 : ∀ (k : Nat) (a : F) (n : Int) (o : F), 0 ≤ n → n < 2 ^ k → n < 18446744073709551616 → ntt_field_power.l0 (k + 1) (v a) n (v o) = some (v (o * pw a n.toNat)) := by
  intro k
  induction k with
  | zero =>
    intro a n o h0 h1 _
    obtain rfl : n = 0 := by omega
    simp only [ntt_field_power.l0]
    rw [if_neg (by omega)]
    simp only [Int.toNat_zero, NM.pw_zero]
    congr 2; grind
  | succ k ih =>
    intro a n o h0 h1 h2
    rw [ntt_field_power.l0]
    by_cases hn : n > 0
    · rw [if_pos hn, and_one h0 h2]
      have hh : n / 2 < 2 ^ k := by rw [Int.pow_succ] at h1; omega
      have sq : pw (a * a) (n / 2).toNat = pw a (2 * (n / 2).toNat) := by rw [NM.pw_mul, show pw a 2 = a * a from by rw [NM.pw_succ, NM.pw_one]]
      by_cases o2 : n % 2 = 1
      · rw [if_pos o2, times, times]
        simp only [Option.bind_some]
        rw [ih _ _ _ (by omega) hh (by omega), sq]
        have : pw a n.toNat = pw a (2 * (n / 2).toNat) * a := by rw [← NM.pw_succ]; congr 1; omega
        rw [this]; congr 2; grind
      · rw [if_neg o2, times]
        simp only [Option.bind_some]
        rw [ih _ _ _ (by omega) hh (by omega), sq]
        have : pw a n.toNat = pw a (2 * (n / 2).toNat) := by congr 1; omega
        rw [this]
    · rw [if_neg hn]
      obtain rfl : n = 0 := by omega
      simp only [Int.toNat_zero, NM.pw_zero]
      congr 2; grind
theorem power (a : F) (n : Int) (h0 : 0 ≤ n) (h1 : n < 18446744073709551616) : Ev (fun k => ntt_field_power.f k (v a) n) (v (pw a n.toNat)) := by
  refine Ev.of (fun k => ntt_field_power.mono _ _ k) (k := 65) ?_
  have := power_l0 64 a n 1 h0 (by omega) h1
  rw [v_one] at this
  unfold ntt_field_power.f
  rw [this]; congr 2; grind
theorem inverse (a : F) : Ev (fun k => ntt_field_inverse.f k (v a)) (v (pw a 998244351)) := by
  have h := power a 998244351 (by omega) (by omega)
  have e : (998244351 : Int).toNat = 998244351 := rfl
  rw [e] at h
  exact Ev.bind h (Ev.now _)
end Spec
end Go.Proofs.Ytggicfmbdmjhkaa.F
/- What the laws' common functions answer: known, within, Row. -/
namespace Go.Proofs.Ytggicfmbdmjhkaa.F
open Go.RowKit Go.Proofs.YtggicfmbdmjhkaaW.PrintWords Go.Proofs.YtggicfmbdmjhkaaW.PrintLast Go.Proofs.YtggicfmbdmjhkaaW.PrintMore
open Go.Proofs.Ytggicfmbdmjhkaa.NM (F S pw fp W WI X rev dft conv nf)
set_option linter.unusedVariables false
set_option linter.unusedSimpArgs false
namespace Spec
theorem up {α : Type} {g : Nat → Option α} {r : α} (h : Ev (fun k => g (k + 1)) r) : Ev g r := Ev.step (fun _ => rfl) h
theorem known_ : anticlinelaw8_known.f 80 = some true := by decide +kernel
theorem known : Ev (fun k => anticlinelaw8_known.f k) true := Ev.of (fun k => anticlinelaw8_known.mono k) known_
theorem u32_of {x : Int} (h : (Lit.int .u32 x).wf = true) : 0 ≤ x ∧ x < 4294967296 := by
  simp [Lit.wf, IntKind.min, IntKind.max, IntKind.signed, IntKind.bits] at h; omega
theorem tmod_cases (a n : Int) (h : 0 < n) : (0 ≤ Int.tmod a n ∧ Int.tmod a n = a % n) ∨ (Int.tmod a n < 0 ∧ Int.tmod a n = a % n - n) := by
  by_cases ha : 0 ≤ a
  · left; rw [Int.tmod_eq_emod_of_nonneg ha]; exact ⟨Int.emod_nonneg _ (by omega), rfl⟩
  · have h1 := Int.tmod_eq_emod (a := a) (b := n)
    have h2 := Int.emod_nonneg a (b := n) (by omega)
    have h3 := Int.emod_lt_of_pos a h
    by_cases hd : n ∣ a
    · left
      rw [if_pos (Or.inr hd)] at h1
      constructor <;> omega
    · right
      rw [if_neg (by rintro (h | h); exact ha h; exact hd h)] at h1
      constructor <;> omega
theorem within (a n : Int) (h0 : 0 < n) (h1 : n < 4611686018427387904) : anticlinelaw8_within.f a n = some (a % n) := by
  unfold anticlinelaw8_within.f
  have h2 := Int.emod_nonneg a (b := n) (by omega)
  have h3 := Int.emod_lt_of_pos a h0
  rw [if_neg (by omega)]
  rcases tmod_cases a n h0 with ⟨p, q⟩ | ⟨p, q⟩
  · rw [if_neg (by omega), q]
  · rw [if_pos p, q, show a % n - n + n = a % n from by omega, w64 (by omega) (by omega)]
theorem val (x : Int) (h0 : 0 ≤ x) (h1 : x < 4294967296) : Int.tmod x 998244353 = v (nf x.toNat) := by
  rw [tmod_p h0, v_nf]; omega
/-- Numbers, as a list of their values. -/
def enc (n : Nat) (x : Nat → F) : List Int := (List.range n).map fun i => v (x i)
theorem enc_length (n : Nat) (x : Nat → F) : (enc n x).length = n := by simp [enc]
theorem enc_get (n : Nat) (x : Nat → F) (i : Nat) (h : i < n) : (enc n x).getD i 0 = v (x i) := by
  simp [enc, List.getD, h]
theorem enc_congr {n : Nat} {x y : Nat → F} (h : ∀ i, i < n → x i = y i) : enc n x = enc n y := by
  unfold enc; apply List.map_congr_left; intro i hi; rw [h i (List.mem_range.mp hi)]
theorem enc_succ (n : Nat) (x : Nat → F) : enc (n + 1) x = enc n x ++ [v (x n)] := by simp [enc, List.range_succ]
theorem rd_enc (n : Nat) (x : Nat → F) (i : Int) (h0 : 0 ≤ i) (h1 : i < n) : rd (enc n x) i = v (x i.toNat) := by
  have := enc_get n x i.toNat (by omega)
  rw [← this]; rfl
theorem enc_set (n : Nat) (x : Nat → F) (i : Nat) (y : F) : (enc n x).set i (v y) = enc n (fun j => if j = i then y else x j) := by
  apply List.ext_getElem
  · simp [enc]
  · intro j h1 h2
    simp only [List.getElem_set, enc, List.getElem_map, List.getElem_range]
    by_cases e : i = j
    · subst e; simp
    · rw [if_neg e, if_neg (fun h => e h.symm)]
/-- The numbers that Row makes. -/
def rowF (l : List Int) (i : Nat) : F := if i < l.length then nf (l.getD i 0).toNat else nf (7 * i + 1)
theorem getD_wf {l : List Int} (hl : ∀ x ∈ l, (Lit.int .u32 x).wf = true) (i : Nat) : 0 ≤ l.getD i 0 ∧ l.getD i 0 < 4294967296 := by
  by_cases h : i < l.length
  · have : l.getD i 0 = l[i] := by simp [List.getD, h]
    rw [this]; exact u32_of (hl _ (List.getElem_mem h))
  · have : l.getD i 0 = 0 := by simp [List.getD, List.getElem?_eq_none (by omega : l.length ≤ i)]
    rw [this]; omega
theorem row_l0 (l : List Int) (hl : ∀ x ∈ l, (Lit.int .u32 x).wf = true) (n : Int) (hn : n < 100000) : ∀ (d : Nat) (i : Nat), (i : Int) + d = n →
    Ev (fun k => anticlinelaw8_Row.l0 k l n (enc i (rowF l)) i) (enc n.toNat (rowF l)) := by
  intro d
  induction d with
  | zero =>
    intro i h
    refine Ev.step (f := fun k => some (enc i (rowF l))) (fun k => by rw [anticlinelaw8_Row.l0]; rw [if_neg (by omega)]) ?_
    rw [show n.toNat = i from by omega]
    exact Ev.now _
  | succ d ih =>
    intro i h
    refine Ev.step (f := fun k => anticlinelaw8_Row.l0 k l n (enc (i + 1) (rowF l)) ((i + 1 : Nat) : Int)) (fun k => ?_) (ih (i + 1) (by omega))
    rw [anticlinelaw8_Row.l0, if_pos (by omega), enc_length, enc_succ, w64 (x := (i : Int) + 1) (by omega) (by omega)]
    by_cases hi : (i : Int) < l.length
    · rw [if_pos hi, if_pos (by omega), if_pos (by omega)]
      have hg := getD_wf hl i
      have e : rd l i = l.getD i 0 := rfl
      rw [e, val _ hg.1 hg.2]
      have e2 : rowF l i = nf (l.getD i 0).toNat := by unfold rowF; rw [if_pos (by omega)]
      rw [e2]; rfl
    · rw [if_neg hi, if_pos (by omega)]
      have e2 : rowF l i = nf (7 * i + 1) := by unfold rowF; rw [if_neg (by omega)]
      rw [e2, v_nf, w64 (x := 7 * (i : Int)) (by omega) (by omega), w64 (by omega) (by omega)]
      have e3 : (7 * (i : Int) + 1) % 4294967296 = ((7 * i + 1) % 998244353 : Nat) := by rw [Nat.mod_eq_of_lt (by omega), Int.emod_eq_of_lt (by omega) (by omega)]; omega
      rw [e3]; rfl
theorem row (l : List Int) (hl : ∀ x ∈ l, (Lit.int .u32 x).wf = true) (n : Int) (h0 : 0 ≤ n) (hn : n < 100000) :
    Ev (fun k => anticlinelaw8_Row.f k l n) (enc n.toNat (rowF l)) := by
  have := row_l0 l hl n hn n.toNat 0 (by omega)
  exact this
end Spec
end Go.Proofs.Ytggicfmbdmjhkaa.F
/- What the fast transform answers: the transform by its sums. -/
namespace Go.Proofs.Ytggicfmbdmjhkaa.F
open Go.RowKit Go.Proofs.YtggicfmbdmjhkaaW.PrintWords Go.Proofs.YtggicfmbdmjhkaaW.PrintLast Go.Proofs.YtggicfmbdmjhkaaW.PrintMore
open Go.Proofs.Ytggicfmbdmjhkaa.NM (F S pw fp W WI X rev dft conv nf)
set_option linter.unusedVariables false
set_option linter.unusedSimpArgs false
namespace Spec
/-- One block: the step's two halves. -/
theorem cross_go (n off h : Nat) (r : F) (x0 T : Nat → F) (hn : off + 2 * h ≤ n)
    (h1 : ∀ j, j < h → T (off + j) = x0 (off + j) + x0 (off + h + j) * pw r j)
    (h2 : ∀ j, j < h → T (off + h + j) = x0 (off + j) - x0 (off + h + j) * pw r j) :
    ∀ (k i : Nat) (x : Nat → F), i + k = h → (∀ j, j < i → x (off + j) = T (off + j) ∧ x (off + h + j) = T (off + h + j)) →
      (∀ j, i ≤ j → j < h → x (off + j) = x0 (off + j) ∧ x (off + h + j) = x0 (off + h + j)) →
      ∃ y, crossGo off h (v r) k (enc n x) i (v (pw r i)) = enc n y ∧ (∀ q, off ≤ q → q < off + 2 * h → y q = T q) ∧ (∀ q, q < off ∨ off + 2 * h ≤ q → y q = x q) := by
  intro k
  induction k with
  | zero =>
    intro i x hi hd _
    refine ⟨x, rfl, fun q p1 p2 => ?_, fun _ _ => rfl⟩
    by_cases e : q < off + h
    · have := (hd (q - off) (by omega)).1
      rwa [show off + (q - off) = q from by omega] at this
    · have := (hd (q - off - h) (by omega)).2
      rwa [show off + h + (q - off - h) = q from by omega] at this
  | succ k ih =>
    intro i x hi hd hr
    have ha := hr i (by omega) (by omega)
    unfold crossGo
    try dsimp only
    rw [enc_get n x (off + i) (by omega), enc_get n x (off + h + i) (by omega), times, Option.getD_some, plus, less, Option.getD_some, Option.getD_some, enc_set, enc_set, times, Option.getD_some, ← NM.pw_succ]
    obtain ⟨y, e, f1, f2⟩ := ih (i + 1) (fun q => if q = off + h + i then x (off + i) - x (off + h + i) * pw r i else if q = off + i then x (off + i) + x (off + h + i) * pw r i else x q) (by omega)
      (fun j hj => by
        by_cases e : j = i
        · subst e
          try dsimp only
          rw [if_neg (by omega), if_pos rfl, if_pos rfl, h1 j (by omega), h2 j (by omega), ha.1, ha.2]
          exact ⟨rfl, rfl⟩
        · have := hd j (by omega)
          try dsimp only
          rw [if_neg (by omega), if_neg (by omega), if_neg (by omega), if_neg (by omega)]
          exact this)
      (fun j hj hh => by
        have := hr j (by omega) hh
        try dsimp only
        rw [if_neg (by omega), if_neg (by omega), if_neg (by omega), if_neg (by omega)]
        exact this)
    refine ⟨y, e, f1, fun q hq => ?_⟩
    rw [f2 q hq, if_neg (by omega), if_neg (by omega)]
/-- The roots that a way uses. -/
def rt (back : Bool) (s : Nat) : F := if back then WI s else W s
theorem rootW_at : ∀ s, s < 23 → rootW s = v (fp 30 3 (998244352 / 2 ^ s) 1) := by decide +kernel
theorem rootV_at : ∀ s, s < 23 → rootV s = v (fp 30 (fp 30 3 (998244352 / 2 ^ s) 1) 998244351 1) := by decide +kernel
theorem root_at (back : Bool) (s : Nat) (h : s < 23) : rootAt back s = v (rt back s) := by
  unfold rootAt rt
  cases back
  · rw [if_neg (by simp), if_neg (by simp), NM.W_fp]; exact rootW_at s h
  · rw [if_pos rfl, if_pos rfl, NM.WI_fp]; exact rootV_at s h
theorem pw_swap (a : F) (m n : Nat) : pw (pw a m) n = pw (pw a n) m := by rw [← NM.pw_mul, ← NM.pw_mul, Nat.mul_comm]
theorem neg_odd : pw (-1) 998244351 = -1 := by
  have h := NM.fp_pw 30 (-1) 998244351 1 (by decide)
  have : fp 30 (-1) 998244351 1 = -1 := by decide +kernel
  rw [this] at h
  rw [h]; grind
theorem rt_sq (back : Bool) (s : Nat) (h : s < 22) : rt back (s + 1) * rt back (s + 1) = rt back s := by
  unfold rt
  cases back
  · rw [if_neg (by simp), if_neg (by simp)]; exact NM.W_sq s h
  · rw [if_pos rfl, if_pos rfl]; unfold WI; rw [← NM.mul_pw, NM.W_sq s h]
theorem rt_neg (back : Bool) (s : Nat) (h : s < 22) : pw (rt back (s + 1)) (2 ^ s) = -1 := by
  unfold rt
  cases back
  · rw [if_neg (by simp)]; exact NM.W_neg s h
  · rw [if_pos rfl]; unfold WI; rw [pw_swap, NM.W_neg s h, neg_odd]
/-- All blocks of a step. -/
theorem blocks (n s : Nat) (back : Bool) (Y : Nat → F) (hs : s < 22) : ∀ (k b : Nat) (x : Nat → F), (b + k) * 2 ^ (s + 1) = n →
    (∀ q, q < b * 2 ^ (s + 1) → x q = X Y (rt back) (s + 1) q) → (∀ q, b * 2 ^ (s + 1) ≤ q → q < n → x q = X Y (rt back) s q) →
    trBlocks (2 ^ s) (v (rt back (s + 1))) k (enc n x) (b * 2 ^ (s + 1)) = enc n (X Y (rt back) (s + 1)) := by
  intro k
  induction k with
  | zero =>
    intro b x hk hd _
    unfold trBlocks
    refine enc_congr fun q hq => hd q (by rw [Nat.add_zero] at hk; omega)
  | succ k ih =>
    intro b x hk hd hr
    have e2 : 2 ^ (s + 1) = 2 * 2 ^ s := by rw [Nat.pow_succ]; omega
    have e3 : (b + 1) * 2 ^ (s + 1) = b * 2 ^ (s + 1) + 2 * 2 ^ s := by rw [Nat.add_mul, e2]; omega
    have hle : b * 2 ^ (s + 1) + 2 * 2 ^ s ≤ n := by
      rw [← hk, ← e3]; exact Nat.mul_le_mul_right _ (by omega)
    unfold trBlocks
    obtain ⟨y, e, f1, f2⟩ := cross_go n (b * 2 ^ (s + 1)) (2 ^ s) (rt back (s + 1)) (X Y (rt back) s) (X Y (rt back) (s + 1)) hle
      (fun j hj => NM.X_low Y (rt back) s b j (rt_sq back s hs) hj)
      (fun j hj => NM.X_high Y (rt back) s b j (rt_sq back s hs) (rt_neg back s hs) hj)
      (2 ^ s) 0 x (by omega) (fun j hj => absurd hj (by omega)) (fun j _ hj => ⟨hr _ (by omega) (by omega), hr _ (by omega) (by omega)⟩)
    rw [NM.pw_zero, v_one] at e
    rw [e, ← e3]
    refine ih (b + 1) y (by rw [← hk]; congr 1; omega) (fun q hq => ?_) (fun q h1 h2 => ?_)
    · by_cases e4 : q < b * 2 ^ (s + 1)
      · rw [f2 q (Or.inl e4), hd q e4]
      · exact f1 q (by omega) (by omega)
    · rw [f2 q (Or.inr (by omega)), hr q (by omega) h2]
theorem steps (m : Nat) (hm : m ≤ 22) (back : Bool) (Y : Nat → F) : ∀ (k s : Nat), s + k = m →
    trSteps back (2 ^ m) k (enc (2 ^ m) (X Y (rt back) s)) s = enc (2 ^ m) (X Y (rt back) m) := by
  intro k
  induction k with
  | zero => intro s h; unfold trSteps; rw [show s = m from by omega]
  | succ k ih =>
    intro s h
    unfold trSteps
    have e : 2 ^ m = 2 ^ k * 2 ^ (s + 1) := by rw [← Nat.pow_add]; congr 1; omega
    have := blocks (2 ^ m) s back Y (by omega) (2 ^ m / 2 ^ (s + 1)) 0 (X Y (rt back) s) (by rw [e, Nat.mul_div_cancel _ (Nat.pos_of_ne_zero (by simp)), Nat.zero_add]) (fun q hq => absurd hq (by omega)) (fun _ _ _ => rfl)
    rw [Nat.zero_mul] at this
    rw [root_at back (s + 1) (by omega), this]
    exact ih (s + 1) (by omega)
theorem all (m : Nat) (hm : m ≤ 22) (back : Bool) (x Y : Nat → F) (hY : ∀ j, j < 2 ^ m → Y (rev m j) = x j) :
    trAll back (enc (2 ^ m) Y) = enc (2 ^ m) (dft (2 ^ m) (rt back m) x) := by
  unfold trAll
  rw [enc_length, Nat.log2_two_pow]
  have : enc (2 ^ m) Y = enc (2 ^ m) (X Y (rt back) 0) := enc_congr fun q _ => (NM.X_zero Y (rt back) q).symm
  rw [this, steps m hm back Y m 0 (by omega)]
  exact enc_congr fun q hq => NM.X_end x Y (rt back) m q hY hq
/-- Turned about. -/
theorem rev_at : ∀ m : Nat, m < 11 → ∀ i : Nat, i < 2 ^ m → ((bits_Reverse64.f (IntKind.u64.wrap (i : Int))).bind fun t => some (shr .u64 (t / 2) (wrap64 (63 - (m : Int))))) = some ((rev m i : Nat) : Int) := by decide +kernel
theorem len_at : ∀ m : Nat, m < 11 → bits_Len.f 5 (IntKind.u64.wrap ((2 ^ m : Nat) : Int)) = some ((m + 1 : Nat) : Int) := by decide +kernel
theorem turned_l0 (m : Nat) (hm : m < 11) (x : Nat → F) : ∀ (d i : Nat) (y : Nat → F), i + d = 2 ^ m → (∀ j, j < i → y (rev m j) = x j) →
    ∃ Y, (∀ j, j < 2 ^ m → Y (rev m j) = x j) ∧ Ev (fun k => ntt_turned.l0 k (enc (2 ^ m) y) m (enc (2 ^ m) x) ((2 ^ m : Nat) : Int) i) (enc (2 ^ m) Y) := by
  have hb : 2 ^ m ≤ 2 ^ 10 := Nat.pow_le_pow_right (by omega) (by omega)
  intro d
  induction d with
  | zero =>
    intro i y hi hd
    refine ⟨y, fun j hj => hd j (by omega), ?_⟩
    refine Ev.step (f := fun k => some (enc (2 ^ m) y)) (fun k => by rw [ntt_turned.l0]; rw [if_neg (by omega)]) (Ev.now _)
  | succ d ih =>
    intro i y hi hd
    have hlt := NM.rev_lt m i
    obtain ⟨Y, e1, e2⟩ := ih (i + 1) (fun q => if q = rev m i then x i else y q) (by omega) (fun j hj => by
      try dsimp only
      by_cases e : j = i
      · rw [e, if_pos rfl]
      · rw [if_neg (fun h => e (NM.rev_inj m j i (by omega) (by omega) h)), hd j (by omega)])
    refine ⟨Y, e1, ?_⟩
    refine Ev.step (f := fun k => ntt_turned.l0 k (enc (2 ^ m) (fun q => if q = rev m i then x i else y q)) m (enc (2 ^ m) x) ((2 ^ m : Nat) : Int) ((i + 1 : Nat) : Int)) (fun k => ?_) e2
    have hr := rev_at m hm i (by omega)
    obtain ⟨t, ht, hs⟩ := Option.bind_eq_some_iff.mp hr
    have hs2 := Option.some.inj hs
    rw [ntt_turned.l0, if_pos (by omega), if_pos (by omega), enc_length, if_pos (by omega), ht]
    simp only [Option.bind_some]
    rw [if_pos (by rw [w64 (by omega) (by omega)]; omega), hs2, if_pos (by omega), enc_length, if_pos (by omega), Int.toNat_natCast, rd_enc _ _ _ (by omega) (by omega), Int.toNat_natCast, enc_set, w64 (by omega) (by omega)]
    rfl
theorem enc_zero (n : Nat) : List.replicate n (0 : Int) = enc n (fun _ => 0) := by
  apply List.ext_getElem
  · simp [enc]
  · intro i h1 h2; simp [enc, v_zero]
theorem turned (m : Nat) (hm : m < 11) (x : Nat → F) : ∃ Y, (∀ j, j < 2 ^ m → Y (rev m j) = x j) ∧ Ev (fun k => ntt_turned.f k (enc (2 ^ m) x)) (enc (2 ^ m) Y) := by
  have hb : 2 ^ m ≤ 2 ^ 10 := Nat.pow_le_pow_right (by omega) (by omega)
  obtain ⟨Y, e1, e2⟩ := turned_l0 m hm x (2 ^ m) 0 (fun _ => 0) (by omega) (fun j hj => absurd hj (by omega))
  refine ⟨Y, e1, ?_⟩
  unfold ntt_turned.f
  rw [enc_length]
  simp only [if_pos (Int.natCast_nonneg (2 ^ m)), Int.toNat_natCast, if_pos (show 2 ^ m ≤ 70368744177664 by omega)]
  refine Ev.bind (Ev.of (fun k => bits_Len.mono _ k) (len_at m hm)) ?_
  rw [w64 (by omega) (by omega), show ((m + 1 : Nat) : Int) - 1 = m from by omega, enc_zero]
  exact e2
/-- Whole: numbers under the prime. -/
theorem index_l0 (l : List Int) (hl : ∀ x ∈ l, (Lit.int .u32 x).wf = true) (hlen : l.length < 4611686018427387904) : ∀ (d i : Nat), i + d = l.length →
    ∃ t, Ev (fun k => slices_IndexFunc_uint32_uint32_ntt_whole_1.l0 k l (l.length : Int) i) t ∧ (decide (t ≥ 0) = !(l.drop i).all fun x => decide (x < 998244353)) := by
  intro d
  induction d with
  | zero =>
    intro i hi
    refine ⟨-1, Ev.step (f := fun k => some (-1)) (fun k => by rw [slices_IndexFunc_uint32_uint32_ntt_whole_1.l0]; rw [if_neg (by omega)]) (Ev.now _), ?_⟩
    rw [List.drop_eq_nil_of_le (by omega)]; rfl
  | succ d ih =>
    intro i hi
    have hget : rd l i = l[i]'(by omega) := by simp [rd, List.getD, show i < l.length by omega]
    have hdrop : l.drop i = l[i]'(by omega) :: l.drop (i + 1) := List.drop_eq_getElem_cons (by omega)
    by_cases hx : l[i]'(by omega) < 998244353
    · obtain ⟨t, e, f⟩ := ih (i + 1) (by omega)
      refine ⟨t, Ev.step (f := fun k => slices_IndexFunc_uint32_uint32_ntt_whole_1.l0 k l (l.length : Int) ((i + 1 : Nat) : Int)) (fun k => ?_) e, ?_⟩
      · rw [slices_IndexFunc_uint32_uint32_ntt_whole_1.l0, if_pos (by omega), if_pos (by omega), if_pos (by omega), hget]
        unfold ntt_whole_1.f
        simp only [Option.bind_some]
        rw [if_neg (by simp; omega), w64 (by omega) (by omega)]; rfl
      · rw [f, hdrop, List.all_cons, decide_eq_true hx, Bool.true_and]
    · refine ⟨i, Ev.step (f := fun k => some (i : Int)) (fun k => ?_) (Ev.now _), ?_⟩
      · rw [slices_IndexFunc_uint32_uint32_ntt_whole_1.l0, if_pos (by omega), if_pos (by omega), if_pos (by omega), hget]
        unfold ntt_whole_1.f
        simp only [Option.bind_some]
        rw [if_pos (by simp; omega)]
      · rw [hdrop, List.all_cons, decide_eq_false hx, Bool.false_and]; simp
def under (l : List Int) : Bool := l.all fun x => decide (x < 998244353)
theorem whole (l : List Int) (hl : ∀ x ∈ l, (Lit.int .u32 x).wf = true) (hlen : l.length < 4611686018427387904) : Ev (fun k => ntt_whole.f k l) (under l) := by
  obtain ⟨t, e, f⟩ := index_l0 l hl hlen l.length 0 (by omega)
  unfold ntt_whole.f slices_ContainsFunc_uint32_uint32_ntt_whole_1.f slices_IndexFunc_uint32_uint32_ntt_whole_1.f
  have e' : Ev (fun k => slices_IndexFunc_uint32_uint32_ntt_whole_1.l0 k l (l.length : Int) 0) t := e
  have hu : under l = !decide (t ≥ 0) := by rw [f]; simp [under]
  rw [hu]
  exact Ev.bind (Ev.bind e' (Ev.now _)) (Ev.now _)
theorem enc_wf (n : Nat) (x : Nat → F) : ∀ y ∈ enc n x, (Lit.int .u32 y).wf = true := fun y hy => by
  obtain ⟨i, _, rfl⟩ := List.mem_map.mp hy
  exact Go.WalkArith.wf_u32 ⟨v_nonneg _, by have := v_lt (x i); omega⟩
theorem enc_under (n : Nat) (x : Nat → F) : under (enc n x) = true := by
  unfold under; rw [List.all_eq_true]; intro y hy
  obtain ⟨i, _, rfl⟩ := List.mem_map.mp hy
  simp [v_lt]
theorem last_l0 (n : Nat) (hn : n ≤ 1024) (x : Nat → F) (b : F) : ∀ (d i : Nat) (y : Nat → F), i + d = n → (∀ j, j < i → y j = x j * b) →
    Ev (fun k => ntt_Transform.l0 k (enc n x) (v b) (enc n y) (n : Int) i) (enc n (fun j => x j * b), 0) := by
  intro d
  induction d with
  | zero =>
    intro i y hi hd
    refine Ev.step (f := fun k => some (enc n y, 0)) (fun k => by rw [ntt_Transform.l0]; rw [if_neg (by omega)]) ?_
    rw [enc_congr (fun j hj => hd j (by omega))]
    exact Ev.now _
  | succ d ih =>
    intro i y hi hd
    refine Ev.step (f := fun k => ntt_Transform.l0 k (enc n x) (v b) (enc n (fun q => if q = i then x i * b else y q)) (n : Int) ((i + 1 : Nat) : Int)) (fun k => ?_) (ih (i + 1) _ (by omega) (fun j hj => by
      try dsimp only
      by_cases e : j = i
      · rw [if_pos e, e]
      · rw [if_neg e, hd j (by omega)]))
    rw [ntt_Transform.l0, if_pos (by omega), if_pos (by omega), enc_length, if_pos (by omega), rd_enc _ _ _ (by omega) (by omega), Int.toNat_natCast, times]
    simp only [Option.bind_some]
    rw [enc_length, if_pos (by omega), enc_set, w64 (by omega) (by omega)]
    rfl
/-- A way's last factor. -/
def lastBy (back : Bool) (n : Nat) : F := if back then pw (nf n) 998244351 else 1
/-- The transform of 2^m numbers, of either way. -/
def tr (back : Bool) (m : Nat) (x : Nat → F) (q : Nat) : F := dft (2 ^ m) (rt back m) x q * lastBy back (2 ^ m)
theorem and_pow : ∀ m : Nat, m < 11 → Go.bits .and .i64 ((2 ^ m : Nat) : Int) (wrap64 (((2 ^ m : Nat) : Int) - 1)) = 0 := by decide +kernel
theorem transform (m : Nat) (hm : m < 11) (back : Bool) (x : Nat → F) : Ev (fun k => ntt_Transform.f k (enc (2 ^ m) x) back) (enc (2 ^ m) (tr back m x), 0) := by
  have hb : 2 ^ m ≤ 2 ^ 10 := Nat.pow_le_pow_right (by omega) (by omega)
  have hp : 0 < 2 ^ m := Nat.pos_of_ne_zero (by simp)
  obtain ⟨Y, e1, e2⟩ := turned m hm x
  have hl : (998244353 : Nat) > 1024 := by omega
  have hend : Ev (fun k => ntt_Transform.j1 k ((2 ^ m : Nat) : Int) (enc (2 ^ m) (dft (2 ^ m) (rt back m) x)) (v (lastBy back (2 ^ m)))) (enc (2 ^ m) (tr back m x), 0) := by
    refine Ev.step (f := fun k => ntt_Transform.l0 k (enc (2 ^ m) (dft (2 ^ m) (rt back m) x)) (v (lastBy back (2 ^ m))) (enc (2 ^ m) (fun _ => 0)) ((2 ^ m : Nat) : Int) ((0 : Nat) : Int)) (fun k => ?_)
      (last_l0 (2 ^ m) (by omega) _ _ (2 ^ m) 0 _ (by omega) (fun j hj => absurd hj (by omega)))
    rw [ntt_Transform.j1, if_pos (by omega), Int.toNat_natCast, if_pos (by omega), enc_zero]
    simp only [Option.bind_some, enc_length]
    rfl
  unfold ntt_Transform.f
  rw [enc_length]
  simp only [if_neg (show ¬ ((2 ^ m : Nat) : Int) = 0 by omega), if_pos (and_pow m hm), show decide (((2 ^ m : Nat) : Int) > 1024) = false from decide_eq_false (by omega)]
  refine Ev.step (f := fun k => ((ntt_whole.f k (enc (2 ^ m) x)).bind fun t122 => (if t122 = true then ((ntt_turned.f k (enc (2 ^ m) x)).bind fun t123 => ((some (trAll back t123)).bind fun t124 => (if back = true then ((ntt_field_inverse.f k ((((2 ^ m : Nat) : Int)) % 4294967296)).bind fun t126 => (ntt_Transform.j1 k ((2 ^ m : Nat) : Int) t124 t126)) else (ntt_Transform.j1 k ((2 ^ m : Nat) : Int) t124 1)))) else (some (([] : List Int), 1)))))
    (fun k => by rw [ntt_Transform.j0, if_neg (by simp)]) ?_
  have hw := whole (enc (2 ^ m) x) (enc_wf _ _) (by rw [enc_length]; omega)
  rw [enc_under] at hw
  refine Ev.bind hw ?_
  simp only [if_true]
  refine Ev.bind e2 ?_
  rw [all m (by omega) back x Y e1]
  simp only [Option.bind_some]
  have h2 : ((2 ^ m : Nat) : Int) % 4294967296 = v (nf (2 ^ m)) := by rw [v_nf]; omega
  cases back
  · simp only [if_neg (show ¬ false = true by simp)]
    have e : v (lastBy false (2 ^ m)) = 1 := by unfold lastBy; rw [if_neg (by simp), v_one]
    rw [e] at hend
    exact hend
  · simp only [if_true]
    rw [h2]
    have e : lastBy true (2 ^ m) = pw (nf (2 ^ m)) 998244351 := by unfold lastBy; rw [if_pos rfl]
    rw [e] at hend
    exact Ev.bind (inverse _) hend
/-- The code that a list gets. -/
def code (l : List Int) : Int := if l.length = 0 ∨ 1024 < l.length ∨ l.length ≠ 2 ^ Nat.log2 l.length then 3 else if under l then 0 else 1
end Spec
end Go.Proofs.Ytggicfmbdmjhkaa.F
/- What the document's own transform answers, and that both answer alike. -/
namespace Go.Proofs.Ytggicfmbdmjhkaa.F
open Go.RowKit Go.Proofs.YtggicfmbdmjhkaaW.PrintWords Go.Proofs.YtggicfmbdmjhkaaW.PrintLast Go.Proofs.YtggicfmbdmjhkaaW.PrintMore
open Go.Proofs.Ytggicfmbdmjhkaa.NM (F S pw fp W WI X rev dft conv nf)
set_option linter.unusedVariables false
set_option linter.unusedSimpArgs false
namespace Spec
theorem small_l0 (l : List Int) (hlen : l.length < 4611686018427387904) : ∀ (d i : Nat), i + d = l.length →
    Ev (fun k => anticlineref8_small.l0 k l i) ((l.drop i).all fun x => decide (x < 998244353)) := by
  intro d
  induction d with
  | zero =>
    intro i hi
    refine Ev.step (f := fun k => some true) (fun k => by rw [anticlineref8_small.l0]; rw [if_neg (by omega)]) ?_
    rw [List.drop_eq_nil_of_le (by omega)]; exact Ev.now _
  | succ d ih =>
    intro i hi
    have hget : rd l i = l[i]'(by omega) := by simp [rd, List.getD, show i < l.length by omega]
    have hdrop : l.drop i = l[i]'(by omega) :: l.drop (i + 1) := List.drop_eq_getElem_cons (by omega)
    rw [hdrop, List.all_cons]
    by_cases hx : l[i]'(by omega) < 998244353
    · rw [decide_eq_true hx, Bool.true_and]
      refine Ev.step (f := fun k => anticlineref8_small.l0 k l ((i + 1 : Nat) : Int)) (fun k => ?_) (ih (i + 1) (by omega))
      rw [anticlineref8_small.l0, if_pos (by omega), if_pos (by omega), hget, if_neg (by omega), w64 (by omega) (by omega)]; rfl
    · rw [decide_eq_false hx, Bool.false_and]
      refine Ev.step (f := fun k => some false) (fun k => ?_) (Ev.now _)
      rw [anticlineref8_small.l0, if_pos (by omega), if_pos (by omega), hget, if_pos (by omega)]
theorem small (l : List Int) (hlen : l.length < 4611686018427387904) : Ev (fun k => anticlineref8_small.f k l) (under l) := by
  have := small_l0 l hlen l.length 0 (by omega)
  exact this
theorem same_l0 (l : List Int) (hlen : l.length < 4611686018427387904) : ∀ (d i : Nat), i + d = l.length → Ev (fun k => anticlineref8_Same.l0 k l l i) true := by
  intro d
  induction d with
  | zero =>
    intro i hi
    exact Ev.step (f := fun k => some true) (fun k => by rw [anticlineref8_Same.l0]; rw [if_neg (by omega)]) (Ev.now _)
  | succ d ih =>
    intro i hi
    refine Ev.step (f := fun k => anticlineref8_Same.l0 k l l ((i + 1 : Nat) : Int)) (fun k => ?_) (ih (i + 1) (by omega))
    rw [anticlineref8_Same.l0, if_pos (by omega), if_pos (by omega), if_pos (by omega), if_pos rfl, w64 (by omega) (by omega)]; rfl
theorem same (l : List Int) (hlen : l.length < 4611686018427387904) : Ev (fun k => anticlineref8_Same.f k l l) true := by
  unfold anticlineref8_Same.f
  simp only [if_true]
  have := same_l0 l hlen l.length 0 (by omega)
  exact this
theorem rt_one (m : Nat) (hm : m < 11) : pw (W m) (2 ^ m) = 1 := NM.W_pow m (by omega)
/-- There and back. -/
theorem tr_back (m : Nat) (hm : m < 11) (x : Nat → F) (i : Nat) (hi : i < 2 ^ m) : tr true m (tr false m x) i = x i := by
  have hb : 2 ^ m ≤ 2 ^ 10 := Nat.pow_le_pow_right (by omega) (by omega)
  have hp : 0 < 2 ^ m := Nat.pos_of_ne_zero (by simp)
  have h1 : tr false m x = dft (2 ^ m) (W m) x := by
    funext q; unfold tr lastBy rt
    rw [if_neg (by simp), if_neg (by simp)]; grind
  have hne : nf (2 ^ m) ≠ 0 := fun h => by
    have := v_nf (2 ^ m)
    rw [h, v_zero] at this; omega
  have hf := NM.fermat (nf (2 ^ m)) hne
  rw [NM.pw_succ] at hf
  rw [h1]
  unfold tr lastBy rt
  rw [if_pos rfl, if_pos rfl, NM.dft_back m (W m) (WI m) (NM.W_WI m (by omega)) (fun j hj => by subst hj; exact NM.W_neg j (by omega)) (fun h => by subst h; exact NM.W_one) (rt_one m hm) x i hi]
  have e : (Fin.ofNat 998244353 (2 ^ m) : F) = nf (2 ^ m) := rfl
  rw [e]
  grind
end Spec
end Go.Proofs.Ytggicfmbdmjhkaa.F

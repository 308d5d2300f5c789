/- 998244353 is a prime; a number that is no multiple of it, to the power of it less one, is one. -/
import Derived.Test.YtbmmjnmfinjdeaaNMath
namespace Go.Proofs.Ytbmmjnmfinjdeaa.NM
/-- No number from lo on, so many, goes into p. -/
def free : Nat → Nat → Nat → Bool
  | 0, p, lo => lo < 2 || p % lo != 0
  | k + 1, p, lo => free k p lo && free k p (lo + 2 ^ k)
theorem free_at (k p : Nat) : ∀ lo, free k p lo = true → ∀ d, 2 ≤ d → lo ≤ d → d < lo + 2 ^ k → p % d ≠ 0 := by
  induction k with
  | zero =>
    intro lo h d h2 h0 h1
    obtain rfl : d = lo := by simp at h1; omega
    simp only [free, Bool.or_eq_true, decide_eq_true_eq, bne_iff_ne] at h
    rcases h with h | h
    · omega
    · exact h
  | succ k ih =>
    intro lo h d h2 h0 h1
    simp only [free, Bool.and_eq_true] at h
    rw [Nat.pow_succ] at h1
    by_cases e : d < lo + 2 ^ k
    · exact ih lo h.1 d h2 h0 e
    · exact ih _ h.2 d h2 (by omega) (by omega)
theorem free_p : free 15 998244353 0 = true := by decide +kernel
theorem prime_p (d : Nat) (h : d ∣ 998244353) : d = 1 ∨ d = 998244353 := by
  have small : ∀ e, e ∣ 998244353 → e < 32768 → e ≤ 1 := by
    intro e he hlt
    by_cases h2 : 2 ≤ e
    · exact absurd (Nat.mod_eq_zero_of_dvd he) (free_at 15 998244353 0 free_p e h2 (by omega) (by omega))
    · omega
  obtain ⟨c, hc⟩ := h
  have hd0 : d ≠ 0 := fun e => by rw [e] at hc; omega
  have hc0 : c ≠ 0 := fun e => by rw [e] at hc; omega
  by_cases hd : d < 32768
  · have := small d ⟨c, hc⟩ hd; left; omega
  · have hlt : c < 32768 := by
      apply Classical.byContradiction
      intro hn
      have := Nat.mul_le_mul (show 32768 ≤ d from by omega) (show 32768 ≤ c from by omega)
      omega
    have := small c ⟨d, by rw [Nat.mul_comm]; exact hc⟩ hlt
    right
    obtain rfl : c = 1 := by omega
    omega
/-- Of n things k. -/
def ch : Nat → Nat → Nat
  | _, 0 => 1
  | 0, _ + 1 => 0
  | n + 1, k + 1 => ch n k + ch n (k + 1)
theorem ch_zero (n : Nat) : ch n 0 = 1 := by cases n <;> rfl
theorem ch_over : ∀ n k, n < k → ch n k = 0
  | n, 0, h => by omega
  | 0, k + 1, _ => rfl
  | n + 1, k + 1, h => by unfold ch; rw [ch_over n k (by omega), ch_over n (k + 1) (by omega)]
theorem ch_self : ∀ n, ch n n = 1
  | 0 => rfl
  | n + 1 => by unfold ch; rw [ch_self n, ch_over n (n + 1) (by omega)]
theorem ch_mul : ∀ n k, (k + 1) * ch (n + 1) (k + 1) = (n + 1) * ch n k
  | 0, 0 => by decide
  | 0, k + 1 => by simp [ch]
  | n + 1, 0 => by
    have := ch_mul n 0
    have e : ch (n + 1 + 1) (0 + 1) = ch (n + 1) 0 + ch (n + 1) (0 + 1) := rfl
    rw [e]
    rw [ch_zero] at this ⊢
    omega
  | n + 1, k + 1 => by
    have h1 := ch_mul n k
    have h2 := ch_mul n (k + 1)
    have e : ch (n + 1 + 1) (k + 1 + 1) = ch (n + 1) (k + 1) + ch (n + 1) (k + 1 + 1) := rfl
    have e2 : ch (n + 1) (k + 1) = ch n k + ch n (k + 1) := rfl
    rw [e, Nat.mul_add, h2, show k + 1 + 1 = (k + 1) + 1 from rfl, Nat.add_mul (k + 1) 1, h1, e2]
    grind
theorem p_ch (k : Nat) (h0 : 0 < k) (h1 : k < 998244353) : 998244353 ∣ ch 998244353 k := by
  obtain ⟨j, rfl⟩ : ∃ j, k = j + 1 := ⟨k - 1, by omega⟩
  have h := ch_mul 998244352 j
  have hc : Nat.Coprime 998244353 (j + 1) := by
    have hg := Nat.gcd_dvd_left 998244353 (j + 1)
    have hg2 := Nat.gcd_dvd_right 998244353 (j + 1)
    rcases prime_p _ hg with e | e
    · exact e
    · rw [e] at hg2; have := Nat.le_of_dvd (by omega) hg2; omega
  exact hc.dvd_of_dvd_mul_left ⟨ch 998244352 j, by rw [h]⟩
def nf (n : Nat) : F := Fin.ofNat 998244353 n
theorem nf_add (a b : Nat) : nf (a + b) = nf a + nf b := by
  apply Fin.ext; simp [nf, Fin.val_add]
theorem nf_mul (a b : Nat) : nf (a * b) = nf a * nf b := by
  apply Fin.ext; simp [nf, Fin.val_mul, Nat.mul_mod]
theorem nf_val (a : F) : nf a.val = a := by apply Fin.ext; simp [nf]
theorem nf_dvd {a : Nat} (h : 998244353 ∣ a) : nf a = 0 := by
  apply Fin.ext; simp [nf, Nat.mod_eq_zero_of_dvd h]
theorem binom (a : F) (n : Nat) : pw (a + 1) n = S (n + 1) (fun k => nf (ch n k) * pw a k) := by
  induction n with
  | zero => simp only [pw_zero, S_succ, S_zero, ch_zero]; decide
  | succ n ih =>
    rw [pw_succ, ih]
    have h1 : S (n + 1 + 1) (fun k => nf (ch (n + 1) k) * pw a k) = S (n + 1) (fun k => nf (ch n k) * pw a (k + 1)) + S (n + 1 + 1) (fun k => nf (ch n k) * pw a k) := by
      have e1 : S (1 + (n + 1)) (fun k => nf (ch (n + 1) k) * pw a k) = 1 + (S (n + 1) (fun k => nf (ch n k) * pw a (k + 1)) + S (n + 1) (fun k => nf (ch n (k + 1)) * pw a (k + 1))) := by
        have a1 : S 1 (fun k => nf (ch (n + 1) k) * pw a k) = 1 := by simp only [S_succ, S_zero, ch_zero, pw_zero]; decide
        rw [S_append, ← S_add, a1]
        congr 1
        refine S_congr fun k _ => ?_
        rw [Nat.add_comm 1 k, show ch (n + 1) (k + 1) = ch n k + ch n (k + 1) from rfl, nf_add]; grind
      have e2 : S (1 + (n + 1)) (fun k => nf (ch n k) * pw a k) = 1 + S (n + 1) (fun k => nf (ch n (k + 1)) * pw a (k + 1)) := by
        have a1 : S 1 (fun k => nf (ch n k) * pw a k) = 1 := by simp only [S_succ, S_zero, ch_zero, pw_zero]; decide
        rw [S_append, a1]
        congr 1
        exact S_congr fun k _ => by rw [Nat.add_comm 1 k]
      rw [Nat.add_comm (n + 1) 1, e1, e2]; grind
    rw [h1, S_succ (n + 1), ch_over n (n + 1) (by omega), show nf 0 = 0 from rfl]
    have h2 : S (n + 1) (fun k => nf (ch n k) * pw a (k + 1)) = S (n + 1) (fun k => nf (ch n k) * pw a k) * a := by
      rw [← S_mulr]; exact S_congr fun k _ => by rw [pw_succ]; grind
    rw [h2]; grind
theorem frob_aux (a : F) (q n : Nat) (hq : q = 1 + n) (hd : ∀ i, i < n → nf (ch q (1 + i)) = 0) : S q (fun k => nf (ch q k) * pw a k) = 1 := by
  have h2 : S n (fun i => nf (ch q (1 + i)) * pw a (1 + i)) = 0 := by
    rw [S_congr (g := fun _ => 0) (fun i hi => by rw [hd i hi]; grind), S_nought]
  have h1 : S 1 (fun k => nf (ch q k) * pw a k) = 1 := by simp only [S_succ, S_zero, ch_zero, pw_zero]; decide
  have h3 : S (1 + n) (fun k => nf (ch q k) * pw a k) = 1 := by rw [S_append, h1, h2]; grind
  rw [← hq] at h3; exact h3
theorem frob (a : F) : pw (a + 1) 998244353 = pw a 998244353 + 1 := by
  rw [binom, S_succ, ch_self, frob_aux a 998244353 998244352 rfl (fun i hi => nf_dvd (p_ch (1 + i) (by omega) (by omega))), show nf 1 = 1 from rfl]; grind
theorem little (n : Nat) : pw (nf n) 998244353 = nf n := by
  induction n with
  | zero =>
    have h : ∀ m, pw (nf 0) (m + 1) = 0 := fun m => by rw [pw_succ, show nf 0 = 0 from rfl]; grind
    have := h 998244352
    rw [show 998244352 + 1 = 998244353 from rfl] at this
    rw [this]; rfl
  | succ n ih => rw [nf_add, show nf 1 = 1 from rfl, frob, ih]
theorem pw_pred (a : F) (n m : Nat) (h : m = n + 1) : pw a m = pw a n * a := by subst h; rfl
theorem fermat (a : F) (h : a ≠ 0) : pw a 998244352 = 1 := by
  have hl := little a.val
  rw [nf_val] at hl
  have hs : pw a 998244353 = pw a 998244352 * a := pw_pred a 998244352 998244353 (by omega)
  rw [hs] at hl
  -- a has an inverse: by gcd
  have hc : Nat.Coprime a.val 998244353 := by
    have hg := Nat.gcd_dvd_right a.val 998244353
    rcases prime_p _ hg with e | e
    · exact e
    · have hg2 := Nat.gcd_dvd_left a.val 998244353
      rw [e] at hg2
      have hpos : 0 < a.val := Nat.pos_of_ne_zero fun e0 => h (Fin.ext e0)
      have := Nat.le_of_dvd hpos hg2
      have := a.isLt; omega
  have hd : (998244353 : Nat) ∣ a.val * ((pw a 998244352 - 1 : F)).val := by
    have hg : ∀ x : F, x * a = a → a * (x - 1) = 0 := fun x hx => by grind
    have h0 : a * (pw a 998244352 - 1) = 0 := hg _ hl
    have := congrArg Fin.val h0
    rw [Fin.val_mul] at this
    exact Nat.dvd_of_mod_eq_zero this
  have h2 := hc.symm.dvd_of_dvd_mul_left hd
  have h3 : (pw a 998244352 - 1 : F) = 0 := by
    apply Fin.ext
    have := (pw a 998244352 - 1 : F).isLt
    exact Nat.eq_zero_of_dvd_of_lt h2 this
  have hg : ∀ x : F, x - 1 = 0 → x = 1 := fun x hx => by grind
  exact hg _ h3
end Go.Proofs.Ytbmmjnmfinjdeaa.NM

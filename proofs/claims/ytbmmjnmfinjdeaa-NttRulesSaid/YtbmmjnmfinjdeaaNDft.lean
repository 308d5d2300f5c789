/- Discrete transforms: by their sums, and by halves. -/
import Derived.Test.YtbmmjnmfinjdeaaNFermat
namespace Go.Proofs.Ytbmmjnmfinjdeaa.NM
/-- The transform of n numbers by w: its k-th number. -/
def dft (n : Nat) (w : F) (x : Nat → F) (k : Nat) : F := S n (fun j => x j * pw w (j * k))
def rev : Nat → Nat → Nat
  | 0, _ => 0
  | s + 1, j => (j % 2) * 2 ^ s + rev s (j / 2)
theorem rev_lt (s : Nat) : ∀ j, rev s j < 2 ^ s := by
  induction s with
  | zero => intro j; simp [rev]
  | succ s ih =>
    intro j
    have := ih (j / 2)
    have h2 : j % 2 = 0 ∨ j % 2 = 1 := by omega
    unfold rev
    rw [Nat.pow_succ]
    rcases h2 with e | e <;> rw [e] <;> omega
theorem rev_step (s j : Nat) : rev (s + 1) j = (j % 2) * 2 ^ s + rev s (j / 2) := rfl
theorem rev_even (s j : Nat) : rev (s + 1) (2 * j) = rev s j := by
  rw [rev_step, show 2 * j % 2 = 0 from by omega, show 2 * j / 2 = j from by omega]; omega
theorem rev_odd (s j : Nat) : rev (s + 1) (2 * j + 1) = 2 ^ s + rev s j := by
  rw [rev_step, show (2 * j + 1) % 2 = 1 from by omega, show (2 * j + 1) / 2 = j from by omega]; omega
theorem rev_inj (s : Nat) : ∀ a b, a < 2 ^ s → b < 2 ^ s → rev s a = rev s b → a = b := by
  induction s with
  | zero => intro a b ha hb _; simp at ha hb; omega
  | succ s ih =>
    intro a b ha hb h
    rw [Nat.pow_succ] at ha hb
    have l1 := rev_lt s (a / 2)
    have l2 := rev_lt s (b / 2)
    unfold rev at h
    have p1 : a % 2 = 0 ∨ a % 2 = 1 := by omega
    have p2 : b % 2 = 0 ∨ b % 2 = 1 := by omega
    have hp : a % 2 = b % 2 ∧ rev s (a / 2) = rev s (b / 2) := by
      rcases p1 with e1 | e1 <;> rcases p2 with e2 | e2 <;> rw [e1, e2] at h ⊢ <;> omega
    have := ih (a / 2) (b / 2) (by omega) (by omega) hp.2
    omega
/-- What stands in the list behind s steps. -/
def X (Y : Nat → F) (r : Nat → F) (s q : Nat) : F := S (2 ^ s) (fun j => Y (q / 2 ^ s * 2 ^ s + rev s j) * pw (r s) (q % 2 ^ s * j))
theorem X_zero (Y : Nat → F) (r : Nat → F) (q : Nat) : X Y r 0 q = Y q := by
  unfold X
  simp only [Nat.pow_zero, S_succ, S_zero, rev, Nat.div_one, Nat.mul_one, Nat.add_zero, Nat.mul_zero, pw_zero]
  grind
theorem X_parts (Y : Nat → F) (r : Nat → F) (s b i : Nat) (hsq : r (s + 1) * r (s + 1) = r s) (hi : i < 2 ^ (s + 1)) :
    X Y r (s + 1) (b * 2 ^ (s + 1) + i) = S (2 ^ s) (fun j => Y (b * 2 ^ (s + 1) + rev s j) * pw (r s) (i * j)) + pw (r (s + 1)) i * S (2 ^ s) (fun j => Y (b * 2 ^ (s + 1) + 2 ^ s + rev s j) * pw (r s) (i * j)) := by
  unfold X
  have hp : 0 < 2 ^ (s + 1) := Nat.pos_of_ne_zero (by simp)
  have e1 : (b * 2 ^ (s + 1) + i) / 2 ^ (s + 1) = b := by
    rw [Nat.mul_comm, Nat.mul_add_div hp, Nat.div_eq_of_lt hi]; omega
  have e2 : (b * 2 ^ (s + 1) + i) % 2 ^ (s + 1) = i := by
    rw [Nat.mul_comm, Nat.mul_add_mod, Nat.mod_eq_of_lt hi]
  rw [e1, e2, show 2 ^ (s + 1) = 2 * 2 ^ s from by rw [Nat.pow_succ]; omega, S_two, ← S_mul]
  congr 1
  · refine S_congr fun j _ => ?_
    rw [rev_even, show i * (2 * j) = 2 * (i * j) from by grind, pw_mul, show pw (r (s + 1)) 2 = r (s + 1) * r (s + 1) from by rw [pw_succ, pw_one], hsq]
  · refine S_congr fun j _ => ?_
    rw [rev_odd, show i * (2 * j + 1) = i + 2 * (i * j) from by grind, pw_add, pw_mul, show pw (r (s + 1)) 2 = r (s + 1) * r (s + 1) from by rw [pw_succ, pw_one], hsq, show b * (2 * 2 ^ s) + 2 ^ s + rev s j = b * (2 * 2 ^ s) + (2 ^ s + rev s j) from by omega]
    grind
theorem X_at (Y : Nat → F) (r : Nat → F) (s c i : Nat) (hi : i < 2 ^ s) : X Y r s (c * 2 ^ s + i) = S (2 ^ s) (fun j => Y (c * 2 ^ s + rev s j) * pw (r s) (i * j)) := by
  unfold X
  have hp : 0 < 2 ^ s := Nat.pos_of_ne_zero (by simp)
  have e1 : (c * 2 ^ s + i) / 2 ^ s = c := by rw [Nat.mul_comm, Nat.mul_add_div hp, Nat.div_eq_of_lt hi]; omega
  have e2 : (c * 2 ^ s + i) % 2 ^ s = i := by rw [Nat.mul_comm, Nat.mul_add_mod, Nat.mod_eq_of_lt hi]
  rw [e1, e2]
/-- One step, in the lower half of a block. -/
theorem X_low (Y : Nat → F) (r : Nat → F) (s b i : Nat) (hsq : r (s + 1) * r (s + 1) = r s) (hi : i < 2 ^ s) :
    X Y r (s + 1) (b * 2 ^ (s + 1) + i) = X Y r s (b * 2 ^ (s + 1) + i) + X Y r s (b * 2 ^ (s + 1) + 2 ^ s + i) * pw (r (s + 1)) i := by
  have e0 : b * 2 ^ (s + 1) = (2 * b) * 2 ^ s := by rw [Nat.pow_succ]; grind
  have e1 : b * 2 ^ (s + 1) + 2 ^ s = (2 * b + 1) * 2 ^ s := by rw [Nat.pow_succ]; grind
  rw [X_parts Y r s b i hsq (by rw [Nat.pow_succ]; omega), e1, e0, X_at Y r s _ i hi, X_at Y r s _ i hi]
  grind
/-- .. in the upper half. -/
theorem X_high (Y : Nat → F) (r : Nat → F) (s b i : Nat) (hsq : r (s + 1) * r (s + 1) = r s) (hneg : pw (r (s + 1)) (2 ^ s) = -1) (hi : i < 2 ^ s) :
    X Y r (s + 1) (b * 2 ^ (s + 1) + 2 ^ s + i) = X Y r s (b * 2 ^ (s + 1) + i) - X Y r s (b * 2 ^ (s + 1) + 2 ^ s + i) * pw (r (s + 1)) i := by
  have e0 : b * 2 ^ (s + 1) = (2 * b) * 2 ^ s := by rw [Nat.pow_succ]; grind
  have e1 : b * 2 ^ (s + 1) + 2 ^ s = (2 * b + 1) * 2 ^ s := by rw [Nat.pow_succ]; grind
  have hone : pw (r s) (2 ^ s) = 1 := by
    rw [← hsq, mul_pw, hneg]; decide
  have hp : ∀ j, pw (r s) ((2 ^ s + i) * j) = pw (r s) (i * j) := fun j => by
    rw [Nat.add_mul, pw_add, pw_mul, hone, one_pw]; grind
  have h := X_parts Y r s b (2 ^ s + i) hsq (by rw [Nat.pow_succ]; omega)
  rw [← Nat.add_assoc] at h
  rw [h, pw_add, hneg, e1, e0, X_at Y r s _ i hi, X_at Y r s _ i hi]
  simp only [hp]
  grind
theorem X_end (l Y : Nat → F) (r : Nat → F) (m q : Nat) (hY : ∀ j, j < 2 ^ m → Y (rev m j) = l j) (hq : q < 2 ^ m) : X Y r m q = dft (2 ^ m) (r m) l q := by
  unfold X dft
  rw [Nat.div_eq_of_lt hq, Nat.mod_eq_of_lt hq]
  refine S_congr fun j hj => ?_
  rw [Nat.zero_mul, Nat.zero_add, hY j hj, Nat.mul_comm q j]

/-! Laws of transforms. w: a root of 2^m numbers; v: its inverse. -/
theorem dft_add (n : Nat) (w : F) (x y : Nat → F) (k : Nat) : dft n w (fun j => x j + y j) k = dft n w x k + dft n w y k := by
  unfold dft; rw [← S_add]; exact S_congr fun j _ => by grind
theorem dft_congr {n : Nat} (w : F) {x y : Nat → F} (h : ∀ j, j < n → x j = y j) (k : Nat) : dft n w x k = dft n w y k := by
  unfold dft; exact S_congr fun j hj => by rw [h j hj]
theorem dft_first (n : Nat) (w : F) (x : Nat → F) : dft n w x 0 = S n x := by
  unfold dft; exact S_congr fun j _ => by rw [Nat.mul_zero, pw_zero]; grind
theorem dft_one (n : Nat) (hn : 0 < n) (w : F) (k : Nat) : dft n w (fun j => if j = 0 then 1 else 0) k = 1 := by
  unfold dft
  rw [S_single hn (fun i _ hne => by dsimp only; rw [if_neg hne]; grind)]
  dsimp only
  rw [if_pos rfl, Nat.zero_mul, pw_zero]; grind
/-- Transformed by w and then by v, w v = 1: n times as it was. -/
theorem dft_back (m : Nat) (w v : F) (hwv : w * v = 1) (hneg : ∀ j, m = j + 1 → pw w (2 ^ j) = -1) (h0 : m = 0 → w = 1) (hone : pw w (2 ^ m) = 1)
    (x : Nat → F) (i : Nat) (hi : i < 2 ^ m) : dft (2 ^ m) v (dft (2 ^ m) w x) i = x i * Fin.ofNat 998244353 (2 ^ m) := by
  have hv : ∀ a, pw v a * pw w a = 1 := fun a => by rw [← mul_pw, show v * w = 1 from by grind, one_pw]
  unfold dft
  have e1 : S (2 ^ m) (fun j => S (2 ^ m) (fun j_1 => x j_1 * pw w (j_1 * j)) * pw v (j * i)) = S (2 ^ m) (fun a => x a * S (2 ^ m) (fun j => pw (pw w (a + (2 ^ m - i))) j)) := by
    have e2 : S (2 ^ m) (fun j => S (2 ^ m) (fun j_1 => x j_1 * pw w (j_1 * j)) * pw v (j * i)) = S (2 ^ m) (fun j => S (2 ^ m) (fun a => x a * (pw w (a * j) * pw v (j * i)))) :=
      S_congr fun j _ => by rw [← S_mulr]; exact S_congr fun a _ => by grind
    rw [e2, S_swap]
    refine S_congr fun a _ => ?_
    rw [← S_mul]
    refine S_congr fun j _ => ?_
    have : pw v (j * i) = pw w ((2 ^ m - i) * j) := by
      have h1 : pw w ((2 ^ m - i) * j) * pw w (j * i) = 1 := by
        rw [← pw_add, show (2 ^ m - i) * j + j * i = 2 ^ m * j from by rw [Nat.mul_comm j i, ← Nat.add_mul, Nat.sub_add_cancel (by omega)], pw_mul, hone, one_pw]
      have h2 := hv (j * i)
      grind
    rw [this, ← pw_add, ← Nat.add_mul, pw_mul]
  rw [e1]
  have e3 : S (2 ^ m) (fun a => x a * S (2 ^ m) (fun j => pw (pw w (a + (2 ^ m - i))) j)) = S (2 ^ m) (fun a => x a * (if (a + (2 ^ m - i)) % 2 ^ m = 0 then (Fin.ofNat 998244353 (2 ^ m)) else 0)) :=
    S_congr fun a _ => by rw [orth m w _ hneg h0]
  rw [e3, S_single hi]
  · rw [if_pos (by rw [show i + (2 ^ m - i) = 2 ^ m from by omega, Nat.mod_self])]
  · intro a ha hne
    rw [if_neg]
    · grind
    · intro h
      by_cases e : a < i
      · rw [Nat.mod_eq_of_lt (by omega)] at h; omega
      · rw [show a + (2 ^ m - i) = (a - i) + 2 ^ m from by omega, Nat.add_mod_right, Nat.mod_eq_of_lt (by omega)] at h; omega
/-- Transformed twice: turned about. -/
theorem dft_twice (m : Nat) (w : F) (hneg : ∀ j, m = j + 1 → pw w (2 ^ j) = -1) (h0 : m = 0 → w = 1)
    (x : Nat → F) (i : Nat) (hi : i < 2 ^ m) : dft (2 ^ m) w (dft (2 ^ m) w x) i = x ((2 ^ m - i) % 2 ^ m) * Fin.ofNat 998244353 (2 ^ m) := by
  unfold dft
  have e1 : S (2 ^ m) (fun j => S (2 ^ m) (fun j_1 => x j_1 * pw w (j_1 * j)) * pw w (j * i)) = S (2 ^ m) (fun a => x a * (if (a + i) % 2 ^ m = 0 then (Fin.ofNat 998244353 (2 ^ m)) else 0)) := by
    have e2 : S (2 ^ m) (fun j => S (2 ^ m) (fun j_1 => x j_1 * pw w (j_1 * j)) * pw w (j * i)) = S (2 ^ m) (fun j => S (2 ^ m) (fun a => x a * (pw w (a * j) * pw w (j * i)))) :=
      S_congr fun j _ => by rw [← S_mulr]; exact S_congr fun a _ => by grind
    rw [e2, S_swap]
    refine S_congr fun a _ => ?_
    rw [S_mul, ← orth m w (a + i) hneg h0]
    congr 1
    refine S_congr fun j _ => ?_
    rw [← pw_add, ← pw_mul, Nat.mul_comm j i, ← Nat.add_mul]
  have hp : 0 < 2 ^ m := Nat.pos_of_ne_zero (by simp)
  rw [e1, S_single (Nat.mod_lt (2 ^ m - i) hp)]
  · rw [if_pos]
    by_cases e : i = 0
    · subst e; simp
    · rw [Nat.mod_eq_of_lt (a := 2 ^ m - i) (by omega), show 2 ^ m - i + i = 2 ^ m from by omega, Nat.mod_self]
  · intro a ha hne
    rw [if_neg]
    · grind
    · intro h
      apply hne
      by_cases e : i = 0
      · subst e; simp at h ⊢; rw [Nat.mod_eq_of_lt ha] at h; exact h
      · rw [Nat.mod_eq_of_lt (a := 2 ^ m - i) (by omega)]
        by_cases e2 : a + i < 2 ^ m
        · rw [Nat.mod_eq_of_lt e2] at h; omega
        · rw [Nat.mod_eq_sub_mod (by omega), Nat.mod_eq_of_lt (by omega)] at h; omega
/-- Moved on by one. -/
theorem dft_moved (m : Nat) (w : F) (hone : pw w (2 ^ m) = 1) (x : Nat → F) (k : Nat) :
    dft (2 ^ m) w (fun i => x ((i + 2 ^ m - 1) % 2 ^ m)) k = dft (2 ^ m) w x k * pw w k := by
  have hpos : 0 < 2 ^ m := Nat.pos_of_ne_zero (by simp)
  obtain ⟨n, hn⟩ : ∃ n, 2 ^ m = n + 1 := ⟨2 ^ m - 1, by omega⟩
  unfold dft
  rw [← S_mulr]
  rw [hn] at hone ⊢
  rw [Nat.add_comm n 1, S_append, Nat.add_comm 1 n, S_succ]
  simp only [S_succ, S_zero]
  have e1 : (0 + (n + 1) - 1) % (n + 1) = n := by rw [Nat.mod_eq_of_lt (by omega)]; omega
  have e2 : S n (fun i => x ((1 + i + (n + 1) - 1) % (n + 1)) * pw w ((1 + i) * k)) = S n (fun i => x i * pw w (i * k) * pw w k) := by
    refine S_congr fun i hi => ?_
    rw [show 1 + i + (n + 1) - 1 = i + (n + 1) from by omega, Nat.add_mod_right, Nat.mod_eq_of_lt (by omega), Nat.add_mul, Nat.one_mul, pw_add]; grind
  have e3 : pw w (n * k) * pw w k = 1 := by rw [← pw_add, show n * k + k = (n + 1) * k from by grind, pw_mul, hone, one_pw]
  rw [e1, e2, Nat.zero_mul, pw_zero]; grind
end Go.Proofs.Ytbmmjnmfinjdeaa.NM

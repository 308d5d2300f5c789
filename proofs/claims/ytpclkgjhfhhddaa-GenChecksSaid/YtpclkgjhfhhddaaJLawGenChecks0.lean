/- Joined texts, 0: PNat PRat V NatA NatB. -/
import Derived.Test.YtpclkgjhfhhddaaProg
import Derived.WalkKit
import Derived.Below
import Derived.NoCompiler
import Derived.Lib.Hide
import Derived.Lib.SliceRun
import Derived.Deep.QuietTactic
import Derived.BigQuiet
import Derived.Deep.RegionHeld3
import Derived.Deep.RegionWith
import Derived.Deep.LoopGhost
import Derived.Deep.DeepCutAuto
set_option linter.unusedVariables false
set_option linter.unusedSimpArgs false
/- Natural numbers by their limbs of 32 bits: digits, sizes, sums, differences, products, quotients, shifts. -/
namespace Go.Proofs.Ytpclkgjhfhhddaa.PN
set_option linter.unusedVariables false
abbrev B : Nat := 4294967296
def dig (s i : Nat) : Nat := s / B ^ i % B
def size (s : Nat) : Nat := if s = 0 then 0 else Nat.log2 s / 32 + 1
theorem Bp (i : Nat) : 0 < B ^ i := Nat.pow_pos (by decide)
theorem dig_lt (s i : Nat) : dig s i < B := Nat.mod_lt _ (by decide)
theorem B_two (n : Nat) : B ^ n = 2 ^ (32 * n) := by rw [show B = 2 ^ 32 from rfl, ← Nat.pow_mul]
theorem lt_iff (s n : Nat) : s < B ^ n ↔ size s ≤ n := by
  unfold size
  by_cases h : s = 0
  · rw [if_pos h, h]; exact ⟨fun _ => Nat.zero_le _, fun _ => Bp n⟩
  · rw [if_neg h, B_two, ← Nat.log2_lt h]; omega
theorem lt_size (s : Nat) : s < B ^ size s := (lt_iff s _).2 (Nat.le_refl _)
theorem size_zero : size 0 = 0 := rfl
theorem size_eq_zero {s : Nat} : size s = 0 ↔ s = 0 := by
  unfold size; by_cases h : s = 0
  · rw [if_pos h]; exact ⟨fun _ => h, fun _ => rfl⟩
  · rw [if_neg h]; exact ⟨fun e => by omega, fun e => absurd e h⟩
theorem size_pos {s : Nat} (h : s ≠ 0) : 0 < size s := Nat.pos_of_ne_zero (fun e => h (size_eq_zero.1 e))
theorem dig_zero {s i : Nat} (h : s < B ^ i) : dig s i = 0 := by unfold dig; rw [Nat.div_eq_of_lt h, Nat.zero_mod]
theorem dig_over {s n i : Nat} (h : s < B ^ n) (hi : n ≤ i) : dig s i = 0 := dig_zero (Nat.lt_of_lt_of_le h (Nat.pow_le_pow_right (by decide) hi))
theorem dig_of_zero (i : Nat) : dig 0 i = 0 := by unfold dig; simp
theorem dig_at_zero (s : Nat) : dig s 0 = s % B := by unfold dig; rw [Nat.pow_zero, Nat.div_one]
theorem ge_size {s : Nat} (h : s ≠ 0) : B ^ (size s - 1) ≤ s := by
  have hp := size_pos h
  rcases Nat.lt_or_ge s (B ^ (size s - 1)) with h' | h'
  · have := (lt_iff _ _).1 h'; omega
  · exact h'
theorem top_eq {s n : Nat} (h : s < B ^ (n + 1)) : dig s n = s / B ^ n := by
  unfold dig
  apply Nat.mod_eq_of_lt
  rw [Nat.div_lt_iff_lt_mul (Bp n), Nat.mul_comm, ← Nat.pow_succ]; exact h
theorem top_ne {s : Nat} (h : s ≠ 0) : dig s (size s - 1) ≠ 0 := by
  have hp := size_pos h
  rw [top_eq (by rw [show size s - 1 + 1 = size s from by omega]; exact lt_size s)]
  have := Nat.div_pos (ge_size h) (Bp (size s - 1)); omega
/-- A top limb that is not nought tells the size. -/
theorem size_of_top {s n : Nat} (h : s < B ^ (n + 1)) (ht : dig s n ≠ 0) : size s = n + 1 := by
  have h1 := (lt_iff s (n + 1)).1 h
  rcases Nat.lt_or_ge n (size s) with h2 | h2
  · omega
  · exact absurd (dig_zero ((lt_iff s n).2 h2)) ht
theorem size_cut {s n : Nat} (h : s < B ^ (n + 1)) (ht : dig s n = 0) : s < B ^ n := by
  rw [top_eq h] at ht
  exact (Nat.div_eq_zero_iff.1 ht).resolve_left (Nat.ne_of_gt (Bp n))
theorem mod_succ (s i : Nat) : s % B ^ (i + 1) = s % B ^ i + B ^ i * dig s i := Nat.mod_pow_succ
theorem div_succ (s i : Nat) : s / B ^ i = s / B ^ (i + 1) * B + dig s i := by
  unfold dig
  rw [Nat.pow_succ, ← Nat.div_div_eq_div_mul]
  have := Nat.div_add_mod (s / B ^ i) B
  rw [Nat.mul_comm] at this; omega
theorem ext {s t n : Nat} (hs : s < B ^ n) (ht : t < B ^ n) (h : ∀ i, i < n → dig s i = dig t i) : s = t := by
  have : ∀ i, i ≤ n → s % B ^ i = t % B ^ i := by
    intro i
    induction i with
    | zero => intro _; rw [Nat.pow_zero, Nat.mod_one, Nat.mod_one]
    | succ i ih => intro hi; rw [mod_succ, mod_succ, ih (by omega), h i (by omega)]
  have := this n (Nat.le_refl n)
  rwa [Nat.mod_eq_of_lt hs, Nat.mod_eq_of_lt ht] at this
theorem div_high (s t m : Nat) : (s + B ^ m * t) / B ^ m = s / B ^ m + t := Nat.add_mul_div_left _ _ (Bp m)
theorem dig_low {s t m j : Nat} (hj : j < m) : dig (s + B ^ m * t) j = dig s j := by
  unfold dig
  rw [show B ^ m = B ^ j * (B * B ^ (m - j - 1)) by rw [← Nat.pow_succ', ← Nat.pow_add]; congr 1; omega, Nat.mul_assoc, Nat.add_mul_div_left _ _ (Bp j), Nat.mul_assoc, Nat.add_mul_mod_self_left]
theorem dig_high (s t m : Nat) : dig (s + B ^ m * t) m = (s / B ^ m + t) % B := by unfold dig; rw [div_high]
theorem split (s i : Nat) : s = s % B ^ i + B ^ i * (s / B ^ i) := by have := Nat.div_add_mod s (B ^ i); omega
theorem mod_lt (s i : Nat) : s % B ^ i < B ^ i := Nat.mod_lt _ (Bp i)
/-! ### Which is greater -/
def cmpI (a b : Nat) : Int := if a < b then -1 else if b < a then 1 else 0
theorem lt_of_size {a b : Nat} (h : size a < size b) : a < b := by
  have hb : b ≠ 0 := fun e => by rw [e] at h; exact absurd h (Nat.not_lt_zero _)
  exact Nat.lt_of_lt_of_le (Nat.lt_of_lt_of_le (lt_size a) (Nat.pow_le_pow_right (by decide) (by omega))) (ge_size hb)
theorem lt_of_dig {a b i : Nat} (h : a / B ^ (i + 1) = b / B ^ (i + 1)) (hd : dig a i < dig b i) : a < b := by
  rcases Nat.lt_or_ge a b with h' | h'
  · exact h'
  · have h1 : b / B ^ i ≤ a / B ^ i := Nat.div_le_div_right h'
    rw [div_succ a i, div_succ b i, h] at h1
    omega
theorem cmp_lt {a b : Nat} (h : a < b) : cmpI a b = -1 := by unfold cmpI; rw [if_pos h]
theorem cmp_gt {a b : Nat} (h : b < a) : cmpI a b = 1 := by unfold cmpI; rw [if_neg (by omega), if_pos h]
theorem cmp_eq (a : Nat) : cmpI a a = 0 := by unfold cmpI; rw [if_neg (by omega), if_neg (by omega)]
theorem cmp_zero {a b : Nat} : cmpI a b = 0 ↔ a = b := by unfold cmpI; split <;> (try split) <;> constructor <;> intro h <;> omega
theorem cmp_neg {a b : Nat} : cmpI a b < 0 ↔ a < b := by unfold cmpI; split <;> (try split) <;> constructor <;> intro h <;> omega
/-! ### Sums -/
def car (a b i : Nat) : Nat := (a % B ^ i + b % B ^ i) / B ^ i
theorem car_zero (a b : Nat) : car a b 0 = 0 := by unfold car; simp [Nat.mod_one]
theorem car_le (a b i : Nat) : car a b i ≤ 1 := by
  unfold car
  have h1 := mod_lt a i; have h2 := mod_lt b i
  have : (a % B ^ i + b % B ^ i) / B ^ i < 2 := by rw [Nat.div_lt_iff_lt_mul (Bp i)]; omega
  omega
theorem car_succ (a b i : Nat) : car a b (i + 1) = (car a b i + dig a i + dig b i) / B := by
  unfold car
  rw [mod_succ, mod_succ, show a % B ^ i + B ^ i * dig a i + (b % B ^ i + B ^ i * dig b i) = (a % B ^ i + b % B ^ i) + B ^ i * (dig a i + dig b i) by rw [Nat.mul_add]; omega, Nat.pow_succ, ← Nat.div_div_eq_div_mul, div_high, Nat.add_assoc]
theorem dig_add (a b i : Nat) : dig (a + b) i = (car a b i + dig a i + dig b i) % B := by
  have h : a + b = (a % B ^ i + b % B ^ i) + B ^ i * (a / B ^ i + b / B ^ i) := by
    have h1 := split a i; have h2 := split b i
    rw [Nat.mul_add]; omega
  unfold car
  rw [show dig (a + b) i = dig ((a % B ^ i + b % B ^ i) + B ^ i * (a / B ^ i + b / B ^ i)) i by rw [← h], dig_high]
  unfold dig
  simp only [B]
  omega
/-! ### Products -/
/-- What has been gathered: of a's first i limbs all, of the next one with b's first k. -/
def part (a b i _n k : Nat) : Nat := ((a % B ^ i) * b) % B ^ (i + k) + B ^ i * (dig a i * (b % B ^ k))
theorem part_succ (a b i n k : Nat) : part a b i n (k + 1) = part a b i n k + B ^ (i + k) * (dig ((a % B ^ i) * b) (i + k) + dig a i * dig b k) := by
  unfold part
  rw [← Nat.add_assoc, mod_succ, mod_succ b k, Nat.mul_add (dig a i), Nat.mul_add (B ^ i), Nat.mul_add (B ^ (i + k)), Nat.pow_add B i k]
  rw [show dig a i * (B ^ k * dig b k) = B ^ k * (dig a i * dig b k) by rw [← Nat.mul_assoc, Nat.mul_comm (dig a i), Nat.mul_assoc], ← Nat.mul_assoc (B ^ i) (B ^ k)]
  generalize B ^ i * B ^ k * (dig a i * dig b k) = x
  generalize B ^ i * (dig a i * (b % B ^ k)) = y
  omega
def mcar (a b i n k : Nat) : Nat := part a b i n k / B ^ (i + k)
theorem mcar_zero (a b i n : Nat) : mcar a b i n 0 = 0 := by
  unfold mcar part
  rw [Nat.pow_zero, Nat.mod_one, Nat.mul_zero, Nat.mul_zero, Nat.add_zero, Nat.add_zero]
  exact Nat.div_eq_of_lt (mod_lt _ _)
theorem mcar_succ (a b i n k : Nat) : mcar a b i n (k + 1) = (mcar a b i n k + dig a i * dig b k + dig ((a % B ^ i) * b) (i + k)) / B := by
  unfold mcar
  rw [part_succ, ← Nat.add_assoc, Nat.pow_succ, ← Nat.div_div_eq_div_mul, div_high]
  congr 1; omega
theorem mcar_lt (a b i n k : Nat) : mcar a b i n k < B := by
  induction k with
  | zero => rw [mcar_zero]; decide
  | succ k ih =>
    rw [mcar_succ, Nat.div_lt_iff_lt_mul (by decide)]
    have h1 := dig_lt a i; have h2 := dig_lt b k; have h3 := dig_lt ((a % B ^ i) * b) (i + k)
    have := Nat.mul_le_mul (Nat.le_sub_one_of_lt h1) (Nat.le_sub_one_of_lt h2)
    have e : (B - 1) * (B - 1) = 18446744065119617025 := by decide
    have e2 : B * B = 18446744073709551616 := by decide
    simp only [B] at *
    omega
theorem part_dig (a b i n k : Nat) : dig (part a b i n (k + 1)) (i + k) = (mcar a b i n k + dig a i * dig b k + dig ((a % B ^ i) * b) (i + k)) % B := by
  rw [part_succ, dig_high]; unfold mcar; congr 1; omega
theorem part_low {a b i n k j : Nat} (hj : j < i + k) : dig (part a b i n (k + 1)) j = dig (part a b i n k) j := by rw [part_succ, dig_low hj]
theorem low_lt (a b i n : Nat) (hb : b < B ^ n) : (a % B ^ i) * b < B ^ (i + n) := by
  rw [Nat.pow_add]
  exact Nat.mul_lt_mul_of_lt_of_le (mod_lt a i) (Nat.le_of_lt hb) (Bp n)
theorem part_all (a b i n : Nat) (hb : b < B ^ n) : part a b i n n = (a % B ^ (i + 1)) * b := by
  unfold part
  rw [Nat.mod_eq_of_lt (low_lt a b i n hb), Nat.mod_eq_of_lt hb, mod_succ, Nat.add_mul, Nat.mul_assoc]
theorem part_end (a b i n : Nat) (hb : b < B ^ n) : mcar a b i n n = dig ((a % B ^ (i + 1)) * b) (i + n) := by
  have h := mcar_lt a b i n n
  unfold mcar at h ⊢
  rw [part_all a b i n hb] at h ⊢
  unfold dig
  exact (Nat.mod_eq_of_lt h).symm
theorem part_first (a b i n j : Nat) (hj : j < i) : dig (part a b i n 0) j = dig ((a % B ^ i) * b) j := by
  unfold part
  rw [Nat.add_zero, dig_low hj]
  conv => rhs; rw [split ((a % B ^ i) * b) i, dig_low hj]
theorem mul_fit {x y z : Nat} (hx : x < B) (hy : y < B) (hz : z < B) (c : Nat) (hc : c < B) : c + x * y + z < 18446744073709551616 := by
  have := Nat.mul_le_mul (Nat.le_sub_one_of_lt hx) (Nat.le_sub_one_of_lt hy)
  have e : (B - 1) * (B - 1) = 18446744065119617025 := by decide
  simp only [B] at *; omega
/-! ### A product by one limb -/
def mc (q v k : Nat) : Nat := q * (v % B ^ k) / B ^ k
theorem mc_zero (q v : Nat) : mc q v 0 = 0 := by unfold mc; simp [Nat.mod_one]
theorem mc_succ (q v k : Nat) : mc q v (k + 1) = (mc q v k + q * dig v k) / B := by
  unfold mc
  rw [mod_succ, Nat.mul_add, Nat.pow_succ, ← Nat.div_div_eq_div_mul, show q * (B ^ k * dig v k) = B ^ k * (q * dig v k) by rw [← Nat.mul_assoc, Nat.mul_comm q, Nat.mul_assoc], div_high]
theorem mc_lt {q : Nat} (hq : q < B) (v k : Nat) : mc q v k < B := by
  unfold mc
  rw [Nat.div_lt_iff_lt_mul (Bp k)]
  exact Nat.mul_lt_mul'' hq (mod_lt v k)
theorem dig_mc (q v k : Nat) : dig (q * v) k = (mc q v k + q * dig v k) % B := by
  have h : q * v = q * (v % B ^ k) + B ^ k * (q * (v / B ^ k)) := by
    conv => lhs; rw [split v k, Nat.mul_add]
    rw [← Nat.mul_assoc q (B ^ k), Nat.mul_comm q (B ^ k), Nat.mul_assoc]
  rw [show dig (q * v) k = dig (q * (v % B ^ k) + B ^ k * (q * (v / B ^ k))) k by rw [← h], dig_high]
  unfold mc dig
  rw [Nat.add_mod, Nat.mul_mod q (v / B ^ k), Nat.add_mod _ (q * (v / B ^ k % B)), Nat.mul_mod q (v / B ^ k % B), Nat.mod_mod]
/-- What is taken away, and what is borrowed. -/
theorem car_end {P R T n bw : Nat} (hP : P < B ^ n) (hR : R < B ^ n) (hT : T < B ^ n) (h : T + B ^ n * bw = P + R) : car P R n = bw := by
  unfold car
  rw [Nat.mod_eq_of_lt hP, Nat.mod_eq_of_lt hR, ← h, Nat.add_mul_div_left _ _ (Bp n), Nat.div_eq_of_lt hT, Nat.zero_add]
theorem dig_shift {s t m j : Nat} (hs : s < B ^ m) : dig (s + B ^ m * t) (m + j) = dig t j := by
  unfold dig
  rw [Nat.pow_add, ← Nat.div_div_eq_div_mul, Nat.add_mul_div_left _ _ (Bp m), Nat.div_eq_of_lt hs, Nat.zero_add]
/-! ### Shifts -/
theorem B_split {k : Nat} (hk : k ≤ 32) : B = 2 ^ (32 - k) * 2 ^ k := by rw [← Nat.pow_add, Nat.sub_add_cancel hk]
theorem shl_mod {p k : Nat} (hk : k ≤ 32) : p * 2 ^ k % B = p % 2 ^ (32 - k) * 2 ^ k := by
  rw [B_split hk, Nat.mul_mod_mul_right]
theorem shl_div {p k : Nat} (hk : k ≤ 32) : p * 2 ^ k / B = p / 2 ^ (32 - k) := by
  rw [B_split hk, Nat.mul_div_mul_right _ _ (Nat.pow_pos (by decide))]
theorem shl_low {p k : Nat} (hk : k ≤ 32) (hp : p < B) : p * 2 ^ k / B < 2 ^ k := by
  rw [Nat.div_lt_iff_lt_mul (by decide), Nat.mul_comm]
  exact Nat.mul_lt_mul_of_pos_left hp (Nat.pow_pos (by decide))
theorem shl_add {d e k : Nat} (hk : k ≤ 32) (he : e < 2 ^ k) : (e + d * 2 ^ k) / B = d * 2 ^ k / B := by
  rw [shl_div hk, B_split hk, Nat.mul_comm (2 ^ (32 - k)), ← Nat.div_div_eq_div_mul, Nat.add_mul_div_right _ _ (Nat.pow_pos (by decide)), Nat.div_eq_of_lt he, Nat.zero_add]
theorem shl_car (a k j : Nat) (hk : k ≤ 32) : a % B ^ j * 2 ^ k / B ^ j = (if j = 0 then 0 else dig a (j - 1) * 2 ^ k / B) ∧ a % B ^ j * 2 ^ k / B ^ j < 2 ^ k := by
  have hlt : a % B ^ j * 2 ^ k / B ^ j < 2 ^ k := by
    rw [Nat.div_lt_iff_lt_mul (Bp j), Nat.mul_comm]
    exact Nat.mul_lt_mul_of_pos_left (mod_lt a j) (Nat.pow_pos (by decide))
  refine ⟨?_, hlt⟩
  rcases Nat.eq_zero_or_pos j with h | h
  · subst h; rw [if_pos rfl, Nat.pow_zero, Nat.mod_one, Nat.zero_mul, Nat.zero_div]
  · obtain ⟨m, rfl⟩ : ∃ m, j = m + 1 := ⟨j - 1, by omega⟩
    rw [if_neg (by omega), Nat.add_sub_cancel, mod_succ, Nat.add_mul, Nat.mul_assoc, Nat.pow_succ, ← Nat.div_div_eq_div_mul, div_high]
    refine shl_add hk ?_
    rw [Nat.div_lt_iff_lt_mul (Bp m), Nat.mul_comm]
    exact Nat.mul_lt_mul_of_pos_left (mod_lt a m) (Nat.pow_pos (by decide))
theorem dig_shl (a k j : Nat) (hk : k ≤ 32) : dig (a * 2 ^ k) j = dig a j * 2 ^ k % B + (if j = 0 then 0 else dig a (j - 1) * 2 ^ k / B) := by
  obtain ⟨h1, h2⟩ := shl_car a k j hk
  rw [← h1]
  have h : a * 2 ^ k = a % B ^ j * 2 ^ k + B ^ j * (a / B ^ j * 2 ^ k) := by
    conv => lhs; rw [split a j, Nat.add_mul, Nat.mul_assoc]
  rw [show dig (a * 2 ^ k) j = dig (a % B ^ j * 2 ^ k + B ^ j * (a / B ^ j * 2 ^ k)) j by rw [← h], dig_high]
  generalize a % B ^ j * 2 ^ k / B ^ j = c at *
  rw [show dig a j * 2 ^ k % B = a / B ^ j * 2 ^ k % B by unfold dig; rw [Nat.mul_mod, Nat.mod_mod, ← Nat.mul_mod _ _ B], Nat.add_mod, shl_mod hk]
  have h3 : a / B ^ j % 2 ^ (32 - k) < 2 ^ (32 - k) := Nat.mod_lt _ (Nat.pow_pos (by decide))
  generalize a / B ^ j % 2 ^ (32 - k) = l at *
  have h4 : l * 2 ^ k + 2 ^ k ≤ B := by
    rw [B_split hk]
    have : (l + 1) * 2 ^ k ≤ 2 ^ (32 - k) * 2 ^ k := Nat.mul_le_mul_right _ h3
    rwa [Nat.add_mul, Nat.one_mul] at this
  rw [Nat.mod_eq_of_lt (show c < B by omega), Nat.mod_eq_of_lt (by omega), Nat.add_comm]
theorem dig_shr (a k j : Nat) (hk : k ≤ 32) : dig (a / 2 ^ k) j = (dig a j + dig a (j + 1) * B) / 2 ^ k % B := by
  have h : a / B ^ j = dig a j + dig a (j + 1) * B + B * B * (a / B ^ (j + 2)) := by
    rw [div_succ a j, div_succ a (j + 1), Nat.add_mul, Nat.mul_assoc, Nat.mul_comm (a / B ^ (j + 2))]
    omega
  rw [show dig (a / 2 ^ k) j = a / 2 ^ k / B ^ j % B from rfl, Nat.div_div_eq_div_mul, Nat.mul_comm, ← Nat.div_div_eq_div_mul, h]
  have e : B * B = 2 ^ k * (2 ^ (32 - k) * B) := by rw [← Nat.mul_assoc, Nat.mul_comm (2 ^ k), ← B_split hk]
  rw [e, Nat.mul_assoc, Nat.add_mul_div_left _ _ (Nat.pow_pos (by decide)), Nat.mul_comm (2 ^ (32 - k)) B, Nat.mul_assoc, Nat.add_mul_mod_self_left]
/-! ### A quotient by one limb -/
theorem small_step (a d i : Nat) (hd : 0 < d) : (((a / B ^ (i + 1)) % d) * B + dig a i) / d = dig (a / d) i ∧ (((a / B ^ (i + 1)) % d) * B + dig a i) % d = (a / B ^ i) % d := by
  have h := div_succ a i
  have hm : a / B ^ (i + 1) = d * (a / B ^ (i + 1) / d) + a / B ^ (i + 1) % d := (Nat.div_add_mod _ _).symm
  have hlt : ((a / B ^ (i + 1)) % d) * B + dig a i < d * B := by
    have h1 := Nat.mod_lt (a / B ^ (i + 1)) hd
    have h2 := dig_lt a i
    have := Nat.mul_le_mul_right B (show a / B ^ (i + 1) % d + 1 ≤ d from h1)
    rw [Nat.add_mul] at this; omega
  have e : a / B ^ i = (((a / B ^ (i + 1)) % d) * B + dig a i) + d * (B * (a / B ^ (i + 1) / d)) := by
    rw [h]
    conv => lhs; rw [hm]
    rw [Nat.add_mul, Nat.mul_assoc, Nat.mul_comm (a / B ^ (i + 1) / d) B]; omega
  constructor
  · rw [show dig (a / d) i = a / d / B ^ i % B from rfl, Nat.div_div_eq_div_mul, Nat.mul_comm d, ← Nat.div_div_eq_div_mul]
    conv => rhs; rw [e]
    rw [Nat.add_mul_div_left _ _ hd, Nat.add_mul_mod_self_left]
    refine (Nat.mod_eq_of_lt ?_).symm
    rw [Nat.div_lt_iff_lt_mul hd, Nat.mul_comm B d]; exact hlt
  · conv => rhs; rw [e]
    rw [Nat.add_mul_mod_self_left]
/-! ### A long quotient: how good the guess is -/
/-- u: three limbs' number, v: two limbs'; q is the guess: it is the quotient, or one more. -/
theorem guess_good {U V p v u U' V' q : Nat} (hV : V = v * p + V') (hV' : V' < p) (hU : U = u * p + U') (hU' : U' < p) (hq : q * v ≤ u) (hbest : ∀ r, r < B → r * v ≤ u → r ≤ q) (hqB : q < B)
    (hlt : U < V * B) (hVb : p * B ≤ V) : U / V = q ∨ U / V + 1 = q := by
  have hp : 0 < p := by omega
  have hV0 : 0 < V := by
    have : 0 < p * B := Nat.mul_pos hp (by decide)
    omega
  have hQ : U / V < B := by rw [Nat.div_lt_iff_lt_mul hV0, Nat.mul_comm]; exact hlt
  have h1 : U / V ≤ q := by
    refine hbest _ hQ ?_
    have ha : U / V * V ≤ U := Nat.div_mul_le_self U V
    have hb : U / V * v * p ≤ U := by
      refine Nat.le_trans ?_ ha
      rw [Nat.mul_assoc]
      exact Nat.mul_le_mul_left _ (by omega)
    have hc : U / V * v * p < (u + 1) * p := by rw [Nat.add_mul]; omega
    have := Nat.lt_of_mul_lt_mul_right hc
    omega
  have h2 : q ≤ U / V + 1 := by
    rcases Nat.eq_zero_or_pos q with h0 | h0
    · rw [h0]; exact Nat.zero_le _
    have : q - 1 ≤ U / V := by
      rw [Nat.le_div_iff_mul_le hV0]
      have ha : q * V = q * v * p + q * V' := by rw [hV, Nat.mul_add, Nat.mul_assoc]
      have hb : q * v * p ≤ u * p := Nat.mul_le_mul_right _ hq
      have hc : q * V' ≤ B * p := Nat.mul_le_mul (Nat.le_of_lt hqB) (Nat.le_of_lt hV')
      have hd : (q - 1) * V = q * V - V := by rw [Nat.sub_mul, Nat.one_mul]
      have he : p * B = B * p := Nat.mul_comm _ _
      omega
    generalize U / V = Q at *
    omega
  generalize U / V = Q at *
  omega
end Go.Proofs.Ytpclkgjhfhhddaa.PN
/- Rational numbers by sign, numerator and denominator, as the program holds them; how many limbs they take. -/
namespace Go.Proofs.Ytpclkgjhfhhddaa.PN
def sg (neg : Bool) (n : Nat) : Int := if neg then -(n : Int) else (n : Int)
/-- The number of this sign that is n over d. -/
def mk (neg : Bool) (n d : Nat) : Rat := mkRat (sg neg n) d
def ng (q : Rat) : Bool := decide (q.num < 0)
def nm (q : Rat) : Nat := q.num.natAbs
theorem sg_abs (neg : Bool) (n : Nat) : (sg neg n).natAbs = n := by unfold sg; split <;> simp
theorem sg_self (q : Rat) : sg (ng q) (nm q) = q.num := by
  unfold sg ng nm
  by_cases h : q.num < 0
  · rw [if_pos (decide_eq_true h)]; omega
  · rw [if_neg (by simp [h])]; omega
theorem mk_self (q : Rat) : mk (ng q) (nm q) q.den = q := by unfold mk; rw [sg_self]; exact Rat.mkRat_self q
theorem nm_eq_zero {q : Rat} : nm q = 0 ↔ q = 0 := by unfold nm; rw [Int.natAbs_eq_zero]; exact Rat.num_eq_zero
theorem mk_zero (neg : Bool) (d : Nat) : mk neg 0 d = 0 := by unfold mk sg; split <;> simp
theorem mk_num {n d : Nat} (neg : Bool) (hd : d ≠ 0) : nm (mk neg n d) = n / Nat.gcd n d := by
  unfold nm mk
  rw [Rat.num_mkRat, if_neg hd, sg_abs, Nat.gcd_comm]
  unfold sg
  split
  · rw [Int.natAbs_ediv_of_dvd (by rw [Int.dvd_neg]; exact Int.natCast_dvd_natCast.2 (Nat.gcd_dvd_left n d))]; simp
  · rw [Int.natAbs_ediv_of_dvd (Int.natCast_dvd_natCast.2 (Nat.gcd_dvd_left n d))]; simp
theorem mk_den {n d : Nat} (neg : Bool) (hd : d ≠ 0) : (mk neg n d).den = d / Nat.gcd n d := by
  unfold mk
  rw [Rat.den_mkRat, if_neg hd, sg_abs, Nat.gcd_comm]
theorem gcd_div_ne {n d : Nat} (hn : n ≠ 0) (_hd : d ≠ 0) : n / Nat.gcd n d ≠ 0 := by
  have hg : 0 < Nat.gcd n d := Nat.gcd_pos_of_pos_left d (Nat.pos_of_ne_zero hn)
  have := Nat.div_pos (Nat.le_of_dvd (Nat.pos_of_ne_zero hn) (Nat.gcd_dvd_left n d)) hg
  omega
theorem mk_ng {n d : Nat} (neg : Bool) (hn : n ≠ 0) (hd : d ≠ 0) : ng (mk neg n d) = neg := by
  have h1 : (mk neg n d).num = sg neg n / (Nat.gcd n d : Nat) := by unfold mk; rw [Rat.num_mkRat, if_neg hd, sg_abs, Nat.gcd_comm]
  have hg : 0 < Nat.gcd n d := Nat.gcd_pos_of_pos_left d (Nat.pos_of_ne_zero hn)
  have h2 := gcd_div_ne hn hd
  obtain ⟨c, hc⟩ := Nat.gcd_dvd_left n d
  have hc0 : c ≠ 0 := by rintro rfl; rw [Nat.mul_zero] at hc; exact hn hc
  have h3 : (mk neg n d).num = sg neg c := by
    rw [h1]
    generalize Nat.gcd n d = g at *
    subst hc
    unfold sg
    split
    · rw [Int.natCast_mul, ← Int.mul_neg, Int.mul_ediv_cancel_left _ (by omega)]
    · rw [Int.natCast_mul, Int.mul_ediv_cancel_left _ (by omega)]
  unfold ng
  rw [h3]
  unfold sg
  cases neg <;> simp <;> omega
theorem neg_ng (q : Rat) : ng (-q) = (!ng q && decide (0 < nm q)) := by
  unfold ng nm
  rw [Rat.neg_num]
  rw [Bool.eq_iff_iff]
  simp only [decide_eq_true_eq, Bool.and_eq_true, Bool.not_eq_true', decide_eq_false_iff_not]
  omega
theorem neg_nm (q : Rat) : nm (-q) = nm q := by unfold nm; rw [Rat.neg_num, Int.natAbs_neg]
theorem neg_den (q : Rat) : (-q).den = q.den := Rat.neg_den q
/-- Two numbers with the same parts are one. -/
theorem rat_ext {p q : Rat} (h1 : ng p = ng q) (h2 : nm p = nm q) (h3 : p.den = q.den) : p = q := by rw [← mk_self p, ← mk_self q, h1, h2, h3]
theorem sg_mul (s t : Bool) (m n : Nat) : sg s m * sg t n = sg (s != t) (m * n) := by
  unfold sg; cases s <;> cases t <;> simp [Int.neg_mul, Int.mul_neg]
theorem sg_mul_nat (s : Bool) (m n : Nat) : sg s m * (n : Int) = sg s (m * n) := by
  unfold sg; cases s <;> simp [Int.neg_mul]
theorem mul_parts (a b : Rat) : a * b = mk (ng a != ng b) (nm a * nm b) (a.den * b.den) := by
  rw [Rat.mul_def', ← sg_self a, ← sg_self b, sg_mul]; rfl
theorem add_parts_same (a b : Rat) (h : ng a = ng b) : a + b = mk (ng a) (nm a * b.den + nm b * a.den) (a.den * b.den) := by
  rw [Rat.add_def', ← sg_self a, ← sg_self b, sg_mul_nat, sg_mul_nat, h]
  unfold mk
  congr 1
  unfold sg
  cases ng b <;> simp <;> omega
theorem add_parts_ge (a b : Rat) (h : ng a ≠ ng b) (hle : nm b * a.den ≤ nm a * b.den) : a + b = mk (ng a) (nm a * b.den - nm b * a.den) (a.den * b.den) := by
  rw [Rat.add_def', ← sg_self a, ← sg_self b, sg_mul_nat, sg_mul_nat]
  unfold mk
  congr 1
  generalize nm a * b.den = x at *
  generalize nm b * a.den = y at *
  unfold sg
  cases ha : ng a <;> cases hb : ng b <;> simp_all <;> omega
theorem add_parts_lt (a b : Rat) (h : ng a ≠ ng b) (hle : nm a * b.den ≤ nm b * a.den) : a + b = mk (ng b) (nm b * a.den - nm a * b.den) (a.den * b.den) := by
  rw [Rat.add_comm, add_parts_ge b a (fun e => h e.symm) hle, Nat.mul_comm b.den]
theorem den_ne (q : Rat) : q.den ≠ 0 := q.den_nz
theorem div_parts (a b : Rat) (h : b ≠ 0) : a / b = mk (ng a != ng b) (nm a * b.den) (a.den * nm b) := by
  have hb : nm b ≠ 0 := fun e => h (nm_eq_zero.1 e)
  have e : a = mk (ng a != ng b) (nm a * b.den) (a.den * nm b) * b := by
    conv => rhs; rhs; rw [← mk_self b]
    unfold mk
    rw [Rat.mkRat_mul_mkRat, sg_mul]
    conv => lhs; rw [← mk_self a]; unfold mk
    rw [Rat.mkRat_eq_iff (den_ne a) (Nat.mul_ne_zero (Nat.mul_ne_zero (den_ne a) hb) (den_ne b)), show ((ng a != ng b) != ng b) = ng a by cases ng a <;> cases ng b <;> rfl, sg_mul_nat, sg_mul_nat]
    congr 1
    simp only [Nat.mul_assoc, Nat.mul_comm, Nat.mul_left_comm]
  conv => lhs; rw [e]
  exact Rat.mul_div_cancel h
/-! ### How many limbs -/
theorem size_le_of_le {m n : Nat} (h : m ≤ n) : size m ≤ size n := (lt_iff m _).1 (Nat.lt_of_le_of_lt h (lt_size n))
theorem size_mul (m n : Nat) : size (m * n) ≤ size m + size n := by
  rw [← lt_iff, Nat.pow_add]
  exact Nat.mul_lt_mul'' (lt_size m) (lt_size n)
theorem size_add (m n k : Nat) (hm : size m ≤ k) (hn : size n ≤ k) : size (m + n) ≤ k + 1 := by
  rw [← lt_iff] at *
  rw [Nat.pow_succ]
  have : B ^ k * 2 ≤ B ^ k * B := Nat.mul_le_mul_left _ (by decide)
  omega
theorem size_div (m n : Nat) : size (m / n) ≤ size m := size_le_of_le (Nat.div_le_self m n)
theorem size_one : size 1 = 1 := by decide
def wt (q : Rat) : Nat := max (size (nm q)) (size q.den)
theorem wt_num (q : Rat) : size (nm q) ≤ wt q := Nat.le_max_left _ _
theorem wt_den (q : Rat) : size q.den ≤ wt q := Nat.le_max_right _ _
theorem wt_neg (q : Rat) : wt (-q) = wt q := by unfold wt; rw [neg_nm, neg_den]
theorem wt_mk {n d : Nat} (neg : Bool) (hd : d ≠ 0) : wt (mk neg n d) ≤ max (size n) (size d) := by
  unfold wt
  rw [mk_num neg hd, mk_den neg hd]
  have := size_div n (Nat.gcd n d); have := size_div d (Nat.gcd n d)
  omega
theorem wt_pos (q : Rat) : 0 < wt q := by
  have := size_pos (den_ne q); have := wt_den q; omega
theorem wt_mul (a b : Rat) : wt (a * b) ≤ wt a + wt b := by
  rw [mul_parts]
  refine Nat.le_trans (wt_mk _ (Nat.mul_ne_zero (den_ne a) (den_ne b))) ?_
  have := size_mul (nm a) (nm b); have := size_mul a.den b.den
  have := wt_num a; have := wt_num b; have := wt_den a; have := wt_den b
  omega
theorem wt_div (a b : Rat) (h : b ≠ 0) : wt (a / b) ≤ wt a + wt b := by
  rw [div_parts a b h]
  refine Nat.le_trans (wt_mk _ (Nat.mul_ne_zero (den_ne a) (fun e => h (nm_eq_zero.1 e)))) ?_
  have := size_mul (nm a) b.den; have := size_mul a.den (nm b)
  have := wt_num a; have := wt_num b; have := wt_den a; have := wt_den b
  omega
theorem wt_add (a b : Rat) : wt (a + b) ≤ wt a + wt b + 1 := by
  have h1 := size_mul (nm a) b.den; have h2 := size_mul (nm b) a.den; have h3 := size_mul a.den b.den
  have := wt_num a; have := wt_num b; have := wt_den a; have := wt_den b
  have hd := Nat.mul_ne_zero (den_ne a) (den_ne b)
  by_cases h : ng a = ng b
  · rw [add_parts_same a b h]
    refine Nat.le_trans (wt_mk _ hd) ?_
    have := size_add (nm a * b.den) (nm b * a.den) (wt a + wt b) (by omega) (by omega)
    omega
  · rcases Nat.le_total (nm b * a.den) (nm a * b.den) with hle | hle
    · rw [add_parts_ge a b h hle]
      refine Nat.le_trans (wt_mk _ hd) ?_
      have := size_le_of_le (Nat.sub_le (nm a * b.den) (nm b * a.den))
      omega
    · rw [add_parts_lt a b h hle]
      refine Nat.le_trans (wt_mk _ hd) ?_
      have := size_le_of_le (Nat.sub_le (nm b * a.den) (nm a * b.den))
      omega
theorem wt_sub (a b : Rat) : wt (a - b) ≤ wt a + wt b + 1 := by
  rw [Rat.sub_eq_add_neg]
  have := wt_add a (-b); rw [wt_neg] at this; exact this
end Go.Proofs.Ytpclkgjhfhhddaa.PN
/- What values in memory say: limbs, rational numbers, rows and matrices of them; how it is kept. -/
namespace Go.Proofs.Ytpclkgjhfhhddaa.V
open Go Go.RowKit Go.Proofs.Ytpclkgjhfhhddaa.PN
set_option linter.unusedVariables false
set_option linter.unusedSimpArgs false
/-- The type of limbs. -/
abbrev U32 : TypeId := 53
/-- Block k is a plain row of cells of type T. -/
def Row? (w : World) (k : Nat) (cs : Array Value) (T : TypeId) : Prop := w.heap[k]? = some (.cells cs T (0, 0))
theorem Row?.lt {w : World} {k : Nat} {cs : Array Value} {T : TypeId} (h : Row? w k cs T) : k < w.heap.size := (Array.getElem?_eq_some_iff.1 h).1
/-- A block's type. -/
class Typed (w : World) (k : Nat) (T : TypeId) : Prop where
  out : ∃ cs, Row? w k cs T
/-- The second world holds all limbs that the first one holds; no block has gone, none has another type. -/
class Up (a b : World) : Prop where
  size : a.heap.size ≤ b.heap.size
  type : ∀ k T, Typed a k T → Typed b k T
  limb : ∀ k cs, Row? a k cs U32 → Row? b k cs U32
/-- What was there is as it was: what a call leaves. -/
abbrev Kept (a b : World) : Prop := Below a.heap.size a b
theorem Kept.row {a b : World} (h : Kept a b) {k : Nat} {cs : Array Value} {T : TypeId} (r : Row? a k cs T) : Row? b k cs T := (h.block k r.lt).trans r
instance Up.refl (a : World) : Up a a := ⟨Nat.le_refl _, fun _ _ h => h, fun _ _ h => h⟩
theorem Up.trans {a b c : World} (h : Up a b) (k : Up b c) : Up a c := ⟨Nat.le_trans h.size k.size, fun i T t => k.type i T (h.type i T t), fun i cs t => k.limb i cs (h.limb i cs t)⟩
theorem Up.of_kept {a b : World} (h : Kept a b) : Up a b := ⟨h.size, fun _ _ ⟨cs, t⟩ => ⟨cs, h.row t⟩, fun _ _ t => h.row t⟩
theorem Up.chain {b c : World} (k : Up b c) : ∀ a [Up a b], Up a c := fun _ h => h.trans k
theorem Kept.chain {b c : World} (k : Kept b c) : ∀ a [Up a b], Up a c := (Up.of_kept k).chain
theorem Kept.alloc (a : World) (o : Obj) : Kept a (a.alloc o) := (Below.refl _ _).alloc (Nat.le_refl _) o
instance Up.alloc (a b : World) (o : Obj) [h : Up a b] : Up a (b.alloc o) := h.trans (Up.of_kept (Kept.alloc b o))
theorem Kept.drew (a : World) : Kept a a.drew := (Below.refl _ _).drew
theorem Kept.drewN (a : World) (n : Nat) : Kept a (a.drewN n) := ⟨rfl, rfl, rfl, Nat.le_refl _, fun _ _ => rfl⟩
instance Up.drew (a b : World) [h : Up a b] : Up a b.drew := h.trans (Up.of_kept (Kept.drew b))
instance Up.drewN (a b : World) (n : Nat) [h : Up a b] : Up a (b.drewN n) := h.trans (Up.of_kept (Kept.drewN b n))
theorem Kept.then {a b c : World} (h : Kept a b) (k : Kept b c) : Kept a c := h.trans (k.mono h.size)
theorem Kept.grown {a b c : World} (h : Kept a b) {row : Option Nat} (hg : b.grownBy c row) (hr : ∀ k, row = some k → a.heap.size ≤ k) : Kept a c := Below.grown h hg h.size hr
theorem Kept.cell {a b : World} (h : Kept a b) {p : Addr} {v : Value} (hc : a.cell? p = some v) : b.cell? p = some v := (Below.cell h (World.block_lt_of_cell? a p hc)).trans hc
theorem bcell {W w1 : World} (hb : Kept W w1) : (∀ b o, b < W.heap.size → w1.cell? ⟨b, o, none⟩ = W.cell? ⟨b, o, none⟩) ∧ (∀ b o, b < W.heap.size → w1.frozen? ⟨b, o, none⟩ = W.frozen? ⟨b, o, none⟩) :=
  ⟨fun b o h => Below.cell (p := ⟨b, o, none⟩) hb h, fun b o h => Below.frozen (p := ⟨b, o, none⟩) hb h⟩
theorem Typed.mk' {w : World} {k : Nat} {cs : Array Value} {T : TypeId} (h : w.heap[k]? = some (.cells cs T (0, 0))) : Typed w k T := ⟨⟨cs, h⟩⟩
theorem Typed.up {a b : World} {k : Nat} {T : TypeId} (t : Typed a k T) (h : Up a b) : Typed b k T := h.type k T t
theorem Typed.lt {a : World} {k : Nat} {T : TypeId} (t : Typed a k T) : k < a.heap.size := by obtain ⟨cs, h⟩ := t.out; exact h.lt
/-- A store into a block that holds no limbs. -/
theorem Up.set {a b : World} (h : Up a b) {k : Nat} {T : TypeId} (t : Typed b k T) (hT : T ≠ U32) (o : Nat) (u : Value) : Up a (b.setCell ⟨k, o, none⟩ u) := by
  refine h.trans ⟨by simp [World.setCell], fun i T' ti => ?_, fun i cs r => ?_⟩
  · obtain ⟨cs, r⟩ := ti.out
    by_cases e : i = k
    · subst e
      exact ⟨⟨_, heap_setCell_same b i o cs T' u r⟩⟩
    · exact ⟨⟨cs, (Below.heap_setCell b ⟨k, o, none⟩ u i e).trans r⟩⟩
  · refine (Below.heap_setCell b ⟨k, o, none⟩ u i ?_).trans r
    rintro rfl
    obtain ⟨cs', r'⟩ := t.out
    unfold Row? at r r'
    rw [r] at r'
    injection r' with r'
    injection r' with _ r'
    exact hT r'.symm
theorem Kept.set {a b : World} (h : Kept a b) {k : Nat} (hk : a.heap.size ≤ k) (o : Nat) (u : Value) : Kept a (b.setCell ⟨k, o, none⟩ u) := Below.setCell h (p := ⟨k, o, none⟩) hk u
/-! ### Limbs -/
/-- v is a slice of n limbs, those of s, in a block of S. -/
def Dg (w : World) (S : Nat → Prop) (v : Value) (s n : Nat) : Prop :=
  ∃ A c, v = .slice A n c ∧ n ≤ c ∧ ∀ i, i < n → ∃ b off cs, A = some ⟨b, off, none⟩ ∧ S b ∧ Row? w b cs U32 ∧ cs[off + i]? = some (.int .u32 (dig s i : Nat))
theorem Dg.up {w w1 : World} {S : Nat → Prop} {v : Value} {s n : Nat} (h : Dg w S v s n) (k : Up w w1) : Dg w1 S v s n := by
  obtain ⟨A, c, hv, hc, hx⟩ := h
  refine ⟨A, c, hv, hc, fun i hi => ?_⟩
  obtain ⟨b, off, cs, hA, hS, hr, hcell⟩ := hx i hi
  exact ⟨b, off, cs, hA, hS, k.limb b cs hr, hcell⟩
/-- Limbs are written into block g, which is none of S. -/
theorem Dg.far {w : World} {S : Nat → Prop} {v : Value} {s n : Nat} (h : Dg w S v s n) {g : Nat} (hg : ∀ k, S k → k ≠ g) (o : Nat) (u : Value) : Dg (w.setCell ⟨g, o, none⟩ u) S v s n := by
  obtain ⟨A, c, hv, hc, hx⟩ := h
  refine ⟨A, c, hv, hc, fun i hi => ?_⟩
  obtain ⟨b, off, cs, hA, hS, hr, hcell⟩ := hx i hi
  exact ⟨b, off, cs, hA, hS, (Below.heap_setCell w ⟨g, o, none⟩ u b (hg b hS)).trans hr, hcell⟩
theorem Dg.grown {w w1 : World} {S : Nat → Prop} {v : Value} {s n : Nat} (h : Dg w S v s n) {g : Nat} (hg : w.grownBy w1 (some g)) (hS : ∀ k, S k → k ≠ g) : Dg w1 S v s n := by
  obtain ⟨A, c, hv, hc, hx⟩ := h
  refine ⟨A, c, hv, hc, fun i hi => ?_⟩
  obtain ⟨b, off, cs, hA, hSb, hr, hcell⟩ := hx i hi
  exact ⟨b, off, cs, hA, hSb, (hg.block b hr.lt (by simpa using hS b hSb)).trans hr, hcell⟩
theorem Dg.mono {w : World} {S S' : Nat → Prop} {v : Value} {s n : Nat} (h : Dg w S v s n) (hs : ∀ k, S k → k < w.heap.size → S' k) : Dg w S' v s n := by
  obtain ⟨A, c, hv, hc, hx⟩ := h
  refine ⟨A, c, hv, hc, fun i hi => ?_⟩
  obtain ⟨b, off, cs, hA, hS, hr, hcell⟩ := hx i hi
  exact ⟨b, off, cs, hA, hs b hS hr.lt, hr, hcell⟩
theorem Dg.any {w : World} {S : Nat → Prop} {v : Value} {s n : Nat} (h : Dg w S v s n) : Dg w (fun _ => True) v s n := h.mono (fun _ _ _ => trivial)
theorem Dg.nil (w : World) (S : Nat → Prop) (s : Nat) : Dg w S (.slice none 0 0) s 0 := ⟨none, 0, rfl, Nat.le_refl _, fun _ hi => absurd hi (Nat.not_lt_zero _)⟩
theorem Dg.congr {w : World} {S : Nat → Prop} {v : Value} {s t n : Nat} (h : Dg w S v s n) (e : ∀ i, i < n → dig s i = dig t i) : Dg w S v t n := by
  obtain ⟨A, c, hv, hc, hx⟩ := h
  refine ⟨A, c, hv, hc, fun i hi => ?_⟩
  rw [← e i hi]; exact hx i hi
/-- The cells of limbs, as the walk asks for them. -/
def At (w : World) (A : Option Addr) (s n : Nat) : Prop := ∀ i, i < n → ∃ b off, A = some ⟨b, off, none⟩ ∧ w.cell? ⟨b, off + i, none⟩ = some (.int .u32 (dig s i : Nat))
theorem Dg.at {w : World} {S : Nat → Prop} {v : Value} {s n : Nat} (h : Dg w S v s n) : ∃ A c, v = .slice A n c ∧ n ≤ c ∧ At w A s n := by
  obtain ⟨A, c, hv, hc, hx⟩ := h
  refine ⟨A, c, hv, hc, fun i hi => ?_⟩
  obtain ⟨b, off, cs, hA, hS, hr, hcell⟩ := hx i hi
  exact ⟨b, off, hA, (cell_of_row w b (off + i) cs U32 (0, 0) hr).trans hcell⟩
theorem u64_wrap (x : Int) : IntKind.u64.wrap x = x % 18446744073709551616 := by unfold IntKind.wrap; rfl
theorem or_u64 {l p k : Nat} (hk : k ≤ 64) (hp : p < 2 ^ k) (h : l * 2 ^ k < 18446744073709551616) : bits .or .u64 ((l * 2 ^ k : Nat) : Int) (p : Int) = ((l * 2 ^ k + p : Nat) : Int) := by
  have h2 : p < 18446744073709551616 := Nat.lt_of_lt_of_le hp (Nat.le_trans (Nat.pow_le_pow_right (by decide) hk) (by decide))
  rw [u64_or_nat _ _ h h2, ← Nat.shiftLeft_eq, Nat.shiftLeft_add_eq_or_of_lt hp]
theorem or_u32 {l p k : Nat} (hk : k ≤ 32) (hp : p < 2 ^ k) (h : l * 2 ^ k < 4294967296) : bits .or .u32 ((l * 2 ^ k : Nat) : Int) (p : Int) = ((l * 2 ^ k + p : Nat) : Int) := by
  have h2 : p < 4294967296 := Nat.lt_of_lt_of_le hp (Nat.le_trans (Nat.pow_le_pow_right (by decide) hk) (by decide))
  rw [u32_or_nat _ _ h h2, ← Nat.shiftLeft_eq, Nat.shiftLeft_add_eq_or_of_lt hp]
/-- The cells of limbs, listed. -/
def lim (s n : Nat) : List Value := (List.range n).map fun i => Value.int .u32 ((dig s i : Nat) : Int)
theorem lim_length (s n : Nat) : (lim s n).length = n := by simp [lim]
theorem lim_get {s n i : Nat} (h : i < n) : (lim s n)[i]? = some (.int .u32 ((dig s i : Nat) : Int)) := by simp [lim, h]
theorem lim_one (s n : Nat) : ∀ u ∈ lim s n, u.oneCell' = true := by
  intro u hu
  obtain ⟨i, _, rfl⟩ := List.mem_map.mp hu
  rfl
theorem Dg.of_own {w : World} {base s n m : Nat} {v : Value} {l : List Value} (h : w.ownsRow base U32 1 v m l) (hm : m = n) (hl : l = lim s n) : Dg w (fun k => base ≤ k) v s n := by
  subst hm; subst hl
  rcases h.2 with ⟨rfl, rfl⟩ | ⟨g, cap, cur, rfl, hb, hh, hnc, _, hs, ht⟩
  · exact Dg.nil w _ s
  · refine ⟨_, _, rfl, hnc, fun i hi => ⟨g, 0, cur, rfl, hb, hh, ?_⟩⟩
    have h2 := lim_get (s := s) hi
    rw [← ht, List.getElem?_take, if_pos (by omega), Array.getElem?_toList] at h2
    rw [Nat.zero_add]; exact h2
theorem At.kept {w w1 : World} {A : Option Addr} {s n : Nat} (h : At w A s n) (k : Kept w w1) : At w1 A s n := fun i hi => by
  obtain ⟨b, off, e, hc⟩ := h i hi
  exact ⟨b, off, e, k.cell hc⟩
theorem At.cells_any {w : World} {ad : Addr} {s n : Nat} (h : At w (some ad) s n) : ∀ j u, (lim s n)[j]? = some u → w.cell? (ad.add j) = some u := by
  intro j u hu
  have hj : j < n := by
    rcases Nat.lt_or_ge j n with hj | hj
    · exact hj
    · rw [List.getElem?_eq_none (by rw [lim_length]; exact hj)] at hu; cases hu
  rw [lim_get hj] at hu
  obtain ⟨b', off', e, hc⟩ := h j hj
  injection e with e
  subst e
  rw [← hu, ← hc]
  unfold Addr.add
  split
  · subst j; rfl
  · rfl
theorem At.cells {w : World} {b off s n : Nat} (h : At w (some ⟨b, off, none⟩) s n) : ∀ j u, (lim s n)[j]? = some u → w.cell? ((⟨b, off, none⟩ : Addr).add j) = some u := by
  intro j u hu
  have hj : j < n := by
    rcases Nat.lt_or_ge j n with hj | hj
    · exact hj
    · rw [List.getElem?_eq_none (by rw [lim_length]; exact hj)] at hu; cases hu
  rw [lim_get hj] at hu
  obtain ⟨b', off', e, hc⟩ := h j hj
  injection e with e; injection e with e1 e2
  subst e1; subst e2
  rw [← hu, ← hc]
  unfold Addr.add
  split
  · subst j; rfl
  · rfl
/-- What a call leaves that makes limbs. -/
def MadeDg (w : World) (s n : Nat) (e : Ending) (w' : World) : Prop :=
  ∃ v, e = .returned v ∧ Dg w' (fun k => w.heap.size ≤ k) v s n ∧ Kept w w'
/-- v is a number's limbs. -/
class NatAt (w : World) (v : Value) (n : outParam Nat) : Prop where
  out : Dg w (fun _ => True) v n (size n)
abbrev NatS (w : World) (S : Nat → Prop) (v : Value) (n : Nat) : Prop := Dg w S v n (size n)
theorem NatS.lift {w : World} {S : Nat → Prop} {v : Value} {n : Nat} (h : NatS w S v n) : ∀ w1 [Up w w1], NatAt w1 v n := fun _ k => ⟨(Dg.up h k).any⟩
theorem NatAt.up {w : World} {v : Value} {n : Nat} (h : NatAt w v n) : ∀ w1 [Up w w1], NatAt w1 v n := fun _ k => ⟨h.out.up k⟩
/-- What a call leaves that makes a number. -/
abbrev MadeNat (w : World) (n : Nat) (e : Ending) (w' : World) : Prop := MadeDg w n (size n) e w'
theorem MadeDg.after {w w1 w' : World} {s n : Nat} {e : Ending} (k : Kept w w1) (h : MadeDg w1 s n e w') : MadeDg w s n e w' := by
  obtain ⟨v, he, hd, hk⟩ := h
  exact ⟨v, he, hd.mono (fun j hj _ => Nat.le_trans k.size hj), k.then hk⟩
theorem NatAt.at {w : World} {v : Value} {n : Nat} (h : NatAt w v n) : ∃ A c, v = .slice A (size n) c ∧ size n ≤ c ∧ At w A n (size n) := h.out.at
theorem But.set {w w1 : World} {g : Nat} (h : w.grownBy w1 (some g)) (o : Nat) (u : Value) : w.grownBy (w1.setCell ⟨g, o, none⟩ u) (some g) :=
  ⟨h.os, h.tape, h.output, by simp [World.setCell]; exact h.size, fun k hk hne => (Below.heap_setCell w1 ⟨g, o, none⟩ u k (by simpa using hne)).trans (h.block k hk hne)⟩
theorem But.drewN {w w1 : World} {g : Nat} (h : w.grownBy w1 (some g)) (n : Nat) : w.grownBy (w1.drewN n) (some g) := ⟨h.os, h.tape, h.output, h.size, h.block⟩
theorem But.then {w w1 w2 : World} {g : Nat} (h : w.grownBy w1 (some g)) (k : w1.grownBy w2 (some g)) : w.grownBy w2 (some g) :=
  ⟨k.os.trans h.os, k.tape.trans h.tape, k.output.trans h.output, Nat.le_trans h.size k.size, fun i hi hne => (k.block i (Nat.lt_of_lt_of_le hi h.size) hne).trans (h.block i hi hne)⟩
theorem At.grown {w w1 : World} {A : Option Addr} {s n g : Nat} (h : At w A s n) (hg : w.grownBy w1 (some g)) (hA : ∀ ad, A = some ad → 0 < n → ad.block ≠ g) : At w1 A s n := fun i hi => by
  obtain ⟨b, off, e, hc⟩ := h i hi
  exact ⟨b, off, e, hg.cell hc (by have := hA _ e (by omega); simpa using this)⟩
/-! ### Limbs that the call itself has made -/
/-- Block g holds these limbs, no more, and they are the call's own. -/
def Lb (w : World) (g : Nat) (xs : List Nat) : Prop := Row? w g (xs.map fun (x : Nat) => Value.int .u32 (x : Int)).toArray U32
theorem Lb.cell {w : World} {g : Nat} {xs : List Nat} (h : Lb w g xs) {i : Nat} (hi : i < xs.length) : w.cell? ⟨g, i, none⟩ = some (.int .u32 (xs.getD i 0 : Nat)) := by
  rw [cell_of_row w g i _ _ _ h]
  simp [hi]
theorem Lb.free {w : World} {g : Nat} {xs : List Nat} (h : Lb w g xs) (i : Nat) : w.frozen? ⟨g, i, none⟩ = false := frozen_of_row w g i _ _ h
theorem Lb.lt {w : World} {g : Nat} {xs : List Nat} (h : Lb w g xs) : g < w.heap.size := Row?.lt h
theorem Lb.set {w : World} {g : Nat} {xs : List Nat} (h : Lb w g xs) (i x : Nat) : Lb (w.setCell ⟨g, i, none⟩ (.int .u32 (x : Int))) g (xs.set i x) := by
  unfold Lb Row?
  rw [heap_setCell_same w g i _ _ _ h]
  congr 2
  apply Array.ext'
  simp [List.map_set]
theorem Lb.put {w : World} {g : Nat} {xs : List Nat} (h : Lb w g xs) (i : Nat) {u : Int} (x : Nat) (hu : u = (x : Int)) : Lb (w.setCell ⟨g, i, none⟩ (.int .u32 u)) g (xs.set i x) := by
  subst hu; exact h.set i x
theorem int_eq {k : IntKind} {x y : Int} (h : x = y) : Value.int k x = Value.int k y := by rw [h]
/-- The first k limbs are s's; one more is laid. -/
theorem first_set {xs : List Nat} {n k s x : Nat} (h : xs.length = n ∧ ∀ j, j < k → xs.getD j 0 = dig s j) (hk : k < n) (hx : x = dig s k) : (xs.set k x).length = n ∧ ∀ j, j < k + 1 → (xs.set k x).getD j 0 = dig s j := by
  refine ⟨by rw [List.length_set, h.1], fun j hj => ?_⟩
  by_cases e : j = k
  · subst e; rw [hx]; simp [List.getElem?_set, h.1, hk]
  · have := h.2 j (by omega)
    simp only [List.getD_eq_getElem?_getD, List.getElem?_set] at this ⊢
    rw [if_neg (fun e' => e e'.symm)]; exact this
theorem Lb.kept {w w1 : World} {g : Nat} {xs : List Nat} (h : Lb w g xs) (k : Kept w w1) : Lb w1 g xs := k.row h
theorem Lb.far {w : World} {g : Nat} {xs : List Nat} (h : Lb w g xs) {p : Addr} (hp : g ≠ p.block) (u : Value) : Lb (w.setCell p u) g xs := (Below.heap_setCell w p u g hp).trans h
theorem Lb.dg {w : World} {g : Nat} {xs : List Nat} (h : Lb w g xs) {s n : Nat} (hn : xs.length = n) (hx : ∀ i, i < n → xs.getD i 0 = dig s i) {S : Nat → Prop} (hS : S g) : Dg w S (.slice (some ⟨g, 0, none⟩) n n) s n := by
  refine ⟨_, _, rfl, Nat.le_refl _, fun i hi => ⟨g, 0, _, rfl, hS, h, ?_⟩⟩
  rw [Nat.zero_add, ← hx i hi]
  simp [hn, hi]
theorem Dg.at_own {w : World} {S : Nat → Prop} {A : Option Addr} {s n c : Nat} (h : Dg w S (.slice A n c) s n) : At w A s n := by
  obtain ⟨A', c', e, _, h⟩ := h.at
  injection e with e1 _ _
  subst e1; exact h
theorem Lb.of_own {w : World} {base g n : Nat} (h : w.ownsRow base U32 1 (.slice (some ⟨g, 0, none⟩) n n) n (madeCells #[.int .u32 0] (n * 1)).toList) : Lb w g (List.replicate n 0) := by
  rcases h.2 with ⟨h0, _⟩ | ⟨g', cap, cur, hv, hb, hh, _, _, hs, ht⟩
  · cases h0
  · simp only [Value.slice.injEq, Option.some.injEq, Addr.mk.injEq, and_true, true_and] at hv
    obtain ⟨rfl, rfl⟩ := hv
    unfold Lb Row?
    rw [hh]
    congr 2
    apply Array.ext'
    have : cur.toList.length = n * 1 := by rw [Array.length_toList, hs]
    rw [← this, List.take_length, toList_madeCells_one] at ht
    rw [ht]
    simp [hs]
/-! ### Rational numbers -/
/-- The three parts of a number. -/
def RatS (w : World) (S : Nat → Prop) (s : Bool) (vn vd : Value) (q : Rat) : Prop := s = ng q ∧ NatS w S vn (nm q) ∧ NatS w S vd q.den
class RatAt (w : World) (s : Bool) (vn vd : Value) (q : outParam Rat) : Prop where
  out : RatS w (fun _ => True) s vn vd q
theorem RatS.up {w w1 : World} {S : Nat → Prop} {s : Bool} {vn vd : Value} {q : Rat} (h : RatS w S s vn vd q) (k : Up w w1) : RatS w1 S s vn vd q := ⟨h.1, Dg.up h.2.1 k, Dg.up h.2.2 k⟩
theorem RatS.mono {w : World} {S S' : Nat → Prop} {s : Bool} {vn vd : Value} {q : Rat} (h : RatS w S s vn vd q) (hs : ∀ k, S k → k < w.heap.size → S' k) : RatS w S' s vn vd q := ⟨h.1, Dg.mono h.2.1 hs, Dg.mono h.2.2 hs⟩
theorem RatS.any {w : World} {S : Nat → Prop} {s : Bool} {vn vd : Value} {q : Rat} (h : RatS w S s vn vd q) : RatS w (fun _ => True) s vn vd q := h.mono (fun _ _ _ => trivial)
theorem RatS.at {w : World} {S : Nat → Prop} {s : Bool} {vn vd : Value} {q : Rat} (h : RatS w S s vn vd q) : ∀ w1 [Up w w1], RatAt w1 s vn vd q := fun _ k => ⟨(h.up k).any⟩
theorem RatAt.up {w : World} {s : Bool} {vn vd : Value} {q : Rat} (h : RatAt w s vn vd q) : ∀ w1 [Up w w1], RatAt w1 s vn vd q := fun _ k => ⟨h.out.up k⟩
/-- What a call leaves that makes a rational number. -/
def MadeRat (w : World) (q : Rat) (e : Ending) (w' : World) : Prop :=
  ∃ s vn vd, e = .returned (.agg #[.bool s, vn, vd]) ∧ RatS w' (fun _ => True) s vn vd q ∧ Kept w w'
theorem MadeRat.mk {w w' : World} {q : Rat} {s : Bool} {vn vd : Value} (h : RatS w' (fun _ => True) s vn vd q) (k : Kept w w') : MadeRat w q (.returned (.agg #[.bool s, vn, vd])) w' := ⟨s, vn, vd, rfl, h, k⟩
end Go.Proofs.Ytpclkgjhfhhddaa.V
/- Limbs: walks of the plain functions on them. -/
namespace Go.Proofs.Ytpclkgjhfhhddaa.V
open Go Go.RowKit Go.Proofs.Ytpclkgjhfhhddaa.PN
set_option linter.unusedVariables false
set_option linter.unusedSimpArgs false
set_option maxHeartbeats 1000000 in
theorem at_any (A : Option Addr) (c s n : Nat) (i : Int) (w : World) (ha : At w A s n) (hs : s < B ^ n) (hn : n ≤ 9223372036854775807) :
    Calls Try.prog 112 #[.slice A n c, .int .i64 i] w fun e w' => e = .returned (.int .u64 (if 0 ≤ i then (dig s i.toNat : Nat) else 0)) ∧ w = w' := by
  by_cases h0 : 0 ≤ i
  · rw [if_pos h0]
    by_cases h1 : i < n
    · obtain ⟨b, off, rfl, hcell⟩ := ha i.toNat (by omega)
      obtain ⟨k, rfl⟩ := Int.eq_ofNat_of_zero_le h0
      rw [Int.toNat_natCast] at *
      have hlt : dig s k < 4294967296 := dig_lt s k
      clear ha hs
      generalize dig s k = d at *
      go_enter Try.func112, Try.ntmps112
      go_wp2
      go_ret
      simp
    · have hz : dig s i.toNat = 0 := dig_over hs (by omega)
      rw [hz]
      clear ha hs hz
      go_enter Try.func112, Try.ntmps112
      go_wp2
      go_ret
      simp
  · rw [if_neg h0]
    clear ha hs
    go_enter Try.func112, Try.ntmps112
    go_wp2
    go_ret
    simp
theorem info_u32 : (Try.prog.info? U32).map (fun i => (i.zero, i.size, i.bytes)) = some (some (.int .u32 0), 1, 4) := by kernel_rfl
set_option maxHeartbeats 1000000 in
theorem clone_any (A : Option Addr) (c s n : Nat) (w : World) (ha : At w A s n) (hn : n ≤ 17592186044416) :
    Calls Try.prog 115 #[.slice A n c] w (MadeDg w s n) := by
  have hnil : ∀ W, (binOp .eql 41 (.slice A n c) (.slice none 0 0)).run Try.prog W = .ok (.bool A.isNone) W := fun W => Go.Lib.run_eql_slice_nil W 41 53 A n c 0 0 Try.underlying41
  cases A with
  | none =>
    obtain rfl : n = 0 := by
      rcases Nat.eq_zero_or_pos n with h | h
      · exact h
      · obtain ⟨_, _, e, _⟩ := ha 0 h; cases e
    simp only [Option.isNone_none] at hnil
    clear ha hn
    go_enter Try.func115, Try.ntmps115
    go_wp2
    go_ret
    exact ⟨_, rfl, Dg.nil _ _ _, Below.refl _ _⟩
  | some ad =>
    simp only [Option.isNone_some] at hnil
    obtain ⟨i0, hi, hz0, hz1, hz2⟩ := info_parts info_u32
    have HA := Lib.hid ha
    clear ha
    go_enter Try.func115, Try.ntmps115
    go_wp2_with (at_builtin; refine wpList_append_own _ rfl (.tmp 5) (.tmp 6) 41 rfl w.heap.size U32 i0 (.int .u32 0) 1 4 Try.underlying41 hi hz0 hz1 hz2 rfl (by decide) _ 0 [] rfl (World.ownsRow_made w #[] 0 (Nat.le_refl _) (by decide) rfl) ad n c (lim s n) rfl (by rw [lim_length, Nat.mul_one]) ?cl (lim_one s n) (by unfold maxLen; omega) (by omega) (Nat.le_of_lt (by simp)) ?_)
    case cl => exact (HA.out.kept (Kept.alloc w _)).cells_any
    · intro v' w' ho hg _
      go_wp2
      go_ret
      exact ⟨_, rfl, Dg.of_own ho (by omega) rfl, (Kept.alloc w _).grown hg (fun k hk => by simp [Value.ownBlock] at hk; omega)⟩
set_option maxHeartbeats 1000000 in
theorem cut_any (A : Option Addr) (c s n : Nat) (w : World) (hc : n ≤ c) (ha : At w A s n) (hs : s < B ^ n) (hn : n ≤ 17592186044416) :
    Calls Try.prog 109 #[.slice A n c] w (MadeDg w s (size s)) := by
  have HA := Lib.hid ha
  have HS := Lib.hid hs
  clear ha hs
  go_enter Try.func109, Try.ntmps109
  go_wp2
  go_loop [3] (fun i => ∃ k : Nat, k ≤ n ∧ i = .int .i64 k ∧ Hid (s < B ^ k)) (fun i => (intOf i).toNat)
  case atStart => exact ⟨n, Nat.le_refl _, rfl, HS⟩
  case round =>
    clear HS
    obtain ⟨k, hk, rfl, HS⟩ := hrel
    have HE : Hid ((∃ j, k = j + 1 ∧ dig s j = 0) ∨ k = size s) := by
      rcases Nat.eq_zero_or_pos k with h | h
      · subst h
        right
        have := (lt_iff s 0).1 HS.out
        omega
      · obtain ⟨j, rfl⟩ : ∃ j, k = j + 1 := ⟨k - 1, by omega⟩
        by_cases h0 : dig s j = 0
        · exact Or.inl ⟨j, rfl, h0⟩
        · exact Or.inr (size_of_top HS.out h0).symm
    rcases HE.out with h | h
    · obtain ⟨j, rfl, h0⟩ := h
      obtain ⟨b, off, rfl, hcell⟩ := HA.out j (by omega)
      rw [h0] at hcell
      have HZ := Lib.hid (size_cut HS.out h0)
      clear h0 HE HS
      go_wp2
      go_round
      case rel => exact ⟨j, by omega, by go_num, HZ⟩
      case measure => simp [intOf]
    · clear HE
      rcases Nat.eq_zero_or_pos k with h0 | h0
      · subst h0
        have HE := Lib.hid h
        clear h HS
        go_wp2_with (go_at_call 115; refine (clone_any _ _ s 0 _ (fun i hi => absurd hi (Nat.not_lt_zero i)) (by omega)).mono ?_; rintro e w' ⟨v, rfl, hv, hk⟩)
        go_ret
        rw [← HE.out]
        exact ⟨_, rfl, hv, hk⟩
      · obtain ⟨b, off, rfl, hcell⟩ := HA.out (k - 1) (by omega)
        have hne : dig s (k - 1) ≠ 0 := by rw [h]; exact top_ne (fun e => by rw [e] at h; simp [size] at h; omega)
        obtain ⟨d, hd⟩ : ∃ d, d = dig s (k - 1) := ⟨_, rfl⟩
        rw [← hd] at hcell hne
        have hd0 : ((d : Int) == 0) = false := by simp; exact hne
        obtain ⟨j, rfl⟩ : ∃ j, k = j + 1 := ⟨k - 1, by omega⟩
        rw [Nat.add_sub_cancel] at hcell
        have HE := Lib.hid h
        clear h HS hd hne
        go_wp2_with (go_at_call 115; refine (clone_any _ _ s (j + 1) _ (fun i hi => HA.out i (by omega)) (by omega)).mono ?_; rintro e w' ⟨v, rfl, hv, hk⟩)
        go_ret
        rw [← HE.out]
        exact ⟨_, rfl, hv, hk⟩
end Go.Proofs.Ytpclkgjhfhhddaa.V
/- Limbs: walks: a small number made, the right form, which is greater. -/
namespace Go.Proofs.Ytpclkgjhfhhddaa.V
open Go Go.RowKit Go.Proofs.Ytpclkgjhfhhddaa.PN
set_option linter.unusedVariables false
set_option linter.unusedSimpArgs false
theorem at_two (w : World) (x : Nat) (hx : x < 18446744073709551616) : At (w.alloc (.cells #[.int .u32 ((x : Int) % 4294967296), .int .u32 ((x : Int) / 4294967296)] U32)) (some ⟨w.heap.size, 0, none⟩) x 2 := by
  intro i hi
  refine ⟨w.heap.size, 0, rfl, ?_⟩
  rw [cell_of_row _ _ _ _ _ _ (heap_alloc_new w _)]
  match i, hi with
  | 0, _ => rw [dig_at_zero]; rfl
  | 1, _ => unfold dig; rw [Nat.pow_one, Nat.mod_eq_of_lt (by simp only [B]; omega)]; rfl
set_option maxHeartbeats 1000000 in
theorem of_any (x : Nat) (w : World) (hx : x < 18446744073709551616) : Calls Try.prog 108 #[.int .u64 (x : Int)] w (MadeNat w x) := by
  go_enter Try.func108, Try.ntmps108
  go_wp2_with (go_at_call 109; refine (cut_any _ 2 x 2 _ (by omega) (at_two w x hx) hx (by omega)).mono ?_; rintro e w' ⟨v, rfl, hv, hk⟩)
  go_ret
  exact MadeDg.after (Kept.alloc w _) ⟨_, rfl, hv, hk⟩
set_option maxHeartbeats 1000000 in
theorem right_any (A : Option Addr) (c s n : Nat) (w : World) (ha : At w A s n) (hs : s < B ^ n) (hn : n ≤ 17592186044416) :
    Calls Try.prog 95 #[.slice A n c] w fun e w' => e = .returned (.bool (decide (n = size s))) ∧ w = w' := by
  rcases Nat.eq_zero_or_pos n with h | h
  · subst h
    have h1 : decide (0 = size s) = true := by have := (lt_iff s 0).1 hs; simp; omega
    rw [h1]
    clear ha hs h1
    go_enter Try.func95, Try.ntmps95
    go_wp2
    go_ret
    simp
  · obtain ⟨k, rfl⟩ : ∃ k, n = k + 1 := ⟨n - 1, by omega⟩
    obtain ⟨b, off, rfl, hcell⟩ := ha k (by omega)
    have h1 : decide (k + 1 = size s) = !decide ((dig s k : Int) = 0) := by
      by_cases h0 : dig s k = 0
      · have := (lt_iff s k).1 (size_cut hs h0)
        rw [h0]; simp; omega
      · rw [size_of_top hs h0]; simp; exact h0
    rw [h1]
    have hk : ((k : Int) + 1 == 0) = false := by simp; omega
    clear ha hs h1
    generalize dig s k = d at *
    go_enter Try.func95, Try.ntmps95
    go_wp2
    go_ret
    exact ⟨congrArg (fun b => Ending.returned (.bool b)) (by rw [Bool.eq_iff_iff]; simp), rfl⟩
set_option maxHeartbeats 1000000 in
theorem cmp_any (A : Option Addr) (c a : Nat) (A' : Option Addr) (c' b : Nat) (w : World) (ha : At w A a (size a)) (hb : At w A' b (size b)) (hn : size a ≤ 17592186044416) (hm : size b ≤ 17592186044416) :
    Calls Try.prog 96 #[.slice A (size a) c, .slice A' (size b) c'] w fun e w' => e = .returned (.int .i64 (cmpI a b)) ∧ Kept w w' := by
  rcases Nat.lt_trichotomy (size a) (size b) with h | h | h
  · rw [cmp_lt (lt_of_size h)]
    clear ha hb
    generalize size a = n at *
    generalize size b = m at *
    have h1 : ((n : Int) != m) = true := by simp; omega
    go_enter Try.func96, Try.ntmps96
    go_wp2
    go_ret
    exact ⟨rfl, Below.refl _ _⟩
  · rw [← h] at hb ⊢
    have HE : Hid (a / B ^ size a = b / B ^ size a) := by
      show _ = _
      rw [Nat.div_eq_of_lt (lt_size a), Nat.div_eq_of_lt (by rw [h]; exact lt_size b)]
    have HA := Lib.hid ha
    have HB := Lib.hid hb
    clear ha hb h hm
    generalize size a = n at *
    have h1 : ((n : Int) != n) = false := by simp
    go_enter Try.func96, Try.ntmps96
    go_wp2
    go_loopw [5] (fun i wr => ∃ x : Int, -1 ≤ x ∧ x < n ∧ i = .int .i64 x ∧ Hid (a / B ^ (x + 1).toNat = b / B ^ (x + 1).toNat) ∧ Hid (Kept w wr)) (fun i _ => (intOf i + 1).toNat)
    case atStart => exact ⟨(n : Int) - 1, by omega, by omega, rfl, by rw [show ((n : Int) - 1 + 1).toNat = n by omega]; exact HE, Below.refl _ _⟩
    case round =>
      clear HE
      obtain ⟨x, hx0, hx1, rfl, HE, HK⟩ := hrel
      by_cases h0 : x = -1
      · subst h0
        go_wp2
        go_ret
        have : a = b := by simpa using HE.out
        rw [this, cmp_eq]
        exact ⟨rfl, HK.out⟩
      · obtain ⟨k, rfl⟩ := Int.eq_ofNat_of_zero_le (show 0 ≤ x by omega)
        obtain ⟨b1, o1, rfl, c1⟩ := HA.out k (by omega)
        obtain ⟨b2, o2, rfl, c2⟩ := HB.out k (by omega)
        replace c1 := HK.out.cell c1
        replace c2 := HK.out.cell c2
        obtain ⟨p, hp⟩ : ∃ p, dig a k = p := ⟨_, rfl⟩
        obtain ⟨q, hq⟩ : ∃ q, dig b k = q := ⟨_, rfl⟩
        rw [hp] at c1
        rw [hq] at c2
        have HP := Lib.hid hp
        have HQ := Lib.hid hq
        clear hp hq
        have hlow : ∀ x y : Nat, x = y → Kept w wr → True := fun _ _ _ _ => trivial
        clear hlow h0 hx0
        have HE' : Hid (a / B ^ (k + 1) = b / B ^ (k + 1)) := HE
        clear HE
        rcases Nat.lt_trichotomy p q with h | h | h
        · have h2 : ((p : Int) != q) = true := by simp; omega
          go_wp2
          go_quiet (fail)
          go_wp2
          go_quiet (fail)
          go_wp2
          go_ret
          rw [cmp_lt (lt_of_dig HE'.out (by rw [HP.out, HQ.out]; exact h))]
          exact ⟨rfl, (HK.out.then (Kept.drewN _ _)).then (Kept.drewN _ _)⟩
        · subst h
          have h2 : ((p : Int) != p) = false := by simp
          go_wp2
          go_quiet (fail)
          go_wp2
          go_roundw
          case rel => exact ⟨(k : Int) - 1, by omega, by omega, rfl, by
            rw [show ((k : Int) - 1 + 1).toNat = k by omega]
            show _ = _
            rw [div_succ a k, div_succ b k, HE'.out, HP.out, HQ.out], HK.out.then (Kept.drewN _ _)⟩
          case measure => simp [intOf]
        · have h2 : ((p : Int) != q) = true := by simp; omega
          go_wp2
          go_quiet (fail)
          go_wp2
          go_quiet (fail)
          go_wp2
          go_ret
          rw [cmp_gt (lt_of_dig HE'.out.symm (by rw [HP.out, HQ.out]; exact h))]
          exact ⟨rfl, (HK.out.then (Kept.drewN _ _)).then (Kept.drewN _ _)⟩
  · rw [cmp_gt (lt_of_size h)]
    clear ha hb
    generalize size a = n at *
    generalize size b = m at *
    have h1 : ((n : Int) != m) = true := by simp; omega
    go_enter Try.func96, Try.ntmps96
    go_wp2
    go_ret
    exact ⟨rfl, Below.refl _ _⟩
end Go.Proofs.Ytpclkgjhfhhddaa.V

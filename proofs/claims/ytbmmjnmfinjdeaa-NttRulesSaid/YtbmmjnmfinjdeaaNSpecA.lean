/- What the printed functions of the field, powers and transforms answer, in numbers by the prime. -/
import Derived.Test.YtbmmjnmfinjdeaaF2
import Derived.Test.YtbmmjnmfinjdeaaF2
import Derived.Test.YtbmmjnmfinjdeaaNConv
namespace Go.Proofs.Ytbmmjnmfinjdeaa.F
open Go.RowKit Go.Proofs.YtbmmjnmfinjdeaaW.PrintWords Go.Proofs.YtbmmjnmfinjdeaaW.PrintLast Go.Proofs.YtbmmjnmfinjdeaaW.PrintMore
open Go.Proofs.Ytbmmjnmfinjdeaa.NM (F S pw fp W WI X rev dft conv nf)
set_option linter.unusedVariables false
set_option linter.unusedSimpArgs false
namespace Spec
theorem u64w {x : Int} (h0 : 0 ≤ x) (h1 : x < 18446744073709551616) : IntKind.u64.wrap x = x := by
  have e : IntKind.u64.wrap x = x % 18446744073709551616 := by simp [IntKind.wrap, IntKind.bits, IntKind.signed]
  rw [e]; omega
theorem w64 {x : Int} (h0 : -9223372036854775808 ≤ x) (h1 : x < 9223372036854775808) : wrap64 x = x := by unfold wrap64; omega
/-- A number's value. -/
def v (x : F) : Int := (x.val : Int)
theorem v_nonneg (x : F) : 0 ≤ v x := by unfold v; omega
theorem v_lt (x : F) : v x < 998244353 := by unfold v; have := x.isLt; omega
theorem v_inj {x y : F} (h : v x = v y) : x = y := by unfold v at h; apply Fin.ext; omega
theorem v_one : v 1 = 1 := rfl
theorem v_zero : v 0 = 0 := rfl
theorem v_ofNat (n : Nat) (h : n < 998244353) : v (Fin.ofNat 998244353 n) = n := by unfold v; show ((n % 998244353 : Nat) : Int) = n; rw [Nat.mod_eq_of_lt h]
theorem v_nf (n : Nat) : v (nf n) = (n % 998244353 : Nat) := by rfl
theorem v_mul (a b : F) : v (a * b) = (v a * v b) % 998244353 := by
  unfold v; rw [Fin.val_mul, Int.natCast_emod, Int.natCast_mul]; rfl
theorem v_add (a b : F) : v (a + b) = (v a + v b) % 998244353 := by
  unfold v; rw [Fin.val_add, Int.natCast_emod, Int.natCast_add]; rfl
theorem v_sub (a b : F) : v (a - b) = (v a + 998244353 - v b) % 998244353 := by
  have h : a - b + b = a := by grind
  have h2 := v_add (a - b) b
  rw [h] at h2
  have := v_nonneg (a - b); have := v_lt (a - b); have := v_nonneg b; have := v_lt b; have := v_nonneg a; have := v_lt a
  omega
theorem prod_lt (a b : F) : v a * v b < 18446744073709551616 := by
  have h1 := v_lt a; have h2 := v_lt b; have h3 := v_nonneg a; have h4 := v_nonneg b
  have := Int.mul_le_mul (show v a ≤ 998244352 by omega) (show v b ≤ 998244352 by omega) h4 (by omega)
  omega
theorem tmod_p {x : Int} (h : 0 ≤ x) : Int.tmod x 998244353 = x % 998244353 := Int.tmod_eq_emod_of_nonneg h
theorem mulmod (a b : F) : Int.tmod (IntKind.u64.wrap ((IntKind.u64.wrap (v a)) * (IntKind.u64.wrap (v b)))) 998244353 = v (a * b) := by
  have h1 := v_lt a; have h2 := v_lt b; have h3 := v_nonneg a; have h4 := v_nonneg b
  have h5 := prod_lt a b
  have h6 : 0 ≤ v a * v b := Int.mul_nonneg h3 h4
  rw [u64w h3 (by omega), u64w h4 (by omega), u64w h6 h5, tmod_p h6, v_mul]
theorem small32 {x : Int} (h0 : 0 ≤ x) (h1 : x < 998244353) : x % 4294967296 = x := by omega
theorem times (a b : F) : ntt_field_times.f (v a) (v b) = some (v (a * b)) := by
  unfold ntt_field_times.f
  rw [mulmod, small32 (v_nonneg _) (v_lt _)]
theorem rtimes (a b : F) : anticlineref8_times.f (v a) (v b) = some (v (a * b)) := by
  unfold anticlineref8_times.f
  rw [mulmod, small32 (v_nonneg _) (v_lt _)]
theorem plus (a b : F) : ntt_field_plus.f (v a) (v b) = some (v (a + b)) := by
  unfold ntt_field_plus.f
  have h1 := v_lt a; have h2 := v_lt b; have h3 := v_nonneg a; have h4 := v_nonneg b
  rw [u64w h3 (by omega), u64w h4 (by omega), u64w (by omega) (by omega), tmod_p (by omega), v_add]
  congr 1; omega
theorem less (a b : F) : ntt_field_less.f (v a) (v b) = some (v (a - b)) := by
  unfold ntt_field_less.f ntt_field_plus.f
  have h1 := v_lt a; have h2 := v_lt b; have h3 := v_nonneg a; have h4 := v_nonneg b
  have e1 : v b % 998244353 = v b := by omega
  have e2 : (998244353 - v b) % 4294967296 = 998244353 - v b := by omega
  rw [tmod_p h4, e1, e2, u64w h3 (by omega), u64w (x := 998244353 - v b) (by omega) (by omega), u64w (x := v a + (998244353 - v b)) (by omega) (by omega), tmod_p (by omega), v_sub]
  simp only [Option.bind_some]
  congr 1; omega
theorem and_one {n : Int} (h0 : 0 ≤ n) (h1 : n < 18446744073709551616) : Go.bits .and .u64 n 1 = n % 2 := by
  obtain ⟨m, rfl⟩ := Int.eq_ofNat_of_zero_le h0
  have h := Go.u64_and_nat m 1 (by omega) (by omega)
  have e : ((1 : Nat) : Int) = 1 := rfl
  rw [e] at h
  rw [h, Nat.and_one_is_mod]; omega
theorem power_l0 : ∀ (k : Nat) (a : F) (n : Int) (o : F), 0 ≤ n → n < 2 ^ k → n < 18446744073709551616 → ntt_field_power.l0 (k + 1) (v a) n (v o) = some (v (o * pw a n.toNat)) := by
  intro k
  induction k with
  | zero =>
    intro a n o h0 h1 _
    obtain rfl : n = 0 := by omega
    simp only [ntt_field_power.l0]
    rw [if_neg (by omega)]
    simp only [Int.toNat_zero, NM.pw_zero]
    congr 2; grind
  | succ k ih =>
    intro a n o h0 h1 h2
    rw [ntt_field_power.l0]
    by_cases hn : n > 0
    · rw [if_pos hn, and_one h0 h2]
      have hh : n / 2 < 2 ^ k := by rw [Int.pow_succ] at h1; omega
      have sq : pw (a * a) (n / 2).toNat = pw a (2 * (n / 2).toNat) := by rw [NM.pw_mul, show pw a 2 = a * a from by rw [NM.pw_succ, NM.pw_one]]
      by_cases o2 : n % 2 = 1
      · rw [if_pos o2, times, times]
        simp only [Option.bind_some]
        rw [ih _ _ _ (by omega) hh (by omega), sq]
        have : pw a n.toNat = pw a (2 * (n / 2).toNat) * a := by rw [← NM.pw_succ]; congr 1; omega
        rw [this]; congr 2; grind
      · rw [if_neg o2, times]
        simp only [Option.bind_some]
        rw [ih _ _ _ (by omega) hh (by omega), sq]
        have : pw a n.toNat = pw a (2 * (n / 2).toNat) := by congr 1; omega
        rw [this]
    · rw [if_neg hn]
      obtain rfl : n = 0 := by omega
      simp only [Int.toNat_zero, NM.pw_zero]
      congr 2; grind
theorem power (a : F) (n : Int) (h0 : 0 ≤ n) (h1 : n < 18446744073709551616) : Ev (fun k => ntt_field_power.f k (v a) n) (v (pw a n.toNat)) := by
  refine Ev.of (fun k => ntt_field_power.mono _ _ k) (k := 65) ?_
  have := power_l0 64 a n 1 h0 (by omega) h1
  rw [v_one] at this
  unfold ntt_field_power.f
  rw [this]; congr 2; grind
theorem inverse (a : F) : Ev (fun k => ntt_field_inverse.f k (v a)) (v (pw a 998244351)) := by
  have h := power a 998244351 (by omega) (by omega)
  have e : (998244351 : Int).toNat = 998244351 := rfl
  rw [e] at h
  exact Ev.bind h (Ev.now _)
theorem pow (a : F) (n : Int) (h0 : -9223372036854775808 < n) (h1 : n < 9223372036854775808) (x : Int) (hx : Int.tmod x 998244353 = v a) :
    Ev (fun k => ntt_Pow.f k x n) (v (if n < 0 then pw (pw a 998244351) (-n).toNat else pw a n.toNat)) := by
  unfold ntt_Pow.f
  by_cases h : n < 0
  · simp only [if_pos h, hx]
    refine Ev.bind (inverse a) ?_
    rw [w64 (by omega) (by omega), u64w (by omega) (by omega)]
    exact Ev.bind (power _ _ (by omega) (by omega)) (Ev.now _)
  · simp only [if_neg h, hx]
    rw [u64w (by omega) (by omega)]
    exact Ev.bind (power _ _ (by omega) (by omega)) (Ev.now _)
theorem rpow_l0 : ∀ (k : Nat) (a : F) (n : Int) (o : F), 0 ≤ n → n < 2 ^ k → n < 9223372036854775808 → anticlineref8_Pow.l0 (k + 1) (v a) n (v o) = some (v (o * pw a n.toNat)) := by
  intro k
  induction k with
  | zero =>
    intro a n o h0 h1 _
    obtain rfl : n = 0 := by omega
    simp only [anticlineref8_Pow.l0]
    rw [if_neg (by omega)]
    simp only [Int.toNat_zero, NM.pw_zero]
    congr 2; grind
  | succ k ih =>
    intro a n o h0 h1 h2
    rw [anticlineref8_Pow.l0]
    by_cases hn : n > 0
    · rw [if_pos hn, Int.tmod_eq_emod_of_nonneg h0, Int.tdiv_eq_ediv_of_nonneg h0, w64 (by omega) (by omega)]
      have hh : n / 2 < 2 ^ k := by rw [Int.pow_succ] at h1; omega
      have sq : pw (a * a) (n / 2).toNat = pw a (2 * (n / 2).toNat) := by rw [NM.pw_mul, show pw a 2 = a * a from by rw [NM.pw_succ, NM.pw_one]]
      by_cases o2 : n % 2 = 1
      · rw [if_pos o2, rtimes, rtimes]
        simp only [Option.bind_some]
        rw [ih _ _ _ (by omega) hh (by omega), sq]
        have : pw a n.toNat = pw a (2 * (n / 2).toNat) * a := by rw [← NM.pw_succ]; congr 1; omega
        rw [this]; congr 2; grind
      · rw [if_neg o2, rtimes]
        simp only [Option.bind_some]
        rw [ih _ _ _ (by omega) hh (by omega), sq]
        have : pw a n.toNat = pw a (2 * (n / 2).toNat) := by congr 1; omega
        rw [this]
    · rw [if_neg hn]
      obtain rfl : n = 0 := by omega
      simp only [Int.toNat_zero, NM.pw_zero]
      congr 2; grind
theorem rpow_pos (a : F) (n : Int) (h0 : 0 ≤ n) (h1 : n < 9223372036854775808) (x : Int) (hx : Int.tmod x 998244353 = v a) : Ev (fun k => anticlineref8_Pow.f k x n) (v (pw a n.toNat)) := by
  refine Ev.of (fun k => anticlineref8_Pow.mono _ _ k) (k := 65) ?_
  have := rpow_l0 63 a n 1 h0 (by omega) h1
  rw [v_one] at this
  rw [anticlineref8_Pow.f]
  rw [if_neg (by omega), hx]
  refine this.trans ?_
  congr 2; grind
theorem rpow (a : F) (n : Int) (h0 : -9223372036854775808 < n) (h1 : n < 9223372036854775808) (x : Int) (hx : Int.tmod x 998244353 = v a) :
    Ev (fun k => anticlineref8_Pow.f k x n) (v (if n < 0 then pw (pw a 998244351) (-n).toNat else pw a n.toNat)) := by
  by_cases h : n < 0
  · refine Ev.step (f := fun k => (anticlineref8_Pow.f k (Int.tmod x 998244353) 998244351).bind fun t => (anticlineref8_Pow.f k t (wrap64 (-n))).bind fun t2 => some t2) (fun k => by simp only [anticlineref8_Pow.f]; rw [if_pos h]) ?_
    rw [hx, if_pos h]
    have hv : ∀ y : F, Int.tmod (v y) 998244353 = v y := fun y => by rw [tmod_p (v_nonneg y)]; have := v_nonneg y; have := v_lt y; omega
    have hi := rpow_pos a 998244351 (by omega) (by omega) (v a) (hv a)
    have e : (998244351 : Int).toNat = 998244351 := rfl
    rw [e] at hi
    refine Ev.bind hi ?_
    rw [w64 (by omega) (by omega)]
    exact Ev.bind (rpow_pos _ _ (by omega) (by omega) _ (hv _)) (Ev.now _)
  · rw [if_neg h]
    exact rpow_pos a n (by omega) h1 x hx
end Spec
end Go.Proofs.Ytbmmjnmfinjdeaa.F

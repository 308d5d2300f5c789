/- Joined texts, 1: NatC NatD NatE NatF NatG NatH NatI NatJ. -/
import Derived.Test.YtpclkgjhfhhddaaJLawGenChecks0
import Derived.Deep.RegionWith
set_option linter.unusedVariables false
set_option linter.unusedSimpArgs false
/- Limbs: walks: sums. -/
namespace Go.Proofs.Ytpclkgjhfhhddaa.V
open Go Go.RowKit Go.Proofs.Ytpclkgjhfhhddaa.PN
set_option linter.unusedVariables false
set_option linter.unusedSimpArgs false
theorem at_nat (A : Option Addr) (c s n k p : Nat) (w : World) (ha : At w A s n) (hs : s < B ^ n) (hn : n ≤ 9223372036854775807) (hp : dig s k = p) :
    Calls Try.prog 112 #[.slice A n c, .int .i64 (k : Int)] w fun e w' => e = .returned (.int .u64 (p : Int)) ∧ w = w' := by
  have h := at_any A c s n k w ha hs hn
  rw [if_pos (Int.natCast_nonneg k), Int.toNat_natCast, hp] at h
  exact h
set_option maxRecDepth 100000 in
set_option maxHeartbeats 1000000 in
theorem add_any (A : Option Addr) (c a : Nat) (A' : Option Addr) (c' b : Nat) (w : World) (ha : At w A a (size a)) (hb : At w A' b (size b)) (hn : size a ≤ 17592186044415) (hm : size b ≤ 17592186044415) :
    Calls Try.prog 103 #[.slice A (size a) c, .slice A' (size b) c'] w (MadeNat w (a + b)) := by
  obtain ⟨i0, hi, hz0, hz1, hz2⟩ := info_parts info_u32
  have sa := Lib.hid (lt_size a); have sb := Lib.hid (lt_size b)
  have HA := Lib.hid ha
  have HB := Lib.hid hb
  clear ha hb
  generalize size a = n at *
  generalize size b = m at *
  obtain ⟨N, hN1, hN2, hN3, hmx⟩ : ∃ N : Nat, n ≤ N ∧ m ≤ N ∧ N ≤ 17592186044415 ∧ (n < m ∧ N = m ∨ m ≤ n ∧ N = n) := by
    rcases Nat.lt_or_ge n m with h | h
    · exact ⟨m, by omega, Nat.le_refl _, hm, Or.inl ⟨h, rfl⟩⟩
    · exact ⟨n, Nat.le_refl _, h, hn, Or.inr ⟨h, rfl⟩⟩
  have HS : Hid (a + b < B ^ (N + 1)) := by
    show _ < _
    rw [Nat.pow_succ]
    have h1 := Nat.lt_of_lt_of_le sa.out (Nat.pow_le_pow_right (show 0 < B by decide) hN1)
    have h2 := Nat.lt_of_lt_of_le sb.out (Nat.pow_le_pow_right (show 0 < B by decide) hN2)
    have : B ^ N * 2 ≤ B ^ N * B := Nat.mul_le_mul_left _ (by decide)
    omega
  rcases hmx with ⟨hlt, rfl⟩ | ⟨hlt, rfl⟩
  all_goals
    go_enter Try.func103, Try.ntmps103
    go_wp2_with (at_make; refine wpList_make_full _ rfl _ _ 41 rfl w.heap.size U32 i0 (.int .u32 0) 1 Try.underlying41 hi hz0 hz1 _ _ _ _ (N + 1) rfl rfl (by omega) (by omega) (by rw [hz2]; omega) (by unfold maxLen; omega) (Nat.le_refl _) ?_; intro w1 hown hgrow; have HL := Lib.hid (Lb.of_own hown); have HK := Lib.hid (Kept.grown (Below.refl _ _) hgrow (fun k hk => by cases hk) : Kept w w1); clear hown hgrow)
    go_loopw [6, 17] (fun cy i wr => ∃ (k : Nat) (xs : List Nat), k ≤ N + 1 ∧ i = .int .i64 k ∧ cy = .int .u64 (car a b k : Nat) ∧ Hid (xs.length = N + 1 ∧ ∀ j, j < k → xs.getD j 0 = dig (a + b) j) ∧ Hid (Lb wr w.heap.size xs) ∧ Hid (Kept w wr)) (fun _ i _ => N + 1 - (intOf i).toNat)
    case atStart => exact ⟨0, _, Nat.zero_le _, rfl, by rw [car_zero]; rfl, ⟨by simp, fun j hj => absurd hj (Nat.not_lt_zero j)⟩, HL, HK⟩
    case round =>
      clear HL HK
      obtain ⟨k, xs, hk, rfl, rfl, HX, HL, HK⟩ := hrel
      have hcar := car_le a b k
      by_cases hlt : k < N + 1
      · obtain ⟨p, hp⟩ : ∃ p, dig a k = p := ⟨_, rfl⟩
        obtain ⟨q, hq⟩ : ∃ q, dig b k = q := ⟨_, rfl⟩
        have hp1 : p < 4294967296 := by rw [← hp]; exact dig_lt a k
        have hq1 : q < 4294967296 := by rw [← hq]; exact dig_lt b k
        have HC := Lib.hid (car_succ a b k)
        have HD := Lib.hid (dig_add a b k)
        rw [hp, hq] at HC HD
        have HP := Lib.hid hp
        have HQ := Lib.hid hq
        have c0 := HL.out.cell (i := k) (by rw [HX.out.1]; omega)
        have z0 := HL.out.free k
        clear hp hq
        generalize car a b k = y at *
        generalize xs.getD k 0 = x0 at c0
        go_wp2_with (go_at_call 112; first | ((with_reducible refine (at_nat _ _ a _ k p _ (HA.out.kept HK.out) sa.out (by omega) HP.out).mono ?_); rintro e w' ⟨rfl, rfl⟩) | ((with_reducible refine (at_nat _ _ b _ k q _ (HB.out.kept HK.out) sb.out (by omega) HQ.out).mono ?_); rintro e w' ⟨rfl, rfl⟩))
        go_roundw
        case measure => simp [intOf]; omega
        case rel => exact ⟨k + 1, xs.set k ((y + p + q) % B), by omega, by go_num, int_eq (by rw [HC.out]; simp only [B]; omega), first_set HX.out hlt HD.out.symm, HL.out.put k _ (by simp only [B]; omega), HK.out.set (Nat.le_refl _) _ _⟩
      · have HE := Lib.hid (show k = N + 1 by omega)
        go_wp2_with (go_at_call 109; refine (cut_any _ _ (a + b) _ _ (Nat.le_refl _) ((Lb.dg HL.out HX.out.1 (s := a + b) (fun i hi => HX.out.2 i (by rw [HE.out]; exact hi)) (S := fun _ => True) trivial).at_own) HS.out (by omega)).mono ?_; rintro e w' ⟨v, rfl, hv, hk⟩)
        go_ret
        exact MadeDg.after HK.out ⟨_, rfl, hv, hk⟩
end Go.Proofs.Ytpclkgjhfhhddaa.V
/- Limbs: walks: differences, products. -/
namespace Go.Proofs.Ytpclkgjhfhhddaa.V
open Go Go.RowKit Go.Proofs.Ytpclkgjhfhhddaa.PN
set_option linter.unusedVariables false
set_option linter.unusedSimpArgs false
/-- What a call leaves that makes limbs and tells that all is well. -/
def MadeDgOk (w : World) (s n : Nat) (x : Int) (e : Ending) (w' : World) : Prop :=
  ∃ v, e = .returned (.tuple #[v, .int .i64 x]) ∧ Dg w' (fun k => w.heap.size ≤ k) v s n ∧ Kept w w'
set_option maxHeartbeats 1000000 in
theorem sub_less (A : Option Addr) (c a : Nat) (A' : Option Addr) (c' b : Nat) (w : World) (ha : At w A a (size a)) (hb : At w A' b (size b)) (hn : size a ≤ 17592186044415) (hm : size b ≤ 17592186044415) (hab : a < b) :
    Calls Try.prog 104 #[.slice A (size a) c, .slice A' (size b) c'] w (MadeDgOk w 0 0 1) := by
  have HC := Lib.hid (cmp_any A c a A' c' b w ha hb (by omega) (by omega))
  have h1 := cmp_lt hab
  rw [h1] at HC
  clear ha hb h1
  generalize size a = n at *
  generalize size b = m at *
  go_enter Try.func104, Try.ntmps104
  go_wp2_with (go_at_call 96; refine HC.out.mono ?_; rintro e w' ⟨rfl, hk⟩)
  go_ret2
  exact ⟨_, rfl, Dg.nil _ _ _, hk⟩
set_option maxRecDepth 100000 in
set_option maxHeartbeats 1000000 in
theorem sub_any (A : Option Addr) (c a : Nat) (A' : Option Addr) (c' b : Nat) (w : World) (ha : At w A a (size a)) (hb : At w A' b (size b)) (hn : size a ≤ 17592186044415) (hm : size b ≤ 17592186044415) (hab : b ≤ a) :
    Calls Try.prog 104 #[.slice A (size a) c, .slice A' (size b) c'] w (MadeDgOk w (a - b) (size (a - b)) 0) := by
  obtain ⟨i0, hi, hz0, hz1, hz2⟩ := info_parts info_u32
  have HC := Lib.hid (cmp_any A c a A' c' b w ha hb (by omega) (by omega))
  have hcmp : decide (cmpI a b < 0) = false := by
    have := @cmp_neg a b
    rw [decide_eq_false_iff_not, this]; omega
  obtain ⟨t, ht⟩ : ∃ t, t = a - b := ⟨_, rfl⟩
  rw [← ht]
  have HT : Hid (a = b + t) := by show _ = _; omega
  have hsz : t < B ^ size a := Nat.lt_of_le_of_lt (by omega) (lt_size a)
  have hs := Lib.hid hsz
  have sa := Lib.hid (lt_size a); have sb := Lib.hid (lt_size b)
  have HA := Lib.hid ha
  have HB := Lib.hid hb
  clear ha hb ht hsz hab
  generalize size a = n at *
  generalize size b = m at *
  generalize cmpI a b = cm at *
  go_enter Try.func104, Try.ntmps104
  go_wp2_with (first | (go_at_call 96; refine HC.out.mono ?_; rintro e w0 ⟨rfl, hk⟩; have HK0 := Lib.hid hk; clear hk HC) | (at_make; refine wpList_make_full _ rfl _ _ 41 rfl w0.heap.size U32 i0 (.int .u32 0) 1 Try.underlying41 hi hz0 hz1 _ _ _ _ n rfl rfl (by omega) (by omega) (by rw [hz2]; omega) (by unfold maxLen; omega) (Nat.le_refl _) ?_; intro w1 hown hgrow; have HL := Lib.hid (Lb.of_own hown); have HK := Lib.hid (HK0.out.then (Kept.grown (Below.refl _ _) hgrow (fun k hk => by cases hk) : Kept w0 w1)); clear hown hgrow))
  go_loopw [7, 19] (fun cy i wr => ∃ (k : Nat) (xs : List Nat), k ≤ n ∧ i = .int .i64 k ∧ cy = .int .u64 (car b t k : Nat) ∧ Hid (xs.length = n ∧ ∀ j, j < k → xs.getD j 0 = dig t j) ∧ Hid (Lb wr w0.heap.size xs) ∧ Hid (Kept w wr)) (fun _ i _ => n - (intOf i).toNat)
  case atStart => exact ⟨0, _, Nat.zero_le _, rfl, by rw [car_zero]; rfl, ⟨by simp, fun j hj => absurd hj (Nat.not_lt_zero j)⟩, HL, HK⟩
  case round =>
    clear HL HK
    obtain ⟨k, xs, hk, rfl, rfl, HX, HL, HK⟩ := hrel
    have hcar := car_le b t k
    by_cases hlt : k < n
    · obtain ⟨p, hp⟩ : ∃ p, dig a k = p := ⟨_, rfl⟩
      obtain ⟨q, hq⟩ : ∃ q, dig b k = q := ⟨_, rfl⟩
      obtain ⟨d, hd⟩ : ∃ d, dig t k = d := ⟨_, rfl⟩
      have hp1 : p < 4294967296 := by rw [← hp]; exact dig_lt a k
      have hq1 : q < 4294967296 := by rw [← hq]; exact dig_lt b k
      have hd1 : d < 4294967296 := by rw [← hd]; exact dig_lt t k
      have HC := Lib.hid (car_succ b t k)
      have HD := Lib.hid (dig_add b t k)
      rw [← HT.out, hp] at HD
      rw [hq, hd] at HC HD
      have HP := Lib.hid hp
      have HQ := Lib.hid hq
      have HE := Lib.hid hd
      have c0 := HL.out.cell (i := k) (by rw [HX.out.1]; omega)
      have z0 := HL.out.free k
      clear hp hq hd
      generalize car b t k = y at *
      generalize xs.getD k 0 = x0 at c0
      obtain ⟨v, hv⟩ : ∃ v, IntKind.u64.wrap (IntKind.u64.wrap ((p : Int) - q) - y) = v := ⟨_, rfl⟩
      have hv0 : 0 ≤ v ∧ v < 18446744073709551616 := by rw [← hv, u64_wrap]; omega
      have HV : Hid (v % 4294967296 = d ∧ v / 9223372036854775808 = ((y + q + d) / B : Nat)) := by
        have h1 : p = (y + q + d) % B := HD.out
        rw [u64_wrap, u64_wrap] at hv
        simp only [B] at h1 ⊢
        refine ⟨?_, ?_⟩ <;> omega
      obtain ⟨hv1, hv2⟩ := hv0
      go_wp2_with (go_at_call 112; first | ((with_reducible refine (at_nat _ _ a _ k p _ (HA.out.kept HK.out) sa.out (by omega) HP.out).mono ?_); rintro e w' ⟨rfl, rfl⟩) | ((with_reducible refine (at_nat _ _ b _ k q _ (HB.out.kept HK.out) sb.out (by omega) HQ.out).mono ?_); rintro e w' ⟨rfl, rfl⟩))
      go_roundw
      case measure => simp [intOf]; omega
      case rel => exact ⟨k + 1, xs.set k d, by omega, by go_num, int_eq (by rw [HC.out]; exact HV.out.2), first_set HX.out hlt HE.out.symm, HL.out.put k _ HV.out.1, HK.out.set HK0.out.size _ _⟩
    · have HE := Lib.hid (show k = n by omega)
      go_wp2_with (go_at_call 109; refine (cut_any _ _ t _ _ (Nat.le_refl _) ((Lb.dg HL.out HX.out.1 (s := t) (fun i hi => HX.out.2 i (by rw [HE.out]; exact hi)) (S := fun _ => True) trivial).at_own) hs.out (by omega)).mono ?_; rintro e w' ⟨v, rfl, hv, hk⟩)
      go_ret2
      exact ⟨_, rfl, hv.mono (fun j hj _ => Nat.le_trans HK.out.size hj), HK.out.then hk⟩
end Go.Proofs.Ytpclkgjhfhhddaa.V
/- Limbs: walks: products. -/
namespace Go.Proofs.Ytpclkgjhfhhddaa.V
open Go Go.RowKit Go.Proofs.Ytpclkgjhfhhddaa.PN
set_option linter.unusedVariables false
set_option linter.unusedSimpArgs false
/-- Where the inner loop stands: i + k limbs are told anew. -/
def MulAt (a b i n k N : Nat) (xs : List Nat) : Prop :=
  xs.length = N ∧ (∀ j, j < i + k → xs.getD j 0 = dig (PN.part a b i n k) j) ∧ ∀ j, i + k ≤ j → j < N → xs.getD j 0 = dig ((a % B ^ i) * b) j
theorem getD_set_self {xs : List Nat} {k x : Nat} (h : k < xs.length) : (xs.set k x).getD k 0 = x := by simp [h]
theorem getD_set_other {xs : List Nat} {k j x : Nat} (h : j ≠ k) : (xs.set k x).getD j 0 = xs.getD j 0 := by
  simp only [List.getD_eq_getElem?_getD, List.getElem?_set]
  rw [if_neg (fun e => h e.symm)]
theorem MulAt.step {a b i n k N x : Nat} {xs : List Nat} (h : MulAt a b i n k N xs) (hk : i + k < N) (hx : x = (mcar a b i n k + dig a i * dig b k + dig ((a % B ^ i) * b) (i + k)) % B) : MulAt a b i n (k + 1) N (xs.set (i + k) x) := by
  have hl := h.1
  refine ⟨by rw [List.length_set, hl], fun j hj => ?_, fun j hj hN => ?_⟩
  · by_cases e : j = i + k
    · subst e; rw [getD_set_self (by rw [hl]; exact hk), hx, part_dig]
    · rw [getD_set_other e, part_low (by omega), h.2.1 j (by omega)]
  · rw [getD_set_other (by omega)]; exact h.2.2 j (by omega) hN
theorem MulAt.first {a b i n N : Nat} {xs : List Nat} (h : xs.length = N ∧ ∀ j, j < N → xs.getD j 0 = dig ((a % B ^ i) * b) j) (hi : i ≤ N) : MulAt a b i n 0 N xs :=
  ⟨h.1, fun j hj => by rw [part_first _ _ _ _ _ (by omega)]; exact h.2 j (by omega), fun j _ hN => h.2 j hN⟩
theorem MulAt.last {a b i n N x : Nat} {xs : List Nat} (h : MulAt a b i n n N xs) (hb : b < B ^ n) (hN : i + n < N) (hx : x = mcar a b i n n) : (xs.set (i + n) x).length = N ∧ ∀ j, j < N → (xs.set (i + n) x).getD j 0 = dig ((a % B ^ (i + 1)) * b) j := by
  have hl := h.1
  refine ⟨by rw [List.length_set, hl], fun j hj => ?_⟩
  rcases Nat.lt_trichotomy j (i + n) with h1 | h1 | h1
  · rw [getD_set_other (by omega), h.2.1 j h1, part_all a b i n hb]
  · subst h1; rw [getD_set_self (by rw [hl]; exact hN), hx, part_end a b i n hb]
  · rw [getD_set_other (by omega), h.2.2 j (by omega) hj, dig_over (low_lt a b i n hb) (by omega), dig_over (low_lt a b (i + 1) n hb) (by omega)]
set_option maxRecDepth 100000 in
set_option maxHeartbeats 2000000 in
theorem mul_any (A : Option Addr) (c a : Nat) (A' : Option Addr) (c' b : Nat) (w : World) (ha : At w A a (size a)) (hb : At w A' b (size b)) (hn : size a ≤ 8796093022207) (hm : size b ≤ 8796093022207) :
    Calls Try.prog 100 #[.slice A (size a) c, .slice A' (size b) c'] w (MadeNat w (a * b)) := by
  obtain ⟨i0, hi, hz0, hz1, hz2⟩ := info_parts info_u32
  have HS : Hid (a * b < B ^ (size a + size b)) := by
    show _ < _
    rw [Nat.pow_add]; exact Nat.mul_lt_mul'' (lt_size a) (lt_size b)
  have sa := Lib.hid (lt_size a); have sb := Lib.hid (lt_size b)
  have HA := Lib.hid ha
  have HB := Lib.hid hb
  clear ha hb
  generalize size a = n at *
  generalize size b = m at *
  go_enter Try.func100, Try.ntmps100
  go_wp2_with (at_make; refine wpList_make_full _ rfl _ _ 41 rfl w.heap.size U32 i0 (.int .u32 0) 1 Try.underlying41 hi hz0 hz1 _ _ _ _ (n + m) rfl rfl (by omega) (by omega) (by rw [hz2]; omega) (by unfold maxLen; omega) (Nat.le_refl _) ?_; intro w1 hown hgrow; have HL := Lib.hid (Lb.of_own hown); have HK := Lib.hid (Kept.grown (Below.refl _ _) hgrow (fun k hk => by cases hk) : Kept w w1); clear hown hgrow)
  go_loopw [18] (fun v wr => ∃ (i : Nat) (xs : List Nat), i ≤ n ∧ v = .int .i64 i ∧ Hid (xs.length = n + m ∧ ∀ j, j < n + m → xs.getD j 0 = dig ((a % B ^ i) * b) j) ∧ Hid (Lb wr w.heap.size xs) ∧ Hid (Kept w wr)) (fun v _ => n - (intOf v).toNat)
  case atStart => exact ⟨0, _, Nat.zero_le _, rfl, ⟨by simp, fun j hj => by rw [Nat.pow_zero, Nat.mod_one, Nat.zero_mul, dig_of_zero]; simp [hj]⟩, HL, HK⟩
  case round =>
    clear HL HK
    obtain ⟨i, xs, hi', rfl, HX, HL, HK⟩ := hrel
    by_cases hlt : i < n
    · obtain ⟨b1, o1, rfl, c1⟩ := HA.out i hlt
      obtain ⟨x, hx⟩ : ∃ x, dig a i = x := ⟨_, rfl⟩
      have hx1 : x < 4294967296 := by rw [← hx]; exact dig_lt a i
      rw [hx] at c1
      replace c1 := HK.out.cell c1
      have HQ := Lib.hid hx
      clear hx
      obtain ⟨wo, rfl⟩ : ∃ wo : World, wo = wr := ⟨_, rfl⟩
      go_wp2
      have HM := Lib.hid (MulAt.first (n := m) HX.out (by omega))
      clear HX
      go_loopw [8, 25] (fun cy v wr => ∃ (k : Nat) (xs : List Nat), k ≤ m ∧ v = .int .i64 k ∧ cy = .int .u64 (mcar a b i m k : Nat) ∧ Hid (MulAt a b i m k (n + m) xs) ∧ Hid (Lb wr w.heap.size xs) ∧ Hid (Kept w wr)) (fun _ v _ => m - (intOf v).toNat)
      case atStart => exact ⟨0, _, Nat.zero_le _, rfl, by rw [mcar_zero]; rfl, HM, HL, HK⟩
      case round =>
        clear HM HL HK c1
        obtain ⟨k, xs, hk, rfl, rfl, HM, HL, HK⟩ := hrel
        by_cases hlk : k < m
        · obtain ⟨b2, o2, rfl, c2⟩ := HB.out k hlk
          replace c2 := HK.out.cell c2
          have c1 : wr.cell? ⟨b1, o1 + i, none⟩ = some (.int .u32 (x : Int)) := by
            obtain ⟨b3, o3, e, c3⟩ := HA.out i hlt
            injection e with e; injection e with e1 e2; subst e1; subst e2
            rw [← HQ.out]; exact HK.out.cell c3
          obtain ⟨y, hy⟩ : ∃ y, dig b k = y := ⟨_, rfl⟩
          obtain ⟨z, hz⟩ : ∃ z, dig ((a % B ^ i) * b) (i + k) = z := ⟨_, rfl⟩
          obtain ⟨cy, hcy⟩ : ∃ cy, mcar a b i m k = cy := ⟨_, rfl⟩
          have hy1 : y < 4294967296 := by rw [← hy]; exact dig_lt b k
          have hz1' : z < 4294967296 := by rw [← hz]; exact dig_lt _ _
          have hc1 : cy < 4294967296 := by rw [← hcy]; exact mcar_lt _ _ _ _ _
          have c0 := HL.out.cell (i := i + k) (by rw [HM.out.1]; omega)
          rw [HM.out.2.2 (i + k) (Nat.le_refl _) (by omega), hz] at c0
          rw [hy] at c2
          have z0 := HL.out.free (i + k)
          have hfit := mul_fit (x := x) (y := y) (z := z) hx1 hy1 hz1' cy hc1
          obtain ⟨t, ht⟩ : ∃ t : Nat, x * y = t := ⟨_, rfl⟩
          have ht' : (x : Int) * (y : Int) = (t : Int) := by rw [← ht]; exact (Int.natCast_mul x y).symm
          rw [ht] at hfit
          have e1 : IntKind.i64.wrap ((i : Int) + k) = (i : Int) + k := IntWalk.i64_in _ (by omega)
          have e2 : ((i : Int) + k).toNat = i + k := by omega
          have e3 : IntKind.u64.wrap ((t : Int) + z) = (t : Int) + z := by rw [u64_wrap]; omega
          have e4 : IntKind.u64.wrap ((cy : Int) + ((t : Int) + z)) = (cy : Int) + ((t : Int) + z) := by rw [u64_wrap]; omega
          have e5 : IntKind.u64.wrap (t : Int) = (t : Int) := by rw [u64_wrap]; omega
          have e6 : (0 : Int) ≤ (i : Int) + k := by omega
          have e7 : (i : Int) + k < (n : Int) + m := by omega
          have HC := Lib.hid (mcar_succ a b i m k)
          rw [HQ.out, hy, hz, hcy, ht] at HC
          have HN : Hid (∀ v, v = (cy + t + z) % B → MulAt a b i m (k + 1) (n + m) (xs.set (i + k) v)) := fun v hv => MulAt.step HM.out (by omega) (by rw [hcy, HQ.out, hy, ht, hz]; exact hv)
          have HY := Lib.hid hy
          rw [hcy]
          clear hy hz hcy ht HM
          go_wp2
          go_quiet (fail)
          clear e1 e2 e3 e4 e5 e6 e7 ht' c1 c2
          go_wp2
          go_roundw
          case measure => simp [intOf]; omega
          case rel => exact ⟨k + 1, xs.set (i + k) ((cy + t + z) % B), by omega, by go_num, int_eq (by rw [HC.out]; simp only [B]; omega), HN.out _ rfl, (HL.out.kept (Kept.drewN _ _)).put (i + k) _ (by simp only [B]; omega), (HK.out.then (Kept.drewN _ _)).set (Nat.le_refl _) _ _⟩
        · have HE := Lib.hid (show k = m by omega)
          have z0 := HL.out.free (i + m)
          have c0 := HL.out.cell (i := i + m) (by rw [HM.out.1]; omega)
          have hc1 : mcar a b i m k < 4294967296 := mcar_lt _ _ _ _ _
          obtain ⟨cy, hcy⟩ : ∃ cy, mcar a b i m k = cy := ⟨_, rfl⟩
          have HN : Hid (∀ v, v = cy → (xs.set (i + m) v).length = n + m ∧ ∀ j, j < n + m → (xs.set (i + m) v).getD j 0 = dig ((a % B ^ (i + 1)) * b) j) := fun v hv => by
            have h := HM.out
            rw [HE.out] at h hcy
            exact MulAt.last h sb.out (by omega) (by rw [hcy]; exact hv)
          rw [hcy] at hc1 ⊢
          generalize xs.getD (i + m) 0 = x0 at c0
          clear hcy HM
          go_wp2
          go_roundw
          case measure => simp [intOf]; omega
          case rel => exact ⟨i + 1, xs.set (i + m) cy, by omega, by go_num, HN.out _ rfl, HL.out.put (i + m) _ (by omega), HK.out.set (Nat.le_refl _) _ _⟩
    · have HE := Lib.hid (show i = n by omega)
      go_wp2_with (go_at_call 109; refine (cut_any _ _ (a * b) _ _ (Nat.le_refl _) ((Lb.dg HL.out HX.out.1 (s := a * b) (fun j hj => by have := HX.out.2 j hj; rw [HE.out, Nat.mod_eq_of_lt sa.out] at this; exact this) (S := fun _ => True) trivial).at_own) HS.out (by omega)).mono ?_; rintro e w' ⟨v, rfl, hv, hk⟩)
      go_ret
      exact MadeDg.after HK.out ⟨_, rfl, hv, hk⟩
end Go.Proofs.Ytpclkgjhfhhddaa.V
/- Limbs: walks: a quotient by one limb. -/
namespace Go.Proofs.Ytpclkgjhfhhddaa.V
open Go Go.RowKit Go.Proofs.Ytpclkgjhfhhddaa.PN
set_option linter.unusedVariables false
set_option linter.unusedSimpArgs false
set_option maxRecDepth 100000 in
set_option maxHeartbeats 2000000 in
theorem small_any (A : Option Addr) (c a d : Nat) (w : World) (ha : At w A a (size a)) (hn : size a ≤ 8796093022207) (hd0 : 0 < d) (hd1 : d < 4294967296) :
    Calls Try.prog 116 #[.slice A (size a) c, .int .u32 (d : Int)] w fun e w' => ∃ v, e = .returned (.tuple #[v, .int .u32 ((a % d : Nat) : Int)]) ∧ Dg w' (fun k => w.heap.size ≤ k) v (a / d) (size (a / d)) ∧ Kept w w' := by
  obtain ⟨i0, hi, hz0, hz1, hz2⟩ := info_parts info_u32
  have HS : Hid (a / d < B ^ size a) := Nat.lt_of_le_of_lt (Nat.div_le_self _ _) (lt_size a)
  have HL0 : Hid (a / B ^ size a % d = 0) := by
    show _ = _
    rw [Nat.div_eq_of_lt (lt_size a), Nat.zero_mod]
  have HA := Lib.hid ha
  clear ha
  generalize size a = n at *
  go_enter Try.func116, Try.ntmps116
  go_wp2_with (at_make; refine wpList_make_full _ rfl _ _ 41 rfl w.heap.size U32 i0 (.int .u32 0) 1 Try.underlying41 hi hz0 hz1 _ _ _ _ n rfl rfl (by omega) (by omega) (by rw [hz2]; omega) (by unfold maxLen; omega) (Nat.le_refl _) ?_; intro w1 hown hgrow; have HL := Lib.hid (Lb.of_own hown); have HK := Lib.hid (Kept.grown (Below.refl _ _) hgrow (fun k hk => by cases hk) : Kept w w1); clear hown hgrow)
  go_loopw [7, 8] (fun l v wr => ∃ (i : Nat) (xs : List Nat), i ≤ n ∧ v = .int .i64 ((i : Int) - 1) ∧ l = .int .u64 ((a / B ^ i % d : Nat) : Int) ∧ Hid (xs.length = n ∧ ∀ j, i ≤ j → j < n → xs.getD j 0 = dig (a / d) j) ∧ Hid (Lb wr w.heap.size xs) ∧ Hid (Kept w wr)) (fun _ v _ => (intOf v + 1).toNat)
  case atStart => exact ⟨n, _, Nat.le_refl _, rfl, by rw [HL0.out]; rfl, ⟨by simp, fun j hj hj' => absurd hj' (by omega)⟩, HL, HK⟩
  case round =>
    clear HL HK HL0
    obtain ⟨i, xs, hi', rfl, rfl, HX, HL, HK⟩ := hrel
    rcases Nat.eq_zero_or_pos i with h | h
    · subst h
      have e1 : a / B ^ 0 % d = a % d := by rw [Nat.pow_zero, Nat.div_one]
      rw [e1]
      have hlt : a % d < 4294967296 := Nat.lt_trans (Nat.mod_lt _ hd0) hd1
      clear e1
      obtain ⟨r, hr⟩ : ∃ r, a % d = r := ⟨_, rfl⟩
      rw [hr] at hlt ⊢
      have HR := Lib.hid hr
      clear hr
      go_wp2_with (go_at_call 109; refine (cut_any _ _ (a / d) _ _ (Nat.le_refl _) ((Lb.dg HL.out HX.out.1 (s := a / d) (fun j hj => HX.out.2 j (Nat.zero_le _) hj) (S := fun _ => True) trivial).at_own) HS.out (by omega)).mono ?_; rintro e w' ⟨v, rfl, hv, hk⟩)
      go_ret2
      rw [HR.out]
      exact ⟨_, rfl, hv.mono (fun j hj _ => Nat.le_trans HK.out.size hj), HK.out.then hk⟩
    · obtain ⟨j, rfl⟩ : ∃ j, i = j + 1 := ⟨i - 1, by omega⟩
      obtain ⟨b1, o1, rfl, c1⟩ := HA.out j (by omega)
      replace c1 := HK.out.cell c1
      obtain ⟨p, hp⟩ : ∃ p, dig a j = p := ⟨_, rfl⟩
      obtain ⟨l, hl⟩ : ∃ l, a / B ^ (j + 1) % d = l := ⟨_, rfl⟩
      have hp1 : p < 4294967296 := by rw [← hp]; exact dig_lt a j
      have hl1 : l < d := by rw [← hl]; exact Nat.mod_lt _ hd0
      have HT := Lib.hid (small_step a d j hd0)
      rw [hp, hl] at HT
      rw [hp] at c1
      rw [hl]
      have c0 := HL.out.cell (i := j) (by rw [HX.out.1]; omega)
      have z0 := HL.out.free j
      generalize xs.getD j 0 = x0 at c0
      clear hp hl
      obtain ⟨t, ht⟩ : ∃ t, t = l * B + p := ⟨_, rfl⟩
      have hor : bits .or .u64 ((l : Int) * 4294967296) (p : Int) = (t : Int) := by rw [ht]; exact or_u64 (k := 32) (by decide) hp1 (by omega)
      have ht1 : t < 18446744073709551616 := by rw [ht]; simp only [B]; omega
      rw [← ht] at HT
      have hq : t / d < 4294967296 := by rw [HT.out.1]; exact dig_lt _ _
      have hdiv : (t : Int) / (d : Int) = ((t / d : Nat) : Int) := (Int.natCast_ediv t d).symm
      have hmod : (t : Int) % (d : Int) = ((t % d : Nat) : Int) := (Int.natCast_emod t d).symm
      obtain ⟨q, hq'⟩ : ∃ q, t / d = q := ⟨_, rfl⟩
      obtain ⟨r, hr⟩ : ∃ r, t % d = r := ⟨_, rfl⟩
      rw [hq'] at HT hq hdiv
      rw [hr] at HT hmod
      clear ht hq' hr
      go_wp2
      go_roundw
      case measure => simp [intOf]
      case rel => exact ⟨j, xs.set j q, by omega, rfl, int_eq (by rw [hmod, HT.out.2]), ⟨by rw [List.length_set, HX.out.1], fun k hk hk' => by
        by_cases e : k = j
        · subst e; rw [getD_set_self (by rw [HX.out.1]; omega), HT.out.1]
        · rw [getD_set_other e]; exact HX.out.2 k (by omega) hk'⟩, HL.out.put j _ (by omega), HK.out.set (Nat.le_refl _) _ _⟩
end Go.Proofs.Ytpclkgjhfhhddaa.V
/- Limbs: walks: a quotient's limb guessed. -/
namespace Go.Proofs.Ytpclkgjhfhhddaa.V
open Go Go.RowKit Go.Proofs.Ytpclkgjhfhhddaa.PN
set_option linter.unusedVariables false
set_option linter.unusedSimpArgs false
/-- What a guess is good for. -/
def Good (u v q : Nat) : Prop := q < B ∧ q * v ≤ u ∧ ∀ r, r < B → r * v ≤ u → r ≤ q
/-- Where the guess stands. -/
def Gs (u0 u1 u2 v1 v2 q r : Nat) : Prop := u0 * B + u1 = q * v1 + r ∧ ∀ z, z < B → z * (v1 * B + v2) ≤ (u0 * B + u1) * B + u2 → z ≤ q
theorem Gs.first {u0 u1 u2 v1 v2 : Nat} (hv : 0 < v1) (hu2 : u2 < B) : Gs u0 u1 u2 v1 v2 ((u0 * B + u1) / v1) ((u0 * B + u1) % v1) := by
  refine ⟨by rw [Nat.mul_comm _ v1]; exact (Nat.div_add_mod _ _).symm, fun z _ hz => ?_⟩
  rw [Nat.le_div_iff_mul_le hv]
  have h1 : z * v1 * B ≤ z * (v1 * B + v2) := by rw [Nat.mul_add, Nat.mul_assoc]; exact Nat.le_add_right _ _
  have h2 : z * v1 * B < (u0 * B + u1 + 1) * B := by
    have : (u0 * B + u1 + 1) * B = (u0 * B + u1) * B + B := by rw [Nat.add_mul, Nat.one_mul]
    omega
  have := Nat.lt_of_mul_lt_mul_right h2
  omega
theorem Gs.mulv {q v1 v2 : Nat} : q * (v1 * B + v2) = q * v1 * B + q * v2 := by rw [Nat.mul_add, Nat.mul_assoc]
theorem Gs.big {u0 u1 u2 v1 v2 q r : Nat} (h : Gs u0 u1 u2 v1 v2 q r) (hq : B ≤ q) : Gs u0 u1 u2 v1 v2 (q - 1) (r + v1) := by
  have hB : (0 : Nat) < B := by decide
  refine ⟨?_, fun z hz _ => by omega⟩
  rw [h.1, Nat.sub_mul, Nat.one_mul]
  have : v1 ≤ q * v1 := Nat.le_mul_of_pos_left v1 (by omega)
  omega
theorem Gs.over {u0 u1 u2 v1 v2 q r : Nat} (h : Gs u0 u1 u2 v1 v2 q r) (hq : r * B + u2 < q * v2) : Gs u0 u1 u2 v1 v2 (q - 1) (r + v1) := by
  have h0 : 0 < q := by
    rcases Nat.eq_zero_or_pos q with h0 | h0
    · subst h0; rw [Nat.zero_mul] at hq; omega
    · exact h0
  refine ⟨?_, fun z hz hz' => ?_⟩
  · rw [h.1, Nat.sub_mul, Nat.one_mul]
    have : v1 ≤ q * v1 := Nat.le_mul_of_pos_left v1 h0
    omega
  · have := h.2 z hz hz'
    rcases Nat.lt_or_ge z q with h1 | h1
    · omega
    · obtain rfl : z = q := by omega
      rw [Gs.mulv, h.1, Nat.add_mul] at hz'
      omega
theorem Gs.good {u0 u1 u2 v1 v2 q r : Nat} (h : Gs u0 u1 u2 v1 v2 q r) (hq : q < B) (hle : q * v2 ≤ r * B + u2) : Good ((u0 * B + u1) * B + u2) (v1 * B + v2) q := by
  refine ⟨hq, ?_, h.2⟩
  rw [Gs.mulv, h.1, Nat.add_mul]; omega
theorem Gs.far {u0 u1 u2 v1 v2 q r : Nat} (h : Gs u0 u1 u2 v1 v2 q r) (hr : B ≤ r) (hu : u0 ≤ v1) (hu1 : u1 < B) (hv2 : v2 < B) : Good ((u0 * B + u1) * B + u2) (v1 * B + v2) q := by
  have h1 := h.1
  have hqB : q < B := by
    have h2 : u0 * B ≤ v1 * B := Nat.mul_le_mul_right _ hu
    have h3 : q * v1 < B * v1 := by rw [Nat.mul_comm B v1]; omega
    exact Nat.lt_of_mul_lt_mul_right h3
  refine h.good hqB ?_
  have h2 : q * v2 ≤ B * B := Nat.mul_le_mul (Nat.le_of_lt hqB) (Nat.le_of_lt hv2)
  have h3 : B * B ≤ r * B := Nat.mul_le_mul_right _ hr
  omega
/-- The limbs that the guess reads. -/
structure GuessIn (w : World) (g : Nat) (xs : List Nat) (N : Nat) (A : Option Addr) (V n k u0 u1 u2 v1 v2 : Nat) : Prop where
  lb : Lb w g xs
  len : xs.length = N
  fit : k + n < N
  two : 2 ≤ n
  at_ : At w A V n
  h0 : xs.getD (k + n) 0 = u0
  h1 : xs.getD (k + n - 1) 0 = u1
  h2 : xs.getD (k + n - 2) 0 = u2
  h3 : dig V (n - 1) = v1
  h4 : dig V (n - 2) = v2
  l0 : u0 < 4294967296
  l1 : u1 < 4294967296
  l2 : u2 < 4294967296
set_option maxRecDepth 100000 in
set_option maxHeartbeats 2000000 in
theorem guess_any (w : World) (g : Nat) (xs : List Nat) (N : Nat) (A : Option Addr) (V n c k u0 u1 u2 v1 v2 : Nat) (hg : GuessIn w g xs N A V n k u0 u1 u2 v1 v2) (hv : 0 < v1) (hu : u0 ≤ v1) (hN : N ≤ 17592186044416) :
    Calls Try.prog 119 #[.slice (some ⟨g, 0, none⟩) N N, .slice A n c, .int .i64 (k : Int)] w fun e w' => ∃ q : Nat, e = .returned (.int .u64 (q : Int)) ∧ Good ((u0 * B + u1) * B + u2) (v1 * B + v2) q ∧ Kept w w' := by
  have hfit := hg.fit
  have htwo := hg.two
  have l0 := hg.l0
  have l1 := hg.l1
  have l2 := hg.l2
  obtain ⟨b1, o1, rfl, c3⟩ := hg.at_ (n - 1) (by omega)
  obtain ⟨b2, o2, e, c4⟩ := hg.at_ (n - 2) (by omega)
  injection e with e; injection e with e1 e2; subst e1; subst e2
  have c0 := hg.lb.cell (i := k + n) (by rw [hg.len]; omega)
  have c1 := hg.lb.cell (i := k + n - 1) (by rw [hg.len]; omega)
  have c2 := hg.lb.cell (i := k + n - 2) (by rw [hg.len]; omega)
  rw [hg.h0] at c0; rw [hg.h1] at c1; rw [hg.h2] at c2; rw [hg.h3] at c3; rw [hg.h4] at c4
  have l3 : v1 < 4294967296 := by rw [← hg.h3]; exact dig_lt _ _
  have l4 : v2 < 4294967296 := by rw [← hg.h4]; exact dig_lt _ _
  have G0 := Lib.hid (Gs.first (u0 := u0) (u1 := u1) (v2 := v2) hv l2)
  clear hg
  obtain ⟨t, ht⟩ : ∃ t, t = u0 * B + u1 := ⟨_, rfl⟩
  have hor : bits .or .u64 ((u0 : Int) * 4294967296) (u1 : Int) = (t : Int) := by rw [ht]; exact or_u64 (k := 32) (by decide) l1 (by omega)
  have ht1 : t < 18446744073709551616 := by rw [ht]; simp only [B]; omega
  have hdiv : (t : Int) / (v1 : Int) = ((t / v1 : Nat) : Int) := (Int.natCast_ediv t v1).symm
  have hmod : (t : Int) % (v1 : Int) = ((t % v1 : Nat) : Int) := (Int.natCast_emod t v1).symm
  have hr0 : t % v1 < v1 := Nat.mod_lt _ hv
  have hq0 : t / v1 ≤ t := Nat.div_le_self _ _
  have G1 : Hid (Gs u0 u1 u2 v1 v2 (t / v1) (t % v1)) := by rw [ht]; exact G0
  have HT := Lib.hid ht
  clear G0 ht
  generalize t / v1 = q0 at *
  generalize t % v1 = r0 at *
  have e1 : IntKind.i64.wrap ((k : Int) + n) = (k : Int) + n := IntWalk.i64_in _ (by omega)
  have e2 : IntKind.i64.wrap ((k : Int) + n - 1) = (k : Int) + n - 1 := IntWalk.i64_in _ (by omega)
  have e4 : ((k : Int) + n).toNat = k + n := by omega
  have e5 : ((k : Int) + n - 1).toNat = k + n - 1 := by omega
  have e7 : (0 : Int) ≤ (k : Int) + n := by omega
  have e8 : (0 : Int) ≤ (k : Int) + n - 1 := by omega
  have e10 : (k : Int) + n < N := by omega
  have e11 : (k : Int) + n - 1 < N := by omega
  go_enter Try.func119, Try.ntmps119
  go_wp2
  go_quiet (fail)
  have HK0 := Lib.hid (Kept.drewN w nq)
  clear e1 e2 e4 e5 e7 e8 e10 e11 hor
  replace c0 := HK0.out.cell c0
  replace c1 := HK0.out.cell c1
  replace c2 := HK0.out.cell c2
  replace c3 := HK0.out.cell c3
  replace c4 := HK0.out.cell c4
  generalize w.drewN nq = w1 at *
  go_wp2
  go_loopw [9, 10] (fun v9 v10 wr => ∃ q r : Nat, v9 = .int .u64 (q : Int) ∧ v10 = .int .u64 (r : Int) ∧ q < 18446744073709551616 ∧ r < 4294967296 ∧ Hid (Gs u0 u1 u2 v1 v2 q r) ∧ Hid (Kept w1 wr)) (fun v9 _ _ => (intOf v9).toNat)
  case atStart => exact ⟨q0, r0, rfl, int_eq hmod, by omega, by omega, G1, Below.refl _ _⟩
  case round =>
    clear G1
    obtain ⟨q, r, rfl, rfl, hq, hr, G, HK⟩ := hrel
    replace c0 := HK.out.cell c0
    replace c1 := HK.out.cell c1
    replace c2 := HK.out.cell c2
    replace c3 := HK.out.cell c3
    replace c4 := HK.out.cell c4
    clear hdiv hmod hr0 hq0
    by_cases hb : 4294967296 ≤ q
    · have g1 : (0 : Int) < (q : Int) / 4294967296 := by omega
      have GN := Lib.hid (G.out.big hb)
      clear G
      by_cases hf : 4294967296 ≤ r + v1
      · go_wp2
        go_quiet (fail)
        go_wp2
        go_ret
        exact ⟨q - 1, congrArg Ending.returned (int_eq (by omega)), GN.out.far hf hu l1 l4, HK0.out.then (HK.out.then (Kept.drewN _ _))⟩
      · go_wp2
        go_quiet (fail)
        go_wp2
        go_roundw
        case measure => simp [intOf]; omega
        case rel => exact ⟨q - 1, r + v1, int_eq (by omega), int_eq (by omega), by omega, by omega, GN, HK.out.then (Kept.drewN _ _)⟩
    · have g1 : decide ((0 : Int) < (q : Int) / 4294967296) = false := decide_eq_false (by omega)
      have hqv : q * v2 < 18446744073709551616 := by have := mul_fit (x := q) (y := v2) (z := 0) (show q < 4294967296 by omega) l4 (by decide) 0 (by decide); omega
      have hrB : r * B + u2 < 18446744073709551616 := by simp only [B]; omega
      obtain ⟨m, hm⟩ : ∃ m, q * v2 = m := ⟨_, rfl⟩
      obtain ⟨s, hs⟩ : ∃ s, s = r * B + u2 := ⟨_, rfl⟩
      have hmul : (q : Int) * (v2 : Int) = (m : Int) := by rw [← hm]; exact (Int.natCast_mul q v2).symm
      rw [hm] at hqv
      have hor : bits .or .u64 ((r : Int) * 4294967296) (u2 : Int) = (s : Int) := by rw [hs]; exact or_u64 (k := 32) (by decide) l2 (Nat.lt_of_le_of_lt (Nat.le_add_right (r * B) u2) hrB)
      rw [← hs] at hrB
      have e0 : IntKind.u64.wrap (m : Int) = (m : Int) := by rw [u64_wrap]; omega
      have e1 : IntKind.i64.wrap ((k : Int) + n) = (k : Int) + n := IntWalk.i64_in _ (by omega)
      have e2 : IntKind.i64.wrap ((k : Int) + n - 2) = (k : Int) + n - 2 := IntWalk.i64_in _ (by omega)
      have e3 : IntKind.i64.wrap ((n : Int) - 2) = (n : Int) - 2 := IntWalk.i64_in _ (by omega)
      have e4 : ((k : Int) + n - 2).toNat = k + n - 2 := by omega
      have e5 : ((n : Int) - 2).toNat = n - 2 := by omega
      have e7 : (0 : Int) ≤ (k : Int) + n - 2 := by omega
      have e8 : (0 : Int) ≤ (n : Int) - 2 := by omega
      have e10 : (k : Int) + n - 2 < N := by omega
      have e11 : (n : Int) - 2 < n := by omega
      by_cases ho : s < m
      · have g2 : (s : Int) < (m : Int) := by omega
        have GN := Lib.hid (G.out.over (by rw [hm, ← hs]; omega))
        have hq0 : 0 < q := by
          rcases Nat.eq_zero_or_pos q with h | h
          · rw [h, Nat.zero_mul] at hm; omega
          · exact h
        clear G hm hs
        by_cases hf : 4294967296 ≤ r + v1
        · go_wp2
          go_quiet (fail)
          go_wp2
          go_ret
          exact ⟨q - 1, congrArg Ending.returned (int_eq (by omega)), GN.out.far hf hu l1 l4, HK0.out.then (HK.out.then (Kept.drewN _ _))⟩
        · go_wp2
          go_quiet (fail)
          go_wp2
          go_roundw
          case measure => simp [intOf]; omega
          case rel => exact ⟨q - 1, r + v1, int_eq (by omega), int_eq (by omega), by omega, by omega, GN, HK.out.then (Kept.drewN _ _)⟩
      · have g2 : decide ((s : Int) < (m : Int)) = false := decide_eq_false (by omega)
        have GN := Lib.hid (G.out.good (by simp only [B]; omega) (by rw [hm, ← hs]; omega))
        clear G hm hs
        go_wp2
        go_quiet (fail)
        go_wp2
        go_ret
        exact ⟨q, rfl, GN.out, HK0.out.then (HK.out.then (Kept.drewN _ _))⟩
end Go.Proofs.Ytpclkgjhfhhddaa.V
/- Limbs: walks: a multiple taken away, given back. -/
namespace Go.Proofs.Ytpclkgjhfhhddaa.V
open Go Go.RowKit Go.Proofs.Ytpclkgjhfhhddaa.PN
set_option linter.unusedVariables false
set_option linter.unusedSimpArgs false
/-- From place k on there stand i limbs of R; the others are as they were. -/
def Laid (xs xs' : List Nat) (N k i R : Nat) : Prop := xs'.length = N ∧ ∀ j, j < N → xs'.getD j 0 = if k ≤ j ∧ j < k + i then dig R (j - k) else xs.getD j 0
theorem Laid.first {xs : List Nat} {N k R : Nat} (h : xs.length = N) : Laid xs xs N k 0 R := ⟨h, fun j hj => by rw [if_neg (by omega)]⟩
theorem Laid.next {xs xs' : List Nat} {N k i R x : Nat} (h : Laid xs xs' N k i R) (hk : k + i < N) (hx : x = dig R i) : Laid xs (xs'.set (k + i) x) N k (i + 1) R := by
  have hl := h.1
  refine ⟨by rw [List.length_set, hl], fun j hj => ?_⟩
  by_cases e : j = k + i
  · subst e; rw [getD_set_self (by rw [hl]; exact hk), if_pos (by omega), hx, show k + i - k = i by omega]
  · rw [getD_set_other e, h.2 j hj]
    by_cases h1 : k ≤ j ∧ j < k + i
    · rw [if_pos h1, if_pos (by omega)]
    · rw [if_neg h1, if_neg (by omega)]
theorem Laid.at_ {xs xs' : List Nat} {N k i R : Nat} (h : Laid xs xs' N k i R) (hk : k + i < N) : xs'.getD (k + i) 0 = xs.getD (k + i) 0 := by rw [h.2 _ hk, if_neg (by omega)]
set_option maxRecDepth 100000 in
set_option maxHeartbeats 2000000 in
theorem take_any (w : World) (g : Nat) (xs : List Nat) (N : Nat) (A : Option Addr) (V n c k q T R bw : Nat) (hl : Lb w g xs) (hN : xs.length = N) (hfit : k + n < N) (hb : N ≤ 17592186044416) (ha : At w A V n) (hA : ∀ ad, A = some ad → 0 < n → ad.block ≠ g) (hV : V < B ^ n)
    (hq : q < B) (hT : T < B ^ (n + 1)) (hd : ∀ j, j ≤ n → xs.getD (k + j) 0 = dig T j) (hR : R < B ^ (n + 1)) (hbw : bw ≤ 1) (heq : T + B ^ (n + 1) * bw = q * V + R) :
    Calls Try.prog 120 #[.slice (some ⟨g, 0, none⟩) N N, .slice A n c, .int .i64 (k : Int), .int .u64 (q : Int)] w fun e w' => e = .returned (.bool (decide (0 < bw))) ∧ ∃ xs', Lb w' g xs' ∧ Laid xs xs' N k (n + 1) R ∧ w.grownBy w' (some g) := by
  have HL := Lib.hid hl; have HD := Lib.hid hd; have HA := Lib.hid ha; have HA' := Lib.hid hA
  have HV := Lib.hid hV
  have HE := Lib.hid (car_end (n := n + 1) (show q * V < B ^ (n + 1) by rw [Nat.pow_succ, Nat.mul_comm (B ^ n)]; exact Nat.mul_lt_mul'' hq hV) hR hT heq)
  have HX : Hid (∀ j, j ≤ n → dig T j = (car (q * V) R j + dig (q * V) j + dig R j) % B) := fun j hj => by
    rw [← dig_add, ← heq, dig_low (by omega)]
  have HLN := Lib.hid (Laid.first (k := k) (R := R) hN)
  clear hl hd ha hA hV hR hT heq hN
  have hq' : q < 4294967296 := hq
  clear hq
  go_enter Try.func120, Try.ntmps120
  go_wp2
  go_loopw [9, 10, 16] (fun v9 v10 v16 wr => ∃ (i : Nat) (xs' : List Nat), i ≤ n + 1 ∧ v16 = .int .i64 i ∧ v9 = .int .u64 (mc q V i : Nat) ∧ v10 = .int .u64 (car (q * V) R i : Nat) ∧ Hid (Laid xs xs' N k i R) ∧ Hid (Lb wr g xs') ∧ Hid (w.grownBy wr (some g))) (fun _ _ v _ => n + 1 - (intOf v).toNat)
  case atStart => exact ⟨0, xs, Nat.zero_le _, rfl, by rw [mc_zero]; rfl, by rw [car_zero]; rfl, HLN, HL, World.grownBy.refl _ _⟩
  case round =>
    clear HL HLN
    obtain ⟨i, xs', hi, rfl, rfl, rfl, HX', HL, HK⟩ := hrel
    have hcar := car_le (q * V) R i
    have hmc : mc q V i < 4294967296 := mc_lt hq' V i
    by_cases hlt : i < n + 1
    · obtain ⟨x, hx⟩ : ∃ x, dig V i = x := ⟨_, rfl⟩
      obtain ⟨t, ht⟩ : ∃ t, dig T i = t := ⟨_, rfl⟩
      obtain ⟨r, hr⟩ : ∃ r, dig R i = r := ⟨_, rfl⟩
      have hx1 : x < 4294967296 := by rw [← hx]; exact dig_lt _ _
      have ht1 : t < 4294967296 := by rw [← ht]; exact dig_lt _ _
      have hr1 : r < 4294967296 := by rw [← hr]; exact dig_lt _ _
      have HC := Lib.hid (car_succ (q * V) R i)
      have HM := Lib.hid (mc_succ q V i)
      have HT := HX.out i (by omega)
      rw [dig_mc, hx, hr] at HC
      rw [ht, dig_mc, hx, hr] at HT
      rw [hx] at HM
      have HP := Lib.hid hx
      have HR := Lib.hid hr
      have c0 := HL.out.cell (i := k + i) (by rw [HX'.out.1]; omega)
      rw [HX'.out.at_ (by omega), HD.out i (by omega), ht] at c0
      have z0 := HL.out.free (k + i)
      have hfit2 := mul_fit (x := q) (y := x) (z := 0) hq' hx1 (by decide) (mc q V i) hmc
      clear hx ht hr
      generalize car (q * V) R i = y at *
      generalize mc q V i = m at *
      obtain ⟨z, hz⟩ : ∃ z, q * x = z := ⟨_, rfl⟩
      have hmul : (q : Int) * (x : Int) = (z : Int) := by rw [← hz]; exact (Int.natCast_mul q x).symm
      rw [hz] at hfit2 HC HM HT
      obtain ⟨v, hv⟩ : ∃ v, IntKind.u64.wrap (IntKind.u64.wrap ((t : Int) - ((m : Int) + z) % 4294967296) - y) = v := ⟨_, rfl⟩
      have hv0 : 0 ≤ v ∧ v < 18446744073709551616 := by rw [← hv, u64_wrap]; omega
      have HV2 : Hid (v % 4294967296 = r ∧ v / 9223372036854775808 = ((y + (m + z) % B + r) / B : Nat)) := by
        rw [u64_wrap, u64_wrap] at hv
        simp only [B] at HT ⊢
        refine ⟨?_, ?_⟩ <;> omega
      obtain ⟨hv1, hv2⟩ := hv0
      have HT' := Lib.hid HT
      clear HT hz
      have hmz : m + z < 18446744073709551616 := by omega
      go_wp2_with (go_at_call 112; refine (at_nat _ _ V _ i x _ (HA.out.grown HK.out HA'.out) HV.out (by omega) HP.out).mono ?_; rintro e w' ⟨rfl, rfl⟩)
      go_roundw
      case measure => simp [intOf]; omega
      case rel => exact ⟨i + 1, xs'.set (k + i) r, by omega, by go_num, int_eq (by rw [HM.out]; simp only [B]; omega), int_eq (by rw [HC.out]; exact HV2.out.2), HX'.out.next (by omega) HR.out.symm, HL.out.put (k + i) _ HV2.out.1, But.set HK.out _ _⟩
    · obtain rfl : i = n + 1 := by omega
      rw [HE.out]
      clear hcar
      generalize mc q V (n + 1) = m at *
      go_wp2
      go_ret
      exact ⟨rfl, xs', HL.out, HX'.out, HK.out⟩
set_option maxRecDepth 100000 in
set_option maxHeartbeats 2000000 in
theorem back_any (w : World) (g : Nat) (xs : List Nat) (N : Nat) (A : Option Addr) (V n c k T : Nat) (hl : Lb w g xs) (hN : xs.length = N) (hfit : k + n < N) (hb : N ≤ 17592186044416) (ha : At w A V n) (hA : ∀ ad, A = some ad → 0 < n → ad.block ≠ g) (hV : V < B ^ n)
    (hd : ∀ j, j ≤ n → xs.getD (k + j) 0 = dig T j) :
    Calls Try.prog 121 #[.slice (some ⟨g, 0, none⟩) N N, .slice A n c, .int .i64 (k : Int)] w fun e w' => e = .returned (.tuple #[]) ∧ ∃ xs', Lb w' g xs' ∧ Laid xs xs' N k (n + 1) (T + V) ∧ w.grownBy w' (some g) := by
  have HL := Lib.hid hl; have HD := Lib.hid hd; have HA := Lib.hid ha; have HA' := Lib.hid hA
  have HV := Lib.hid hV
  have HLN := Lib.hid (Laid.first (k := k) (R := T + V) hN)
  clear hl hd ha hA hV hN
  go_enter Try.func121, Try.ntmps121
  go_wp2
  go_loopw [6, 11] (fun v6 v11 wr => ∃ (i : Nat) (xs' : List Nat), i ≤ n + 1 ∧ v11 = .int .i64 i ∧ v6 = .int .u64 (car T V i : Nat) ∧ Hid (Laid xs xs' N k i (T + V)) ∧ Hid (Lb wr g xs') ∧ Hid (w.grownBy wr (some g))) (fun _ v _ => n + 1 - (intOf v).toNat)
  case atStart => exact ⟨0, xs, Nat.zero_le _, rfl, by rw [car_zero]; rfl, HLN, HL, World.grownBy.refl _ _⟩
  case round =>
    clear HL HLN
    obtain ⟨i, xs', hi, rfl, rfl, HX', HL, HK⟩ := hrel
    have hcar := car_le T V i
    by_cases hlt : i < n + 1
    · obtain ⟨x, hx⟩ : ∃ x, dig V i = x := ⟨_, rfl⟩
      obtain ⟨t, ht⟩ : ∃ t, dig T i = t := ⟨_, rfl⟩
      have hx1 : x < 4294967296 := by rw [← hx]; exact dig_lt _ _
      have ht1 : t < 4294967296 := by rw [← ht]; exact dig_lt _ _
      have HC := Lib.hid (car_succ T V i)
      have HT := Lib.hid (dig_add T V i)
      rw [ht, hx] at HC HT
      have HP := Lib.hid hx
      have c0 := HL.out.cell (i := k + i) (by rw [HX'.out.1]; omega)
      rw [HX'.out.at_ (by omega), HD.out i (by omega), ht] at c0
      have z0 := HL.out.free (k + i)
      clear hx ht
      generalize car T V i = y at *
      have e1 : IntKind.i64.wrap ((k : Int) + i) = (k : Int) + i := IntWalk.i64_in _ (by omega)
      have e2 : ((k : Int) + i).toNat = k + i := by omega
      have e3 : IntKind.u64.wrap ((t : Int) + x) = (t : Int) + x := by rw [u64_wrap]; omega
      have e4 : IntKind.u64.wrap ((y : Int) + ((t : Int) + x)) = (y : Int) + ((t : Int) + x) := by rw [u64_wrap]; omega
      have e6 : (0 : Int) ≤ (k : Int) + i := by omega
      have e7 : (k : Int) + i < (N : Int) := by omega
      go_wp2
      go_quiet ((go_at_call 112; exact Calls.quiet_of_same ((at_nat _ _ V _ i x _ ((HA.out.grown HK.out HA'.out).kept (Kept.drewN _ _)) HV.out (by omega) HP.out).mono (fun e w' h => ⟨h.1, h.2.symm⟩))))
      clear e1 e2 e3 e4 e6 e7
      go_wp2
      go_roundw
      case measure => simp [intOf]; omega
      case rel => exact ⟨i + 1, xs'.set (k + i) ((y + t + x) % B), by omega, by go_num, int_eq (by rw [HC.out]; simp only [B]; omega), HX'.out.next (by omega) HT.out.symm, (HL.out.kept (Kept.drewN _ _)).put (k + i) _ (by simp only [B]; omega), But.set (But.drewN HK.out _) _ _⟩
    · obtain rfl : i = n + 1 := by omega
      clear hcar
      generalize car T V (n + 1) = m at *
      go_wp2
      go_end0
      exact ⟨rfl, xs', HL.out, HX'.out, HK.out⟩
end Go.Proofs.Ytpclkgjhfhhddaa.V
/- Limbs: walks: shifts. -/
namespace Go.Proofs.Ytpclkgjhfhhddaa.V
open Go Go.RowKit Go.Proofs.Ytpclkgjhfhhddaa.PN
set_option linter.unusedVariables false
set_option linter.unusedSimpArgs false
theorem u32_wrap (x : Int) : IntKind.u32.wrap x = x % 4294967296 := by unfold IntKind.wrap; rfl
theorem at_int (A : Option Addr) (c s n : Nat) (i : Int) (p : Nat) (w : World) (ha : At w A s n) (hs : s < B ^ n) (hn : n ≤ 9223372036854775807) (hp : (if 0 ≤ i then (dig s i.toNat : Nat) else 0) = p) :
    Calls Try.prog 112 #[.slice A n c, .int .i64 i] w fun e w' => e = .returned (.int .u64 (p : Int)) ∧ w = w' := by
  have h := at_any A c s n i w ha hs hn
  by_cases h0 : 0 ≤ i
  · rw [if_pos h0] at h hp; rw [← hp]; exact h
  · rw [if_neg h0] at h hp; rw [← hp]; exact h
set_option maxRecDepth 100000 in
set_option maxHeartbeats 2000000 in
theorem shl_any (A : Option Addr) (c a k : Nat) (w : World) (ha : At w A a (size a)) (hn : size a ≤ 8796093022207) (hk : k < 32) :
    Calls Try.prog 118 #[.slice A (size a) c, .int .i64 (k : Int)] w (MadeNat w (a * 2 ^ k)) := by
  obtain ⟨i0, hi, hz0, hz1, hz2⟩ := info_parts info_u32
  have HS : Hid (a * 2 ^ k < B ^ (size a + 1)) := by
    show _ < _
    rw [Nat.pow_succ]
    exact Nat.mul_lt_mul_of_lt_of_le (lt_size a) (Nat.le_trans (Nat.pow_le_pow_right (by decide) (Nat.le_of_lt hk)) (by decide)) (by decide)
  have sa := Lib.hid (lt_size a)
  have k1 : (k : Int) / 32 = 0 := by omega
  have k2 : (k : Int) % 32 = k := by omega
  have HA := Lib.hid ha
  clear ha
  generalize size a = n at *
  go_enter Try.func118, Try.ntmps118
  go_wp2_with (at_make; refine wpList_make_full _ rfl _ _ 41 rfl w.heap.size U32 i0 (.int .u32 0) 1 Try.underlying41 hi hz0 hz1 _ _ _ _ (n + 1) rfl rfl (by omega) (by omega) (by rw [hz2]; omega) (by unfold maxLen; omega) (Nat.le_refl _) ?_; intro w1 hown hgrow; have HL := Lib.hid (Lb.of_own hown); have HK := Lib.hid (Kept.grown (Below.refl _ _) hgrow (fun k hk => by cases hk) : Kept w w1); clear hown hgrow)
  go_loopw [29] (fun v wr => ∃ (i : Nat) (xs : List Nat), i ≤ n + 1 ∧ v = .int .i64 i ∧ Hid (xs.length = n + 1 ∧ ∀ j, j < i → xs.getD j 0 = dig (a * 2 ^ k) j) ∧ Hid (Lb wr w.heap.size xs) ∧ Hid (Kept w wr)) (fun v _ => n + 1 - (intOf v).toNat)
  case atStart => exact ⟨0, _, Nat.zero_le _, rfl, ⟨by simp, fun j hj => absurd hj (Nat.not_lt_zero j)⟩, HL, HK⟩
  case round =>
    clear HL HK
    obtain ⟨i, xs, hi', rfl, HX, HL, HK⟩ := hrel
    by_cases hlt : i < n + 1
    · obtain ⟨p, hp⟩ : ∃ p, dig a i = p := ⟨_, rfl⟩
      obtain ⟨q, hq⟩ : ∃ q, (if i = 0 then 0 else dig a (i - 1)) = q := ⟨_, rfl⟩
      have hp1 : p < 4294967296 := by rw [← hp]; exact dig_lt _ _
      have hq1 : q < 4294967296 := by rw [← hq]; split; exact (by decide); exact dig_lt _ _
      have HP := Lib.hid hp
      have HQ : Hid ((if (0 : Int) ≤ (i : Int) - 1 then (dig a ((i : Int) - 1).toNat : Nat) else 0) = q) := by
        show _ = _
        rw [← hq]
        rcases Nat.eq_zero_or_pos i with h | h
        · subst h; rfl
        · rw [if_pos (by omega), if_neg (by omega), show ((i : Int) - 1).toNat = i - 1 by omega]
      have c0 := HL.out.cell (i := i) (by rw [HX.out.1]; omega)
      have z0 := HL.out.free i
      have HD := dig_shl a k i (by omega)
      rw [hp] at HD
      have hq' : (if i = 0 then 0 else dig a (i - 1) * 2 ^ k / B) = q * 2 ^ k / B := by
        rw [← hq]; split
        · rw [Nat.zero_mul, Nat.zero_div]
        · rfl
      rw [hq'] at HD
      have h2k : 2 ^ k < 4294967296 := Nat.pow_lt_pow_right (by decide) hk
      obtain ⟨P, hP⟩ : ∃ P, p * 2 ^ k = P := ⟨_, rfl⟩
      obtain ⟨Q, hQ⟩ : ∃ Q, q * 2 ^ k = Q := ⟨_, rfl⟩
      have f1 := mul_fit (x := p) (y := 2 ^ k) (z := 0) hp1 h2k (by decide) 0 (by decide)
      have f2 := mul_fit (x := q) (y := 2 ^ k) (z := 0) hq1 h2k (by decide) 0 (by decide)
      have f3 := shl_low (p := q) (k := k) (by omega) hq1
      have f4 := shl_mod (p := p) (k := k) (by omega)
      have f5 : p % 2 ^ (32 - k) * 2 ^ k < 4294967296 := by rw [← f4]; exact Nat.mod_lt _ (by decide)
      have hor := or_u32 (l := p % 2 ^ (32 - k)) (p := q * 2 ^ k / B) (k := k) (by omega) f3 f5
      rw [← f4] at hor
      have i1 : (p : Int) * 2 ^ k = (P : Int) := by rw [← hP]; simp
      have i2 : (q : Int) * 2 ^ k = (Q : Int) := by rw [← hQ]; simp
      rw [hP] at HD f1 f4 hor
      rw [hQ] at HD f2 f3 hor
      have i3 : IntKind.u64.wrap (P : Int) = (P : Int) := by rw [u64_wrap]; omega
      have i4 : IntKind.u64.wrap (Q : Int) = (Q : Int) := by rw [u64_wrap]; omega
      obtain ⟨p2, hp2⟩ : ∃ p2, P % B = p2 := ⟨_, rfl⟩
      obtain ⟨q2, hq2⟩ : ∃ q2, Q / B = q2 := ⟨_, rfl⟩
      rw [hp2, hq2] at HD hor
      have i5 : IntKind.u32.wrap (P : Int) = (p2 : Int) := by rw [u32_wrap, ← hp2]; simp only [B]; omega
      have i6 : (Q : Int) / 4294967296 = (q2 : Int) := by rw [← hq2]; simp only [B]; omega
      have i7 : IntKind.u32.wrap (q2 : Int) = (q2 : Int) := by rw [u32_wrap]; simp only [B] at hq2; omega
      have i8 : IntKind.i64.wrap ((i : Int) - 1) = (i : Int) - 1 := IntWalk.i64_in _ (by omega)
      obtain ⟨r, hr⟩ : ∃ r, p2 + q2 = r := ⟨_, rfl⟩
      rw [hr] at HD hor
      have HD' := Lib.hid HD
      clear hp hq HD hq' f1 f2 f3 f4 f5 hP hQ hp2 hq2 hr h2k
      generalize xs.getD i 0 = x0 at c0
      go_wp2
      go_region_with (first | ((go_at_call 112); (with_reducible refine (at_nat _ _ a _ i p _ ((HA.out.kept HK.out).kept (Kept.drew _)) sa.out (by omega) HP.out).mono ?_); rintro e w' ⟨rfl, rfl⟩) | ((go_at_call 112); (with_reducible refine (at_int _ _ a _ ((i : Int) - 1) q _ ((HA.out.kept HK.out).kept (Kept.drew _)) sa.out (by omega) HQ.out).mono ?_); rintro e w' ⟨rfl, rfl⟩))
      clear i1 i2 i3 i4 i5 i6 i7 i8 hor
      go_wp2
      go_roundw
      case measure => simp [intOf]; omega
      case rel => exact ⟨i + 1, xs.set i r, by omega, by go_num, first_set HX.out hlt HD'.out.symm, (HL.out.kept (Kept.drew _)).put i _ rfl, (HK.out.then (Kept.drew _)).set (Nat.le_refl _) _ _⟩
    · have HE := Lib.hid (show i = n + 1 by omega)
      go_wp2_with (go_at_call 109; refine (cut_any _ _ (a * 2 ^ k) _ _ (Nat.le_refl _) ((Lb.dg HL.out HX.out.1 (s := a * 2 ^ k) (fun i hi => HX.out.2 i (by rw [HE.out]; exact hi)) (S := fun _ => True) trivial).at_own) HS.out (by omega)).mono ?_; rintro e w' ⟨v, rfl, hv, hk⟩)
      go_ret
      exact MadeDg.after HK.out ⟨_, rfl, hv, hk⟩
end Go.Proofs.Ytpclkgjhfhhddaa.V
/- Limbs: walks: shifts the other way. -/
namespace Go.Proofs.Ytpclkgjhfhhddaa.V
open Go Go.RowKit Go.Proofs.Ytpclkgjhfhhddaa.PN
set_option linter.unusedVariables false
set_option linter.unusedSimpArgs false
theorem or_u64' {l p k : Nat} (hk : k ≤ 64) (hp : p < 2 ^ k) (h : l * 2 ^ k < 18446744073709551616) : bits .or .u64 (p : Int) ((l * 2 ^ k : Nat) : Int) = ((l * 2 ^ k + p : Nat) : Int) := by
  have h2 : p < 18446744073709551616 := Nat.lt_of_lt_of_le hp (Nat.le_trans (Nat.pow_le_pow_right (by decide) hk) (by decide))
  rw [u64_or_nat _ _ h2 h, Nat.or_comm, ← Nat.shiftLeft_eq, Nat.shiftLeft_add_eq_or_of_lt hp]
set_option maxRecDepth 100000 in
set_option maxHeartbeats 2000000 in
theorem shr_any (A : Option Addr) (c a k : Nat) (w : World) (ha : At w A a (size a)) (hn : size a ≤ 8796093022207) (hk : k < 32) :
    Calls Try.prog 122 #[.slice A (size a) c, .int .i64 (k : Int)] w (MadeNat w (a / 2 ^ k)) := by
  obtain ⟨i0, hi, hz0, hz1, hz2⟩ := info_parts info_u32
  have HS : Hid (a / 2 ^ k < B ^ size a) := Nat.lt_of_le_of_lt (Nat.div_le_self _ _) (lt_size a)
  have sa := Lib.hid (lt_size a)
  have k1 : (k : Int) / 32 = 0 := by omega
  have k2 : (k : Int) % 32 = k := by omega
  have HA := Lib.hid ha
  clear ha
  generalize size a = n at *
  go_enter Try.func122, Try.ntmps122
  go_wp2_with (at_make; refine wpList_make_full _ rfl _ _ 41 rfl w.heap.size U32 i0 (.int .u32 0) 1 Try.underlying41 hi hz0 hz1 _ _ _ _ n rfl rfl (by omega) (by omega) (by rw [hz2]; omega) (by unfold maxLen; omega) (Nat.le_refl _) ?_; intro w1 hown hgrow; have HL := Lib.hid (Lb.of_own hown); have HK := Lib.hid (Kept.grown (Below.refl _ _) hgrow (fun k hk => by cases hk) : Kept w w1); clear hown hgrow)
  go_loopw [28] (fun v wr => ∃ (i : Nat) (xs : List Nat), i ≤ n ∧ v = .int .i64 i ∧ Hid (xs.length = n ∧ ∀ j, j < i → xs.getD j 0 = dig (a / 2 ^ k) j) ∧ Hid (Lb wr w.heap.size xs) ∧ Hid (Kept w wr)) (fun v _ => n - (intOf v).toNat)
  case atStart => exact ⟨0, _, Nat.zero_le _, rfl, ⟨by simp, fun j hj => absurd hj (Nat.not_lt_zero j)⟩, HL, HK⟩
  case round =>
    clear HL HK
    obtain ⟨i, xs, hi', rfl, HX, HL, HK⟩ := hrel
    by_cases hlt : i < n
    · obtain ⟨p, hp⟩ : ∃ p, dig a i = p := ⟨_, rfl⟩
      obtain ⟨q, hq⟩ : ∃ q, dig a (i + 1) = q := ⟨_, rfl⟩
      have hp1 : p < 4294967296 := by rw [← hp]; exact dig_lt _ _
      have hq1 : q < 4294967296 := by rw [← hq]; exact dig_lt _ _
      have HP := Lib.hid hp
      have HQ : Hid ((if (0 : Int) ≤ (i : Int) + 1 then (dig a ((i : Int) + 1).toNat : Nat) else 0) = q) := by
        show _ = _
        rw [← hq, if_pos (by omega), show ((i : Int) + 1).toNat = i + 1 by omega]
      have c0 := HL.out.cell (i := i) (by rw [HX.out.1]; omega)
      have z0 := HL.out.free i
      generalize xs.getD i 0 = x0 at c0
      obtain ⟨t, ht⟩ : ∃ t, q * B + p = t := ⟨_, rfl⟩
      have hor : bits .or .u64 (p : Int) ((q : Int) * 4294967296) = (t : Int) := by
        rw [← ht]
        exact or_u64' (k := 32) (by decide) hp1 (by omega)
      have ht1 : t < 18446744073709551616 := by rw [← ht]; simp only [B]; omega
      have HD := dig_shr a k i (by omega)
      rw [hp, hq, Nat.add_comm, ht] at HD
      obtain ⟨s, hs⟩ : ∃ s, t / 2 ^ k = s := ⟨_, rfl⟩
      have hdiv : (t : Int) / 2 ^ k = (s : Int) := by rw [← hs]; simp
      rw [hs] at HD
      have hs1 : s < 18446744073709551616 := by rw [← hs]; exact Nat.lt_of_le_of_lt (Nat.div_le_self _ _) ht1
      have HD' := Lib.hid HD
      clear hp hq ht hs HD
      go_wp2_with (first | ((go_at_call 112); (with_reducible refine (at_nat _ _ a _ i p _ (HA.out.kept HK.out) sa.out (by omega) HP.out).mono ?_); rintro e w' ⟨rfl, rfl⟩) | ((go_at_call 112); (with_reducible refine (at_int _ _ a _ ((i : Int) + 1) q _ (HA.out.kept HK.out) sa.out (by omega) HQ.out).mono ?_); rintro e w' ⟨rfl, rfl⟩))
      go_roundw
      case measure => simp [intOf]; omega
      case rel => exact ⟨i + 1, xs.set i (s % B), by omega, by go_num, first_set HX.out hlt HD'.out.symm, HL.out.put i _ rfl, HK.out.set (Nat.le_refl _) _ _⟩
    · have HE := Lib.hid (show i = n by omega)
      go_wp2_with (go_at_call 109; refine (cut_any _ _ (a / 2 ^ k) _ _ (Nat.le_refl _) ((Lb.dg HL.out HX.out.1 (s := a / 2 ^ k) (fun i hi => HX.out.2 i (by rw [HE.out]; exact hi)) (S := fun _ => True) trivial).at_own) HS.out (by omega)).mono ?_; rintro e w' ⟨v, rfl, hv, hk⟩)
      go_ret
      exact MadeDg.after HK.out ⟨_, rfl, hv, hk⟩
end Go.Proofs.Ytpclkgjhfhhddaa.V

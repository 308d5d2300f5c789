/- Joined texts, 12: RefE RefF RefG RefH PBit RefI SRatA. -/
import Derived.Test.YtpclkgjhfhhddaaGreatJLawFastBig11
set_option linter.unusedVariables false
set_option linter.unusedSimpArgs false
/- The document's natural numbers: walks: products. -/
namespace Go.Proofs.YtpclkgjhfhhddaaGreat.V
open Go Go.RowKit Go.Proofs.YtpclkgjhfhhddaaGreat.PN
set_option linter.unusedVariables false
set_option linter.unusedSimpArgs false
set_option maxRecDepth 100000 in
set_option maxHeartbeats 2000000 in
theorem r_mul (A : Option Addr) (c a : Nat) (A' : Option Addr) (c' b : Nat) (w : World) (ha : At w A a (size a)) (hb : At w A' b (size b)) (hn : size a ≤ 8796093022207) (hm : size b ≤ 8796093022207) :
    Calls Tryz.prog 32 #[.slice A (size a) c, .slice A' (size b) c'] w (MadeNat w (a * b)) := by
  obtain ⟨i0, hi, hz0, hz1, hz2⟩ := info_parts info_u32
  have HS : Hid (a * b < B ^ (size a + size b)) := by
    show _ < _
    rw [Nat.pow_add]; exact Nat.mul_lt_mul'' (lt_size a) (lt_size b)
  have sa := Lib.hid (lt_size a); have sb := Lib.hid (lt_size b)
  have HA := Lib.hid ha
  have HB := Lib.hid hb
  clear ha hb
  generalize size a = n at *
  generalize size b = m at *
  go_enter Tryz.func32, Tryz.ntmps32
  go_wp2_with (at_make; refine wpList_make_full _ rfl _ _ 22 rfl w.heap.size U32 i0 (.int .u32 0) 1 Tryz.underlying22 hi hz0 hz1 _ _ _ _ (n + m) rfl rfl (by omega) (by omega) (by rw [hz2]; omega) (by unfold maxLen; omega) (Nat.le_refl _) ?_; intro w1 hown hgrow; have HL := Lib.hid (Lb.of_own hown); have HK := Lib.hid (Kept.grown (Below.refl _ _) hgrow (fun k hk => by cases hk) : Kept w w1); clear hown hgrow)
  go_loopw [6] (fun v wr => ∃ (i : Nat) (xs : List Nat), i ≤ n ∧ v = .int .i64 i ∧ Hid (xs.length = n + m ∧ ∀ j, j < n + m → xs.getD j 0 = dig ((a % B ^ i) * b) j) ∧ Hid (Lb wr w.heap.size xs) ∧ Hid (Kept w wr)) (fun v _ => n - (intOf v).toNat)
  case atStart => exact ⟨0, _, Nat.zero_le _, rfl, ⟨by simp, fun j hj => by rw [Nat.pow_zero, Nat.mod_one, Nat.zero_mul, dig_of_zero]; simp [hj]⟩, HL, HK⟩
  case round =>
    clear HL HK
    obtain ⟨i, xs, hi', rfl, HX, HL, HK⟩ := hrel
    by_cases hlt : i < n
    · obtain ⟨b1, o1, rfl, c1⟩ := HA.out i hlt
      obtain ⟨x, hx⟩ : ∃ x, dig a i = x := ⟨_, rfl⟩
      have hx1 : x < 4294967296 := by rw [← hx]; exact dig_lt a i
      rw [hx] at c1
      replace c1 := HK.out.cell c1
      have HQ := Lib.hid hx
      clear hx
      obtain ⟨wo, rfl⟩ : ∃ wo : World, wo = wr := ⟨_, rfl⟩
      go_wp2
      have HM := Lib.hid (MulAt.first (n := m) HX.out (by omega))
      clear HX
      go_loopw [7, 8] (fun cy v wr => ∃ (k : Nat) (xs : List Nat), k ≤ m ∧ v = .int .i64 k ∧ cy = .int .u64 (mcar a b i m k : Nat) ∧ Hid (MulAt a b i m k (n + m) xs) ∧ Hid (Lb wr w.heap.size xs) ∧ Hid (Kept w wr)) (fun _ v _ => m - (intOf v).toNat)
      case atStart => exact ⟨0, _, Nat.zero_le _, rfl, by rw [mcar_zero]; rfl, HM, HL, HK⟩
      case round =>
        clear HM HL HK c1
        obtain ⟨k, xs, hk, rfl, rfl, HM, HL, HK⟩ := hrel
        by_cases hlk : k < m
        · obtain ⟨b2, o2, rfl, c2⟩ := HB.out k hlk
          replace c2 := HK.out.cell c2
          have c1 : wr.cell? ⟨b1, o1 + i, none⟩ = some (.int .u32 (x : Int)) := by
            obtain ⟨b3, o3, e, c3⟩ := HA.out i hlt
            injection e with e; injection e with e1 e2; subst e1; subst e2
            rw [← HQ.out]; exact HK.out.cell c3
          obtain ⟨y, hy⟩ : ∃ y, dig b k = y := ⟨_, rfl⟩
          obtain ⟨z, hz⟩ : ∃ z, dig ((a % B ^ i) * b) (i + k) = z := ⟨_, rfl⟩
          obtain ⟨cy, hcy⟩ : ∃ cy, mcar a b i m k = cy := ⟨_, rfl⟩
          have hy1 : y < 4294967296 := by rw [← hy]; exact dig_lt b k
          have hz1' : z < 4294967296 := by rw [← hz]; exact dig_lt _ _
          have hc1 : cy < 4294967296 := by rw [← hcy]; exact mcar_lt _ _ _ _ _
          have c0 := HL.out.cell (i := i + k) (by rw [HM.out.1]; omega)
          rw [HM.out.2.2 (i + k) (Nat.le_refl _) (by omega), hz] at c0
          rw [hy] at c2
          have z0 := HL.out.free (i + k)
          have hfit := mul_fit (x := x) (y := y) (z := z) hx1 hy1 hz1' cy hc1
          obtain ⟨t, ht⟩ : ∃ t : Nat, x * y = t := ⟨_, rfl⟩
          have ht' : (x : Int) * (y : Int) = (t : Int) := by rw [← ht]; exact (Int.natCast_mul x y).symm
          rw [ht] at hfit
          have e1 : IntKind.i64.wrap ((i : Int) + k) = (i : Int) + k := IntWalk.i64_in _ (by omega)
          have e2 : ((i : Int) + k).toNat = i + k := by omega
          have e3 : IntKind.u64.wrap ((cy : Int) + t) = (cy : Int) + t := by rw [u64_wrap]; omega
          have e4 : IntKind.u64.wrap ((cy : Int) + (t : Int) + z) = (cy : Int) + (t : Int) + z := by rw [u64_wrap]; omega
          have e8 : (i : Int) < (n : Int) := by omega
          have e9 : (0 : Int) ≤ (i : Int) := by omega
          have e5 : IntKind.u64.wrap (t : Int) = (t : Int) := by rw [u64_wrap]; omega
          have e6 : (0 : Int) ≤ (i : Int) + k := by omega
          have e7 : (i : Int) + k < (n : Int) + m := by omega
          have HC := Lib.hid (mcar_succ a b i m k)
          rw [HQ.out, hy, hz, hcy, ht] at HC
          have HN : Hid (∀ v, v = (cy + t + z) % B → MulAt a b i m (k + 1) (n + m) (xs.set (i + k) v)) := fun v hv => MulAt.step HM.out (by omega) (by rw [hcy, HQ.out, hy, ht, hz]; exact hv)
          have HY := Lib.hid hy
          rw [hcy]
          clear hy hz hcy ht HM
          go_wp2
          go_quiet (fail)
          clear e1 e2 e3 e4 e5 e6 e7 e8 e9 ht' c1 c2
          go_wp2
          go_roundw
          case measure => simp [intOf]; omega
          case rel => exact ⟨k + 1, xs.set (i + k) ((cy + t + z) % B), by omega, by go_num, int_eq (by rw [HC.out]; simp only [B]; omega), HN.out _ rfl, (HL.out.kept (Kept.drewN _ _)).put (i + k) _ (by simp only [B]; omega), (HK.out.then (Kept.drewN _ _)).set (Nat.le_refl _) _ _⟩
        · have HE := Lib.hid (show k = m by omega)
          have z0 := HL.out.free (i + m)
          have c0 := HL.out.cell (i := i + m) (by rw [HM.out.1]; omega)
          have hc1 : mcar a b i m k < 4294967296 := mcar_lt _ _ _ _ _
          obtain ⟨cy, hcy⟩ : ∃ cy, mcar a b i m k = cy := ⟨_, rfl⟩
          have HN : Hid (∀ v, v = cy → (xs.set (i + m) v).length = n + m ∧ ∀ j, j < n + m → (xs.set (i + m) v).getD j 0 = dig ((a % B ^ (i + 1)) * b) j) := fun v hv => by
            have h := HM.out
            rw [HE.out] at h hcy
            exact MulAt.last h sb.out (by omega) (by rw [hcy]; exact hv)
          rw [hcy] at hc1 ⊢
          generalize xs.getD (i + m) 0 = x0 at c0
          clear hcy HM
          go_wp2
          go_roundw
          case measure => simp [intOf]; omega
          case rel => exact ⟨i + 1, xs.set (i + m) cy, by omega, by go_num, HN.out _ rfl, HL.out.put (i + m) _ (by omega), HK.out.set (Nat.le_refl _) _ _⟩
    · have HE := Lib.hid (show i = n by omega)
      go_wp2_with (go_at_call 55; refine (r_trim _ _ (a * b) _ _ (Nat.le_refl _) ((Lb.dg HL.out HX.out.1 (s := a * b) (fun j hj => by have := HX.out.2 j hj; rw [HE.out, Nat.mod_eq_of_lt sa.out] at this; exact this) (S := fun _ => True) trivial).at_own) HS.out (by omega)).mono ?_; rintro e w' ⟨v, rfl, hv, hk⟩)
      go_ret
      exact MadeDg.after HK.out ⟨_, rfl, hv, hk⟩
end Go.Proofs.YtpclkgjhfhhddaaGreat.V
/- The document's natural numbers: walks: Sub, Bits. -/
namespace Go.Proofs.YtpclkgjhfhhddaaGreat.V
open Go Go.RowKit Go.Proofs.YtpclkgjhfhhddaaGreat.PN
set_option linter.unusedVariables false
set_option linter.unusedSimpArgs false
set_option maxHeartbeats 1000000 in
theorem r_sub (A : Option Addr) (c a : Nat) (A' : Option Addr) (c' b : Nat) (w : World) (ha : At w A a (size a)) (hb : At w A' b (size b)) (hn : size a ≤ 17592186044415) (hm : size b ≤ 17592186044415) (hab : b ≤ a) :
    Calls Tryz.prog 35 #[.slice A (size a) c, .slice A' (size b) c'] w (MadeDgOk w (a - b) (size (a - b)) 0) := by
  have HC := Lib.hid (r_cmp A c a A' c' b w ha hb (by omega) (by omega))
  have hcmp : decide (cmpI a b < 0) = false := by
    have := @cmp_neg a b
    rw [decide_eq_false_iff_not, this]; omega
  have HL : Hid (∀ w1, Kept w w1 → Calls Tryz.prog 57 #[.slice A (size a) c, .slice A' (size b) c'] w1 (MadeNat w1 (a - b))) := fun w1 hk => r_less A c a A' c' b w1 (ha.kept hk) (hb.kept hk) hn hm hab
  clear ha hb
  generalize size a = n at *
  generalize size b = m at *
  generalize cmpI a b = cm at *
  go_enter Tryz.func35, Tryz.ntmps35
  go_wp2_with (first | (go_at_call 31; refine HC.out.mono ?_; rintro e w1 ⟨rfl, hk1⟩; have HK1 := Lib.hid hk1; clear hk1) | (go_at_call 57; refine (HL.out _ HK1.out).mono ?_; rintro e w2 ⟨v2, rfl, hv2, hk2⟩; have HV2 := Lib.hid hv2; have HK2 := Lib.hid hk2; clear hv2 hk2))
  go_ret2
  exact ⟨_, rfl, HV2.out.mono (fun j hj _ => Nat.le_trans HK1.out.size hj), HK1.out.then HK2.out⟩
/-- How many binary digits. -/
def IsBits (a L : Nat) : Prop := a < 2 ^ L ∧ (a ≠ 0 → 2 ^ L ≤ 2 * a) ∧ L ≤ 32 * size a
theorem isBits_top {a n d j : Nat} (hn : size a = n + 1) (hd : dig a n = d) (h1 : d < 2 ^ j) (h2 : 2 ^ j ≤ 2 * d) (hj : j ≤ 32) : IsBits a (32 * n + j) := by
  have e : (2 : Nat) ^ (32 * n + j) = B ^ n * 2 ^ j := by rw [Nat.pow_add, Nat.pow_mul]
  have hs : a = B ^ n * d + a % B ^ n := by
    have h := Nat.div_add_mod a (B ^ n)
    have hlt : a / B ^ n < B := by
      have h9 := lt_size a
      rw [hn, Nat.pow_succ] at h9
      exact Nat.div_lt_of_lt_mul h9
    have : dig a n = a / B ^ n := by unfold dig; exact Nat.mod_eq_of_lt hlt
    rw [← hd, this]; exact h.symm
  have hr := mod_lt a n
  generalize a % B ^ n = r at *
  refine ⟨?_, fun _ => ?_, by omega⟩
  · rw [e]
    have : B ^ n * (d + 1) ≤ B ^ n * 2 ^ j := Nat.mul_le_mul_left _ h1
    rw [Nat.mul_add, Nat.mul_one] at this
    omega
  · rw [e]
    have := Nat.mul_le_mul_left (B ^ n) h2
    rw [Nat.mul_left_comm] at this
    omega
set_option maxHeartbeats 1000000 in
theorem r_bits (A : Option Addr) (c a : Nat) (w : World) (ha : At w A a (size a)) (hn : size a ≤ 17592186044415) :
    Calls Tryz.prog 58 #[.slice A (size a) c] w fun e w' => (∃ L : Nat, e = .returned (.int .i64 (L : Int)) ∧ IsBits a L) ∧ w = w' := by
  rcases Nat.eq_zero_or_pos a with h | h
  · subst h
    have hz : size 0 = 0 := size_zero
    have hb : IsBits 0 0 := ⟨by decide, fun h => absurd rfl h, Nat.zero_le _⟩
    have HB := Lib.hid hb
    rw [hz] at *
    clear ha hz hb
    go_enter Tryz.func58, Tryz.ntmps58
    go_wp2
    go_ret
    exact ⟨⟨0, rfl, HB.out⟩, rfl⟩
  · obtain ⟨n, hsz⟩ : ∃ n, size a = n + 1 := ⟨size a - 1, by have := size_pos (s := a) (by omega); omega⟩
    obtain ⟨b1, o1, rfl, c1⟩ := ha n (by omega)
    obtain ⟨d, hd⟩ : ∃ d, dig a n = d := ⟨_, rfl⟩
    have hd1 : d < 4294967296 := by rw [← hd]; exact dig_lt _ _
    have hd0 : 0 < d := by
      have := top_ne (s := a) (by omega)
      rw [hsz, Nat.add_sub_cancel, hd] at this; omega
    rw [hd] at c1
    have HT : Hid (∀ j, d < 2 ^ j → 2 ^ j ≤ 2 * d → j ≤ 32 → IsBits a (32 * n + j)) := fun j => isBits_top hsz hd
    have hn' : n + 1 ≤ 17592186044416 := by omega
    clear ha hd h hn
    rw [hsz]
    clear hsz
    go_enter Tryz.func58, Tryz.ntmps58
    have e1 : IntKind.i64.wrap (32 * (n : Int)) = 32 * (n : Int) := IntWalk.i64_in _ (by omega)
    go_wp2
    go_loop [3, 4] (fun u v => ∃ (j x : Nat), j ≤ 32 ∧ x < 4294967296 ∧ u = .int .i64 (32 * (n : Int) + j) ∧ v = .int .u32 (x : Int) ∧ Hid (x = d / 2 ^ j ∧ 2 ^ j ≤ 2 * d)) (fun _ v => (intOf v).toNat)
    case atStart => exact ⟨0, d, by omega, hd1, by simp, rfl, by simp, by omega⟩
    case round =>
      obtain ⟨j, x, hj, hx1, rfl, rfl, HX⟩ := hrel
      rcases Nat.eq_zero_or_pos x with h | h
      · subst h
        have hlt := (Nat.div_eq_zero_iff_lt (Nat.pow_pos (by decide : 0 < 2))).1 HX.out.1.symm
        have HL := Lib.hid (HT.out j hlt HX.out.2 hj)
        clear hlt
        go_wp2
        go_ret
        exact ⟨⟨32 * n + j, by push_cast; rfl, HL.out⟩, rfl⟩
      · have hj' : j < 32 := by
          rcases Nat.lt_or_ge j 32 with h' | h'
          · exact h'
          · have h1 := HX.out.1
            rw [Nat.div_eq_of_lt (Nat.lt_of_lt_of_le hd1 (Nat.pow_le_pow_right (n := 2) (by decide) h'))] at h1
            omega
        have HN : Hid (x / 2 = d / 2 ^ (j + 1) ∧ 2 ^ (j + 1) ≤ 2 * d) := by
          obtain ⟨h1, h2⟩ := HX.out
          have h3 : 2 ^ j ≤ d := by
            rcases Nat.lt_or_ge d (2 ^ j) with h' | h'
            · rw [Nat.div_eq_of_lt h'] at h1; omega
            · exact h'
          exact ⟨by rw [h1, Nat.pow_succ, Nat.div_div_eq_div_mul], by rw [Nat.pow_succ]; omega⟩
        clear HX
        go_wp2
        go_round
        case rel => exact ⟨j + 1, x / 2, by omega, by omega, by go_num, by go_num, HN⟩
        case measure => simp [intOf]; omega
end Go.Proofs.YtpclkgjhfhhddaaGreat.V
/- The document's natural numbers: walks: shifts. -/
namespace Go.Proofs.YtpclkgjhfhhddaaGreat.V
open Go Go.RowKit Go.Proofs.YtpclkgjhfhhddaaGreat.PN
set_option linter.unusedVariables false
set_option linter.unusedSimpArgs false
/-- What has been shifted so far: i limbs. -/
def ShlAt (a s w n i : Nat) (xs : List Nat) : Prop :=
  xs.length = n + w + 1 ∧ (∀ j, j < w → xs.getD j 0 = 0) ∧ (∀ j, j < i → xs.getD (w + j) 0 = dig (a * 2 ^ s) j) ∧ xs.getD (w + i) 0 = (if i = 0 then 0 else dig a (i - 1) * 2 ^ s / B)
theorem ShlAt.step {a s w n i r h : Nat} {xs : List Nat} (H : ShlAt a s w n i xs) (hi : i < n) (hr : r = dig (a * 2 ^ s) i) (hh : h = dig a i * 2 ^ s / B) : ShlAt a s w n (i + 1) ((xs.set (i + w) r).set (i + w + 1) h) := by
  obtain ⟨h1, h2, h3, h4⟩ := H
  refine ⟨by simp [h1], fun j hj => ?_, fun j hj => ?_, ?_⟩
  · rw [getD_set_other (by omega), getD_set_other (by omega)]; exact h2 j hj
  · rw [getD_set_other (by omega)]
    by_cases e : j = i
    · subst e
      rw [show w + j = j + w by omega, getD_set_self (by omega), hr]
    · rw [getD_set_other (by omega)]; exact h3 j (by omega)
  · rw [show w + (i + 1) = i + w + 1 by omega, getD_set_self (by rw [List.length_set]; omega), if_neg (by omega), hh, Nat.add_sub_cancel]
theorem ShlAt.last {a s w n : Nat} {xs : List Nat} (H : ShlAt a s w n n xs) (hs : s ≤ 32) (ha : a < B ^ n) : ∀ j, j < n + w + 1 → xs.getD j 0 = dig (a * 2 ^ s * B ^ w) j := by
  obtain ⟨h1, h2, h3, h4⟩ := H
  intro j hj
  rcases Nat.lt_or_ge j w with h | h
  · rw [h2 j h]
    have := dig_low (s := 0) (t := a * 2 ^ s) h
    rw [Nat.zero_add, Nat.mul_comm] at this
    rw [this, dig_of_zero]
  · obtain ⟨t, rfl⟩ : ∃ t, j = w + t := ⟨j - w, by omega⟩
    have e : dig (a * 2 ^ s * B ^ w) (w + t) = dig (a * 2 ^ s) t := by
      have := dig_shift (s := 0) (t := a * 2 ^ s) (m := w) (j := t) (Nat.pow_pos (by decide))
      rw [Nat.zero_add, Nat.mul_comm] at this
      exact this
    rw [e]
    by_cases ht : t = n
    · subst ht
      rw [h4, dig_shl a s t hs, dig_over ha (Nat.le_refl _), Nat.zero_mul, Nat.zero_mod, Nat.zero_add]
    · exact h3 t (by omega)
theorem zeros_get (N j : Nat) : (List.replicate N 0).getD j 0 = 0 := by
  rw [List.getD_eq_getElem?_getD, List.getElem?_replicate]; split <;> rfl
theorem or_u32_r {l p k : Nat} (hk : k ≤ 32) (hp : p < 2 ^ k) (h : l * 2 ^ k < 4294967296) : bits .or .u32 (p : Int) ((l * 2 ^ k : Nat) : Int) = ((l * 2 ^ k + p : Nat) : Int) := by
  have h2 : p < 4294967296 := Nat.lt_of_lt_of_le hp (Nat.le_trans (Nat.pow_le_pow_right (by decide) hk) (by decide))
  rw [u32_or_nat _ _ h2 h, Nat.or_comm, ← Nat.shiftLeft_eq, Nat.shiftLeft_add_eq_or_of_lt hp]
set_option maxRecDepth 100000 in
set_option maxHeartbeats 2000000 in
theorem r_shl (A : Option Addr) (c a k : Nat) (w : World) (ha : At w A a (size a)) (hc : size a ≤ c) (hn : size a ≤ 1000000) (hk : k ≤ 1048576) :
    Calls Tryz.prog 59 #[.slice A (size a) c, .int .i64 (k : Int)] w (MadeNat w (a * 2 ^ k)) := by
  rcases Nat.eq_zero_or_pos a with h0 | h0
  · subst h0
    have HT := Lib.hid (r_trim A c 0 0 w (Nat.zero_le _) (by rw [← size_zero]; exact ha) (by decide) (by omega))
    rw [Nat.zero_mul, size_zero]
    clear ha hn hc
    have d1 : decide ((1048576 : Int) < (k : Int)) = false := by simp; omega
    clear hk
    go_enter Tryz.func59, Tryz.ntmps59
    go_wp2_with (go_at_call 55; refine HT.out.mono ?_; rintro e w1 ⟨v1, rfl, hv1, hk1⟩)
    go_ret
    exact ⟨_, rfl, hv1, hk1⟩
  obtain ⟨i0, hi, hz0, hz1, hz2⟩ := info_parts info_u32
  obtain ⟨q, hq⟩ : ∃ q, k / 32 = q := ⟨_, rfl⟩
  obtain ⟨s, hs⟩ : ∃ s, k % 32 = s := ⟨_, rfl⟩
  have hs32 : s < 32 := by omega
  have hq1 : q ≤ 32768 := by omega
  have e2 : a * 2 ^ k = a * 2 ^ s * B ^ q := by
    have : (2 : Nat) ^ k = 2 ^ s * B ^ q := by
      rw [show k = s + 32 * q by omega, Nat.pow_add, Nat.pow_mul]
    rw [this, Nat.mul_assoc]
  rw [e2]
  have HS : Hid (a * 2 ^ s * B ^ q < B ^ (size a + q + 1)) := by
    show _ < _
    rw [show size a + q + 1 = (size a + 1) + q by omega, Nat.pow_add B (size a + 1)]
    refine Nat.mul_lt_mul_of_pos_right ?_ (Bp q)
    rw [Nat.pow_succ]
    exact Nat.mul_lt_mul_of_lt_of_le (lt_size a) (Nat.le_trans (Nat.pow_le_pow_right (by decide) (Nat.le_of_lt hs32)) (by decide)) (by decide)
  have sa := Lib.hid (lt_size a)
  have k1 : (k : Int) / 32 = (q : Int) := by omega
  have k2 : (k : Int) % 32 = (s : Int) := by omega
  have d1 : decide ((1048576 : Int) < (k : Int)) = false := by simp; omega
  have d2 : ((size a : Int) == 0) = false := by
    have := size_pos (s := a) (by omega)
    simp; omega
  have k3 : IntKind.u64.wrap (s : Int) = (s : Int) := by rw [u64_wrap]; omega
  have HA := Lib.hid ha
  clear ha hk h0 e2 hq hs
  generalize size a = n at *
  go_enter Tryz.func59, Tryz.ntmps59
  have k4 : IntKind.i64.wrap ((n : Int) + q) = (n : Int) + q := IntWalk.i64_in _ (by omega)
  have k5 : IntKind.i64.wrap ((n : Int) + q + 1) = (n : Int) + q + 1 := IntWalk.i64_in _ (by omega)
  go_wp2_with (at_make; refine wpList_make_full _ rfl (.tmp 32) (.tmp 32) 22 rfl w.heap.size U32 i0 (.int .u32 0) 1 Tryz.underlying22 hi hz0 hz1 _ _ _ _ (n + q + 1) rfl rfl (by omega) (by omega) (by rw [hz2]; omega) (by unfold maxLen; omega) (Nat.le_refl _) ?_; intro w1 hown hgrow; have HL := Lib.hid (Lb.of_own hown); have HK := Lib.hid (Kept.grown (Below.refl _ _) hgrow (fun k hk => by cases hk) : Kept w w1); clear hown hgrow)
  go_loopw [8] (fun v wr => ∃ (i : Nat) (xs : List Nat), i ≤ n ∧ v = .int .i64 i ∧ Hid (ShlAt a s q n i xs) ∧ Hid (Lb wr w.heap.size xs) ∧ Hid (Kept w wr)) (fun v _ => n - (intOf v).toNat)
  case atStart => exact ⟨0, _, Nat.zero_le _, rfl, ⟨by simp, fun j hj => zeros_get _ _, fun j hj => absurd hj (Nat.not_lt_zero j), zeros_get _ _⟩, HL, HK⟩
  case round =>
    clear HL HK
    obtain ⟨i, xs, hi', rfl, HX, HL, HK⟩ := hrel
    by_cases hlt : i < n
    · obtain ⟨b1, o1, rfl, c1⟩ := HA.out i hlt
      obtain ⟨p, hp⟩ : ∃ p, dig a i = p := ⟨_, rfl⟩
      have hp1 : p < 4294967296 := by rw [← hp]; exact dig_lt _ _
      rw [hp] at c1
      replace c1 := HK.out.cell c1
      obtain ⟨e, he⟩ : ∃ e, (if i = 0 then 0 else dig a (i - 1) * 2 ^ s / B) = e := ⟨_, rfl⟩
      have he1 : e < 2 ^ s := by
        have := (shl_car a s i (by omega)).2
        rw [(shl_car a s i (by omega)).1, he] at this; exact this
      have c0 := HL.out.cell (i := i + q) (by rw [HX.out.1]; omega)
      have z0 := HL.out.free (i + q)
      have z1 := HL.out.free (i + q + 1)
      have c2 := HL.out.cell (i := i + q + 1) (by rw [HX.out.1]; omega)
      rw [show xs.getD (i + q) 0 = e by rw [Nat.add_comm]; rw [HX.out.2.2.2, he]] at c0
      have HD := dig_shl a s i (by omega)
      rw [hp, he] at HD
      have h2k : 2 ^ s < 4294967296 := Nat.pow_lt_pow_right (by decide) hs32
      obtain ⟨P, hP⟩ : ∃ P, p * 2 ^ s = P := ⟨_, rfl⟩
      have f1 := mul_fit (x := p) (y := 2 ^ s) (z := 0) hp1 h2k (by decide) 0 (by decide)
      have f3 := shl_low (p := p) (k := s) (by omega) hp1
      have f4 := shl_mod (p := p) (k := s) (by omega)
      have f5 : p % 2 ^ (32 - s) * 2 ^ s < 4294967296 := by rw [← f4]; exact Nat.mod_lt _ (by decide)
      have hor := or_u32_r (l := p % 2 ^ (32 - s)) (p := e) (k := s) (by omega) he1 f5
      rw [← f4] at hor
      have i1 : (p : Int) * 2 ^ s = (P : Int) := by rw [← hP]; simp
      rw [hP] at HD f1 f3 f4 hor
      have i3 : IntKind.u64.wrap (P : Int) = (P : Int) := by rw [u64_wrap]; omega
      obtain ⟨p2, hp2⟩ : ∃ p2, P % B = p2 := ⟨_, rfl⟩
      obtain ⟨q2, hq2⟩ : ∃ q2, P / B = q2 := ⟨_, rfl⟩
      rw [hp2] at HD hor
      have i5 : IntKind.u32.wrap (P : Int) = (p2 : Int) := by rw [u32_wrap, ← hp2]; simp only [B]; omega
      have i6 : (P : Int) / 4294967296 = (q2 : Int) := by rw [← hq2]; simp only [B]; omega
      have i7 : IntKind.u32.wrap (q2 : Int) = (q2 : Int) := by rw [u32_wrap]; simp only [B] at hq2; omega
      have i8 : IntKind.i64.wrap ((i : Int) + q) = (i : Int) + q := IntWalk.i64_in _ (by omega)
      have i9 : IntKind.i64.wrap ((i : Int) + q + 1) = (i : Int) + q + 1 := IntWalk.i64_in _ (by omega)
      have j1 : ((i : Int) + q).toNat = i + q := by omega
      have j2 : ((i : Int) + q + 1).toNat = i + q + 1 := by omega
      obtain ⟨r, hr⟩ : ∃ r, p2 + e = r := ⟨_, rfl⟩
      rw [hr] at HD hor
      have HN : Hid (ShlAt a s q n (i + 1) ((xs.set (i + q) r).set (i + q + 1) q2)) := ShlAt.step HX.out hlt HD.symm (by rw [hp, hP, hq2])
      have hlen := HX.out.1
      have HLen := Lib.hid hlen
      clear hp HD f1 f3 f4 f5 hP hp2 hq2 hr h2k he he1 HX hlen
      generalize xs.getD (i + q + 1) 0 = x0 at c2
      go_wp2
      go_roundw
      case measure => simp [intOf]; omega
      case rel => exact ⟨i + 1, _, by omega, by go_num, HN, (HL.out.put (i + q) _ rfl).put (i + q + 1) _ rfl, (HK.out.set (Nat.le_refl _) _ _).set (Nat.le_refl _) _ _⟩
    · have HE := Lib.hid (show i = n by omega)
      have HF : Hid (∀ j, j < n + q + 1 → xs.getD j 0 = dig (a * 2 ^ s * B ^ q) j) := by
        have h := HX.out
        rw [HE.out] at h
        exact h.last (by omega) sa.out
      go_wp2_with (go_at_call 55; refine (r_trim _ _ (a * 2 ^ s * B ^ q) _ _ (Nat.le_refl _) ((Lb.dg HL.out HX.out.1 (s := a * 2 ^ s * B ^ q) HF.out (S := fun _ => True) trivial).at_own) HS.out (by omega)).mono ?_; rintro e w' ⟨v, rfl, hv, hk⟩)
      go_ret
      exact MadeDg.after HK.out ⟨_, rfl, hv, hk⟩
end Go.Proofs.YtpclkgjhfhhddaaGreat.V
/- The document's natural numbers: walks: half of a number. -/
namespace Go.Proofs.YtpclkgjhfhhddaaGreat.V
open Go Go.RowKit Go.Proofs.YtpclkgjhfhhddaaGreat.PN
set_option linter.unusedVariables false
set_option linter.unusedSimpArgs false
set_option maxRecDepth 100000 in
set_option maxHeartbeats 2000000 in
theorem r_half (A : Option Addr) (c a : Nat) (w : World) (ha : At w A a (size a)) (hn : size a ≤ 8796093022207) :
    Calls Tryz.prog 60 #[.slice A (size a) c, .int .i64 1] w (MadeNat w (a / 2)) := by
  rcases Nat.eq_zero_or_pos a with h0 | h0
  · subst h0
    rw [size_zero, Nat.zero_div]
    clear ha hn
    go_enter Tryz.func60, Tryz.ntmps60
    go_wp2
    go_ret
    exact ⟨_, rfl, by rw [size_zero]; exact Dg.nil _ _ _, Below.refl _ _⟩
  obtain ⟨i0, hi, hz0, hz1, hz2⟩ := info_parts info_u32
  have HS : Hid (a / 2 < B ^ size a) := Nat.lt_of_le_of_lt (Nat.div_le_self _ _) (lt_size a)
  have sa := Lib.hid (lt_size a)
  have hpos : 0 < size a := by
    have := size_pos (s := a) (by omega)
    omega
  have d2 : decide ((size a : Int) ≤ 0) = false := by simp; omega
  have HA := Lib.hid ha
  clear ha h0
  generalize size a = n at *
  go_enter Tryz.func60, Tryz.ntmps60
  go_wp2_with (at_make; refine wpList_make_full _ rfl (.tmp 29) (.tmp 29) 22 rfl w.heap.size U32 i0 (.int .u32 0) 1 Tryz.underlying22 hi hz0 hz1 _ _ _ _ n rfl rfl (by omega) (by omega) (by rw [hz2]; omega) (by unfold maxLen; omega) (Nat.le_refl _) ?_; intro w1 hown hgrow; have HL := Lib.hid (Lb.of_own hown); have HK := Lib.hid (Kept.grown (Below.refl _ _) hgrow (fun k hk => by cases hk) : Kept w w1); clear hown hgrow)
  go_loopw [8] (fun v wr => ∃ (i : Nat) (xs : List Nat), i ≤ n ∧ v = .int .i64 i ∧ Hid (xs.length = n ∧ ∀ j, j < i → xs.getD j 0 = dig (a / 2) j) ∧ Hid (Lb wr w.heap.size xs) ∧ Hid (Kept w wr)) (fun v _ => n - (intOf v).toNat)
  case atStart => exact ⟨0, _, Nat.zero_le _, rfl, ⟨by simp, fun j hj => absurd hj (Nat.not_lt_zero j)⟩, HL, HK⟩
  case round =>
    clear HL HK
    obtain ⟨i, xs, hi', rfl, HX, HL, HK⟩ := hrel
    by_cases hlt : i < n
    · obtain ⟨p, hp⟩ : ∃ p, dig a i = p := ⟨_, rfl⟩
      obtain ⟨q, hq⟩ : ∃ q, dig a (i + 1) = q := ⟨_, rfl⟩
      have hp1 : p < 4294967296 := by rw [← hp]; exact dig_lt _ _
      have hq1 : q < 4294967296 := by rw [← hq]; exact dig_lt _ _
      have HP := Lib.hid hp
      have HQ := Lib.hid hq
      have c0 := HL.out.cell (i := i) (by rw [HX.out.1]; omega)
      have z0 := HL.out.free i
      generalize xs.getD i 0 = x0 at c0
      obtain ⟨t, ht⟩ : ∃ t, q * B + p = t := ⟨_, rfl⟩
      have hor : bits .or .u64 (p : Int) ((q : Int) * 4294967296) = (t : Int) := by
        rw [← ht]
        exact or_u64' (k := 32) (by decide) hp1 (by omega)
      have ht1 : t < 18446744073709551616 := by rw [← ht]; simp only [B]; omega
      have HD := dig_shr a 1 i (by omega)
      rw [hp, hq, Nat.add_comm, ht, Nat.pow_one] at HD
      have HD' := Lib.hid HD
      have j1 : ((i + 1 : Nat) : Int) = (i : Int) + 1 := by omega
      have HC : Hid (∀ w1, Kept w w1 → Calls Tryz.prog 56 #[.slice A n c, .int .i64 ((i : Int) + 1)] w1 fun e w' => e = .returned (.int .u64 (q : Int)) ∧ w1 = w') := fun w1 hk => by
        rw [← j1]; exact r_atp _ _ a _ (i + 1) q _ (HA.out.kept hk) sa.out (by omega) HQ.out
      clear hp hq ht HD j1
      go_wp2_with (go_at_call 56; first | ((with_reducible refine (r_atp _ _ a _ i p _ (HA.out.kept HK.out) sa.out (by omega) HP.out).mono ?_); rintro e w' ⟨rfl, rfl⟩) | ((with_reducible refine (HC.out _ HK.out).mono ?_); rintro e w' ⟨rfl, rfl⟩))
      go_roundw
      case measure => simp [intOf]; omega
      case rel => exact ⟨i + 1, xs.set i (t / 2 % B), by omega, by go_num, first_set HX.out hlt HD'.out.symm, HL.out.put i _ (by simp only [B]; omega), HK.out.set (Nat.le_refl _) _ _⟩
    · have HE := Lib.hid (show i = n by omega)
      go_wp2_with (go_at_call 55; refine (r_trim _ _ (a / 2) _ _ (Nat.le_refl _) ((Lb.dg HL.out HX.out.1 (s := a / 2) (fun i hi => HX.out.2 i (by rw [HE.out]; exact hi)) (S := fun _ => True) trivial).at_own) HS.out (by omega)).mono ?_; rintro e w' ⟨v, rfl, hv, hk⟩)
      go_ret
      exact MadeDg.after HK.out ⟨_, rfl, hv, hk⟩
end Go.Proofs.YtpclkgjhfhhddaaGreat.V
/- Quotients by shifting and taking away. -/
namespace Go.Proofs.YtpclkgjhfhhddaaGreat.PN
open Go
theorem bit_low {Q i m j : Nat} (hQ : Q = 2 ^ (i + 1) * m) (hj : j ≠ i / 32) : dig (Q + 2 ^ i) j = dig Q j := by
  obtain ⟨u, v, hi, hu, hv⟩ : ∃ u v, i = v + 32 * u ∧ i / 32 = u ∧ v < 32 := ⟨i / 32, i % 32, by omega, rfl, by omega⟩
  rw [hu] at hj
  have e1 : (2 : Nat) ^ i = B ^ u * 2 ^ v := by rw [hi, Nat.pow_add, Nat.pow_mul, Nat.mul_comm]
  have e2 : Q = B ^ u * (m * 2 ^ (v + 1)) := by rw [hQ, Nat.pow_succ, e1, Nat.pow_succ]; ac_rfl
  rcases Nat.lt_or_gt_of_ne hj with h | h
  · rw [e1, dig_low h]
  · obtain ⟨t, rfl⟩ : ∃ t, j = u + (t + 1) := ⟨j - u - 1, by omega⟩
    have z : (0 : Nat) < B ^ u := Bp u
    have s1 : dig (B ^ u * (m * 2 ^ (v + 1))) (u + (t + 1)) = dig (m * 2 ^ (v + 1)) (t + 1) := by
      have := dig_shift (s := 0) (t := m * 2 ^ (v + 1)) (m := u) (j := t + 1) z
      rwa [Nat.zero_add] at this
    have s2 : dig (B ^ u * (m * 2 ^ (v + 1)) + B ^ u * 2 ^ v) (u + (t + 1)) = dig (2 ^ v + m * 2 ^ (v + 1)) (t + 1) := by
      have := dig_shift (s := 0) (t := 2 ^ v + m * 2 ^ (v + 1)) (m := u) (j := t + 1) z
      rw [Nat.zero_add, Nat.mul_add, Nat.add_comm] at this
      exact this
    rw [e1, e2, s1, s2]
    unfold dig
    rw [show B ^ (t + 1) = B * B ^ t from Nat.pow_succ', ← Nat.div_div_eq_div_mul, ← Nat.div_div_eq_div_mul, shl_add (by omega) (Nat.pow_lt_pow_right (by decide) (Nat.lt_succ_self v))]
theorem bit_at {Q i m : Nat} (hQ : Q = 2 ^ (i + 1) * m) : dig (Q + 2 ^ i) (i / 32) = dig Q (i / 32) + 2 ^ (i % 32) ∧ ∃ l, dig Q (i / 32) = l * 2 ^ (i % 32 + 1) ∧ l * 2 ^ (i % 32 + 1) < B := by
  obtain ⟨u, v, hi, hu, hv, hv'⟩ : ∃ u v, i = v + 32 * u ∧ i / 32 = u ∧ i % 32 = v ∧ v < 32 := ⟨i / 32, i % 32, by omega, rfl, rfl, by omega⟩
  rw [hu, hv]
  have e1 : (2 : Nat) ^ i = B ^ u * 2 ^ v := by rw [hi, Nat.pow_add, Nat.pow_mul, Nat.mul_comm]
  have e2 : Q = B ^ u * (m * 2 ^ (v + 1)) := by rw [hQ, Nat.pow_succ, e1, Nat.pow_succ]; ac_rfl
  have z : (0 : Nat) < B ^ u := Bp u
  have d0 : ∀ x, dig x 0 = x % B := fun x => by unfold dig; rw [Nat.pow_zero, Nat.div_one]
  have s1 : dig (B ^ u * (m * 2 ^ (v + 1))) u = m * 2 ^ (v + 1) % B := by
    have := dig_shift (s := 0) (t := m * 2 ^ (v + 1)) (m := u) (j := 0) z
    rwa [Nat.zero_add, Nat.add_zero, d0] at this
  have s2 : dig (B ^ u * (m * 2 ^ (v + 1)) + B ^ u * 2 ^ v) u = (m * 2 ^ (v + 1) + 2 ^ v) % B := by
    have := dig_shift (s := 0) (t := m * 2 ^ (v + 1) + 2 ^ v) (m := u) (j := 0) z
    rw [Nat.zero_add, Nat.add_zero, Nat.mul_add, d0] at this
    exact this
  have hl := shl_mod (p := m) (k := v + 1) (by omega)
  have h3 : m % 2 ^ (32 - (v + 1)) < 2 ^ (32 - (v + 1)) := Nat.mod_lt _ (Nat.pow_pos (by decide))
  have h4 : m % 2 ^ (32 - (v + 1)) * 2 ^ (v + 1) + 2 ^ (v + 1) ≤ B := by
    rw [B_split (show v + 1 ≤ 32 by omega)]
    have : (m % 2 ^ (32 - (v + 1)) + 1) * 2 ^ (v + 1) ≤ 2 ^ (32 - (v + 1)) * 2 ^ (v + 1) := Nat.mul_le_mul_right _ h3
    rwa [Nat.add_mul, Nat.one_mul] at this
  have h5 : (2 : Nat) ^ v < 2 ^ (v + 1) := Nat.pow_lt_pow_right (by decide) (Nat.lt_succ_self v)
  have h6 : (0 : Nat) < 2 ^ (v + 1) := Nat.pow_pos (by decide)
  refine ⟨?_, m % 2 ^ (32 - (v + 1)), ?_, by omega⟩
  · rw [e1, e2, s1, s2, Nat.add_mod, hl, Nat.mod_eq_of_lt (show 2 ^ v < B by omega), Nat.mod_eq_of_lt (by omega)]
  · rw [e2, s1, hl]
/-- The numbers of the division, where y binary places are still to be done. -/
structure DivStep (a b k y R Q : Nat) : Prop where
  all : a = Q * b + R
  low : R < b * 2 ^ y
  mul : ∃ m, Q = 2 ^ y * m
  fit : Q < 2 ^ (k + 1)
theorem DivStep.start {a b k : Nat} (h : a < b * 2 ^ (k + 1)) : DivStep a b k (k + 1) a 0 := ⟨by omega, h, ⟨0, by omega⟩, Nat.pow_pos (by decide)⟩
theorem DivStep.less {a b k i R Q : Nat} (h : DivStep a b k (i + 1) R Q) (hR : R < b * 2 ^ i) : DivStep a b k i R Q := by
  obtain ⟨m, hm⟩ := h.mul
  exact ⟨h.all, hR, ⟨2 * m, by rw [hm, Nat.pow_succ, Nat.mul_assoc]⟩, h.fit⟩
theorem DivStep.more {a b k i R Q : Nat} (h : DivStep a b k (i + 1) R Q) (hR : b * 2 ^ i ≤ R) (hb : 0 < b) (ha : a < b * 2 ^ (k + 1)) : DivStep a b k i (R - b * 2 ^ i) (Q + 2 ^ i) := by
  obtain ⟨m, hm⟩ := h.mul
  have h1 := h.all
  have h2 := h.low
  have h3 : b * 2 ^ (i + 1) = b * 2 ^ i + b * 2 ^ i := by rw [Nat.pow_succ, ← Nat.mul_assoc, Nat.mul_two]
  have h4 : (Q + 2 ^ i) * b = Q * b + b * 2 ^ i := by rw [Nat.add_mul, Nat.mul_comm (2 ^ i)]
  refine ⟨by rw [h4]; omega, by omega, ⟨2 * m + 1, by rw [hm, Nat.pow_succ, Nat.mul_add, Nat.mul_one, Nat.mul_assoc]⟩, ?_⟩
  have h5 : (Q + 2 ^ i) * b < 2 ^ (k + 1) * b := by rw [h4, Nat.mul_comm (2 ^ (k + 1))]; omega
  exact Nat.lt_of_mul_lt_mul_right h5
theorem DivStep.last {a b k R Q : Nat} (h : DivStep a b k 0 R Q) (hb : 0 < b) : Q = a / b ∧ R = a % b := by
  have h1 := h.all
  have h2 := h.low
  rw [Nat.pow_zero, Nat.mul_one] at h2
  rw [Nat.mul_comm] at h1
  subst h1
  rw [Nat.mul_add_div hb, Nat.div_eq_of_lt h2, Nat.mul_add_mod, Nat.mod_eq_of_lt h2]
  exact ⟨by omega, rfl⟩
theorem half_pow (b i : Nat) : b * 2 ^ (i + 1) / 2 = b * 2 ^ i := by rw [Nat.pow_succ, ← Nat.mul_assoc, Nat.mul_div_cancel _ (by decide)]
end Go.Proofs.YtpclkgjhfhhddaaGreat.PN
/- The document's natural numbers: walks: Div. -/
namespace Go.Proofs.YtpclkgjhfhhddaaGreat.V
open Go Go.RowKit Go.Proofs.YtpclkgjhfhhddaaGreat.PN
set_option linter.unusedVariables false
set_option linter.unusedSimpArgs false
/-- Quotient and rest are handed back. -/
def MadeDivR (w : World) (a b : Nat) (e : Ending) (w' : World) : Prop :=
  ∃ vq vr, e = .returned (.tuple #[vq, vr, .int .i64 0]) ∧ NatS w' (fun _ => True) vq (a / b) ∧ NatS w' (fun _ => True) vr (a % b) ∧ Kept w w'
theorem bits_less {a b La Lb : Nat} (ha : IsBits a La) (hb : IsBits b Lb) (hb0 : b ≠ 0) (h : La < Lb) : a < b := by
  have h1 := hb.2.1 hb0
  have h2 : (2 : Nat) ^ (La + 1) ≤ 2 ^ Lb := Nat.pow_le_pow_right (by decide) h
  rw [Nat.pow_succ] at h2
  have := ha.1
  omega
theorem bits_more {a b La Lb k : Nat} (ha : IsBits a La) (hb : IsBits b Lb) (hb0 : b ≠ 0) (h : La = Lb + k) : a < b * 2 ^ (k + 1) := by
  have h1 := hb.2.1 hb0
  have h2 := Nat.mul_le_mul_right (2 ^ k) h1
  rw [← Nat.pow_add, ← h] at h2
  have := ha.1
  have e : 2 * b * 2 ^ k = b * 2 ^ (k + 1) := by rw [Nat.pow_succ]; ac_rfl
  omega
theorem bits_fit {a b La Lb k : Nat} (ha : IsBits a La) (hb : IsBits b Lb) (ha0 : a ≠ 0) (h : La = Lb + k) : b * 2 ^ k ≤ 2 * a := by
  have h1 := ha.2.1 ha0
  have h2 := Nat.mul_le_mul_right (2 ^ k) (Nat.le_of_lt hb.1)
  rw [← Nat.pow_add, ← h] at h2
  omega
set_option maxHeartbeats 2000000 in
theorem r_div_low (A : Option Addr) (c a : Nat) (A' : Option Addr) (c' b : Nat) (w : World) (hc : size a ≤ c) (hc' : size b ≤ c') (ha : At w A a (size a)) (hb : At w A' b (size b)) (hn : size a ≤ 32000) (hm : size b ≤ 32000) (hb0 : b ≠ 0)
    (La Lb : Nat) (hLa : IsBits a La) (hLb : IsBits b Lb) (ca : ∀ w1, Kept w w1 → Calls Tryz.prog 58 #[.slice A (size a) c] w1 fun e w' => e = .returned (.int .i64 (La : Int)) ∧ w1 = w')
    (cb : ∀ w1, Kept w w1 → Calls Tryz.prog 58 #[.slice A' (size b) c'] w1 fun e w' => e = .returned (.int .i64 (Lb : Int)) ∧ w1 = w') (h : La < Lb) :
    Calls Tryz.prog 39 #[.slice A (size a) c, .slice A' (size b) c'] w (MadeDivR w a b) := by
  have hlt := bits_less hLa hLb hb0 h
  have HT := Lib.hid (r_trim A c a (size a) w hc ha (lt_size a) (by omega))
  have hz : ((size b : Int) == 0) = false := by
    have := size_pos (s := b) hb0
    simp; omega
  have b1 := hLa.2.2; have b2 := hLb.2.2
  have CA := Lib.hid ca; have CB := Lib.hid cb
  have e1 : IntKind.i64.wrap ((La : Int) - Lb) = (La : Int) - Lb := IntWalk.i64_in _ (by omega)
  have d1 : decide ((La : Int) - Lb < 0) = true := by simp; omega
  unfold MadeDivR
  rw [Nat.div_eq_of_lt hlt, Nat.mod_eq_of_lt hlt, show NatS = NatS from rfl]
  clear ha hb hLa hLb ca cb hb0 hlt b1 b2
  generalize size b = m at *
  go_enter Tryz.func39, Tryz.ntmps39
  go_wp2_with (first | (go_at_call 58; first | ((with_reducible refine (CA.out _ (Below.refl _ _)).mono ?_); rintro e w1 ⟨rfl, rfl⟩) | ((with_reducible refine (CB.out _ (Below.refl _ _)).mono ?_); rintro e w1 ⟨rfl, rfl⟩)) | (go_at_call 55; refine HT.out.mono ?_; rintro e w2 ⟨v2, rfl, hv2, hk2⟩; have HV2 := Lib.hid hv2; have HK2 := Lib.hid hk2; clear hv2 hk2))
  go_ret3
  exact ⟨_, _, rfl, by unfold NatS; rw [size_zero]; exact Dg.nil _ _ _, HV2.out.any, HK2.out⟩
set_option maxRecDepth 100000 in
set_option maxHeartbeats 4000000 in
theorem r_div_high (A : Option Addr) (c a : Nat) (A' : Option Addr) (c' b : Nat) (w : World) (hc : size a ≤ c) (hc' : size b ≤ c') (ha : At w A a (size a)) (hb : At w A' b (size b)) (hn : size a ≤ 32000) (hm : size b ≤ 32000) (hb0 : b ≠ 0) (ha0 : a ≠ 0)
    (La Mb k : Nat) (hLa : IsBits a La) (hLb : IsBits b Mb) (ca : ∀ w1, Kept w w1 → Calls Tryz.prog 58 #[.slice A (size a) c] w1 fun e w' => e = .returned (.int .i64 (La : Int)) ∧ w1 = w')
    (cb : ∀ w1, Kept w w1 → Calls Tryz.prog 58 #[.slice A' (size b) c'] w1 fun e w' => e = .returned (.int .i64 (Mb : Int)) ∧ w1 = w') (h : La = Mb + k) :
    Calls Tryz.prog 39 #[.slice A (size a) c, .slice A' (size b) c'] w (MadeDivR w a b) := by
  obtain ⟨i0, hi, hz0, hz1, hz2⟩ := info_parts info_u32
  have hmore := bits_more hLa hLb hb0 h
  have hfit := bits_fit hLa hLb ha0 h
  have hz : ((size b : Int) == 0) = false := by
    have := size_pos (s := b) hb0
    simp; omega
  have b1 := hLa.2.2; have b2 := hLb.2.2
  have hk : k ≤ 1024000 := by omega
  have hs2 : size (2 * a) ≤ 32001 := by rw [Nat.two_mul]; exact size_add a a 32000 hn hn
  have HT : Hid (∀ w1, Kept w w1 → Calls Tryz.prog 55 #[.slice A (size a) c] w1 (MadeNat w1 a)) := fun w1 hk => r_trim A c a (size a) w1 hc (ha.kept hk) (lt_size a) (by omega)
  have HS : Hid (∀ w1, Kept w w1 → Calls Tryz.prog 59 #[.slice A' (size b) c', .int .i64 (k : Int)] w1 (MadeNat w1 (b * 2 ^ k))) := fun w1 hk => r_shl A' c' b k w1 (hb.kept hk) hc' (by omega) (by omega)
  have CA := Lib.hid ca; have CB := Lib.hid cb
  have e1 : IntKind.i64.wrap ((La : Int) - Mb) = (k : Int) := by rw [show (La : Int) - Mb = k by omega]; exact IntWalk.i64_in _ (by omega)
  have e2 : (La : Int) - Mb = (k : Int) := by omega
  have d1 : decide ((k : Int) < 0) = false := by simp
  obtain ⟨N, hN⟩ : ∃ N, k / 32 = N := ⟨_, rfl⟩
  have e3 : (k : Int) / 32 = (N : Int) := by omega
  have hN1 : N ≤ 32000 := by omega
  have HB0 : Hid (0 < b) := Nat.pos_of_ne_zero hb0
  have HM := Lib.hid hmore
  have HF : Hid (∀ x, x ≤ 2 * a → size x ≤ 32001) := fun x hx => Nat.le_trans (size_le_of_le hx) hs2
  have HFit := Lib.hid hfit
  have HQ : Hid ((2 : Nat) ^ (k + 1) ≤ B ^ (N + 1)) := by
    show _ ≤ _
    rw [show B ^ (N + 1) = 2 ^ (32 * (N + 1)) by rw [Nat.pow_mul]]
    exact Nat.pow_le_pow_right (by decide) (by omega)
  have HNk : Hid (k / 32 = N) := hN
  clear ha hb hLa hLb ca cb hb0 ha0 b1 b2 hmore hfit hs2 hN h
  generalize hsb : size b = m at *
  generalize hsa : size a = n at *
  clear hsb hsa
  go_enter Tryz.func39, Tryz.ntmps39
  go_wp2_with (first
    | (go_at_call 58; first | ((with_reducible refine (CA.out _ (Below.refl _ _)).mono ?_); rintro e w1 ⟨rfl, rfl⟩) | ((with_reducible refine (CB.out _ (Below.refl _ _)).mono ?_); rintro e w1 ⟨rfl, rfl⟩))
    | (at_make; (refine wpList_make_full _ rfl (.tmp 26) (.tmp 26) 22 rfl w.heap.size U32 i0 (.int .u32 0) 1 Tryz.underlying22 hi hz0 hz1 _ _ _ _ (N + 1) rfl rfl (by omega) (by omega) (by rw [hz2]; omega) (by unfold maxLen; omega) (Nat.le_refl _) ?_; intro w1 hown hgrow; have HL1 := Lib.hid (Lb.of_own hown); have HK1 := Lib.hid (Kept.grown (Below.refl _ _) hgrow (fun k hk => by cases hk) : Kept w w1); clear hown hgrow))
    | (go_at_call 55; refine (HT.out _ HK1.out).mono ?_; rintro e w2 ⟨v2, rfl, hv2, hk2⟩; obtain ⟨A2, c2, rfl, hc2, ha2⟩ := hv2.at; have HV2 := Lib.hid (hv2.mono (S' := fun k => k ≠ w.heap.size) (fun k hk _ => by have := HL1.out.lt; omega)); have HK2 := Lib.hid hk2; clear hv2 hk2 ha2)
    | (go_at_call 59; refine (HS.out _ (Kept.then HK1.out HK2.out)).mono ?_; rintro e w3 ⟨v3, rfl, hv3, hk3⟩; obtain ⟨A3, c3, rfl, hc3, ha3⟩ := hv3.at; have HV3 := Lib.hid (hv3.mono (S' := fun k => k ≠ w.heap.size) (fun k hk _ => by have := (HL1.out.kept HK2.out).lt; omega)); have HK3 := Lib.hid hk3; clear hv3 hk3 ha3))
  have HL := Lib.hid ((HL1.out.kept HK2.out).kept HK3.out)
  have HK := Lib.hid (Kept.then HK1.out (Kept.then HK2.out HK3.out))
  have HV := Lib.hid (Dg.up HV2.out (Up.of_kept HK3.out))
  go_loopw [9, 10, 11] (fun vr vd vi wr => ∃ (R D y Q : Nat) (A4 : Option Addr) (c4 : Nat) (A5 : Option Addr) (c5 : Nat) (xs : List Nat), vr = .slice A4 (size R) c4 ∧ vd = .slice A5 (size D) c5 ∧ vi = .int .i64 ((y : Int) - 1) ∧ y ≤ k + 1 ∧ size R ≤ c4 ∧ size D ≤ c5 ∧ size R ≤ 32001 ∧ size D ≤ 32001 ∧ Hid (D = b * 2 ^ y / 2) ∧ Hid (NatS wr (fun k => k ≠ w.heap.size) (.slice A4 (size R) c4) R) ∧ Hid (NatS wr (fun k => k ≠ w.heap.size) (.slice A5 (size D) c5) D) ∧ Hid (DivStep a b k y R Q) ∧ Hid (xs.length = N + 1 ∧ ∀ j, j < N + 1 → xs.getD j 0 = dig Q j) ∧ Hid (Lb wr w.heap.size xs) ∧ Hid (Kept w wr)) (fun _ _ vi _ => (intOf vi + 1).toNat)
  case atStart => exact ⟨a, b * 2 ^ k, k + 1, 0, A2, c2, A3, c3, _, rfl, rfl, by simp, Nat.le_refl _, hc2, hc3, HF.out _ (by omega), HF.out _ HFit.out, (half_pow b k).symm, HV, HV3, DivStep.start HM.out, ⟨by simp, fun j _ => by rw [zeros_get, dig_of_zero]⟩, HL, HK⟩
  case round =>
    clear HL HK HV HV2 HV3 HK1 HK2 HK3 HL1 hc2 hc3
    obtain ⟨R, D, y, Q, A4, c4, A5, c5, xs, rfl, rfl, rfl, hy, hc4, hc5, hR, hD, HD, HA4, HA5, HX, HE, HL, HK⟩ := hrel
    rcases y with _ | i
    · have HQ' : Hid (Q < B ^ (N + 1)) := Nat.lt_of_lt_of_le HX.out.fit HQ.out
      have HU := Lib.hid (HX.out.last HB0.out)
      go_wp2_with (go_at_call 55; refine (r_trim _ _ Q _ _ (Nat.le_refl _) ((Lb.dg HL.out HE.out.1 (s := Q) HE.out.2 (S := fun _ => True) trivial).at_own) HQ'.out (by omega)).mono ?_; rintro e w6 ⟨v6, rfl, hv6, hk6⟩; have HV6 := Lib.hid hv6; have HK6 := Lib.hid hk6; clear hv6 hk6)
      go_ret3
      refine ⟨_, _, rfl, ?_, ?_, HK.out.then HK6.out⟩
      · rw [← HU.out.1]; exact HV6.out.any
      · rw [← HU.out.2]; exact (Dg.up HA4.out (Up.of_kept HK6.out)).any
    · have HC : Hid (Calls Tryz.prog 31 #[.slice A4 (size R) c4, .slice A5 (size D) c5] wr fun e w' => e = .returned (.int .i64 (cmpI R D)) ∧ Kept wr w') := r_cmp A4 c4 R A5 c5 D wr HA4.out.at_own HA5.out.at_own (by omega) (by omega)
      have hD2 : D = b * 2 ^ i := by rw [HD.out, half_pow]
      have HD2 := Lib.hid hD2
      have hneg := @cmp_neg R D
      have HH : Hid (∀ w1, Kept wr w1 → Calls Tryz.prog 60 #[.slice A5 (size D) c5, .int .i64 1] w1 (MadeNat w1 (D / 2))) := fun w1 hk => r_half A5 c5 D w1 (HA5.out.at_own.kept hk) (by omega)
      have q1 : (((i + 1 : Nat) : Int) - 1) = (i : Int) := by omega
      rcases Nat.lt_or_ge R D with hlt | hge
      · have hd : decide (0 ≤ cmpI R D) = false := by rw [decide_eq_false_iff_not]; omega
        have HN := Lib.hid (HX.out.less (by rw [← hD2]; exact hlt))
        clear hlt hneg hD2 HX
        generalize cmpI R D = cm at *
        go_wp2_with (first
          | (go_at_call 31; refine HC.out.mono ?_; rintro e w6 ⟨rfl, hk6⟩; have HK6 := Lib.hid hk6; clear hk6)
          | (go_at_call 60; refine (HH.out _ HK6.out).mono ?_; rintro e w7 ⟨v7, rfl, hv7, hk7⟩; obtain ⟨A7, c7, rfl, hc7, ha7⟩ := hv7.at; have HV7 := Lib.hid (hv7.mono (S' := fun k => k ≠ w.heap.size) (fun k hk _ => by have := (HL.out.kept HK6.out).lt; omega)); have HK7 := Lib.hid hk7; clear hv7 hk7 ha7))
        have HKK := Lib.hid (Kept.then HK6.out HK7.out)
        have hs7 : size (D / 2) ≤ size D := size_div D 2
        go_roundw
        case measure => simp [intOf]
        case rel => exact ⟨R, D / 2, i, Q, A4, c4, A7, c7, xs, rfl, rfl, by go_num, by omega, hc4, hc7, hR, by omega, by show _ = _; rw [HD2.out], Dg.up HA4.out (Up.of_kept HKK.out), HV7, HN, HE, HL.out.kept HKK.out, HK.out.then HKK.out⟩
      · have hd : decide (0 ≤ cmpI R D) = true := by rw [decide_eq_true_iff]; omega
        have hx := HX.out.more (by rw [← hD2]; exact hge) HB0.out HM.out
        rw [← hD2] at hx
        obtain ⟨mm, hmm⟩ := HX.out.mul
        obtain ⟨hb1, l, hl1, hl2⟩ := bit_at hmm
        have HLow : Hid (∀ j, j ≠ i / 32 → dig (Q + 2 ^ i) j = dig Q j) := fun j hj => bit_low hmm hj
        obtain ⟨u, hu⟩ : ∃ u, i / 32 = u := ⟨_, rfl⟩
        obtain ⟨v, hv⟩ : ∃ v, i % 32 = v := ⟨_, rfl⟩
        have hv32 : v < 32 := by omega
        have huN : u < N + 1 := by have := HNk.out; omega
        rw [hu] at hb1 hl1 HLow
        rw [hv] at hb1 hl1 hl2
        have t1 : (i : Int) / 32 = (u : Int) := by omega
        have t2 : (i : Int) % 32 = (v : Int) := by omega
        have t3 : IntKind.u64.wrap (v : Int) = (v : Int) := by rw [u64_wrap]; omega
        have h2v : (2 : Nat) ^ v < 4294967296 := Nat.pow_lt_pow_right (by decide) hv32
        have hor := or_u32 (l := l) (p := 2 ^ v) (k := v + 1) (by omega) (Nat.pow_lt_pow_right (by decide) (Nat.lt_succ_self v)) hl2
        rw [← hl1, ← hb1] at hor
        obtain ⟨p2, hp2⟩ : ∃ p2, 2 ^ v = p2 := ⟨_, rfl⟩
        have t4 : (2 : Int) ^ v = (p2 : Int) := by rw [← hp2]; simp
        rw [hp2] at hor h2v
        have t5 : IntKind.u32.wrap (p2 : Int) = (p2 : Int) := by rw [u32_wrap]; omega
        have c0 := HL.out.cell (i := u) (by rw [HE.out.1]; exact huN)
        rw [HE.out.2 u huN] at c0
        have z0 := HL.out.free u
        obtain ⟨y1, hy1⟩ : ∃ y1, dig (Q + 2 ^ i) u = y1 := ⟨_, rfl⟩
        rw [hy1] at hor
        have HE2 : Hid ((xs.set u y1).length = N + 1 ∧ ∀ j, j < N + 1 → (xs.set u y1).getD j 0 = dig (Q + 2 ^ i) j) := by
          refine ⟨by rw [List.length_set]; exact HE.out.1, fun j hj => ?_⟩
          by_cases e : j = u
          · subst e; rw [getD_set_self (by rw [HE.out.1]; exact huN), hy1]
          · rw [getD_set_other e, HLow.out j e]; exact HE.out.2 j hj
        have HN := Lib.hid hx
        have HR2 : Hid (size (R - D) ≤ 32001) := Nat.le_trans (size_le_of_le (Nat.sub_le _ _)) hR
        have HJ : Hid (∀ w1, Kept wr w1 → Calls Tryz.prog 57 #[.slice A4 (size R) c4, .slice A5 (size D) c5] w1 (MadeNat w1 (R - D))) := fun w1 hk => r_less A4 c4 R A5 c5 D w1 (HA4.out.at_own.kept hk) (HA5.out.at_own.kept hk) (by omega) (by omega) hge
        generalize dig Q u = x1 at *
        clear hge hneg hD2 HX hx hmm hb1 hl1 hl2 hu hv hy1 hp2 h2v HLow HE
        generalize cmpI R D = cm at *
        have g0 := fun (w1 : World) (hk : Kept wr w1) => hk.cell c0
        go_wp2_with (first
          | (go_at_call 31; refine HC.out.mono ?_; rintro e w6 ⟨rfl, hk6⟩; have HK6 := Lib.hid hk6; clear hk6)
          | (go_at_call 57; refine (HJ.out _ HK6.out).mono ?_; rintro e w8 ⟨v8, rfl, hv8, hk8⟩; obtain ⟨A8, c8, rfl, hc8, ha8⟩ := hv8.at; have HV8 := Lib.hid (hv8.mono (S' := fun k => k ≠ w.heap.size) (fun k hk _ => by have := (HL.out.kept HK6.out).lt; omega)); have HK8 := Lib.hid hk8; have HL8 := Lib.hid ((HL.out.kept HK6.out).kept hk8); have c8' := (Kept.then HK6.out hk8).cell c0; have z8' := HL8.out.free u; clear hv8 hk8 ha8)
          | (go_at_call 60; refine (r_half A5 c5 D _ ((Dg.far (Dg.up HA5.out (Up.of_kept (Kept.then HK6.out HK8.out))) (fun k hk => hk) u (.int .u32 (y1 : Int))).at_own) (by omega)).mono ?_; rintro e w7 ⟨v7, rfl, hv7, hk7⟩; obtain ⟨A7, c7, rfl, hc7, ha7⟩ := hv7.at; have HL9 := Lib.hid (HL8.out.put u y1 rfl); have HV7 := Lib.hid (hv7.mono (S' := fun k => k ≠ w.heap.size) (fun k hk _ => by have := HL9.out.lt; omega)); have HK7 := Lib.hid hk7; clear hv7 hk7 ha7))
        have HKw := Lib.hid ((HK.out.then (Kept.then HK6.out HK8.out)).set (Nat.le_refl _) u (.int .u32 (y1 : Int)))
        have hs7 : size (D / 2) ≤ size D := size_div D 2
        go_roundw
        case measure => simp [intOf]
        case rel => exact ⟨R - D, D / 2, i, Q + 2 ^ i, A8, c8, A7, c7, _, rfl, rfl, by go_num, by omega, hc8, hc7, HR2.out, by omega, by show _ = _; rw [HD2.out], Dg.up (Dg.far HV8.out (fun k hk => hk) u _) (Up.of_kept HK7.out), HV7, HN, HE2, HL9.out.kept HK7.out, HKw.out.then HK7.out⟩
theorem isBits_ex (a : Nat) : ∃ L, IsBits a L := by
  by_cases h : a = 0
  · subst h; exact ⟨0, by decide, fun h => absurd rfl h, Nat.zero_le _⟩
  · refine ⟨a.log2 + 1, Nat.lt_log2_self, fun _ => ?_, ?_⟩
    · have := Nat.log2_self_le h
      rw [Nat.pow_succ]; omega
    · have h1 := Nat.log2_self_le h
      have h2 := lt_size a
      rw [show B ^ size a = 2 ^ (32 * size a) by rw [Nat.pow_mul]] at h2
      have := (Nat.pow_lt_pow_iff_right (a := 2) (by decide)).1 (Nat.lt_of_le_of_lt h1 h2)
      omega
theorem isBits_uniq {a L M : Nat} (h : IsBits a L) (k : IsBits a M) : L = M := by
  by_cases h0 : a = 0
  · subst h0
    have h1 := h.2.2; have k1 := k.2.2
    rw [size_zero] at h1 k1
    omega
  · have h1 := h.2.1 h0; have k1 := k.2.1 h0
    have h2 := h.1; have k2 := k.1
    have e1 : 2 ^ L < 2 ^ (M + 1) := by rw [Nat.pow_succ]; omega
    have e2 : 2 ^ M < 2 ^ (L + 1) := by rw [Nat.pow_succ]; omega
    have f1 := (Nat.pow_lt_pow_iff_right (a := 2) (by decide)).1 e1
    have f2 := (Nat.pow_lt_pow_iff_right (a := 2) (by decide)).1 e2
    omega
theorem r_div_any (A : Option Addr) (c a : Nat) (A' : Option Addr) (c' b : Nat) (w : World) (hc : size a ≤ c) (hc' : size b ≤ c') (h1 : At w A a (size a)) (h2 : At w A' b (size b)) (hn : size a ≤ 32000) (hm : size b ≤ 32000) (hb0 : b ≠ 0) : Calls Tryz.prog 39 #[.slice A (size a) c, .slice A' (size b) c'] w (MadeDivR w a b) := by
  obtain ⟨L, hL⟩ := isBits_ex a
  obtain ⟨M, hM⟩ := isBits_ex b
  have ca : ∀ w1, Kept w w1 → Calls Tryz.prog 58 #[.slice A (size a) c] w1 fun e w' => e = .returned (.int .i64 (L : Int)) ∧ w1 = w' := fun w1 hk => by
    refine (r_bits A c a w1 (h1.kept hk) (by omega)).mono ?_
    rintro e w2 ⟨⟨x, rfl, hx⟩, rfl⟩
    rw [isBits_uniq hx hL]; exact ⟨rfl, rfl⟩
  have cb : ∀ w1, Kept w w1 → Calls Tryz.prog 58 #[.slice A' (size b) c'] w1 fun e w' => e = .returned (.int .i64 (M : Int)) ∧ w1 = w' := fun w1 hk => by
    refine (r_bits A' c' b w1 (h2.kept hk) (by omega)).mono ?_
    rintro e w2 ⟨⟨x, rfl, hx⟩, rfl⟩
    rw [isBits_uniq hx hM]; exact ⟨rfl, rfl⟩
  rcases Nat.lt_or_ge L M with h | h
  · exact r_div_low A c a A' c' b w hc hc' h1 h2 hn hm hb0 L M hL hM ca cb h
  · have ha0 : a ≠ 0 := by
      rintro rfl
      have := hL.2.2
      rw [size_zero] at this
      have hM1 := hM.1
      rw [show M = 0 by omega] at hM1
      simp at hM1; omega
    exact r_div_high A c a A' c' b w hc hc' h1 h2 hn hm hb0 ha0 L M (L - M) hL hM ca cb (by omega)
theorem r_div {w : World} {va vb : Value} {a b : Nat} [ha : NatAt w va a] [hb : NatAt w vb b] (hn : size a ≤ 32000) (hm : size b ≤ 32000) (hb0 : b ≠ 0) : Calls Tryz.prog 39 #[va, vb] w (MadeDivR w a b) := by
  obtain ⟨A, c, rfl, hc, h1⟩ := ha.at
  obtain ⟨A', c', rfl, hc', h2⟩ := hb.at
  exact r_div_any A c a A' c' b w hc hc' h1 h2 hn hm hb0
set_option maxRecDepth 100000 in
set_option maxHeartbeats 2000000 in
theorem r_gcd_any (A : Option Addr) (c a : Nat) (A' : Option Addr) (c' b : Nat) (w : World) (hc : size a ≤ c) (hc' : size b ≤ c') (h1 : At w A a (size a)) (h2 : At w A' b (size b)) (hn : size a ≤ 32000) (hm : size b ≤ 32000) :
    Calls Tryz.prog 38 #[.slice A (size a) c, .slice A' (size b) c'] w (MadeNat w (Nat.gcd a b)) := by
  have HA := Lib.hid h1; have HB := Lib.hid h2
  clear h1 h2
  go_enter Tryz.func38, Tryz.ntmps38
  go_wp2
  go_loopg [0, 1] b (fun y v0 v1 wr => ∃ (x : Nat) (A1 : Option Addr) (c1 : Nat) (A2 : Option Addr) (c2 : Nat), v0 = .slice A1 (size x) c1 ∧ v1 = .slice A2 (size y) c2 ∧ size x ≤ c1 ∧ size y ≤ c2 ∧ size x ≤ 32000 ∧ size y ≤ 32000 ∧ Hid (At wr A1 x (size x)) ∧ Hid (At wr A2 y (size y)) ∧ Hid (Nat.gcd x y = Nat.gcd a b) ∧ Hid (Kept w wr))
  case atStart => exact ⟨a, A, c, A', c', rfl, rfl, hc, hc', hn, hm, HA, HB, rfl, Below.refl _ _⟩
  case round =>
    clear HA HB hc hc'
    obtain ⟨x, A4, c4, A5, c5, rfl, rfl, hc1, hc2, hx, hy, H1, H2, HG, HK⟩ := hrel
    rcases Nat.eq_zero_or_pos gk with h | h
    · subst h
      go_wp2_with (go_at_call 55; (with_reducible refine (r_trim A4 c4 x (size x) _ hc1 H1.out (lt_size x) (by omega)).mono ?_); rintro e w3 ⟨v3, rfl, hv3, hk3⟩)
      go_ret
      have hg := HG.out
      rw [Nat.gcd_zero_right] at hg
      rw [← hg]
      exact MadeDg.after HK.out ⟨_, rfl, hv3, hk3⟩
    · have hs : 0 < size gk := size_pos (by omega)
      go_wp2_with (go_at_call 39; refine Calls.mono (r_div_any A4 c4 x A5 c5 gk _ hc1 hc2 H1.out H2.out hx hy (by omega)) ?_; rintro e w3 ⟨vq, vr, rfl, hq, hr, hk3⟩; obtain ⟨A3, c3, rfl, hc3, ha3⟩ := hr.at; have H3 := Lib.hid ha3; have HK3 := Lib.hid hk3; clear hq hr ha3 hk3)
      go_roundg (x % gk)
      case measure => exact Nat.mod_lt _ h
      case rel => exact ⟨gk, A5, c5, A3, c3, rfl, rfl, hc2, hc3, hy, Nat.le_trans (size_le_of_le (Nat.mod_le _ _)) hx, H2.out.kept HK3.out, H3, by show _ = _; rw [← HG.out, Nat.gcd_comm, ← Nat.gcd_rec, Nat.gcd_comm], Kept.then HK.out HK3.out⟩
theorem r_gcd {w : World} {va vb : Value} {a b : Nat} [ha : NatAt w va a] [hb : NatAt w vb b] (hn : size a ≤ 32000) (hm : size b ≤ 32000) :
    Calls Tryz.prog 38 #[va, vb] w (MadeNat w (Nat.gcd a b)) := by
  obtain ⟨A, c, rfl, hc, h1⟩ := ha.at
  obtain ⟨A', c', rfl, hc', h2⟩ := hb.at
  exact r_gcd_any A c a A' c' b w hc hc' h1 h2 hn hm
end Go.Proofs.YtpclkgjhfhhddaaGreat.V
/- The document's rational numbers: walks: one, Zero, size, Make, Of. -/
namespace Go.Proofs.YtpclkgjhfhhddaaGreat.V
open Go Go.RowKit Go.Proofs.YtpclkgjhfhhddaaGreat.PN
set_option linter.unusedVariables false
set_option linter.unusedSimpArgs false
theorem r_cmp_v {w : World} {va vb : Value} {a b : Nat} [ha : NatAt w va a] [hb : NatAt w vb b] (hn : size a ≤ 4398046511103) (hm : size b ≤ 4398046511103) : Calls Tryz.prog 31 #[va, vb] w fun e w' => e = .returned (.int .i64 (cmpI a b)) ∧ Kept w w' := by
  obtain ⟨A, c, rfl, hc, h1⟩ := ha.at
  obtain ⟨A', c', rfl, hc', h2⟩ := hb.at
  exact r_cmp A c a A' c' b w h1 h2 (by omega) (by omega)
theorem r_mul_v {w : World} {va vb : Value} {a b : Nat} [ha : NatAt w va a] [hb : NatAt w vb b] (hn : size a ≤ 4398046511103) (hm : size b ≤ 4398046511103) : Calls Tryz.prog 32 #[va, vb] w (MadeNat w (a * b)) := by
  obtain ⟨A, c, rfl, hc, h1⟩ := ha.at
  obtain ⟨A', c', rfl, hc', h2⟩ := hb.at
  exact r_mul A c a A' c' b w h1 h2 (by omega) (by omega)
theorem r_add_v {w : World} {va vb : Value} {a b : Nat} [ha : NatAt w va a] [hb : NatAt w vb b] (hn : size a ≤ 4398046511103) (hm : size b ≤ 4398046511103) : Calls Tryz.prog 34 #[va, vb] w (MadeNat w (a + b)) := by
  obtain ⟨A, c, rfl, hc, h1⟩ := ha.at
  obtain ⟨A', c', rfl, hc', h2⟩ := hb.at
  exact r_add A c a A' c' b w h1 h2 (by omega) (by omega)
theorem r_sub_v {w : World} {va vb : Value} {a b : Nat} [ha : NatAt w va a] [hb : NatAt w vb b] (hn : size a ≤ 4398046511103) (hm : size b ≤ 4398046511103) (hab : b ≤ a) : Calls Tryz.prog 35 #[va, vb] w (MadeDgOk w (a - b) (size (a - b)) 0) := by
  obtain ⟨A, c, rfl, hc, h1⟩ := ha.at
  obtain ⟨A', c', rfl, hc', h2⟩ := hb.at
  exact r_sub A c a A' c' b w h1 h2 (by omega) (by omega) hab
theorem dg_one (w : World) : Dg (w.alloc (.cells #[.int .u32 1] U32)) (fun k => w.heap.size ≤ k) (.slice (some ⟨w.heap.size, 0, none⟩) 1 1) 1 (size 1) := by
  rw [size_one]
  refine ⟨_, _, rfl, Nat.le_refl _, fun i hi => ⟨_, _, _, rfl, Nat.le_refl _, row_new w _ _, ?_⟩⟩
  rw [show i = 0 by omega]; rfl
set_option maxHeartbeats 1000000 in
theorem s_one (w : World) : Calls Tryz.prog 37 #[] w (MadeNat w 1) := by
  go_enter Tryz.func37, Tryz.ntmps37
  go_wp2
  go_ret
  exact ⟨_, rfl, dg_one w, Kept.alloc w _⟩
set_option maxHeartbeats 1000000 in
theorem s_zero (w : World) : Calls Tryz.prog 36 #[] w (MadeRat w 0) := by
  go_enter Tryz.func36, Tryz.ntmps36
  go_wp2_with (go_at_call 37; refine (s_one _).mono ?_; rintro e w1 ⟨v1, rfl, hv1, hk1⟩; obtain ⟨A1, c1, rfl, _, _⟩ := hv1.at; have HV1 := Lib.hid hv1; have HK1 := Lib.hid hk1; obtain ⟨hc1, hf1⟩ := bcell hk1; clear hv1 hk1)
  exact ret_rat rfl rfl rfl (HK1.out.row (row_new w _ _)) (Nat.le_refl _) ((Kept.alloc w _).then HK1.out) ⟨rfl, Dg.nil _ _ _, HV1.out.any⟩
set_option maxHeartbeats 1000000 in
theorem s_size (x : Int) (w : World) (h : -9223372036854775808 ≤ x) (h' : x < 9223372036854775808) : Calls Tryz.prog 50 #[.int .i64 x] w fun e w' => e = .returned (.int .u64 (x.natAbs : Int)) ∧ w = w' := by
  rcases Int.lt_or_le x 0 with h0 | h0
  · have e1 : IntKind.u64.wrap (-(IntKind.u64.wrap x)) = (x.natAbs : Int) := by rw [u64_wrap, u64_wrap]; omega
    have e2 : IntKind.u64.wrap (0 - (IntKind.u64.wrap x)) = (x.natAbs : Int) := by rw [u64_wrap, u64_wrap]; omega
    have e3 : decide (x < 0) = true := by simp; omega
    generalize x.natAbs = y at *
    go_enter Tryz.func50, Tryz.ntmps50
    go_wp2
    go_ret
    exact ⟨rfl, rfl⟩
  · have e1 : IntKind.u64.wrap x = (x.natAbs : Int) := by rw [u64_wrap]; omega
    have e3 : decide (x < 0) = false := by simp; omega
    generalize x.natAbs = y at *
    go_enter Tryz.func50, Tryz.ntmps50
    go_wp2
    go_ret
    exact ⟨rfl, rfl⟩
end Go.Proofs.YtpclkgjhfhhddaaGreat.V

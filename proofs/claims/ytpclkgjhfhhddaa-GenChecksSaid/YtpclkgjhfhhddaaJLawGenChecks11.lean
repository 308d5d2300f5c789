/- Joined texts, 11: PBit RefI SRatA SRatB SRatC SRatD SRatE SRatF SRatG. -/
import Derived.Test.YtpclkgjhfhhddaaJLawGenChecks10
set_option linter.unusedVariables false
set_option linter.unusedSimpArgs false
/- Quotients by shifting and taking away. -/
namespace Go.Proofs.Ytpclkgjhfhhddaa.PN
open Go
theorem bit_low {Q i m j : Nat} (hQ : Q = 2 ^ (i + 1) * m) (hj : j ≠ i / 32) : dig (Q + 2 ^ i) j = dig Q j := by
  obtain ⟨u, v, hi, hu, hv⟩ : ∃ u v, i = v + 32 * u ∧ i / 32 = u ∧ v < 32 := ⟨i / 32, i % 32, by omega, rfl, by omega⟩
  rw [hu] at hj
  have e1 : (2 : Nat) ^ i = B ^ u * 2 ^ v := by rw [hi, Nat.pow_add, Nat.pow_mul, Nat.mul_comm]
  have e2 : Q = B ^ u * (m * 2 ^ (v + 1)) := by rw [hQ, Nat.pow_succ, e1, Nat.pow_succ]; ac_rfl
  rcases Nat.lt_or_gt_of_ne hj with h | h
  · rw [e1, dig_low h]
  · obtain ⟨t, rfl⟩ : ∃ t, j = u + (t + 1) := ⟨j - u - 1, by omega⟩
    have z : (0 : Nat) < B ^ u := Bp u
    have s1 : dig (B ^ u * (m * 2 ^ (v + 1))) (u + (t + 1)) = dig (m * 2 ^ (v + 1)) (t + 1) := by
      have := dig_shift (s := 0) (t := m * 2 ^ (v + 1)) (m := u) (j := t + 1) z
      rwa [Nat.zero_add] at this
    have s2 : dig (B ^ u * (m * 2 ^ (v + 1)) + B ^ u * 2 ^ v) (u + (t + 1)) = dig (2 ^ v + m * 2 ^ (v + 1)) (t + 1) := by
      have := dig_shift (s := 0) (t := 2 ^ v + m * 2 ^ (v + 1)) (m := u) (j := t + 1) z
      rw [Nat.zero_add, Nat.mul_add, Nat.add_comm] at this
      exact this
    rw [e1, e2, s1, s2]
    unfold dig
    rw [show B ^ (t + 1) = B * B ^ t from Nat.pow_succ', ← Nat.div_div_eq_div_mul, ← Nat.div_div_eq_div_mul, shl_add (by omega) (Nat.pow_lt_pow_right (by decide) (Nat.lt_succ_self v))]
theorem bit_at {Q i m : Nat} (hQ : Q = 2 ^ (i + 1) * m) : dig (Q + 2 ^ i) (i / 32) = dig Q (i / 32) + 2 ^ (i % 32) ∧ ∃ l, dig Q (i / 32) = l * 2 ^ (i % 32 + 1) ∧ l * 2 ^ (i % 32 + 1) < B := by
  obtain ⟨u, v, hi, hu, hv, hv'⟩ : ∃ u v, i = v + 32 * u ∧ i / 32 = u ∧ i % 32 = v ∧ v < 32 := ⟨i / 32, i % 32, by omega, rfl, rfl, by omega⟩
  rw [hu, hv]
  have e1 : (2 : Nat) ^ i = B ^ u * 2 ^ v := by rw [hi, Nat.pow_add, Nat.pow_mul, Nat.mul_comm]
  have e2 : Q = B ^ u * (m * 2 ^ (v + 1)) := by rw [hQ, Nat.pow_succ, e1, Nat.pow_succ]; ac_rfl
  have z : (0 : Nat) < B ^ u := Bp u
  have d0 : ∀ x, dig x 0 = x % B := fun x => by unfold dig; rw [Nat.pow_zero, Nat.div_one]
  have s1 : dig (B ^ u * (m * 2 ^ (v + 1))) u = m * 2 ^ (v + 1) % B := by
    have := dig_shift (s := 0) (t := m * 2 ^ (v + 1)) (m := u) (j := 0) z
    rwa [Nat.zero_add, Nat.add_zero, d0] at this
  have s2 : dig (B ^ u * (m * 2 ^ (v + 1)) + B ^ u * 2 ^ v) u = (m * 2 ^ (v + 1) + 2 ^ v) % B := by
    have := dig_shift (s := 0) (t := m * 2 ^ (v + 1) + 2 ^ v) (m := u) (j := 0) z
    rw [Nat.zero_add, Nat.add_zero, Nat.mul_add, d0] at this
    exact this
  have hl := shl_mod (p := m) (k := v + 1) (by omega)
  have h3 : m % 2 ^ (32 - (v + 1)) < 2 ^ (32 - (v + 1)) := Nat.mod_lt _ (Nat.pow_pos (by decide))
  have h4 : m % 2 ^ (32 - (v + 1)) * 2 ^ (v + 1) + 2 ^ (v + 1) ≤ B := by
    rw [B_split (show v + 1 ≤ 32 by omega)]
    have : (m % 2 ^ (32 - (v + 1)) + 1) * 2 ^ (v + 1) ≤ 2 ^ (32 - (v + 1)) * 2 ^ (v + 1) := Nat.mul_le_mul_right _ h3
    rwa [Nat.add_mul, Nat.one_mul] at this
  have h5 : (2 : Nat) ^ v < 2 ^ (v + 1) := Nat.pow_lt_pow_right (by decide) (Nat.lt_succ_self v)
  have h6 : (0 : Nat) < 2 ^ (v + 1) := Nat.pow_pos (by decide)
  refine ⟨?_, m % 2 ^ (32 - (v + 1)), ?_, by omega⟩
  · rw [e1, e2, s1, s2, Nat.add_mod, hl, Nat.mod_eq_of_lt (show 2 ^ v < B by omega), Nat.mod_eq_of_lt (by omega)]
  · rw [e2, s1, hl]
/-- The numbers of the division, where y binary places are still to be done. -/
structure DivStep (a b k y R Q : Nat) : Prop where
  all : a = Q * b + R
  low : R < b * 2 ^ y
  mul : ∃ m, Q = 2 ^ y * m
  fit : Q < 2 ^ (k + 1)
theorem DivStep.start {a b k : Nat} (h : a < b * 2 ^ (k + 1)) : DivStep a b k (k + 1) a 0 := ⟨by omega, h, ⟨0, by omega⟩, Nat.pow_pos (by decide)⟩
theorem DivStep.less {a b k i R Q : Nat} (h : DivStep a b k (i + 1) R Q) (hR : R < b * 2 ^ i) : DivStep a b k i R Q := by
  obtain ⟨m, hm⟩ := h.mul
  exact ⟨h.all, hR, ⟨2 * m, by rw [hm, Nat.pow_succ, Nat.mul_assoc]⟩, h.fit⟩
theorem DivStep.more {a b k i R Q : Nat} (h : DivStep a b k (i + 1) R Q) (hR : b * 2 ^ i ≤ R) (hb : 0 < b) (ha : a < b * 2 ^ (k + 1)) : DivStep a b k i (R - b * 2 ^ i) (Q + 2 ^ i) := by
  obtain ⟨m, hm⟩ := h.mul
  have h1 := h.all
  have h2 := h.low
  have h3 : b * 2 ^ (i + 1) = b * 2 ^ i + b * 2 ^ i := by rw [Nat.pow_succ, ← Nat.mul_assoc, Nat.mul_two]
  have h4 : (Q + 2 ^ i) * b = Q * b + b * 2 ^ i := by rw [Nat.add_mul, Nat.mul_comm (2 ^ i)]
  refine ⟨by rw [h4]; omega, by omega, ⟨2 * m + 1, by rw [hm, Nat.pow_succ, Nat.mul_add, Nat.mul_one, Nat.mul_assoc]⟩, ?_⟩
  have h5 : (Q + 2 ^ i) * b < 2 ^ (k + 1) * b := by rw [h4, Nat.mul_comm (2 ^ (k + 1))]; omega
  exact Nat.lt_of_mul_lt_mul_right h5
theorem DivStep.last {a b k R Q : Nat} (h : DivStep a b k 0 R Q) (hb : 0 < b) : Q = a / b ∧ R = a % b := by
  have h1 := h.all
  have h2 := h.low
  rw [Nat.pow_zero, Nat.mul_one] at h2
  rw [Nat.mul_comm] at h1
  subst h1
  rw [Nat.mul_add_div hb, Nat.div_eq_of_lt h2, Nat.mul_add_mod, Nat.mod_eq_of_lt h2]
  exact ⟨by omega, rfl⟩
theorem half_pow (b i : Nat) : b * 2 ^ (i + 1) / 2 = b * 2 ^ i := by rw [Nat.pow_succ, ← Nat.mul_assoc, Nat.mul_div_cancel _ (by decide)]
end Go.Proofs.Ytpclkgjhfhhddaa.PN
/- The document's natural numbers: walks: Div. -/
namespace Go.Proofs.Ytpclkgjhfhhddaa.V
open Go Go.RowKit Go.Proofs.Ytpclkgjhfhhddaa.PN
set_option linter.unusedVariables false
set_option linter.unusedSimpArgs false
/-- Quotient and rest are handed back. -/
def MadeDivR (w : World) (a b : Nat) (e : Ending) (w' : World) : Prop :=
  ∃ vq vr, e = .returned (.tuple #[vq, vr, .int .i64 0]) ∧ NatS w' (fun _ => True) vq (a / b) ∧ NatS w' (fun _ => True) vr (a % b) ∧ Kept w w'
theorem bits_less {a b La Lb : Nat} (ha : IsBits a La) (hb : IsBits b Lb) (hb0 : b ≠ 0) (h : La < Lb) : a < b := by
  have h1 := hb.2.1 hb0
  have h2 : (2 : Nat) ^ (La + 1) ≤ 2 ^ Lb := Nat.pow_le_pow_right (by decide) h
  rw [Nat.pow_succ] at h2
  have := ha.1
  omega
theorem bits_more {a b La Lb k : Nat} (ha : IsBits a La) (hb : IsBits b Lb) (hb0 : b ≠ 0) (h : La = Lb + k) : a < b * 2 ^ (k + 1) := by
  have h1 := hb.2.1 hb0
  have h2 := Nat.mul_le_mul_right (2 ^ k) h1
  rw [← Nat.pow_add, ← h] at h2
  have := ha.1
  have e : 2 * b * 2 ^ k = b * 2 ^ (k + 1) := by rw [Nat.pow_succ]; ac_rfl
  omega
theorem bits_fit {a b La Lb k : Nat} (ha : IsBits a La) (hb : IsBits b Lb) (ha0 : a ≠ 0) (h : La = Lb + k) : b * 2 ^ k ≤ 2 * a := by
  have h1 := ha.2.1 ha0
  have h2 := Nat.mul_le_mul_right (2 ^ k) (Nat.le_of_lt hb.1)
  rw [← Nat.pow_add, ← h] at h2
  omega
set_option maxHeartbeats 2000000 in
theorem r_div_low (A : Option Addr) (c a : Nat) (A' : Option Addr) (c' b : Nat) (w : World) (hc : size a ≤ c) (hc' : size b ≤ c') (ha : At w A a (size a)) (hb : At w A' b (size b)) (hn : size a ≤ 32000) (hm : size b ≤ 32000) (hb0 : b ≠ 0)
    (La Lb : Nat) (hLa : IsBits a La) (hLb : IsBits b Lb) (ca : ∀ w1, Kept w w1 → Calls Try.prog 92 #[.slice A (size a) c] w1 fun e w' => e = .returned (.int .i64 (La : Int)) ∧ w1 = w')
    (cb : ∀ w1, Kept w w1 → Calls Try.prog 92 #[.slice A' (size b) c'] w1 fun e w' => e = .returned (.int .i64 (Lb : Int)) ∧ w1 = w') (h : La < Lb) :
    Calls Try.prog 75 #[.slice A (size a) c, .slice A' (size b) c'] w (MadeDivR w a b) := by
  have hlt := bits_less hLa hLb hb0 h
  have HT := Lib.hid (r_trim A c a (size a) w hc ha (lt_size a) (by omega))
  have hz : ((size b : Int) == 0) = false := by
    have := size_pos (s := b) hb0
    simp; omega
  have b1 := hLa.2.2; have b2 := hLb.2.2
  have CA := Lib.hid ca; have CB := Lib.hid cb
  have e1 : IntKind.i64.wrap ((La : Int) - Lb) = (La : Int) - Lb := IntWalk.i64_in _ (by omega)
  have d1 : decide ((La : Int) - Lb < 0) = true := by simp; omega
  unfold MadeDivR
  rw [Nat.div_eq_of_lt hlt, Nat.mod_eq_of_lt hlt, show NatS = NatS from rfl]
  clear ha hb hLa hLb ca cb hb0 hlt b1 b2
  generalize size b = m at *
  go_enter Try.func75, Try.ntmps75
  go_wp2_with (first | (go_at_call 92; first | ((with_reducible refine (CA.out _ (Below.refl _ _)).mono ?_); rintro e w1 ⟨rfl, rfl⟩) | ((with_reducible refine (CB.out _ (Below.refl _ _)).mono ?_); rintro e w1 ⟨rfl, rfl⟩)) | (go_at_call 76; refine HT.out.mono ?_; rintro e w2 ⟨v2, rfl, hv2, hk2⟩; have HV2 := Lib.hid hv2; have HK2 := Lib.hid hk2; clear hv2 hk2))
  go_ret3
  exact ⟨_, _, rfl, by unfold NatS; rw [size_zero]; exact Dg.nil _ _ _, HV2.out.any, HK2.out⟩
set_option maxRecDepth 100000 in
set_option maxHeartbeats 4000000 in
theorem r_div_high (A : Option Addr) (c a : Nat) (A' : Option Addr) (c' b : Nat) (w : World) (hc : size a ≤ c) (hc' : size b ≤ c') (ha : At w A a (size a)) (hb : At w A' b (size b)) (hn : size a ≤ 32000) (hm : size b ≤ 32000) (hb0 : b ≠ 0) (ha0 : a ≠ 0)
    (La Mb k : Nat) (hLa : IsBits a La) (hLb : IsBits b Mb) (ca : ∀ w1, Kept w w1 → Calls Try.prog 92 #[.slice A (size a) c] w1 fun e w' => e = .returned (.int .i64 (La : Int)) ∧ w1 = w')
    (cb : ∀ w1, Kept w w1 → Calls Try.prog 92 #[.slice A' (size b) c'] w1 fun e w' => e = .returned (.int .i64 (Mb : Int)) ∧ w1 = w') (h : La = Mb + k) :
    Calls Try.prog 75 #[.slice A (size a) c, .slice A' (size b) c'] w (MadeDivR w a b) := by
  obtain ⟨i0, hi, hz0, hz1, hz2⟩ := info_parts info_u32
  have hmore := bits_more hLa hLb hb0 h
  have hfit := bits_fit hLa hLb ha0 h
  have hz : ((size b : Int) == 0) = false := by
    have := size_pos (s := b) hb0
    simp; omega
  have b1 := hLa.2.2; have b2 := hLb.2.2
  have hk : k ≤ 1024000 := by omega
  have hs2 : size (2 * a) ≤ 32001 := by rw [Nat.two_mul]; exact size_add a a 32000 hn hn
  have HT : Hid (∀ w1, Kept w w1 → Calls Try.prog 76 #[.slice A (size a) c] w1 (MadeNat w1 a)) := fun w1 hk => r_trim A c a (size a) w1 hc (ha.kept hk) (lt_size a) (by omega)
  have HS : Hid (∀ w1, Kept w w1 → Calls Try.prog 93 #[.slice A' (size b) c', .int .i64 (k : Int)] w1 (MadeNat w1 (b * 2 ^ k))) := fun w1 hk => r_shl A' c' b k w1 (hb.kept hk) hc' (by omega) (by omega)
  have CA := Lib.hid ca; have CB := Lib.hid cb
  have e1 : IntKind.i64.wrap ((La : Int) - Mb) = (k : Int) := by rw [show (La : Int) - Mb = k by omega]; exact IntWalk.i64_in _ (by omega)
  have e2 : (La : Int) - Mb = (k : Int) := by omega
  have d1 : decide ((k : Int) < 0) = false := by simp
  obtain ⟨N, hN⟩ : ∃ N, k / 32 = N := ⟨_, rfl⟩
  have e3 : (k : Int) / 32 = (N : Int) := by omega
  have hN1 : N ≤ 32000 := by omega
  have HB0 : Hid (0 < b) := Nat.pos_of_ne_zero hb0
  have HM := Lib.hid hmore
  have HF : Hid (∀ x, x ≤ 2 * a → size x ≤ 32001) := fun x hx => Nat.le_trans (size_le_of_le hx) hs2
  have HFit := Lib.hid hfit
  have HQ : Hid ((2 : Nat) ^ (k + 1) ≤ B ^ (N + 1)) := by
    show _ ≤ _
    rw [show B ^ (N + 1) = 2 ^ (32 * (N + 1)) by rw [Nat.pow_mul]]
    exact Nat.pow_le_pow_right (by decide) (by omega)
  have HNk : Hid (k / 32 = N) := hN
  clear ha hb hLa hLb ca cb hb0 ha0 b1 b2 hmore hfit hs2 hN h
  generalize hsb : size b = m at *
  generalize hsa : size a = n at *
  clear hsb hsa
  go_enter Try.func75, Try.ntmps75
  go_wp2_with (first
    | (go_at_call 92; first | ((with_reducible refine (CA.out _ (Below.refl _ _)).mono ?_); rintro e w1 ⟨rfl, rfl⟩) | ((with_reducible refine (CB.out _ (Below.refl _ _)).mono ?_); rintro e w1 ⟨rfl, rfl⟩))
    | (at_make; (refine wpList_make_full _ rfl (.tmp 26) (.tmp 26) 41 rfl w.heap.size U32 i0 (.int .u32 0) 1 Try.underlying41 hi hz0 hz1 _ _ _ _ (N + 1) rfl rfl (by omega) (by omega) (by rw [hz2]; omega) (by unfold maxLen; omega) (Nat.le_refl _) ?_; intro w1 hown hgrow; have HL1 := Lib.hid (Lb.of_own hown); have HK1 := Lib.hid (Kept.grown (Below.refl _ _) hgrow (fun k hk => by cases hk) : Kept w w1); clear hown hgrow))
    | (go_at_call 76; refine (HT.out _ HK1.out).mono ?_; rintro e w2 ⟨v2, rfl, hv2, hk2⟩; obtain ⟨A2, c2, rfl, hc2, ha2⟩ := hv2.at; have HV2 := Lib.hid (hv2.mono (S' := fun k => k ≠ w.heap.size) (fun k hk _ => by have := HL1.out.lt; omega)); have HK2 := Lib.hid hk2; clear hv2 hk2 ha2)
    | (go_at_call 93; refine (HS.out _ (Kept.then HK1.out HK2.out)).mono ?_; rintro e w3 ⟨v3, rfl, hv3, hk3⟩; obtain ⟨A3, c3, rfl, hc3, ha3⟩ := hv3.at; have HV3 := Lib.hid (hv3.mono (S' := fun k => k ≠ w.heap.size) (fun k hk _ => by have := (HL1.out.kept HK2.out).lt; omega)); have HK3 := Lib.hid hk3; clear hv3 hk3 ha3))
  have HL := Lib.hid ((HL1.out.kept HK2.out).kept HK3.out)
  have HK := Lib.hid (Kept.then HK1.out (Kept.then HK2.out HK3.out))
  have HV := Lib.hid (Dg.up HV2.out (Up.of_kept HK3.out))
  go_loopw [9, 10, 11] (fun vr vd vi wr => ∃ (R D y Q : Nat) (A4 : Option Addr) (c4 : Nat) (A5 : Option Addr) (c5 : Nat) (xs : List Nat), vr = .slice A4 (size R) c4 ∧ vd = .slice A5 (size D) c5 ∧ vi = .int .i64 ((y : Int) - 1) ∧ y ≤ k + 1 ∧ size R ≤ c4 ∧ size D ≤ c5 ∧ size R ≤ 32001 ∧ size D ≤ 32001 ∧ Hid (D = b * 2 ^ y / 2) ∧ Hid (NatS wr (fun k => k ≠ w.heap.size) (.slice A4 (size R) c4) R) ∧ Hid (NatS wr (fun k => k ≠ w.heap.size) (.slice A5 (size D) c5) D) ∧ Hid (DivStep a b k y R Q) ∧ Hid (xs.length = N + 1 ∧ ∀ j, j < N + 1 → xs.getD j 0 = dig Q j) ∧ Hid (Lb wr w.heap.size xs) ∧ Hid (Kept w wr)) (fun _ _ vi _ => (intOf vi + 1).toNat)
  case atStart => exact ⟨a, b * 2 ^ k, k + 1, 0, A2, c2, A3, c3, _, rfl, rfl, by simp, Nat.le_refl _, hc2, hc3, HF.out _ (by omega), HF.out _ HFit.out, (half_pow b k).symm, HV, HV3, DivStep.start HM.out, ⟨by simp, fun j _ => by rw [zeros_get, dig_of_zero]⟩, HL, HK⟩
  case round =>
    clear HL HK HV HV2 HV3 HK1 HK2 HK3 HL1 hc2 hc3
    obtain ⟨R, D, y, Q, A4, c4, A5, c5, xs, rfl, rfl, rfl, hy, hc4, hc5, hR, hD, HD, HA4, HA5, HX, HE, HL, HK⟩ := hrel
    rcases y with _ | i
    · have HQ' : Hid (Q < B ^ (N + 1)) := Nat.lt_of_lt_of_le HX.out.fit HQ.out
      have HU := Lib.hid (HX.out.last HB0.out)
      go_wp2_with (go_at_call 76; refine (r_trim _ _ Q _ _ (Nat.le_refl _) ((Lb.dg HL.out HE.out.1 (s := Q) HE.out.2 (S := fun _ => True) trivial).at_own) HQ'.out (by omega)).mono ?_; rintro e w6 ⟨v6, rfl, hv6, hk6⟩; have HV6 := Lib.hid hv6; have HK6 := Lib.hid hk6; clear hv6 hk6)
      go_ret3
      refine ⟨_, _, rfl, ?_, ?_, HK.out.then HK6.out⟩
      · rw [← HU.out.1]; exact HV6.out.any
      · rw [← HU.out.2]; exact (Dg.up HA4.out (Up.of_kept HK6.out)).any
    · have HC : Hid (Calls Try.prog 61 #[.slice A4 (size R) c4, .slice A5 (size D) c5] wr fun e w' => e = .returned (.int .i64 (cmpI R D)) ∧ Kept wr w') := r_cmp A4 c4 R A5 c5 D wr HA4.out.at_own HA5.out.at_own (by omega) (by omega)
      have hD2 : D = b * 2 ^ i := by rw [HD.out, half_pow]
      have HD2 := Lib.hid hD2
      have hneg := @cmp_neg R D
      have HH : Hid (∀ w1, Kept wr w1 → Calls Try.prog 94 #[.slice A5 (size D) c5, .int .i64 1] w1 (MadeNat w1 (D / 2))) := fun w1 hk => r_half A5 c5 D w1 (HA5.out.at_own.kept hk) (by omega)
      have q1 : (((i + 1 : Nat) : Int) - 1) = (i : Int) := by omega
      rcases Nat.lt_or_ge R D with hlt | hge
      · have hd : decide (0 ≤ cmpI R D) = false := by rw [decide_eq_false_iff_not]; omega
        have HN := Lib.hid (HX.out.less (by rw [← hD2]; exact hlt))
        clear hlt hneg hD2 HX
        generalize cmpI R D = cm at *
        go_wp2_with (first
          | (go_at_call 61; refine HC.out.mono ?_; rintro e w6 ⟨rfl, hk6⟩; have HK6 := Lib.hid hk6; clear hk6)
          | (go_at_call 94; refine (HH.out _ HK6.out).mono ?_; rintro e w7 ⟨v7, rfl, hv7, hk7⟩; obtain ⟨A7, c7, rfl, hc7, ha7⟩ := hv7.at; have HV7 := Lib.hid (hv7.mono (S' := fun k => k ≠ w.heap.size) (fun k hk _ => by have := (HL.out.kept HK6.out).lt; omega)); have HK7 := Lib.hid hk7; clear hv7 hk7 ha7))
        have HKK := Lib.hid (Kept.then HK6.out HK7.out)
        have hs7 : size (D / 2) ≤ size D := size_div D 2
        go_roundw
        case measure => simp [intOf]
        case rel => exact ⟨R, D / 2, i, Q, A4, c4, A7, c7, xs, rfl, rfl, by go_num, by omega, hc4, hc7, hR, by omega, by show _ = _; rw [HD2.out], Dg.up HA4.out (Up.of_kept HKK.out), HV7, HN, HE, HL.out.kept HKK.out, HK.out.then HKK.out⟩
      · have hd : decide (0 ≤ cmpI R D) = true := by rw [decide_eq_true_iff]; omega
        have hx := HX.out.more (by rw [← hD2]; exact hge) HB0.out HM.out
        rw [← hD2] at hx
        obtain ⟨mm, hmm⟩ := HX.out.mul
        obtain ⟨hb1, l, hl1, hl2⟩ := bit_at hmm
        have HLow : Hid (∀ j, j ≠ i / 32 → dig (Q + 2 ^ i) j = dig Q j) := fun j hj => bit_low hmm hj
        obtain ⟨u, hu⟩ : ∃ u, i / 32 = u := ⟨_, rfl⟩
        obtain ⟨v, hv⟩ : ∃ v, i % 32 = v := ⟨_, rfl⟩
        have hv32 : v < 32 := by omega
        have huN : u < N + 1 := by have := HNk.out; omega
        rw [hu] at hb1 hl1 HLow
        rw [hv] at hb1 hl1 hl2
        have t1 : (i : Int) / 32 = (u : Int) := by omega
        have t2 : (i : Int) % 32 = (v : Int) := by omega
        have t3 : IntKind.u64.wrap (v : Int) = (v : Int) := by rw [u64_wrap]; omega
        have h2v : (2 : Nat) ^ v < 4294967296 := Nat.pow_lt_pow_right (by decide) hv32
        have hor := or_u32 (l := l) (p := 2 ^ v) (k := v + 1) (by omega) (Nat.pow_lt_pow_right (by decide) (Nat.lt_succ_self v)) hl2
        rw [← hl1, ← hb1] at hor
        obtain ⟨p2, hp2⟩ : ∃ p2, 2 ^ v = p2 := ⟨_, rfl⟩
        have t4 : (2 : Int) ^ v = (p2 : Int) := by rw [← hp2]; simp
        rw [hp2] at hor h2v
        have t5 : IntKind.u32.wrap (p2 : Int) = (p2 : Int) := by rw [u32_wrap]; omega
        have c0 := HL.out.cell (i := u) (by rw [HE.out.1]; exact huN)
        rw [HE.out.2 u huN] at c0
        have z0 := HL.out.free u
        obtain ⟨y1, hy1⟩ : ∃ y1, dig (Q + 2 ^ i) u = y1 := ⟨_, rfl⟩
        rw [hy1] at hor
        have HE2 : Hid ((xs.set u y1).length = N + 1 ∧ ∀ j, j < N + 1 → (xs.set u y1).getD j 0 = dig (Q + 2 ^ i) j) := by
          refine ⟨by rw [List.length_set]; exact HE.out.1, fun j hj => ?_⟩
          by_cases e : j = u
          · subst e; rw [getD_set_self (by rw [HE.out.1]; exact huN), hy1]
          · rw [getD_set_other e, HLow.out j e]; exact HE.out.2 j hj
        have HN := Lib.hid hx
        have HR2 : Hid (size (R - D) ≤ 32001) := Nat.le_trans (size_le_of_le (Nat.sub_le _ _)) hR
        have HJ : Hid (∀ w1, Kept wr w1 → Calls Try.prog 91 #[.slice A4 (size R) c4, .slice A5 (size D) c5] w1 (MadeNat w1 (R - D))) := fun w1 hk => r_less A4 c4 R A5 c5 D w1 (HA4.out.at_own.kept hk) (HA5.out.at_own.kept hk) (by omega) (by omega) hge
        generalize dig Q u = x1 at *
        clear hge hneg hD2 HX hx hmm hb1 hl1 hl2 hu hv hy1 hp2 h2v HLow HE
        generalize cmpI R D = cm at *
        have g0 := fun (w1 : World) (hk : Kept wr w1) => hk.cell c0
        go_wp2_with (first
          | (go_at_call 61; refine HC.out.mono ?_; rintro e w6 ⟨rfl, hk6⟩; have HK6 := Lib.hid hk6; clear hk6)
          | (go_at_call 91; refine (HJ.out _ HK6.out).mono ?_; rintro e w8 ⟨v8, rfl, hv8, hk8⟩; obtain ⟨A8, c8, rfl, hc8, ha8⟩ := hv8.at; have HV8 := Lib.hid (hv8.mono (S' := fun k => k ≠ w.heap.size) (fun k hk _ => by have := (HL.out.kept HK6.out).lt; omega)); have HK8 := Lib.hid hk8; have HL8 := Lib.hid ((HL.out.kept HK6.out).kept hk8); have c8' := (Kept.then HK6.out hk8).cell c0; have z8' := HL8.out.free u; clear hv8 hk8 ha8)
          | (go_at_call 94; refine (r_half A5 c5 D _ ((Dg.far (Dg.up HA5.out (Up.of_kept (Kept.then HK6.out HK8.out))) (fun k hk => hk) u (.int .u32 (y1 : Int))).at_own) (by omega)).mono ?_; rintro e w7 ⟨v7, rfl, hv7, hk7⟩; obtain ⟨A7, c7, rfl, hc7, ha7⟩ := hv7.at; have HL9 := Lib.hid (HL8.out.put u y1 rfl); have HV7 := Lib.hid (hv7.mono (S' := fun k => k ≠ w.heap.size) (fun k hk _ => by have := HL9.out.lt; omega)); have HK7 := Lib.hid hk7; clear hv7 hk7 ha7))
        have HKw := Lib.hid ((HK.out.then (Kept.then HK6.out HK8.out)).set (Nat.le_refl _) u (.int .u32 (y1 : Int)))
        have hs7 : size (D / 2) ≤ size D := size_div D 2
        go_roundw
        case measure => simp [intOf]
        case rel => exact ⟨R - D, D / 2, i, Q + 2 ^ i, A8, c8, A7, c7, _, rfl, rfl, by go_num, by omega, hc8, hc7, HR2.out, by omega, by show _ = _; rw [HD2.out], Dg.up (Dg.far HV8.out (fun k hk => hk) u _) (Up.of_kept HK7.out), HV7, HN, HE2, HL9.out.kept HK7.out, HKw.out.then HK7.out⟩
theorem isBits_ex (a : Nat) : ∃ L, IsBits a L := by
  by_cases h : a = 0
  · subst h; exact ⟨0, by decide, fun h => absurd rfl h, Nat.zero_le _⟩
  · refine ⟨a.log2 + 1, Nat.lt_log2_self, fun _ => ?_, ?_⟩
    · have := Nat.log2_self_le h
      rw [Nat.pow_succ]; omega
    · have h1 := Nat.log2_self_le h
      have h2 := lt_size a
      rw [show B ^ size a = 2 ^ (32 * size a) by rw [Nat.pow_mul]] at h2
      have := (Nat.pow_lt_pow_iff_right (a := 2) (by decide)).1 (Nat.lt_of_le_of_lt h1 h2)
      omega
theorem isBits_uniq {a L M : Nat} (h : IsBits a L) (k : IsBits a M) : L = M := by
  by_cases h0 : a = 0
  · subst h0
    have h1 := h.2.2; have k1 := k.2.2
    rw [size_zero] at h1 k1
    omega
  · have h1 := h.2.1 h0; have k1 := k.2.1 h0
    have h2 := h.1; have k2 := k.1
    have e1 : 2 ^ L < 2 ^ (M + 1) := by rw [Nat.pow_succ]; omega
    have e2 : 2 ^ M < 2 ^ (L + 1) := by rw [Nat.pow_succ]; omega
    have f1 := (Nat.pow_lt_pow_iff_right (a := 2) (by decide)).1 e1
    have f2 := (Nat.pow_lt_pow_iff_right (a := 2) (by decide)).1 e2
    omega
theorem r_div_any (A : Option Addr) (c a : Nat) (A' : Option Addr) (c' b : Nat) (w : World) (hc : size a ≤ c) (hc' : size b ≤ c') (h1 : At w A a (size a)) (h2 : At w A' b (size b)) (hn : size a ≤ 32000) (hm : size b ≤ 32000) (hb0 : b ≠ 0) : Calls Try.prog 75 #[.slice A (size a) c, .slice A' (size b) c'] w (MadeDivR w a b) := by
  obtain ⟨L, hL⟩ := isBits_ex a
  obtain ⟨M, hM⟩ := isBits_ex b
  have ca : ∀ w1, Kept w w1 → Calls Try.prog 92 #[.slice A (size a) c] w1 fun e w' => e = .returned (.int .i64 (L : Int)) ∧ w1 = w' := fun w1 hk => by
    refine (r_bits A c a w1 (h1.kept hk) (by omega)).mono ?_
    rintro e w2 ⟨⟨x, rfl, hx⟩, rfl⟩
    rw [isBits_uniq hx hL]; exact ⟨rfl, rfl⟩
  have cb : ∀ w1, Kept w w1 → Calls Try.prog 92 #[.slice A' (size b) c'] w1 fun e w' => e = .returned (.int .i64 (M : Int)) ∧ w1 = w' := fun w1 hk => by
    refine (r_bits A' c' b w1 (h2.kept hk) (by omega)).mono ?_
    rintro e w2 ⟨⟨x, rfl, hx⟩, rfl⟩
    rw [isBits_uniq hx hM]; exact ⟨rfl, rfl⟩
  rcases Nat.lt_or_ge L M with h | h
  · exact r_div_low A c a A' c' b w hc hc' h1 h2 hn hm hb0 L M hL hM ca cb h
  · have ha0 : a ≠ 0 := by
      rintro rfl
      have := hL.2.2
      rw [size_zero] at this
      have hM1 := hM.1
      rw [show M = 0 by omega] at hM1
      simp at hM1; omega
    exact r_div_high A c a A' c' b w hc hc' h1 h2 hn hm hb0 ha0 L M (L - M) hL hM ca cb (by omega)
theorem r_div {w : World} {va vb : Value} {a b : Nat} [ha : NatAt w va a] [hb : NatAt w vb b] (hn : size a ≤ 32000) (hm : size b ≤ 32000) (hb0 : b ≠ 0) : Calls Try.prog 75 #[va, vb] w (MadeDivR w a b) := by
  obtain ⟨A, c, rfl, hc, h1⟩ := ha.at
  obtain ⟨A', c', rfl, hc', h2⟩ := hb.at
  exact r_div_any A c a A' c' b w hc hc' h1 h2 hn hm hb0
set_option maxRecDepth 100000 in
set_option maxHeartbeats 2000000 in
theorem r_gcd_any (A : Option Addr) (c a : Nat) (A' : Option Addr) (c' b : Nat) (w : World) (hc : size a ≤ c) (hc' : size b ≤ c') (h1 : At w A a (size a)) (h2 : At w A' b (size b)) (hn : size a ≤ 32000) (hm : size b ≤ 32000) :
    Calls Try.prog 74 #[.slice A (size a) c, .slice A' (size b) c'] w (MadeNat w (Nat.gcd a b)) := by
  have HA := Lib.hid h1; have HB := Lib.hid h2
  clear h1 h2
  go_enter Try.func74, Try.ntmps74
  go_wp2
  go_loopg [0, 1] b (fun y v0 v1 wr => ∃ (x : Nat) (A1 : Option Addr) (c1 : Nat) (A2 : Option Addr) (c2 : Nat), v0 = .slice A1 (size x) c1 ∧ v1 = .slice A2 (size y) c2 ∧ size x ≤ c1 ∧ size y ≤ c2 ∧ size x ≤ 32000 ∧ size y ≤ 32000 ∧ Hid (At wr A1 x (size x)) ∧ Hid (At wr A2 y (size y)) ∧ Hid (Nat.gcd x y = Nat.gcd a b) ∧ Hid (Kept w wr))
  case atStart => exact ⟨a, A, c, A', c', rfl, rfl, hc, hc', hn, hm, HA, HB, rfl, Below.refl _ _⟩
  case round =>
    clear HA HB hc hc'
    obtain ⟨x, A4, c4, A5, c5, rfl, rfl, hc1, hc2, hx, hy, H1, H2, HG, HK⟩ := hrel
    rcases Nat.eq_zero_or_pos gk with h | h
    · subst h
      go_wp2_with (go_at_call 76; (with_reducible refine (r_trim A4 c4 x (size x) _ hc1 H1.out (lt_size x) (by omega)).mono ?_); rintro e w3 ⟨v3, rfl, hv3, hk3⟩)
      go_ret
      have hg := HG.out
      rw [Nat.gcd_zero_right] at hg
      rw [← hg]
      exact MadeDg.after HK.out ⟨_, rfl, hv3, hk3⟩
    · have hs : 0 < size gk := size_pos (by omega)
      go_wp2_with (go_at_call 75; refine Calls.mono (r_div_any A4 c4 x A5 c5 gk _ hc1 hc2 H1.out H2.out hx hy (by omega)) ?_; rintro e w3 ⟨vq, vr, rfl, hq, hr, hk3⟩; obtain ⟨A3, c3, rfl, hc3, ha3⟩ := hr.at; have H3 := Lib.hid ha3; have HK3 := Lib.hid hk3; clear hq hr ha3 hk3)
      go_roundg (x % gk)
      case measure => exact Nat.mod_lt _ h
      case rel => exact ⟨gk, A5, c5, A3, c3, rfl, rfl, hc2, hc3, hy, Nat.le_trans (size_le_of_le (Nat.mod_le _ _)) hx, H2.out.kept HK3.out, H3, by show _ = _; rw [← HG.out, Nat.gcd_comm, ← Nat.gcd_rec, Nat.gcd_comm], Kept.then HK.out HK3.out⟩
theorem r_gcd {w : World} {va vb : Value} {a b : Nat} [ha : NatAt w va a] [hb : NatAt w vb b] (hn : size a ≤ 32000) (hm : size b ≤ 32000) :
    Calls Try.prog 74 #[va, vb] w (MadeNat w (Nat.gcd a b)) := by
  obtain ⟨A, c, rfl, hc, h1⟩ := ha.at
  obtain ⟨A', c', rfl, hc', h2⟩ := hb.at
  exact r_gcd_any A c a A' c' b w hc hc' h1 h2 hn hm
end Go.Proofs.Ytpclkgjhfhhddaa.V
/- The document's rational numbers: walks: one, Zero, size, Make, Of. -/
namespace Go.Proofs.Ytpclkgjhfhhddaa.V
open Go Go.RowKit Go.Proofs.Ytpclkgjhfhhddaa.PN
set_option linter.unusedVariables false
set_option linter.unusedSimpArgs false
theorem r_cmp_v {w : World} {va vb : Value} {a b : Nat} [ha : NatAt w va a] [hb : NatAt w vb b] (hn : size a ≤ 4398046511103) (hm : size b ≤ 4398046511103) : Calls Try.prog 61 #[va, vb] w fun e w' => e = .returned (.int .i64 (cmpI a b)) ∧ Kept w w' := by
  obtain ⟨A, c, rfl, hc, h1⟩ := ha.at
  obtain ⟨A', c', rfl, hc', h2⟩ := hb.at
  exact r_cmp A c a A' c' b w h1 h2 (by omega) (by omega)
theorem r_mul_v {w : World} {va vb : Value} {a b : Nat} [ha : NatAt w va a] [hb : NatAt w vb b] (hn : size a ≤ 4398046511103) (hm : size b ≤ 4398046511103) : Calls Try.prog 62 #[va, vb] w (MadeNat w (a * b)) := by
  obtain ⟨A, c, rfl, hc, h1⟩ := ha.at
  obtain ⟨A', c', rfl, hc', h2⟩ := hb.at
  exact r_mul A c a A' c' b w h1 h2 (by omega) (by omega)
theorem r_add_v {w : World} {va vb : Value} {a b : Nat} [ha : NatAt w va a] [hb : NatAt w vb b] (hn : size a ≤ 4398046511103) (hm : size b ≤ 4398046511103) : Calls Try.prog 64 #[va, vb] w (MadeNat w (a + b)) := by
  obtain ⟨A, c, rfl, hc, h1⟩ := ha.at
  obtain ⟨A', c', rfl, hc', h2⟩ := hb.at
  exact r_add A c a A' c' b w h1 h2 (by omega) (by omega)
theorem r_sub_v {w : World} {va vb : Value} {a b : Nat} [ha : NatAt w va a] [hb : NatAt w vb b] (hn : size a ≤ 4398046511103) (hm : size b ≤ 4398046511103) (hab : b ≤ a) : Calls Try.prog 65 #[va, vb] w (MadeDgOk w (a - b) (size (a - b)) 0) := by
  obtain ⟨A, c, rfl, hc, h1⟩ := ha.at
  obtain ⟨A', c', rfl, hc', h2⟩ := hb.at
  exact r_sub A c a A' c' b w h1 h2 (by omega) (by omega) hab
theorem dg_one (w : World) : Dg (w.alloc (.cells #[.int .u32 1] U32)) (fun k => w.heap.size ≤ k) (.slice (some ⟨w.heap.size, 0, none⟩) 1 1) 1 (size 1) := by
  rw [size_one]
  refine ⟨_, _, rfl, Nat.le_refl _, fun i hi => ⟨_, _, _, rfl, Nat.le_refl _, row_new w _ _, ?_⟩⟩
  rw [show i = 0 by omega]; rfl
set_option maxHeartbeats 1000000 in
theorem s_one (w : World) : Calls Try.prog 73 #[] w (MadeNat w 1) := by
  go_enter Try.func73, Try.ntmps73
  go_wp2
  go_ret
  exact ⟨_, rfl, dg_one w, Kept.alloc w _⟩
set_option maxHeartbeats 1000000 in
theorem s_zero (w : World) : Calls Try.prog 72 #[] w (MadeRat w 0) := by
  go_enter Try.func72, Try.ntmps72
  go_wp2_with (go_at_call 73; refine (s_one _).mono ?_; rintro e w1 ⟨v1, rfl, hv1, hk1⟩; obtain ⟨A1, c1, rfl, _, _⟩ := hv1.at; have HV1 := Lib.hid hv1; have HK1 := Lib.hid hk1; obtain ⟨hc1, hf1⟩ := bcell hk1; clear hv1 hk1)
  exact ret_rat rfl rfl rfl (HK1.out.row (row_new w _ _)) (Nat.le_refl _) ((Kept.alloc w _).then HK1.out) ⟨rfl, Dg.nil _ _ _, HV1.out.any⟩
set_option maxHeartbeats 1000000 in
theorem s_size (x : Int) (w : World) (h : -9223372036854775808 ≤ x) (h' : x < 9223372036854775808) : Calls Try.prog 47 #[.int .i64 x] w fun e w' => e = .returned (.int .u64 (x.natAbs : Int)) ∧ w = w' := by
  rcases Int.lt_or_le x 0 with h0 | h0
  · have e1 : IntKind.u64.wrap (-(IntKind.u64.wrap x)) = (x.natAbs : Int) := by rw [u64_wrap, u64_wrap]; omega
    have e2 : IntKind.u64.wrap (0 - (IntKind.u64.wrap x)) = (x.natAbs : Int) := by rw [u64_wrap, u64_wrap]; omega
    have e3 : decide (x < 0) = true := by simp; omega
    generalize x.natAbs = y at *
    go_enter Try.func47, Try.ntmps47
    go_wp2
    go_ret
    exact ⟨rfl, rfl⟩
  · have e1 : IntKind.u64.wrap x = (x.natAbs : Int) := by rw [u64_wrap]; omega
    have e3 : decide (x < 0) = false := by simp; omega
    generalize x.natAbs = y at *
    go_enter Try.func47, Try.ntmps47
    go_wp2
    go_ret
    exact ⟨rfl, rfl⟩
end Go.Proofs.Ytpclkgjhfhhddaa.V
/- The document's rational numbers: walks: Make. -/
namespace Go.Proofs.Ytpclkgjhfhhddaa.V
open Go Go.RowKit Go.Proofs.Ytpclkgjhfhhddaa.PN
set_option linter.unusedVariables false
set_option linter.unusedSimpArgs false
set_option maxRecDepth 100000 in
set_option maxHeartbeats 4000000 in
theorem s_make {w : World} {neg : Bool} {vn vd : Value} {n d : Nat} [hn : NatAt w vn n] [hd : NatAt w vd d] (hs : size n ≤ 32000) (hs' : size d ≤ 32000) (hd0 : d ≠ 0) :
    Calls Try.prog 45 #[.bool neg, vn, vd] w (MadeRatE w (mk neg n d) 0) := by
  obtain ⟨i0, hi, hz0, hz1, hz2⟩ := info_parts info_u32
  obtain ⟨An, cn, rfl, hcn, han⟩ := hn.at
  obtain ⟨Ad, cd, rfl, hcd, had⟩ := hd.at
  have HN := Lib.hid (NatS.lift hn.out); have HD := Lib.hid (NatS.lift hd.out); have HAn := Lib.hid han
  clear han had hn hd
  have hz : ((size d : Int) == 0) = false := by
    have := size_pos (s := d) (by omega)
    simp; omega
  have b3 : size 1 ≤ 4398046511103 := by decide
  rcases Nat.eq_zero_or_pos n with h | h
  · subst h
    have hz' : ((size 0 : Int) == 0) = true := by rw [size_zero]; rfl
    rw [mk_zero]
    go_enter Try.func45, Try.ntmps45
    go_wp2_with (go_at_call 72; refine (s_zero _).mono ?_; rintro e w1 ⟨s1, vn1, vd1, rfl, hq1, hk1⟩; obtain ⟨An1, cn1, rfl, _, _⟩ := hq1.2.1.at; obtain ⟨Ad1, cd1, rfl, _, _⟩ := hq1.2.2.at; have HQ1 := Lib.hid hq1; have HK1 := Lib.hid hk1; obtain ⟨hc1, hf1⟩ := bcell hk1; clear hq1 hk1)
    exact ret_rat2 rfl rfl rfl rfl (HK1.out.row (row_new w _ _)) (Nat.le_refl _) ((Kept.alloc w _).then HK1.out) HQ1.out
  have hz' : ((size n : Int) == 0) = false := by
    have := size_pos (s := n) (by omega)
    simp; omega
  by_cases hd1 : d = 1
  · subst hd1
    have hc1 : (cmpI 1 1 == 0) = true := by decide
    have hq : nm (mk neg n 1) = n := by rw [mk_num neg (by decide), Nat.gcd_one_right, Nat.div_one]
    have hq2 : (mk neg n 1).den = 1 := by rw [mk_den neg (by decide), Nat.gcd_one_right, Nat.div_one]
    have hq3 : ng (mk neg n 1) = neg := mk_ng neg (by omega) (by decide)
    have Q1 := Lib.hid hq; have Q2 := Lib.hid hq2; have Q3 := Lib.hid hq3
    have hn0 : 0 < size n := size_pos (by omega)
    obtain ⟨b0, o0, rfl, _⟩ := HAn.out 0 hn0
    clear hq hq2 hq3
    have b4 : ((size 1 : Int) == 0) = false := by decide
    go_enter Try.func45, Try.ntmps45
    have iN := HN.out; have iD := HD.out
    go_wp2_with (first
      | (at_builtin; (refine wpList_append_own _ rfl (.tmp 28) (.tmp 29) 41 rfl w2.heap.size U32 i0 (.int .u32 0) 1 4 Try.underlying41 hi hz0 hz1 hz2 rfl (by decide) _ 0 [] rfl (World.ownsRow_made w2 #[] 0 (Nat.le_refl _) (by decide) rfl) ⟨b0, o0, none⟩ (size n) cn (lim n (size n)) rfl (by rw [lim_length, Nat.mul_one]) (At.cells (HAn.out.kept (Kept.then (Kept.alloc w _) (Kept.then HK1.out (Kept.then HK2.out (Kept.alloc _ _)))))) (lim_one n (size n)) (by unfold maxLen; omega) (by omega) (Nat.le_of_lt (by simp)) ?_); (intro v3 w3 ho3 hg3 _; have hv3 := Dg.of_own (s := n) (n := size n) ho3 (by omega) rfl; have HK3 : Hid (Kept w2 w3) := (Kept.alloc w2 _).grown hg3 (fun k hk => by simp [Value.ownBlock, Act.eval] at hk; omega); obtain ⟨A3, c3, rfl, _, _⟩ := hv3.at; have HV3 := Lib.hid hv3.any; clear ho3 hg3 hv3))
      | (go_at_call 73; have hx9 := HK3; refine Calls.mono (s_one _) ?_; rintro e w4 ⟨v4, rfl, hv4, hk4⟩; obtain ⟨A4, c4, rfl, _, _⟩ := hv4.at; have HV4 := Lib.hid hv4.any; have hr4 := Kept.row hk4 (Kept.row HK3.out (Kept.row HK2.out (Kept.row HK1.out (row_new w _ _)))); obtain ⟨d0, d1, d2, e0, e1, e2⟩ := three hr4; have HR4 := Lib.hid hr4; have HK4 := Lib.hid hk4; clear hv4 hk4 hr4)
      | (go_at_call 61; refine Calls.mono (r_cmp_v (a := 1) (b := 1) b3 b3) ?_; rintro e w2 ⟨rfl, hk2⟩; have HK2 := Lib.hid hk2; clear hk2)
      | (go_at_call 73; refine Calls.mono (s_one _) ?_; rintro e w1 ⟨v1, rfl, hv1, hk1⟩; obtain ⟨A1, c1, rfl, _, _⟩ := hv1.at; have i1 := NatS.lift hv1; have u1 := Kept.chain hk1; have HV1 := Lib.hid hv1; have HK1 := Lib.hid hk1; clear hv1 hk1))
    refine ret_rat2 rfl rfl rfl rfl HR4.out (Nat.le_refl _) (Kept.then (Kept.alloc w _) (Kept.then HK1.out (Kept.then HK2.out (Kept.then HK3.out HK4.out)))) ⟨Q3.out.symm, ?_, ?_⟩
    · unfold NatS; rw [Q1.out]; exact Dg.up HV3.out (Up.of_kept HK4.out)
    · unfold NatS; rw [Q2.out]; exact HV4.out
  · have hcd1 : (cmpI d 1 == 0) = false := by
      have h1 := @cmp_zero d 1
      simp only [beq_eq_false_iff_ne, ne_eq]
      intro h2; exact hd1 (h1.1 h2)
    have hgs : size (Nat.gcd n d) ≤ 32000 := Nat.le_trans (size_le_of_le (Nat.gcd_le_left d h)) hs
    have hg0 : Nat.gcd n d ≠ 0 := Nat.ne_of_gt (Nat.gcd_pos_of_pos_left d h)
    have Q1 := Lib.hid (mk_num (n := n) neg hd0); have Q2 := Lib.hid (mk_den (n := n) neg hd0); have Q3 := Lib.hid (mk_ng (n := n) neg (Nat.ne_of_gt h) hd0)
    go_enter Try.func45, Try.ntmps45
    have iN := HN.out; have iD := HD.out
    go_wp2_with (first
      | (go_at_call 61; refine Calls.mono (r_cmp_v (a := d) (b := 1) (by omega) b3) ?_; rintro e w2 ⟨rfl, hk2⟩; have u2 := Kept.chain hk2; have HK2 := Lib.hid hk2; clear hk2)
      | (go_at_call 73; refine Calls.mono (s_one _) ?_; rintro e w1 ⟨v1, rfl, hv1, hk1⟩; have i1 := NatS.lift hv1; have u1 := Kept.chain hk1; have HK1 := Lib.hid hk1; clear hv1 hk1)
      | (go_at_call 74; refine Calls.mono (r_gcd (a := n) (b := d) hs hs') ?_; rintro e w3 ⟨v3, rfl, hv3, hk3⟩; have i3 := NatS.lift hv3; have u3 := Kept.chain hk3; have HK3 := Lib.hid hk3; clear hv3 hk3)
      | (go_at_call 75; refine Calls.mono (r_div (a := n) (b := Nat.gcd n d) hs hgs hg0) ?_; rintro e w4 ⟨vq4, vr4, rfl, hq4, hr4, hk4⟩; obtain ⟨A4, c4, rfl, _, _⟩ := hq4.at; obtain ⟨B4, b4, rfl, _, _⟩ := hr4.at; have u4 := Kept.chain hk4; have HV4 := Lib.hid hq4; have HK4 := Lib.hid hk4; clear hq4 hr4 hk4)
      | (go_at_call 75; refine Calls.mono (r_div (a := d) (b := Nat.gcd n d) hs' hgs hg0) ?_; rintro e w5 ⟨vq5, vr5, rfl, hq5, hr5, hk5⟩; obtain ⟨A5, c5, rfl, _, _⟩ := hq5.at; obtain ⟨B5, b5, rfl, _, _⟩ := hr5.at; have HV5 := Lib.hid hq5; have hr9 := Kept.row hk5 (Kept.row HK4.out (Kept.row HK3.out (Kept.row HK2.out (Kept.row HK1.out (row_new w _ _))))); obtain ⟨d0, d1, d2, e0, e1, e2⟩ := three hr9; have HR9 := Lib.hid hr9; have HK5 := Lib.hid hk5; clear hq5 hr5 hk5 hr9))
    refine ret_rat2 rfl rfl rfl rfl HR9.out (Nat.le_refl _) (Kept.then (Kept.alloc w _) (Kept.then HK1.out (Kept.then HK2.out (Kept.then HK3.out (Kept.then HK4.out HK5.out))))) ⟨Q3.out.symm, ?_, ?_⟩
    · unfold NatS; rw [Q1.out]; exact Dg.up HV4.out (Up.of_kept HK5.out)
    · unfold NatS; rw [Q2.out]; exact HV5.out
end Go.Proofs.Ytpclkgjhfhhddaa.V
/- The document's rational numbers: walks: Of, Int, made. -/
namespace Go.Proofs.Ytpclkgjhfhhddaa.V
open Go Go.RowKit Go.Proofs.Ytpclkgjhfhhddaa.PN
set_option linter.unusedVariables false
set_option linter.unusedSimpArgs false
theorem size_u64 {x : Nat} (h : x < 18446744073709551616) : size x ≤ 2 := (lt_iff x 2).1 (by simpa only [B] using h)
theorem ret_rat_a {fn : Func} {p : Tmp} {a : Act} {w w1 : World} {g : Nat} {x y z : Value} {s : Bool} {vn vd : Value} {q : Rat} {o : Obj} (h : fn.results = #[.cell p RT]) (hp : a.tmps.getD p undef = .pointer (some ⟨g, 0, none⟩)) (hd : a.defers = [])
    (r : Row? w1 g #[x, y, z] RT) (hg : w.heap.size ≤ g) (hk : Kept w w1) (hq : RatS w1 (fun _ => True) s vn vd q) : bodyPost Try.prog fn (MadeRat w q) .ret a ((set3 w1 g s vn vd).alloc o) :=
  ret_box h hp ((Kept.alloc _ o).row (row_set3 r s vn vd)) hd ⟨s, vn, vd, rfl, (hq.up (up_set3 (Up.refl w1) r s vn vd)).up (Up.of_kept (Kept.alloc _ o)), Kept.then (kept_set3 hk hg s vn vd) (Kept.alloc _ o)⟩
set_option maxHeartbeats 2000000 in
theorem s_made {w : World} {neg : Bool} {vn vd : Value} {n d : Nat} [hn : NatAt w vn n] [hd : NatAt w vd d] (hs : size n ≤ 32000) (hs' : size d ≤ 32000) (hd0 : d ≠ 0) :
    Calls Try.prog 63 #[.bool neg, vn, vd] w (MadeRat w (mk neg n d)) := by
  have HN := Lib.hid (NatS.lift hn.out); have HD := Lib.hid (NatS.lift hd.out)
  clear hn hd
  go_enter Try.func63, Try.ntmps63
  have iN := HN.out; have iD := HD.out
  go_wp2_with (go_at_call 45; refine Calls.mono (s_make (n := n) (d := d) hs hs' hd0) ?_; rintro e w1 ⟨s1, vn1, vd1, rfl, hq1, hk1⟩; obtain ⟨An1, cn1, rfl, _, _⟩ := hq1.2.1.at; obtain ⟨Ad1, cd1, rfl, _, _⟩ := hq1.2.2.at; have hr1 := Kept.row hk1 (row_new w _ _); obtain ⟨d0, d1, d2, e0, e1, e2⟩ := three hr1; have z1 := Row?.lt hr1; have HR1 := Lib.hid hr1; have HQ1 := Lib.hid hq1; have HK1 := Lib.hid hk1; clear hq1 hk1 hr1)
  exact ret_rat_a rfl rfl rfl HR1.out (Nat.le_refl _) (Kept.then (Kept.alloc w _) HK1.out) HQ1.out
set_option maxHeartbeats 2000000 in
theorem s_of (n d : Int) (w : World) (h1 : -9223372036854775808 ≤ n) (h2 : n < 9223372036854775808) (h3 : -9223372036854775808 ≤ d) (h4 : d < 9223372036854775808) (hd : d ≠ 0) :
    Calls Try.prog 19 #[.int .i64 n, .int .i64 d] w (MadeRatE w (mk (decide (n < 0) != decide (d < 0)) n.natAbs d.natAbs) 0) := by
  have hx : n.natAbs < 18446744073709551616 := by omega
  have hy : d.natAbs < 18446744073709551616 := by omega
  have z1 := size_u64 hx; have z2 := size_u64 hy
  have hy0 : d.natAbs ≠ 0 := by omega
  have C1 := Lib.hid (fun w1 => s_size n w1 h1 h2); have C2 := Lib.hid (fun w1 => s_size d w1 h3 h4)
  rw [bne_flip]
  generalize n.natAbs = x at *
  generalize d.natAbs = y at *
  obtain ⟨b1, hb1⟩ : ∃ b, decide (n < 0) = b := ⟨_, rfl⟩
  obtain ⟨b2, hb2⟩ : ∃ b, decide (d < 0) = b := ⟨_, rfl⟩
  rw [hb1, hb2]
  clear h1 h2 h3 h4 hd
  go_enter Try.func19, Try.ntmps19
  go_wp2_with (first
    | (go_at_call 47; first | ((with_reducible refine (C1.out _).mono ?_); rintro e w1 ⟨rfl, rfl⟩) | ((with_reducible refine (C2.out _).mono ?_); rintro e w1 ⟨rfl, rfl⟩))
    | (go_at_call 46; first | ((with_reducible refine (r_of x _ hx).mono ?_); rintro e w2 ⟨v2, rfl, hv2, hk2⟩; have i2 := NatS.lift hv2; have u2 := Kept.chain hk2; have HK2 := Lib.hid hk2; clear hv2 hk2) | ((with_reducible refine (r_of y _ hy).mono ?_); rintro e w3 ⟨v3, rfl, hv3, hk3⟩; have i3 := NatS.lift hv3; have u3 := Kept.chain hk3; have HK3 := Lib.hid hk3; clear hv3 hk3))
    | (go_at_call 45; refine Calls.mono (s_make (n := x) (d := y) (by omega) (by omega) hy0) ?_; rintro e w4 ⟨s4, vn4, vd4, rfl, hq4, hk4⟩; obtain ⟨An4, cn4, rfl, _, _⟩ := hq4.2.1.at; obtain ⟨Ad4, cd4, rfl, _, _⟩ := hq4.2.2.at; have hr4 := Kept.row hk4 (Kept.row HK3.out (Kept.row HK2.out (row_new w _ _))); obtain ⟨d0, d1, d2, e0, e1, e2⟩ := three hr4; have HR4 := Lib.hid hr4; have HQ4 := Lib.hid hq4; have HK4 := Lib.hid hk4; clear hq4 hk4 hr4))
  exact ret_rat2 rfl rfl rfl rfl HR4.out (Nat.le_refl _) (Kept.then (Kept.alloc w _) (Kept.then HK2.out (Kept.then HK3.out HK4.out))) HQ4.out
theorem mk_int (n : Int) : mk (decide (n < 0) != decide ((1 : Int) < 0)) n.natAbs (1 : Int).natAbs = (n : Rat) := by
  have h : (decide (n < 0) != decide ((1 : Int) < 0)) = decide (n < 0) := by simp
  rw [h]
  unfold mk sg
  by_cases h0 : n < 0
  · rw [if_pos (by simpa using h0), show -(n.natAbs : Int) = n by omega]
    simp [Rat.mkRat_one]
  · rw [if_neg (by simpa using h0), show (n.natAbs : Int) = n by omega]
    simp [Rat.mkRat_one]
set_option maxHeartbeats 2000000 in
theorem s_int (n : Int) (w : World) (h1 : -9223372036854775808 ≤ n) (h2 : n < 9223372036854775808) :
    Calls Try.prog 25 #[.int .i64 n] w (MadeRat w (n : Rat)) := by
  have C1 := Lib.hid (fun w1 => s_of n 1 w1 h1 h2 (by decide) (by decide) (by decide))
  rw [mk_int] at C1
  clear h1 h2
  generalize (n : Rat) = q at *
  go_enter Try.func25, Try.ntmps25
  go_wp2_with (go_at_call 19; refine (C1.out _).mono ?_; rintro e w1 ⟨s1, vn1, vd1, rfl, hq1, hk1⟩; obtain ⟨An1, cn1, rfl, _, _⟩ := hq1.2.1.at; obtain ⟨Ad1, cd1, rfl, _, _⟩ := hq1.2.2.at; have hr1 := Kept.row hk1 (row_new w _ _); obtain ⟨d0, d1, d2, e0, e1, e2⟩ := three hr1; have z1 := Row?.lt hr1; have HR1 := Lib.hid hr1; have HQ1 := Lib.hid hq1; have HK1 := Lib.hid hk1; clear hq1 hk1 hr1)
  exact ret_rat_a rfl rfl rfl HR1.out (Nat.le_refl _) (Kept.then (Kept.alloc w _) HK1.out) HQ1.out
end Go.Proofs.Ytpclkgjhfhhddaa.V
/- The document's rational numbers: walks: products, nought. -/
namespace Go.Proofs.Ytpclkgjhfhhddaa.V
open Go Go.RowKit Go.Proofs.Ytpclkgjhfhhddaa.PN
set_option linter.unusedVariables false
set_option linter.unusedSimpArgs false
end Go.Proofs.Ytpclkgjhfhhddaa.V
/- The document's rational numbers: walks: the same. -/
namespace Go.Proofs.Ytpclkgjhfhhddaa.V
open Go Go.RowKit Go.Proofs.Ytpclkgjhfhhddaa.PN
set_option linter.unusedVariables false
set_option linter.unusedSimpArgs false
set_option maxHeartbeats 2000000 in
theorem s_same {w : World} {s s' : Bool} {vn vd vn' vd' : Value} {p q : Rat} [hp : RatAt w s vn vd p] [hq : RatAt w s' vn' vd' q] (hs : wt p ≤ 1000000000000) (hs' : wt q ≤ 1000000000000) :
    Calls Try.prog 33 #[.agg #[.bool s, vn, vd], .agg #[.bool s', vn', vd']] w fun e w' => e = .returned (.bool (decide (p = q))) ∧ Kept w w' := by
  obtain ⟨rfl, hn, hd⟩ := hp.out
  obtain ⟨rfl, hn', hd'⟩ := hq.out
  obtain ⟨An, cn, rfl, _, _⟩ := hn.at
  obtain ⟨Ad, cd, rfl, _, _⟩ := hd.at
  obtain ⟨An', cn', rfl, _, _⟩ := hn'.at
  obtain ⟨Ad', cd', rfl, _, _⟩ := hd'.at
  have HN := Lib.hid (NatS.lift hn); have HD := Lib.hid (NatS.lift hd); have HN' := Lib.hid (NatS.lift hn'); have HD' := Lib.hid (NatS.lift hd')
  clear hn hd hn' hd' hp hq
  have b1 := wt_num p; have b2 := wt_den p; have b3 := wt_num q; have b4 := wt_den q
  have hcz : ∀ x y : Nat, (cmpI x y == 0) = decide (x = y) := fun x y => by
    by_cases h : x = y
    · subst h; rw [cmp_eq]; simp
    · rw [decide_eq_false h]
      simp only [beq_eq_false_iff_ne, ne_eq]
      intro h2; exact h (cmp_zero.1 h2)
  by_cases g1 : ng p = ng q
  · have e1 : (ng p == ng q) = true := by rw [g1]; simp
    by_cases g2 : nm p = nm q
    · have e2 : (cmpI (nm p) (nm q) == 0) = true := by rw [hcz]; exact decide_eq_true g2
      have e3 : (cmpI p.den q.den == 0) = decide (p = q) := by
        rw [hcz]
        by_cases g3 : p.den = q.den
        · rw [decide_eq_true g3, decide_eq_true (rat_ext g1 g2 g3)]
        · rw [decide_eq_false g3, decide_eq_false (fun h => g3 (by rw [h]))]
      generalize decide (p = q) = bb at *
      clear g1 g2 hcz
      go_enter Try.func33, Try.ntmps33
      have iN := HN.out; have iD := HD.out; have iN' := HN'.out; have iD' := HD'.out
      go_wp2_with (go_at_call 61; first | (refine Calls.mono (r_cmp_v (a := nm p) (b := nm q) (by omega) (by omega)) ?_; rintro e w1 ⟨rfl, hk1⟩; have u1 := Kept.chain hk1; have h1 := Kept.row hk1 (Kept.row (Kept.alloc _ _) (row_new w _ _)); have h2 := Kept.row hk1 (row_newAt (g := w.heap.size + 1) _ _ _ (by simp)); obtain ⟨c0, c1, c2, _, _, _⟩ := three h1; obtain ⟨d0, d1, d2, _, _, _⟩ := three h2; have HK1 := Lib.hid hk1; clear hk1 h1 h2) | (refine Calls.mono (r_cmp_v (a := p.den) (b := q.den) (by omega) (by omega)) ?_; rintro e w2 ⟨rfl, hk2⟩; have HK2 := Lib.hid hk2; clear hk2))
      go_ret
      exact ⟨rfl, Kept.then (Kept.then (Kept.alloc _ _) (Kept.alloc _ _)) (Kept.then HK1.out HK2.out)⟩
    · have e2 : (cmpI (nm p) (nm q) == 0) = false := by rw [hcz]; exact decide_eq_false g2
      rw [decide_eq_false (fun h : p = q => g2 (by rw [h]))]
      clear g1 g2 hcz
      go_enter Try.func33, Try.ntmps33
      have iN := HN.out; have iD := HD.out; have iN' := HN'.out; have iD' := HD'.out
      go_wp2_with (go_at_call 61; (refine Calls.mono (r_cmp_v (a := nm p) (b := nm q) (by omega) (by omega)) ?_; rintro e w1 ⟨rfl, hk1⟩; have HK1 := Lib.hid hk1; clear hk1))
      go_ret
      exact ⟨rfl, Kept.then (Kept.then (Kept.alloc _ _) (Kept.alloc _ _)) HK1.out⟩
  · have e1 : (ng p == ng q) = false := by simpa using g1
    rw [decide_eq_false (fun h : p = q => g1 (by rw [h]))]
    clear g1 hcz
    go_enter Try.func33, Try.ntmps33
    go_wp2
    go_ret
    exact ⟨rfl, Kept.then (Kept.alloc _ _) (Kept.alloc _ _)⟩
end Go.Proofs.Ytpclkgjhfhhddaa.V
/- The document's rational numbers: walks: quotients. -/
namespace Go.Proofs.Ytpclkgjhfhhddaa.V
open Go Go.RowKit Go.Proofs.Ytpclkgjhfhhddaa.PN
set_option linter.unusedVariables false
set_option linter.unusedSimpArgs false
end Go.Proofs.Ytpclkgjhfhhddaa.V
/- The document's rational numbers: walks: sums. -/
namespace Go.Proofs.Ytpclkgjhfhhddaa.V
open Go Go.RowKit Go.Proofs.Ytpclkgjhfhhddaa.PN
set_option linter.unusedVariables false
set_option linter.unusedSimpArgs false
set_option maxHeartbeats 4000000 in
theorem s_add {w : World} {s s' : Bool} {vn vd vn' vd' : Value} {p q : Rat} [hp : RatAt w s vn vd p] [hq : RatAt w s' vn' vd' q] (hs : wt p ≤ 15000) (hs' : wt q ≤ 15000) :
    Calls Try.prog 34 #[.agg #[.bool s, vn, vd], .agg #[.bool s', vn', vd']] w (MadeRat w (p + q)) := by
  obtain ⟨rfl, hn, hd⟩ := hp.out
  obtain ⟨rfl, hn', hd'⟩ := hq.out
  obtain ⟨An, cn, rfl, _, _⟩ := hn.at
  obtain ⟨Ad, cd, rfl, _, _⟩ := hd.at
  obtain ⟨An', cn', rfl, _, _⟩ := hn'.at
  obtain ⟨Ad', cd', rfl, _, _⟩ := hd'.at
  have HN := Lib.hid (NatS.lift hn); have HD := Lib.hid (NatS.lift hd); have HN' := Lib.hid (NatS.lift hn'); have HD' := Lib.hid (NatS.lift hd')
  clear hn hd hn' hd' hp hq
  have b1 := wt_num p; have b2 := wt_den p; have b3 := wt_num q; have b4 := wt_den q
  have b5 := size_mul (nm p) q.den; have b6 := size_mul (nm q) p.den; have b7 := size_mul p.den q.den
  have b8 := size_add (nm p * q.den) (nm q * p.den) 30000 (by omega) (by omega)
  have hz := Nat.mul_ne_zero p.den_nz q.den_nz
  have HZ := Lib.hid hz; clear hz
  by_cases hng : ng p = ng q
  · have hb : (ng p == ng q) = true := by rw [hng]; simp
    rw [add_parts_same _ _ hng]
    clear hng
    go_enter Try.func34, Try.ntmps34
    have iN := HN.out; have iD := HD.out; have iN' := HN'.out; have iD' := HD'.out
    go_wp2
    go_region_held3 (fun w' => Kept w w' ∧ w'.cell? ⟨w.heap.size, 0, none⟩ = some (.bool (ng p)) ∧ w'.cell? ⟨w.heap.size, 1, none⟩ = some (Value.slice An (size (nm p)) cn) ∧ w'.cell? ⟨w.heap.size, 2, none⟩ = some (Value.slice Ad (size p.den) cd) ∧ w'.cell? ⟨w.heap.size + 1, 0, none⟩ = some (.bool (ng q)) ∧ w'.cell? ⟨w.heap.size + 1, 1, none⟩ = some (Value.slice An' (size (nm q)) cn') ∧ w'.cell? ⟨w.heap.size + 1, 2, none⟩ = some (Value.slice Ad' (size q.den) cd'))
      (first | exact two_step (by assumption) (by assumption) | assumption | (refine ⟨Kept.three _ _ _ _, ?_⟩; simp [go_sem, World.cell?_alloc_past]))
      (first
        | (go_at_call 62; first | (refine Calls.mono (r_mul_v (a := nm p) (b := q.den) (by omega) (by omega)) ?_; rintro e w1 ⟨v1, rfl, hv1, hk1⟩; have i1 := NatS.lift hv1; have u1 := Kept.chain hk1) | (refine Calls.mono (r_mul_v (a := nm q) (b := p.den) (by omega) (by omega)) ?_; rintro e w2 ⟨v2, rfl, hv2, hk2⟩; have i2 := NatS.lift hv2; have u2 := Kept.chain hk2)))
    obtain ⟨hK, g0, g1, g2, g3, g4, g5⟩ := ‹Kept w w2 ∧ _›
    have hr := Kept.row hk2 (Kept.row hk1 (Kept.row (Kept.drew _) (row_newAt (g := w.heap.size + 1 + 1) _ _ _ (by simp))))
    have HR2 := Lib.hid hr; have HK2 := Lib.hid hK
    clear hk1 hk2 hv1 hv2 hr hK
    go_wp2_with (go_at_call 62; refine Calls.mono (r_mul_v (a := p.den) (b := q.den) (by omega) (by omega)) ?_; rintro e w3 ⟨v3, rfl, hv3, hk3⟩; have i3 := NatS.lift hv3; have u3 := Kept.chain hk3; have k0 := hk3.cell g0; have k3 := hk3.cell g3; have HR := Lib.hid (Kept.row hk3 HR2.out); have HK := Lib.hid (Kept.then HK2.out hk3); clear hv3 hk3)
    go_region_held3 (fun w' => Kept w w' ∧ w'.cell? ⟨w.heap.size, 0, none⟩ = some (.bool (ng p)))
      (first | exact one_step (by assumption) (by assumption) | exact one_set (by assumption) (by omega) (by omega) | assumption | exact ⟨Kept.then HK.out (Kept.drew _), k0⟩)
      (first
        | (go_at_call 64; refine Calls.mono (r_add_v (a := nm p * q.den) (b := nm q * p.den) (by omega) (by omega)) ?_; rintro e w4 ⟨v4, rfl, hv4, hk4⟩; have i4 := NatS.lift hv4; have u4 := Kept.chain hk4)
        | (go_at_call 63; refine Calls.mono (s_made (n := nm p * q.den + nm q * p.den) (d := p.den * q.den) (by omega) (by omega) HZ.out) ?_; rintro e w5 ⟨s5, vn5, vd5, rfl, hq5, hk5⟩; obtain ⟨An5, cn5, rfl, _, _⟩ := hq5.2.1.at; obtain ⟨Ad5, cd5, rfl, _, _⟩ := hq5.2.2.at; have hr5 := Kept.row hk5 (Kept.row hk4 (Kept.row (Kept.drew _) HR.out)); obtain ⟨c0, c1, c2, f0, f1, f2⟩ := three hr5))
    go_wp2
    exact ret_rat rfl rfl rfl hr5 (by omega) (Kept.then HK.out (Kept.then (Kept.drew _) (Kept.then hk4 hk5))) hq5
  · have hb : (ng p == ng q) = false := by simpa using hng
    rcases Nat.lt_or_ge (nm p * q.den) (nm q * p.den) with hlt | hge
    · rw [add_parts_lt _ _ hng (Nat.le_of_lt hlt)]
      have b9 := size_le_of_le (Nat.sub_le (nm q * p.den) (nm p * q.den))
      have hc : decide (cmpI (nm p * q.den) (nm q * p.den) < 0) = true := decide_eq_true (cmp_neg.2 hlt)
      have hle := Lib.hid hlt
      clear hng hlt
      go_enter Try.func34, Try.ntmps34
      have iN := HN.out; have iD := HD.out; have iN' := HN'.out; have iD' := HD'.out
      go_wp2
      go_region_held3 (fun w' => Kept w w' ∧ w'.cell? ⟨w.heap.size, 0, none⟩ = some (.bool (ng p)) ∧ w'.cell? ⟨w.heap.size, 1, none⟩ = some (Value.slice An (size (nm p)) cn) ∧ w'.cell? ⟨w.heap.size, 2, none⟩ = some (Value.slice Ad (size p.den) cd) ∧ w'.cell? ⟨w.heap.size + 1, 0, none⟩ = some (.bool (ng q)) ∧ w'.cell? ⟨w.heap.size + 1, 1, none⟩ = some (Value.slice An' (size (nm q)) cn') ∧ w'.cell? ⟨w.heap.size + 1, 2, none⟩ = some (Value.slice Ad' (size q.den) cd'))
        (first | exact two_step (by assumption) (by assumption) | assumption | (refine ⟨Kept.three _ _ _ _, ?_⟩; simp [go_sem, World.cell?_alloc_past]))
        (first
          | (go_at_call 62; first | (refine Calls.mono (r_mul_v (a := nm p) (b := q.den) (by omega) (by omega)) ?_; rintro e w1 ⟨v1, rfl, hv1, hk1⟩; have i1 := NatS.lift hv1; have u1 := Kept.chain hk1) | (refine Calls.mono (r_mul_v (a := nm q) (b := p.den) (by omega) (by omega)) ?_; rintro e w2 ⟨v2, rfl, hv2, hk2⟩; have i2 := NatS.lift hv2; have u2 := Kept.chain hk2)))
      obtain ⟨hK, g0, g1, g2, g3, g4, g5⟩ := ‹Kept w w2 ∧ _›
      have hr := Kept.row hk2 (Kept.row hk1 (Kept.row (Kept.drew _) (row_newAt (g := w.heap.size + 1 + 1) _ _ _ (by simp))))
      have HR2 := Lib.hid hr; have HK2 := Lib.hid hK
      clear hk1 hk2 hv1 hv2 hr hK
      go_wp2_with (first
        | (go_at_call 62; refine Calls.mono (r_mul_v (a := p.den) (b := q.den) (by omega) (by omega)) ?_; rintro e w3 ⟨v3, rfl, hv3, hk3⟩; have i3 := NatS.lift hv3; have u3 := Kept.chain hk3; have k0 := hk3.cell g0; have k3 := hk3.cell g3; have HR := Lib.hid (Kept.row hk3 HR2.out); have HK := Lib.hid (Kept.then HK2.out hk3); clear hv3 hk3)
        | (go_at_call 61; refine Calls.mono (r_cmp_v (a := nm p * q.den) (b := nm q * p.den) (by omega) (by omega)) ?_; rintro e w4 ⟨rfl, hk4⟩; have u4 := Kept.chain hk4; have m4 := hk4.cell k3; have HK4 := Lib.hid hk4; clear hk4)
        | (go_at_call 65; refine Calls.mono (r_sub_v (a := nm q * p.den) (b := nm p * q.den) (by omega) (by omega) (Nat.le_of_lt hle.out)) ?_; rintro e w5 ⟨v5, rfl, hv5, hk5⟩; have i5 := NatS.lift hv5; have u5 := Kept.chain hk5; have m5 := hk5.cell m4; have HK5 := Lib.hid hk5; clear hk5 hv5)
        | (go_at_call 63; refine Calls.mono (s_made (n := nm q * p.den - nm p * q.den) (d := p.den * q.den) (by omega) (by omega) HZ.out) ?_; rintro e w6 ⟨s6, vn6, vd6, rfl, hq6, hk6⟩; obtain ⟨An6, cn6, rfl, _, _⟩ := hq6.2.1.at; obtain ⟨Ad6, cd6, rfl, _, _⟩ := hq6.2.2.at; have hr6 := Kept.row hk6 (Kept.row HK5.out (Kept.row HK4.out HR.out)); obtain ⟨c0, c1, c2, f0, f1, f2⟩ := three hr6; have HQ6 := Lib.hid hq6; have HK6 := Lib.hid hk6; have HR6 := Lib.hid hr6; clear hq6 hk6 hr6))
      exact ret_rat rfl rfl rfl HR6.out (by omega) (Kept.then HK.out (Kept.then HK4.out (Kept.then HK5.out HK6.out))) HQ6.out
    · rw [add_parts_ge _ _ hng hge]
      have b9 := size_le_of_le (Nat.sub_le (nm p * q.den) (nm q * p.den))
      have hc : decide (cmpI (nm p * q.den) (nm q * p.den) < 0) = false := decide_eq_false (fun h => by have := cmp_neg.1 h; omega)
      have hle := Lib.hid hge
      clear hng hge
      go_enter Try.func34, Try.ntmps34
      have iN := HN.out; have iD := HD.out; have iN' := HN'.out; have iD' := HD'.out
      go_wp2
      go_region_held3 (fun w' => Kept w w' ∧ w'.cell? ⟨w.heap.size, 0, none⟩ = some (.bool (ng p)) ∧ w'.cell? ⟨w.heap.size, 1, none⟩ = some (Value.slice An (size (nm p)) cn) ∧ w'.cell? ⟨w.heap.size, 2, none⟩ = some (Value.slice Ad (size p.den) cd) ∧ w'.cell? ⟨w.heap.size + 1, 0, none⟩ = some (.bool (ng q)) ∧ w'.cell? ⟨w.heap.size + 1, 1, none⟩ = some (Value.slice An' (size (nm q)) cn') ∧ w'.cell? ⟨w.heap.size + 1, 2, none⟩ = some (Value.slice Ad' (size q.den) cd'))
        (first | exact two_step (by assumption) (by assumption) | assumption | (refine ⟨Kept.three _ _ _ _, ?_⟩; simp [go_sem, World.cell?_alloc_past]))
        (first
          | (go_at_call 62; first | (refine Calls.mono (r_mul_v (a := nm p) (b := q.den) (by omega) (by omega)) ?_; rintro e w1 ⟨v1, rfl, hv1, hk1⟩; have i1 := NatS.lift hv1; have u1 := Kept.chain hk1) | (refine Calls.mono (r_mul_v (a := nm q) (b := p.den) (by omega) (by omega)) ?_; rintro e w2 ⟨v2, rfl, hv2, hk2⟩; have i2 := NatS.lift hv2; have u2 := Kept.chain hk2)))
      obtain ⟨hK, g0, g1, g2, g3, g4, g5⟩ := ‹Kept w w2 ∧ _›
      have hr := Kept.row hk2 (Kept.row hk1 (Kept.row (Kept.drew _) (row_newAt (g := w.heap.size + 1 + 1) _ _ _ (by simp))))
      have HR2 := Lib.hid hr; have HK2 := Lib.hid hK
      clear hk1 hk2 hv1 hv2 hr hK
      go_wp2_with (first
        | (go_at_call 62; refine Calls.mono (r_mul_v (a := p.den) (b := q.den) (by omega) (by omega)) ?_; rintro e w3 ⟨v3, rfl, hv3, hk3⟩; have i3 := NatS.lift hv3; have u3 := Kept.chain hk3; have k0 := hk3.cell g0; have k3 := hk3.cell g3; have HR := Lib.hid (Kept.row hk3 HR2.out); have HK := Lib.hid (Kept.then HK2.out hk3); clear hv3 hk3)
        | (go_at_call 61; refine Calls.mono (r_cmp_v (a := nm p * q.den) (b := nm q * p.den) (by omega) (by omega)) ?_; rintro e w4 ⟨rfl, hk4⟩; have u4 := Kept.chain hk4; have m4 := hk4.cell k0; have HK4 := Lib.hid hk4; clear hk4)
        | (go_at_call 65; refine Calls.mono (r_sub_v (a := nm p * q.den) (b := nm q * p.den) (by omega) (by omega) hle.out) ?_; rintro e w5 ⟨v5, rfl, hv5, hk5⟩; have i5 := NatS.lift hv5; have u5 := Kept.chain hk5; have m5 := hk5.cell m4; have HK5 := Lib.hid hk5; clear hk5 hv5)
        | (go_at_call 63; refine Calls.mono (s_made (n := nm p * q.den - nm q * p.den) (d := p.den * q.den) (by omega) (by omega) HZ.out) ?_; rintro e w6 ⟨s6, vn6, vd6, rfl, hq6, hk6⟩; obtain ⟨An6, cn6, rfl, _, _⟩ := hq6.2.1.at; obtain ⟨Ad6, cd6, rfl, _, _⟩ := hq6.2.2.at; have hr6 := Kept.row hk6 (Kept.row HK5.out (Kept.row HK4.out HR.out)); obtain ⟨c0, c1, c2, f0, f1, f2⟩ := three hr6; have HQ6 := Lib.hid hq6; have HK6 := Lib.hid hk6; have HR6 := Lib.hid hr6; clear hq6 hk6 hr6))
      exact ret_rat rfl rfl rfl HR6.out (by omega) (Kept.then HK.out (Kept.then HK4.out (Kept.then HK5.out HK6.out))) HQ6.out
end Go.Proofs.Ytpclkgjhfhhddaa.V

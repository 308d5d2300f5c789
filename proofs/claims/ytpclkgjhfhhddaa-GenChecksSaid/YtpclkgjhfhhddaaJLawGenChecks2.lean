/- Joined texts, 2: NatL PDiv NatK NatM RatA. -/
import Derived.Test.YtpclkgjhfhhddaaJLawGenChecks0
import Derived.Test.YtpclkgjhfhhddaaJLawGenChecks1
import Derived.Laws.CopyOwn
set_option linter.unusedVariables false
set_option linter.unusedSimpArgs false
/- Limbs: walks: how many binary digits a limb has. -/
namespace Go.Proofs.Ytpclkgjhfhhddaa.V
open Go Go.RowKit Go.Proofs.Ytpclkgjhfhhddaa.PN
set_option linter.unusedVariables false
set_option linter.unusedSimpArgs false
/-- Of each byte how many binary digits it has. -/
def tab : ByteArray := ⟨#[0, 1, 2, 2, 3, 3, 3, 3, 4, 4, 4, 4, 4, 4, 4, 4, 5, 5, 5, 5, 5, 5, 5, 5, 5, 5, 5, 5, 5, 5, 5, 5, 6, 6, 6, 6, 6, 6, 6, 6, 6, 6, 6, 6, 6, 6, 6, 6, 6, 6, 6, 6, 6, 6, 6, 6, 6, 6, 6, 6, 6, 6, 6, 6, 7, 7, 7, 7, 7, 7, 7, 7, 7, 7, 7, 7, 7, 7, 7, 7, 7, 7, 7, 7, 7, 7, 7, 7, 7, 7, 7, 7, 7, 7, 7, 7, 7, 7, 7, 7, 7, 7, 7, 7, 7, 7, 7, 7, 7, 7, 7, 7, 7, 7, 7, 7, 7, 7, 7, 7, 7, 7, 7, 7, 7, 7, 7, 7, 8, 8, 8, 8, 8, 8, 8, 8, 8, 8, 8, 8, 8, 8, 8, 8, 8, 8, 8, 8, 8, 8, 8, 8, 8, 8, 8, 8, 8, 8, 8, 8, 8, 8, 8, 8, 8, 8, 8, 8, 8, 8, 8, 8, 8, 8, 8, 8, 8, 8, 8, 8, 8, 8, 8, 8, 8, 8, 8, 8, 8, 8, 8, 8, 8, 8, 8, 8, 8, 8, 8, 8, 8, 8, 8, 8, 8, 8, 8, 8, 8, 8, 8, 8, 8, 8, 8, 8, 8, 8, 8, 8, 8, 8, 8, 8, 8, 8, 8, 8, 8, 8, 8, 8, 8, 8, 8, 8, 8, 8, 8, 8, 8, 8, 8, 8, 8, 8, 8, 8, 8, 8, 8, 8, 8, 8, 8, 8]⟩
set_option maxRecDepth 100000 in
theorem tab_size : tab.size = 256 := by decide +kernel
set_option maxRecDepth 100000 in
theorem tab_ok : ∀ i, i < 256 → (tab.data.toList.getD i 0).toNat ≤ 8 ∧ i < 2 ^ (tab.data.toList.getD i 0).toNat := by decide +kernel
theorem tab_get (i : Nat) (h : i < tab.size) : tab[i]'h = tab.data.toList.getD i 0 := by
  have h' : i < tab.data.size := h
  show tab.data[i] = _
  rw [List.getD_eq_getElem?_getD, Array.getElem?_toList, Array.getElem?_eq_getElem h', Option.getD_some]
theorem tab_end (i b x : Nat) (h : i < tab.size) (hx : x < (i + 1) * 2 ^ b) (hb : b ≤ 24) :
    ∃ n : Nat, b + (tab[i]'h).toNat = n ∧ n ≤ 32 ∧ x < 2 ^ n := by
  obtain ⟨h1, h2⟩ := tab_ok i (by rw [tab_size] at h; exact h)
  rw [tab_get i h]
  generalize (tab.data.toList.getD i 0).toNat = m at *
  refine ⟨b + m, rfl, by omega, ?_⟩
  refine Nat.lt_of_lt_of_le hx ?_
  rw [Nat.pow_add, Nat.mul_comm (2 ^ b)]
  exact Nat.mul_le_mul_right _ h2
theorem tab_ret (t : ByteArray) (ht : t = tab) (i b x : Nat) (h : i < t.size) (hx : x < (i + 1) * 2 ^ b) (hb : b ≤ 24) (y z : Int) (hy : y = b) (hz : z = (t[i]'h).toNat) :
    ∃ n : Nat, Ending.returned (Value.int .i64 (wrap64 (y + wrap64 z))) = .returned (.int .i64 (n : Int)) ∧ n ≤ 32 ∧ x < 2 ^ n := by
  subst ht
  obtain ⟨n, h1, h2, h3⟩ := tab_end i b x h hx hb
  refine ⟨n, ?_, h2, h3⟩
  rw [hy, hz, IntWalk.wrap64_in (((tab[i]'h).toNat : Nat) : Int) (by omega), IntWalk.wrap64_in _ (by omega), ← h1]
  rfl
set_option maxRecDepth 20000 in
set_option maxHeartbeats 4000000 in
theorem len_any (x : Nat) (w : World) (hx : x < 4294967296) : Calls Try.prog 124 #[.int .u32 (x : Int)] w fun e w' => (∃ n : Nat, e = .returned (.int .i64 (n : Int)) ∧ n ≤ 32 ∧ x < 2 ^ n) ∧ w = w' := by
  have hsz := tab_size
  go_enter Try.func124, Try.ntmps124
  generalize hs : Value.string (ByteArray.mk _) = s
  have hs' : s = Value.string tab := by
    rw [← hs]
    kernel_rfl
  clear hs
  obtain ⟨t, ht⟩ : ∃ t, t = tab := ⟨_, rfl⟩
  rw [← ht] at hsz hs'
  have HT := Lib.hid ht
  clear ht
  subst hs'
  by_cases h1 : 65536 ≤ x
  · obtain ⟨y, hy⟩ : ∃ y, x / 65536 = y := ⟨_, rfl⟩
    have y1 : (x : Int) / 65536 = (y : Int) := by omega
    have b1 : decide ((65536 : Int) ≤ (x : Int)) = true := decide_eq_true (by omega)
    have HY : Hid (x / 65536 = y ∧ y < 65536) := ⟨hy, by omega⟩
    clear hy h1
    by_cases h2 : 256 ≤ y
    · obtain ⟨z, hz⟩ : ∃ z, y / 256 = z := ⟨_, rfl⟩
      have z1 : (y : Int) / 256 = (z : Int) := by omega
      have b2 : decide ((256 : Int) ≤ (y : Int)) = true := decide_eq_true (by omega)
      have hz1 : z < 256 := by have := HY.out; omega
      have HZ := Lib.hid hz
      clear hz h2
      go_wp2
      go_ret
      exact ⟨tab_ret t HT.out z 24 x (by omega) (by have := HY.out; have := HZ.out; omega) (by omega) 24 _ rfl rfl, rfl⟩
    · have b2 : decide ((256 : Int) ≤ (y : Int)) = false := decide_eq_false (by omega)
      have hy1 : y < 256 := by omega
      clear h2
      go_wp2
      go_ret
      exact ⟨tab_ret t HT.out y 16 x (by omega) (by have := HY.out; omega) (by omega) 16 _ rfl rfl, rfl⟩
  · have b1 : decide ((65536 : Int) ≤ (x : Int)) = false := decide_eq_false (by omega)
    have HX : Hid (x < 65536) := by show _ < _; omega
    clear h1
    by_cases h2 : 256 ≤ x
    · obtain ⟨z, hz⟩ : ∃ z, x / 256 = z := ⟨_, rfl⟩
      have z1 : (x : Int) / 256 = (z : Int) := by omega
      have b2 : decide ((256 : Int) ≤ (x : Int)) = true := decide_eq_true (by omega)
      have hz1 : z < 256 := by have := HX.out; omega
      have HZ := Lib.hid hz
      clear hz h2
      go_wp2
      go_ret
      exact ⟨tab_ret t HT.out z 8 x (by omega) (by have := HZ.out; omega) (by omega) 8 _ rfl rfl, rfl⟩
    · have b2 : decide ((256 : Int) ≤ (x : Int)) = false := decide_eq_false (by omega)
      have hx1 : x < 256 := by omega
      clear h2
      go_wp2
      go_ret
      have hr := tab_ret t HT.out x 0 x (by omega) (by omega) (by omega) 0 ((t[x]'(by omega)).toNat : Int) rfl rfl
      rw [Int.zero_add] at hr
      exact ⟨hr, rfl⟩
set_option maxHeartbeats 1000000 in
theorem lead_any (x : Nat) (w : World) (hx : x < 4294967296) (h0 : 0 < x) : Calls Try.prog 117 #[.int .u32 (x : Int)] w fun e w' => (∃ k : Nat, e = .returned (.int .i64 (k : Int)) ∧ k < 32 ∧ x * 2 ^ k < 4294967296) ∧ w = w' := by
  go_enter Try.func117, Try.ntmps117
  go_wp2_with (go_at_call 124; refine (len_any x _ hx).mono ?_; rintro e w' ⟨⟨n, rfl, hn, hlt⟩, rfl⟩; have HL := Lib.hid hlt; clear hlt)
  go_ret
  have h1 := HL.out
  have h2 : 0 < n := by
    rcases Nat.eq_zero_or_pos n with h | h
    · subst h; omega
    · exact h
  refine ⟨⟨32 - n, congrArg Ending.returned (int_eq (by omega)), by omega, ?_⟩, rfl⟩
  have : x * 2 ^ (32 - n) < 2 ^ n * 2 ^ (32 - n) := Nat.mul_lt_mul_of_pos_right h1 (Nat.pow_pos (by decide))
  rw [← Nat.pow_add, show n + (32 - n) = 32 by omega] at this
  exact this
end Go.Proofs.Ytpclkgjhfhhddaa.V
/- A long quotient, a limb at a time: what each round does. -/
namespace Go.Proofs.Ytpclkgjhfhhddaa.PN
set_option linter.unusedVariables false
theorem shl_size {b k : Nat} (hb : b ≠ 0) (hk : k ≤ 32) (ht : dig b (size b - 1) * 2 ^ k < B) : size (b * 2 ^ k) = size b := by
  have hp := size_pos hb
  obtain ⟨n, hn⟩ : ∃ n, size b = n + 1 := ⟨size b - 1, by omega⟩
  rw [hn, Nat.add_sub_cancel] at ht
  have hlt := lt_size b
  rw [hn] at hlt
  have h2 : 0 < 2 ^ k := Nat.pow_pos (by decide)
  have hup : b * 2 ^ k < B ^ (n + 1) := by
    have h1 : b < (dig b n + 1) * B ^ n := by
      rw [top_eq hlt, ← Nat.div_lt_iff_lt_mul (Bp n)]; omega
    have h3 : (dig b n + 1) * 2 ^ k ≤ B := by
      rw [B_split hk] at ht ⊢
      have := Nat.lt_of_mul_lt_mul_right ht
      exact Nat.mul_le_mul_right _ this
    calc b * 2 ^ k < (dig b n + 1) * B ^ n * 2 ^ k := Nat.mul_lt_mul_of_pos_right h1 h2
      _ = B ^ n * ((dig b n + 1) * 2 ^ k) := by rw [Nat.mul_assoc, Nat.mul_comm (B ^ n), ← Nat.mul_assoc, Nat.mul_comm]
      _ ≤ B ^ n * B := Nat.mul_le_mul_left _ h3
      _ = B ^ (n + 1) := by rw [Nat.pow_succ]
  have h1 := (lt_iff _ _).1 hup
  have h3 := size_le_of_le (Nat.le_mul_of_pos_right b h2)
  omega
/-- Limbs that are a number's, noughts behind them. -/
def Dl (xs : List Nat) (M U : Nat) : Prop := xs.length = M ∧ ∀ j, j < M → xs.getD j 0 = dig U j
theorem dig_div (U j t : Nat) : dig (U / B ^ j) t = dig U (j + t) := by unfold dig; rw [Nat.div_div_eq_div_mul, ← Nat.pow_add]
theorem mod_split (U V j : Nat) : U % (V * B ^ j) = U % B ^ j + B ^ j * (U / B ^ j % V) := by rw [Nat.mul_comm, Nat.mod_mul]
theorem Dl.next {xs xs' : List Nat} {M U V j n : Nat} (h : Dl xs M U) (hl : xs'.length = M) (hV : V < B ^ n) (hV0 : 0 < V) (hU : U < V * B ^ (j + 1))
    (hx : ∀ p, p < M → xs'.getD p 0 = if j ≤ p ∧ p < j + (n + 1) then dig (U / B ^ j % V) (p - j) else xs.getD p 0) : Dl xs' M (U % (V * B ^ j)) := by
  refine ⟨hl, fun p hp => ?_⟩
  rw [hx p hp, mod_split]
  by_cases h1 : j ≤ p ∧ p < j + (n + 1)
  · rw [if_pos h1]
    obtain ⟨t, rfl⟩ : ∃ t, p = j + t := ⟨p - j, by omega⟩
    rw [dig_shift (mod_lt U j), show j + t - j = t by omega]
  · rw [if_neg h1, h.2 p hp]
    rcases Nat.lt_or_ge p j with h2 | h2
    · rw [dig_low h2]
      conv => lhs; rw [split U j, dig_low h2]
    · obtain ⟨t, rfl⟩ : ∃ t, p = j + t := ⟨p - j, by omega⟩
      rw [dig_shift (mod_lt U j)]
      have hT : U / B ^ j % V < B ^ t := Nat.lt_of_lt_of_le (Nat.lt_trans (Nat.mod_lt _ hV0) hV) (Nat.pow_le_pow_right (by decide) (by omega))
      rw [dig_zero hT]
      refine dig_zero (Nat.lt_of_lt_of_le hU ?_)
      have h3 : V * B ^ (j + 1) ≤ B ^ n * B ^ (j + 1) := Nat.mul_le_mul_right _ (Nat.le_of_lt hV)
      rw [← Nat.pow_add] at h3
      exact Nat.le_trans h3 (Nat.pow_le_pow_right (by decide) (by omega))
/-- What is taken away once too often is given back. -/
theorem take_split {T V q n : Nat} (hV0 : 0 < V) (hV : V < B ^ n) (hT : T < B ^ (n + 1)) (hq : T / V = q ∨ T / V + 1 = q) :
    ∃ bw R, bw ≤ 1 ∧ R < B ^ (n + 1) ∧ T + B ^ (n + 1) * bw = q * V + R ∧ q = T / V + bw ∧ (bw = 0 → R = T % V) ∧ (bw = 1 → R + V = B ^ (n + 1) + T % V) := by
  have hm := Nat.div_add_mod T V
  have hr := Nat.mod_lt T hV0
  have hle : B ^ n ≤ B ^ (n + 1) := Nat.pow_le_pow_right (by decide) (by omega)
  rcases hq with h | h
  · refine ⟨0, T % V, by omega, by omega, ?_, by omega, fun _ => rfl, fun e => by omega⟩
    rw [← h, Nat.mul_comm (T / V)]; omega
  · refine ⟨1, B ^ (n + 1) + T % V - V, by omega, by omega, ?_, by omega, fun e => by omega, fun _ => by omega⟩
    rw [← h, Nat.add_mul, Nat.mul_comm (T / V)]; omega
theorem guess_near {T V n q : Nat} (hn : 2 ≤ n) (hV : V < B ^ n) (hV1 : B ^ (n - 1) ≤ V) (hT : T < V * B)
    (hqB : q < B) (hq : q * (dig V (n - 1) * B + dig V (n - 2)) ≤ (dig T n * B + dig T (n - 1)) * B + dig T (n - 2))
    (hbest : ∀ r, r < B → r * (dig V (n - 1) * B + dig V (n - 2)) ≤ (dig T n * B + dig T (n - 1)) * B + dig T (n - 2) → r ≤ q) : T / V = q ∨ T / V + 1 = q := by
  obtain ⟨m, rfl⟩ : ∃ m, n = m + 2 := ⟨n - 2, by omega⟩
  have e1 : m + 2 - 1 = m + 1 := by omega
  have e2 : m + 2 - 2 = m := by omega
  rw [e1] at *
  rw [e2] at *
  have hTB : T < B ^ (m + 3) := by
    rw [show m + 3 = (m + 2) + 1 by omega, Nat.pow_succ]
    exact Nat.lt_of_lt_of_le hT (Nat.mul_le_mul_right _ (Nat.le_of_lt hV))
  have v1 : V / B ^ m = dig V (m + 1) * B + dig V m := by
    rw [div_succ V m, top_eq (n := m + 1) hV]
  have t1 : T / B ^ m = (dig T (m + 2) * B + dig T (m + 1)) * B + dig T m := by
    rw [div_succ T m, div_succ T (m + 1), top_eq (n := m + 2) hTB]
  have hVs : V = (V / B ^ m) * B ^ m + V % B ^ m := by have := split V m; rw [Nat.mul_comm] at this; omega
  have hTs : T = (T / B ^ m) * B ^ m + T % B ^ m := by have := split T m; rw [Nat.mul_comm] at this; omega
  rw [v1] at hVs
  rw [t1] at hTs
  exact guess_good hVs (mod_lt V m) hTs (mod_lt T m) hq hbest hqB hT (by rw [← Nat.pow_succ]; exact hV1)
theorem top_le {T V n : Nat} (hn : 1 ≤ n) (hV : V < B ^ n) (hT : T < V * B) : dig T n ≤ dig V (n - 1) := by
  obtain ⟨m, rfl⟩ : ∃ m, n = m + 1 := ⟨n - 1, by omega⟩
  rw [Nat.add_sub_cancel, top_eq hV]
  refine Nat.le_trans (Nat.mod_le _ _) ?_
  rw [Nat.le_div_iff_mul_le (Bp m)]
  have h1 : T / B ^ (m + 1) * B ^ (m + 1) ≤ T := Nat.div_mul_le_self _ _
  have h2 : T / B ^ (m + 1) * B ^ m * B < V * B := by rw [Nat.mul_assoc, ← Nat.pow_succ]; exact Nat.lt_of_le_of_lt h1 hT
  exact Nat.le_of_lt (Nat.lt_of_mul_lt_mul_right h2)
/-- The quotient's limb. -/
theorem quo_limb (A V j : Nat) (hV : 0 < V) : A % (V * B ^ (j + 1)) / B ^ j / V = dig (A / V) j := by
  rw [Nat.div_div_eq_div_mul, Nat.mul_comm (B ^ j) V, Nat.pow_succ, ← Nat.mul_assoc, Nat.mod_mul_right_div_self, ← Nat.div_div_eq_div_mul]
  rfl
theorem rem_next (A V j : Nat) : A % (V * B ^ (j + 1)) % (V * B ^ j) = A % (V * B ^ j) := by
  apply Nat.mod_mod_of_dvd
  rw [Nat.pow_succ, ← Nat.mul_assoc]; exact Nat.dvd_mul_right _ _
/-- One round: where the remainder stands, by the divisor V, so many limbs left. -/
structure DivAt (A V n M j : Nat) (xs : List Nat) : Prop where
  two : 2 ≤ n
  V0 : 0 < V
  Vlt : V < B ^ n
  Vge : B ^ (n - 1) ≤ V
  dl : Dl xs M (A % (V * B ^ j))
/-- The part of the remainder that a round looks at. -/
def Tp (A V j : Nat) : Nat := A % (V * B ^ (j + 1)) / B ^ j
theorem Tp_lt {A V n M j : Nat} {xs : List Nat} (h : DivAt A V n M (j + 1) xs) : Tp A V j < V * B := by
  unfold Tp
  rw [Nat.div_lt_iff_lt_mul (Bp j), Nat.mul_assoc, Nat.mul_comm B, ← Nat.pow_succ]
  exact Nat.mod_lt _ (Nat.mul_pos h.V0 (Bp _))
theorem Tp_lt' {A V n M j : Nat} {xs : List Nat} (h : DivAt A V n M (j + 1) xs) : Tp A V j < B ^ (n + 1) := by
  rw [Nat.pow_succ]
  exact Nat.lt_of_lt_of_le (Tp_lt h) (Nat.mul_le_mul_right _ (Nat.le_of_lt h.Vlt))
theorem Tp_dig {A V n M j : Nat} {xs : List Nat} (h : DivAt A V n M (j + 1) xs) {t : Nat} (ht : j + t < M) : xs.getD (j + t) 0 = dig (Tp A V j) t := by
  rw [h.dl.2 _ ht]; unfold Tp; rw [dig_div]
theorem Tp_quo {A V n M j : Nat} {xs : List Nat} (h : DivAt A V n M (j + 1) xs) : Tp A V j / V = dig (A / V) j := quo_limb A V j h.V0
theorem DivAt.next {A V n M j : Nat} {xs xs' : List Nat} (h : DivAt A V n M (j + 1) xs) (hl : xs'.length = M)
    (hx : ∀ p, p < M → xs'.getD p 0 = if j ≤ p ∧ p < j + (n + 1) then dig (Tp A V j % V) (p - j) else xs.getD p 0) : DivAt A V n M j xs' := by
  refine ⟨h.two, h.V0, h.Vlt, h.Vge, ?_⟩
  rw [← rem_next]
  exact Dl.next h.dl hl h.Vlt h.V0 (Nat.mod_lt _ (Nat.mul_pos h.V0 (Bp _))) hx
theorem quo_set {a b j M x : Nat} {ys : List Nat} (h : ys.length = M ∧ ∀ t, j + 1 ≤ t → t < M → ys.getD t 0 = dig (a / b) t) (hj : j < M) (hx : x = dig (a / b) j) :
    (ys.set j x).length = M ∧ ∀ t, j ≤ t → t < M → (ys.set j x).getD t 0 = dig (a / b) t := by
  have hl := h.1
  refine ⟨by rw [List.length_set, hl], fun t ht hM => ?_⟩
  by_cases e : t = j
  · subst e; rw [hx]; simp [hl, hM]
  · have := h.2 t (by omega) hM
    simp only [List.getD_eq_getElem?_getD, List.getElem?_set] at this ⊢
    rw [if_neg (fun e' => e e'.symm)]; exact this
/-- What the shift ahead of a long quotient brings. -/
structure DivIn (a b k : Nat) : Prop where
  sV : size (b * 2 ^ k) = size b
  V0 : 0 < b * 2 ^ k
  sA : size (a * 2 ^ k) ≤ size a + 1
  Alt : a * 2 ^ k < B ^ (size a + 1)
  Vge : B ^ (size b - 1) ≤ b * 2 ^ k
  quo : a * 2 ^ k / (b * 2 ^ k) = a / b
  rem : a * 2 ^ k % (b * 2 ^ k) = a % b * 2 ^ k
  start : a * 2 ^ k < b * 2 ^ k * B ^ (size a - size b + 1)
theorem div_in {a b k : Nat} (hb : b ≠ 0) (hab : b ≤ a) (hk : k < 32) (ht : dig b (size b - 1) * 2 ^ k < B) : DivIn a b k := by
  have h2 : 0 < 2 ^ k := Nat.pow_pos (by decide)
  have hAlt : a * 2 ^ k < B ^ (size a + 1) := by
    rw [Nat.pow_succ]
    exact Nat.mul_lt_mul_of_lt_of_le (lt_size a) (Nat.le_trans (Nat.pow_le_pow_right (by decide) (Nat.le_of_lt hk)) (by decide)) (by decide)
  have hge := ge_size hb
  have hp := size_pos hb
  have hs := size_le_of_le hab
  refine ⟨shl_size hb (by omega) ht, Nat.mul_pos (by omega) h2, (lt_iff _ _).1 hAlt, hAlt, Nat.le_trans hge (Nat.le_mul_of_pos_right b h2), Nat.mul_div_mul_right _ _ h2, Nat.mul_mod_mul_right _ _ _, ?_⟩
  have h3 : B ^ size a ≤ b * B ^ (size a - size b + 1) := by
    refine Nat.le_trans ?_ (Nat.mul_le_mul_right _ hge)
    rw [← Nat.pow_add]
    exact Nat.pow_le_pow_right (by decide) (by omega)
  calc a * 2 ^ k < b * B ^ (size a - size b + 1) * 2 ^ k := Nat.mul_lt_mul_of_pos_right (Nat.lt_of_lt_of_le (lt_size a) h3) h2
    _ = b * 2 ^ k * B ^ (size a - size b + 1) := by rw [Nat.mul_assoc, Nat.mul_comm (B ^ _), ← Nat.mul_assoc]
end Go.Proofs.Ytpclkgjhfhhddaa.PN
/- Limbs: walks: a quotient. -/
namespace Go.Proofs.Ytpclkgjhfhhddaa.V
open Go Go.RowKit Go.Proofs.Ytpclkgjhfhhddaa.PN
set_option linter.unusedVariables false
set_option linter.unusedSimpArgs false
theorem setCell_same {w : World} {g o : Nat} {cs : Array Value} {t : TypeId} {fr : Nat × Nat} {v : Value} (h : w.heap[g]? = some (.cells cs t fr)) (hv : cs[o]? = some v) : w.setCell ⟨g, o, none⟩ v = w := by
  unfold World.setCell
  have : w.heap.modify g (fun x => match x with | .cells c elem frozen => .cells (if (none : Option Nat).isSome then c else c.setIfInBounds o v) elem frozen | o => o) = w.heap := by
    apply Array.ext_getElem?
    intro i
    rw [Array.getElem?_modify]
    split
    · rename_i e
      subst e
      rw [h]
      simp only [Option.map_some, Option.isSome_none]
      congr 2
      apply Array.ext_getElem?
      intro j
      simp only [Bool.false_eq_true, if_false, Array.getElem?_setIfInBounds]
      split
      · rename_i e
        subst e
        split
        · rw [hv]
        · rename_i hn
          rw [Array.getElem?_eq_none (by omega)] at hv; cases hv
      · rfl
    · rfl
  exact congrArg (fun h => { w with heap := h }) this
theorem setCells_same {w : World} {g : Nat} {cs : Array Value} {t : TypeId} {fr : Nat × Nat} (h : w.heap[g]? = some (.cells cs t fr)) : ∀ (vs : List Value) (o : Nat), (∀ j v, vs[j]? = some v → cs[o + j]? = some v) → w.setCells g o vs = w
  | [], _, _ => rfl
  | v :: r, o, hv => by
    rw [World.setCells, setCell_same h (by have := hv 0 v rfl; simpa using this)]
    exact setCells_same h r (o + 1) (fun j u hu => by have := hv (j + 1) u (by simpa using hu); rwa [show o + 1 + j = o + (j + 1) by omega])
theorem zero_u32 (w : World) : (zeroValue U32).run Try.prog w = .ok (.int .u32 0) w := by kernel_rfl
/-- Noughts cleared. -/
theorem clear_same {w : World} {g n : Nat} (h : Lb w g (List.replicate n 0)) (hn : 0 < n) : ∀ ty, (Builtin.clear_ #[41] ty #[.slice (some ⟨g, 0, none⟩) n n]).run Try.prog w = .ok (.tuple #[]) w := by
  intro ty
  rw [Lib.run_clear_slice w 41 U32 ty (.int .u32 0) Try.underlying41 zero_u32 rfl rfl g 0 n n hn (fun j hj => by rw [Nat.zero_add, h.cell (by simp; omega)]; rfl) (fun j _ => by rw [Nat.zero_add]; exact h.free j)]
  rw [setCells_same h]
  intro j v hv
  have hj : j < n := by
    rcases Nat.lt_or_ge j n with hj | hj
    · exact hj
    · rw [List.getElem?_eq_none (by simp; omega)] at hv; cases hv
  simp [hj] at hv ⊢
  exact hv
/-- What a quotient's call leaves. -/
def MadeDiv (w : World) (a b : Nat) (e : Ending) (w' : World) : Prop :=
  ∃ vq vr, e = .returned (.tuple #[vq, vr, .int .i64 0]) ∧ Dg w' (fun k => w.heap.size ≤ k) vq (a / b) (size (a / b)) ∧ Dg w' (fun k => w.heap.size ≤ k) vr (a % b) (size (a % b)) ∧ Kept w w'
set_option maxHeartbeats 2000000 in
theorem div_low (A : Option Addr) (c a : Nat) (A' : Option Addr) (c' b : Nat) (w : World) (hc : size a ≤ c) (hc' : size b ≤ c') (ha : At w A a (size a)) (hb : At w A' b (size b)) (hn : size a ≤ 8796093022207) (hm : size b ≤ 8796093022207) (hab : a < b) :
    Calls Try.prog 110 #[.slice A (size a) c, .slice A' (size b) c'] w (MadeDiv w a b) := by
  have HA := Lib.hid ha; have HB := Lib.hid hb
  have hcm := cmp_lt hab
  have hsb : ((size b : Int) == 0) = false := by
    have := size_pos (s := b) (by omega)
    simp; omega
  clear ha hb
  go_enter Try.func110, Try.ntmps110
  go_wp2_with (first | (go_at_call 109; first | ((with_reducible refine (cut_any A c a (size a) w hc HA.out (lt_size a) (by omega)).mono ?_); rintro e w1 ⟨v1, rfl, hv1, hk1⟩; obtain ⟨A1, c1, rfl, hc1, ha1⟩ := hv1.at; have HV1 := Lib.hid hv1; have HA1 := Lib.hid ha1; have HK1 := Lib.hid hk1; clear hv1 ha1 hk1) | ((with_reducible refine (cut_any A' c' b (size b) _ hc' (HB.out.kept HK1.out) (lt_size b) (by omega)).mono ?_); rintro e w2 ⟨v2, rfl, hv2, hk2⟩; obtain ⟨A2, c2, rfl, hc2, ha2⟩ := hv2.at; have HV2 := Lib.hid hv2; have HA2 := Lib.hid ha2; have HK2 := Lib.hid hk2; clear hv2 ha2 hk2)) | (go_at_call 96; (with_reducible refine (cmp_any A1 c1 a A2 c2 b _ (HA1.out.kept HK2.out) HA2.out (by omega) (by omega)).mono ?_); rintro e w3 ⟨rfl, hk3⟩; have HK3 := Lib.hid hk3; clear hk3; rw [hcm]))
  go_ret3
  have hk := HK2.out.then HK3.out
  refine ⟨_, _, rfl, ?_, ?_, HK1.out.then hk⟩
  · rw [Nat.div_eq_of_lt hab]; exact Dg.nil _ _ _
  · rw [Nat.mod_eq_of_lt hab]; exact HV1.out.up (Up.of_kept hk)
set_option maxHeartbeats 2000000 in
theorem div_one (A : Option Addr) (c a : Nat) (A' : Option Addr) (c' b : Nat) (w : World) (hc : size a ≤ c) (hc' : size b ≤ c') (ha : At w A a (size a)) (hb : At w A' b (size b)) (hn : size a ≤ 8796093022207) (hm : size b = 1) (hab : b ≤ a) :
    Calls Try.prog 110 #[.slice A (size a) c, .slice A' (size b) c'] w (MadeDiv w a b) := by
  have hb0 : 0 < b := Nat.pos_of_ne_zero (fun e => by rw [e] at hm; cases hm)
  have hb1 : b < 4294967296 := by have := lt_size b; rw [hm, Nat.pow_one] at this; exact this
  have hd : dig b 0 = b := by rw [dig_at_zero, Nat.mod_eq_of_lt hb1]
  have HA := Lib.hid ha; have HB := Lib.hid hb
  have hcm : decide (cmpI a b < 0) = false := by
    have := @cmp_neg a b
    rw [decide_eq_false_iff_not, this]; omega
  have HC := Lib.hid (fun A1 c1 A2 c2 W h1 h2 => cmp_any A1 c1 a A2 c2 b W h1 h2 (by omega) (by omega))
  generalize cmpI a b = cm at *
  have hm' : ((size b : Int) == 0) = false := by rw [hm]; rfl
  have hm2 : ((size b : Int) == 1) = true := by rw [hm]; rfl
  have hpos : 0 < size b := by omega
  have hle : size b ≤ 1 := by omega
  obtain ⟨r, hr⟩ : ∃ r, a % b = r := ⟨_, rfl⟩
  have hr1 : r < 4294967296 := by rw [← hr]; exact Nat.lt_trans (Nat.mod_lt _ hb0) hb1
  have HSm : Hid (∀ A1 c1 W, At W A1 a (size a) → Calls Try.prog 116 #[.slice A1 (size a) c1, .int .u32 (b : Int)] W fun e w' => ∃ v, e = .returned (.tuple #[v, .int .u32 (r : Int)]) ∧ Dg w' (fun k => W.heap.size ≤ k) v (a / b) (size (a / b)) ∧ Kept W w') := fun A1 c1 W h => by
    rw [← hr]; exact small_any A1 c1 a b W h hn hb0 hb1
  have HR := Lib.hid hr
  clear ha hb hm hr
  go_enter Try.func110, Try.ntmps110
  go_wp2_with (first | (go_at_call 109; first | ((with_reducible refine (cut_any A c a (size a) w hc HA.out (lt_size a) (by omega)).mono ?_); rintro e w1 ⟨v1, rfl, hv1, hk1⟩; obtain ⟨A1, c1, rfl, hc1, ha1⟩ := hv1.at; have HV1 := Lib.hid hv1; have HA1 := Lib.hid ha1; have HK1 := Lib.hid hk1; clear hv1 ha1 hk1) | ((with_reducible refine (cut_any A' c' b (size b) _ hc' (HB.out.kept HK1.out) (lt_size b) (by omega)).mono ?_); rintro e w2 ⟨v2, rfl, hv2, hk2⟩; obtain ⟨A2, c2, rfl, hc2, ha2⟩ := hv2.at; have HV2 := Lib.hid hv2; have HA2 := Lib.hid ha2; have HK2 := Lib.hid hk2; clear hv2 ha2 hk2)) | (go_at_call 96; (with_reducible refine (HC.out A1 c1 A2 c2 _ (HA1.out.kept HK2.out) HA2.out).mono ?_); rintro e w3 ⟨rfl, hk3⟩; have HK3 := Lib.hid hk3; obtain ⟨b2, o2, rfl, ct⟩ := HA2.out 0 (by omega); rw [hd, Nat.add_zero] at ct; replace ct := hk3.cell ct; clear hk3) | (go_at_call 116; (with_reducible refine (HSm.out A1 c1 _ ((HA1.out.kept HK2.out).kept HK3.out)).mono ?_); rintro e w4 ⟨v4, rfl, hv4, hk4⟩; have HV4 := Lib.hid hv4; have HK4 := Lib.hid hk4; clear hv4 hk4) | (go_at_call 108; (with_reducible refine (of_any r _ (by omega)).mono ?_); rintro e w5 ⟨v5, rfl, hv5, hk5⟩; have HV5 := Lib.hid hv5; have HK5 := Lib.hid hk5; clear hv5 hk5))
  go_ret3
  have hk := ((HK1.out.then HK2.out).then HK3.out)
  refine ⟨_, _, rfl, (HV4.out.up (Up.of_kept HK5.out)).mono (fun j hj _ => Nat.le_trans hk.size hj), ?_, (hk.then HK4.out).then HK5.out⟩
  rw [HR.out]
  exact HV5.out.mono (fun j hj _ => Nat.le_trans (hk.then HK4.out).size hj)
theorem At.lt {w : World} {A : Option Addr} {s n : Nat} (h : At w A s n) {ad : Addr} (hA : A = some ad) (hn : 0 < n) : ad.block < w.heap.size := by
  obtain ⟨b, off, e, hc⟩ := h 0 hn
  rw [hA] at e
  injection e with e
  subst e
  exact World.block_lt_of_cell? w _ hc
theorem copy_src {w : World} {A : Option Addr} {s n : Nat} (h : At w A s n) (h0 : 0 < (lim s n).length) : ∃ ad, A = some ad ∧ ∀ j v, (lim s n)[j]? = some v → w.cell? (ad.add j) = some v := by
  rw [lim_length] at h0
  obtain ⟨b, off, rfl, _⟩ := h 0 h0
  exact ⟨_, rfl, h.cells_any⟩
theorem Lb.grown {w w1 : World} {g g2 : Nat} {xs : List Nat} (h : Lb w g2 xs) (hg : w.grownBy w1 (some g)) (hne : g2 ≠ g) : Lb w1 g2 xs := (hg.block g2 h.lt (by simpa using hne)).trans h
/-- The limbs copied over noughts. -/
theorem lb_splice {w : World} {g M s L : Nat} (h : w.heap[g]? = some (.cells (splice ((List.replicate M 0).map fun (x : Nat) => Value.int .u32 (x : Int)) 0 (lim s L)).toArray U32 (0, 0))) (hL : L ≤ M) (hs : s < B ^ L) :
    Lb w g ((List.range M).map fun j => dig s j) := by
  unfold Lb Row?
  rw [h]
  congr 2
  apply congrArg
  apply List.ext_getElem?
  intro i
  simp only [splice, List.take_zero, List.nil_append, Nat.zero_add, lim_length, List.getElem?_append]
  rcases Nat.lt_or_ge i L with h1 | h1
  · rw [if_pos h1, lim_get h1]
    simp [show i < M by omega]
  · rw [if_neg (by omega)]
    rcases Nat.lt_or_ge i M with h2 | h2
    · simp [h2, dig_over hs h1, List.getElem?_replicate]
      omega
    · rw [List.getElem?_eq_none (by simp; omega), List.getElem?_eq_none (by simp; omega)]
theorem dl_range (M s : Nat) : Dl ((List.range M).map fun j => dig s j) M s := ⟨by simp, fun j hj => by simp [hj]⟩
set_option maxRecDepth 100000 in
set_option maxHeartbeats 4000000 in
theorem div_many (A : Option Addr) (c a : Nat) (A' : Option Addr) (c' b : Nat) (w : World) (hc : size a ≤ c) (hc' : size b ≤ c') (ha : At w A a (size a)) (hb : At w A' b (size b)) (hn : size a ≤ 4398046511103) (hm : 2 ≤ size b) (hab : b ≤ a) :
    Calls Try.prog 110 #[.slice A (size a) c, .slice A' (size b) c'] w (MadeDiv w a b) := by
  have hb0 : b ≠ 0 := fun e => by rw [e] at hm; exact absurd hm (by decide)
  have hss := size_le_of_le hab
  obtain ⟨i0, hi, hz0, hz1, hz2⟩ := info_parts info_u32
  have HA := Lib.hid ha; have HB := Lib.hid hb
  have hcm : decide (cmpI a b < 0) = false := by
    have := @cmp_neg a b
    rw [decide_eq_false_iff_not, this]; omega
  have HC := Lib.hid (fun A1 c1 A2 c2 W h1 h2 => cmp_any A1 c1 a A2 c2 b W h1 h2 (by omega) (by omega))
  generalize cmpI a b = cm at *
  have hm' : ((size b : Int) == 0) = false := by simp; omega
  have hm2 : ((size b : Int) == 1) = false := by simp; omega
  obtain ⟨top, htop⟩ : ∃ top, dig b (size b - 1) = top := ⟨_, rfl⟩
  have htop1 : top < 4294967296 := by rw [← htop]; exact dig_lt _ _
  have htop0 : 0 < top := by rw [← htop]; exact Nat.pos_of_ne_zero (top_ne hb0)
  have HW : Hid (∀ k, k < 32 → top * 2 ^ k < 4294967296 → DivIn a b k) := fun k hk h => div_in hb0 hab hk (by rw [htop]; exact h)
  clear ha hb
  go_enter Try.func110, Try.ntmps110
  go_wp2_with (first | (go_at_call 109; first | ((with_reducible refine (cut_any A c a (size a) w hc HA.out (lt_size a) (by omega)).mono ?_); rintro e w1 ⟨v1, rfl, hv1, hk1⟩; obtain ⟨A1, c1, rfl, hc1, ha1⟩ := hv1.at; have HV1 := Lib.hid hv1; have HA1 := Lib.hid ha1; have HK1 := Lib.hid hk1; clear hv1 ha1 hk1) | ((with_reducible refine (cut_any A' c' b (size b) _ hc' (HB.out.kept HK1.out) (lt_size b) (by omega)).mono ?_); rintro e w2 ⟨v2, rfl, hv2, hk2⟩; obtain ⟨A2, c2, rfl, hc2, ha2⟩ := hv2.at; have HV2 := Lib.hid hv2; have HA2 := Lib.hid ha2; have HK2 := Lib.hid hk2; clear hv2 ha2 hk2)) | (go_at_call 96; (with_reducible refine (HC.out A1 c1 A2 c2 _ (HA1.out.kept HK2.out) HA2.out).mono ?_); rintro e w3 ⟨rfl, hk3⟩; have HK3 := Lib.hid hk3; obtain ⟨b2, o2, rfl, ct⟩ := HA2.out (size b - 1) (by omega); rw [htop] at ct; replace ct := hk3.cell ct; clear hk3) | (go_at_call 117; (with_reducible refine (lead_any top _ htop1 htop0).mono ?_); rintro e w4 ⟨⟨k, rfl, hk, hlt⟩, rfl⟩; have HF := Lib.hid (HW.out k hk hlt); clear hlt) | (go_at_call 118; first | ((with_reducible refine (shl_any (some ⟨b2, o2, none⟩) c2 b k _ (HA2.out.kept HK3.out) (by omega) hk).mono ?_); rintro e w5 ⟨v5, rfl, hv5, hk5⟩; rw [HF.out.sV] at hv5; obtain ⟨A5, c5, rfl, hc5, ha5⟩ := hv5.at; have HA5 := Lib.hid ha5; have HK5 := Lib.hid hk5; clear hv5 ha5 hk5) | ((with_reducible refine (shl_any A1 c1 a k _ ((((HA1.out.kept HK2.out).kept HK3.out).kept HK5.out).kept HK6.out) (by omega) hk).mono ?_); rintro e w7 ⟨v7, rfl, hv7, hk7⟩; obtain ⟨A7, c7, rfl, hc7, ha7⟩ := hv7.at; have HA7 := Lib.hid ha7; have HK7 := Lib.hid hk7; have hL := HF.out.sA; clear hv7 ha7 hk7)) | (at_make; first | (refine wpList_make_full _ rfl (.tmp 57) (.tmp 57) 41 rfl w5.heap.size U32 i0 (.int .u32 0) 1 Try.underlying41 hi hz0 hz1 _ _ _ _ (size a + 1) rfl rfl (by omega) (by omega) (by rw [hz2]; omega) (by unfold maxLen; omega) (Nat.le_refl _) ?_; intro w6 hown hgrow; have HL6 := Lib.hid (Lb.of_own hown); have HK6 := Lib.hid (Kept.grown (Below.refl _ _) hgrow (fun k hk => by cases hk) : Kept w5 w6); have hcl := clear_same HL6.out (by omega); clear hown hgrow) | (refine wpList_make_full _ rfl (.tmp 70) (.tmp 70) 41 rfl w8.heap.size U32 i0 (.int .u32 0) 1 Try.underlying41 hi hz0 hz1 _ _ _ _ (size a - size b + 1) rfl rfl (by omega) (by omega) (by rw [hz2]; omega) (by unfold maxLen; omega) (Nat.le_refl _) ?_; intro w9 hown hgrow; have HL9 := Lib.hid (Lb.of_own hown); have HK9 := Lib.hid (Kept.grown (Below.refl _ _) hgrow (fun k hk => by cases hk) : Kept w8 w9); clear hown hgrow)) | (simp only [hcl]; clear hcl) | ((with_reducible show wpList _ _ _ _ _ _); refine wpList_copy_splice (o := ⟨some 64, _, _, _, _, _⟩) rfl (.tmp 60) (.tmp 63) 41 41 rfl U32 Try.underlying41 (by kernel_rfl) _ _ _ _ _ _ rfl rfl w5.heap.size 0 _ U32 (HL6.out.kept HK7.out) (lim (a * 2 ^ k) (size (a * 2 ^ k))) (by rw [lim_length]; exact (Nat.min_eq_left HF.out.sA).symm) (fun h0 => ⟨rfl, copy_src HA7.out h0⟩) (by rw [lim_length]; simp; omega) (lim_one _ _) w5.heap.size w7 (Below.refl _ _) (Nat.le_refl _) ?_; intro w8 hu hk8; have HL8 := Lib.hid (lb_splice hu.out HF.out.sA (lt_size _)); have HK8 : Hid (Kept w5 w8) := (Kept.then HK6.out HK7.out).trans hk8; clear hu hk8))
  have HD0 : Hid (DivAt (a * 2 ^ k) (b * 2 ^ k) (size b) (size a + 1) (size a - size b + 1) ((List.range (size a + 1)).map fun j => dig (a * 2 ^ k) j)) := by
    have h := HF.out
    refine ⟨hm, h.V0, by rw [← h.sV]; exact lt_size _, h.Vge, ?_⟩
    rw [Nat.mod_eq_of_lt h.start]; exact dl_range _ _
  have HK59 : Hid (Kept w5 w9) := Kept.then HK8.out HK9.out
  have HL89 := Lib.hid (HL8.out.kept HK9.out)
  have hlt85 : w5.heap.size < w8.heap.size := HL8.out.lt
  clear hcm hm' hm2 htop0 htop1 hL
  go_loopw [13] (fun v wr => ∃ (i : Nat) (xs ys : List Nat), i ≤ size a - size b + 1 ∧ v = .int .i64 ((i : Int) - 1) ∧ Hid (DivAt (a * 2 ^ k) (b * 2 ^ k) (size b) (size a + 1) i xs) ∧ Hid (ys.length = size a - size b + 1 ∧ ∀ t, i ≤ t → t < size a - size b + 1 → ys.getD t 0 = dig (a / b) t) ∧ Hid (Lb wr w5.heap.size xs) ∧ Hid (Lb wr w8.heap.size ys) ∧ Hid (Kept w5 wr)) (fun v _ => (intOf v + 1).toNat)
  case atStart => exact ⟨size a - size b + 1, _, _, Nat.le_refl _, int_eq (by omega), HD0, ⟨by simp, fun t h1 h2 => absurd h2 (by omega)⟩, HL89, HL9, HK59⟩
  case round =>
    clear HD0 HL89 HL9 HK59 HL8 HL6
    obtain ⟨i, xs, ys, hi', rfl, HD, HY, HX, HYL, HK⟩ := hrel
    rcases Nat.eq_zero_or_pos i with h | h
    · subst h
      have hrem := HD.out.dl
      rw [Nat.pow_zero, Nat.mul_one, HF.out.rem] at hrem
      have HR := Lib.hid hrem
      have HRs : Hid (a % b * 2 ^ k < B ^ (size a + 1)) := Nat.lt_of_le_of_lt (Nat.mul_le_mul_right _ (Nat.mod_le a b)) HF.out.Alt
      have HQs : Hid (a / b < B ^ (size a - size b + 1)) := by
        show _ < _
        rw [← HF.out.quo, Nat.div_lt_iff_lt_mul HF.out.V0, Nat.mul_comm (B ^ _)]; exact HF.out.start
      have HAq : Hid (At wr (some ⟨w8.heap.size, 0, none⟩) (a / b) (size a - size b + 1)) := (Lb.dg HYL.out HY.out.1 (s := a / b) (fun t ht => HY.out.2 t (Nat.zero_le _) ht) (S := fun _ => True) trivial).at_own
      have HAr : Hid (At wr (some ⟨w5.heap.size, 0, none⟩) (a % b * 2 ^ k) (size a + 1)) := (Lb.dg HX.out HR.out.1 (s := a % b * 2 ^ k) (fun t ht => HR.out.2 t ht) (S := fun _ => True) trivial).at_own
      clear hrem
      go_wp2_with (first | (go_at_call 109; first | ((with_reducible refine (cut_any (some ⟨w8.heap.size, 0, none⟩) _ (a / b) _ _ (Nat.le_refl _) HAq.out HQs.out (by omega)).mono ?_); rintro e w10 ⟨v10, rfl, hv10, hk10⟩; have HV10 := Lib.hid hv10; have HK10 := Lib.hid hk10; clear hv10 hk10) | ((with_reducible refine (cut_any (some ⟨w5.heap.size, 0, none⟩) _ (a % b * 2 ^ k) _ _ (Nat.le_refl _) (HAr.out.kept HK10.out) HRs.out (by omega)).mono ?_); rintro e w11 ⟨v11, rfl, hv11, hk11⟩; obtain ⟨A11, c11, rfl, hc11, ha11⟩ := hv11.at; have HA11 := Lib.hid ha11; have HK11 := Lib.hid hk11; have hs11 := (lt_iff _ _).1 HRs.out; clear hv11 hk11 ha11)) | (go_at_call 122; (with_reducible refine (shr_any A11 c11 (a % b * 2 ^ k) k _ HA11.out (by omega) hk).mono ?_); rintro e w12 ⟨v12, rfl, hv12, hk12⟩; have HV12 := Lib.hid hv12; have HK12 := Lib.hid hk12; clear hv12 hk12))
      go_ret3
      have hk0 := Kept.then (Kept.then (Kept.then (Kept.then HK1.out HK2.out) HK3.out) HK5.out) HK.out
      have hk1 := Kept.then hk0 HK10.out
      refine ⟨_, _, rfl, (HV10.out.up (Up.of_kept (Kept.then HK11.out HK12.out))).mono (fun t ht _ => Nat.le_trans hk0.size ht), ?_, Kept.then (Kept.then hk1 HK11.out) HK12.out⟩
      have h12 := HV12.out
      rw [Nat.mul_div_cancel _ (Nat.pow_pos (by decide))] at h12
      exact h12.mono (fun t ht _ => Nat.le_trans (Kept.then hk1 HK11.out).size ht)
    · obtain ⟨j, rfl⟩ : ∃ j, i = j + 1 := ⟨i - 1, by omega⟩
      have hd := HD.out
      have htl := Tp_lt hd
      have hv : 0 < dig (b * 2 ^ k) (size b - 1) := by rw [← HF.out.sV]; exact Nat.pos_of_ne_zero (top_ne (Nat.ne_of_gt hd.V0))
      have HG : Hid (GuessIn wr w5.heap.size xs (size a + 1) A5 (b * 2 ^ k) (size b) j (dig (Tp (a * 2 ^ k) (b * 2 ^ k) j) (size b)) (dig (Tp (a * 2 ^ k) (b * 2 ^ k) j) (size b - 1)) (dig (Tp (a * 2 ^ k) (b * 2 ^ k) j) (size b - 2)) (dig (b * 2 ^ k) (size b - 1)) (dig (b * 2 ^ k) (size b - 2))) := by
        refine ⟨HX.out, hd.dl.1, by omega, hm, HA5.out.kept HK.out, Tp_dig hd (by omega), ?_, ?_, rfl, rfl, dig_lt _ _, dig_lt _ _, dig_lt _ _⟩
        · rw [show j + size b - 1 = j + (size b - 1) by omega]; exact Tp_dig hd (by omega)
        · rw [show j + size b - 2 = j + (size b - 2) by omega]; exact Tp_dig hd (by omega)
      have HGU := Lib.hid (top_le (by omega) hd.Vlt htl)
      have HGN := Lib.hid (fun q hq hq' hb' => @guess_near (Tp (a * 2 ^ k) (b * 2 ^ k) j) (b * 2 ^ k) (size b) q hm hd.Vlt hd.Vge htl hq hq' hb')
      have HTS := Lib.hid (fun q hq => @take_split (Tp (a * 2 ^ k) (b * 2 ^ k) j) (b * 2 ^ k) q (size b) hd.V0 hd.Vlt (Tp_lt' hd) hq)
      have HTQ := Lib.hid (Tp_quo hd)
      have HTD := Lib.hid (fun t ht => @Tp_dig (a * 2 ^ k) (b * 2 ^ k) (size b) (size a + 1) j xs hd t ht)
      have HA5n : Hid (∀ ad, A5 = some ad → 0 < size b → ad.block ≠ w5.heap.size) := fun ad e h0 => Nat.ne_of_lt (HA5.out.lt e h0)
      have HV := Lib.hid hv
      have HXL := Lib.hid hd.dl.1
      have HTL := Lib.hid (Tp_lt' hd)
      have HDV := Lib.hid hd.Vlt
      clear hd htl hv h
      go_wp2_with (first | (go_at_call 119; (with_reducible refine (guess_any wr w5.heap.size xs (size a + 1) A5 (b * 2 ^ k) (size b) c5 j _ _ _ _ _ HG.out HV.out HGU.out (by omega)).mono ?_); rintro e w10 ⟨q, rfl, hgood, hk10⟩; obtain ⟨bw, R, hbw, hR, heq, hqb, hR0, hR1⟩ := HTS.out q (HGN.out q hgood.1 hgood.2.1 hgood.2.2); have hq2 : q < 4294967296 := hgood.1; have hqb2 : bw ≤ q := (by rw [hqb]; exact Nat.le_add_left _ _); have HRb := Lib.hid hR; have HEQ := Lib.hid heq; have HQB := Lib.hid hqb; have HR0 := Lib.hid hR0; have HR1 := Lib.hid hR1; have HK10 := Lib.hid hk10; clear hgood hk10 hR heq hqb hR0 hR1) | (go_at_call 120; (with_reducible refine (take_any w10 w5.heap.size xs (size a + 1) A5 (b * 2 ^ k) (size b) c5 j q (Tp (a * 2 ^ k) (b * 2 ^ k) j) R bw (HX.out.kept HK10.out) HXL.out (by omega) (by omega) ((HA5.out.kept HK.out).kept HK10.out) HA5n.out HDV.out hq2 HTL.out (fun t ht => HTD.out t (by omega)) HRb.out hbw HEQ.out).mono ?_); rintro e w11 ⟨rfl, xs1, hl1, hlaid1, hg1⟩; have HX1 := Lib.hid hl1; have HLD1 := Lib.hid hlaid1; have HXL1 := Lib.hid hlaid1.1; have HLT1 := Lib.hid hlaid1.2; have HG1 := Lib.hid hg1; have hy1 := (HYL.out.kept HK10.out).grown hg1 (by omega); have HY1 := Lib.hid hy1; have cy := hy1.cell (i := j) (by rw [HY.out.1]; omega); have zy := hy1.free j; generalize ys.getD j 0 = y0 at cy; clear hl1 hlaid1 hg1 hy1) | (go_at_call 121; (with_reducible refine (back_any w11 w5.heap.size xs1 (size a + 1) A5 (b * 2 ^ k) (size b) c5 j R HX1.out HXL1.out (by omega) (by omega) (((HA5.out.kept HK.out).kept HK10.out).grown HG1.out HA5n.out) HA5n.out HDV.out (fun t ht => by rw [HLT1.out _ (by omega), if_pos (by omega)]; congr 1; omega)).mono ?_); rintro e w12 ⟨rfl, xs2, hl2, hlaid2, hg2⟩; have HX2 := Lib.hid hl2; have HLD2 := Lib.hid hlaid2; have HG2 := Lib.hid hg2; have hy2 := HY1.out.grown hg2 (by omega); have HY2 := Lib.hid hy2; clear cy zy; have cy := hy2.cell (i := j) (by rw [HY.out.1]; omega); have zy := hy2.free j; clear hl2 hlaid2 hg2 hy2))
      · have hb1 : 0 < bw := by assumption
        have hb2 : bw = 1 := by omega
        go_roundw
        case measure => simp [intOf]
        case rel =>
          refine ⟨j, xs2, ys.set j (q - 1), by omega, rfl, HD.out.next HLD2.out.1 (fun p hp => ?_), quo_set HY.out (by omega) (by rw [← HF.out.quo, ← HTQ.out, HQB.out, hb2, Nat.add_sub_cancel]), HX2.out.far (by show w5.heap.size ≠ w8.heap.size; omega) _, HY2.out.put j _ (by omega), (((Kept.then HK.out HK10.out).grown HG1.out (fun t ht => by cases ht; exact Nat.le_refl _)).grown HG2.out (fun t ht => by cases ht; exact Nat.le_refl _)).set (Nat.le_of_lt hlt85) _ _⟩
          rw [HLD2.out.2 p hp]
          by_cases hc1 : j ≤ p ∧ p < j + (size b + 1)
          · rw [if_pos hc1, if_pos hc1, HR1.out hb2, Nat.add_comm (B ^ _), ← Nat.mul_one (B ^ _), dig_low (by omega)]
          · rw [if_neg hc1, if_neg hc1, HLT1.out p hp, if_neg hc1]
      · have hb1 : ¬ 0 < bw := by assumption
        have hb2 : bw = 0 := by omega
        go_roundw
        case measure => simp [intOf]
        case rel =>
          refine ⟨j, xs1, ys.set j q, by omega, rfl, HD.out.next HXL1.out (fun p hp => ?_), quo_set HY.out (by omega) (by rw [← HF.out.quo, ← HTQ.out, HQB.out, hb2, Nat.add_zero]), HX1.out.far (by show w5.heap.size ≠ w8.heap.size; omega) _, HY1.out.put j _ rfl, ((Kept.then HK.out HK10.out).grown HG1.out (fun t ht => by cases ht; exact Nat.le_refl _)).set (Nat.le_of_lt hlt85) _ _⟩
          rw [HLT1.out p hp, HR0.out hb2]
theorem div_any (A : Option Addr) (c a : Nat) (A' : Option Addr) (c' b : Nat) (w : World) (hc : size a ≤ c) (hc' : size b ≤ c') (ha : At w A a (size a)) (hb : At w A' b (size b)) (hn : size a ≤ 4398046511103) (hm : size b ≤ 4398046511103) (hb0 : b ≠ 0) :
    Calls Try.prog 110 #[.slice A (size a) c, .slice A' (size b) c'] w (MadeDiv w a b) := by
  rcases Nat.lt_or_ge a b with h | h
  · exact div_low A c a A' c' b w hc hc' ha hb (by omega) (by omega) h
  · have := size_pos hb0
    rcases Nat.lt_or_ge (size b) 2 with h2 | h2
    · exact div_one A c a A' c' b w hc hc' ha hb (by omega) (by omega) h
    · exact div_many A c a A' c' b w hc hc' ha hb hn h2 h
end Go.Proofs.Ytpclkgjhfhhddaa.V
/- Limbs: walks: the greatest common divisor. -/
namespace Go.Proofs.Ytpclkgjhfhhddaa.V
open Go Go.RowKit Go.Proofs.Ytpclkgjhfhhddaa.PN
set_option linter.unusedVariables false
set_option linter.unusedSimpArgs false
set_option maxRecDepth 100000 in
set_option maxHeartbeats 2000000 in
theorem gcd_any (A : Option Addr) (c a : Nat) (A' : Option Addr) (c' b : Nat) (w : World) (hc : size a ≤ c) (hc' : size b ≤ c') (ha : At w A a (size a)) (hb : At w A' b (size b)) (hn : size a ≤ 4398046511103) (hm : size b ≤ 4398046511103) :
    Calls Try.prog 98 #[.slice A (size a) c, .slice A' (size b) c'] w (MadeNat w (Nat.gcd a b)) := by
  have HA := Lib.hid ha; have HB := Lib.hid hb
  clear ha hb
  go_enter Try.func98, Try.ntmps98
  go_wp2_with (go_at_call 109; first | ((with_reducible refine (cut_any A c a (size a) w hc HA.out (lt_size a) (by omega)).mono ?_); rintro e w1 ⟨v1, rfl, hv1, hk1⟩; obtain ⟨A1, c1, rfl, hc1, ha1⟩ := hv1.at; have HA1 := Lib.hid ha1; have HK1 := Lib.hid hk1; clear hv1 ha1 hk1) | ((with_reducible refine (cut_any A' c' b (size b) _ hc' (HB.out.kept HK1.out) (lt_size b) (by omega)).mono ?_); rintro e w2 ⟨v2, rfl, hv2, hk2⟩; obtain ⟨A2, c2, rfl, hc2, ha2⟩ := hv2.at; have HA2 := Lib.hid ha2; have HK2 := Lib.hid hk2; clear hv2 ha2 hk2))
  have H1 := Lib.hid (HA1.out.kept HK2.out)
  have HK := Lib.hid (Kept.then HK1.out HK2.out)
  clear HA1 HK1 HK2
  go_loopg [0, 1] b (fun y v0 v1 wr => ∃ (x : Nat) (A1 : Option Addr) (c1 : Nat) (A2 : Option Addr) (c2 : Nat), v0 = .slice A1 (size x) c1 ∧ v1 = .slice A2 (size y) c2 ∧ size x ≤ c1 ∧ size y ≤ c2 ∧ size x ≤ 4398046511103 ∧ size y ≤ 4398046511103 ∧ Hid (At wr A1 x (size x)) ∧ Hid (At wr A2 y (size y)) ∧ Hid (Nat.gcd x y = Nat.gcd a b) ∧ Hid (Kept w wr))
  case atStart => exact ⟨a, A1, c1, A2, c2, rfl, rfl, hc1, hc2, hn, hm, H1, HA2, rfl, HK⟩
  case round =>
    clear H1 HA2 HK hc1 hc2
    obtain ⟨x, A4, c4, A5, c5, rfl, rfl, hc1, hc2, hx, hy, H1, H2, HG, HK⟩ := hrel
    rcases Nat.eq_zero_or_pos gk with h | h
    · subst h
      go_wp2_with (go_at_call 109; (with_reducible refine (cut_any A4 c4 x (size x) _ hc1 H1.out (lt_size x) (by omega)).mono ?_); rintro e w3 ⟨v3, rfl, hv3, hk3⟩)
      go_ret
      have hg := HG.out
      rw [Nat.gcd_zero_right] at hg
      rw [← hg]
      exact MadeDg.after HK.out ⟨_, rfl, hv3, hk3⟩
    · have hs : 0 < size gk := size_pos (by omega)
      go_wp2_with (go_at_call 110; (with_reducible refine (div_any A4 c4 x A5 c5 gk _ hc1 hc2 H1.out H2.out hx hy (by omega)).mono ?_); rintro e w3 ⟨vq, vr, rfl, hq, hr, hk3⟩; obtain ⟨A3, c3, rfl, hc3, ha3⟩ := hr.at; have H3 := Lib.hid ha3; have HK3 := Lib.hid hk3; clear hq hr ha3 hk3)
      go_roundg (x % gk)
      case measure => exact Nat.mod_lt _ h
      case rel => exact ⟨gk, A5, c5, A3, c3, rfl, rfl, hc2, hc3, hy, Nat.le_trans (size_le_of_le (Nat.mod_le _ _)) hx, H2.out.kept HK3.out, H3, by show _ = _; rw [← HG.out, Nat.gcd_comm, ← Nat.gcd_rec, Nat.gcd_comm], Kept.then HK.out HK3.out⟩
end Go.Proofs.Ytpclkgjhfhhddaa.V
/- Rational numbers: walks: lowest terms. -/
namespace Go.Proofs.Ytpclkgjhfhhddaa.V
open Go Go.RowKit Go.Proofs.Ytpclkgjhfhhddaa.PN
set_option linter.unusedVariables false
set_option linter.unusedSimpArgs false
/-! ### A struct that a call hands back -/
abbrev RT : TypeId := 43
theorem row_new (w : World) (cs : Array Value) (T : TypeId) : Row? (w.alloc (.cells cs T)) w.heap.size cs T := heap_alloc_new w _
theorem Row?.set {w : World} {g : Nat} {cs : Array Value} {T : TypeId} (h : Row? w g cs T) (o : Nat) (u : Value) : Row? (w.setCell ⟨g, o, none⟩ u) g (cs.setIfInBounds o u) T := heap_setCell_same w g o cs T u h
theorem info_rat : (Try.prog.info? RT).map (·.size) = some 3 := by kernel_rfl
theorem ret_box {fn : Func} {p : Tmp} {R : Ending → World → Prop} {a : Act} {w : World} {g : Nat} {x y z : Value} (h : fn.results = #[.cell p RT]) (hp : a.tmps.getD p undef = .pointer (some ⟨g, 0, none⟩))
    (hg : Row? w g #[x, y, z] RT) (hd : a.defers = []) (hR : R (.returned (.agg #[x, y, z])) w) : bodyPost Try.prog fn R .ret a w :=
  bodyPost_ret (results_cell_row h a.tmps w g RT #[x, y, z] (0, 0) _ hp hg Try.underlying43 rfl info_rat) hd hR
/-- A number stored into a box, all of it. -/
def set3 (w : World) (g : Nat) (s : Bool) (vn vd : Value) : World := ((w.setCell ⟨g, 0, none⟩ (.bool s)).setCell ⟨g, 1, none⟩ vn).setCell ⟨g, 2, none⟩ vd
theorem row_set3 {w : World} {g : Nat} {x y z : Value} {T : TypeId} (h : Row? w g #[x, y, z] T) (s : Bool) (vn vd : Value) : Row? (set3 w g s vn vd) g #[.bool s, vn, vd] T := ((h.set 0 _).set 1 _).set 2 _
theorem up_set3 {a w : World} (h : Up a w) {g : Nat} {cs : Array Value} (r : Row? w g cs RT) (s : Bool) (vn vd : Value) : Up a (set3 w g s vn vd) := by
  have t0 : Typed w g RT := ⟨⟨cs, r⟩⟩
  have h1 := h.set t0 (by decide) 0 (.bool s)
  have t1 : Typed (w.setCell ⟨g, 0, none⟩ (.bool s)) g RT := ⟨⟨_, r.set 0 _⟩⟩
  have h2 := h1.set t1 (by decide) 1 vn
  have t2 : Typed ((w.setCell ⟨g, 0, none⟩ (.bool s)).setCell ⟨g, 1, none⟩ vn) g RT := ⟨⟨_, (r.set 0 _).set 1 _⟩⟩
  exact h2.set t2 (by decide) 2 vd
theorem kept_set3 {a w : World} (h : Kept a w) {g : Nat} (hg : a.heap.size ≤ g) (s : Bool) (vn vd : Value) : Kept a (set3 w g s vn vd) := ((h.set hg 0 _).set hg 1 _).set hg 2 _
theorem ret_rat {fn : Func} {p : Tmp} {a : Act} {w w1 : World} {g : Nat} {x y z : Value} {s : Bool} {vn vd : Value} {q : Rat} (h : fn.results = #[.cell p RT]) (hp : a.tmps.getD p undef = .pointer (some ⟨g, 0, none⟩)) (hd : a.defers = [])
    (r : Row? w1 g #[x, y, z] RT) (hg : w.heap.size ≤ g) (hk : Kept w w1) (hq : RatS w1 (fun _ => True) s vn vd q) : bodyPost Try.prog fn (MadeRat w q) .ret a (set3 w1 g s vn vd) :=
  ret_box h hp (row_set3 r s vn vd) hd ⟨s, vn, vd, rfl, hq.up (up_set3 (Up.refl w1) r s vn vd), kept_set3 hk hg s vn vd⟩
/-! ### The contracts by what values say -/
theorem of_v (x : Nat) (w : World) (hx : x < 18446744073709551616) : Calls Try.prog 108 #[.int .u64 (x : Int)] w (MadeNat w x) := of_any x w hx
theorem gcd_v {w : World} {va vb : Value} {a b : Nat} [ha : NatAt w va a] [hb : NatAt w vb b] (hn : size a ≤ 4398046511103) (hm : size b ≤ 4398046511103) : Calls Try.prog 98 #[va, vb] w (MadeNat w (Nat.gcd a b)) := by
  obtain ⟨A, c, rfl, hc, h1⟩ := ha.at
  obtain ⟨A', c', rfl, hc', h2⟩ := hb.at
  exact gcd_any A c a A' c' b w hc hc' h1 h2 hn hm
theorem div_v {w : World} {va vb : Value} {a b : Nat} [ha : NatAt w va a] [hb : NatAt w vb b] (hn : size a ≤ 4398046511103) (hm : size b ≤ 4398046511103) (h0 : b ≠ 0) : Calls Try.prog 110 #[va, vb] w (MadeDiv w a b) := by
  obtain ⟨A, c, rfl, hc, h1⟩ := ha.at
  obtain ⟨A', c', rfl, hc', h2⟩ := hb.at
  exact div_any A c a A' c' b w hc hc' h1 h2 hn hm h0
theorem mul_v {w : World} {va vb : Value} {a b : Nat} [ha : NatAt w va a] [hb : NatAt w vb b] (hn : size a ≤ 4398046511103) (hm : size b ≤ 4398046511103) : Calls Try.prog 100 #[va, vb] w (MadeNat w (a * b)) := by
  obtain ⟨A, c, rfl, hc, h1⟩ := ha.at
  obtain ⟨A', c', rfl, hc', h2⟩ := hb.at
  exact mul_any A c a A' c' b w h1 h2 (by omega) (by omega)
theorem add_v {w : World} {va vb : Value} {a b : Nat} [ha : NatAt w va a] [hb : NatAt w vb b] (hn : size a ≤ 4398046511103) (hm : size b ≤ 4398046511103) : Calls Try.prog 103 #[va, vb] w (MadeNat w (a + b)) := by
  obtain ⟨A, c, rfl, hc, h1⟩ := ha.at
  obtain ⟨A', c', rfl, hc', h2⟩ := hb.at
  exact add_any A c a A' c' b w h1 h2 (by omega) (by omega)
theorem sub_v {w : World} {va vb : Value} {a b : Nat} [ha : NatAt w va a] [hb : NatAt w vb b] (hn : size a ≤ 4398046511103) (hm : size b ≤ 4398046511103) (hab : b ≤ a) : Calls Try.prog 104 #[va, vb] w (MadeDgOk w (a - b) (size (a - b)) 0) := by
  obtain ⟨A, c, rfl, hc, h1⟩ := ha.at
  obtain ⟨A', c', rfl, hc', h2⟩ := hb.at
  exact sub_any A c a A' c' b w h1 h2 (by omega) (by omega) hab
theorem sub_no {w : World} {va vb : Value} {a b : Nat} [ha : NatAt w va a] [hb : NatAt w vb b] (hn : size a ≤ 4398046511103) (hm : size b ≤ 4398046511103) (hab : a < b) : Calls Try.prog 104 #[va, vb] w (MadeDgOk w 0 0 1) := by
  obtain ⟨A, c, rfl, hc, h1⟩ := ha.at
  obtain ⟨A', c', rfl, hc', h2⟩ := hb.at
  exact sub_less A c a A' c' b w h1 h2 (by omega) (by omega) hab
theorem cmp_v {w : World} {va vb : Value} {a b : Nat} [ha : NatAt w va a] [hb : NatAt w vb b] (hn : size a ≤ 4398046511103) (hm : size b ≤ 4398046511103) : Calls Try.prog 96 #[va, vb] w fun e w' => e = .returned (.int .i64 (cmpI a b)) ∧ Kept w w' := by
  obtain ⟨A, c, rfl, hc, h1⟩ := ha.at
  obtain ⟨A', c', rfl, hc', h2⟩ := hb.at
  exact cmp_any A c a A' c' b w h1 h2 (by omega) (by omega)
set_option maxHeartbeats 1000000 in
theorem rone_any (w : World) : Calls Try.prog 97 #[] w (MadeNat w 1) := by
  go_enter Try.func97, Try.ntmps97
  go_wp2_with (go_at_call 108; refine (of_v 1 _ (by decide)).mono ?_; rintro e w1 ⟨v1, rfl, hv1, hk1⟩)
  go_ret
  exact ⟨_, rfl, hv1, hk1⟩
set_option maxHeartbeats 1000000 in
theorem rzero_any (w : World) : Calls Try.prog 111 #[] w (MadeRat w 0) := by
  go_enter Try.func111, Try.ntmps111
  go_wp2_with (go_at_call 97; refine (rone_any _).mono ?_; rintro e w1 ⟨v1, rfl, hv1, hk1⟩; obtain ⟨A1, c1, rfl, _, _⟩ := hv1.at; have HV1 := Lib.hid hv1; have HK1 := Lib.hid hk1; obtain ⟨hc1, hf1⟩ := bcell hk1; clear hv1 hk1)
  exact ret_rat rfl rfl rfl (HK1.out.row (row_new w _ _)) (Nat.le_refl _) ((Kept.alloc w _).then HK1.out) ⟨rfl, Dg.nil _ _ _, HV1.out.any⟩
set_option maxHeartbeats 2000000 in
theorem low_any (neg : Bool) (vn vd : Value) (n d : Nat) (w : World) (hn : NatAt w vn n) (hd : NatAt w vd d) (hs : size n ≤ 4398046511103) (hs' : size d ≤ 4398046511103) (hd0 : d ≠ 0) :
    Calls Try.prog 102 #[.bool neg, vn, vd] w (MadeRat w (mk neg n d)) := by
  obtain ⟨An, cn, rfl, hcn, han⟩ := hn.at
  obtain ⟨Ad, cd, rfl, hcd, had⟩ := hd.at
  have HN := Lib.hid hn.up; have HD := Lib.hid hd.up
  clear han had hn hd
  rcases Nat.eq_zero_or_pos n with h | h
  · subst h
    have hz : ((size 0 : Int) == 0) = true := by rw [size_zero]; rfl
    rw [mk_zero]
    go_enter Try.func102, Try.ntmps102
    go_wp2_with (go_at_call 111; refine (rzero_any _).mono ?_; rintro e w1 ⟨s1, vn1, vd1, rfl, hq1, hk1⟩; obtain ⟨An1, cn1, rfl, _, _⟩ := hq1.2.1.at; obtain ⟨Ad1, cd1, rfl, _, _⟩ := hq1.2.2.at; have HQ1 := Lib.hid hq1; have HK1 := Lib.hid hk1; obtain ⟨hc1, hf1⟩ := bcell hk1; clear hq1 hk1)
    exact ret_rat rfl rfl rfl (HK1.out.row (row_new w _ _)) (Nat.le_refl _) ((Kept.alloc w _).then HK1.out) HQ1.out
  · have hz : ((size n : Int) == 0) = false := by
      have := size_pos (s := n) (by omega)
      simp; omega
    have hg : 0 < Nat.gcd n d := Nat.gcd_pos_of_pos_left d h
    have hgs : size (Nat.gcd n d) ≤ size n := size_le_of_le (Nat.le_of_dvd h (Nat.gcd_dvd_left n d))
    go_enter Try.func102, Try.ntmps102
    have iN := HN.out; have iD := HD.out
    go_wp2_with (first | (go_at_call 98; refine Calls.mono (gcd_v hs hs') ?_; rintro e w1 ⟨v1, rfl, hv1, hk1⟩; obtain ⟨A1, c1, rfl, _, _⟩ := hv1.at; have i1 := NatS.lift hv1; have u1 := Kept.chain hk1; have HK1 := Lib.hid hk1; obtain ⟨hc1, hf1⟩ := bcell hk1; have z1 : w.heap.size < w1.heap.size := Nat.lt_of_lt_of_le (by simp) hk1.size; clear hv1 hk1) | (go_at_call 110; first | (refine Calls.mono (div_v (a := n) (b := Nat.gcd n d) (by omega) (by omega) (by omega)) ?_; rintro e w2 ⟨vq2, vr2, rfl, hq2, hr2, hk2⟩; obtain ⟨A2, c2, rfl, _, _⟩ := hq2.at; obtain ⟨B2, b2, rfl, _, _⟩ := hr2.at; have HV2 := Lib.hid hq2; have u2 := Kept.chain hk2; have HK2 := Lib.hid hk2; obtain ⟨hc2, hf2⟩ := bcell hk2; have z2 := Nat.lt_of_lt_of_le z1 hk2.size; clear hq2 hr2 hk2) | (refine Calls.mono (div_v (a := d) (b := Nat.gcd n d) (by omega) (by omega) (by omega)) ?_; rintro e w3 ⟨vq3, vr3, rfl, hq3, hr3, hk3⟩; obtain ⟨A3, c3, rfl, _, _⟩ := hq3.at; obtain ⟨B3, b3, rfl, _, _⟩ := hr3.at; have HV3 := Lib.hid hq3; have HK3 := Lib.hid hk3; obtain ⟨hc3, hf3⟩ := bcell hk3; have z3 := Nat.lt_of_lt_of_le z2 hk3.size; clear hq3 hr3 hk3)))
    have hk := Kept.then (Kept.then HK1.out HK2.out) HK3.out
    refine ret_rat rfl rfl rfl (hk.row (row_new w _ _)) (Nat.le_refl _) ((Kept.alloc w _).then hk) ⟨(mk_ng neg (by omega) hd0).symm, ?_, ?_⟩
    · unfold NatS; rw [mk_num neg hd0]; exact (HV2.out.up (Up.of_kept HK3.out)).any
    · unfold NatS; rw [mk_den neg hd0]; exact HV3.out.any
end Go.Proofs.Ytpclkgjhfhhddaa.V

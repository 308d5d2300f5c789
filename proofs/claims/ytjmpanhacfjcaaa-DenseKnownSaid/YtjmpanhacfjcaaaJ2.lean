/- Joined texts, 2: NatK NatM RatA RatB AmA. -/
import Derived.Test.YtjmpanhacfjcaaaJ1
import Derived.Laws.CopyOwn
set_option linter.unusedVariables false
set_option linter.unusedSimpArgs false
/- Limbs: walks: a quotient. -/
namespace Go.Proofs.Ytjmpanhacfjcaaa.V
open Go Go.RowKit Go.Proofs.Ytjmpanhacfjcaaa.PN
set_option linter.unusedVariables false
set_option linter.unusedSimpArgs false
theorem setCell_same {w : World} {g o : Nat} {cs : Array Value} {t : TypeId} {fr : Nat × Nat} {v : Value} (h : w.heap[g]? = some (.cells cs t fr)) (hv : cs[o]? = some v) : w.setCell ⟨g, o, none⟩ v = w := by
  unfold World.setCell
  have : w.heap.modify g (fun x => match x with | .cells c elem frozen => .cells (if (none : Option Nat).isSome then c else c.setIfInBounds o v) elem frozen | o => o) = w.heap := by
    apply Array.ext_getElem?
    intro i
    rw [Array.getElem?_modify]
    split
    · rename_i e
      subst e
      rw [h]
      simp only [Option.map_some, Option.isSome_none]
      congr 2
      apply Array.ext_getElem?
      intro j
      simp only [Bool.false_eq_true, if_false, Array.getElem?_setIfInBounds]
      split
      · rename_i e
        subst e
        split
        · rw [hv]
        · rename_i hn
          rw [Array.getElem?_eq_none (by omega)] at hv; cases hv
      · rfl
    · rfl
  exact congrArg (fun h => { w with heap := h }) this
theorem setCells_same {w : World} {g : Nat} {cs : Array Value} {t : TypeId} {fr : Nat × Nat} (h : w.heap[g]? = some (.cells cs t fr)) : ∀ (vs : List Value) (o : Nat), (∀ j v, vs[j]? = some v → cs[o + j]? = some v) → w.setCells g o vs = w
  | [], _, _ => rfl
  | v :: r, o, hv => by
    rw [World.setCells, setCell_same h (by have := hv 0 v rfl; simpa using this)]
    exact setCells_same h r (o + 1) (fun j u hu => by have := hv (j + 1) u (by simpa using hu); rwa [show o + 1 + j = o + (j + 1) by omega])
theorem zero_u32 (w : World) : (zeroValue U32).run Try.prog w = .ok (.int .u32 0) w := by kernel_rfl
/-- Noughts cleared. -/
theorem clear_same {w : World} {g n : Nat} (h : Lb w g (List.replicate n 0)) (hn : 0 < n) : ∀ ty, (Builtin.clear_ #[27] ty #[.slice (some ⟨g, 0, none⟩) n n]).run Try.prog w = .ok (.tuple #[]) w := by
  intro ty
  rw [Lib.run_clear_slice w 27 U32 ty (.int .u32 0) Try.underlying27 zero_u32 rfl rfl g 0 n n hn (fun j hj => by rw [Nat.zero_add, h.cell (by simp; omega)]; rfl) (fun j _ => by rw [Nat.zero_add]; exact h.free j)]
  rw [setCells_same h]
  intro j v hv
  have hj : j < n := by
    rcases Nat.lt_or_ge j n with hj | hj
    · exact hj
    · rw [List.getElem?_eq_none (by simp; omega)] at hv; cases hv
  simp [hj] at hv ⊢
  exact hv
/-- What a quotient's call leaves. -/
def MadeDiv (w : World) (a b : Nat) (e : Ending) (w' : World) : Prop :=
  ∃ vq vr, e = .returned (.tuple #[vq, vr, .int .i64 0]) ∧ Dg w' (fun k => w.heap.size ≤ k) vq (a / b) (size (a / b)) ∧ Dg w' (fun k => w.heap.size ≤ k) vr (a % b) (size (a % b)) ∧ Kept w w'
set_option maxHeartbeats 2000000 in
theorem div_low (A : Option Addr) (c a : Nat) (A' : Option Addr) (c' b : Nat) (w : World) (hc : size a ≤ c) (hc' : size b ≤ c') (ha : At w A a (size a)) (hb : At w A' b (size b)) (hn : size a ≤ 8796093022207) (hm : size b ≤ 8796093022207) (hab : a < b) :
    Calls Try.prog 104 #[.slice A (size a) c, .slice A' (size b) c'] w (MadeDiv w a b) := by
  have HA := Lib.hid ha; have HB := Lib.hid hb
  have hcm := cmp_lt hab
  have hsb : ((size b : Int) == 0) = false := by
    have := size_pos (s := b) (by omega)
    simp; omega
  clear ha hb
  go_enter Try.func104, Try.ntmps104
  go_wp2_with (first | (go_at_call 102; first | ((with_reducible refine (cut_any A c a (size a) w hc HA.out (lt_size a) (by omega)).mono ?_); rintro e w1 ⟨v1, rfl, hv1, hk1⟩; obtain ⟨A1, c1, rfl, hc1, ha1⟩ := hv1.at; have HV1 := Lib.hid hv1; have HA1 := Lib.hid ha1; have HK1 := Lib.hid hk1; clear hv1 ha1 hk1) | ((with_reducible refine (cut_any A' c' b (size b) _ hc' (HB.out.kept HK1.out) (lt_size b) (by omega)).mono ?_); rintro e w2 ⟨v2, rfl, hv2, hk2⟩; obtain ⟨A2, c2, rfl, hc2, ha2⟩ := hv2.at; have HV2 := Lib.hid hv2; have HA2 := Lib.hid ha2; have HK2 := Lib.hid hk2; clear hv2 ha2 hk2)) | (go_at_call 99; (with_reducible refine (cmp_any A1 c1 a A2 c2 b _ (HA1.out.kept HK2.out) HA2.out (by omega) (by omega)).mono ?_); rintro e w3 ⟨rfl, hk3⟩; have HK3 := Lib.hid hk3; clear hk3; rw [hcm]))
  go_ret3
  have hk := HK2.out.then HK3.out
  refine ⟨_, _, rfl, ?_, ?_, HK1.out.then hk⟩
  · rw [Nat.div_eq_of_lt hab]; exact Dg.nil _ _ _
  · rw [Nat.mod_eq_of_lt hab]; exact HV1.out.up (Up.of_kept hk)
set_option maxHeartbeats 2000000 in
theorem div_one (A : Option Addr) (c a : Nat) (A' : Option Addr) (c' b : Nat) (w : World) (hc : size a ≤ c) (hc' : size b ≤ c') (ha : At w A a (size a)) (hb : At w A' b (size b)) (hn : size a ≤ 8796093022207) (hm : size b = 1) (hab : b ≤ a) :
    Calls Try.prog 104 #[.slice A (size a) c, .slice A' (size b) c'] w (MadeDiv w a b) := by
  have hb0 : 0 < b := Nat.pos_of_ne_zero (fun e => by rw [e] at hm; cases hm)
  have hb1 : b < 4294967296 := by have := lt_size b; rw [hm, Nat.pow_one] at this; exact this
  have hd : dig b 0 = b := by rw [dig_at_zero, Nat.mod_eq_of_lt hb1]
  have HA := Lib.hid ha; have HB := Lib.hid hb
  have hcm : decide (cmpI a b < 0) = false := by
    have := @cmp_neg a b
    rw [decide_eq_false_iff_not, this]; omega
  have HC := Lib.hid (fun A1 c1 A2 c2 W h1 h2 => cmp_any A1 c1 a A2 c2 b W h1 h2 (by omega) (by omega))
  generalize cmpI a b = cm at *
  have hm' : ((size b : Int) == 0) = false := by rw [hm]; rfl
  have hm2 : ((size b : Int) == 1) = true := by rw [hm]; rfl
  have hpos : 0 < size b := by omega
  have hle : size b ≤ 1 := by omega
  obtain ⟨r, hr⟩ : ∃ r, a % b = r := ⟨_, rfl⟩
  have hr1 : r < 4294967296 := by rw [← hr]; exact Nat.lt_trans (Nat.mod_lt _ hb0) hb1
  have HSm : Hid (∀ A1 c1 W, At W A1 a (size a) → Calls Try.prog 112 #[.slice A1 (size a) c1, .int .u32 (b : Int)] W fun e w' => ∃ v, e = .returned (.tuple #[v, .int .u32 (r : Int)]) ∧ Dg w' (fun k => W.heap.size ≤ k) v (a / b) (size (a / b)) ∧ Kept W w') := fun A1 c1 W h => by
    rw [← hr]; exact small_any A1 c1 a b W h hn hb0 hb1
  have HR := Lib.hid hr
  clear ha hb hm hr
  go_enter Try.func104, Try.ntmps104
  go_wp2_with (first | (go_at_call 102; first | ((with_reducible refine (cut_any A c a (size a) w hc HA.out (lt_size a) (by omega)).mono ?_); rintro e w1 ⟨v1, rfl, hv1, hk1⟩; obtain ⟨A1, c1, rfl, hc1, ha1⟩ := hv1.at; have HV1 := Lib.hid hv1; have HA1 := Lib.hid ha1; have HK1 := Lib.hid hk1; clear hv1 ha1 hk1) | ((with_reducible refine (cut_any A' c' b (size b) _ hc' (HB.out.kept HK1.out) (lt_size b) (by omega)).mono ?_); rintro e w2 ⟨v2, rfl, hv2, hk2⟩; obtain ⟨A2, c2, rfl, hc2, ha2⟩ := hv2.at; have HV2 := Lib.hid hv2; have HA2 := Lib.hid ha2; have HK2 := Lib.hid hk2; clear hv2 ha2 hk2)) | (go_at_call 99; (with_reducible refine (HC.out A1 c1 A2 c2 _ (HA1.out.kept HK2.out) HA2.out).mono ?_); rintro e w3 ⟨rfl, hk3⟩; have HK3 := Lib.hid hk3; obtain ⟨b2, o2, rfl, ct⟩ := HA2.out 0 (by omega); rw [hd, Nat.add_zero] at ct; replace ct := hk3.cell ct; clear hk3) | (go_at_call 112; (with_reducible refine (HSm.out A1 c1 _ ((HA1.out.kept HK2.out).kept HK3.out)).mono ?_); rintro e w4 ⟨v4, rfl, hv4, hk4⟩; have HV4 := Lib.hid hv4; have HK4 := Lib.hid hk4; clear hv4 hk4) | (go_at_call 110; (with_reducible refine (of_any r _ (by omega)).mono ?_); rintro e w5 ⟨v5, rfl, hv5, hk5⟩; have HV5 := Lib.hid hv5; have HK5 := Lib.hid hk5; clear hv5 hk5))
  go_ret3
  have hk := ((HK1.out.then HK2.out).then HK3.out)
  refine ⟨_, _, rfl, (HV4.out.up (Up.of_kept HK5.out)).mono (fun j hj _ => Nat.le_trans hk.size hj), ?_, (hk.then HK4.out).then HK5.out⟩
  rw [HR.out]
  exact HV5.out.mono (fun j hj _ => Nat.le_trans (hk.then HK4.out).size hj)
theorem At.lt {w : World} {A : Option Addr} {s n : Nat} (h : At w A s n) {ad : Addr} (hA : A = some ad) (hn : 0 < n) : ad.block < w.heap.size := by
  obtain ⟨b, off, e, hc⟩ := h 0 hn
  rw [hA] at e
  injection e with e
  subst e
  exact World.block_lt_of_cell? w _ hc
theorem copy_src {w : World} {A : Option Addr} {s n : Nat} (h : At w A s n) (h0 : 0 < (lim s n).length) : ∃ ad, A = some ad ∧ ∀ j v, (lim s n)[j]? = some v → w.cell? (ad.add j) = some v := by
  rw [lim_length] at h0
  obtain ⟨b, off, rfl, _⟩ := h 0 h0
  exact ⟨_, rfl, h.cells_any⟩
theorem Lb.grown {w w1 : World} {g g2 : Nat} {xs : List Nat} (h : Lb w g2 xs) (hg : w.grownBy w1 (some g)) (hne : g2 ≠ g) : Lb w1 g2 xs := (hg.block g2 h.lt (by simpa using hne)).trans h
/-- The limbs copied over noughts. -/
theorem lb_splice {w : World} {g M s L : Nat} (h : w.heap[g]? = some (.cells (splice ((List.replicate M 0).map fun (x : Nat) => Value.int .u32 (x : Int)) 0 (lim s L)).toArray U32 (0, 0))) (hL : L ≤ M) (hs : s < B ^ L) :
    Lb w g ((List.range M).map fun j => dig s j) := by
  unfold Lb Row?
  rw [h]
  congr 2
  apply congrArg
  apply List.ext_getElem?
  intro i
  simp only [splice, List.take_zero, List.nil_append, Nat.zero_add, lim_length, List.getElem?_append]
  rcases Nat.lt_or_ge i L with h1 | h1
  · rw [if_pos h1, lim_get h1]
    simp [show i < M by omega]
  · rw [if_neg (by omega)]
    rcases Nat.lt_or_ge i M with h2 | h2
    · simp [h2, dig_over hs h1, List.getElem?_replicate]
      omega
    · rw [List.getElem?_eq_none (by simp; omega), List.getElem?_eq_none (by simp; omega)]
theorem dl_range (M s : Nat) : Dl ((List.range M).map fun j => dig s j) M s := ⟨by simp, fun j hj => by simp [hj]⟩
set_option maxRecDepth 100000 in
set_option maxHeartbeats 4000000 in
theorem div_many (A : Option Addr) (c a : Nat) (A' : Option Addr) (c' b : Nat) (w : World) (hc : size a ≤ c) (hc' : size b ≤ c') (ha : At w A a (size a)) (hb : At w A' b (size b)) (hn : size a ≤ 4398046511103) (hm : 2 ≤ size b) (hab : b ≤ a) :
    Calls Try.prog 104 #[.slice A (size a) c, .slice A' (size b) c'] w (MadeDiv w a b) := by
  have hb0 : b ≠ 0 := fun e => by rw [e] at hm; exact absurd hm (by decide)
  have hss := size_le_of_le hab
  obtain ⟨i0, hi, hz0, hz1, hz2⟩ := info_parts info_u32
  have HA := Lib.hid ha; have HB := Lib.hid hb
  have hcm : decide (cmpI a b < 0) = false := by
    have := @cmp_neg a b
    rw [decide_eq_false_iff_not, this]; omega
  have HC := Lib.hid (fun A1 c1 A2 c2 W h1 h2 => cmp_any A1 c1 a A2 c2 b W h1 h2 (by omega) (by omega))
  generalize cmpI a b = cm at *
  have hm' : ((size b : Int) == 0) = false := by simp; omega
  have hm2 : ((size b : Int) == 1) = false := by simp; omega
  obtain ⟨top, htop⟩ : ∃ top, dig b (size b - 1) = top := ⟨_, rfl⟩
  have htop1 : top < 4294967296 := by rw [← htop]; exact dig_lt _ _
  have htop0 : 0 < top := by rw [← htop]; exact Nat.pos_of_ne_zero (top_ne hb0)
  have HW : Hid (∀ k, k < 32 → top * 2 ^ k < 4294967296 → DivIn a b k) := fun k hk h => div_in hb0 hab hk (by rw [htop]; exact h)
  clear ha hb
  go_enter Try.func104, Try.ntmps104
  go_wp2_with (first | (go_at_call 102; first | ((with_reducible refine (cut_any A c a (size a) w hc HA.out (lt_size a) (by omega)).mono ?_); rintro e w1 ⟨v1, rfl, hv1, hk1⟩; obtain ⟨A1, c1, rfl, hc1, ha1⟩ := hv1.at; have HV1 := Lib.hid hv1; have HA1 := Lib.hid ha1; have HK1 := Lib.hid hk1; clear hv1 ha1 hk1) | ((with_reducible refine (cut_any A' c' b (size b) _ hc' (HB.out.kept HK1.out) (lt_size b) (by omega)).mono ?_); rintro e w2 ⟨v2, rfl, hv2, hk2⟩; obtain ⟨A2, c2, rfl, hc2, ha2⟩ := hv2.at; have HV2 := Lib.hid hv2; have HA2 := Lib.hid ha2; have HK2 := Lib.hid hk2; clear hv2 ha2 hk2)) | (go_at_call 99; (with_reducible refine (HC.out A1 c1 A2 c2 _ (HA1.out.kept HK2.out) HA2.out).mono ?_); rintro e w3 ⟨rfl, hk3⟩; have HK3 := Lib.hid hk3; obtain ⟨b2, o2, rfl, ct⟩ := HA2.out (size b - 1) (by omega); rw [htop] at ct; replace ct := hk3.cell ct; clear hk3) | (go_at_call 113; (with_reducible refine (lead_any top _ htop1 htop0).mono ?_); rintro e w4 ⟨⟨k, rfl, hk, hlt⟩, rfl⟩; have HF := Lib.hid (HW.out k hk hlt); clear hlt) | (go_at_call 114; first | ((with_reducible refine (shl_any (some ⟨b2, o2, none⟩) c2 b k _ (HA2.out.kept HK3.out) (by omega) hk).mono ?_); rintro e w5 ⟨v5, rfl, hv5, hk5⟩; rw [HF.out.sV] at hv5; obtain ⟨A5, c5, rfl, hc5, ha5⟩ := hv5.at; have HA5 := Lib.hid ha5; have HK5 := Lib.hid hk5; clear hv5 ha5 hk5) | ((with_reducible refine (shl_any A1 c1 a k _ ((((HA1.out.kept HK2.out).kept HK3.out).kept HK5.out).kept HK6.out) (by omega) hk).mono ?_); rintro e w7 ⟨v7, rfl, hv7, hk7⟩; obtain ⟨A7, c7, rfl, hc7, ha7⟩ := hv7.at; have HA7 := Lib.hid ha7; have HK7 := Lib.hid hk7; have hL := HF.out.sA; clear hv7 ha7 hk7)) | (at_make; first | (refine wpList_make_full _ rfl (.tmp 57) (.tmp 57) 27 rfl w5.heap.size U32 i0 (.int .u32 0) 1 Try.underlying27 hi hz0 hz1 _ _ _ _ (size a + 1) rfl rfl (by omega) (by omega) (by rw [hz2]; omega) (by unfold maxLen; omega) (Nat.le_refl _) ?_; intro w6 hown hgrow; have HL6 := Lib.hid (Lb.of_own hown); have HK6 := Lib.hid (Kept.grown (Below.refl _ _) hgrow (fun k hk => by cases hk) : Kept w5 w6); have hcl := clear_same HL6.out (by omega); clear hown hgrow) | (refine wpList_make_full _ rfl (.tmp 70) (.tmp 70) 27 rfl w8.heap.size U32 i0 (.int .u32 0) 1 Try.underlying27 hi hz0 hz1 _ _ _ _ (size a - size b + 1) rfl rfl (by omega) (by omega) (by rw [hz2]; omega) (by unfold maxLen; omega) (Nat.le_refl _) ?_; intro w9 hown hgrow; have HL9 := Lib.hid (Lb.of_own hown); have HK9 := Lib.hid (Kept.grown (Below.refl _ _) hgrow (fun k hk => by cases hk) : Kept w8 w9); clear hown hgrow)) | (simp only [hcl]; clear hcl) | ((with_reducible show wpList _ _ _ _ _ _); refine wpList_copy_splice (o := ⟨some 64, _, _, _, _, _⟩) rfl (.tmp 60) (.tmp 63) 27 27 rfl U32 Try.underlying27 (by kernel_rfl) _ _ _ _ _ _ rfl rfl w5.heap.size 0 _ U32 (HL6.out.kept HK7.out) (lim (a * 2 ^ k) (size (a * 2 ^ k))) (by rw [lim_length]; exact (Nat.min_eq_left HF.out.sA).symm) (fun h0 => ⟨rfl, copy_src HA7.out h0⟩) (by rw [lim_length]; simp; omega) (lim_one _ _) w5.heap.size w7 (Below.refl _ _) (Nat.le_refl _) ?_; intro w8 hu hk8; have HL8 := Lib.hid (lb_splice hu.out HF.out.sA (lt_size _)); have HK8 : Hid (Kept w5 w8) := (Kept.then HK6.out HK7.out).trans hk8; clear hu hk8))
  have HD0 : Hid (DivAt (a * 2 ^ k) (b * 2 ^ k) (size b) (size a + 1) (size a - size b + 1) ((List.range (size a + 1)).map fun j => dig (a * 2 ^ k) j)) := by
    have h := HF.out
    refine ⟨hm, h.V0, by rw [← h.sV]; exact lt_size _, h.Vge, ?_⟩
    rw [Nat.mod_eq_of_lt h.start]; exact dl_range _ _
  have HK59 : Hid (Kept w5 w9) := Kept.then HK8.out HK9.out
  have HL89 := Lib.hid (HL8.out.kept HK9.out)
  have hlt85 : w5.heap.size < w8.heap.size := HL8.out.lt
  clear hcm hm' hm2 htop0 htop1 hL
  go_loopw [13] (fun v wr => ∃ (i : Nat) (xs ys : List Nat), i ≤ size a - size b + 1 ∧ v = .int .i64 ((i : Int) - 1) ∧ Hid (DivAt (a * 2 ^ k) (b * 2 ^ k) (size b) (size a + 1) i xs) ∧ Hid (ys.length = size a - size b + 1 ∧ ∀ t, i ≤ t → t < size a - size b + 1 → ys.getD t 0 = dig (a / b) t) ∧ Hid (Lb wr w5.heap.size xs) ∧ Hid (Lb wr w8.heap.size ys) ∧ Hid (Kept w5 wr)) (fun v _ => (intOf v + 1).toNat)
  case atStart => exact ⟨size a - size b + 1, _, _, Nat.le_refl _, int_eq (by omega), HD0, ⟨by simp, fun t h1 h2 => absurd h2 (by omega)⟩, HL89, HL9, HK59⟩
  case round =>
    clear HD0 HL89 HL9 HK59 HL8 HL6
    obtain ⟨i, xs, ys, hi', rfl, HD, HY, HX, HYL, HK⟩ := hrel
    rcases Nat.eq_zero_or_pos i with h | h
    · subst h
      have hrem := HD.out.dl
      rw [Nat.pow_zero, Nat.mul_one, HF.out.rem] at hrem
      have HR := Lib.hid hrem
      have HRs : Hid (a % b * 2 ^ k < B ^ (size a + 1)) := Nat.lt_of_le_of_lt (Nat.mul_le_mul_right _ (Nat.mod_le a b)) HF.out.Alt
      have HQs : Hid (a / b < B ^ (size a - size b + 1)) := by
        show _ < _
        rw [← HF.out.quo, Nat.div_lt_iff_lt_mul HF.out.V0, Nat.mul_comm (B ^ _)]; exact HF.out.start
      have HAq : Hid (At wr (some ⟨w8.heap.size, 0, none⟩) (a / b) (size a - size b + 1)) := (Lb.dg HYL.out HY.out.1 (s := a / b) (fun t ht => HY.out.2 t (Nat.zero_le _) ht) (S := fun _ => True) trivial).at_own
      have HAr : Hid (At wr (some ⟨w5.heap.size, 0, none⟩) (a % b * 2 ^ k) (size a + 1)) := (Lb.dg HX.out HR.out.1 (s := a % b * 2 ^ k) (fun t ht => HR.out.2 t ht) (S := fun _ => True) trivial).at_own
      clear hrem
      go_wp2_with (first | (go_at_call 102; first | ((with_reducible refine (cut_any (some ⟨w8.heap.size, 0, none⟩) _ (a / b) _ _ (Nat.le_refl _) HAq.out HQs.out (by omega)).mono ?_); rintro e w10 ⟨v10, rfl, hv10, hk10⟩; have HV10 := Lib.hid hv10; have HK10 := Lib.hid hk10; clear hv10 hk10) | ((with_reducible refine (cut_any (some ⟨w5.heap.size, 0, none⟩) _ (a % b * 2 ^ k) _ _ (Nat.le_refl _) (HAr.out.kept HK10.out) HRs.out (by omega)).mono ?_); rintro e w11 ⟨v11, rfl, hv11, hk11⟩; obtain ⟨A11, c11, rfl, hc11, ha11⟩ := hv11.at; have HA11 := Lib.hid ha11; have HK11 := Lib.hid hk11; have hs11 := (lt_iff _ _).1 HRs.out; clear hv11 hk11 ha11)) | (go_at_call 118; (with_reducible refine (shr_any A11 c11 (a % b * 2 ^ k) k _ HA11.out (by omega) hk).mono ?_); rintro e w12 ⟨v12, rfl, hv12, hk12⟩; have HV12 := Lib.hid hv12; have HK12 := Lib.hid hk12; clear hv12 hk12))
      go_ret3
      have hk0 := Kept.then (Kept.then (Kept.then (Kept.then HK1.out HK2.out) HK3.out) HK5.out) HK.out
      have hk1 := Kept.then hk0 HK10.out
      refine ⟨_, _, rfl, (HV10.out.up (Up.of_kept (Kept.then HK11.out HK12.out))).mono (fun t ht _ => Nat.le_trans hk0.size ht), ?_, Kept.then (Kept.then hk1 HK11.out) HK12.out⟩
      have h12 := HV12.out
      rw [Nat.mul_div_cancel _ (Nat.pow_pos (by decide))] at h12
      exact h12.mono (fun t ht _ => Nat.le_trans (Kept.then hk1 HK11.out).size ht)
    · obtain ⟨j, rfl⟩ : ∃ j, i = j + 1 := ⟨i - 1, by omega⟩
      have hd := HD.out
      have htl := Tp_lt hd
      have hv : 0 < dig (b * 2 ^ k) (size b - 1) := by rw [← HF.out.sV]; exact Nat.pos_of_ne_zero (top_ne (Nat.ne_of_gt hd.V0))
      have HG : Hid (GuessIn wr w5.heap.size xs (size a + 1) A5 (b * 2 ^ k) (size b) j (dig (Tp (a * 2 ^ k) (b * 2 ^ k) j) (size b)) (dig (Tp (a * 2 ^ k) (b * 2 ^ k) j) (size b - 1)) (dig (Tp (a * 2 ^ k) (b * 2 ^ k) j) (size b - 2)) (dig (b * 2 ^ k) (size b - 1)) (dig (b * 2 ^ k) (size b - 2))) := by
        refine ⟨HX.out, hd.dl.1, by omega, hm, HA5.out.kept HK.out, Tp_dig hd (by omega), ?_, ?_, rfl, rfl, dig_lt _ _, dig_lt _ _, dig_lt _ _⟩
        · rw [show j + size b - 1 = j + (size b - 1) by omega]; exact Tp_dig hd (by omega)
        · rw [show j + size b - 2 = j + (size b - 2) by omega]; exact Tp_dig hd (by omega)
      have HGU := Lib.hid (top_le (by omega) hd.Vlt htl)
      have HGN := Lib.hid (fun q hq hq' hb' => @guess_near (Tp (a * 2 ^ k) (b * 2 ^ k) j) (b * 2 ^ k) (size b) q hm hd.Vlt hd.Vge htl hq hq' hb')
      have HTS := Lib.hid (fun q hq => @take_split (Tp (a * 2 ^ k) (b * 2 ^ k) j) (b * 2 ^ k) q (size b) hd.V0 hd.Vlt (Tp_lt' hd) hq)
      have HTQ := Lib.hid (Tp_quo hd)
      have HTD := Lib.hid (fun t ht => @Tp_dig (a * 2 ^ k) (b * 2 ^ k) (size b) (size a + 1) j xs hd t ht)
      have HA5n : Hid (∀ ad, A5 = some ad → 0 < size b → ad.block ≠ w5.heap.size) := fun ad e h0 => Nat.ne_of_lt (HA5.out.lt e h0)
      have HV := Lib.hid hv
      have HXL := Lib.hid hd.dl.1
      have HTL := Lib.hid (Tp_lt' hd)
      have HDV := Lib.hid hd.Vlt
      clear hd htl hv h
      go_wp2_with (first | (go_at_call 115; (with_reducible refine (guess_any wr w5.heap.size xs (size a + 1) A5 (b * 2 ^ k) (size b) c5 j _ _ _ _ _ HG.out HV.out HGU.out (by omega)).mono ?_); rintro e w10 ⟨q, rfl, hgood, hk10⟩; obtain ⟨bw, R, hbw, hR, heq, hqb, hR0, hR1⟩ := HTS.out q (HGN.out q hgood.1 hgood.2.1 hgood.2.2); have hq2 : q < 4294967296 := hgood.1; have hqb2 : bw ≤ q := (by rw [hqb]; exact Nat.le_add_left _ _); have HRb := Lib.hid hR; have HEQ := Lib.hid heq; have HQB := Lib.hid hqb; have HR0 := Lib.hid hR0; have HR1 := Lib.hid hR1; have HK10 := Lib.hid hk10; clear hgood hk10 hR heq hqb hR0 hR1) | (go_at_call 116; (with_reducible refine (take_any w10 w5.heap.size xs (size a + 1) A5 (b * 2 ^ k) (size b) c5 j q (Tp (a * 2 ^ k) (b * 2 ^ k) j) R bw (HX.out.kept HK10.out) HXL.out (by omega) (by omega) ((HA5.out.kept HK.out).kept HK10.out) HA5n.out HDV.out hq2 HTL.out (fun t ht => HTD.out t (by omega)) HRb.out hbw HEQ.out).mono ?_); rintro e w11 ⟨rfl, xs1, hl1, hlaid1, hg1⟩; have HX1 := Lib.hid hl1; have HLD1 := Lib.hid hlaid1; have HXL1 := Lib.hid hlaid1.1; have HLT1 := Lib.hid hlaid1.2; have HG1 := Lib.hid hg1; have hy1 := (HYL.out.kept HK10.out).grown hg1 (by omega); have HY1 := Lib.hid hy1; have cy := hy1.cell (i := j) (by rw [HY.out.1]; omega); have zy := hy1.free j; generalize ys.getD j 0 = y0 at cy; clear hl1 hlaid1 hg1 hy1) | (go_at_call 117; (with_reducible refine (back_any w11 w5.heap.size xs1 (size a + 1) A5 (b * 2 ^ k) (size b) c5 j R HX1.out HXL1.out (by omega) (by omega) (((HA5.out.kept HK.out).kept HK10.out).grown HG1.out HA5n.out) HA5n.out HDV.out (fun t ht => by rw [HLT1.out _ (by omega), if_pos (by omega)]; congr 1; omega)).mono ?_); rintro e w12 ⟨rfl, xs2, hl2, hlaid2, hg2⟩; have HX2 := Lib.hid hl2; have HLD2 := Lib.hid hlaid2; have HG2 := Lib.hid hg2; have hy2 := HY1.out.grown hg2 (by omega); have HY2 := Lib.hid hy2; clear cy zy; have cy := hy2.cell (i := j) (by rw [HY.out.1]; omega); have zy := hy2.free j; clear hl2 hlaid2 hg2 hy2))
      · have hb1 : 0 < bw := by assumption
        have hb2 : bw = 1 := by omega
        go_roundw
        case measure => simp [intOf]
        case rel =>
          refine ⟨j, xs2, ys.set j (q - 1), by omega, rfl, HD.out.next HLD2.out.1 (fun p hp => ?_), quo_set HY.out (by omega) (by rw [← HF.out.quo, ← HTQ.out, HQB.out, hb2, Nat.add_sub_cancel]), HX2.out.far (by show w5.heap.size ≠ w8.heap.size; omega) _, HY2.out.put j _ (by omega), (((Kept.then HK.out HK10.out).grown HG1.out (fun t ht => by cases ht; exact Nat.le_refl _)).grown HG2.out (fun t ht => by cases ht; exact Nat.le_refl _)).set (Nat.le_of_lt hlt85) _ _⟩
          rw [HLD2.out.2 p hp]
          by_cases hc1 : j ≤ p ∧ p < j + (size b + 1)
          · rw [if_pos hc1, if_pos hc1, HR1.out hb2, Nat.add_comm (B ^ _), ← Nat.mul_one (B ^ _), dig_low (by omega)]
          · rw [if_neg hc1, if_neg hc1, HLT1.out p hp, if_neg hc1]
      · have hb1 : ¬ 0 < bw := by assumption
        have hb2 : bw = 0 := by omega
        go_roundw
        case measure => simp [intOf]
        case rel =>
          refine ⟨j, xs1, ys.set j q, by omega, rfl, HD.out.next HXL1.out (fun p hp => ?_), quo_set HY.out (by omega) (by rw [← HF.out.quo, ← HTQ.out, HQB.out, hb2, Nat.add_zero]), HX1.out.far (by show w5.heap.size ≠ w8.heap.size; omega) _, HY1.out.put j _ rfl, ((Kept.then HK.out HK10.out).grown HG1.out (fun t ht => by cases ht; exact Nat.le_refl _)).set (Nat.le_of_lt hlt85) _ _⟩
          rw [HLT1.out p hp, HR0.out hb2]
theorem div_any (A : Option Addr) (c a : Nat) (A' : Option Addr) (c' b : Nat) (w : World) (hc : size a ≤ c) (hc' : size b ≤ c') (ha : At w A a (size a)) (hb : At w A' b (size b)) (hn : size a ≤ 4398046511103) (hm : size b ≤ 4398046511103) (hb0 : b ≠ 0) :
    Calls Try.prog 104 #[.slice A (size a) c, .slice A' (size b) c'] w (MadeDiv w a b) := by
  rcases Nat.lt_or_ge a b with h | h
  · exact div_low A c a A' c' b w hc hc' ha hb (by omega) (by omega) h
  · have := size_pos hb0
    rcases Nat.lt_or_ge (size b) 2 with h2 | h2
    · exact div_one A c a A' c' b w hc hc' ha hb (by omega) (by omega) h
    · exact div_many A c a A' c' b w hc hc' ha hb hn h2 h
end Go.Proofs.Ytjmpanhacfjcaaa.V
/- Limbs: walks: the greatest common divisor. -/
namespace Go.Proofs.Ytjmpanhacfjcaaa.V
open Go Go.RowKit Go.Proofs.Ytjmpanhacfjcaaa.PN
set_option linter.unusedVariables false
set_option linter.unusedSimpArgs false
set_option maxRecDepth 100000 in
set_option maxHeartbeats 2000000 in
theorem gcd_any (A : Option Addr) (c a : Nat) (A' : Option Addr) (c' b : Nat) (w : World) (hc : size a ≤ c) (hc' : size b ≤ c') (ha : At w A a (size a)) (hb : At w A' b (size b)) (hn : size a ≤ 4398046511103) (hm : size b ≤ 4398046511103) :
    Calls Try.prog 101 #[.slice A (size a) c, .slice A' (size b) c'] w (MadeNat w (Nat.gcd a b)) := by
  have HA := Lib.hid ha; have HB := Lib.hid hb
  clear ha hb
  go_enter Try.func101, Try.ntmps101
  go_wp2_with (go_at_call 102; first | ((with_reducible refine (cut_any A c a (size a) w hc HA.out (lt_size a) (by omega)).mono ?_); rintro e w1 ⟨v1, rfl, hv1, hk1⟩; obtain ⟨A1, c1, rfl, hc1, ha1⟩ := hv1.at; have HA1 := Lib.hid ha1; have HK1 := Lib.hid hk1; clear hv1 ha1 hk1) | ((with_reducible refine (cut_any A' c' b (size b) _ hc' (HB.out.kept HK1.out) (lt_size b) (by omega)).mono ?_); rintro e w2 ⟨v2, rfl, hv2, hk2⟩; obtain ⟨A2, c2, rfl, hc2, ha2⟩ := hv2.at; have HA2 := Lib.hid ha2; have HK2 := Lib.hid hk2; clear hv2 ha2 hk2))
  have H1 := Lib.hid (HA1.out.kept HK2.out)
  have HK := Lib.hid (Kept.then HK1.out HK2.out)
  clear HA1 HK1 HK2
  go_loopg [0, 1] b (fun y v0 v1 wr => ∃ (x : Nat) (A1 : Option Addr) (c1 : Nat) (A2 : Option Addr) (c2 : Nat), v0 = .slice A1 (size x) c1 ∧ v1 = .slice A2 (size y) c2 ∧ size x ≤ c1 ∧ size y ≤ c2 ∧ size x ≤ 4398046511103 ∧ size y ≤ 4398046511103 ∧ Hid (At wr A1 x (size x)) ∧ Hid (At wr A2 y (size y)) ∧ Hid (Nat.gcd x y = Nat.gcd a b) ∧ Hid (Kept w wr))
  case atStart => exact ⟨a, A1, c1, A2, c2, rfl, rfl, hc1, hc2, hn, hm, H1, HA2, rfl, HK⟩
  case round =>
    clear H1 HA2 HK hc1 hc2
    obtain ⟨x, A4, c4, A5, c5, rfl, rfl, hc1, hc2, hx, hy, H1, H2, HG, HK⟩ := hrel
    rcases Nat.eq_zero_or_pos gk with h | h
    · subst h
      go_wp2_with (go_at_call 102; (with_reducible refine (cut_any A4 c4 x (size x) _ hc1 H1.out (lt_size x) (by omega)).mono ?_); rintro e w3 ⟨v3, rfl, hv3, hk3⟩)
      go_ret
      have hg := HG.out
      rw [Nat.gcd_zero_right] at hg
      rw [← hg]
      exact MadeDg.after HK.out ⟨_, rfl, hv3, hk3⟩
    · have hs : 0 < size gk := size_pos (by omega)
      go_wp2_with (go_at_call 104; (with_reducible refine (div_any A4 c4 x A5 c5 gk _ hc1 hc2 H1.out H2.out hx hy (by omega)).mono ?_); rintro e w3 ⟨vq, vr, rfl, hq, hr, hk3⟩; obtain ⟨A3, c3, rfl, hc3, ha3⟩ := hr.at; have H3 := Lib.hid ha3; have HK3 := Lib.hid hk3; clear hq hr ha3 hk3)
      go_roundg (x % gk)
      case measure => exact Nat.mod_lt _ h
      case rel => exact ⟨gk, A5, c5, A3, c3, rfl, rfl, hc2, hc3, hy, Nat.le_trans (size_le_of_le (Nat.mod_le _ _)) hx, H2.out.kept HK3.out, H3, by show _ = _; rw [← HG.out, Nat.gcd_comm, ← Nat.gcd_rec, Nat.gcd_comm], Kept.then HK.out HK3.out⟩
end Go.Proofs.Ytjmpanhacfjcaaa.V
/- Rational numbers: walks: lowest terms. -/
namespace Go.Proofs.Ytjmpanhacfjcaaa.V
open Go Go.RowKit Go.Proofs.Ytjmpanhacfjcaaa.PN
set_option linter.unusedVariables false
set_option linter.unusedSimpArgs false
/-! ### A struct that a call hands back -/
abbrev RT : TypeId := 29
theorem row_new (w : World) (cs : Array Value) (T : TypeId) : Row? (w.alloc (.cells cs T)) w.heap.size cs T := heap_alloc_new w _
theorem Row?.set {w : World} {g : Nat} {cs : Array Value} {T : TypeId} (h : Row? w g cs T) (o : Nat) (u : Value) : Row? (w.setCell ⟨g, o, none⟩ u) g (cs.setIfInBounds o u) T := heap_setCell_same w g o cs T u h
theorem info_rat : (Try.prog.info? RT).map (·.size) = some 3 := by kernel_rfl
theorem ret_box {fn : Func} {p : Tmp} {R : Ending → World → Prop} {a : Act} {w : World} {g : Nat} {x y z : Value} (h : fn.results = #[.cell p RT]) (hp : a.tmps.getD p undef = .pointer (some ⟨g, 0, none⟩))
    (hg : Row? w g #[x, y, z] RT) (hd : a.defers = []) (hR : R (.returned (.agg #[x, y, z])) w) : bodyPost Try.prog fn R .ret a w :=
  bodyPost_ret (results_cell_row h a.tmps w g RT #[x, y, z] (0, 0) _ hp hg Try.underlying29 rfl info_rat) hd hR
/-- A number stored into a box, all of it. -/
def set3 (w : World) (g : Nat) (s : Bool) (vn vd : Value) : World := ((w.setCell ⟨g, 0, none⟩ (.bool s)).setCell ⟨g, 1, none⟩ vn).setCell ⟨g, 2, none⟩ vd
theorem row_set3 {w : World} {g : Nat} {x y z : Value} {T : TypeId} (h : Row? w g #[x, y, z] T) (s : Bool) (vn vd : Value) : Row? (set3 w g s vn vd) g #[.bool s, vn, vd] T := ((h.set 0 _).set 1 _).set 2 _
theorem up_set3 {a w : World} (h : Up a w) {g : Nat} {cs : Array Value} (r : Row? w g cs RT) (s : Bool) (vn vd : Value) : Up a (set3 w g s vn vd) := by
  have t0 : Typed w g RT := ⟨⟨cs, r⟩⟩
  have h1 := h.set t0 (by decide) 0 (.bool s)
  have t1 : Typed (w.setCell ⟨g, 0, none⟩ (.bool s)) g RT := ⟨⟨_, r.set 0 _⟩⟩
  have h2 := h1.set t1 (by decide) 1 vn
  have t2 : Typed ((w.setCell ⟨g, 0, none⟩ (.bool s)).setCell ⟨g, 1, none⟩ vn) g RT := ⟨⟨_, (r.set 0 _).set 1 _⟩⟩
  exact h2.set t2 (by decide) 2 vd
theorem kept_set3 {a w : World} (h : Kept a w) {g : Nat} (hg : a.heap.size ≤ g) (s : Bool) (vn vd : Value) : Kept a (set3 w g s vn vd) := ((h.set hg 0 _).set hg 1 _).set hg 2 _
theorem ret_rat {fn : Func} {p : Tmp} {a : Act} {w w1 : World} {g : Nat} {x y z : Value} {s : Bool} {vn vd : Value} {q : Rat} (h : fn.results = #[.cell p RT]) (hp : a.tmps.getD p undef = .pointer (some ⟨g, 0, none⟩)) (hd : a.defers = [])
    (r : Row? w1 g #[x, y, z] RT) (hg : w.heap.size ≤ g) (hk : Kept w w1) (hq : RatS w1 (fun _ => True) s vn vd q) : bodyPost Try.prog fn (MadeRat w q) .ret a (set3 w1 g s vn vd) :=
  ret_box h hp (row_set3 r s vn vd) hd ⟨s, vn, vd, rfl, hq.up (up_set3 (Up.refl w1) r s vn vd), kept_set3 hk hg s vn vd⟩
/-! ### The contracts by what values say -/
theorem of_v (x : Nat) (w : World) (hx : x < 18446744073709551616) : Calls Try.prog 110 #[.int .u64 (x : Int)] w (MadeNat w x) := of_any x w hx
theorem gcd_v {w : World} {va vb : Value} {a b : Nat} [ha : NatAt w va a] [hb : NatAt w vb b] (hn : size a ≤ 4398046511103) (hm : size b ≤ 4398046511103) : Calls Try.prog 101 #[va, vb] w (MadeNat w (Nat.gcd a b)) := by
  obtain ⟨A, c, rfl, hc, h1⟩ := ha.at
  obtain ⟨A', c', rfl, hc', h2⟩ := hb.at
  exact gcd_any A c a A' c' b w hc hc' h1 h2 hn hm
theorem div_v {w : World} {va vb : Value} {a b : Nat} [ha : NatAt w va a] [hb : NatAt w vb b] (hn : size a ≤ 4398046511103) (hm : size b ≤ 4398046511103) (h0 : b ≠ 0) : Calls Try.prog 104 #[va, vb] w (MadeDiv w a b) := by
  obtain ⟨A, c, rfl, hc, h1⟩ := ha.at
  obtain ⟨A', c', rfl, hc', h2⟩ := hb.at
  exact div_any A c a A' c' b w hc hc' h1 h2 hn hm h0
theorem mul_v {w : World} {va vb : Value} {a b : Nat} [ha : NatAt w va a] [hb : NatAt w vb b] (hn : size a ≤ 4398046511103) (hm : size b ≤ 4398046511103) : Calls Try.prog 85 #[va, vb] w (MadeNat w (a * b)) := by
  obtain ⟨A, c, rfl, hc, h1⟩ := ha.at
  obtain ⟨A', c', rfl, hc', h2⟩ := hb.at
  exact mul_any A c a A' c' b w h1 h2 (by omega) (by omega)
theorem add_v {w : World} {va vb : Value} {a b : Nat} [ha : NatAt w va a] [hb : NatAt w vb b] (hn : size a ≤ 4398046511103) (hm : size b ≤ 4398046511103) : Calls Try.prog 91 #[va, vb] w (MadeNat w (a + b)) := by
  obtain ⟨A, c, rfl, hc, h1⟩ := ha.at
  obtain ⟨A', c', rfl, hc', h2⟩ := hb.at
  exact add_any A c a A' c' b w h1 h2 (by omega) (by omega)
theorem sub_v {w : World} {va vb : Value} {a b : Nat} [ha : NatAt w va a] [hb : NatAt w vb b] (hn : size a ≤ 4398046511103) (hm : size b ≤ 4398046511103) (hab : b ≤ a) : Calls Try.prog 92 #[va, vb] w (MadeDgOk w (a - b) (size (a - b)) 0) := by
  obtain ⟨A, c, rfl, hc, h1⟩ := ha.at
  obtain ⟨A', c', rfl, hc', h2⟩ := hb.at
  exact sub_any A c a A' c' b w h1 h2 (by omega) (by omega) hab
theorem sub_no {w : World} {va vb : Value} {a b : Nat} [ha : NatAt w va a] [hb : NatAt w vb b] (hn : size a ≤ 4398046511103) (hm : size b ≤ 4398046511103) (hab : a < b) : Calls Try.prog 92 #[va, vb] w (MadeDgOk w 0 0 1) := by
  obtain ⟨A, c, rfl, hc, h1⟩ := ha.at
  obtain ⟨A', c', rfl, hc', h2⟩ := hb.at
  exact sub_less A c a A' c' b w h1 h2 (by omega) (by omega) hab
theorem cmp_v {w : World} {va vb : Value} {a b : Nat} [ha : NatAt w va a] [hb : NatAt w vb b] (hn : size a ≤ 4398046511103) (hm : size b ≤ 4398046511103) : Calls Try.prog 99 #[va, vb] w fun e w' => e = .returned (.int .i64 (cmpI a b)) ∧ Kept w w' := by
  obtain ⟨A, c, rfl, hc, h1⟩ := ha.at
  obtain ⟨A', c', rfl, hc', h2⟩ := hb.at
  exact cmp_any A c a A' c' b w h1 h2 (by omega) (by omega)
set_option maxHeartbeats 1000000 in
theorem rone_any (w : World) : Calls Try.prog 100 #[] w (MadeNat w 1) := by
  go_enter Try.func100, Try.ntmps100
  go_wp2_with (go_at_call 110; refine (of_v 1 _ (by decide)).mono ?_; rintro e w1 ⟨v1, rfl, hv1, hk1⟩)
  go_ret
  exact ⟨_, rfl, hv1, hk1⟩
set_option maxHeartbeats 1000000 in
theorem rzero_any (w : World) : Calls Try.prog 103 #[] w (MadeRat w 0) := by
  go_enter Try.func103, Try.ntmps103
  go_wp2_with (go_at_call 100; refine (rone_any _).mono ?_; rintro e w1 ⟨v1, rfl, hv1, hk1⟩; obtain ⟨A1, c1, rfl, _, _⟩ := hv1.at; have HV1 := Lib.hid hv1; have HK1 := Lib.hid hk1; obtain ⟨hc1, hf1⟩ := bcell hk1; clear hv1 hk1)
  exact ret_rat rfl rfl rfl (HK1.out.row (row_new w _ _)) (Nat.le_refl _) ((Kept.alloc w _).then HK1.out) ⟨rfl, Dg.nil _ _ _, HV1.out.any⟩
set_option maxHeartbeats 2000000 in
theorem low_any (neg : Bool) (vn vd : Value) (n d : Nat) (w : World) (hn : NatAt w vn n) (hd : NatAt w vd d) (hs : size n ≤ 4398046511103) (hs' : size d ≤ 4398046511103) (hd0 : d ≠ 0) :
    Calls Try.prog 90 #[.bool neg, vn, vd] w (MadeRat w (mk neg n d)) := by
  obtain ⟨An, cn, rfl, hcn, han⟩ := hn.at
  obtain ⟨Ad, cd, rfl, hcd, had⟩ := hd.at
  have HN := Lib.hid hn.up; have HD := Lib.hid hd.up
  clear han had hn hd
  rcases Nat.eq_zero_or_pos n with h | h
  · subst h
    have hz : ((size 0 : Int) == 0) = true := by rw [size_zero]; rfl
    rw [mk_zero]
    go_enter Try.func90, Try.ntmps90
    go_wp2_with (go_at_call 103; refine (rzero_any _).mono ?_; rintro e w1 ⟨s1, vn1, vd1, rfl, hq1, hk1⟩; obtain ⟨An1, cn1, rfl, _, _⟩ := hq1.2.1.at; obtain ⟨Ad1, cd1, rfl, _, _⟩ := hq1.2.2.at; have HQ1 := Lib.hid hq1; have HK1 := Lib.hid hk1; obtain ⟨hc1, hf1⟩ := bcell hk1; clear hq1 hk1)
    exact ret_rat rfl rfl rfl (HK1.out.row (row_new w _ _)) (Nat.le_refl _) ((Kept.alloc w _).then HK1.out) HQ1.out
  · have hz : ((size n : Int) == 0) = false := by
      have := size_pos (s := n) (by omega)
      simp; omega
    have hg : 0 < Nat.gcd n d := Nat.gcd_pos_of_pos_left d h
    have hgs : size (Nat.gcd n d) ≤ size n := size_le_of_le (Nat.le_of_dvd h (Nat.gcd_dvd_left n d))
    go_enter Try.func90, Try.ntmps90
    have iN := HN.out; have iD := HD.out
    go_wp2_with (first | (go_at_call 101; refine Calls.mono (gcd_v hs hs') ?_; rintro e w1 ⟨v1, rfl, hv1, hk1⟩; obtain ⟨A1, c1, rfl, _, _⟩ := hv1.at; have i1 := NatS.lift hv1; have u1 := Kept.chain hk1; have HK1 := Lib.hid hk1; obtain ⟨hc1, hf1⟩ := bcell hk1; have z1 : w.heap.size < w1.heap.size := Nat.lt_of_lt_of_le (by simp) hk1.size; clear hv1 hk1) | (go_at_call 104; first | (refine Calls.mono (div_v (a := n) (b := Nat.gcd n d) (by omega) (by omega) (by omega)) ?_; rintro e w2 ⟨vq2, vr2, rfl, hq2, hr2, hk2⟩; obtain ⟨A2, c2, rfl, _, _⟩ := hq2.at; obtain ⟨B2, b2, rfl, _, _⟩ := hr2.at; have HV2 := Lib.hid hq2; have u2 := Kept.chain hk2; have HK2 := Lib.hid hk2; obtain ⟨hc2, hf2⟩ := bcell hk2; have z2 := Nat.lt_of_lt_of_le z1 hk2.size; clear hq2 hr2 hk2) | (refine Calls.mono (div_v (a := d) (b := Nat.gcd n d) (by omega) (by omega) (by omega)) ?_; rintro e w3 ⟨vq3, vr3, rfl, hq3, hr3, hk3⟩; obtain ⟨A3, c3, rfl, _, _⟩ := hq3.at; obtain ⟨B3, b3, rfl, _, _⟩ := hr3.at; have HV3 := Lib.hid hq3; have HK3 := Lib.hid hk3; obtain ⟨hc3, hf3⟩ := bcell hk3; have z3 := Nat.lt_of_lt_of_le z2 hk3.size; clear hq3 hr3 hk3)))
    have hk := Kept.then (Kept.then HK1.out HK2.out) HK3.out
    refine ret_rat rfl rfl rfl (hk.row (row_new w _ _)) (Nat.le_refl _) ((Kept.alloc w _).then hk) ⟨(mk_ng neg (by omega) hd0).symm, ?_, ?_⟩
    · unfold NatS; rw [mk_num neg hd0]; exact (HV2.out.up (Up.of_kept HK3.out)).any
    · unfold NatS; rw [mk_den neg hd0]; exact HV3.out.any
end Go.Proofs.Ytjmpanhacfjcaaa.V
/- Rational numbers: walks: products. -/
namespace Go.Proofs.Ytjmpanhacfjcaaa.V
open Go Go.RowKit Go.Proofs.Ytjmpanhacfjcaaa.PN
set_option linter.unusedVariables false
set_option linter.unusedSimpArgs false
/-! ### Two boxes that are read while calls make memory -/
theorem two_step {W w w1 : World} {g h : Nat} {a b c a' b' c' : Value}
    (hs : Kept W w ∧ w.cell? ⟨g, 0, none⟩ = some a ∧ w.cell? ⟨g, 1, none⟩ = some b ∧ w.cell? ⟨g, 2, none⟩ = some c ∧ w.cell? ⟨h, 0, none⟩ = some a' ∧ w.cell? ⟨h, 1, none⟩ = some b' ∧ w.cell? ⟨h, 2, none⟩ = some c') (hk : Kept w w1) :
    Kept W w1 ∧ w1.cell? ⟨g, 0, none⟩ = some a ∧ w1.cell? ⟨g, 1, none⟩ = some b ∧ w1.cell? ⟨g, 2, none⟩ = some c ∧ w1.cell? ⟨h, 0, none⟩ = some a' ∧ w1.cell? ⟨h, 1, none⟩ = some b' ∧ w1.cell? ⟨h, 2, none⟩ = some c' :=
  ⟨Kept.then hs.1 hk, hk.cell hs.2.1, hk.cell hs.2.2.1, hk.cell hs.2.2.2.1, hk.cell hs.2.2.2.2.1, hk.cell hs.2.2.2.2.2.1, hk.cell hs.2.2.2.2.2.2⟩
theorem cell_set3 (w : World) (g : Nat) (s : Bool) (vn vd : Value) {k : Nat} (o : Nat) (h : k ≠ g) : (set3 w g s vn vd).cell? ⟨k, o, none⟩ = w.cell? ⟨k, o, none⟩ := by
  unfold set3
  rw [World.cell?_setCell_other (h := fun e => h (by cases e; rfl)), World.cell?_setCell_other (h := fun e => h (by cases e; rfl)), World.cell?_setCell_other (h := fun e => h (by cases e; rfl))]
theorem three {w : World} {g : Nat} {x y z : Value} {T : TypeId} (h : Row? w g #[x, y, z] T) : w.cell? ⟨g, 0, none⟩ = some x ∧ w.cell? ⟨g, 1, none⟩ = some y ∧ w.cell? ⟨g, 2, none⟩ = some z ∧ w.frozen? ⟨g, 0, none⟩ = false ∧ w.frozen? ⟨g, 1, none⟩ = false ∧ w.frozen? ⟨g, 2, none⟩ = false :=
  ⟨cell_of_row w g 0 _ _ _ h, cell_of_row w g 1 _ _ _ h, cell_of_row w g 2 _ _ _ h, frozen_of_row w g 0 _ _ h, frozen_of_row w g 1 _ _ h, frozen_of_row w g 2 _ _ h⟩
theorem row_newAt {g : Nat} (w : World) (cs : Array Value) (T : TypeId) (h : g = w.heap.size) : Row? (w.alloc (.cells cs T)) g cs T := by subst h; exact row_new w cs T
theorem bne_flip (a b : Bool) : (a != b) = (!a == b) := by cases a <;> cases b <;> rfl
theorem two_set {W w : World} {g h : Nat} {a b c a' b' c' : Value} {r : Nat} {s : Bool} {vn vd : Value}
    (hs : Kept W w ∧ w.cell? ⟨g, 0, none⟩ = some a ∧ w.cell? ⟨g, 1, none⟩ = some b ∧ w.cell? ⟨g, 2, none⟩ = some c ∧ w.cell? ⟨h, 0, none⟩ = some a' ∧ w.cell? ⟨h, 1, none⟩ = some b' ∧ w.cell? ⟨h, 2, none⟩ = some c') (hr : W.heap.size ≤ r) (hg : g ≠ r) (hh : h ≠ r) :
    Kept W (set3 w r s vn vd) ∧ (set3 w r s vn vd).cell? ⟨g, 0, none⟩ = some a ∧ (set3 w r s vn vd).cell? ⟨g, 1, none⟩ = some b ∧ (set3 w r s vn vd).cell? ⟨g, 2, none⟩ = some c ∧ (set3 w r s vn vd).cell? ⟨h, 0, none⟩ = some a' ∧ (set3 w r s vn vd).cell? ⟨h, 1, none⟩ = some b' ∧ (set3 w r s vn vd).cell? ⟨h, 2, none⟩ = some c' := by
  obtain ⟨h0, h1, h2, h3, h4, h5, h6⟩ := hs
  exact ⟨kept_set3 h0 hr s vn vd, (cell_set3 w r s vn vd 0 hg).trans h1, (cell_set3 w r s vn vd 1 hg).trans h2, (cell_set3 w r s vn vd 2 hg).trans h3, (cell_set3 w r s vn vd 0 hh).trans h4, (cell_set3 w r s vn vd 1 hh).trans h5, (cell_set3 w r s vn vd 2 hh).trans h6⟩
/-- Three boxes are made, then order is drawn. -/
theorem Kept.three (w : World) (x y z : Obj) : Kept w (((w.alloc x).alloc y).alloc z).drew := Kept.then (Kept.then (Kept.alloc _ _) (Kept.alloc _ _)) (Kept.then (Kept.alloc _ _) (Kept.drew _))
theorem results_cell2 {fn : Func} {p t : Tmp} (h : fn.results = #[.cell p RT, .tmp t]) (tmps : Array Value) (w : World) (g : Nat) (cs : Array Value) (u : Value) (hp : tmps.getD p undef = .pointer (some ⟨g, 0, none⟩)) (hu : tmps.getD t undef = u) (hg : Row? w g cs RT) (hz : cs.size = 3) :
    (results fn tmps).run Try.prog w = .ok (.tuple #[.agg cs, u]) w := by
  have hp' : tmps[p]?.getD undef = .pointer (some ⟨g, 0, none⟩) := by simpa using hp
  have hu' : tmps[t]?.getD undef = u := by simpa using hu
  simp [results, h, hp', hu', asAddr, run_loadVar_row w g RT RT cs (0, 0) _ hg Try.underlying29 rfl (by rw [hz]; exact info_rat)]
/-- A number and an error code are handed back. -/
def MadeRatE (w : World) (q : Rat) (c : Int) (e : Ending) (w' : World) : Prop :=
  ∃ s vn vd, e = .returned (.tuple #[.agg #[.bool s, vn, vd], .int .i64 c]) ∧ RatS w' (fun _ => True) s vn vd q ∧ Kept w w'
theorem ret_rat2 {fn : Func} {p t : Tmp} {a : Act} {w w1 : World} {g : Nat} {x y z : Value} {s : Bool} {vn vd : Value} {q : Rat} {c : Int} (h : fn.results = #[.cell p RT, .tmp t]) (hp : a.tmps.getD p undef = .pointer (some ⟨g, 0, none⟩)) (ht : a.tmps.getD t undef = .int .i64 c) (hd : a.defers = [])
    (r : Row? w1 g #[x, y, z] RT) (hg : w.heap.size ≤ g) (hk : Kept w w1) (hq : RatS w1 (fun _ => True) s vn vd q) : bodyPost Try.prog fn (MadeRatE w q c) .ret a (set3 w1 g s vn vd) :=
  bodyPost_ret (results_cell2 h a.tmps _ g _ _ hp ht (row_set3 r s vn vd) rfl) hd ⟨s, vn, vd, rfl, hq.up (up_set3 (Up.refl w1) r s vn vd), kept_set3 hk hg s vn vd⟩
theorem low_v {w : World} {neg : Bool} {vn vd : Value} {n d : Nat} [hn : NatAt w vn n] [hd : NatAt w vd d] (hs : size n ≤ 4398046511103) (hs' : size d ≤ 4398046511103) (hd0 : d ≠ 0) :
    Calls Try.prog 90 #[.bool neg, vn, vd] w (MadeRat w (mk neg n d)) := low_any neg vn vd n d w hn hd hs hs' hd0
set_option maxHeartbeats 2000000 in
theorem make_any (neg : Bool) (vn vd : Value) (n d : Nat) (w : World) (hn : NatAt w vn n) (hd : NatAt w vd d) (hs : size n ≤ 4398046511103) (hs' : size d ≤ 4398046511103) (hd0 : d ≠ 0) :
    Calls Try.prog 84 #[.bool neg, vn, vd] w (MadeRatE w (mk neg n d) 0) := by
  obtain ⟨An, cn, rfl, hcn, han⟩ := hn.at
  obtain ⟨Ad, cd, rfl, hcd, had⟩ := hd.at
  have HN := Lib.hid hn.up; have HD := Lib.hid hd.up
  clear han had hn hd
  have hz : ((size d : Int) == 0) = false := by
    have := size_pos (s := d) (by omega)
    simp; omega
  go_enter Try.func84, Try.ntmps84
  have iN := HN.out; have iD := HD.out
  go_wp2_with (go_at_call 90; refine (low_any neg _ _ n d _ inferInstance inferInstance hs hs' hd0).mono ?_; rintro e w1 ⟨s1, vn1, vd1, rfl, hq1, hk1⟩; obtain ⟨An1, cn1, rfl, _, _⟩ := hq1.2.1.at; obtain ⟨Ad1, cd1, rfl, _, _⟩ := hq1.2.2.at; have HQ1 := Lib.hid hq1; have HK1 := Lib.hid hk1; obtain ⟨hc1, hf1⟩ := bcell hk1; clear hq1 hk1)
  exact ret_rat2 rfl rfl rfl rfl (HK1.out.row (row_new w _ _)) (Nat.le_refl _) ((Kept.alloc w _).then HK1.out) HQ1.out
theorem make_v {w : World} {neg : Bool} {vn vd : Value} {n d : Nat} [hn : NatAt w vn n] [hd : NatAt w vd d] (hs : size n ≤ 4398046511103) (hs' : size d ≤ 4398046511103) (hd0 : d ≠ 0) :
    Calls Try.prog 84 #[.bool neg, vn, vd] w (MadeRatE w (mk neg n d) 0) := make_any neg vn vd n d w hn hd hs hs' hd0
set_option maxHeartbeats 2000000 in
theorem mul_rat {w : World} {s s' : Bool} {vn vd vn' vd' : Value} {p q : Rat} [hp : RatAt w s vn vd p] [hq : RatAt w s' vn' vd' q] (hs : wt p ≤ 1000000000000) (hs' : wt q ≤ 1000000000000) :
    Calls Try.prog 89 #[.agg #[.bool s, vn, vd], .agg #[.bool s', vn', vd']] w (MadeRat w (p * q)) := by
  obtain ⟨rfl, hn, hd⟩ := hp.out
  obtain ⟨rfl, hn', hd'⟩ := hq.out
  obtain ⟨An, cn, rfl, _, _⟩ := hn.at
  obtain ⟨Ad, cd, rfl, _, _⟩ := hd.at
  obtain ⟨An', cn', rfl, _, _⟩ := hn'.at
  obtain ⟨Ad', cd', rfl, _, _⟩ := hd'.at
  have HN := Lib.hid (NatS.lift hn); have HD := Lib.hid (NatS.lift hd); have HN' := Lib.hid (NatS.lift hn'); have HD' := Lib.hid (NatS.lift hd')
  clear hn hd hn' hd' hp hq
  have b1 := wt_num p; have b2 := wt_den p; have b3 := wt_num q; have b4 := wt_den q
  have b5 := size_mul (nm p) (nm q); have b6 := size_mul p.den q.den
  rw [mul_parts, bne_flip]
  go_enter Try.func89, Try.ntmps89
  have iN := HN.out; have iD := HD.out; have iN' := HN'.out; have iD' := HD'.out
  go_wp2
  go_region_held3 (fun w' => Kept w w' ∧ w'.cell? ⟨w.heap.size, 0, none⟩ = some (.bool (ng p)) ∧ w'.cell? ⟨w.heap.size, 1, none⟩ = some (Value.slice An (size (nm p)) cn) ∧ w'.cell? ⟨w.heap.size, 2, none⟩ = some (Value.slice Ad (size p.den) cd) ∧ w'.cell? ⟨w.heap.size + 1, 0, none⟩ = some (.bool (ng q)) ∧ w'.cell? ⟨w.heap.size + 1, 1, none⟩ = some (Value.slice An' (size (nm q)) cn') ∧ w'.cell? ⟨w.heap.size + 1, 2, none⟩ = some (Value.slice Ad' (size q.den) cd'))
    (first | exact two_step (by assumption) (by assumption) | exact two_set (by assumption) (by omega) (by omega) (by omega) | (refine ⟨Kept.three _ _ _ _, ?_⟩; simp [go_sem, World.cell?_alloc_past]))
    (first
      | (go_at_call 85; first | (refine Calls.mono (mul_v (a := nm p) (b := nm q) (by omega) (by omega)) ?_; rintro e w1 ⟨v1, rfl, hv1, hk1⟩; have i1 := NatS.lift hv1; have u1 := Kept.chain hk1) | (refine Calls.mono (mul_v (a := p.den) (b := q.den) (by omega) (by omega)) ?_; rintro e w2 ⟨v2, rfl, hv2, hk2⟩; have i2 := NatS.lift hv2; have u2 := Kept.chain hk2))
      | (go_at_call 90; refine Calls.mono (low_v (n := nm p * nm q) (d := p.den * q.den) (by omega) (by omega) (Nat.mul_ne_zero p.den_nz q.den_nz)) ?_; rintro e w3 ⟨s3, vn3, vd3, rfl, hq3, hk3⟩; obtain ⟨An3, cn3, rfl, _, _⟩ := hq3.2.1.at; obtain ⟨Ad3, cd3, rfl, _, _⟩ := hq3.2.2.at; have hr3 := Kept.row hk3 (Kept.row hk2 (Kept.row hk1 (Kept.row (Kept.drew _) (row_newAt (g := w.heap.size + 1 + 1) _ _ _ (by simp))))); obtain ⟨c0, c1, c2, f0, f1, f2⟩ := three hr3))
  go_wp2
  exact ret_rat rfl rfl rfl hr3 (by omega) (Kept.then (Kept.three _ _ _ _) (Kept.then hk1 (Kept.then hk2 hk3))) hq3
end Go.Proofs.Ytjmpanhacfjcaaa.V
/- Abstract values: what a value in memory says, and what keeps it so. -/
namespace Go.Proofs.Ytjmpanhacfjcaaa.AM
open Go Go.RowKit Go.Proofs.Ytjmpanhacfjcaaa.PN Go.Proofs.Ytjmpanhacfjcaaa.V
set_option linter.unusedVariables false
set_option linter.unusedSimpArgs false
/-- A number as the program holds it: a right one, or whatever came in. -/
inductive RA where
  | q (q : Rat)
  | raw (s : Bool) (n d : List Nat)
/-- The type of rows of numbers. -/
abbrev WT : TypeId := 32
/-- The type of matrices. -/
abbrev MT : TypeId := 25
inductive AV where
  | v (x : Value)
  | nat (n : Nat)
  | lb (l : List Nat)
  | ra (r : RA)
  | rs (r : RA)
  | rn (r : RA)
  | rd (r : RA)
  | row (fr : Bool) (n : Nat) (f : Nat → RA)
  | mat (fr : Bool) (n : Nat) (m : Nat → Nat) (F : Nat → Nat → RA)
  | rp (r : RA)
  | cp (x : AV)
  | seq (k : IntKind) (l : List Int)
  | own (g r : Nat)
  | ptr (g r i : Nat)
  | rptr (g r i : Nat)
  | fld (g r i j : Nat)
  | ag (n : Nat) (f : Nat → AV)
  | tup (a b : AV)
  | tup3 (a b c : AV)
  | clo (f : FuncId) (n : Nat) (c : Nat → AV)
  | e0
/-- v is a slice of these limbs. -/
def Lbs (w : World) (v : Value) (l : List Nat) : Prop :=
  ∃ A c, v = .slice A l.length c ∧ l.length ≤ c ∧ ∀ i, i < l.length → ∃ b off cs, A = some ⟨b, off, none⟩ ∧ Row? w b cs U32 ∧ cs[off + i]? = some (.int .u32 (l.getD i 0 : Nat))
def RA.sgn : RA → Bool
  | .q p => ng p
  | .raw s _ _ => s
def RN (w : World) : RA → Value → Prop
  | .q p, v => NatS w (fun _ => True) v (nm p)
  | .raw _ n _, v => Lbs w v n
def RD (w : World) : RA → Value → Prop
  | .q p, v => NatS w (fun _ => True) v p.den
  | .raw _ _ d, v => Lbs w v d
/-- The three parts of a number. -/
def R3 (w : World) (r : RA) (s : Bool) (vn vd : Value) : Prop := s = r.sgn ∧ RN w r vn ∧ RD w r vd
def RatCell (w : World) (b o : Nat) (r : RA) : Prop :=
  ∃ cs s vn vd, Row? w b cs RT ∧ cs[o]? = some (.bool s) ∧ cs[o + 1]? = some vn ∧ cs[o + 2]? = some vd ∧ R3 w r s vn vd
def RowV (S : Nat → Prop) (B : Nat) (w : World) (fr : Bool) (n : Nat) (f : Nat → RA) (v : Value) : Prop :=
  ∃ A c, v = .slice A n c ∧ n ≤ c ∧ c ≤ maxLen ∧ ∀ i, i < n → ∃ b off, A = some ⟨b, off, none⟩ ∧ S b ∧ (fr = true → B ≤ b) ∧ RatCell w b (off + i * 3) (f i)
def MatV (S : Nat → Prop) (B : Nat) (w : World) (fr : Bool) (n : Nat) (m : Nat → Nat) (F : Nat → Nat → RA) (v : Value) : Prop :=
  ∃ A c, v = .slice A n c ∧ n ≤ c ∧ c ≤ maxLen ∧ ∀ i, i < n → ∃ b off cs x, A = some ⟨b, off, none⟩ ∧ S b ∧ (fr = true → B ≤ b) ∧ Row? w b cs WT ∧ cs[off + i]? = some x ∧ RowV S B w fr (m i) (F i) x
def SeqV (S : Nat → Prop) (w : World) (k : IntKind) (l : List Int) (v : Value) : Prop :=
  ∃ A c, v = .slice A l.length c ∧ l.length ≤ c ∧ c ≤ maxLen ∧ ∀ i, i < l.length → ∃ p, A = some p ∧ S p.block ∧ w.cell? (p.add i) = some (.int k (l.getD i 0))
/-- The block of an own value. -/
def ub : Value → Option Nat
  | .pointer (some a) => some a.block
  | .slice (some a) _ _ => some a.block
  | _ => none
/-- What a value says: S are the blocks that are not the call's own; from B on all is new since the call began; β are the call's own values. -/
def RV (S : Nat → Prop) (B : Nat) (β : Nat → Nat → Value) (w : World) : AV → Value → Prop
  | .v x, v => v = x
  | .nat n, v => NatS w (fun _ => True) v n
  | .lb l, v => Lbs w v l
  | .ra r, v => ∃ s vn vd, v = .agg #[.bool s, vn, vd] ∧ R3 w r s vn vd
  | .rs r, v => v = .bool r.sgn
  | .rn r, v => RN w r v
  | .rd r, v => RD w r v
  | .row fr n f, v => RowV S B w fr n f v
  | .mat fr n m F, v => MatV S B w fr n m F v
  | .rp r, v => ∃ b o, v = .pointer (some ⟨b, o, none⟩) ∧ S b ∧ RatCell w b o r
  | .cp x, v => ∃ p y, v = .pointer (some p) ∧ S p.block ∧ w.cell? p = some y ∧ RV S B β w x y
  | .seq k l, v => SeqV S w k l v
  | .own g r, v => v = β g r ∧ ∃ A n c, v = .slice A n c
  | .ptr g r i, v => ∃ b, ub (β g r) = some b ∧ v = .pointer (some ⟨b, i, none⟩)
  | .rptr g r i, v => ∃ b, ub (β g r) = some b ∧ v = .pointer (some ⟨b, i * 3, none⟩)
  | .fld g r i j, v => ∃ b, ub (β g r) = some b ∧ v = .pointer (some ⟨b, i * 3 + j, none⟩)
  | .ag n f, v => ∃ cs : Array Value, v = .agg cs ∧ cs.size = n ∧ ∀ i, i < n → ∃ y, cs[i]? = some y ∧ y.oneCell' = true ∧ RV S B β w (f i) y
  | .tup a b, v => ∃ x y, v = .tuple #[x, y] ∧ RV S B β w a x ∧ RV S B β w b y
  | .tup3 a b c, v => ∃ x y z, v = .tuple #[x, y, z] ∧ RV S B β w a x ∧ RV S B β w b y ∧ RV S B β w c z
  | .clo f n c, v => ∃ cap : Array Value, v = .func (.func f) #[] cap ∧ cap.size = n ∧ ∀ i, i < n → ∃ y, cap[i]? = some y ∧ RV S B β w (c i) y
  | .e0, v => ∃ g, v = .slice (some ⟨g, 0, none⟩) 0 0 ∧ Row? w g #[] U32
/-- It names own values of U alone. -/
def AV.ok (U : Nat → Bool) : AV → Prop
  | .own g _ => U g = true
  | .ptr g _ _ => U g = true
  | .rptr g _ _ => U g = true
  | .fld g _ _ _ => U g = true
  | .cp x => x.ok U
  | .ag n f => ∀ i, i < n → (f i).ok U
  | .tup a b => a.ok U ∧ b.ok U
  | .tup3 a b c => a.ok U ∧ b.ok U ∧ c.ok U
  | .clo _ n c => ∀ i, i < n → (c i).ok U
  | _ => True
/-- It is of one cell. -/
def AV.one : AV → Bool
  | .v x => x.oneCell'
  | .ra _ | .ag _ _ | .tup _ _ | .tup3 _ _ _ => false
  | _ => true
/-! ### What goes on -/
/-- Blocks of O alone have turned, and new ones have come; limbs are as they were. -/
structure Ext (O : Nat → Prop) (w w' : World) : Prop where
  size : w.heap.size ≤ w'.heap.size
  block : ∀ k, k < w.heap.size → ¬ O k → w'.heap[k]? = w.heap[k]?
  limb : ∀ k cs, Row? w k cs U32 → Row? w' k cs U32
theorem Ext.refl (O : Nat → Prop) (w : World) : Ext O w w := ⟨Nat.le_refl _, fun _ _ _ => rfl, fun _ _ h => h⟩
theorem Ext.trans {O : Nat → Prop} {a b c : World} (h : Ext O a b) (k : Ext O b c) : Ext O a c :=
  ⟨Nat.le_trans h.size k.size, fun i hi ho => (k.block i (Nat.lt_of_lt_of_le hi h.size) ho).trans (h.block i hi ho), fun i cs r => k.limb i cs (h.limb i cs r)⟩
theorem Ext.mono {O O' : Nat → Prop} {a b : World} (h : Ext O a b) (k : ∀ i, O i → O' i) : Ext O' a b := ⟨h.size, fun i hi ho => h.block i hi (fun x => ho (k i x)), h.limb⟩
theorem Ext.of_kept {a b : World} (h : Kept a b) (O : Nat → Prop) : Ext O a b := ⟨h.size, fun k hk _ => h.block k hk, fun k cs r => h.row r⟩
theorem Ext.row {O : Nat → Prop} {a b : World} (h : Ext O a b) {k : Nat} {cs : Array Value} {T : TypeId} (r : Row? a k cs T) (ho : ¬ O k) : Row? b k cs T := (h.block k r.lt ho).trans r
theorem Ext.cell {O : Nat → Prop} {a b : World} (h : Ext O a b) {p : Addr} {y : Value} (r : a.cell? p = some y) (ho : ¬ O p.block) : b.cell? p = some y :=
  (World.cell?_of_block (h.block p.block (World.block_lt_of_cell? a p r) ho)).trans r
theorem Ext.set {w : World} {k : Nat} {cs : Array Value} {T : TypeId} (r : Row? w k cs T) (hT : T ≠ U32) (o : Nat) (u : Value) : Ext (fun i => i = k) w (w.setCell ⟨k, o, none⟩ u) := by
  refine ⟨by simp [World.setCell], fun i _ hi => Below.heap_setCell w ⟨k, o, none⟩ u i hi, fun i cs' r' => ?_⟩
  refine (Below.heap_setCell w ⟨k, o, none⟩ u i ?_).trans r'
  rintro rfl
  unfold Row? at r r'
  rw [r] at r'
  injection r' with r'
  injection r' with _ r'
  exact hT r'
theorem dg_ext {w w' : World} {O S : Nat → Prop} {v : Value} {s n : Nat} (h : Dg w S v s n) (k : Ext O w w') : Dg w' S v s n := by
  obtain ⟨A, c, hv, hc, hx⟩ := h
  refine ⟨A, c, hv, hc, fun i hi => ?_⟩
  obtain ⟨b, off, cs, hA, hS, hr, hcell⟩ := hx i hi
  exact ⟨b, off, cs, hA, hS, k.limb b cs hr, hcell⟩
theorem lbs_ext {w w' : World} {O : Nat → Prop} {v : Value} {l : List Nat} (h : Lbs w v l) (k : Ext O w w') : Lbs w' v l := by
  obtain ⟨A, c, hv, hc, hx⟩ := h
  refine ⟨A, c, hv, hc, fun i hi => ?_⟩
  obtain ⟨b, off, cs, hA, hr, hcell⟩ := hx i hi
  exact ⟨b, off, cs, hA, k.limb b cs hr, hcell⟩
theorem rn_ext {w w' : World} {O : Nat → Prop} {r : RA} {v : Value} (h : RN w r v) (k : Ext O w w') : RN w' r v := by
  cases r
  · exact dg_ext (h : NatS _ _ _ _) k
  · exact lbs_ext (h : Lbs _ _ _) k
theorem rd_ext {w w' : World} {O : Nat → Prop} {r : RA} {v : Value} (h : RD w r v) (k : Ext O w w') : RD w' r v := by
  cases r
  · exact dg_ext (h : NatS _ _ _ _) k
  · exact lbs_ext (h : Lbs _ _ _) k
theorem r3_ext {w w' : World} {O : Nat → Prop} {r : RA} {s : Bool} {vn vd : Value} (h : R3 w r s vn vd) (k : Ext O w w') : R3 w' r s vn vd := ⟨h.1, rn_ext h.2.1 k, rd_ext h.2.2 k⟩
theorem ratcell_ext {w w' : World} {O : Nat → Prop} {b o : Nat} {r : RA} (h : RatCell w b o r) (k : Ext O w w') (ho : ¬ O b) : RatCell w' b o r := by
  obtain ⟨cs, s, vn, vd, hr, h0, h1, h2, h3⟩ := h
  exact ⟨cs, s, vn, vd, k.row hr ho, h0, h1, h2, r3_ext h3 k⟩
theorem RatCell.lt {w : World} {b o : Nat} {r : RA} (h : RatCell w b o r) : b < w.heap.size := by obtain ⟨cs, s, vn, vd, hr, _⟩ := h; exact hr.lt
/-- From a world to a later one. -/
structure Fwd (S S' : Nat → Prop) (B B' : Nat) (U : Nat → Bool) (β β' : Nat → Nat → Value) (O : Nat → Prop) (w w' : World) : Prop where
  ext : Ext O w w'
  out : ∀ b, S b → ¬ O b
  set : ∀ b, S b → b < w.heap.size → S' b
  base : B' ≤ B
  val : ∀ g r, U g = true → β' g r = β g r
section
variable {S S' : Nat → Prop} {B B' : Nat} {U : Nat → Bool} {β β' : Nat → Nat → Value} {O : Nat → Prop} {w w' : World}
theorem RowV.fwd {fr : Bool} {n : Nat} {f : Nat → RA} {v : Value} (k : Fwd S S' B B' U β β' O w w') (h : RowV S B w fr n f v) : RowV S' B' w' fr n f v := by
  obtain ⟨A, c, hv, hc, hm, hx⟩ := h
  refine ⟨A, c, hv, hc, hm, fun i hi => ?_⟩
  obtain ⟨b, off, hA, hS, hb, hcell⟩ := hx i hi
  exact ⟨b, off, hA, k.set b hS hcell.lt, fun e => Nat.le_trans k.base (hb e), ratcell_ext hcell k.ext (k.out b hS)⟩
theorem RV.fwd (k : Fwd S S' B B' U β β' O w w') : ∀ {x : AV} {v : Value}, x.ok U → RV S B β w x v → RV S' B' β' w' x v := by
  intro x
  induction x with
  | v y => intro v _ h; exact h
  | nat n => intro v _ h; exact dg_ext (h : NatS _ _ _ _) k.ext
  | lb l => intro v _ h; exact lbs_ext h k.ext
  | ra r => rintro v _ ⟨s, vn, vd, hv, h⟩; exact ⟨s, vn, vd, hv, r3_ext h k.ext⟩
  | rs r => intro v _ h; exact h
  | rn r => intro v _ h; exact rn_ext h k.ext
  | rd r => intro v _ h; exact rd_ext h k.ext
  | row fr n f => intro v _ h; exact RowV.fwd k h
  | mat fr n m F =>
    rintro v _ ⟨A, c, hv, hc, hm, hx⟩
    refine ⟨A, c, hv, hc, hm, fun i hi => ?_⟩
    obtain ⟨b, off, cs, x, hA, hS, hb, hr, hx, hcell⟩ := hx i hi
    exact ⟨b, off, cs, x, hA, k.set b hS hr.lt, fun e => Nat.le_trans k.base (hb e), k.ext.row hr (k.out b hS), hx, RowV.fwd k hcell⟩
  | rp r => rintro v _ ⟨b, o, hv, hS, h⟩; exact ⟨b, o, hv, k.set b hS h.lt, ratcell_ext h k.ext (k.out b hS)⟩
  | cp x ih => rintro v hu ⟨p, y, hv, hS, hc, h⟩; exact ⟨p, y, hv, k.set _ hS (World.block_lt_of_cell? _ _ hc), k.ext.cell hc (k.out _ hS), ih hu h⟩
  | seq kd l =>
    rintro v _ ⟨A, c, hv, hc, hm, hx⟩
    refine ⟨A, c, hv, hc, hm, fun i hi => ?_⟩
    obtain ⟨p, hA, hS, hcell⟩ := hx i hi
    have hb : (p.add i).block = p.block := by unfold Addr.add; split <;> rfl
    have hl := World.block_lt_of_cell? _ _ hcell
    rw [hb] at hl
    exact ⟨p, hA, k.set _ hS hl, k.ext.cell hcell (by rw [hb]; exact k.out _ hS)⟩
  | own g r => rintro v hu ⟨h, h'⟩; exact ⟨by rw [k.val g r hu]; exact h, h'⟩
  | ptr g r i => rintro v hu ⟨b, hb, h⟩; exact ⟨b, by rw [k.val g r hu]; exact hb, h⟩
  | rptr g r i => rintro v hu ⟨b, hb, h⟩; exact ⟨b, by rw [k.val g r hu]; exact hb, h⟩
  | fld g r i j => rintro v hu ⟨b, hb, h⟩; exact ⟨b, by rw [k.val g r hu]; exact hb, h⟩
  | ag n f ih => rintro v hu ⟨cs, hv, hs, hx⟩; exact ⟨cs, hv, hs, fun i hi => by obtain ⟨y, h0, h1, h2⟩ := hx i hi; exact ⟨y, h0, h1, ih i (hu i hi) h2⟩⟩
  | tup a b iha ihb => rintro v hu ⟨x, y, hv, h1, h2⟩; exact ⟨x, y, hv, iha hu.1 h1, ihb hu.2 h2⟩
  | tup3 a b c iha ihb ihc => rintro v hu ⟨x, y, z, hv, h1, h2, h3⟩; exact ⟨x, y, z, hv, iha hu.1 h1, ihb hu.2.1 h2, ihc hu.2.2 h3⟩
  | clo f n c ih => rintro v hu ⟨cs, hv, hs, hx⟩; exact ⟨cs, hv, hs, fun i hi => by obtain ⟨y, h0, h2⟩ := hx i hi; exact ⟨y, h0, ih i (hu i hi) h2⟩⟩
  | e0 => rintro v _ ⟨g, hv, hr⟩; exact ⟨g, hv, k.ext.limb g _ hr⟩
end
theorem AV.ok_mono {U U' : Nat → Bool} (h : ∀ g, U g = true → U' g = true) : ∀ {x : AV}, x.ok U → x.ok U' := by
  intro x
  induction x with
  | own g r => exact h g
  | ptr g r i => exact h g
  | rptr g r i => exact h g
  | fld g r i j => exact h g
  | cp x ih => exact ih
  | ag n f ih => exact fun k i hi => ih i (k i hi)
  | clo f n c ih => exact fun k i hi => ih i (k i hi)
  | tup a b iha ihb => exact fun k => ⟨iha k.1, ihb k.2⟩
  | tup3 a b c iha ihb ihc => exact fun k => ⟨iha k.1, ihb k.2.1, ihc k.2.2⟩
  | _ => exact fun _ => trivial
theorem dg_slice {w : World} {S : Nat → Prop} {v : Value} {s n : Nat} (h : Dg w S v s n) : ∃ A c, v = .slice A n c ∧ n ≤ c := by
  obtain ⟨A, c, hv, hc, _⟩ := h; exact ⟨A, c, hv, hc⟩
theorem rn_one {w : World} {r : RA} {v : Value} (h : RN w r v) : v.oneCell' = true := by
  cases r
  · obtain ⟨A, c, rfl, _⟩ := dg_slice (h : NatS _ _ _ _); rfl
  · obtain ⟨A, c, rfl, _⟩ := (h : Lbs _ _ _); rfl
theorem rd_one {w : World} {r : RA} {v : Value} (h : RD w r v) : v.oneCell' = true := by
  cases r
  · obtain ⟨A, c, rfl, _⟩ := dg_slice (h : NatS _ _ _ _); rfl
  · obtain ⟨A, c, rfl, _⟩ := (h : Lbs _ _ _); rfl
theorem RV.one {S : Nat → Prop} {B : Nat} {β : Nat → Nat → Value} {w : World} : ∀ {x : AV} {v : Value}, x.one = true → RV S B β w x v → v.oneCell' = true := by
  intro x v ho h
  cases x with
  | v y => cases h; exact ho
  | nat n => obtain ⟨A, c, rfl, _⟩ := dg_slice (h : NatS _ _ _ _); rfl
  | lb l => obtain ⟨A, c, rfl, _⟩ := h; rfl
  | ra r => cases ho
  | rs r => cases h; rfl
  | rn r => exact rn_one h
  | rd r => exact rd_one h
  | row fr n f => obtain ⟨A, c, rfl, _⟩ := h; rfl
  | mat fr n m F => obtain ⟨A, c, rfl, _⟩ := h; rfl
  | rp r => obtain ⟨b, o, rfl, _⟩ := h; rfl
  | cp x => obtain ⟨p, y, rfl, _⟩ := h; rfl
  | seq k l => obtain ⟨A, c, rfl, _⟩ := h; rfl
  | own g r => obtain ⟨_, A, n, c, rfl⟩ := h; rfl
  | ptr g r i => obtain ⟨b, _, rfl⟩ := h; rfl
  | rptr g r i => obtain ⟨b, _, rfl⟩ := h; rfl
  | fld g r i j => obtain ⟨b, _, rfl⟩ := h; rfl
  | ag n f => cases ho
  | tup a b => cases ho
  | tup3 a b c => cases ho
  | clo f n c => obtain ⟨cs, rfl, _⟩ := h; rfl
  | e0 => obtain ⟨g, rfl, _⟩ := h; rfl
end Go.Proofs.Ytjmpanhacfjcaaa.AM

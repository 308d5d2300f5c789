-- Written by pp.py, a program of this repository, out of the translation. Lean checks it.
import Derived.Test.YtbmmjnmfinjdeaaF0
import Derived.Test.YtbmmjnmfinjdeaaF2
import Derived.Test.YtbmmjnmfinjdeaaF3
namespace Go.Proofs.Ytbmmjnmfinjdeaa.F
open Go.RowKit Go.Proofs.YtbmmjnmfinjdeaaW.PrintWords Go.Proofs.YtbmmjnmfinjdeaaW.PrintLast Go.Proofs.YtbmmjnmfinjdeaaW.PrintMore
attribute [local go_sem] max2_int min2_int max_two min_two max_three min_three max_four min_four   -- for this text's walks alone
set_option linter.unusedVariables false
set_option linter.unusedSimpArgs false

/-! ### anticlinelaw8_NttEnds: function 6 -/
mutual
def anticlinelaw8_NttEnds.l0 : Nat → Int → List Int → Int → Int → Option (Bool)
  | 0, _, _, _, _ => none
  | k + 1, x5, x6, x7, x8 => if x8 < x5 then (if 0 ≤ x8 then (if x8 < (x6.length : Int) then (anticlinelaw8_NttEnds.l0 k x5 x6 (Int.tmod (IntKind.u64.wrap (x7 + (IntKind.u64.wrap (rd x6 x8)))) 998244353) (wrap64 (x8 + 1))) else (none)) else (none)) else ((ntt_Transform.f k x6 false).bind fun bt250 => (if 0 ≤ x5 then (if (x5 : Int).toNat ≤ 70368744177664 then ((some (List.replicate (x5 : Int).toNat 0 : List Int)).bind fun y254 => (if 0 < (y254.length : Int) then ((ntt_Transform.f k (y254.set (0 : Int).toNat 1) false).bind fun bt258 => (if bt250.2 = 0 then (if bt258.2 = 0 then (if (bt250.1.length : Int) = x5 then (if (bt258.1.length : Int) = x5 then (if 0 < (bt250.1.length : Int) then (anticlinelaw8_NttEnds.j1 k x5 bt258.1 ((IntKind.u64.wrap (rd bt250.1 0)) != x7)) else (none)) else (anticlinelaw8_NttEnds.j1 k x5 bt258.1 true)) else (anticlinelaw8_NttEnds.j1 k x5 bt258.1 true)) else (anticlinelaw8_NttEnds.j1 k x5 bt258.1 true)) else (anticlinelaw8_NttEnds.j1 k x5 bt258.1 true))) else (none))) else (none)) else (none)))
def anticlinelaw8_NttEnds.j1 : Nat → Int → List Int → Bool → Option (Bool)
  | 0, _, _, _ => none
  | k + 1, x5, x12, x76 => if x76 = true then (none) else (anticlinelaw8_NttEnds.l1 k x5 x12 0)
def anticlinelaw8_NttEnds.l1 : Nat → Int → List Int → Int → Option (Bool)
  | 0, _, _, _ => none
  | k + 1, x5, x12, x14 => if x14 < x5 then (if 0 ≤ x14 then (if x14 < (x12.length : Int) then (if (rd x12 x14) = 1 then (anticlinelaw8_NttEnds.l1 k x5 x12 (wrap64 (x14 + 1))) else (none)) else (none)) else (none)) else (some true)
end
def anticlinelaw8_NttEnds.f (k : Nat) (l0 : List Int) (a1 : Int) : Option (Bool) := (anticlinelaw8_known.f k).bind fun t244 => (if t244 = true then ((anticlinelaw8_within.f a1 8).bind fun t245 => (if 0 ≤ (IntKind.u64.wrap (t245)) then ((anticlinelaw8_Row.f k l0 (shl .i64 1 (IntKind.u64.wrap (t245)))).bind fun t246 => (anticlinelaw8_NttEnds.l0 k (shl .i64 1 (IntKind.u64.wrap (t245))) t246 0 0)) else (none))) else (none))
theorem anticlinelaw8_NttEnds.mono_l : ∀ k, (∀ y0 y1 y2 y3, LeO (anticlinelaw8_NttEnds.l0 k y0 y1 y2 y3) (anticlinelaw8_NttEnds.l0 (k + 1) y0 y1 y2 y3)) ∧ (∀ y0 y1 y2, LeO (anticlinelaw8_NttEnds.j1 k y0 y1 y2) (anticlinelaw8_NttEnds.j1 (k + 1) y0 y1 y2)) ∧ (∀ y0 y1 y2, LeO (anticlinelaw8_NttEnds.l1 k y0 y1 y2) (anticlinelaw8_NttEnds.l1 (k + 1) y0 y1 y2))
  | 0 => ⟨fun _ _ _ _ r h => by simp [anticlinelaw8_NttEnds.l0] at h, fun _ _ _ r h => by simp [anticlinelaw8_NttEnds.j1] at h, fun _ _ _ r h => by simp [anticlinelaw8_NttEnds.l1] at h⟩
  | k + 1 => by
    obtain ⟨ih0, ih1, ih2⟩ := anticlinelaw8_NttEnds.mono_l k
    refine ⟨?_, ?_, ?_⟩
    · intro y0 y1 y2 y3
      unfold anticlinelaw8_NttEnds.l0
      repeat' first
      | (with_reducible exact ih0 _ _ _ _)
      | (with_reducible exact ih1 _ _ _)
      | (with_reducible exact ih2 _ _ _)
      | (with_reducible exact anticlinelaw8_Row.mono _ _ _)
      | (with_reducible exact anticlinelaw8_known.mono _)
      | (with_reducible exact ntt_Transform.mono _ _ _)
      | (with_reducible exact LeO.refl _)
      | (with_reducible exact LeO.none _)
      | (with_reducible refine LeO.ite ?_ ?_)
      | (with_reducible refine LeO.bind ?_ (fun _ => ?_))
      | exact ih0 _ _ _ _
      | exact ih1 _ _ _
      | exact ih2 _ _ _
      | exact anticlinelaw8_Row.mono _ _ _
      | exact anticlinelaw8_known.mono _
      | exact ntt_Transform.mono _ _ _
      | exact LeO.none _
      | refine LeO.ite ?_ ?_
      | refine LeO.bind ?_ (fun _ => ?_)
    · intro y0 y1 y2
      unfold anticlinelaw8_NttEnds.j1
      repeat' first
      | (with_reducible exact ih0 _ _ _ _)
      | (with_reducible exact ih1 _ _ _)
      | (with_reducible exact ih2 _ _ _)
      | (with_reducible exact anticlinelaw8_Row.mono _ _ _)
      | (with_reducible exact anticlinelaw8_known.mono _)
      | (with_reducible exact ntt_Transform.mono _ _ _)
      | (with_reducible exact LeO.refl _)
      | (with_reducible exact LeO.none _)
      | (with_reducible refine LeO.ite ?_ ?_)
      | (with_reducible refine LeO.bind ?_ (fun _ => ?_))
      | exact ih0 _ _ _ _
      | exact ih1 _ _ _
      | exact ih2 _ _ _
      | exact anticlinelaw8_Row.mono _ _ _
      | exact anticlinelaw8_known.mono _
      | exact ntt_Transform.mono _ _ _
      | exact LeO.none _
      | refine LeO.ite ?_ ?_
      | refine LeO.bind ?_ (fun _ => ?_)
    · intro y0 y1 y2
      unfold anticlinelaw8_NttEnds.l1
      repeat' first
      | (with_reducible exact ih0 _ _ _ _)
      | (with_reducible exact ih1 _ _ _)
      | (with_reducible exact ih2 _ _ _)
      | (with_reducible exact anticlinelaw8_Row.mono _ _ _)
      | (with_reducible exact anticlinelaw8_known.mono _)
      | (with_reducible exact ntt_Transform.mono _ _ _)
      | (with_reducible exact LeO.refl _)
      | (with_reducible exact LeO.none _)
      | (with_reducible refine LeO.ite ?_ ?_)
      | (with_reducible refine LeO.bind ?_ (fun _ => ?_))
      | exact ih0 _ _ _ _
      | exact ih1 _ _ _
      | exact ih2 _ _ _
      | exact anticlinelaw8_Row.mono _ _ _
      | exact anticlinelaw8_known.mono _
      | exact ntt_Transform.mono _ _ _
      | exact LeO.none _
      | refine LeO.ite ?_ ?_
      | refine LeO.bind ?_ (fun _ => ?_)
theorem anticlinelaw8_NttEnds.mono : ∀ a0 a1 k, LeO (anticlinelaw8_NttEnds.f k a0 a1) (anticlinelaw8_NttEnds.f (k + 1) a0 a1) := by
  intro a0 a1 k
  obtain ⟨ih0, ih1, ih2⟩ := anticlinelaw8_NttEnds.mono_l k
  unfold anticlinelaw8_NttEnds.f
  repeat' first
      | (with_reducible exact ih0 _ _ _ _)
      | (with_reducible exact ih1 _ _ _)
      | (with_reducible exact ih2 _ _ _)
      | (with_reducible exact anticlinelaw8_Row.mono _ _ _)
      | (with_reducible exact anticlinelaw8_known.mono _)
      | (with_reducible exact ntt_Transform.mono _ _ _)
      | (with_reducible exact LeO.refl _)
      | (with_reducible exact LeO.none _)
      | (with_reducible refine LeO.ite ?_ ?_)
      | (with_reducible refine LeO.bind ?_ (fun _ => ?_))
      | exact ih0 _ _ _ _
      | exact ih1 _ _ _
      | exact ih2 _ _ _
      | exact anticlinelaw8_Row.mono _ _ _
      | exact anticlinelaw8_known.mono _
      | exact ntt_Transform.mono _ _ _
      | exact LeO.none _
      | refine LeO.ite ?_ ?_
      | refine LeO.bind ?_ (fun _ => ?_)
set_option maxHeartbeats 8000000 in
set_option maxRecDepth 100000 in
theorem anticlinelaw8_NttEnds.calls (k : Nat) (A0 : Option Addr) (c0 : Nat) (l0 : List Int) (a1 : Int) (r : Bool) (w : World) (hr0 : Kd.C (Kd.int .u32) w A0 l0.length l0) (hc0 : l0.length ≤ c0) (h : anticlinelaw8_NttEnds.f k l0 a1 = some r) :
    Calls Try.prog 6 #[.slice A0 l0.length c0, .int .i64 a1] w fun e w' => e = .returned (.bool r) ∧ Below w.heap.size w w' := by
  have HR0 := Aside0.mk hr0
  have HC0 := Aside0.mk hc0
  clear hr0 hc0
  have HB := Aside0.mk (Below.refl w.heap.size w)
  have H : ((anticlinelaw8_known.f k).bind fun t244 => (if t244 = true then ((anticlinelaw8_within.f a1 8).bind fun t245 => (if 0 ≤ (IntKind.u64.wrap (t245)) then ((anticlinelaw8_Row.f k l0 (shl .i64 1 (IntKind.u64.wrap (t245)))).bind fun t246 => (anticlinelaw8_NttEnds.l0 k (shl .i64 1 (IntKind.u64.wrap (t245))) t246 0 0)) else (none))) else (none))) = some r := h
  clear h
  replace H := Option.bind_eq_some_iff.mp H
  obtain ⟨t244, A30, H⟩ := H
  replace H : (if t244 = true then ((anticlinelaw8_within.f a1 8).bind fun t245 => (if 0 ≤ (IntKind.u64.wrap (t245)) then ((anticlinelaw8_Row.f k l0 (shl .i64 1 (IntKind.u64.wrap (t245)))).bind fun t246 => (anticlinelaw8_NttEnds.l0 k (shl .i64 1 (IntKind.u64.wrap (t245))) t246 0 0)) else (none))) else (none)) = some r := H
  have A3 := Aside0.mk A30
  clear A30
  by_cases c4 : t244 = true
  · subst c4
    have H1 : ((anticlinelaw8_within.f a1 8).bind fun t245 => (if 0 ≤ (IntKind.u64.wrap (t245)) then ((anticlinelaw8_Row.f k l0 (shl .i64 1 (IntKind.u64.wrap (t245)))).bind fun t246 => (anticlinelaw8_NttEnds.l0 k (shl .i64 1 (IntKind.u64.wrap (t245))) t246 0 0)) else (none))) = some r := by rw [if_pos rfl] at H; exact H
    clear H
    have H := H1
    clear H1
    replace H := Option.bind_eq_some_iff.mp H
    obtain ⟨t245, A50, H⟩ := H
    replace H : (if 0 ≤ (IntKind.u64.wrap (t245)) then ((anticlinelaw8_Row.f k l0 (shl .i64 1 (IntKind.u64.wrap (t245)))).bind fun t246 => (anticlinelaw8_NttEnds.l0 k (shl .i64 1 (IntKind.u64.wrap (t245))) t246 0 0)) else (none)) = some r := H
    have A5 := Aside0.mk A50
    clear A50
    obtain ⟨ji6, hji6⟩ : ∃ j_ : Int, (IntKind.u64.wrap (t245)) = j_ := ⟨_, rfl⟩
    replace H : (if 0 ≤ (ji6) then ((anticlinelaw8_Row.f k l0 (shl .i64 1 (ji6))).bind fun t246 => (anticlinelaw8_NttEnds.l0 k (shl .i64 1 (ji6)) t246 0 0)) else (none)) = some r := by first | (rw [hji6] at H; exact H) | (simp only [hji6] at H ⊢; exact H)
    (try rw [hji6] at A3)
    (try rw [hji6] at A5)
    by_cases c7 : 0 ≤ (ji6)
    · rw [if_pos c7] at H
      have c7b0 := eq_true c7
      have c7b1 : decide (0 ≤ (ji6)) = true := decide_eq_true c7
      clear c7
      obtain ⟨ji8, hji8⟩ : ∃ j_ : Int, (shl .i64 1 (ji6)) = j_ := ⟨_, rfl⟩
      replace H : ((anticlinelaw8_Row.f k l0 (ji8)).bind fun t246 => (anticlinelaw8_NttEnds.l0 k ji8 t246 0 0)) = some r := by first | (rw [hji8] at H; exact H) | (simp only [hji8] at H ⊢; exact H)
      (try rw [hji8] at A3)
      (try rw [hji8] at A5)
      have hji8_ : (IntKind.i64.wrap (1 * 2 ^ min (ji6).toNat 64)) = ji8 := hji8
      have hji8z : (ji6) ≤ 64 → (IntKind.i64.wrap (1 * 2 ^ (ji6).toNat)) = ji8 := shl_small hji8
      have hji8u : (IntKind.i64.wrap (2 ^ min (ji6).toNat 64)) = ji8 := by have h_ := hji8_; rw [Int.one_mul] at h_; exact h_
      have hji8v : (ji6) ≤ 64 → (IntKind.i64.wrap (2 ^ (ji6).toNat)) = ji8 := fun hle_ => by have h_ := hji8z hle_; rw [Int.one_mul] at h_; exact h_
      have hji8y : (wrap64 (1 * 2 ^ min (ji6).toNat 64)) = ji8 := (i64_w _).symm.trans hji8_
      have hji8x : (ji6) ≤ 64 → (wrap64 (1 * 2 ^ (ji6).toNat)) = ji8 := fun h_ => (i64_w _).symm.trans (hji8z h_)
      replace H := Option.bind_eq_some_iff.mp H
      obtain ⟨t246, A90, H⟩ := H
      replace H : (anticlinelaw8_NttEnds.l0 k ji8 t246 0 0) = some r := H
      have A9 := Aside0.mk A90
      clear A90
      have H' := Aside0.mk H
      clear H
      go_enter Try.func6, Try.ntmps6
      go_wp2_with (first | ((with_reducible refine gate_callee (f := 11) rfl ?_); refine goesL_ (some 15) rfl rfl Try.func11 (by kernel_rfl) rfl #[] rfl (by (try simp only [List.map_toArray, List.map_cons, List.map_nil]); first | done | rfl | (simp only [List.length_drop, List.length_take]; rfl)) ?_; (with_reducible refine (anticlinelaw8_known.calls k  true _ A3.out).mono ?_); rintro e w10 ⟨rfl, hb⟩; refine ⟨_, rfl, ?_⟩; have n0_ := Aside0.mk (below_step (by repeat (first | (with_reducible first | exact HB.out | apply below_alloc | apply pw_below_drewN | apply below_drew1) | exact HB.out)) hb); clear HB; have HB := n0_; clear n0_; (try clear hb); (try clear hb2); (try clear hk); (try clear hi)) | ((with_reducible refine gate_callee (f := 15) rfl ?_); refine goesL_ (some 18) rfl rfl Try.func15 (by kernel_rfl) rfl #[.int .i64 a1, .int .i64 8] rfl (by (try simp only [List.map_toArray, List.map_cons, List.map_nil]); first | done | rfl | (simp only [List.length_drop, List.length_take]; rfl)) ?_; (with_reducible refine (anticlinelaw8_within.calls a1 8 t245 _ A5.out).mono ?_); rintro e w' ⟨rfl, ⟨nd, rfl⟩⟩; refine ⟨_, rfl, ?_⟩) | ((with_reducible refine gate_callee (f := 14) rfl ?_); refine goesL_ (some 23) rfl rfl Try.func14 (by kernel_rfl) rfl #[.slice A0 l0.length c0, .int .i64 ji8] rfl (by (try simp only [List.map_toArray, List.map_cons, List.map_nil]); first | done | (simp only [hji8]; rfl) | rfl | (simp only [List.length_drop, List.length_take]; rfl)) ?_; (with_reducible refine (anticlinelaw8_Row.calls k _ _ l0 ji8 t246 _ ?side1 ?side2 A9.out).mono ?_); (case side1 => repeat (first | exact (Kd.C_below HR0.out (by repeat (first | (with_reducible first | exact HB.out | apply below_alloc | apply pw_below_drewN | apply below_drew1) | exact HB.out))) | (with_reducible refine Kd.C_alloc ?_ _) | (with_reducible refine Kd.C_drewN ?_ _) | (with_reducible refine Kd.C_drew ?_))); (case side2 => exact HC0.out); rintro e w11 ⟨v247, rfl, ho0, hb⟩; refine ⟨_, rfl, ?_⟩; have n0_ := Aside0.mk (Kd.R_lower ho0 (below_size (by repeat (first | (with_reducible first | exact HB.out | apply below_alloc | apply pw_below_drewN | apply below_drew1) | exact HB.out)))); have n1_ := Aside0.mk (below_step (by repeat (first | (with_reducible first | exact HB.out | apply below_alloc | apply pw_below_drewN | apply below_drew1) | exact HB.out)) hb); clear HB; have HO248 := n0_; have HB := n1_; clear n0_ n1_; (try clear hb); (try clear hb2); (try clear hk); (try clear hi); (try clear ho0)))
      go_loopg [7, 8] k (fun kq v7 v8 w' => ∃ (x7_1 : Int) (x8_1 : Int), v7 = .int .u64 x7_1 ∧ v8 = .int .i64 x8_1 ∧ Aside0 (anticlinelaw8_NttEnds.l0 kq ji8 t246 x7_1 x8_1 = some r) ∧ Aside0 (kq ≤ k) ∧ Aside0 (Kd.R (Kd.int .u32) 22 w' w.heap.size (fun _ => True) v247 t246) ∧ Aside0 (Below w.heap.size w w'))
      case atStart => exact ⟨(0), (0), (by first | rfl | (simp; done) | (simp [*]; done)), (by first | rfl | (simp; done) | (simp [*]; done)), H', ⟨Nat.le_refl _⟩, ⟨by (with_reducible repeat (first | apply Kd.R_alloc | apply Kd.R_drewN | apply Kd.R_drew)); exact HO248.out⟩, ⟨by repeat (first | (with_reducible first | exact HB.out | apply below_alloc | apply pw_below_drewN | apply below_drew1) | exact HB.out)⟩⟩
      case round =>
        clear H'
        try clear c1
        try clear p2
        try clear c4
        try clear c6
        try clear p6
        try clear c7
        try clear c7b0
        try clear c7b1
        try clear c11
        obtain ⟨x7_1, x8_1, rfl, rfl, HA, HK1, HO_6, HB⟩ := hrel
        cases gk with
        | zero => exact absurd HA.out (by simp [anticlinelaw8_NttEnds.l0])
        | succ k1 =>
          have H := HA.out
          clear HA
          simp only [anticlinelaw8_NttEnds.l0] at H
          by_cases c12 : x8_1 < ji8
          · rw [if_pos c12] at H
            have c12b0 : decide (x8_1 < ji8) = true := decide_eq_true c12
            clear c12
            by_cases c13 : 0 ≤ x8_1
            · rw [if_pos c13] at H
              have c13b0 : decide (0 ≤ x8_1) = true := decide_eq_true c13
              clear c13
              by_cases c14 : x8_1 < (t246.length : Int)
              · rw [if_pos c14] at H
                have c14b0 : decide (x8_1 < (t246.length : Int)) = true := decide_eq_true c14
                clear c14
                have H' := Aside0.mk H
                clear H
                obtain ⟨Ao15, co15, eo15⟩ := Kd.R_slice HO_6.out
                subst eo15
                have p249 : 0 ≤ (x8_1 : Int) := of_decide_eq_true (by first | (with_reducible assumption) | assumption)
                have q249 : x8_1 < (t246.length : Int) := of_decide_eq_true (by first | (with_reducible assumption) | assumption)
                obtain ⟨ad249, e249, hx249_0⟩ := Kd.at_int (Kd.R_reads' HO_6.out).2.2 x8_1 p249 q249
                cases e249
                replace p249 := eq_true p249
                replace q249 := eq_true q249
                go_wp2
                go_roundg k1
                case measure => have := HK1.out; omega
                case rel => exact ⟨(Int.tmod (IntKind.u64.wrap (x7_1 + (IntKind.u64.wrap (rd t246 x8_1)))) 998244353), (wrap64 (x8_1 + 1)), (by first | rfl | (simp; done) | (simp [*]; done)), (by first | rfl | (simp; done) | (simp [*]; done)), H', ⟨by have := HK1.out; omega⟩, ⟨by (with_reducible repeat (first | apply Kd.R_alloc | apply Kd.R_drewN | apply Kd.R_drew)); exact HO_6.out⟩, ⟨by repeat (first | (with_reducible first | exact HB.out | apply below_alloc | apply pw_below_drewN | apply below_drew1) | exact HB.out)⟩⟩
              · rw [if_neg c14] at H
                exact absurd H (by simp)
            · rw [if_neg c13] at H
              exact absurd H (by simp)
          · rw [if_neg c12] at H
            have c12b0 : decide (x8_1 < ji8) = false := decide_eq_false c12
            clear c12
            replace H := Option.bind_eq_some_iff.mp H
            obtain ⟨⟨t250, t251⟩, A160, H⟩ := H
            replace H : (if 0 ≤ ji8 then (if (ji8 : Int).toNat ≤ 70368744177664 then ((some (List.replicate (ji8 : Int).toNat 0 : List Int)).bind fun y254 => (if 0 < (y254.length : Int) then ((ntt_Transform.f k1 (y254.set (0 : Int).toNat 1) false).bind fun bt258 => (if t251 = 0 then (if bt258.2 = 0 then (if (t250.length : Int) = ji8 then (if (bt258.1.length : Int) = ji8 then (if 0 < (t250.length : Int) then (anticlinelaw8_NttEnds.j1 k1 ji8 bt258.1 ((IntKind.u64.wrap (rd t250 0)) != x7_1)) else (none)) else (anticlinelaw8_NttEnds.j1 k1 ji8 bt258.1 true)) else (anticlinelaw8_NttEnds.j1 k1 ji8 bt258.1 true)) else (anticlinelaw8_NttEnds.j1 k1 ji8 bt258.1 true)) else (anticlinelaw8_NttEnds.j1 k1 ji8 bt258.1 true))) else (none))) else (none)) else (none)) = some r := H
            have A16 := Aside0.mk A160
            clear A160
            by_cases c17 : 0 ≤ ji8
            · rw [if_pos c17] at H
              have c17b0 := eq_true c17
              have c17b1 : decide (0 ≤ ji8) = true := decide_eq_true c17
              clear c17
              by_cases c18 : (ji8 : Int).toNat ≤ 70368744177664
              · rw [if_pos c18] at H
                have c18b0 := eq_true c18
                have c18b1 : decide ((ji8 : Int).toNat ≤ 70368744177664) = true := decide_eq_true c18
                clear c18
                obtain ⟨y254, hy254⟩ : ∃ y_ : List Int, y_ = (List.replicate (ji8 : Int).toNat 0) := ⟨_, rfl⟩
                replace H : (if 0 < (y254.length : Int) then ((ntt_Transform.f k1 (y254.set (0 : Int).toNat 1) false).bind fun bt258 => (if t251 = 0 then (if bt258.2 = 0 then (if (t250.length : Int) = ji8 then (if (bt258.1.length : Int) = ji8 then (if 0 < (t250.length : Int) then (anticlinelaw8_NttEnds.j1 k1 ji8 bt258.1 ((IntKind.u64.wrap (rd t250 0)) != x7_1)) else (none)) else (anticlinelaw8_NttEnds.j1 k1 ji8 bt258.1 true)) else (anticlinelaw8_NttEnds.j1 k1 ji8 bt258.1 true)) else (anticlinelaw8_NttEnds.j1 k1 ji8 bt258.1 true)) else (anticlinelaw8_NttEnds.j1 k1 ji8 bt258.1 true))) else (none)) = some r := by first | (rw [hy254]; with_reducible exact H) | (have H2_ := (Option.bind_some _ _).symm.trans H; rw [hy254]; with_reducible exact H2_) | (have H2_ := (Option.bind_some _ _).symm.trans H; with_reducible exact H2_) | with_reducible exact H | (rw [hy254]; exact H) | exact H
                have Ny254 := Aside0.mk hy254
                clear hy254
                by_cases c19 : 0 < (y254.length : Int)
                · rw [if_pos c19] at H
                  have c19b0 : decide (0 < (y254.length : Int)) = true := decide_eq_true c19
                  have c19b1 : decide (0 < y254.length) = true := decide_eq_true (by omega)
                  clear c19
                  obtain ⟨y257, hy257⟩ : ∃ y_ : List Int, y_ = (y254.set (0 : Int).toNat 1) := ⟨_, rfl⟩
                  replace H : ((ntt_Transform.f k1 y257 false).bind fun bt258 => (if t251 = 0 then (if bt258.2 = 0 then (if (t250.length : Int) = ji8 then (if (bt258.1.length : Int) = ji8 then (if 0 < (t250.length : Int) then (anticlinelaw8_NttEnds.j1 k1 ji8 bt258.1 ((IntKind.u64.wrap (rd t250 0)) != x7_1)) else (none)) else (anticlinelaw8_NttEnds.j1 k1 ji8 bt258.1 true)) else (anticlinelaw8_NttEnds.j1 k1 ji8 bt258.1 true)) else (anticlinelaw8_NttEnds.j1 k1 ji8 bt258.1 true)) else (anticlinelaw8_NttEnds.j1 k1 ji8 bt258.1 true))) = some r := by first | (rw [hy257]; with_reducible exact H) | (have H2_ := (Option.bind_some _ _).symm.trans H; rw [hy257]; with_reducible exact H2_) | (have H2_ := (Option.bind_some _ _).symm.trans H; with_reducible exact H2_) | with_reducible exact H | (rw [hy257]; exact H) | exact H
                  have Ny257 := Aside0.mk hy257
                  clear hy257
                  replace H := Option.bind_eq_some_iff.mp H
                  obtain ⟨⟨t258, t259⟩, A210, H⟩ := H
                  replace H : (if t251 = 0 then (if t259 = 0 then (if (t250.length : Int) = ji8 then (if (t258.length : Int) = ji8 then (if 0 < (t250.length : Int) then (anticlinelaw8_NttEnds.j1 k1 ji8 t258 ((IntKind.u64.wrap (rd t250 0)) != x7_1)) else (none)) else (anticlinelaw8_NttEnds.j1 k1 ji8 t258 true)) else (anticlinelaw8_NttEnds.j1 k1 ji8 t258 true)) else (anticlinelaw8_NttEnds.j1 k1 ji8 t258 true)) else (anticlinelaw8_NttEnds.j1 k1 ji8 t258 true)) = some r := H
                  have A21 := Aside0.mk A210
                  clear A210
                  have HC22 := Aside0.mk H
                  clear H
                  obtain ⟨Ao23, co23, eo23⟩ := Kd.R_slice HO_6.out
                  subst eo23
                  go_upto_region 14 with (first | ((with_reducible refine gate_callee (f := 16) rfl ?_); refine goesL_ (some 39) rfl rfl Try.func16 (by kernel_rfl) rfl #[.slice Ao23 t246.length co23, .bool false] rfl (by (try simp only [List.map_toArray, List.map_cons, List.map_nil]); first | done | rfl | (simp only [List.length_drop, List.length_take]; rfl)) ?_; (with_reducible refine (ntt_Transform.calls k1 _ _ t246 false t250 t251 _ ?side1 ?side2 A16.out).mono ?_); (case side1 => repeat (first | exact (Kd.R_reads' HO_6.out).2.2 | (with_reducible refine Kd.C_alloc ?_ _) | (with_reducible refine Kd.C_drewN ?_ _) | (with_reducible refine Kd.C_drew ?_))); (case side2 => exact (Kd.R_reads' HO_6.out).2.1); rintro e w24 ⟨v252, rfl, ho0, hb⟩; refine ⟨_, rfl, ?_⟩; have n0_ := Aside0.mk (Kd.R_elder' (by (with_reducible repeat (first | apply Kd.R_alloc | apply Kd.R_drewN | apply Kd.R_drew)); exact HO_6.out) (Kd.R_base ho0) hb); have n1_ := Aside0.mk (Kd.R_lower (Kd.R_new' ho0 (Kd.R_lt (by (with_reducible repeat (first | apply Kd.R_alloc | apply Kd.R_drewN | apply Kd.R_drew)); exact HO_6.out))) (below_size (by repeat (first | (with_reducible first | exact HB.out | apply below_alloc | apply pw_below_drewN | apply below_drew1) | exact HB.out)))); have n2_ := Aside0.mk (below_step (by repeat (first | (with_reducible first | exact HB.out | apply below_alloc | apply pw_below_drewN | apply below_drew1) | exact HB.out)) hb); clear HO_6; clear HB; have HO_6 := n0_; have HO253 := n1_; have HB := n2_; clear n0_ n1_ n2_; (try clear hb); (try clear hb2); (try clear hk); (try clear hi); (try clear ho0)) | ((with_reducible refine gate_dst (N := 43) rfl ?_); (try (refine gate_guard (by rfl) ?_; dsimp only)); refine Kd.R_make (Kd.int .u32) _ 22 rfl (N := 43) rfl 27 _ _ rfl ji8 rfl rfl Try.underlying27 (.int .u32 0) 4 info22 rfl (by decide) (by omega) 0 (ok := fun _ => True) (okp := fun _ => True) rfl (fun _ hk => hk) trivial (of_decide_eq_true (by first | (with_reducible assumption) | assumption)) (Nat.le_trans (Nat.mul_le_mul_right _ (of_decide_eq_true (by first | (with_reducible assumption) | assumption) : ji8.toNat ≤ 70368744177664)) (by omega)) (Below.refl _ _) (Nat.le_refl _) ?_; intro v255 w25 ho26 hb hg_ hnew_; clear hg_ hnew_; (first | rw [← Ny254.out] at ho26 | (simp only [Int.reduceToNat] at ho26; rw [← Ny254.out] at ho26)); have n0_ := Aside0.mk (Kd.R_elder' (by (with_reducible repeat (first | apply Kd.R_alloc | apply Kd.R_drewN | apply Kd.R_drew)); exact HO_6.out) (Kd.R_base ho26) hb); have n1_ := Aside0.mk (Kd.R_elder' (by (with_reducible repeat (first | apply Kd.R_alloc | apply Kd.R_drewN | apply Kd.R_drew)); exact HO253.out) (Kd.R_base ho26) hb); have n2_ := Aside0.mk (Kd.R_lower (Kd.R_new' (Kd.R_new' ho26 (Kd.R_lt (by (with_reducible repeat (first | apply Kd.R_alloc | apply Kd.R_drewN | apply Kd.R_drew)); exact HO_6.out))) (Kd.R_lt (by (with_reducible repeat (first | apply Kd.R_alloc | apply Kd.R_drewN | apply Kd.R_drew)); exact HO253.out))) (below_size (by repeat (first | (with_reducible first | exact HB.out | apply below_alloc | apply pw_below_drewN | apply below_drew1) | exact HB.out)))); have n3_ := Aside0.mk (below_step (by repeat (first | (with_reducible first | exact HB.out | apply below_alloc | apply pw_below_drewN | apply below_drew1) | exact HB.out)) hb); clear HO_6; clear HO253; clear HB; have HO_6 := n0_; have HO253 := n1_; have HO256 := n2_; have HB := n3_; clear n0_ n1_ n2_ n3_; clear hb ho26; have p20 : 0 ≤ (0 : Int) := (by omega); have q20 : (0 : Int) < ((y254.length : Int) : Int) := of_decide_eq_true (by first | (with_reducible assumption) | assumption); have qi20 : (0 < y254.length) = True := eq_true (by omega); obtain ⟨go20, co20, eo20, gb20, gl20, cl20, HG20⟩ := Kd.R_form HO256.out (by omega); (first | cases eo20 | (injection eo20 with ea_ en_ ec_; (first | subst ea_ | (injection ea_ with ea_; subst ea_)); subst ec_; clear en_)); have GB20 := Aside0.mk gb20; have GG20 := Aside0.mk HG20; clear gb20 gl20 HG20; obtain ⟨hx20_0, hf20_0⟩ := Kd.R_celln 0 HO256.out (0 : Int) p20 q20; (try rw [show ((0 : Int)).toNat = 0 from rfl] at hx20_0); (try simp only [Nat.reduceMul, Nat.zero_mul, Nat.zero_add, Nat.reduceAdd] at hx20_0); (try rw [show ((0 : Int)).toNat = 0 from rfl] at hf20_0); (try simp only [Nat.reduceMul, Nat.zero_mul, Nat.zero_add, Nat.reduceAdd] at hf20_0); replace p20 := eq_true p20; replace q20 := eq_true q20; have n_ := Aside0.mk (Kd.R_mono (ok' := (fun k_ => some k_ ≠ (.slice Ao23 t246.length co23 : Value).ownBlock ∧ some k_ ≠ (v252 : Value).ownBlock)) HO256.out (fun k_ hk => ⟨hk.1.2, hk.2⟩)); clear HO256; have HO256 := n_; clear n_; obtain ⟨hy27_, hz27_⟩ := Kd.R_celln 0 HO256.out (0 : Int) (by omega) (of_decide_eq_true (by first | (with_reducible assumption) | assumption)); (try simp only [Int.reduceToNat, Int.toNat_zero, Int.toNat_ofNat, Nat.reduceMul, Nat.zero_mul, Nat.zero_add] at hy27_ hz27_); (try rw [show ((0 : Int)).toNat = 0 from rfl] at hy27_); (try rw [show ((0 : Int)).toNat = 0 from rfl] at hz27_); have HP27 := Kd.R_putg HO256.out (0 : Int) 1) | ((with_reducible refine gate_store (t := 22) (p := 45) rfl ?_); refine store_event (t := 22) (p := 45) (v := ?vo_w28) (w1 := (w25.setCell ⟨go20, (0 : Int).toNat, none⟩ (.int .u32 1))) ?hg ?ho ?hn ?hr ?_; (case ho => rfl); (case hg => rfl); (case hn => rfl); (case hr => first | (go_simp; done) | (go_simp; rfl)); intro w28 hw; have hg : w25.grownBy w28 (some go20) := (by rw [hw]; exact HP27.2); have hp_ : Kd.R (Kd.int .u32) 22 w28 w.heap.size (fun k_ => some k_ ≠ (.slice Ao23 t246.length co23 : Value).ownBlock ∧ some k_ ≠ (v252 : Value).ownBlock) (.slice (some ⟨go20, 0, none⟩) y254.length co20) y257 := (by rw [hw, Ny257.out]; exact HP27.1); clear HP27; have n0_ := Aside0.mk (Kd.R_after (v := (.slice (some ⟨go20, 0, none⟩) y254.length co20)) (v1 := (.slice (some ⟨go20, 0, none⟩) y254.length co20)) (ok := (fun k_ => some k_ ≠ (v252 : Value).ownBlock)) (by (with_reducible repeat (first | apply Kd.R_alloc | apply Kd.R_drewN | apply Kd.R_drew)); exact Kd.R_mono HO_6.out (fun _ hk => ⟨hk.1.2, hk.2⟩)) hg (.inl rfl)); have n1_ := Aside0.mk (Kd.R_after (v := (.slice (some ⟨go20, 0, none⟩) y254.length co20)) (v1 := (.slice (some ⟨go20, 0, none⟩) y254.length co20)) (ok := (fun k_ => some k_ ≠ (.slice Ao23 t246.length co23 : Value).ownBlock)) (by (with_reducible repeat (first | apply Kd.R_alloc | apply Kd.R_drewN | apply Kd.R_drew)); exact Kd.R_mono HO253.out (fun _ hk => ⟨hk.1.2, hk.2⟩)) hg (.inl rfl)); have n2_ := Aside0.mk (hp_); have n3_ := Aside0.mk ((by rw [hw]; exact below_set (HB.out) GB20.out : Below w.heap.size w w28)); clear HO_6; clear HO253; clear HO256; clear HB; have HO_6 := n0_; have HO253 := n1_; have HO256 := n2_; have HB := n3_; clear n0_ n1_ n2_ n3_; clear hg hw hp_) | ((with_reducible refine gate_callee (f := 16) rfl ?_); refine goesL_ (some 48) rfl rfl Try.func16 (by kernel_rfl) rfl #[.slice (some ⟨go20, 0, none⟩) y257.length co20, .bool false] rfl (by (try simp only [List.map_toArray, List.map_cons, List.map_nil]); first | done | (rw [show y257.length = y254.length from (Kd.R_reads' HO256.out).1.symm] <;> rfl) | rfl | (simp only [List.length_drop, List.length_take]; rfl)) ?_; (with_reducible refine (ntt_Transform.calls k1 _ _ y257 false t258 t259 _ ?side1 ?side2 A21.out).mono ?_); (case side1 => repeat (first | exact (Kd.R_reads' HO256.out).2.2 | (with_reducible refine Kd.C_alloc ?_ _) | (with_reducible refine Kd.C_drewN ?_ _) | (with_reducible refine Kd.C_drew ?_))); (case side2 => rw [show y257.length = y254.length from (Kd.R_reads' HO256.out).1.symm]; exact (Kd.R_reads' HO256.out).2.1); rintro e w29 ⟨v260, rfl, ho0, hb⟩; refine ⟨_, rfl, ?_⟩; have n0_ := Aside0.mk (Kd.R_elder' (by (with_reducible repeat (first | apply Kd.R_alloc | apply Kd.R_drewN | apply Kd.R_drew)); exact HO_6.out) (Kd.R_base ho0) hb); have n1_ := Aside0.mk (Kd.R_elder' (by (with_reducible repeat (first | apply Kd.R_alloc | apply Kd.R_drewN | apply Kd.R_drew)); exact HO253.out) (Kd.R_base ho0) hb); have n2_ := Aside0.mk (Kd.R_elder' (by (with_reducible repeat (first | apply Kd.R_alloc | apply Kd.R_drewN | apply Kd.R_drew)); exact HO256.out) (Kd.R_base ho0) hb); have n3_ := Aside0.mk (Kd.R_lower (Kd.R_new' (Kd.R_new' (Kd.R_new' ho0 (Kd.R_lt (by (with_reducible repeat (first | apply Kd.R_alloc | apply Kd.R_drewN | apply Kd.R_drew)); exact HO_6.out))) (Kd.R_lt (by (with_reducible repeat (first | apply Kd.R_alloc | apply Kd.R_drewN | apply Kd.R_drew)); exact HO253.out))) (Kd.R_lt (by (with_reducible repeat (first | apply Kd.R_alloc | apply Kd.R_drewN | apply Kd.R_drew)); exact HO256.out))) (below_size (by repeat (first | (with_reducible first | exact HB.out | apply below_alloc | apply pw_below_drewN | apply below_drew1) | exact HB.out)))); have n4_ := Aside0.mk (below_step (by repeat (first | (with_reducible first | exact HB.out | apply below_alloc | apply pw_below_drewN | apply below_drew1) | exact HB.out)) hb); clear HO_6; clear HO253; clear HO256; clear HB; have HO_6 := n0_; have HO253 := n1_; have HO256 := n2_; have HO261 := n3_; have HB := n4_; clear n0_ n1_ n2_ n3_ n4_; (try clear hb); (try clear hb2); (try clear hk); (try clear hi); (try clear ho0)))
                  (try simp only [Act.put, List.setIfInBounds_toArray, List.set_cons_zero, List.set_cons_succ])
                  go_cut [76] (fun v76 wc => ∃ (kq : Nat) (x76_21 : Bool), v76 = .bool x76_21 ∧ Aside0 (anticlinelaw8_NttEnds.j1 kq ji8 t258 x76_21 = some r) ∧ Aside0 (kq ≤ k1) ∧ Aside0 (Kd.R (Kd.int .u32) 22 wc w.heap.size (fun _ => True) v260 t258) ∧ Aside0 (Below w.heap.size w wc))
                  case first =>
                    have H := HC22.out
                    clear HC22
                    by_cases c30 : t251 = 0
                    · rw [if_pos c30] at H
                      have c30b0 : (t251 == 0) = true := beq_iff_eq.mpr c30
                      have c30b1 : (t251 != 0) = false := bne_eq_false_iff_eq.mpr c30
                      clear c30
                      (first | rw [c30b0] | (simp only [i64_w, i32_w]; rw [c30b0]) | skip)
                      by_cases c31 : t259 = 0
                      · rw [if_pos c31] at H
                        have c31b0 : (t259 == 0) = true := beq_iff_eq.mpr c31
                        have c31b1 : (t259 != 0) = false := bne_eq_false_iff_eq.mpr c31
                        clear c31
                        by_cases c32 : (t250.length : Int) = ji8
                        · rw [if_pos c32] at H
                          have c32b0 : ((t250.length : Int) == ji8) = true := beq_iff_eq.mpr c32
                          have c32b1 : ((t250.length : Int) != ji8) = false := bne_eq_false_iff_eq.mpr c32
                          clear c32
                          by_cases c33 : (t258.length : Int) = ji8
                          · rw [if_pos c33] at H
                            have c33b0 : ((t258.length : Int) == ji8) = true := beq_iff_eq.mpr c33
                            have c33b1 : ((t258.length : Int) != ji8) = false := bne_eq_false_iff_eq.mpr c33
                            clear c33
                            by_cases c34 : 0 < (t250.length : Int)
                            · rw [if_pos c34] at H
                              have c34b0 : decide (0 < (t250.length : Int)) = true := decide_eq_true c34
                              have c34b1 : decide (0 < t250.length) = true := decide_eq_true (by omega)
                              clear c34
                              have H' := Aside0.mk H
                              clear H
                              obtain ⟨Ao35, co35, eo35⟩ := Kd.R_slice HO253.out
                              subst eo35
                              obtain ⟨Ao36, co36, eo36⟩ := Kd.R_slice HO261.out
                              subst eo36
                              have p262 : 0 ≤ (0 : Int) := (by omega)
                              have q262 : 0 < (t250.length : Int) := of_decide_eq_true (by first | (with_reducible assumption) | assumption)
                              obtain ⟨ad262, e262, hx262_0⟩ := Kd.at_int (Kd.R_reads' HO253.out).2.2 0 p262 q262
                              cases e262
                              have qi262 : (0 < t250.length) = True := eq_true (by omega)
                              (try rw [show ((0 : Int)).toNat = 0 from rfl] at hx262_0)
                              (try rw [Addr.add_zero'] at hx262_0)
                              replace p262 := eq_true p262
                              replace q262 := eq_true q262
                              go_wp2
                              go_meet
                              case rel => exact ⟨_, (((IntKind.u64.wrap (rd t250 0)) != x7_1)), (by first | rfl | (simp; done) | (simp [*]; done)), H', ⟨by have := HK1.out; first | omega | exact Nat.le_refl _⟩, ⟨by (with_reducible repeat (first | apply Kd.R_alloc | apply Kd.R_drewN | apply Kd.R_drew)); exact Kd.R_mono HO261.out (fun _ hk => trivial)⟩, ⟨by repeat (first | (with_reducible first | exact HB.out | apply below_alloc | apply pw_below_drewN | apply below_drew1) | exact HB.out)⟩⟩
                            · rw [if_neg c34] at H
                              exact absurd H (by simp)
                          · rw [if_neg c33] at H
                            have c33b0 : ((t258.length : Int) == ji8) = false := beq_eq_false_iff_ne.mpr c33
                            have c33b1 : ((t258.length : Int) != ji8) = true := bne_iff_ne.mpr c33
                            have H' := Aside0.mk H
                            clear H
                            obtain ⟨Ao37, co37, eo37⟩ := Kd.R_slice HO253.out
                            subst eo37
                            obtain ⟨Ao38, co38, eo38⟩ := Kd.R_slice HO261.out
                            subst eo38
                            go_wp2
                            go_meet
                            case rel => exact ⟨_, (true), (by first | rfl | (simp; done) | (simp [*]; done)), H', ⟨by have := HK1.out; first | omega | exact Nat.le_refl _⟩, ⟨by (with_reducible repeat (first | apply Kd.R_alloc | apply Kd.R_drewN | apply Kd.R_drew)); exact Kd.R_mono HO261.out (fun _ hk => trivial)⟩, ⟨by repeat (first | (with_reducible first | exact HB.out | apply below_alloc | apply pw_below_drewN | apply below_drew1) | exact HB.out)⟩⟩
                        · rw [if_neg c32] at H
                          have c32b0 : ((t250.length : Int) == ji8) = false := beq_eq_false_iff_ne.mpr c32
                          have c32b1 : ((t250.length : Int) != ji8) = true := bne_iff_ne.mpr c32
                          have H' := Aside0.mk H
                          clear H
                          obtain ⟨Ao39, co39, eo39⟩ := Kd.R_slice HO253.out
                          subst eo39
                          go_wp2
                          go_meet
                          case rel => exact ⟨_, (true), (by first | rfl | (simp; done) | (simp [*]; done)), H', ⟨by have := HK1.out; first | omega | exact Nat.le_refl _⟩, ⟨by (with_reducible repeat (first | apply Kd.R_alloc | apply Kd.R_drewN | apply Kd.R_drew)); exact Kd.R_mono HO261.out (fun _ hk => trivial)⟩, ⟨by repeat (first | (with_reducible first | exact HB.out | apply below_alloc | apply pw_below_drewN | apply below_drew1) | exact HB.out)⟩⟩
                      · rw [if_neg c31] at H
                        have c31b0 : (t259 == 0) = false := beq_eq_false_iff_ne.mpr c31
                        have c31b1 : (t259 != 0) = true := bne_iff_ne.mpr c31
                        have H' := Aside0.mk H
                        clear H
                        go_wp2
                        go_meet
                        case rel => exact ⟨_, (true), (by first | rfl | (simp; done) | (simp [*]; done)), H', ⟨by have := HK1.out; first | omega | exact Nat.le_refl _⟩, ⟨by (with_reducible repeat (first | apply Kd.R_alloc | apply Kd.R_drewN | apply Kd.R_drew)); exact Kd.R_mono HO261.out (fun _ hk => trivial)⟩, ⟨by repeat (first | (with_reducible first | exact HB.out | apply below_alloc | apply pw_below_drewN | apply below_drew1) | exact HB.out)⟩⟩
                    · rw [if_neg c30] at H
                      have c30b0 : (t251 == 0) = false := beq_eq_false_iff_ne.mpr c30
                      have c30b1 : (t251 != 0) = true := bne_iff_ne.mpr c30
                      (first | rw [c30b0] | (simp only [i64_w, i32_w]; rw [c30b0]) | skip)
                      have H' := Aside0.mk H
                      clear H
                      go_wp2
                      go_meet
                      case rel => exact ⟨_, (true), (by first | rfl | (simp; done) | (simp [*]; done)), H', ⟨by have := HK1.out; first | omega | exact Nat.le_refl _⟩, ⟨by (with_reducible repeat (first | apply Kd.R_alloc | apply Kd.R_drewN | apply Kd.R_drew)); exact Kd.R_mono HO261.out (fun _ hk => trivial)⟩, ⟨by repeat (first | (with_reducible first | exact HB.out | apply below_alloc | apply pw_below_drewN | apply below_drew1) | exact HB.out)⟩⟩
                  case rest =>
                    clear HC22
                    try clear c1
                    try clear p2
                    try clear q2
                    try clear hx2
                    try clear qi2
                    try clear hf2
                    try clear c3
                    try clear c4
                    try clear c6
                    try clear p6
                    try clear c7
                    try clear c7b0
                    try clear c7b1
                    try clear c11
                    try clear c12
                    try clear c12b0
                    try clear c13
                    try clear c13b0
                    try clear c14
                    try clear c14b0
                    try clear c15
                    try clear c16
                    try clear c17
                    try clear c17b0
                    try clear c17b1
                    try clear c18
                    try clear c18b0
                    try clear c18b1
                    try clear c19
                    try clear c19b0
                    try clear c19b1
                    try clear p20
                    try clear q20
                    try clear hx20
                    try clear qi20
                    try clear hf20
                    try clear p24
                    try clear q24
                    try clear hx24
                    try clear p26
                    try clear q26
                    try clear hx26
                    try clear qi26
                    try clear c30
                    try clear c30b0
                    try clear c30b1
                    try clear c31
                    try clear c31b0
                    try clear c31b1
                    try clear c32
                    try clear c32b0
                    try clear c32b1
                    try clear c33
                    try clear c33b0
                    try clear c33b1
                    try clear c34
                    try clear c34b0
                    try clear c34b1
                    try clear hx20_0
                    try clear hx249_0
                    try clear hx262_0
                    try clear p2
                    try clear p20
                    try clear p249
                    try clear p262
                    try clear p6
                    try clear q20
                    try clear q249
                    try clear q262
                    obtain ⟨kq, x76_21, rfl, HA, HJ21, HO_12, HB⟩ := hcut
                    cases kq with
                    | zero => exact absurd HA.out (by simp [anticlinelaw8_NttEnds.j1])
                    | succ kj21 =>
                      have H := HA.out
                      clear HA
                      simp only [anticlinelaw8_NttEnds.j1] at H
                      by_cases c40 : x76_21 = true
                      · subst c40
                        have H1 : (none) = some r := by rw [if_pos rfl] at H; exact H
                        clear H
                        have H := H1
                        clear H1
                        exact absurd H (by simp)
                      · replace c40 := Bool.eq_false_iff.mpr c40
                        subst c40
                        have H1 : (anticlinelaw8_NttEnds.l1 kj21 ji8 t258 0) = some r := by rw [if_neg (show ¬ (false = true) by decide)] at H; exact H
                        clear H
                        have H := H1
                        clear H1
                        have H' := Aside0.mk H
                        clear H
                        go_wp2
                        go_loopg [14] kj21 (fun kq v14 w' => ∃ (x14_3 : Int), v14 = .int .i64 x14_3 ∧ Aside0 (anticlinelaw8_NttEnds.l1 kq ji8 t258 x14_3 = some r) ∧ Aside0 (kq ≤ kj21) ∧ Aside0 (Kd.R (Kd.int .u32) 22 w' w.heap.size (fun _ => True) v260 t258) ∧ Aside0 (Below w.heap.size w w'))
                        case atStart => exact ⟨(0), (by first | rfl | (simp; done) | (simp [*]; done)), H', ⟨Nat.le_refl _⟩, ⟨by (with_reducible repeat (first | apply Kd.R_alloc | apply Kd.R_drewN | apply Kd.R_drew)); exact HO_12.out⟩, ⟨by repeat (first | (with_reducible first | exact HB.out | apply below_alloc | apply pw_below_drewN | apply below_drew1) | exact HB.out)⟩⟩
                        case round =>
                          clear H'
                          try clear c1
                          try clear p2
                          try clear q2
                          try clear hx2
                          try clear qi2
                          try clear hf2
                          try clear c3
                          try clear c4
                          try clear c6
                          try clear p6
                          try clear c7
                          try clear c7b0
                          try clear c7b1
                          try clear c11
                          try clear c12
                          try clear c12b0
                          try clear c13
                          try clear c13b0
                          try clear c14
                          try clear c14b0
                          try clear c15
                          try clear c16
                          try clear c17
                          try clear c17b0
                          try clear c17b1
                          try clear c18
                          try clear c18b0
                          try clear c18b1
                          try clear c19
                          try clear c19b0
                          try clear c19b1
                          try clear p20
                          try clear q20
                          try clear hx20
                          try clear qi20
                          try clear hf20
                          try clear p24
                          try clear q24
                          try clear hx24
                          try clear p26
                          try clear q26
                          try clear hx26
                          try clear qi26
                          try clear c30
                          try clear c30b0
                          try clear c30b1
                          try clear c31
                          try clear c31b0
                          try clear c31b1
                          try clear c32
                          try clear c32b0
                          try clear c32b1
                          try clear c33
                          try clear c33b0
                          try clear c33b1
                          try clear c34
                          try clear c34b0
                          try clear c34b1
                          try clear c40
                          try clear hx20_0
                          try clear hx249_0
                          try clear hx262_0
                          try clear p2
                          try clear p20
                          try clear p24
                          try clear p249
                          try clear p26
                          try clear p262
                          try clear p6
                          try clear q2
                          try clear q20
                          try clear q24
                          try clear q249
                          try clear q26
                          try clear q262
                          obtain ⟨x14_3, rfl, HA, HK3, HO_12, HB⟩ := hrel
                          cases gk with
                          | zero => exact absurd HA.out (by simp [anticlinelaw8_NttEnds.l1])
                          | succ k3 =>
                            have H := HA.out
                            clear HA
                            simp only [anticlinelaw8_NttEnds.l1] at H
                            by_cases c41 : x14_3 < ji8
                            · rw [if_pos c41] at H
                              have c41b0 : decide (x14_3 < ji8) = true := decide_eq_true c41
                              clear c41
                              by_cases c42 : 0 ≤ x14_3
                              · rw [if_pos c42] at H
                                have c42b0 : decide (0 ≤ x14_3) = true := decide_eq_true c42
                                clear c42
                                by_cases c43 : x14_3 < (t258.length : Int)
                                · rw [if_pos c43] at H
                                  have c43b0 : decide (x14_3 < (t258.length : Int)) = true := decide_eq_true c43
                                  clear c43
                                  by_cases c44 : (rd t258 x14_3) = 1
                                  · rw [if_pos c44] at H
                                    have c44b0 : ((rd t258 x14_3) == 1) = true := beq_iff_eq.mpr c44
                                    have c44b1 : ((rd t258 x14_3) != 1) = false := bne_eq_false_iff_eq.mpr c44
                                    clear c44
                                    have H' := Aside0.mk H
                                    clear H
                                    obtain ⟨Ao45, co45, eo45⟩ := Kd.R_slice HO_12.out
                                    subst eo45
                                    have p263 : 0 ≤ (x14_3 : Int) := of_decide_eq_true (by first | (with_reducible assumption) | assumption)
                                    have q263 : x14_3 < (t258.length : Int) := of_decide_eq_true (by first | (with_reducible assumption) | assumption)
                                    obtain ⟨ad263, e263, hx263_0⟩ := Kd.at_int (Kd.R_reads' HO_12.out).2.2 x14_3 p263 q263
                                    cases e263
                                    replace p263 := eq_true p263
                                    replace q263 := eq_true q263
                                    go_wp2
                                    go_roundg k3
                                    case measure => have := HK1.out; have := HJ21.out; have := HK3.out; omega
                                    case rel => exact ⟨(wrap64 (x14_3 + 1)), (by first | rfl | (simp; done) | (simp [*]; done)), H', ⟨by have := HK1.out; have := HJ21.out; have := HK3.out; omega⟩, ⟨by (with_reducible repeat (first | apply Kd.R_alloc | apply Kd.R_drewN | apply Kd.R_drew)); exact HO_12.out⟩, ⟨by repeat (first | (with_reducible first | exact HB.out | apply below_alloc | apply pw_below_drewN | apply below_drew1) | exact HB.out)⟩⟩
                                  · rw [if_neg c44] at H
                                    exact absurd H (by simp)
                                · rw [if_neg c43] at H
                                  exact absurd H (by simp)
                              · rw [if_neg c42] at H
                                exact absurd H (by simp)
                            · rw [if_neg c41] at H
                              have c41b0 : decide (x14_3 < ji8) = false := decide_eq_false c41
                              clear c41
                              obtain rfl := Option.some.inj H
                              go_wp2
                              go_ret
                              exact ⟨by first | rfl | (simp [errW_none, errW_some] <;> rfl) | (simp only [← hji6, ← hji8]; first | rfl | (simp [errW_none, errW_some] <;> rfl)) | (simp [*, errW_none, errW_some] <;> rfl), by repeat (first | (with_reducible first | exact HB.out | apply below_alloc | apply pw_below_drewN | apply below_drew1) | exact HB.out)⟩
                · rw [if_neg c19] at H
                  exact absurd H (by simp)
              · rw [if_neg c18] at H
                exact absurd H (by simp)
            · rw [if_neg c17] at H
              exact absurd H (by simp)
    · rw [if_neg c7] at H
      exact absurd H (by simp)
  · replace c4 := Bool.eq_false_iff.mpr c4
    subst c4
    have H1 : (none) = some r := by rw [if_neg (show ¬ (false = true) by decide)] at H; exact H
    clear H
    have H := H1
    clear H1
    exact absurd H (by simp)

/-- THE ONE PURE STATEMENT of anticlinelaw8_NttEnds: yours. -/
def anticlinelaw8_NttEnds.Pure : Prop := ∀ (l0 : List Int) (a1 : Int), l0.length ≤ maxLen → l0.length * 4 ≤ 140737488351232 → (∀ x ∈ l0, (Lit.int .u32 x).wf = true) → (Lit.int .i64 a1).wf = true → ∃ k, anticlinelaw8_NttEnds.f k l0 a1 = some true
theorem anticlinelaw8_NttEnds.walk (P : anticlinelaw8_NttEnds.Pure) (a0 : Option Addr) (len0 cap0 : Nat) (z0 : List Int) (a1 : Int) (w : World) (w0 : (a0 = none ∧ len0 = 0 ∧ cap0 = 0 ∧ z0 = []) ∨ ∃ x, a0 = some x ∧ len0 ≤ cap0 ∧ cap0 ≤ maxLen ∧ z0.length = cap0 ∧ (∀ i, i < z0.length → w.cell? (x.add i) = some (.int .u32 (z0.getD i 0))) ∧ ∀ n ∈ z0, (Lit.int .u32 n).wf = true) (y0 : len0 * 4 ≤ 140737488351232) (w1 : (Lit.int .i64 a1).wf = true) :
    Calls Try.prog 6 #[.slice a0 len0 cap0, .int .i64 a1] w fun e w' => e = .returned (.bool true) ∧ Below w.heap.size w w' := by
  obtain ⟨l0, rfl, hr0, hm0, hw0, hc0⟩ := ReadsInt.ofRowC w0
  obtain ⟨k, h⟩ := P l0 a1 hm0 y0 hw0 w1
  refine (anticlinelaw8_NttEnds.calls k _ _ l0 a1 true w (Kd.C_of_reads (d := (0 : Int)) (h1 := fun _ => rfl) hr0) hc0 h).mono ?_
  rintro e w' ⟨rfl, hd⟩
  exact ⟨rfl, hd⟩

/-! ### slices_Clone_uint32_uint32: function 31 -/

def slices_Clone_uint32_uint32.f (l0 : List Int) : Option (List Int) := if l0.length < 35184372088832 then (some l0) else (none)
set_option maxHeartbeats 8000000 in
set_option maxRecDepth 100000 in
theorem slices_Clone_uint32_uint32.calls (A0 : Option Addr) (c0 : Nat) (l0 : List Int) (r : List Int) (w : World) (hr0 : Kd.C (Kd.int .u32) w A0 l0.length l0) (hc0 : l0.length ≤ c0) (h : slices_Clone_uint32_uint32.f l0 = some r) :
    Calls Try.prog 31 #[.slice A0 l0.length c0] w fun e w' => ∃ v0_ : Value, e = .returned (v0_) ∧ Kd.R (Kd.int .u32) 22 w' w.heap.size (fun _ => True) v0_ r ∧ Below w.heap.size w w' := by
  have hnil : ∀ W, (binOp .eql 27 (.slice A0 l0.length c0) (.slice none 0 0)).run Try.prog W = .ok (.bool A0.isNone) W := fun W => Go.Lib.run_eql_slice_nil W 27 22 A0 l0.length c0 0 0 Try.underlying27
  unfold slices_Clone_uint32_uint32.f at h
  by_cases hlim : l0.length < 35184372088832
  · rw [if_pos hlim] at h
    obtain rfl := Option.some.inj h
    cases hA : A0 with
    | none =>
      subst hA
      have h0 : l0 = [] := by
        obtain ⟨_, _, h3⟩ := hr0
        cases l0 with
        | nil => rfl
        | cons x xs => obtain ⟨ad, he, _⟩ := h3 (by simp); cases he
      subst h0
      simp only [Option.isNone_none, List.length_nil] at hnil
      clear h hr0 hc0 hlim
      go_enter Try.func31, Try.ntmps31
      go_wp2
      go_ret
      exact ⟨_, rfl, Kd.R_nil _ _ _ _ _, by repeat (first | exact Below.refl _ _ | apply below_alloc | apply pw_below_drewN | apply below_drew1)⟩
    | some ad =>
      subst hA
      simp only [Option.isNone_some] at hnil
      have HR0 := Aside0.mk hr0
      have HC0 := Aside0.mk hc0
      obtain ⟨y158, hy158⟩ : ∃ y_ : List Int, y_ = (([] : List Int)) := ⟨_, rfl⟩
      have HLIM := Aside0.mk (show y158.length + l0.length < 35184372088832 by rw [hy158]; simpa using hlim)
      have Ny161 := Aside0.mk (show y158 ++ l0 = l0 by rw [hy158]; rfl)
      have Ny158 := Aside0.mk hy158
      clear hr0 hc0 hlim h hy158
      have HB := Aside0.mk (Below.refl w.heap.size w)
      go_enter Try.func31, Try.ntmps31
      go_wp2_with (first | ((with_reducible refine gate_dst (N := 5) rfl ?_); refine Kd.R_lit (Kd.int .u32) _ 22 ?hg (N := 5) ?hd (xs := ([] : List Int)) (inner := []) (ok := fun _ => True) (okp := fun _ => True) ?hr ?hp (fun _ hk => hk) trivial (Below.refl _ _) (Nat.le_refl _) (by simp) ?_; (case hd => rfl); (case hg => rfl); (case hr => first | (go_simp; done) | (go_simp; rfl)); (case hp => exact (Reps.none _ _)); intro v159 w3 ho4 hb hg_ hnew_; clear hg_ hnew_; rw [← Ny158.out] at ho4; have n0_ := Aside0.mk (Kd.R_lower ho4 (below_size (by repeat (first | (with_reducible first | exact HB.out | apply below_alloc | apply pw_below_drewN | apply below_drew1) | exact HB.out)))); have n1_ := Aside0.mk (below_step (by repeat (first | (with_reducible first | exact HB.out | apply below_alloc | apply pw_below_drewN | apply below_drew1) | exact HB.out)) hb); clear HB; have HO160 := n0_; have HB := n1_; clear n0_ n1_; clear hb ho4) | ((with_reducible refine gate_builtin (b := .append) (xs := #[.tmp 5, .tmp 6]) rfl ?_); at_builtin; refine Kd.R_append_rows (Kd.int .u32) (w0 := w) w.heap.size rfl (.tmp 5) (.tmp 6) 27 22 (.int .u32 0) 4 rfl Try.underlying27 info22 rfl (by decide) (by omega) v159 y158 l0 _ _ _ (fun _ => True) (fun _ => False) rfl rfl ?aO ?aR (fun _ _ h => h) (fun _ h => h.elim) ?aF ?aB ?aS ?aL ?_; (case aR => repeat (first | exact (Kd.C_below HR0.out HB.out) | (with_reducible refine Kd.C_alloc ?_ _) | (with_reducible refine Kd.C_drewN ?_ _) | (with_reducible refine Kd.C_drew ?_))); (case aB => exact (by repeat (first | (with_reducible first | exact HB.out | apply below_alloc | apply pw_below_drewN | apply below_drew1) | exact HB.out))); (case aF => exact (fun _ _ => trivial)); (case aO => exact (by (with_reducible repeat (first | apply Kd.R_alloc | apply Kd.R_drewN | apply Kd.R_drew)); exact HO160.out)); (case aS => exact (below_size (by repeat (first | (with_reducible first | exact HB.out | apply below_alloc | apply pw_below_drewN | apply below_drew1) | exact HB.out)))); (case aL => have := HLIM.out; omega); intro v162 w5 ho hb hg hat; rw [Ny161.out] at ho; have n0_ := Aside0.mk (hb); have n1_ := Aside0.mk (ho); clear HB; clear HO160; have HB := n0_; have HO163 := n1_; clear n0_ n1_; clear ho hb hg hat))
      go_ret
      exact ⟨_, rfl, by (with_reducible repeat (first | apply Kd.R_alloc | apply Kd.R_drewN | apply Kd.R_drew)); exact HO163.out, by repeat (first | (with_reducible first | exact HB.out | apply below_alloc | apply pw_below_drewN | apply below_drew1) | exact HB.out)⟩
  · rw [if_neg hlim] at h
    exact absurd h (by simp)


end Go.Proofs.Ytbmmjnmfinjdeaa.F

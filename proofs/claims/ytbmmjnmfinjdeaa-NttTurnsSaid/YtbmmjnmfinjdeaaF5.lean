-- Written by pp.py, a program of this repository, out of the translation. Lean checks it.
import Derived.Test.YtbmmjnmfinjdeaaF0
import Derived.Test.YtbmmjnmfinjdeaaF2
import Derived.Test.YtbmmjnmfinjdeaaF3
namespace Go.Proofs.Ytbmmjnmfinjdeaa.F
open Go.RowKit Go.Proofs.YtbmmjnmfinjdeaaW.PrintWords Go.Proofs.YtbmmjnmfinjdeaaW.PrintLast Go.Proofs.YtbmmjnmfinjdeaaW.PrintMore
attribute [local go_sem] max2_int min2_int max_two min_two max_three min_three max_four min_four   -- for this text's walks alone
set_option linter.unusedVariables false
set_option linter.unusedSimpArgs false

/-! ### anticlinelaw8_NttTurns: function 5 -/
mutual
def anticlinelaw8_NttTurns.l0 : Nat → Int → List Int → List Int → Int → Option (Bool)
  | 0, _, _, _, _ => none
  | k + 1, x5, x6, x7, x8 => if x8 < x5 then (if x5 = 0 then (none) else (if 0 ≤ (Int.tmod (wrap64 ((wrap64 (x8 + x5)) - 1)) x5) then (if (Int.tmod (wrap64 ((wrap64 (x8 + x5)) - 1)) x5) < (x6.length : Int) then (if x7.length < 35184372088832 then (anticlinelaw8_NttTurns.l0 k x5 x6 (x7 ++ [rd x6 (Int.tmod (wrap64 ((wrap64 (x8 + x5)) - 1)) x5)]) (wrap64 (x8 + 1))) else (none)) else (none)) else (none))) else ((ntt_Transform.f k x6 false).bind fun bt226 => ((ntt_Transform.f k x7 false).bind fun bt230 => ((ntt_Transform.f k bt226.1 false).bind fun bt234 => (if bt226.2 = 0 then (if bt230.2 = 0 then (if bt234.2 = 0 then (if (bt226.1.length : Int) = x5 then (if (bt230.1.length : Int) = x5 then (anticlinelaw8_NttTurns.j1 k x5 x6 bt226.1 bt230.1 bt234.1 ((bt234.1.length : Int) != x5)) else (anticlinelaw8_NttTurns.j1 k x5 x6 bt226.1 bt230.1 bt234.1 true)) else (anticlinelaw8_NttTurns.j1 k x5 x6 bt226.1 bt230.1 bt234.1 true)) else (anticlinelaw8_NttTurns.j1 k x5 x6 bt226.1 bt230.1 bt234.1 true)) else (anticlinelaw8_NttTurns.j1 k x5 x6 bt226.1 bt230.1 bt234.1 true)) else (anticlinelaw8_NttTurns.j1 k x5 x6 bt226.1 bt230.1 bt234.1 true)))))
def anticlinelaw8_NttTurns.j1 : Nat → Int → List Int → List Int → List Int → List Int → Bool → Option (Bool)
  | 0, _, _, _, _, _, _ => none
  | k + 1, x5, x6, x9, x11, x13, x85 => if x85 = true then (none) else (if x5 = 0 then (none) else ((anticlineref8_Pow.f k 3 (wrap64 (Int.tdiv (998244352 : Int) x5))).bind fun t238 => (anticlinelaw8_NttTurns.l1 k x5 x6 x9 x11 x13 t238 0)))
def anticlinelaw8_NttTurns.l1 : Nat → Int → List Int → List Int → List Int → List Int → Int → Int → Option (Bool)
  | 0, _, _, _, _, _, _, _ => none
  | k + 1, x5, x6, x9, x11, x13, x15, x16 => if x16 < x5 then (if 0 ≤ x16 then (if x16 < (x9.length : Int) then ((anticlineref8_Pow.f k x15 x16).bind fun t240 => (if x16 < (x11.length : Int) then (if (Int.tmod (IntKind.u64.wrap ((IntKind.u64.wrap (rd x9 x16)) * (IntKind.u64.wrap (t240)))) 998244353) = (IntKind.u64.wrap (rd x11 x16)) then (if x16 < (x13.length : Int) then (if x5 = 0 then (none) else (if 0 ≤ (Int.tmod (wrap64 (x5 - x16)) x5) then (if (Int.tmod (wrap64 (x5 - x16)) x5) < (x6.length : Int) then (if (IntKind.u64.wrap (rd x13 x16)) = (Int.tmod (IntKind.u64.wrap ((IntKind.u64.wrap (rd x6 (Int.tmod (wrap64 (x5 - x16)) x5))) * (IntKind.u64.wrap (x5)))) 998244353) then (anticlinelaw8_NttTurns.l1 k x5 x6 x9 x11 x13 x15 (wrap64 (x16 + 1))) else (none)) else (none)) else (none))) else (none)) else (none)) else (none))) else (none)) else (none)) else (some true)
end
def anticlinelaw8_NttTurns.f (k : Nat) (l0 : List Int) (a1 : Int) : Option (Bool) := (anticlinelaw8_known.f k).bind fun t217 => (if t217 = true then ((anticlinelaw8_within.f a1 7).bind fun t218 => (if 0 ≤ (IntKind.u64.wrap (t218)) then ((anticlinelaw8_Row.f k l0 (shl .i64 1 (IntKind.u64.wrap (t218)))).bind fun t219 => (anticlinelaw8_NttTurns.l0 k (shl .i64 1 (IntKind.u64.wrap (t218))) t219 ([] : List Int) 0)) else (none))) else (none))
theorem anticlinelaw8_NttTurns.mono_l : ∀ k, (∀ y0 y1 y2 y3, LeO (anticlinelaw8_NttTurns.l0 k y0 y1 y2 y3) (anticlinelaw8_NttTurns.l0 (k + 1) y0 y1 y2 y3)) ∧ (∀ y0 y1 y2 y3 y4 y5, LeO (anticlinelaw8_NttTurns.j1 k y0 y1 y2 y3 y4 y5) (anticlinelaw8_NttTurns.j1 (k + 1) y0 y1 y2 y3 y4 y5)) ∧ (∀ y0 y1 y2 y3 y4 y5 y6, LeO (anticlinelaw8_NttTurns.l1 k y0 y1 y2 y3 y4 y5 y6) (anticlinelaw8_NttTurns.l1 (k + 1) y0 y1 y2 y3 y4 y5 y6))
  | 0 => ⟨fun _ _ _ _ r h => by simp [anticlinelaw8_NttTurns.l0] at h, fun _ _ _ _ _ _ r h => by simp [anticlinelaw8_NttTurns.j1] at h, fun _ _ _ _ _ _ _ r h => by simp [anticlinelaw8_NttTurns.l1] at h⟩
  | k + 1 => by
    obtain ⟨ih0, ih1, ih2⟩ := anticlinelaw8_NttTurns.mono_l k
    refine ⟨?_, ?_, ?_⟩
    · intro y0 y1 y2 y3
      unfold anticlinelaw8_NttTurns.l0
      repeat' first
      | (with_reducible exact ih0 _ _ _ _)
      | (with_reducible exact ih1 _ _ _ _ _ _)
      | (with_reducible exact ih2 _ _ _ _ _ _ _)
      | (with_reducible exact anticlinelaw8_Row.mono _ _ _)
      | (with_reducible exact anticlinelaw8_known.mono _)
      | (with_reducible exact anticlineref8_Pow.mono _ _ _)
      | (with_reducible exact ntt_Transform.mono _ _ _)
      | (with_reducible exact LeO.refl _)
      | (with_reducible exact LeO.none _)
      | (with_reducible refine LeO.ite ?_ ?_)
      | (with_reducible refine LeO.bind ?_ (fun _ => ?_))
      | exact ih0 _ _ _ _
      | exact ih1 _ _ _ _ _ _
      | exact ih2 _ _ _ _ _ _ _
      | exact anticlinelaw8_Row.mono _ _ _
      | exact anticlinelaw8_known.mono _
      | exact anticlineref8_Pow.mono _ _ _
      | exact ntt_Transform.mono _ _ _
      | exact LeO.none _
      | refine LeO.ite ?_ ?_
      | refine LeO.bind ?_ (fun _ => ?_)
    · intro y0 y1 y2 y3 y4 y5
      unfold anticlinelaw8_NttTurns.j1
      repeat' first
      | (with_reducible exact ih0 _ _ _ _)
      | (with_reducible exact ih1 _ _ _ _ _ _)
      | (with_reducible exact ih2 _ _ _ _ _ _ _)
      | (with_reducible exact anticlinelaw8_Row.mono _ _ _)
      | (with_reducible exact anticlinelaw8_known.mono _)
      | (with_reducible exact anticlineref8_Pow.mono _ _ _)
      | (with_reducible exact ntt_Transform.mono _ _ _)
      | (with_reducible exact LeO.refl _)
      | (with_reducible exact LeO.none _)
      | (with_reducible refine LeO.ite ?_ ?_)
      | (with_reducible refine LeO.bind ?_ (fun _ => ?_))
      | exact ih0 _ _ _ _
      | exact ih1 _ _ _ _ _ _
      | exact ih2 _ _ _ _ _ _ _
      | exact anticlinelaw8_Row.mono _ _ _
      | exact anticlinelaw8_known.mono _
      | exact anticlineref8_Pow.mono _ _ _
      | exact ntt_Transform.mono _ _ _
      | exact LeO.none _
      | refine LeO.ite ?_ ?_
      | refine LeO.bind ?_ (fun _ => ?_)
    · intro y0 y1 y2 y3 y4 y5 y6
      unfold anticlinelaw8_NttTurns.l1
      repeat' first
      | (with_reducible exact ih0 _ _ _ _)
      | (with_reducible exact ih1 _ _ _ _ _ _)
      | (with_reducible exact ih2 _ _ _ _ _ _ _)
      | (with_reducible exact anticlinelaw8_Row.mono _ _ _)
      | (with_reducible exact anticlinelaw8_known.mono _)
      | (with_reducible exact anticlineref8_Pow.mono _ _ _)
      | (with_reducible exact ntt_Transform.mono _ _ _)
      | (with_reducible exact LeO.refl _)
      | (with_reducible exact LeO.none _)
      | (with_reducible refine LeO.ite ?_ ?_)
      | (with_reducible refine LeO.bind ?_ (fun _ => ?_))
      | exact ih0 _ _ _ _
      | exact ih1 _ _ _ _ _ _
      | exact ih2 _ _ _ _ _ _ _
      | exact anticlinelaw8_Row.mono _ _ _
      | exact anticlinelaw8_known.mono _
      | exact anticlineref8_Pow.mono _ _ _
      | exact ntt_Transform.mono _ _ _
      | exact LeO.none _
      | refine LeO.ite ?_ ?_
      | refine LeO.bind ?_ (fun _ => ?_)
theorem anticlinelaw8_NttTurns.mono : ∀ a0 a1 k, LeO (anticlinelaw8_NttTurns.f k a0 a1) (anticlinelaw8_NttTurns.f (k + 1) a0 a1) := by
  intro a0 a1 k
  obtain ⟨ih0, ih1, ih2⟩ := anticlinelaw8_NttTurns.mono_l k
  unfold anticlinelaw8_NttTurns.f
  repeat' first
      | (with_reducible exact ih0 _ _ _ _)
      | (with_reducible exact ih1 _ _ _ _ _ _)
      | (with_reducible exact ih2 _ _ _ _ _ _ _)
      | (with_reducible exact anticlinelaw8_Row.mono _ _ _)
      | (with_reducible exact anticlinelaw8_known.mono _)
      | (with_reducible exact anticlineref8_Pow.mono _ _ _)
      | (with_reducible exact ntt_Transform.mono _ _ _)
      | (with_reducible exact LeO.refl _)
      | (with_reducible exact LeO.none _)
      | (with_reducible refine LeO.ite ?_ ?_)
      | (with_reducible refine LeO.bind ?_ (fun _ => ?_))
      | exact ih0 _ _ _ _
      | exact ih1 _ _ _ _ _ _
      | exact ih2 _ _ _ _ _ _ _
      | exact anticlinelaw8_Row.mono _ _ _
      | exact anticlinelaw8_known.mono _
      | exact anticlineref8_Pow.mono _ _ _
      | exact ntt_Transform.mono _ _ _
      | exact LeO.none _
      | refine LeO.ite ?_ ?_
      | refine LeO.bind ?_ (fun _ => ?_)
def anticlinelaw8_NttTurns.T19 : Bool × List (List Nat × List Nat) := (true, [([], []), ([], []), ([0, 1], [0, 1]), ([2], [2]), ([3], [3]), ([], []), ([], []), ([5, 6], [5, 6]), ([7], [7]), ([4, 8], [4, 8]), ([9], [9]), ([], []), ([], []), ([11, 12], [11, 12]), ([13], [13]), ([14], [14]), ([10, 15], [10, 15]), ([16, 7], [16]), ([17], [17]), ([17], [17]), ([18, 19, 17], [17, 18, 19]), ([20, 17], [17, 20]), ([21, 17], [17, 21]), ([17], [17]), ([17], [17]), ([17], [17]), ([24, 25, 17], [17, 24, 25]), ([17], [17]), ([26, 27, 17], [17, 26, 27]), ([23, 28, 17], [17, 23, 28]), ([29, 17], [17, 29]), ([30, 17], [17, 30]), ([17], [17]), ([32, 17], [17, 32]), ([31, 33, 17], [17, 31, 33]), ([34, 17], [17, 34]), ([22, 35, 17], [17, 22, 35]), ([17, 36], [17, 36])])
def anticlinelaw8_NttTurns.B19 : List Nat := [0, 0, 3, 7, 15, 0, 0, 96, 224, 511, 1023, 0, 0, 6144, 14336, 30720, 65535, 131071, 262143, 262143, 1048575, 2097151, 4194303, 262143, 262143, 262143, 50593791, 262143, 251920383, 528744447, 1065615359, 2139357183, 262143, 4295229439, 17171742719, 34351611903, 68719476735, 137438953471]
theorem anticlinelaw8_NttTurns.tab19 : rtab .any (opsOf Try.f5 19) = anticlinelaw8_NttTurns.T19 := by kernel_rfl
theorem anticlinelaw8_NttTurns.bits19 : waitsOk anticlinelaw8_NttTurns.T19.2 anticlinelaw8_NttTurns.B19 = true := by kernel_rfl
set_option maxHeartbeats 8000000 in
set_option maxRecDepth 100000 in
theorem anticlinelaw8_NttTurns.calls (k : Nat) (A0 : Option Addr) (c0 : Nat) (l0 : List Int) (a1 : Int) (r : Bool) (w : World) (hr0 : Kd.C (Kd.int .u32) w A0 l0.length l0) (hc0 : l0.length ≤ c0) (h : anticlinelaw8_NttTurns.f k l0 a1 = some r) :
    Calls Try.prog 5 #[.slice A0 l0.length c0, .int .i64 a1] w fun e w' => e = .returned (.bool r) ∧ Below w.heap.size w w' := by
  have HR0 := Aside0.mk hr0
  have HC0 := Aside0.mk hc0
  clear hr0 hc0
  have HB := Aside0.mk (Below.refl w.heap.size w)
  have H : ((anticlinelaw8_known.f k).bind fun t217 => (if t217 = true then ((anticlinelaw8_within.f a1 7).bind fun t218 => (if 0 ≤ (IntKind.u64.wrap (t218)) then ((anticlinelaw8_Row.f k l0 (shl .i64 1 (IntKind.u64.wrap (t218)))).bind fun t219 => (anticlinelaw8_NttTurns.l0 k (shl .i64 1 (IntKind.u64.wrap (t218))) t219 ([] : List Int) 0)) else (none))) else (none))) = some r := h
  clear h
  replace H := Option.bind_eq_some_iff.mp H
  obtain ⟨t217, A30, H⟩ := H
  replace H : (if t217 = true then ((anticlinelaw8_within.f a1 7).bind fun t218 => (if 0 ≤ (IntKind.u64.wrap (t218)) then ((anticlinelaw8_Row.f k l0 (shl .i64 1 (IntKind.u64.wrap (t218)))).bind fun t219 => (anticlinelaw8_NttTurns.l0 k (shl .i64 1 (IntKind.u64.wrap (t218))) t219 ([] : List Int) 0)) else (none))) else (none)) = some r := H
  have A3 := Aside0.mk A30
  clear A30
  by_cases c4 : t217 = true
  · subst c4
    have H1 : ((anticlinelaw8_within.f a1 7).bind fun t218 => (if 0 ≤ (IntKind.u64.wrap (t218)) then ((anticlinelaw8_Row.f k l0 (shl .i64 1 (IntKind.u64.wrap (t218)))).bind fun t219 => (anticlinelaw8_NttTurns.l0 k (shl .i64 1 (IntKind.u64.wrap (t218))) t219 ([] : List Int) 0)) else (none))) = some r := by rw [if_pos rfl] at H; exact H
    clear H
    have H := H1
    clear H1
    replace H := Option.bind_eq_some_iff.mp H
    obtain ⟨t218, A50, H⟩ := H
    replace H : (if 0 ≤ (IntKind.u64.wrap (t218)) then ((anticlinelaw8_Row.f k l0 (shl .i64 1 (IntKind.u64.wrap (t218)))).bind fun t219 => (anticlinelaw8_NttTurns.l0 k (shl .i64 1 (IntKind.u64.wrap (t218))) t219 ([] : List Int) 0)) else (none)) = some r := H
    have A5 := Aside0.mk A50
    clear A50
    obtain ⟨ji6, hji6⟩ : ∃ j_ : Int, (IntKind.u64.wrap (t218)) = j_ := ⟨_, rfl⟩
    replace H : (if 0 ≤ (ji6) then ((anticlinelaw8_Row.f k l0 (shl .i64 1 (ji6))).bind fun t219 => (anticlinelaw8_NttTurns.l0 k (shl .i64 1 (ji6)) t219 ([] : List Int) 0)) else (none)) = some r := by first | (rw [hji6] at H; exact H) | (simp only [hji6] at H ⊢; exact H)
    (try rw [hji6] at A3)
    (try rw [hji6] at A5)
    by_cases c7 : 0 ≤ (ji6)
    · rw [if_pos c7] at H
      have c7b0 := eq_true c7
      have c7b1 : decide (0 ≤ (ji6)) = true := decide_eq_true c7
      clear c7
      obtain ⟨ji8, hji8⟩ : ∃ j_ : Int, (shl .i64 1 (ji6)) = j_ := ⟨_, rfl⟩
      replace H : ((anticlinelaw8_Row.f k l0 (ji8)).bind fun t219 => (anticlinelaw8_NttTurns.l0 k ji8 t219 ([] : List Int) 0)) = some r := by first | (rw [hji8] at H; exact H) | (simp only [hji8] at H ⊢; exact H)
      (try rw [hji8] at A3)
      (try rw [hji8] at A5)
      have hji8_ : (IntKind.i64.wrap (1 * 2 ^ min (ji6).toNat 64)) = ji8 := hji8
      have hji8z : (ji6) ≤ 64 → (IntKind.i64.wrap (1 * 2 ^ (ji6).toNat)) = ji8 := shl_small hji8
      have hji8u : (IntKind.i64.wrap (2 ^ min (ji6).toNat 64)) = ji8 := by have h_ := hji8_; rw [Int.one_mul] at h_; exact h_
      have hji8v : (ji6) ≤ 64 → (IntKind.i64.wrap (2 ^ (ji6).toNat)) = ji8 := fun hle_ => by have h_ := hji8z hle_; rw [Int.one_mul] at h_; exact h_
      have hji8y : (wrap64 (1 * 2 ^ min (ji6).toNat 64)) = ji8 := (i64_w _).symm.trans hji8_
      have hji8x : (ji6) ≤ 64 → (wrap64 (1 * 2 ^ (ji6).toNat)) = ji8 := fun h_ => (i64_w _).symm.trans (hji8z h_)
      replace H := Option.bind_eq_some_iff.mp H
      obtain ⟨t219, A90, H⟩ := H
      replace H : (anticlinelaw8_NttTurns.l0 k ji8 t219 ([] : List Int) 0) = some r := H
      have A9 := Aside0.mk A90
      clear A90
      have H' := Aside0.mk H
      clear H
      go_enter Try.func5, Try.ntmps5
      go_wp2_with (first | ((with_reducible refine gate_callee (f := 11) rfl ?_); refine goesL_ (some 17) rfl rfl Try.func11 (by kernel_rfl) rfl #[] rfl (by (try simp only [List.map_toArray, List.map_cons, List.map_nil]); first | done | rfl | (simp only [List.length_drop, List.length_take]; rfl)) ?_; (with_reducible refine (anticlinelaw8_known.calls k  true _ A3.out).mono ?_); rintro e w10 ⟨rfl, hb⟩; refine ⟨_, rfl, ?_⟩; have n0_ := Aside0.mk (below_step (by repeat (first | (with_reducible first | exact HB.out | apply below_alloc | apply pw_below_drewN | apply below_drew1) | exact HB.out)) hb); clear HB; have HB := n0_; clear n0_; (try clear hb); (try clear hb2); (try clear hk); (try clear hi)) | ((with_reducible refine gate_callee (f := 15) rfl ?_); refine goesL_ (some 20) rfl rfl Try.func15 (by kernel_rfl) rfl #[.int .i64 a1, .int .i64 7] rfl (by (try simp only [List.map_toArray, List.map_cons, List.map_nil]); first | done | rfl | (simp only [List.length_drop, List.length_take]; rfl)) ?_; (with_reducible refine (anticlinelaw8_within.calls a1 7 t218 _ A5.out).mono ?_); rintro e w' ⟨rfl, ⟨nd, rfl⟩⟩; refine ⟨_, rfl, ?_⟩) | ((with_reducible refine gate_callee (f := 14) rfl ?_); refine goesL_ (some 25) rfl rfl Try.func14 (by kernel_rfl) rfl #[.slice A0 l0.length c0, .int .i64 ji8] rfl (by (try simp only [List.map_toArray, List.map_cons, List.map_nil]); first | done | (simp only [hji8]; rfl) | rfl | (simp only [List.length_drop, List.length_take]; rfl)) ?_; (with_reducible refine (anticlinelaw8_Row.calls k _ _ l0 ji8 t219 _ ?side1 ?side2 A9.out).mono ?_); (case side1 => repeat (first | exact (Kd.C_below HR0.out (by repeat (first | (with_reducible first | exact HB.out | apply below_alloc | apply pw_below_drewN | apply below_drew1) | exact HB.out))) | (with_reducible refine Kd.C_alloc ?_ _) | (with_reducible refine Kd.C_drewN ?_ _) | (with_reducible refine Kd.C_drew ?_))); (case side2 => exact HC0.out); rintro e w11 ⟨v220, rfl, ho0, hb⟩; refine ⟨_, rfl, ?_⟩; have n0_ := Aside0.mk (Kd.R_lower ho0 (below_size (by repeat (first | (with_reducible first | exact HB.out | apply below_alloc | apply pw_below_drewN | apply below_drew1) | exact HB.out)))); have n1_ := Aside0.mk (below_step (by repeat (first | (with_reducible first | exact HB.out | apply below_alloc | apply pw_below_drewN | apply below_drew1) | exact HB.out)) hb); clear HB; have HO221 := n0_; have HB := n1_; clear n0_ n1_; (try clear hb); (try clear hb2); (try clear hk); (try clear hi); (try clear ho0)))
      go_loopg [7, 8] k (fun kq v7 v8 w' => ∃ (x7_1 : List Int) (x8_1 : Int), v8 = .int .i64 x8_1 ∧ Aside0 (anticlinelaw8_NttTurns.l0 kq ji8 t219 x7_1 x8_1 = some r) ∧ Aside0 (kq ≤ k) ∧ Aside0 (Kd.R (Kd.int .u32) 22 w' w.heap.size (fun k_ => some k_ ≠ (v7 : Value).ownBlock) v220 t219) ∧ Aside0 (Kd.R (Kd.int .u32) 22 w' w.heap.size (fun k_ => some k_ ≠ (v220 : Value).ownBlock) v7 x7_1) ∧ Aside0 (Below w.heap.size w w'))
      case atStart => exact ⟨(([] : List Int)), (0), (by first | rfl | (simp; done) | (simp [*]; done)), H', ⟨Nat.le_refl _⟩, ⟨by (with_reducible repeat (first | apply Kd.R_alloc | apply Kd.R_drewN | apply Kd.R_drew)); exact Kd.R_mono HO221.out (fun _ hk => (by simp [Value.ownBlock]))⟩, ⟨by first | exact Kd.R_nil _ _ _ _ _ | exact Kd.N_nil _ _ _ _ _ | exact Kd.V_nil _ _ _ _ _ | exact Kd.Q_nil _ _ _ _ _ | exact Kd.S_nil _ _ _ _ _⟩, ⟨by repeat (first | (with_reducible first | exact HB.out | apply below_alloc | apply pw_below_drewN | apply below_drew1) | exact HB.out)⟩⟩
      case round =>
        clear H'
        try clear c1
        try clear p2
        try clear c4
        try clear c5
        try clear p6
        try clear c7
        try clear c7b0
        try clear c7b1
        try clear c11
        obtain ⟨x7_1, x8_1, rfl, HA, HK1, HO_6, HO_7, HB⟩ := hrel
        cases gk with
        | zero => exact absurd HA.out (by simp [anticlinelaw8_NttTurns.l0])
        | succ k1 =>
          have H := HA.out
          clear HA
          simp only [anticlinelaw8_NttTurns.l0] at H
          by_cases c12 : x8_1 < ji8
          · rw [if_pos c12] at H
            have c12b0 : decide (x8_1 < ji8) = true := decide_eq_true c12
            clear c12
            by_cases c13 : ji8 = 0
            · rw [if_pos c13] at H
              exact absurd H (by simp)
            · rw [if_neg c13] at H
              have c13b0 : (ji8 == 0) = false := beq_eq_false_iff_ne.mpr c13
              have c13b1 : (ji8 != 0) = true := bne_iff_ne.mpr c13
              obtain ⟨ji14, hji14⟩ : ∃ j_ : Int, (Int.tmod (wrap64 ((wrap64 (x8_1 + ji8)) - 1)) ji8) = j_ := ⟨_, rfl⟩
              replace H : (if 0 ≤ (ji14) then (if (ji14) < (t219.length : Int) then (if x7_1.length < 35184372088832 then (anticlinelaw8_NttTurns.l0 k1 ji8 t219 (x7_1 ++ [rd t219 (ji14)]) (wrap64 (x8_1 + 1))) else (none)) else (none)) else (none)) = some r := by first | (rw [hji14] at H; exact H) | (simp only [hji14] at H ⊢; exact H)
              by_cases c15 : 0 ≤ (ji14)
              · rw [if_pos c15] at H
                have c15b0 : decide (0 ≤ (ji14)) = true := decide_eq_true c15
                clear c15
                by_cases c16 : (ji14) < (t219.length : Int)
                · rw [if_pos c16] at H
                  have c16b0 : decide ((ji14) < (t219.length : Int)) = true := decide_eq_true c16
                  clear c16
                  by_cases c17 : x7_1.length < 35184372088832
                  · rw [if_pos c17] at H
                    have LMc17 := Aside0.mk c17
                    clear c17
                    obtain ⟨y223, hy223⟩ : ∃ y_ : List Int, y_ = (x7_1 ++ [rd t219 (ji14)]) := ⟨_, rfl⟩
                    replace H : (anticlinelaw8_NttTurns.l0 k1 ji8 t219 y223 (wrap64 (x8_1 + 1))) = some r := by first | (rw [hy223]; with_reducible exact H) | (have H2_ := (Option.bind_some _ _).symm.trans H; rw [hy223]; with_reducible exact H2_) | (have H2_ := (Option.bind_some _ _).symm.trans H; with_reducible exact H2_) | with_reducible exact H | (rw [hy223]; exact H) | exact H
                    have Ny223 := Aside0.mk hy223
                    clear hy223
                    have H' := Aside0.mk H
                    clear H
                    obtain ⟨Ao18, co18, eo18⟩ := Kd.R_slice HO_6.out
                    subst eo18
                    have p222 : 0 ≤ ((ji14) : Int) := of_decide_eq_true (by first | (with_reducible assumption) | assumption)
                    have q222 : (ji14) < (t219.length : Int) := of_decide_eq_true (by first | (with_reducible assumption) | assumption)
                    obtain ⟨ad222, e222, hx222_0⟩ := Kd.at_int (Kd.R_reads' HO_6.out).2.2 (ji14) p222 q222
                    cases e222
                    replace p222 := eq_true p222
                    replace q222 := eq_true q222
                    go_wp2_with (first | ((with_reducible refine gate_builtin (b := .append) (xs := #[.tmp 31, .tmp 41]) rfl ?_); (try (refine gate_guard (by rfl) ?_; dsimp only)); at_builtin; refine Kd.R_append (Kd.int .u32) (w0 := w) w.heap.size rfl (.tmp 31) (.tmp 41) 27 22 (.int .u32 0) 4 rfl Try.underlying27 info22 rfl (by decide) (by omega) u7 x7_1 (rd t219 (ji14)) [.int .u32 (rd t219 (ji14))] (fun k_ => some k_ ≠ (.slice (some ad222) t219.length co18 : Value).ownBlock) (fun _ => False) rfl rfl ?aP (fun _ hk => hk.elim) ?aF ?aO ?aB ?aS ?aL ?_; (case aP => exact rfl); (case aB => exact (by repeat (first | (with_reducible first | exact HB.out | apply below_alloc | apply pw_below_drewN | apply below_drew1) | exact HB.out))); (case aF => exact (fun k_ hk => Kd.fresh' (Kd.R_lt (by (with_reducible repeat (first | apply Kd.R_alloc | apply Kd.R_drewN | apply Kd.R_drew)); exact HO_6.out)) k_ hk)); (case aO => exact (by (with_reducible repeat (first | apply Kd.R_alloc | apply Kd.R_drewN | apply Kd.R_drew)); exact HO_7.out)); (case aS => exact (below_size (by repeat (first | (with_reducible first | exact HB.out | apply below_alloc | apply pw_below_drewN | apply below_drew1) | exact HB.out)))); (case aL => have := LMc17.out; omega); intro v224 w19 ho hb hg hat; rw [← Ny223.out] at ho; have n0_ := Aside0.mk (Kd.R_after (ok := (fun _ => True)) (by (with_reducible repeat (first | apply Kd.R_alloc | apply Kd.R_drewN | apply Kd.R_drew)); exact Kd.R_mono HO_6.out (fun _ hk => ⟨trivial, hk⟩)) hg hat); have n1_ := Aside0.mk (hb); have n2_ := Aside0.mk (ho); clear HO_6; clear HB; clear HO_7; have HO_6 := n0_; have HB := n1_; have HO225 := n2_; clear n0_ n1_ n2_; clear ho hb hg hat))
                    go_roundg k1
                    case measure => have := HK1.out; omega
                    case rel => exact ⟨(y223), (wrap64 (x8_1 + 1)), (by first | rfl | (simp; done) | (simp [*]; done)), H', ⟨by have := HK1.out; omega⟩, ⟨by (with_reducible repeat (first | apply Kd.R_alloc | apply Kd.R_drewN | apply Kd.R_drew)); exact Kd.R_mono HO_6.out (fun _ hk => hk.2)⟩, ⟨by (with_reducible repeat (first | apply Kd.R_alloc | apply Kd.R_drewN | apply Kd.R_drew)); exact HO225.out⟩, ⟨by repeat (first | (with_reducible first | exact HB.out | apply below_alloc | apply pw_below_drewN | apply below_drew1) | exact HB.out)⟩⟩
                  · rw [if_neg c17] at H
                    exact absurd H (by simp)
                · rw [if_neg c16] at H
                  exact absurd H (by simp)
              · rw [if_neg c15] at H
                exact absurd H (by simp)
          · rw [if_neg c12] at H
            have c12b0 : decide (x8_1 < ji8) = false := decide_eq_false c12
            clear c12
            replace H := Option.bind_eq_some_iff.mp H
            obtain ⟨⟨t226, t227⟩, A200, H⟩ := H
            replace H : ((ntt_Transform.f k1 x7_1 false).bind fun bt230 => ((ntt_Transform.f k1 t226 false).bind fun bt234 => (if t227 = 0 then (if bt230.2 = 0 then (if bt234.2 = 0 then (if (t226.length : Int) = ji8 then (if (bt230.1.length : Int) = ji8 then (anticlinelaw8_NttTurns.j1 k1 ji8 t219 t226 bt230.1 bt234.1 ((bt234.1.length : Int) != ji8)) else (anticlinelaw8_NttTurns.j1 k1 ji8 t219 t226 bt230.1 bt234.1 true)) else (anticlinelaw8_NttTurns.j1 k1 ji8 t219 t226 bt230.1 bt234.1 true)) else (anticlinelaw8_NttTurns.j1 k1 ji8 t219 t226 bt230.1 bt234.1 true)) else (anticlinelaw8_NttTurns.j1 k1 ji8 t219 t226 bt230.1 bt234.1 true)) else (anticlinelaw8_NttTurns.j1 k1 ji8 t219 t226 bt230.1 bt234.1 true)))) = some r := H
            have A20 := Aside0.mk A200
            clear A200
            replace H := Option.bind_eq_some_iff.mp H
            obtain ⟨⟨t230, t231⟩, A210, H⟩ := H
            replace H : ((ntt_Transform.f k1 t226 false).bind fun bt234 => (if t227 = 0 then (if t231 = 0 then (if bt234.2 = 0 then (if (t226.length : Int) = ji8 then (if (t230.length : Int) = ji8 then (anticlinelaw8_NttTurns.j1 k1 ji8 t219 t226 t230 bt234.1 ((bt234.1.length : Int) != ji8)) else (anticlinelaw8_NttTurns.j1 k1 ji8 t219 t226 t230 bt234.1 true)) else (anticlinelaw8_NttTurns.j1 k1 ji8 t219 t226 t230 bt234.1 true)) else (anticlinelaw8_NttTurns.j1 k1 ji8 t219 t226 t230 bt234.1 true)) else (anticlinelaw8_NttTurns.j1 k1 ji8 t219 t226 t230 bt234.1 true)) else (anticlinelaw8_NttTurns.j1 k1 ji8 t219 t226 t230 bt234.1 true))) = some r := H
            have A21 := Aside0.mk A210
            clear A210
            replace H := Option.bind_eq_some_iff.mp H
            obtain ⟨⟨t234, t235⟩, A220, H⟩ := H
            replace H : (if t227 = 0 then (if t231 = 0 then (if t235 = 0 then (if (t226.length : Int) = ji8 then (if (t230.length : Int) = ji8 then (anticlinelaw8_NttTurns.j1 k1 ji8 t219 t226 t230 t234 ((t234.length : Int) != ji8)) else (anticlinelaw8_NttTurns.j1 k1 ji8 t219 t226 t230 t234 true)) else (anticlinelaw8_NttTurns.j1 k1 ji8 t219 t226 t230 t234 true)) else (anticlinelaw8_NttTurns.j1 k1 ji8 t219 t226 t230 t234 true)) else (anticlinelaw8_NttTurns.j1 k1 ji8 t219 t226 t230 t234 true)) else (anticlinelaw8_NttTurns.j1 k1 ji8 t219 t226 t230 t234 true)) = some r := H
            have A22 := Aside0.mk A220
            clear A220
            have HC23 := Aside0.mk H
            clear H
            obtain ⟨Ao24, co24, eo24⟩ := Kd.R_slice HO_6.out
            subst eo24
            go_upto_region 13 with (first | ((with_reducible refine gate_callee (f := 16) rfl ?_); refine goesL_ (some 45) rfl rfl Try.func16 (by kernel_rfl) rfl #[.slice Ao24 t219.length co24, .bool false] rfl (by (try simp only [List.map_toArray, List.map_cons, List.map_nil]); first | done | rfl | (simp only [List.length_drop, List.length_take]; rfl)) ?_; (with_reducible refine (ntt_Transform.calls k1 _ _ t219 false t226 t227 _ ?side1 ?side2 A20.out).mono ?_); (case side1 => repeat (first | exact (Kd.R_reads' HO_6.out).2.2 | (with_reducible refine Kd.C_alloc ?_ _) | (with_reducible refine Kd.C_drewN ?_ _) | (with_reducible refine Kd.C_drew ?_))); (case side2 => exact (Kd.R_reads' HO_6.out).2.1); rintro e w25 ⟨v228, rfl, ho0, hb⟩; refine ⟨_, rfl, ?_⟩; have n0_ := Aside0.mk (Kd.R_elder' (by (with_reducible repeat (first | apply Kd.R_alloc | apply Kd.R_drewN | apply Kd.R_drew)); exact HO_6.out) (Kd.R_base ho0) hb); have n1_ := Aside0.mk (Kd.R_elder' (by (with_reducible repeat (first | apply Kd.R_alloc | apply Kd.R_drewN | apply Kd.R_drew)); exact HO_7.out) (Kd.R_base ho0) hb); have n2_ := Aside0.mk (Kd.R_lower (Kd.R_new' (Kd.R_new' ho0 (Kd.R_lt (by (with_reducible repeat (first | apply Kd.R_alloc | apply Kd.R_drewN | apply Kd.R_drew)); exact HO_6.out))) (Kd.R_lt (by (with_reducible repeat (first | apply Kd.R_alloc | apply Kd.R_drewN | apply Kd.R_drew)); exact HO_7.out))) (below_size (by repeat (first | (with_reducible first | exact HB.out | apply below_alloc | apply pw_below_drewN | apply below_drew1) | exact HB.out)))); have n3_ := Aside0.mk (below_step (by repeat (first | (with_reducible first | exact HB.out | apply below_alloc | apply pw_below_drewN | apply below_drew1) | exact HB.out)) hb); clear HO_6; clear HO_7; clear HB; have HO_6 := n0_; have HO_7 := n1_; have HO229 := n2_; have HB := n3_; clear n0_ n1_ n2_ n3_; (try clear hb); (try clear hb2); (try clear hk); (try clear hi); (try clear ho0); obtain ⟨Ao26, co26, eo26⟩ := Kd.R_slice HO_7.out; subst eo26) | ((with_reducible refine gate_callee (f := 16) rfl ?_); refine goesL_ (some 50) rfl rfl Try.func16 (by kernel_rfl) rfl #[.slice Ao26 x7_1.length co26, .bool false] rfl (by (try simp only [List.map_toArray, List.map_cons, List.map_nil]); first | done | rfl | (simp only [List.length_drop, List.length_take]; rfl)) ?_; (with_reducible refine (ntt_Transform.calls k1 _ _ x7_1 false t230 t231 _ ?side1 ?side2 A21.out).mono ?_); (case side1 => repeat (first | exact (Kd.R_reads' HO_7.out).2.2 | (with_reducible refine Kd.C_alloc ?_ _) | (with_reducible refine Kd.C_drewN ?_ _) | (with_reducible refine Kd.C_drew ?_))); (case side2 => exact (Kd.R_reads' HO_7.out).2.1); rintro e w27 ⟨v232, rfl, ho0, hb⟩; refine ⟨_, rfl, ?_⟩; have n0_ := Aside0.mk (Kd.R_elder' (by (with_reducible repeat (first | apply Kd.R_alloc | apply Kd.R_drewN | apply Kd.R_drew)); exact HO_6.out) (Kd.R_base ho0) hb); have n1_ := Aside0.mk (Kd.R_elder' (by (with_reducible repeat (first | apply Kd.R_alloc | apply Kd.R_drewN | apply Kd.R_drew)); exact HO_7.out) (Kd.R_base ho0) hb); have n2_ := Aside0.mk (Kd.R_elder' (by (with_reducible repeat (first | apply Kd.R_alloc | apply Kd.R_drewN | apply Kd.R_drew)); exact HO229.out) (Kd.R_base ho0) hb); have n3_ := Aside0.mk (Kd.R_lower (Kd.R_new' (Kd.R_new' (Kd.R_new' ho0 (Kd.R_lt (by (with_reducible repeat (first | apply Kd.R_alloc | apply Kd.R_drewN | apply Kd.R_drew)); exact HO_6.out))) (Kd.R_lt (by (with_reducible repeat (first | apply Kd.R_alloc | apply Kd.R_drewN | apply Kd.R_drew)); exact HO_7.out))) (Kd.R_lt (by (with_reducible repeat (first | apply Kd.R_alloc | apply Kd.R_drewN | apply Kd.R_drew)); exact HO229.out))) (below_size (by repeat (first | (with_reducible first | exact HB.out | apply below_alloc | apply pw_below_drewN | apply below_drew1) | exact HB.out)))); have n4_ := Aside0.mk (below_step (by repeat (first | (with_reducible first | exact HB.out | apply below_alloc | apply pw_below_drewN | apply below_drew1) | exact HB.out)) hb); clear HO_6; clear HO_7; clear HO229; clear HB; have HO_6 := n0_; have HO_7 := n1_; have HO229 := n2_; have HO233 := n3_; have HB := n4_; clear n0_ n1_ n2_ n3_ n4_; (try clear hb); (try clear hb2); (try clear hk); (try clear hi); (try clear ho0); obtain ⟨Ao28, co28, eo28⟩ := Kd.R_slice HO229.out; subst eo28) | ((with_reducible refine gate_callee (f := 16) rfl ?_); refine goesL_ (some 55) rfl rfl Try.func16 (by kernel_rfl) rfl #[.slice Ao28 t226.length co28, .bool false] rfl (by (try simp only [List.map_toArray, List.map_cons, List.map_nil]); first | done | rfl | (simp only [List.length_drop, List.length_take]; rfl)) ?_; (with_reducible refine (ntt_Transform.calls k1 _ _ t226 false t234 t235 _ ?side1 ?side2 A22.out).mono ?_); (case side1 => repeat (first | exact (Kd.R_reads' HO229.out).2.2 | (with_reducible refine Kd.C_alloc ?_ _) | (with_reducible refine Kd.C_drewN ?_ _) | (with_reducible refine Kd.C_drew ?_))); (case side2 => exact (Kd.R_reads' HO229.out).2.1); rintro e w29 ⟨v236, rfl, ho0, hb⟩; refine ⟨_, rfl, ?_⟩; have n0_ := Aside0.mk (Kd.R_elder' (by (with_reducible repeat (first | apply Kd.R_alloc | apply Kd.R_drewN | apply Kd.R_drew)); exact HO_6.out) (Kd.R_base ho0) hb); have n1_ := Aside0.mk (Kd.R_elder' (by (with_reducible repeat (first | apply Kd.R_alloc | apply Kd.R_drewN | apply Kd.R_drew)); exact HO_7.out) (Kd.R_base ho0) hb); have n2_ := Aside0.mk (Kd.R_elder' (by (with_reducible repeat (first | apply Kd.R_alloc | apply Kd.R_drewN | apply Kd.R_drew)); exact HO229.out) (Kd.R_base ho0) hb); have n3_ := Aside0.mk (Kd.R_elder' (by (with_reducible repeat (first | apply Kd.R_alloc | apply Kd.R_drewN | apply Kd.R_drew)); exact HO233.out) (Kd.R_base ho0) hb); have n4_ := Aside0.mk (Kd.R_lower (Kd.R_new' (Kd.R_new' (Kd.R_new' (Kd.R_new' ho0 (Kd.R_lt (by (with_reducible repeat (first | apply Kd.R_alloc | apply Kd.R_drewN | apply Kd.R_drew)); exact HO_6.out))) (Kd.R_lt (by (with_reducible repeat (first | apply Kd.R_alloc | apply Kd.R_drewN | apply Kd.R_drew)); exact HO_7.out))) (Kd.R_lt (by (with_reducible repeat (first | apply Kd.R_alloc | apply Kd.R_drewN | apply Kd.R_drew)); exact HO229.out))) (Kd.R_lt (by (with_reducible repeat (first | apply Kd.R_alloc | apply Kd.R_drewN | apply Kd.R_drew)); exact HO233.out))) (below_size (by repeat (first | (with_reducible first | exact HB.out | apply below_alloc | apply pw_below_drewN | apply below_drew1) | exact HB.out)))); have n5_ := Aside0.mk (below_step (by repeat (first | (with_reducible first | exact HB.out | apply below_alloc | apply pw_below_drewN | apply below_drew1) | exact HB.out)) hb); clear HO_6; clear HO_7; clear HO229; clear HO233; clear HB; have HO_6 := n0_; have HO_7 := n1_; have HO229 := n2_; have HO233 := n3_; have HO237 := n4_; have HB := n5_; clear n0_ n1_ n2_ n3_ n4_ n5_; (try clear hb); (try clear hb2); (try clear hk); (try clear hi); (try clear ho0)))
            (try simp only [Act.put, List.setIfInBounds_toArray, List.set_cons_zero, List.set_cons_succ])
            go_cut [85] (fun v85 wc => ∃ (kq : Nat) (x85_22 : Bool), v85 = .bool x85_22 ∧ Aside0 (anticlinelaw8_NttTurns.j1 kq ji8 t219 t226 t230 t234 x85_22 = some r) ∧ Aside0 (kq ≤ k1) ∧ Aside0 (Kd.R (Kd.int .u32) 22 wc w.heap.size (fun k_ => some k_ ≠ ((.slice Ao28 t226.length co28) : Value).ownBlock ∧ some k_ ≠ (v232 : Value).ownBlock ∧ some k_ ≠ (v236 : Value).ownBlock) (.slice Ao24 t219.length co24) t219) ∧ Aside0 (Kd.R (Kd.int .u32) 22 wc w.heap.size (fun k_ => some k_ ≠ ((.slice Ao24 t219.length co24) : Value).ownBlock ∧ some k_ ≠ (v232 : Value).ownBlock ∧ some k_ ≠ (v236 : Value).ownBlock) (.slice Ao28 t226.length co28) t226) ∧ Aside0 (Kd.R (Kd.int .u32) 22 wc w.heap.size (fun k_ => some k_ ≠ ((.slice Ao24 t219.length co24) : Value).ownBlock ∧ some k_ ≠ ((.slice Ao28 t226.length co28) : Value).ownBlock ∧ some k_ ≠ (v236 : Value).ownBlock) v232 t230) ∧ Aside0 (Kd.R (Kd.int .u32) 22 wc w.heap.size (fun k_ => some k_ ≠ ((.slice Ao24 t219.length co24) : Value).ownBlock ∧ some k_ ≠ ((.slice Ao28 t226.length co28) : Value).ownBlock ∧ some k_ ≠ (v232 : Value).ownBlock) v236 t234) ∧ Aside0 (Below w.heap.size w wc))
            case first =>
              have H := HC23.out
              clear HC23
              by_cases c30 : t227 = 0
              · rw [if_pos c30] at H
                have c30b0 : (t227 == 0) = true := beq_iff_eq.mpr c30
                have c30b1 : (t227 != 0) = false := bne_eq_false_iff_eq.mpr c30
                clear c30
                (first | rw [c30b0] | (simp only [i64_w, i32_w]; rw [c30b0]) | skip)
                by_cases c31 : t231 = 0
                · rw [if_pos c31] at H
                  have c31b0 : (t231 == 0) = true := beq_iff_eq.mpr c31
                  have c31b1 : (t231 != 0) = false := bne_eq_false_iff_eq.mpr c31
                  clear c31
                  by_cases c32 : t235 = 0
                  · rw [if_pos c32] at H
                    have c32b0 : (t235 == 0) = true := beq_iff_eq.mpr c32
                    have c32b1 : (t235 != 0) = false := bne_eq_false_iff_eq.mpr c32
                    clear c32
                    by_cases c33 : (t226.length : Int) = ji8
                    · rw [if_pos c33] at H
                      have c33b0 : ((t226.length : Int) == ji8) = true := beq_iff_eq.mpr c33
                      have c33b1 : ((t226.length : Int) != ji8) = false := bne_eq_false_iff_eq.mpr c33
                      clear c33
                      by_cases c34 : (t230.length : Int) = ji8
                      · rw [if_pos c34] at H
                        have c34b0 : ((t230.length : Int) == ji8) = true := beq_iff_eq.mpr c34
                        have c34b1 : ((t230.length : Int) != ji8) = false := bne_eq_false_iff_eq.mpr c34
                        clear c34
                        have H' := Aside0.mk H
                        clear H
                        obtain ⟨Ao35, co35, eo35⟩ := Kd.R_slice HO233.out
                        subst eo35
                        obtain ⟨Ao36, co36, eo36⟩ := Kd.R_slice HO237.out
                        subst eo36
                        go_wp2
                        go_meet
                        case rel => exact ⟨_, (((t234.length : Int) != ji8)), (by first | rfl | (simp; done) | (simp only [← hji8] <;> (first | rfl | simp)) | (simp [*]; done)), H', ⟨by have := HK1.out; first | omega | exact Nat.le_refl _⟩, ⟨by (with_reducible repeat (first | apply Kd.R_alloc | apply Kd.R_drewN | apply Kd.R_drew)); exact Kd.R_mono HO_6.out (fun _ hk => ⟨hk.1.1.2, ⟨hk.1.2, hk.2⟩⟩)⟩, ⟨by (with_reducible repeat (first | apply Kd.R_alloc | apply Kd.R_drewN | apply Kd.R_drew)); exact Kd.R_mono HO229.out (fun _ hk => ⟨hk.1.1.1.2, ⟨hk.1.2, hk.2⟩⟩)⟩, ⟨by (with_reducible repeat (first | apply Kd.R_alloc | apply Kd.R_drewN | apply Kd.R_drew)); exact Kd.R_mono HO233.out (fun _ hk => ⟨hk.1.1.1.2, ⟨hk.1.2, hk.2⟩⟩)⟩, ⟨by (with_reducible repeat (first | apply Kd.R_alloc | apply Kd.R_drewN | apply Kd.R_drew)); exact Kd.R_mono HO237.out (fun _ hk => ⟨hk.1.1.1.2, ⟨hk.1.2, hk.2⟩⟩)⟩, ⟨by repeat (first | (with_reducible first | exact HB.out | apply below_alloc | apply pw_below_drewN | apply below_drew1) | exact HB.out)⟩⟩
                      · rw [if_neg c34] at H
                        have c34b0 : ((t230.length : Int) == ji8) = false := beq_eq_false_iff_ne.mpr c34
                        have c34b1 : ((t230.length : Int) != ji8) = true := bne_iff_ne.mpr c34
                        have H' := Aside0.mk H
                        clear H
                        obtain ⟨Ao37, co37, eo37⟩ := Kd.R_slice HO233.out
                        subst eo37
                        go_wp2
                        go_meet
                        case rel => exact ⟨_, (true), (by first | rfl | (simp; done) | (simp [*]; done)), H', ⟨by have := HK1.out; first | omega | exact Nat.le_refl _⟩, ⟨by (with_reducible repeat (first | apply Kd.R_alloc | apply Kd.R_drewN | apply Kd.R_drew)); exact Kd.R_mono HO_6.out (fun _ hk => ⟨hk.1.1.2, ⟨hk.1.2, hk.2⟩⟩)⟩, ⟨by (with_reducible repeat (first | apply Kd.R_alloc | apply Kd.R_drewN | apply Kd.R_drew)); exact Kd.R_mono HO229.out (fun _ hk => ⟨hk.1.1.1.2, ⟨hk.1.2, hk.2⟩⟩)⟩, ⟨by (with_reducible repeat (first | apply Kd.R_alloc | apply Kd.R_drewN | apply Kd.R_drew)); exact Kd.R_mono HO233.out (fun _ hk => ⟨hk.1.1.1.2, ⟨hk.1.2, hk.2⟩⟩)⟩, ⟨by (with_reducible repeat (first | apply Kd.R_alloc | apply Kd.R_drewN | apply Kd.R_drew)); exact Kd.R_mono HO237.out (fun _ hk => ⟨hk.1.1.1.2, ⟨hk.1.2, hk.2⟩⟩)⟩, ⟨by repeat (first | (with_reducible first | exact HB.out | apply below_alloc | apply pw_below_drewN | apply below_drew1) | exact HB.out)⟩⟩
                    · rw [if_neg c33] at H
                      have c33b0 : ((t226.length : Int) == ji8) = false := beq_eq_false_iff_ne.mpr c33
                      have c33b1 : ((t226.length : Int) != ji8) = true := bne_iff_ne.mpr c33
                      have H' := Aside0.mk H
                      clear H
                      go_wp2
                      go_meet
                      case rel => exact ⟨_, (true), (by first | rfl | (simp; done) | (simp [*]; done)), H', ⟨by have := HK1.out; first | omega | exact Nat.le_refl _⟩, ⟨by (with_reducible repeat (first | apply Kd.R_alloc | apply Kd.R_drewN | apply Kd.R_drew)); exact Kd.R_mono HO_6.out (fun _ hk => ⟨hk.1.1.2, ⟨hk.1.2, hk.2⟩⟩)⟩, ⟨by (with_reducible repeat (first | apply Kd.R_alloc | apply Kd.R_drewN | apply Kd.R_drew)); exact Kd.R_mono HO229.out (fun _ hk => ⟨hk.1.1.1.2, ⟨hk.1.2, hk.2⟩⟩)⟩, ⟨by (with_reducible repeat (first | apply Kd.R_alloc | apply Kd.R_drewN | apply Kd.R_drew)); exact Kd.R_mono HO233.out (fun _ hk => ⟨hk.1.1.1.2, ⟨hk.1.2, hk.2⟩⟩)⟩, ⟨by (with_reducible repeat (first | apply Kd.R_alloc | apply Kd.R_drewN | apply Kd.R_drew)); exact Kd.R_mono HO237.out (fun _ hk => ⟨hk.1.1.1.2, ⟨hk.1.2, hk.2⟩⟩)⟩, ⟨by repeat (first | (with_reducible first | exact HB.out | apply below_alloc | apply pw_below_drewN | apply below_drew1) | exact HB.out)⟩⟩
                  · rw [if_neg c32] at H
                    have c32b0 : (t235 == 0) = false := beq_eq_false_iff_ne.mpr c32
                    have c32b1 : (t235 != 0) = true := bne_iff_ne.mpr c32
                    have H' := Aside0.mk H
                    clear H
                    go_wp2
                    go_meet
                    case rel => exact ⟨_, (true), (by first | rfl | (simp; done) | (simp [*]; done)), H', ⟨by have := HK1.out; first | omega | exact Nat.le_refl _⟩, ⟨by (with_reducible repeat (first | apply Kd.R_alloc | apply Kd.R_drewN | apply Kd.R_drew)); exact Kd.R_mono HO_6.out (fun _ hk => ⟨hk.1.1.2, ⟨hk.1.2, hk.2⟩⟩)⟩, ⟨by (with_reducible repeat (first | apply Kd.R_alloc | apply Kd.R_drewN | apply Kd.R_drew)); exact Kd.R_mono HO229.out (fun _ hk => ⟨hk.1.1.1.2, ⟨hk.1.2, hk.2⟩⟩)⟩, ⟨by (with_reducible repeat (first | apply Kd.R_alloc | apply Kd.R_drewN | apply Kd.R_drew)); exact Kd.R_mono HO233.out (fun _ hk => ⟨hk.1.1.1.2, ⟨hk.1.2, hk.2⟩⟩)⟩, ⟨by (with_reducible repeat (first | apply Kd.R_alloc | apply Kd.R_drewN | apply Kd.R_drew)); exact Kd.R_mono HO237.out (fun _ hk => ⟨hk.1.1.1.2, ⟨hk.1.2, hk.2⟩⟩)⟩, ⟨by repeat (first | (with_reducible first | exact HB.out | apply below_alloc | apply pw_below_drewN | apply below_drew1) | exact HB.out)⟩⟩
                · rw [if_neg c31] at H
                  have c31b0 : (t231 == 0) = false := beq_eq_false_iff_ne.mpr c31
                  have c31b1 : (t231 != 0) = true := bne_iff_ne.mpr c31
                  have H' := Aside0.mk H
                  clear H
                  go_wp2
                  go_meet
                  case rel => exact ⟨_, (true), (by first | rfl | (simp; done) | (simp [*]; done)), H', ⟨by have := HK1.out; first | omega | exact Nat.le_refl _⟩, ⟨by (with_reducible repeat (first | apply Kd.R_alloc | apply Kd.R_drewN | apply Kd.R_drew)); exact Kd.R_mono HO_6.out (fun _ hk => ⟨hk.1.1.2, ⟨hk.1.2, hk.2⟩⟩)⟩, ⟨by (with_reducible repeat (first | apply Kd.R_alloc | apply Kd.R_drewN | apply Kd.R_drew)); exact Kd.R_mono HO229.out (fun _ hk => ⟨hk.1.1.1.2, ⟨hk.1.2, hk.2⟩⟩)⟩, ⟨by (with_reducible repeat (first | apply Kd.R_alloc | apply Kd.R_drewN | apply Kd.R_drew)); exact Kd.R_mono HO233.out (fun _ hk => ⟨hk.1.1.1.2, ⟨hk.1.2, hk.2⟩⟩)⟩, ⟨by (with_reducible repeat (first | apply Kd.R_alloc | apply Kd.R_drewN | apply Kd.R_drew)); exact Kd.R_mono HO237.out (fun _ hk => ⟨hk.1.1.1.2, ⟨hk.1.2, hk.2⟩⟩)⟩, ⟨by repeat (first | (with_reducible first | exact HB.out | apply below_alloc | apply pw_below_drewN | apply below_drew1) | exact HB.out)⟩⟩
              · rw [if_neg c30] at H
                have c30b0 : (t227 == 0) = false := beq_eq_false_iff_ne.mpr c30
                have c30b1 : (t227 != 0) = true := bne_iff_ne.mpr c30
                (first | rw [c30b0] | (simp only [i64_w, i32_w]; rw [c30b0]) | skip)
                have H' := Aside0.mk H
                clear H
                go_wp2
                go_meet
                case rel => exact ⟨_, (true), (by first | rfl | (simp; done) | (simp [*]; done)), H', ⟨by have := HK1.out; first | omega | exact Nat.le_refl _⟩, ⟨by (with_reducible repeat (first | apply Kd.R_alloc | apply Kd.R_drewN | apply Kd.R_drew)); exact Kd.R_mono HO_6.out (fun _ hk => ⟨hk.1.1.2, ⟨hk.1.2, hk.2⟩⟩)⟩, ⟨by (with_reducible repeat (first | apply Kd.R_alloc | apply Kd.R_drewN | apply Kd.R_drew)); exact Kd.R_mono HO229.out (fun _ hk => ⟨hk.1.1.1.2, ⟨hk.1.2, hk.2⟩⟩)⟩, ⟨by (with_reducible repeat (first | apply Kd.R_alloc | apply Kd.R_drewN | apply Kd.R_drew)); exact Kd.R_mono HO233.out (fun _ hk => ⟨hk.1.1.1.2, ⟨hk.1.2, hk.2⟩⟩)⟩, ⟨by (with_reducible repeat (first | apply Kd.R_alloc | apply Kd.R_drewN | apply Kd.R_drew)); exact Kd.R_mono HO237.out (fun _ hk => ⟨hk.1.1.1.2, ⟨hk.1.2, hk.2⟩⟩)⟩, ⟨by repeat (first | (with_reducible first | exact HB.out | apply below_alloc | apply pw_below_drewN | apply below_drew1) | exact HB.out)⟩⟩
            case rest =>
              clear HC23
              try clear c1
              try clear p2
              try clear q2
              try clear hx2
              try clear c3
              try clear c4
              try clear c5
              try clear p6
              try clear c7
              try clear c7b0
              try clear c7b1
              try clear c11
              try clear c12
              try clear c12b0
              try clear c13
              try clear c13b0
              try clear c13b1
              try clear c14
              try clear c15
              try clear c15b0
              try clear c16
              try clear c16b0
              try clear c17
              try clear p22
              try clear q22
              try clear hx22
              try clear c30
              try clear c30b0
              try clear c30b1
              try clear c31
              try clear c31b0
              try clear c31b1
              try clear c32
              try clear c32b0
              try clear c32b1
              try clear c33
              try clear c33b0
              try clear c33b1
              try clear c34
              try clear c34b0
              try clear c34b1
              try clear hx222_0
              try clear p2
              try clear p222
              try clear p6
              try clear q222
              obtain ⟨kq, x85_22, rfl, HA, HJ22, HO_6, HO_9, HO_11, HO_13, HB⟩ := hcut
              cases kq with
              | zero => exact absurd HA.out (by simp [anticlinelaw8_NttTurns.j1])
              | succ kj22 =>
                have H := HA.out
                clear HA
                simp only [anticlinelaw8_NttTurns.j1] at H
                by_cases c38 : x85_22 = true
                · subst c38
                  have H1 : (none) = some r := by rw [if_pos rfl] at H; exact H
                  clear H
                  have H := H1
                  clear H1
                  exact absurd H (by simp)
                · replace c38 := Bool.eq_false_iff.mpr c38
                  subst c38
                  have H1 : (if ji8 = 0 then (none) else ((anticlineref8_Pow.f kj22 3 (wrap64 (Int.tdiv (998244352 : Int) ji8))).bind fun t238 => (anticlinelaw8_NttTurns.l1 kj22 ji8 t219 t226 t230 t234 t238 0))) = some r := by rw [if_neg (show ¬ (false = true) by decide)] at H; exact H
                  clear H
                  have H := H1
                  clear H1
                  by_cases c39 : ji8 = 0
                  · rw [if_pos c39] at H
                    exact absurd H (by simp)
                  · rw [if_neg c39] at H
                    have c39b0 : (ji8 == 0) = false := beq_eq_false_iff_ne.mpr c39
                    have c39b1 : (ji8 != 0) = true := bne_iff_ne.mpr c39
                    replace H := Option.bind_eq_some_iff.mp H
                    obtain ⟨t238, A400, H⟩ := H
                    replace H : (anticlinelaw8_NttTurns.l1 kj22 ji8 t219 t226 t230 t234 t238 0) = some r := H
                    have A40 := Aside0.mk A400
                    clear A400
                    have H' := Aside0.mk H
                    clear H
                    go_wp2_with (first | ((with_reducible refine gate_callee (f := 13) rfl ?_); refine goesL_ (some 88) rfl rfl Try.func13 (by kernel_rfl) rfl #[.int .u32 3, .int .i64 (wrap64 (Int.tdiv (998244352 : Int) ji8))] rfl (by (try simp only [List.map_toArray, List.map_cons, List.map_nil]); first | done | (simp only [hji8]; rfl) | rfl | (simp only [List.length_drop, List.length_take]; rfl)) ?_; (with_reducible refine (anticlineref8_Pow.calls kj22 3 (wrap64 (Int.tdiv (998244352 : Int) ji8)) t238 _ A40.out).mono ?_); rintro e w' ⟨rfl, ⟨nd, rfl⟩⟩; refine ⟨_, rfl, ?_⟩))
                    go_loopg [16] kj22 (fun kq v16 w' => ∃ (x16_3 : Int), v16 = .int .i64 x16_3 ∧ Aside0 (anticlinelaw8_NttTurns.l1 kq ji8 t219 t226 t230 t234 t238 x16_3 = some r) ∧ Aside0 (kq ≤ kj22) ∧ Aside0 (Kd.R (Kd.int .u32) 22 w' w.heap.size (fun k_ => some k_ ≠ ((.slice Ao28 t226.length co28) : Value).ownBlock ∧ some k_ ≠ (v232 : Value).ownBlock ∧ some k_ ≠ (v236 : Value).ownBlock) (.slice Ao24 t219.length co24) t219) ∧ Aside0 (Kd.R (Kd.int .u32) 22 w' w.heap.size (fun k_ => some k_ ≠ ((.slice Ao24 t219.length co24) : Value).ownBlock ∧ some k_ ≠ (v232 : Value).ownBlock ∧ some k_ ≠ (v236 : Value).ownBlock) (.slice Ao28 t226.length co28) t226) ∧ Aside0 (Kd.R (Kd.int .u32) 22 w' w.heap.size (fun k_ => some k_ ≠ ((.slice Ao24 t219.length co24) : Value).ownBlock ∧ some k_ ≠ ((.slice Ao28 t226.length co28) : Value).ownBlock ∧ some k_ ≠ (v236 : Value).ownBlock) v232 t230) ∧ Aside0 (Kd.R (Kd.int .u32) 22 w' w.heap.size (fun k_ => some k_ ≠ ((.slice Ao24 t219.length co24) : Value).ownBlock ∧ some k_ ≠ ((.slice Ao28 t226.length co28) : Value).ownBlock ∧ some k_ ≠ (v232 : Value).ownBlock) v236 t234) ∧ Aside0 (Below w.heap.size w w'))
                    case atStart => exact ⟨(0), (by first | rfl | (simp; done) | (simp [*]; done)), H', ⟨Nat.le_refl _⟩, ⟨by (with_reducible repeat (first | apply Kd.R_alloc | apply Kd.R_drewN | apply Kd.R_drew)); exact HO_6.out⟩, ⟨by (with_reducible repeat (first | apply Kd.R_alloc | apply Kd.R_drewN | apply Kd.R_drew)); exact HO_9.out⟩, ⟨by (with_reducible repeat (first | apply Kd.R_alloc | apply Kd.R_drewN | apply Kd.R_drew)); exact HO_11.out⟩, ⟨by (with_reducible repeat (first | apply Kd.R_alloc | apply Kd.R_drewN | apply Kd.R_drew)); exact HO_13.out⟩, ⟨by repeat (first | (with_reducible first | exact HB.out | apply below_alloc | apply pw_below_drewN | apply below_drew1) | exact HB.out)⟩⟩
                    case round =>
                      clear H'
                      try clear c1
                      try clear p2
                      try clear q2
                      try clear hx2
                      try clear c3
                      try clear c4
                      try clear c5
                      try clear p6
                      try clear c7
                      try clear c7b0
                      try clear c7b1
                      try clear c11
                      try clear c12
                      try clear c12b0
                      try clear c13
                      try clear c13b0
                      try clear c13b1
                      try clear c14
                      try clear c15
                      try clear c15b0
                      try clear c16
                      try clear c16b0
                      try clear c17
                      try clear p22
                      try clear q22
                      try clear hx22
                      try clear c30
                      try clear c30b0
                      try clear c30b1
                      try clear c31
                      try clear c31b0
                      try clear c31b1
                      try clear c32
                      try clear c32b0
                      try clear c32b1
                      try clear c33
                      try clear c33b0
                      try clear c33b1
                      try clear c34
                      try clear c34b0
                      try clear c34b1
                      try clear c38
                      try clear c39
                      try clear c39b0
                      try clear c39b1
                      try clear hx222_0
                      try clear p2
                      try clear p22
                      try clear p222
                      try clear p6
                      try clear q2
                      try clear q22
                      try clear q222
                      obtain ⟨x16_3, rfl, HA, HK3, HO_6, HO_9, HO_11, HO_13, HB⟩ := hrel
                      cases gk with
                      | zero => exact absurd HA.out (by simp [anticlinelaw8_NttTurns.l1])
                      | succ k3 =>
                        have H := HA.out
                        clear HA
                        simp only [anticlinelaw8_NttTurns.l1] at H
                        by_cases c41 : x16_3 < ji8
                        · rw [if_pos c41] at H
                          have c41b0 : decide (x16_3 < ji8) = true := decide_eq_true c41
                          clear c41
                          by_cases c42 : 0 ≤ x16_3
                          · rw [if_pos c42] at H
                            have c42b0 : decide (0 ≤ x16_3) = true := decide_eq_true c42
                            clear c42
                            by_cases c43 : x16_3 < (t226.length : Int)
                            · rw [if_pos c43] at H
                              have c43b0 : decide (x16_3 < (t226.length : Int)) = true := decide_eq_true c43
                              clear c43
                              replace H := Option.bind_eq_some_iff.mp H
                              obtain ⟨t240, A440, H⟩ := H
                              replace H : (if x16_3 < (t230.length : Int) then (if (Int.tmod (IntKind.u64.wrap ((IntKind.u64.wrap (rd t226 x16_3)) * (IntKind.u64.wrap (t240)))) 998244353) = (IntKind.u64.wrap (rd t230 x16_3)) then (if x16_3 < (t234.length : Int) then (if ji8 = 0 then (none) else (if 0 ≤ (Int.tmod (wrap64 (ji8 - x16_3)) ji8) then (if (Int.tmod (wrap64 (ji8 - x16_3)) ji8) < (t219.length : Int) then (if (IntKind.u64.wrap (rd t234 x16_3)) = (Int.tmod (IntKind.u64.wrap ((IntKind.u64.wrap (rd t219 (Int.tmod (wrap64 (ji8 - x16_3)) ji8))) * (IntKind.u64.wrap (ji8)))) 998244353) then (anticlinelaw8_NttTurns.l1 k3 ji8 t219 t226 t230 t234 t238 (wrap64 (x16_3 + 1))) else (none)) else (none)) else (none))) else (none)) else (none)) else (none)) = some r := H
                              have A44 := Aside0.mk A440
                              clear A440
                              by_cases c45 : x16_3 < (t230.length : Int)
                              · rw [if_pos c45] at H
                                have c45b0 : decide (x16_3 < (t230.length : Int)) = true := decide_eq_true c45
                                clear c45
                                by_cases c46 : (Int.tmod (IntKind.u64.wrap ((IntKind.u64.wrap (rd t226 x16_3)) * (IntKind.u64.wrap (t240)))) 998244353) = (IntKind.u64.wrap (rd t230 x16_3))
                                · rw [if_pos c46] at H
                                  have c46b0 : ((Int.tmod (IntKind.u64.wrap ((IntKind.u64.wrap (rd t226 x16_3)) * (IntKind.u64.wrap (t240)))) 998244353) == (IntKind.u64.wrap (rd t230 x16_3))) = true := beq_iff_eq.mpr c46
                                  have c46b1 : ((Int.tmod (IntKind.u64.wrap ((IntKind.u64.wrap (rd t226 x16_3)) * (IntKind.u64.wrap (t240)))) 998244353) != (IntKind.u64.wrap (rd t230 x16_3))) = false := bne_eq_false_iff_eq.mpr c46
                                  clear c46
                                  by_cases c47 : x16_3 < (t234.length : Int)
                                  · rw [if_pos c47] at H
                                    have c47b0 : decide (x16_3 < (t234.length : Int)) = true := decide_eq_true c47
                                    clear c47
                                    by_cases c48 : ji8 = 0
                                    · rw [if_pos c48] at H
                                      exact absurd H (by simp)
                                    · rw [if_neg c48] at H
                                      have c48b0 : (ji8 == 0) = false := beq_eq_false_iff_ne.mpr c48
                                      have c48b1 : (ji8 != 0) = true := bne_iff_ne.mpr c48
                                      obtain ⟨ji49, hji49⟩ : ∃ j_ : Int, (Int.tmod (wrap64 (ji8 - x16_3)) ji8) = j_ := ⟨_, rfl⟩
                                      replace H : (if 0 ≤ (ji49) then (if (ji49) < (t219.length : Int) then (if (IntKind.u64.wrap (rd t234 x16_3)) = (Int.tmod (IntKind.u64.wrap ((IntKind.u64.wrap (rd t219 (ji49))) * (IntKind.u64.wrap (ji8)))) 998244353) then (anticlinelaw8_NttTurns.l1 k3 ji8 t219 t226 t230 t234 t238 (wrap64 (x16_3 + 1))) else (none)) else (none)) else (none)) = some r := by first | (rw [hji49] at H; exact H) | (simp only [hji49] at H ⊢; exact H)
                                      (try rw [hji49] at A44)
                                      by_cases c50 : 0 ≤ (ji49)
                                      · rw [if_pos c50] at H
                                        have c50b0 : decide (0 ≤ (ji49)) = true := decide_eq_true c50
                                        clear c50
                                        by_cases c51 : (ji49) < (t219.length : Int)
                                        · rw [if_pos c51] at H
                                          have c51b0 : decide ((ji49) < (t219.length : Int)) = true := decide_eq_true c51
                                          clear c51
                                          by_cases c52 : (IntKind.u64.wrap (rd t234 x16_3)) = (Int.tmod (IntKind.u64.wrap ((IntKind.u64.wrap (rd t219 (ji49))) * (IntKind.u64.wrap (ji8)))) 998244353)
                                          · rw [if_pos c52] at H
                                            have c52b0 : ((IntKind.u64.wrap (rd t234 x16_3)) == (Int.tmod (IntKind.u64.wrap ((IntKind.u64.wrap (rd t219 (ji49))) * (IntKind.u64.wrap (ji8)))) 998244353)) = true := beq_iff_eq.mpr c52
                                            have c52b1 : ((IntKind.u64.wrap (rd t234 x16_3)) != (Int.tmod (IntKind.u64.wrap ((IntKind.u64.wrap (rd t219 (ji49))) * (IntKind.u64.wrap (ji8)))) 998244353)) = false := bne_eq_false_iff_eq.mpr c52
                                            clear c52
                                            have H' := Aside0.mk H
                                            clear H
                                            try go_wp2
                                            have n0_ := Aside0.mk (Kd.R_drew HO_6.out)
                                            have n1_ := Aside0.mk (Kd.R_drew HO_9.out)
                                            have n2_ := Aside0.mk (Kd.R_drew HO_11.out)
                                            have n3_ := Aside0.mk (Kd.R_drew HO_13.out)
                                            have n4_ := Aside0.mk (below_drew1 HB.out)
                                            clear HO_6
                                            clear HO_9
                                            clear HO_11
                                            clear HO_13
                                            clear HB
                                            have HO_6 := n0_
                                            have HO_9 := n1_
                                            have HO_11 := n2_
                                            have HO_13 := n3_
                                            have HB := n4_
                                            clear n0_ n1_ n2_ n3_ n4_
                                            have p239 : 0 ≤ (x16_3 : Int) := of_decide_eq_true (by first | (with_reducible assumption) | assumption)
                                            have q239 : x16_3 < (t226.length : Int) := of_decide_eq_true (by first | (with_reducible assumption) | assumption)
                                            obtain ⟨ad239, e239, hx239_0⟩ := Kd.at_int (Kd.R_reads' HO_9.out).2.2 x16_3 p239 q239
                                            cases e239
                                            replace p239 := eq_true p239
                                            replace q239 := eq_true q239
                                            obtain ⟨Ao54, co54, eo54⟩ := Kd.R_slice HO_11.out
                                            (first | subst eo54 | (injection eo54 with f1_ f2_ f3_; have f4_ := f1_.symm; have f5_ := f3_.symm; clear f1_ f2_ f3_; subst f4_; subst f5_))
                                            have p241 : 0 ≤ (x16_3 : Int) := of_decide_eq_true (by first | (with_reducible assumption) | assumption)
                                            have q241 : x16_3 < (t230.length : Int) := of_decide_eq_true (by first | (with_reducible assumption) | assumption)
                                            obtain ⟨ad241, e241, hx241_0⟩ := Kd.at_int (Kd.R_reads' HO_11.out).2.2 x16_3 p241 q241
                                            cases e241
                                            replace p241 := eq_true p241
                                            replace q241 := eq_true q241
                                            obtain ⟨Ao55, co55, eo55⟩ := Kd.R_slice HO_13.out
                                            (first | subst eo55 | (injection eo55 with f1_ f2_ f3_; have f4_ := f1_.symm; have f5_ := f3_.symm; clear f1_ f2_ f3_; subst f4_; subst f5_))
                                            have p242 : 0 ≤ (x16_3 : Int) := of_decide_eq_true (by first | (with_reducible assumption) | assumption)
                                            have q242 : x16_3 < (t234.length : Int) := of_decide_eq_true (by first | (with_reducible assumption) | assumption)
                                            obtain ⟨ad242, e242, hx242_0⟩ := Kd.at_int (Kd.R_reads' HO_13.out).2.2 x16_3 p242 q242
                                            cases e242
                                            replace p242 := eq_true p242
                                            replace q242 := eq_true q242
                                            have p243 : 0 ≤ ((ji49) : Int) := of_decide_eq_true (by first | (with_reducible assumption) | assumption)
                                            have q243 : (ji49) < (t219.length : Int) := of_decide_eq_true (by first | (with_reducible assumption) | assumption)
                                            obtain ⟨ad243, e243, hx243_0⟩ := Kd.at_int (Kd.R_reads' HO_6.out).2.2 (ji49) p243 q243
                                            cases e243
                                            replace p243 := eq_true p243
                                            replace q243 := eq_true q243
                                            refine start_ (n := 38) (S := fun w' => w'.cell? (ad239.add (x16_3).toNat) = some (.int .u32 (rd t226 x16_3)) ∧ w'.cell? (ad241.add (x16_3).toNat) = some (.int .u32 (rd t230 x16_3)) ∧ w'.cell? (ad242.add (x16_3).toNat) = some (.int .u32 (rd t234 x16_3)) ∧ w'.cell? (ad243.add ((ji49)).toNat) = some (.int .u32 (rd t219 (ji49)))) (ds := []) #[false, false, false, false, false, false, false, false, false, false, false, false, false, false, false, false, false, false, false, false, false, false, false, false, false, false, false, false, false, false, false, false, false, false, false, false, false, false] (by kernel_rfl) rfl rfl ⟨hx239_0, hx241_0, hx242_0, hx243_0⟩ (fun hHeld => ?_); refine with_tabW anticlinelaw8_NttTurns.tab19 anticlinelaw8_NttTurns.bits19 (fun HT_ HW_ => ?_)
                                            generalize wr.drew = w53 at HO_6 HO_9 HO_11 HO_13 HB hx239_0 hx241_0 hx242_0 hx243_0 hHeld ⊢
                                            refine pure_ (i := 0) (N := some 94) (v := ?_) (a' := ?_) #[true, false, false, false, false, false, false, false, false, false, false, false, false, false, false, false, false, false, false, false, false, false, false, false, false, false, false, false, false, false, false, false, false, false, false, false, false, false] rfl rfl (any_of HT_.out (by kernel_rfl)) (fun _ _ _ h => h) (Or.inl ⟨by rfl, ?_⟩) ?_ ?_
                                            rotate_left
                                            · intro w'
                                              go_simp
                                              with_reducible rfl
                                            rotate_left
                                            · simp only [Act.put, List.setIfInBounds_toArray, List.set_cons_zero, List.set_cons_succ, i64_w, i32_w]
                                              rfl
                                            refine pure_ (i := 1) (N := some 95) (v := ?_) (a' := ?_) #[true, true, false, false, false, false, false, false, false, false, false, false, false, false, false, false, false, false, false, false, false, false, false, false, false, false, false, false, false, false, false, false, false, false, false, false, false, false] rfl rfl (any_of HT_.out (by kernel_rfl)) (fun _ _ _ h => h) (Or.inl ⟨by rfl, ?_⟩) ?_ ?_
                                            rotate_left
                                            · intro w'
                                              go_simp
                                              with_reducible rfl
                                            rotate_left
                                            · simp only [Act.put, List.setIfInBounds_toArray, List.set_cons_zero, List.set_cons_succ, i64_w, i32_w]
                                              rfl
                                            refine pure_ (i := 2) (N := some 96) (v := ?_) (a' := ?_) #[true, true, true, false, false, false, false, false, false, false, false, false, false, false, false, false, false, false, false, false, false, false, false, false, false, false, false, false, false, false, false, false, false, false, false, false, false, false] rfl rfl (any_of HT_.out (by kernel_rfl)) (fun _ _ _ h => h) (Or.inl ⟨by rfl, ?_⟩) ?_ ?_
                                            rotate_left
                                            · intro w'
                                              go_simp
                                              with_reducible rfl
                                            rotate_left
                                            · simp only [Act.put, List.setIfInBounds_toArray, List.set_cons_zero, List.set_cons_succ, i64_w, i32_w]
                                              rfl
                                            refine pure_ (i := 5) (N := some 99) (v := ?_) (a' := ?_) #[true, true, true, false, false, true, false, false, false, false, false, false, false, false, false, false, false, false, false, false, false, false, false, false, false, false, false, false, false, false, false, false, false, false, false, false, false, false] rfl rfl (any_of HT_.out (by kernel_rfl)) (fun _ _ _ h => h) (Or.inl ⟨by rfl, ?_⟩) ?_ ?_
                                            rotate_left
                                            · intro w'
                                              go_simp
                                              with_reducible rfl
                                            rotate_left
                                            · simp only [Act.put, List.setIfInBounds_toArray, List.set_cons_zero, List.set_cons_succ, i64_w, i32_w]
                                              rfl
                                            refine pure_ (i := 6) (N := some 100) (v := ?_) (a' := ?_) #[true, true, true, false, false, true, true, false, false, false, false, false, false, false, false, false, false, false, false, false, false, false, false, false, false, false, false, false, false, false, false, false, false, false, false, false, false, false] rfl rfl (any_of HT_.out (by kernel_rfl)) (fun _ _ _ h => h) (Or.inl ⟨by rfl, ?_⟩) ?_ ?_
                                            rotate_left
                                            · intro w'
                                              go_simp
                                              with_reducible rfl
                                            rotate_left
                                            · simp only [Act.put, List.setIfInBounds_toArray, List.set_cons_zero, List.set_cons_succ, i64_w, i32_w]
                                              rfl
                                            refine pure_ (i := 11) (N := some 105) (v := ?_) (a' := ?_) #[true, true, true, false, false, true, true, false, false, false, false, true, false, false, false, false, false, false, false, false, false, false, false, false, false, false, false, false, false, false, false, false, false, false, false, false, false, false] rfl rfl (any_of HT_.out (by kernel_rfl)) (fun _ _ _ h => h) (Or.inl ⟨by rfl, ?_⟩) ?_ ?_
                                            rotate_left
                                            · intro w'
                                              go_simp
                                              with_reducible rfl
                                            rotate_left
                                            · simp only [Act.put, List.setIfInBounds_toArray, List.set_cons_zero, List.set_cons_succ, i64_w, i32_w]
                                              rfl
                                            refine pure_ (i := 12) (N := some 106) (v := ?_) (a' := ?_) #[true, true, true, false, false, true, true, false, false, false, false, true, true, false, false, false, false, false, false, false, false, false, false, false, false, false, false, false, false, false, false, false, false, false, false, false, false, false] rfl rfl (any_of HT_.out (by kernel_rfl)) (fun _ _ _ h => h) (Or.inl ⟨by rfl, ?_⟩) ?_ ?_
                                            rotate_left
                                            · intro w'
                                              go_simp
                                              with_reducible rfl
                                            rotate_left
                                            · simp only [Act.put, List.setIfInBounds_toArray, List.set_cons_zero, List.set_cons_succ, i64_w, i32_w]
                                              rfl
                                            refine pure_ (i := 13) (N := some 107) (v := ?_) (a' := ?_) #[true, true, true, false, false, true, true, false, false, false, false, true, true, true, false, false, false, false, false, false, false, false, false, false, false, false, false, false, false, false, false, false, false, false, false, false, false, false] rfl rfl (any_of HT_.out (by kernel_rfl)) (fun _ _ _ h => h) (Or.inl ⟨by rfl, ?_⟩) ?_ ?_
                                            rotate_left
                                            · intro w'
                                              go_simp
                                              with_reducible rfl
                                            rotate_left
                                            · simp only [Act.put, List.setIfInBounds_toArray, List.set_cons_zero, List.set_cons_succ, i64_w, i32_w]
                                              rfl
                                            refine take_ (i := 3) (N := some 97) (v := ?_) (a' := ?_) #[true, true, true, true, false, true, true, false, false, false, false, true, true, true, false, false, false, false, false, false, false, false, false, false, false, false, false, false, false, false, false, false, false, false, false, false, false, false] rfl rfl (take_ofW HT_.out HW_.out (by kernel_rfl)) (fun _ _ _ h => h) (Or.inl ⟨by rfl, ?_⟩) hHeld ?_ ?_
                                            rotate_left
                                            · rintro w' ⟨s0, s1, s2, s3⟩
                                              go_simp
                                              with_reducible rfl
                                            rotate_left
                                            · simp only [Act.put, List.setIfInBounds_toArray, List.set_cons_zero, List.set_cons_succ, i64_w, i32_w]
                                              rfl
                                            refine pure_ (i := 4) (N := some 98) (v := ?_) (a' := ?_) #[true, true, true, true, true, true, true, false, false, false, false, true, true, true, false, false, false, false, false, false, false, false, false, false, false, false, false, false, false, false, false, false, false, false, false, false, false, false] rfl rfl (any_of HT_.out (by kernel_rfl)) (fun _ _ _ h => h) (Or.inl ⟨by rfl, ?_⟩) ?_ ?_
                                            rotate_left
                                            · intro w'
                                              go_simp
                                              with_reducible rfl
                                            rotate_left
                                            · simp only [Act.put, List.setIfInBounds_toArray, List.set_cons_zero, List.set_cons_succ, i64_w, i32_w]
                                              rfl
                                            refine take_ (i := 14) (N := some 108) (v := ?_) (a' := ?_) #[true, true, true, true, true, true, true, false, false, false, false, true, true, true, true, false, false, false, false, false, false, false, false, false, false, false, false, false, false, false, false, false, false, false, false, false, false, false] rfl rfl (take_ofW HT_.out HW_.out (by kernel_rfl)) (fun _ _ _ h => h) (Or.inl ⟨by rfl, ?_⟩) hHeld ?_ ?_
                                            rotate_left
                                            · rintro w' ⟨s0, s1, s2, s3⟩
                                              go_simp
                                              with_reducible rfl
                                            rotate_left
                                            · simp only [Act.put, List.setIfInBounds_toArray, List.set_cons_zero, List.set_cons_succ, i64_w, i32_w]
                                              rfl
                                            refine pure_ (i := 15) (N := some 109) (v := ?_) (a' := ?_) #[true, true, true, true, true, true, true, false, false, false, false, true, true, true, true, true, false, false, false, false, false, false, false, false, false, false, false, false, false, false, false, false, false, false, false, false, false, false] rfl rfl (any_of HT_.out (by kernel_rfl)) (fun _ _ _ h => h) (Or.inl ⟨by rfl, ?_⟩) ?_ ?_
                                            rotate_left
                                            · intro w'
                                              go_simp
                                              with_reducible rfl
                                            rotate_left
                                            · simp only [Act.put, List.setIfInBounds_toArray, List.set_cons_zero, List.set_cons_succ, i64_w, i32_w]
                                              rfl
                                            refine one_ (i := 7) (N := some 101) #[true, true, true, true, true, true, true, true, false, false, false, true, true, true, true, true, false, false, false, false, false, false, false, false, false, false, false, false, false, false, false, false, false, false, false, false, false, false] rfl rfl (one_of HT_.out (by kernel_rfl)) (by decide) (fun K hK => ?_)
                                            refine goes_ Try.func13 (by kernel_rfl) rfl #[.int .u32 t238, .int .i64 x16_3] (by rfl) rfl rfl (by (try simp only [List.map_toArray, List.map_cons, List.map_nil]); first | done | rfl | (simp only [List.length_drop, List.length_take]; rfl)) ?_
                                            with_reducible refine (anticlineref8_Pow.calls k3 t238 x16_3 t240 _ A44.out).mono ?_
                                            rintro e w' ⟨rfl, ⟨nd, rfl⟩⟩
                                            refine ⟨_, rfl, ?_⟩
                                            refine hK.out _ _ ⟨hHeld.1, hHeld.2.1, hHeld.2.2.1, hHeld.2.2.2⟩ (fun hHeld => ?_)
                                            clear hK K
                                            refine norm_ (a' := ?_) ?_ ?_
                                            rotate_left
                                            · show Act.put _ (some 101) _ = _
                                              simp only [Act.put, List.setIfInBounds_toArray, List.set_cons_zero, List.set_cons_succ, i64_w, i32_w]
                                              rfl
                                            refine pure_ (i := 8) (N := some 102) (v := ?_) (a' := ?_) #[true, true, true, true, true, true, true, true, true, false, false, true, true, true, true, true, false, false, false, false, false, false, false, false, false, false, false, false, false, false, false, false, false, false, false, false, false, false] rfl rfl (any_of HT_.out (by kernel_rfl)) (fun _ _ _ h => h) (Or.inl ⟨by rfl, ?_⟩) ?_ ?_
                                            rotate_left
                                            · intro w'
                                              go_simp
                                              with_reducible rfl
                                            rotate_left
                                            · simp only [Act.put, List.setIfInBounds_toArray, List.set_cons_zero, List.set_cons_succ, i64_w, i32_w]
                                              rfl
                                            refine pure_ (i := 9) (N := some 103) (v := ?_) (a' := ?_) #[true, true, true, true, true, true, true, true, true, true, false, true, true, true, true, true, false, false, false, false, false, false, false, false, false, false, false, false, false, false, false, false, false, false, false, false, false, false] rfl rfl (any_of HT_.out (by kernel_rfl)) (fun _ _ _ h => h) (Or.inl ⟨by rfl, ?_⟩) ?_ ?_
                                            rotate_left
                                            · intro w'
                                              go_simp
                                              with_reducible rfl
                                            rotate_left
                                            · simp only [Act.put, List.setIfInBounds_toArray, List.set_cons_zero, List.set_cons_succ, i64_w, i32_w]
                                              rfl
                                            refine pure_ (i := 10) (N := some 104) (v := ?_) (a' := ?_) #[true, true, true, true, true, true, true, true, true, true, true, true, true, true, true, true, false, false, false, false, false, false, false, false, false, false, false, false, false, false, false, false, false, false, false, false, false, false] rfl rfl (any_of HT_.out (by kernel_rfl)) (fun _ _ _ h => h) (Or.inl ⟨by rfl, ?_⟩) ?_ ?_
                                            rotate_left
                                            · intro w'
                                              go_simp
                                              with_reducible rfl
                                            rotate_left
                                            · simp only [Act.put, List.setIfInBounds_toArray, List.set_cons_zero, List.set_cons_succ, i64_w, i32_w]
                                              rfl
                                            refine pure_ (i := 16) (N := some 110) (v := ?_) (a' := ?_) #[true, true, true, true, true, true, true, true, true, true, true, true, true, true, true, true, true, false, false, false, false, false, false, false, false, false, false, false, false, false, false, false, false, false, false, false, false, false] rfl rfl (any_of HT_.out (by kernel_rfl)) (fun _ _ _ h => h) (Or.inl ⟨by rfl, ?_⟩) ?_ ?_
                                            rotate_left
                                            · intro w'
                                              go_simp
                                              with_reducible rfl
                                            rotate_left
                                            · simp only [Act.put, List.setIfInBounds_toArray, List.set_cons_zero, List.set_cons_succ, i64_w, i32_w]
                                              rfl
                                            refine pure_ (i := 17) (N := some 111) (v := ?_) (a' := ?_) #[true, true, true, true, true, true, true, true, true, true, true, true, true, true, true, true, true, true, false, false, false, false, false, false, false, false, false, false, false, false, false, false, false, false, false, false, false, false] rfl rfl (any_of HT_.out (by kernel_rfl)) (fun _ _ _ h => h) (Or.inl ⟨by rfl, ?_⟩) ?_ ?_
                                            rotate_left
                                            · intro w'
                                              go_simp
                                              with_reducible rfl
                                            rotate_left
                                            · simp only [Act.put, List.setIfInBounds_toArray, List.set_cons_zero, List.set_cons_succ, i64_w, i32_w]
                                              rfl
                                            refine pure_ (i := 18) (N := some 112) (v := ?_) (a' := ?_) #[true, true, true, true, true, true, true, true, true, true, true, true, true, true, true, true, true, true, true, false, false, false, false, false, false, false, false, false, false, false, false, false, false, false, false, false, false, false] rfl rfl (any_of HT_.out (by kernel_rfl)) (fun _ _ _ h => h) (Or.inl ⟨by rfl, ?_⟩) ?_ ?_
                                            rotate_left
                                            · intro w'
                                              go_simp
                                              with_reducible rfl
                                            rotate_left
                                            · simp only [Act.put, List.setIfInBounds_toArray, List.set_cons_zero, List.set_cons_succ, i64_w, i32_w]
                                              rfl
                                            refine pure_ (i := 19) (N := some 113) (v := ?_) (a' := ?_) #[true, true, true, true, true, true, true, true, true, true, true, true, true, true, true, true, true, true, true, true, false, false, false, false, false, false, false, false, false, false, false, false, false, false, false, false, false, false] rfl rfl (any_of HT_.out (by kernel_rfl)) (fun _ _ _ h => h) (Or.inl ⟨by rfl, ?_⟩) ?_ ?_
                                            rotate_left
                                            · intro w'
                                              go_simp
                                              with_reducible rfl
                                            rotate_left
                                            · simp only [Act.put, List.setIfInBounds_toArray, List.set_cons_zero, List.set_cons_succ, i64_w, i32_w]
                                              rfl
                                            refine pure_ (i := 20) (N := some 114) (v := ?_) (a' := ?_) #[true, true, true, true, true, true, true, true, true, true, true, true, true, true, true, true, true, true, true, true, true, false, false, false, false, false, false, false, false, false, false, false, false, false, false, false, false, false] rfl rfl (any_of HT_.out (by kernel_rfl)) (fun _ _ _ h => h) (Or.inl ⟨by rfl, ?_⟩) ?_ ?_
                                            rotate_left
                                            · intro w'
                                              go_simp
                                              with_reducible rfl
                                            rotate_left
                                            · simp only [Act.put, List.setIfInBounds_toArray, List.set_cons_zero, List.set_cons_succ, i64_w, i32_w]
                                              rfl
                                            refine pure_ (i := 23) (N := some 117) (v := ?_) (a' := ?_) #[true, true, true, true, true, true, true, true, true, true, true, true, true, true, true, true, true, true, true, true, true, false, false, true, false, false, false, false, false, false, false, false, false, false, false, false, false, false] rfl rfl (any_of HT_.out (by kernel_rfl)) (fun _ _ _ h => h) (Or.inl ⟨by rfl, ?_⟩) ?_ ?_
                                            rotate_left
                                            · intro w'
                                              go_simp
                                              with_reducible rfl
                                            rotate_left
                                            · simp only [Act.put, List.setIfInBounds_toArray, List.set_cons_zero, List.set_cons_succ, i64_w, i32_w]
                                              rfl
                                            refine pure_ (i := 24) (N := some 118) (v := ?_) (a' := ?_) #[true, true, true, true, true, true, true, true, true, true, true, true, true, true, true, true, true, true, true, true, true, false, false, true, true, false, false, false, false, false, false, false, false, false, false, false, false, false] rfl rfl (any_of HT_.out (by kernel_rfl)) (fun _ _ _ h => h) (Or.inl ⟨by rfl, ?_⟩) ?_ ?_
                                            rotate_left
                                            · intro w'
                                              go_simp
                                              with_reducible rfl
                                            rotate_left
                                            · simp only [Act.put, List.setIfInBounds_toArray, List.set_cons_zero, List.set_cons_succ, i64_w, i32_w]
                                              rfl
                                            refine pure_ (i := 25) (N := some 119) (v := ?_) (a' := ?_) #[true, true, true, true, true, true, true, true, true, true, true, true, true, true, true, true, true, true, true, true, true, false, false, true, true, true, false, false, false, false, false, false, false, false, false, false, false, false] rfl rfl (any_of HT_.out (by kernel_rfl)) (fun _ _ _ h => h) (Or.inl ⟨by rfl, ?_⟩) ?_ ?_
                                            rotate_left
                                            · intro w'
                                              go_simp
                                              with_reducible rfl
                                            rotate_left
                                            · simp only [Act.put, List.setIfInBounds_toArray, List.set_cons_zero, List.set_cons_succ, i64_w, i32_w]
                                              rfl
                                            refine pure_ (i := 26) (N := some 120) (v := ?_) (a' := ?_) #[true, true, true, true, true, true, true, true, true, true, true, true, true, true, true, true, true, true, true, true, true, false, false, true, true, true, true, false, false, false, false, false, false, false, false, false, false, false] rfl rfl (any_of HT_.out (by kernel_rfl)) (fun _ _ _ h => h) (Or.inl ⟨by rfl, ?_⟩) ?_ ?_
                                            rotate_left
                                            · intro w'
                                              go_simp
                                              with_reducible rfl
                                            rotate_left
                                            · simp only [Act.put, List.setIfInBounds_toArray, List.set_cons_zero, List.set_cons_succ, i64_w, i32_w]
                                              rfl
                                            refine pure_ (i := 27) (N := some 121) (v := ?_) (a' := ?_) #[true, true, true, true, true, true, true, true, true, true, true, true, true, true, true, true, true, true, true, true, true, false, false, true, true, true, true, true, false, false, false, false, false, false, false, false, false, false] rfl rfl (any_of HT_.out (by kernel_rfl)) (fun _ _ _ h => h) (Or.inl ⟨by rfl, ?_⟩) ?_ ?_
                                            rotate_left
                                            · intro w'
                                              go_simp
                                              with_reducible rfl
                                            rotate_left
                                            · simp only [Act.put, List.setIfInBounds_toArray, List.set_cons_zero, List.set_cons_succ, i64_w, i32_w]
                                              rfl
                                            refine pure_ (i := 28) (N := some 122) (v := ?_) (a' := ?_) #[true, true, true, true, true, true, true, true, true, true, true, true, true, true, true, true, true, true, true, true, true, false, false, true, true, true, true, true, true, false, false, false, false, false, false, false, false, false] rfl rfl (any_of HT_.out (by kernel_rfl)) (fun _ _ _ h => h) (Or.inl ⟨by rfl, ?_⟩) ?_ ?_
                                            rotate_left
                                            · intro w'
                                              go_simp
                                              with_reducible rfl
                                            rotate_left
                                            · simp only [Act.put, List.setIfInBounds_toArray, List.set_cons_zero, List.set_cons_succ, i64_w, i32_w]
                                              rfl
                                            refine pure_ (i := 29) (N := some 123) (v := ?_) (a' := ?_) #[true, true, true, true, true, true, true, true, true, true, true, true, true, true, true, true, true, true, true, true, true, false, false, true, true, true, true, true, true, true, false, false, false, false, false, false, false, false] rfl rfl (any_of HT_.out (by kernel_rfl)) (fun _ _ _ h => h) (Or.inl ⟨by rfl, ?_⟩) ?_ ?_
                                            rotate_left
                                            · intro w'
                                              go_simp
                                              with_reducible rfl
                                            rotate_left
                                            · simp only [Act.put, List.setIfInBounds_toArray, List.set_cons_zero, List.set_cons_succ, i64_w, i32_w]
                                              rfl
                                            refine pure_ (i := 32) (N := some 126) (v := ?_) (a' := ?_) #[true, true, true, true, true, true, true, true, true, true, true, true, true, true, true, true, true, true, true, true, true, false, false, true, true, true, true, true, true, true, false, false, true, false, false, false, false, false] rfl rfl (any_of HT_.out (by kernel_rfl)) (fun _ _ _ h => h) (Or.inl ⟨by rfl, ?_⟩) ?_ ?_
                                            rotate_left
                                            · intro w'
                                              go_simp
                                              with_reducible rfl
                                            rotate_left
                                            · simp only [Act.put, List.setIfInBounds_toArray, List.set_cons_zero, List.set_cons_succ, i64_w, i32_w]
                                              rfl
                                            refine pure_ (i := 33) (N := some 127) (v := ?_) (a' := ?_) #[true, true, true, true, true, true, true, true, true, true, true, true, true, true, true, true, true, true, true, true, true, false, false, true, true, true, true, true, true, true, false, false, true, true, false, false, false, false] rfl rfl (any_of HT_.out (by kernel_rfl)) (fun _ _ _ h => h) (Or.inl ⟨by rfl, ?_⟩) ?_ ?_
                                            rotate_left
                                            · intro w'
                                              go_simp
                                              with_reducible rfl
                                            rotate_left
                                            · simp only [Act.put, List.setIfInBounds_toArray, List.set_cons_zero, List.set_cons_succ, i64_w, i32_w]
                                              rfl
                                            refine take_ (i := 21) (N := some 115) (v := ?_) (a' := ?_) #[true, true, true, true, true, true, true, true, true, true, true, true, true, true, true, true, true, true, true, true, true, true, false, true, true, true, true, true, true, true, false, false, true, true, false, false, false, false] rfl rfl (take_ofW HT_.out HW_.out (by kernel_rfl)) (fun _ _ _ h => h) (Or.inl ⟨by rfl, ?_⟩) hHeld ?_ ?_
                                            rotate_left
                                            · rintro w' ⟨s0, s1, s2, s3⟩
                                              go_simp
                                              with_reducible rfl
                                            rotate_left
                                            · simp only [Act.put, List.setIfInBounds_toArray, List.set_cons_zero, List.set_cons_succ, i64_w, i32_w]
                                              rfl
                                            refine pure_ (i := 22) (N := some 116) (v := ?_) (a' := ?_) #[true, true, true, true, true, true, true, true, true, true, true, true, true, true, true, true, true, true, true, true, true, true, true, true, true, true, true, true, true, true, false, false, true, true, false, false, false, false] rfl rfl (any_of HT_.out (by kernel_rfl)) (fun _ _ _ h => h) (Or.inl ⟨by rfl, ?_⟩) ?_ ?_
                                            rotate_left
                                            · intro w'
                                              go_simp
                                              with_reducible rfl
                                            rotate_left
                                            · simp only [Act.put, List.setIfInBounds_toArray, List.set_cons_zero, List.set_cons_succ, i64_w, i32_w]
                                              rfl
                                            refine take_ (i := 30) (N := some 124) (v := ?_) (a' := ?_) #[true, true, true, true, true, true, true, true, true, true, true, true, true, true, true, true, true, true, true, true, true, true, true, true, true, true, true, true, true, true, true, false, true, true, false, false, false, false] rfl rfl (take_ofW HT_.out HW_.out (by kernel_rfl)) (fun _ _ _ h => h) (Or.inl ⟨by rfl, ?_⟩) hHeld ?_ ?_
                                            rotate_left
                                            · rintro w' ⟨s0, s1, s2, s3⟩
                                              go_simp
                                              with_reducible rfl
                                            rotate_left
                                            · simp only [Act.put, List.setIfInBounds_toArray, List.set_cons_zero, List.set_cons_succ, i64_w, i32_w]
                                              rfl
                                            refine pure_ (i := 31) (N := some 125) (v := ?_) (a' := ?_) #[true, true, true, true, true, true, true, true, true, true, true, true, true, true, true, true, true, true, true, true, true, true, true, true, true, true, true, true, true, true, true, true, true, true, false, false, false, false] rfl rfl (any_of HT_.out (by kernel_rfl)) (fun _ _ _ h => h) (Or.inl ⟨by rfl, ?_⟩) ?_ ?_
                                            rotate_left
                                            · intro w'
                                              go_simp
                                              with_reducible rfl
                                            rotate_left
                                            · simp only [Act.put, List.setIfInBounds_toArray, List.set_cons_zero, List.set_cons_succ, i64_w, i32_w]
                                              rfl
                                            refine pure_ (i := 34) (N := some 128) (v := ?_) (a' := ?_) #[true, true, true, true, true, true, true, true, true, true, true, true, true, true, true, true, true, true, true, true, true, true, true, true, true, true, true, true, true, true, true, true, true, true, true, false, false, false] rfl rfl (any_of HT_.out (by kernel_rfl)) (fun _ _ _ h => h) (Or.inl ⟨by rfl, ?_⟩) ?_ ?_
                                            rotate_left
                                            · intro w'
                                              go_simp
                                              with_reducible rfl
                                            rotate_left
                                            · simp only [Act.put, List.setIfInBounds_toArray, List.set_cons_zero, List.set_cons_succ, i64_w, i32_w]
                                              rfl
                                            refine pure_ (i := 35) (N := some 129) (v := ?_) (a' := ?_) #[true, true, true, true, true, true, true, true, true, true, true, true, true, true, true, true, true, true, true, true, true, true, true, true, true, true, true, true, true, true, true, true, true, true, true, true, false, false] rfl rfl (any_of HT_.out (by kernel_rfl)) (fun _ _ _ h => h) (Or.inl ⟨by rfl, ?_⟩) ?_ ?_
                                            rotate_left
                                            · intro w'
                                              go_simp
                                              with_reducible rfl
                                            rotate_left
                                            · simp only [Act.put, List.setIfInBounds_toArray, List.set_cons_zero, List.set_cons_succ, i64_w, i32_w]
                                              rfl
                                            refine pure_ (i := 36) (N := some 130) (v := ?_) (a' := ?_) #[true, true, true, true, true, true, true, true, true, true, true, true, true, true, true, true, true, true, true, true, true, true, true, true, true, true, true, true, true, true, true, true, true, true, true, true, true, false] rfl rfl (any_of HT_.out (by kernel_rfl)) (fun _ _ _ h => h) (Or.inl ⟨by rfl, ?_⟩) ?_ ?_
                                            rotate_left
                                            · intro w'
                                              go_simp
                                              with_reducible rfl
                                            rotate_left
                                            · simp only [Act.put, List.setIfInBounds_toArray, List.set_cons_zero, List.set_cons_succ, i64_w, i32_w]
                                              rfl
                                            refine pure_ (i := 37) (N := some 131) (v := ?_) (a' := ?_) #[true, true, true, true, true, true, true, true, true, true, true, true, true, true, true, true, true, true, true, true, true, true, true, true, true, true, true, true, true, true, true, true, true, true, true, true, true, true] rfl rfl (any_of HT_.out (by kernel_rfl)) (fun _ _ _ h => h) (Or.inl ⟨by rfl, ?_⟩) ?_ ?_
                                            rotate_left
                                            · intro w'
                                              go_simp
                                              with_reducible rfl
                                            rotate_left
                                            · simp only [Act.put, List.setIfInBounds_toArray, List.set_cons_zero, List.set_cons_succ, i64_w, i32_w]
                                              rfl
                                            refine done_ (done_of HT_.out (by kernel_rfl)) ?_
                                            try go_wp2
                                            go_roundg k3
                                            case measure => have := HK1.out; have := HJ22.out; have := HK3.out; omega
                                            case rel => exact ⟨(wrap64 (x16_3 + 1)), (by first | rfl | (simp; done) | (simp [*]; done)), H', ⟨by have := HK1.out; have := HJ22.out; have := HK3.out; omega⟩, ⟨by (with_reducible repeat (first | apply Kd.R_alloc | apply Kd.R_drewN | apply Kd.R_drew)); exact HO_6.out⟩, ⟨by (with_reducible repeat (first | apply Kd.R_alloc | apply Kd.R_drewN | apply Kd.R_drew)); exact HO_9.out⟩, ⟨by (with_reducible repeat (first | apply Kd.R_alloc | apply Kd.R_drewN | apply Kd.R_drew)); exact HO_11.out⟩, ⟨by (with_reducible repeat (first | apply Kd.R_alloc | apply Kd.R_drewN | apply Kd.R_drew)); exact HO_13.out⟩, ⟨by repeat (first | (with_reducible first | exact HB.out | apply below_alloc | apply pw_below_drewN | apply below_drew1) | exact HB.out)⟩⟩
                                          · rw [if_neg c52] at H
                                            exact absurd H (by simp)
                                        · rw [if_neg c51] at H
                                          exact absurd H (by simp)
                                      · rw [if_neg c50] at H
                                        exact absurd H (by simp)
                                  · rw [if_neg c47] at H
                                    exact absurd H (by simp)
                                · rw [if_neg c46] at H
                                  have c46b0 : ((Int.tmod (IntKind.u64.wrap ((IntKind.u64.wrap (rd t226 x16_3)) * (IntKind.u64.wrap (t240)))) 998244353) == (IntKind.u64.wrap (rd t230 x16_3))) = false := beq_eq_false_iff_ne.mpr c46
                                  have c46b1 : ((Int.tmod (IntKind.u64.wrap ((IntKind.u64.wrap (rd t226 x16_3)) * (IntKind.u64.wrap (t240)))) 998244353) != (IntKind.u64.wrap (rd t230 x16_3))) = true := bne_iff_ne.mpr c46
                                  exact absurd H (by simp)
                              · rw [if_neg c45] at H
                                exact absurd H (by simp)
                            · rw [if_neg c43] at H
                              exact absurd H (by simp)
                          · rw [if_neg c42] at H
                            exact absurd H (by simp)
                        · rw [if_neg c41] at H
                          have c41b0 : decide (x16_3 < ji8) = false := decide_eq_false c41
                          clear c41
                          obtain rfl := Option.some.inj H
                          go_wp2
                          go_ret
                          exact ⟨by first | rfl | (simp [errW_none, errW_some] <;> rfl) | (simp only [← hji6, ← hji8]; first | rfl | (simp [errW_none, errW_some] <;> rfl)) | (simp [*, errW_none, errW_some] <;> rfl), by repeat (first | (with_reducible first | exact HB.out | apply below_alloc | apply pw_below_drewN | apply below_drew1) | exact HB.out)⟩
    · rw [if_neg c7] at H
      exact absurd H (by simp)
  · replace c4 := Bool.eq_false_iff.mpr c4
    subst c4
    have H1 : (none) = some r := by rw [if_neg (show ¬ (false = true) by decide)] at H; exact H
    clear H
    have H := H1
    clear H1
    exact absurd H (by simp)

/-- THE ONE PURE STATEMENT of anticlinelaw8_NttTurns: yours. -/
def anticlinelaw8_NttTurns.Pure : Prop := ∀ (l0 : List Int) (a1 : Int), l0.length ≤ maxLen → l0.length * 4 ≤ 140737488351232 → (∀ x ∈ l0, (Lit.int .u32 x).wf = true) → (Lit.int .i64 a1).wf = true → ∃ k, anticlinelaw8_NttTurns.f k l0 a1 = some true
theorem anticlinelaw8_NttTurns.walk (P : anticlinelaw8_NttTurns.Pure) (a0 : Option Addr) (len0 cap0 : Nat) (z0 : List Int) (a1 : Int) (w : World) (w0 : (a0 = none ∧ len0 = 0 ∧ cap0 = 0 ∧ z0 = []) ∨ ∃ x, a0 = some x ∧ len0 ≤ cap0 ∧ cap0 ≤ maxLen ∧ z0.length = cap0 ∧ (∀ i, i < z0.length → w.cell? (x.add i) = some (.int .u32 (z0.getD i 0))) ∧ ∀ n ∈ z0, (Lit.int .u32 n).wf = true) (y0 : len0 * 4 ≤ 140737488351232) (w1 : (Lit.int .i64 a1).wf = true) :
    Calls Try.prog 5 #[.slice a0 len0 cap0, .int .i64 a1] w fun e w' => e = .returned (.bool true) ∧ Below w.heap.size w w' := by
  obtain ⟨l0, rfl, hr0, hm0, hw0, hc0⟩ := ReadsInt.ofRowC w0
  obtain ⟨k, h⟩ := P l0 a1 hm0 y0 hw0 w1
  refine (anticlinelaw8_NttTurns.calls k _ _ l0 a1 true w (Kd.C_of_reads (d := (0 : Int)) (h1 := fun _ => rfl) hr0) hc0 h).mono ?_
  rintro e w' ⟨rfl, hd⟩
  exact ⟨rfl, hd⟩

end Go.Proofs.Ytbmmjnmfinjdeaa.F

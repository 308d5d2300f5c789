-- Written by pp.py, a program of this repository, out of the translation. Lean checks it.
import Derived.Test.YtbmmjnmfinjdeaaF0
import Derived.Test.YtbmmjnmfinjdeaaF2
import Derived.Test.YtbmmjnmfinjdeaaF3
import Derived.Test.YtbmmjnmfinjdeaaF7
import Derived.Test.YtbmmjnmfinjdeaaF8
namespace Go.Proofs.Ytbmmjnmfinjdeaa.F
open Go.RowKit Go.Proofs.YtbmmjnmfinjdeaaW.PrintWords Go.Proofs.YtbmmjnmfinjdeaaW.PrintLast Go.Proofs.YtbmmjnmfinjdeaaW.PrintMore
attribute [local go_sem] max2_int min2_int max_two min_two max_three min_three max_four min_four   -- for this text's walks alone
set_option linter.unusedVariables false
set_option linter.unusedSimpArgs false

/-! ### anticlinelaw8_NttOrder: function 9 -/
def anticlinelaw8_NttOrder.j0 : Nat → List Int → List Int → List Int → List Int → Bool → Option (Bool)
  | 0, _, _, _, _, _ => none
  | k + 1, x11, x12, x13, x14, x88 => if x88 = true then (none) else ((ntt_Conv.f k x14 x13).bind fun bt402 => ((anticlineref8_Conv.f k x12 x13).bind fun bt406 => ((ntt_Conv.f k x11 bt406.1).bind fun bt410 => (if bt402.2 = 0 then (if bt410.2 = 0 then ((anticlineref8_Same.f k bt402.1 bt410.1).bind fun t414 => (if t414 = true then (if 0 ≤ (wrap64 ((x14.length : Int) - 1)) then (if (wrap64 ((x14.length : Int) - 1)) < (x14.length : Int) then (if 0 ≤ (wrap64 ((x11.length : Int) - 1)) then (if (wrap64 ((x11.length : Int) - 1)) < (x11.length : Int) then (if 0 ≤ (wrap64 ((x12.length : Int) - 1)) then (if (wrap64 ((x12.length : Int) - 1)) < (x12.length : Int) then (some ((IntKind.u64.wrap (rd x14 (wrap64 ((x14.length : Int) - 1)))) == (Int.tmod (IntKind.u64.wrap ((IntKind.u64.wrap (rd x11 (wrap64 ((x11.length : Int) - 1)))) * (IntKind.u64.wrap (rd x12 (wrap64 ((x12.length : Int) - 1)))))) 998244353))) else (none)) else (none)) else (none)) else (none)) else (none)) else (none)) else (none))) else (none)) else (none)))))
def anticlinelaw8_NttOrder.f (k : Nat) (l0 : List Int) (l1 : List Int) (l2 : List Int) (a3 : Int) (a4 : Int) : Option (Bool) := (anticlinelaw8_known.f k).bind fun t372 => (if t372 = true then ((anticlinelaw8_within.f a3 20).bind fun t373 => ((anticlinelaw8_Row.f k l0 (wrap64 (1 + t373))).bind fun t374 => ((anticlinelaw8_within.f a4 20).bind fun t377 => ((anticlinelaw8_Row.f k l1 (wrap64 (1 + t377))).bind fun t378 => ((anticlinelaw8_within.f (wrap64 (Int.tdiv a3 20)) 9).bind fun t381 => ((anticlinelaw8_Row.f k l2 (wrap64 (1 + t381))).bind fun t382 => ((ntt_Conv.f k t374 t378).bind fun bt385 => ((ntt_Conv.f k t378 t374).bind fun bt389 => ((ntt_Conv.f k t374 (([1] : List Int))).bind fun bt396 => (if bt385.2 = 0 then (if bt389.2 = 0 then (if bt396.2 = 0 then ((anticlineref8_Same.f k bt385.1 bt389.1).bind fun t400 => (if t400 = true then ((anticlineref8_Same.f k bt396.1 t374).bind fun t401 => (if t401 = true then (anticlinelaw8_NttOrder.j0 k t374 t378 t382 bt385.1 ((bt385.1.length : Int) == 0)) else (anticlinelaw8_NttOrder.j0 k t374 t378 t382 bt385.1 true))) else (anticlinelaw8_NttOrder.j0 k t374 t378 t382 bt385.1 true))) else (anticlinelaw8_NttOrder.j0 k t374 t378 t382 bt385.1 true)) else (anticlinelaw8_NttOrder.j0 k t374 t378 t382 bt385.1 true)) else (anticlinelaw8_NttOrder.j0 k t374 t378 t382 bt385.1 true))))))))))) else (none))
theorem anticlinelaw8_NttOrder.mono_l : ∀ k, (∀ y0 y1 y2 y3 y4, LeO (anticlinelaw8_NttOrder.j0 k y0 y1 y2 y3 y4) (anticlinelaw8_NttOrder.j0 (k + 1) y0 y1 y2 y3 y4))
  | 0 => fun _ _ _ _ _ r h => by simp [anticlinelaw8_NttOrder.j0] at h
  | k + 1 => by
    have ih0 := anticlinelaw8_NttOrder.mono_l k
    · intro y0 y1 y2 y3 y4
      unfold anticlinelaw8_NttOrder.j0
      repeat' first
      | (with_reducible exact ih0 _ _ _ _ _)
      | (with_reducible exact anticlinelaw8_Row.mono _ _ _)
      | (with_reducible exact anticlinelaw8_known.mono _)
      | (with_reducible exact anticlineref8_Conv.mono _ _ _)
      | (with_reducible exact anticlineref8_Same.mono _ _ _)
      | (with_reducible exact ntt_Conv.mono _ _ _)
      | (with_reducible exact LeO.refl _)
      | (with_reducible exact LeO.none _)
      | (with_reducible refine LeO.ite ?_ ?_)
      | (with_reducible refine LeO.bind ?_ (fun _ => ?_))
      | exact ih0 _ _ _ _ _
      | exact anticlinelaw8_Row.mono _ _ _
      | exact anticlinelaw8_known.mono _
      | exact anticlineref8_Conv.mono _ _ _
      | exact anticlineref8_Same.mono _ _ _
      | exact ntt_Conv.mono _ _ _
      | exact LeO.none _
      | refine LeO.ite ?_ ?_
      | refine LeO.bind ?_ (fun _ => ?_)
theorem anticlinelaw8_NttOrder.mono : ∀ a0 a1 a2 a3 a4 k, LeO (anticlinelaw8_NttOrder.f k a0 a1 a2 a3 a4) (anticlinelaw8_NttOrder.f (k + 1) a0 a1 a2 a3 a4) := by
  intro a0 a1 a2 a3 a4 k
  have ih0 := anticlinelaw8_NttOrder.mono_l k
  unfold anticlinelaw8_NttOrder.f
  repeat' first
      | (with_reducible exact ih0 _ _ _ _ _)
      | (with_reducible exact anticlinelaw8_Row.mono _ _ _)
      | (with_reducible exact anticlinelaw8_known.mono _)
      | (with_reducible exact anticlineref8_Conv.mono _ _ _)
      | (with_reducible exact anticlineref8_Same.mono _ _ _)
      | (with_reducible exact ntt_Conv.mono _ _ _)
      | (with_reducible exact LeO.refl _)
      | (with_reducible exact LeO.none _)
      | (with_reducible refine LeO.ite ?_ ?_)
      | (with_reducible refine LeO.bind ?_ (fun _ => ?_))
      | exact ih0 _ _ _ _ _
      | exact anticlinelaw8_Row.mono _ _ _
      | exact anticlinelaw8_known.mono _
      | exact anticlineref8_Conv.mono _ _ _
      | exact anticlineref8_Same.mono _ _ _
      | exact ntt_Conv.mono _ _ _
      | exact LeO.none _
      | refine LeO.ite ?_ ?_
      | refine LeO.bind ?_ (fun _ => ?_)
def anticlinelaw8_NttOrder.T12 : Bool × List (List Nat × List Nat) := (true, [([], []), ([0], [0]), ([1], [1]), ([2], [2]), ([3, 2], [2, 3]), ([2, 4], [2, 4]), ([5, 2], [5]), ([6], [6]), ([6], [6]), ([7, 8, 6, 6], [6, 7, 8]), ([6, 9], [6, 9]), ([10, 9], [10]), ([11], [11]), ([11], [11]), ([13, 11], [11, 13]), ([14, 11], [11, 14]), ([12, 15, 11], [11, 12, 15]), ([16, 11], [11, 16]), ([17, 11], [11, 17]), ([11], [11]), ([11], [11]), ([20, 11], [11, 20]), ([21, 11], [11, 21]), ([19, 22, 11], [11, 19, 22]), ([23, 11], [11, 23]), ([24, 11], [11, 24]), ([11], [11]), ([11], [11]), ([27, 11], [11, 27]), ([28, 11], [11, 28]), ([26, 29, 11], [11, 26, 29]), ([30, 11], [11, 30]), ([31, 11], [11, 31]), ([25, 32, 11], [11, 25, 32]), ([33, 11], [11, 33]), ([18, 34, 11], [11, 18, 34]), ([11, 35], [11, 35]), ([36, 11, 0, 1, 2, 3, 4, 5, 6, 7, 8, 9, 10, 11, 12, 13, 14, 15, 16, 17, 18, 19, 20, 21, 22, 23, 24, 25, 26, 27, 28, 29, 30, 31, 32, 33, 34, 35, 36], [36])])
def anticlinelaw8_NttOrder.B12 : List Nat := [0, 1, 3, 7, 15, 31, 63, 127, 127, 511, 1023, 2047, 4095, 4095, 12287, 28671, 65535, 131071, 262143, 4095, 4095, 1052671, 3149823, 7868415, 16257023, 33034239, 4095, 4095, 134221823, 402657279, 1006637055, 2080378879, 4227862527, 8589414399, 17179348991, 34359738367, 68719476735, 137438953471]
theorem anticlinelaw8_NttOrder.tab12 : rtab .any (opsOf Try.f9 12) = anticlinelaw8_NttOrder.T12 := by kernel_rfl
theorem anticlinelaw8_NttOrder.bits12 : waitsOk anticlinelaw8_NttOrder.T12.2 anticlinelaw8_NttOrder.B12 = true := by kernel_rfl
set_option maxHeartbeats 8000000 in
set_option maxRecDepth 100000 in
theorem anticlinelaw8_NttOrder.calls (k : Nat) (A0 : Option Addr) (c0 : Nat) (l0 : List Int) (A1 : Option Addr) (c1 : Nat) (l1 : List Int) (A2 : Option Addr) (c2 : Nat) (l2 : List Int) (a3 : Int) (a4 : Int) (r : Bool) (w : World) (hr0 : Kd.C (Kd.int .u32) w A0 l0.length l0) (hc0 : l0.length ≤ c0) (hr1 : Kd.C (Kd.int .u32) w A1 l1.length l1) (hc1 : l1.length ≤ c1) (hr2 : Kd.C (Kd.int .u32) w A2 l2.length l2) (hc2 : l2.length ≤ c2) (h : anticlinelaw8_NttOrder.f k l0 l1 l2 a3 a4 = some r) :
    Calls Try.prog 9 #[.slice A0 l0.length c0, .slice A1 l1.length c1, .slice A2 l2.length c2, .int .i64 a3, .int .i64 a4] w fun e w' => e = .returned (.bool r) ∧ Below w.heap.size w w' := by
  have HR0 := Aside0.mk hr0
  have HC0 := Aside0.mk hc0
  clear hr0 hc0
  have HR1 := Aside0.mk hr1
  have HC1 := Aside0.mk hc1
  clear hr1 hc1
  have HR2 := Aside0.mk hr2
  have HC2 := Aside0.mk hc2
  clear hr2 hc2
  have HB := Aside0.mk (Below.refl w.heap.size w)
  have H : ((anticlinelaw8_known.f k).bind fun t372 => (if t372 = true then ((anticlinelaw8_within.f a3 20).bind fun t373 => ((anticlinelaw8_Row.f k l0 (wrap64 (1 + t373))).bind fun t374 => ((anticlinelaw8_within.f a4 20).bind fun t377 => ((anticlinelaw8_Row.f k l1 (wrap64 (1 + t377))).bind fun t378 => ((anticlinelaw8_within.f (wrap64 (Int.tdiv a3 20)) 9).bind fun t381 => ((anticlinelaw8_Row.f k l2 (wrap64 (1 + t381))).bind fun t382 => ((ntt_Conv.f k t374 t378).bind fun bt385 => ((ntt_Conv.f k t378 t374).bind fun bt389 => ((ntt_Conv.f k t374 (([1] : List Int))).bind fun bt396 => (if bt385.2 = 0 then (if bt389.2 = 0 then (if bt396.2 = 0 then ((anticlineref8_Same.f k bt385.1 bt389.1).bind fun t400 => (if t400 = true then ((anticlineref8_Same.f k bt396.1 t374).bind fun t401 => (if t401 = true then (anticlinelaw8_NttOrder.j0 k t374 t378 t382 bt385.1 ((bt385.1.length : Int) == 0)) else (anticlinelaw8_NttOrder.j0 k t374 t378 t382 bt385.1 true))) else (anticlinelaw8_NttOrder.j0 k t374 t378 t382 bt385.1 true))) else (anticlinelaw8_NttOrder.j0 k t374 t378 t382 bt385.1 true)) else (anticlinelaw8_NttOrder.j0 k t374 t378 t382 bt385.1 true)) else (anticlinelaw8_NttOrder.j0 k t374 t378 t382 bt385.1 true))))))))))) else (none))) = some r := h
  clear h
  replace H := Option.bind_eq_some_iff.mp H
  obtain ⟨t372, A60, H⟩ := H
  replace H : (if t372 = true then ((anticlinelaw8_within.f a3 20).bind fun t373 => ((anticlinelaw8_Row.f k l0 (wrap64 (1 + t373))).bind fun t374 => ((anticlinelaw8_within.f a4 20).bind fun t377 => ((anticlinelaw8_Row.f k l1 (wrap64 (1 + t377))).bind fun t378 => ((anticlinelaw8_within.f (wrap64 (Int.tdiv a3 20)) 9).bind fun t381 => ((anticlinelaw8_Row.f k l2 (wrap64 (1 + t381))).bind fun t382 => ((ntt_Conv.f k t374 t378).bind fun bt385 => ((ntt_Conv.f k t378 t374).bind fun bt389 => ((ntt_Conv.f k t374 (([1] : List Int))).bind fun bt396 => (if bt385.2 = 0 then (if bt389.2 = 0 then (if bt396.2 = 0 then ((anticlineref8_Same.f k bt385.1 bt389.1).bind fun t400 => (if t400 = true then ((anticlineref8_Same.f k bt396.1 t374).bind fun t401 => (if t401 = true then (anticlinelaw8_NttOrder.j0 k t374 t378 t382 bt385.1 ((bt385.1.length : Int) == 0)) else (anticlinelaw8_NttOrder.j0 k t374 t378 t382 bt385.1 true))) else (anticlinelaw8_NttOrder.j0 k t374 t378 t382 bt385.1 true))) else (anticlinelaw8_NttOrder.j0 k t374 t378 t382 bt385.1 true)) else (anticlinelaw8_NttOrder.j0 k t374 t378 t382 bt385.1 true)) else (anticlinelaw8_NttOrder.j0 k t374 t378 t382 bt385.1 true))))))))))) else (none)) = some r := H
  have A6 := Aside0.mk A60
  clear A60
  by_cases c7 : t372 = true
  · subst c7
    have H1 : ((anticlinelaw8_within.f a3 20).bind fun t373 => ((anticlinelaw8_Row.f k l0 (wrap64 (1 + t373))).bind fun t374 => ((anticlinelaw8_within.f a4 20).bind fun t377 => ((anticlinelaw8_Row.f k l1 (wrap64 (1 + t377))).bind fun t378 => ((anticlinelaw8_within.f (wrap64 (Int.tdiv a3 20)) 9).bind fun t381 => ((anticlinelaw8_Row.f k l2 (wrap64 (1 + t381))).bind fun t382 => ((ntt_Conv.f k t374 t378).bind fun bt385 => ((ntt_Conv.f k t378 t374).bind fun bt389 => ((ntt_Conv.f k t374 (([1] : List Int))).bind fun bt396 => (if bt385.2 = 0 then (if bt389.2 = 0 then (if bt396.2 = 0 then ((anticlineref8_Same.f k bt385.1 bt389.1).bind fun t400 => (if t400 = true then ((anticlineref8_Same.f k bt396.1 t374).bind fun t401 => (if t401 = true then (anticlinelaw8_NttOrder.j0 k t374 t378 t382 bt385.1 ((bt385.1.length : Int) == 0)) else (anticlinelaw8_NttOrder.j0 k t374 t378 t382 bt385.1 true))) else (anticlinelaw8_NttOrder.j0 k t374 t378 t382 bt385.1 true))) else (anticlinelaw8_NttOrder.j0 k t374 t378 t382 bt385.1 true)) else (anticlinelaw8_NttOrder.j0 k t374 t378 t382 bt385.1 true)) else (anticlinelaw8_NttOrder.j0 k t374 t378 t382 bt385.1 true))))))))))) = some r := by rw [if_pos rfl] at H; exact H
    clear H
    have H := H1
    clear H1
    replace H := Option.bind_eq_some_iff.mp H
    obtain ⟨t373, A80, H⟩ := H
    replace H : ((anticlinelaw8_Row.f k l0 (wrap64 (1 + t373))).bind fun t374 => ((anticlinelaw8_within.f a4 20).bind fun t377 => ((anticlinelaw8_Row.f k l1 (wrap64 (1 + t377))).bind fun t378 => ((anticlinelaw8_within.f (wrap64 (Int.tdiv a3 20)) 9).bind fun t381 => ((anticlinelaw8_Row.f k l2 (wrap64 (1 + t381))).bind fun t382 => ((ntt_Conv.f k t374 t378).bind fun bt385 => ((ntt_Conv.f k t378 t374).bind fun bt389 => ((ntt_Conv.f k t374 (([1] : List Int))).bind fun bt396 => (if bt385.2 = 0 then (if bt389.2 = 0 then (if bt396.2 = 0 then ((anticlineref8_Same.f k bt385.1 bt389.1).bind fun t400 => (if t400 = true then ((anticlineref8_Same.f k bt396.1 t374).bind fun t401 => (if t401 = true then (anticlinelaw8_NttOrder.j0 k t374 t378 t382 bt385.1 ((bt385.1.length : Int) == 0)) else (anticlinelaw8_NttOrder.j0 k t374 t378 t382 bt385.1 true))) else (anticlinelaw8_NttOrder.j0 k t374 t378 t382 bt385.1 true))) else (anticlinelaw8_NttOrder.j0 k t374 t378 t382 bt385.1 true)) else (anticlinelaw8_NttOrder.j0 k t374 t378 t382 bt385.1 true)) else (anticlinelaw8_NttOrder.j0 k t374 t378 t382 bt385.1 true)))))))))) = some r := H
    have A8 := Aside0.mk A80
    clear A80
    replace H := Option.bind_eq_some_iff.mp H
    obtain ⟨t374, A90, H⟩ := H
    replace H : ((anticlinelaw8_within.f a4 20).bind fun t377 => ((anticlinelaw8_Row.f k l1 (wrap64 (1 + t377))).bind fun t378 => ((anticlinelaw8_within.f (wrap64 (Int.tdiv a3 20)) 9).bind fun t381 => ((anticlinelaw8_Row.f k l2 (wrap64 (1 + t381))).bind fun t382 => ((ntt_Conv.f k t374 t378).bind fun bt385 => ((ntt_Conv.f k t378 t374).bind fun bt389 => ((ntt_Conv.f k t374 (([1] : List Int))).bind fun bt396 => (if bt385.2 = 0 then (if bt389.2 = 0 then (if bt396.2 = 0 then ((anticlineref8_Same.f k bt385.1 bt389.1).bind fun t400 => (if t400 = true then ((anticlineref8_Same.f k bt396.1 t374).bind fun t401 => (if t401 = true then (anticlinelaw8_NttOrder.j0 k t374 t378 t382 bt385.1 ((bt385.1.length : Int) == 0)) else (anticlinelaw8_NttOrder.j0 k t374 t378 t382 bt385.1 true))) else (anticlinelaw8_NttOrder.j0 k t374 t378 t382 bt385.1 true))) else (anticlinelaw8_NttOrder.j0 k t374 t378 t382 bt385.1 true)) else (anticlinelaw8_NttOrder.j0 k t374 t378 t382 bt385.1 true)) else (anticlinelaw8_NttOrder.j0 k t374 t378 t382 bt385.1 true))))))))) = some r := H
    have A9 := Aside0.mk A90
    clear A90
    replace H := Option.bind_eq_some_iff.mp H
    obtain ⟨t377, A100, H⟩ := H
    replace H : ((anticlinelaw8_Row.f k l1 (wrap64 (1 + t377))).bind fun t378 => ((anticlinelaw8_within.f (wrap64 (Int.tdiv a3 20)) 9).bind fun t381 => ((anticlinelaw8_Row.f k l2 (wrap64 (1 + t381))).bind fun t382 => ((ntt_Conv.f k t374 t378).bind fun bt385 => ((ntt_Conv.f k t378 t374).bind fun bt389 => ((ntt_Conv.f k t374 (([1] : List Int))).bind fun bt396 => (if bt385.2 = 0 then (if bt389.2 = 0 then (if bt396.2 = 0 then ((anticlineref8_Same.f k bt385.1 bt389.1).bind fun t400 => (if t400 = true then ((anticlineref8_Same.f k bt396.1 t374).bind fun t401 => (if t401 = true then (anticlinelaw8_NttOrder.j0 k t374 t378 t382 bt385.1 ((bt385.1.length : Int) == 0)) else (anticlinelaw8_NttOrder.j0 k t374 t378 t382 bt385.1 true))) else (anticlinelaw8_NttOrder.j0 k t374 t378 t382 bt385.1 true))) else (anticlinelaw8_NttOrder.j0 k t374 t378 t382 bt385.1 true)) else (anticlinelaw8_NttOrder.j0 k t374 t378 t382 bt385.1 true)) else (anticlinelaw8_NttOrder.j0 k t374 t378 t382 bt385.1 true)))))))) = some r := H
    have A10 := Aside0.mk A100
    clear A100
    replace H := Option.bind_eq_some_iff.mp H
    obtain ⟨t378, A110, H⟩ := H
    replace H : ((anticlinelaw8_within.f (wrap64 (Int.tdiv a3 20)) 9).bind fun t381 => ((anticlinelaw8_Row.f k l2 (wrap64 (1 + t381))).bind fun t382 => ((ntt_Conv.f k t374 t378).bind fun bt385 => ((ntt_Conv.f k t378 t374).bind fun bt389 => ((ntt_Conv.f k t374 (([1] : List Int))).bind fun bt396 => (if bt385.2 = 0 then (if bt389.2 = 0 then (if bt396.2 = 0 then ((anticlineref8_Same.f k bt385.1 bt389.1).bind fun t400 => (if t400 = true then ((anticlineref8_Same.f k bt396.1 t374).bind fun t401 => (if t401 = true then (anticlinelaw8_NttOrder.j0 k t374 t378 t382 bt385.1 ((bt385.1.length : Int) == 0)) else (anticlinelaw8_NttOrder.j0 k t374 t378 t382 bt385.1 true))) else (anticlinelaw8_NttOrder.j0 k t374 t378 t382 bt385.1 true))) else (anticlinelaw8_NttOrder.j0 k t374 t378 t382 bt385.1 true)) else (anticlinelaw8_NttOrder.j0 k t374 t378 t382 bt385.1 true)) else (anticlinelaw8_NttOrder.j0 k t374 t378 t382 bt385.1 true))))))) = some r := H
    have A11 := Aside0.mk A110
    clear A110
    replace H := Option.bind_eq_some_iff.mp H
    obtain ⟨t381, A120, H⟩ := H
    replace H : ((anticlinelaw8_Row.f k l2 (wrap64 (1 + t381))).bind fun t382 => ((ntt_Conv.f k t374 t378).bind fun bt385 => ((ntt_Conv.f k t378 t374).bind fun bt389 => ((ntt_Conv.f k t374 (([1] : List Int))).bind fun bt396 => (if bt385.2 = 0 then (if bt389.2 = 0 then (if bt396.2 = 0 then ((anticlineref8_Same.f k bt385.1 bt389.1).bind fun t400 => (if t400 = true then ((anticlineref8_Same.f k bt396.1 t374).bind fun t401 => (if t401 = true then (anticlinelaw8_NttOrder.j0 k t374 t378 t382 bt385.1 ((bt385.1.length : Int) == 0)) else (anticlinelaw8_NttOrder.j0 k t374 t378 t382 bt385.1 true))) else (anticlinelaw8_NttOrder.j0 k t374 t378 t382 bt385.1 true))) else (anticlinelaw8_NttOrder.j0 k t374 t378 t382 bt385.1 true)) else (anticlinelaw8_NttOrder.j0 k t374 t378 t382 bt385.1 true)) else (anticlinelaw8_NttOrder.j0 k t374 t378 t382 bt385.1 true)))))) = some r := H
    have A12 := Aside0.mk A120
    clear A120
    replace H := Option.bind_eq_some_iff.mp H
    obtain ⟨t382, A130, H⟩ := H
    replace H : ((ntt_Conv.f k t374 t378).bind fun bt385 => ((ntt_Conv.f k t378 t374).bind fun bt389 => ((ntt_Conv.f k t374 (([1] : List Int))).bind fun bt396 => (if bt385.2 = 0 then (if bt389.2 = 0 then (if bt396.2 = 0 then ((anticlineref8_Same.f k bt385.1 bt389.1).bind fun t400 => (if t400 = true then ((anticlineref8_Same.f k bt396.1 t374).bind fun t401 => (if t401 = true then (anticlinelaw8_NttOrder.j0 k t374 t378 t382 bt385.1 ((bt385.1.length : Int) == 0)) else (anticlinelaw8_NttOrder.j0 k t374 t378 t382 bt385.1 true))) else (anticlinelaw8_NttOrder.j0 k t374 t378 t382 bt385.1 true))) else (anticlinelaw8_NttOrder.j0 k t374 t378 t382 bt385.1 true)) else (anticlinelaw8_NttOrder.j0 k t374 t378 t382 bt385.1 true)) else (anticlinelaw8_NttOrder.j0 k t374 t378 t382 bt385.1 true))))) = some r := H
    have A13 := Aside0.mk A130
    clear A130
    replace H := Option.bind_eq_some_iff.mp H
    obtain ⟨⟨t385, t386⟩, A140, H⟩ := H
    replace H : ((ntt_Conv.f k t378 t374).bind fun bt389 => ((ntt_Conv.f k t374 (([1] : List Int))).bind fun bt396 => (if t386 = 0 then (if bt389.2 = 0 then (if bt396.2 = 0 then ((anticlineref8_Same.f k t385 bt389.1).bind fun t400 => (if t400 = true then ((anticlineref8_Same.f k bt396.1 t374).bind fun t401 => (if t401 = true then (anticlinelaw8_NttOrder.j0 k t374 t378 t382 t385 ((t385.length : Int) == 0)) else (anticlinelaw8_NttOrder.j0 k t374 t378 t382 t385 true))) else (anticlinelaw8_NttOrder.j0 k t374 t378 t382 t385 true))) else (anticlinelaw8_NttOrder.j0 k t374 t378 t382 t385 true)) else (anticlinelaw8_NttOrder.j0 k t374 t378 t382 t385 true)) else (anticlinelaw8_NttOrder.j0 k t374 t378 t382 t385 true)))) = some r := H
    have A14 := Aside0.mk A140
    clear A140
    replace H := Option.bind_eq_some_iff.mp H
    obtain ⟨⟨t389, t390⟩, A150, H⟩ := H
    replace H : ((ntt_Conv.f k t374 (([1] : List Int))).bind fun bt396 => (if t386 = 0 then (if t390 = 0 then (if bt396.2 = 0 then ((anticlineref8_Same.f k t385 t389).bind fun t400 => (if t400 = true then ((anticlineref8_Same.f k bt396.1 t374).bind fun t401 => (if t401 = true then (anticlinelaw8_NttOrder.j0 k t374 t378 t382 t385 ((t385.length : Int) == 0)) else (anticlinelaw8_NttOrder.j0 k t374 t378 t382 t385 true))) else (anticlinelaw8_NttOrder.j0 k t374 t378 t382 t385 true))) else (anticlinelaw8_NttOrder.j0 k t374 t378 t382 t385 true)) else (anticlinelaw8_NttOrder.j0 k t374 t378 t382 t385 true)) else (anticlinelaw8_NttOrder.j0 k t374 t378 t382 t385 true))) = some r := H
    have A15 := Aside0.mk A150
    clear A150
    obtain ⟨y393, hy393⟩ : ∃ y_ : List Int, y_ = (([1] : List Int)) := ⟨_, rfl⟩
    replace H : ((ntt_Conv.f k t374 y393).bind fun bt396 => (if t386 = 0 then (if t390 = 0 then (if bt396.2 = 0 then ((anticlineref8_Same.f k t385 t389).bind fun t400 => (if t400 = true then ((anticlineref8_Same.f k bt396.1 t374).bind fun t401 => (if t401 = true then (anticlinelaw8_NttOrder.j0 k t374 t378 t382 t385 ((t385.length : Int) == 0)) else (anticlinelaw8_NttOrder.j0 k t374 t378 t382 t385 true))) else (anticlinelaw8_NttOrder.j0 k t374 t378 t382 t385 true))) else (anticlinelaw8_NttOrder.j0 k t374 t378 t382 t385 true)) else (anticlinelaw8_NttOrder.j0 k t374 t378 t382 t385 true)) else (anticlinelaw8_NttOrder.j0 k t374 t378 t382 t385 true))) = some r := by first | (rw [hy393]; with_reducible exact H) | (have H2_ := (Option.bind_some _ _).symm.trans H; rw [hy393]; with_reducible exact H2_) | (have H2_ := (Option.bind_some _ _).symm.trans H; with_reducible exact H2_) | with_reducible exact H | (rw [hy393]; exact H) | exact H
    have Ny393 := Aside0.mk hy393
    clear hy393
    replace H := Option.bind_eq_some_iff.mp H
    obtain ⟨⟨t396, t397⟩, A160, H⟩ := H
    replace H : (if t386 = 0 then (if t390 = 0 then (if t397 = 0 then ((anticlineref8_Same.f k t385 t389).bind fun t400 => (if t400 = true then ((anticlineref8_Same.f k t396 t374).bind fun t401 => (if t401 = true then (anticlinelaw8_NttOrder.j0 k t374 t378 t382 t385 ((t385.length : Int) == 0)) else (anticlinelaw8_NttOrder.j0 k t374 t378 t382 t385 true))) else (anticlinelaw8_NttOrder.j0 k t374 t378 t382 t385 true))) else (anticlinelaw8_NttOrder.j0 k t374 t378 t382 t385 true)) else (anticlinelaw8_NttOrder.j0 k t374 t378 t382 t385 true)) else (anticlinelaw8_NttOrder.j0 k t374 t378 t382 t385 true)) = some r := H
    have A16 := Aside0.mk A160
    clear A160
    have HC17 := Aside0.mk H
    clear H
    go_enter Try.func9, Try.ntmps9
    go_upto_region 7 with (first | ((with_reducible refine gate_callee (f := 11) rfl ?_); refine goesL_ (some 26) rfl rfl Try.func11 (by kernel_rfl) rfl #[] rfl (by (try simp only [List.map_toArray, List.map_cons, List.map_nil]); first | done | rfl | (simp only [List.length_drop, List.length_take]; rfl)) ?_; (with_reducible refine (anticlinelaw8_known.calls k  true _ A6.out).mono ?_); rintro e w18 ⟨rfl, hb⟩; refine ⟨_, rfl, ?_⟩; have n0_ := Aside0.mk (below_step (by repeat (first | (with_reducible first | exact HB.out | apply below_alloc | apply pw_below_drewN | apply below_drew1) | exact HB.out)) hb); clear HB; have HB := n0_; clear n0_; (try clear hb); (try clear hb2); (try clear hk); (try clear hi)) | ((with_reducible refine gate_callee (f := 15) rfl ?_); refine goesL_ (some 30) rfl rfl Try.func15 (by kernel_rfl) rfl #[.int .i64 a3, .int .i64 20] rfl (by (try simp only [List.map_toArray, List.map_cons, List.map_nil]); first | done | rfl | (simp only [List.length_drop, List.length_take]; rfl)) ?_; (with_reducible refine (anticlinelaw8_within.calls a3 20 t373 _ A8.out).mono ?_); rintro e w' ⟨rfl, ⟨nd, rfl⟩⟩; refine ⟨_, rfl, ?_⟩) | ((with_reducible refine gate_callee (f := 14) rfl ?_); refine goesL_ (some 32) rfl rfl Try.func14 (by kernel_rfl) rfl #[.slice A0 l0.length c0, .int .i64 (wrap64 (1 + t373))] rfl (by (try simp only [List.map_toArray, List.map_cons, List.map_nil]); first | done | rfl | (simp only [List.length_drop, List.length_take]; rfl)) ?_; (with_reducible refine (anticlinelaw8_Row.calls k _ _ l0 (wrap64 (1 + t373)) t374 _ ?side1 ?side2 A9.out).mono ?_); (case side1 => repeat (first | exact (Kd.C_below HR0.out (by repeat (first | (with_reducible first | exact HB.out | apply below_alloc | apply pw_below_drewN | apply below_drew1) | exact HB.out))) | (with_reducible refine Kd.C_alloc ?_ _) | (with_reducible refine Kd.C_drewN ?_ _) | (with_reducible refine Kd.C_drew ?_))); (case side2 => exact HC0.out); rintro e w19 ⟨v375, rfl, ho0, hb⟩; refine ⟨_, rfl, ?_⟩; have n0_ := Aside0.mk (Kd.R_lower ho0 (below_size (by repeat (first | (with_reducible first | exact HB.out | apply below_alloc | apply pw_below_drewN | apply below_drew1) | exact HB.out)))); have n1_ := Aside0.mk (below_step (by repeat (first | (with_reducible first | exact HB.out | apply below_alloc | apply pw_below_drewN | apply below_drew1) | exact HB.out)) hb); clear HB; have HO376 := n0_; have HB := n1_; clear n0_ n1_; (try clear hb); (try clear hb2); (try clear hk); (try clear hi); (try clear ho0)) | ((with_reducible refine gate_callee (f := 15) rfl ?_); refine goesL_ (some 35) rfl rfl Try.func15 (by kernel_rfl) rfl #[.int .i64 a4, .int .i64 20] rfl (by (try simp only [List.map_toArray, List.map_cons, List.map_nil]); first | done | rfl | (simp only [List.length_drop, List.length_take]; rfl)) ?_; (with_reducible refine (anticlinelaw8_within.calls a4 20 t377 _ A10.out).mono ?_); rintro e w' ⟨rfl, ⟨nd, rfl⟩⟩; refine ⟨_, rfl, ?_⟩) | ((with_reducible refine gate_callee (f := 14) rfl ?_); refine goesL_ (some 37) rfl rfl Try.func14 (by kernel_rfl) rfl #[.slice A1 l1.length c1, .int .i64 (wrap64 (1 + t377))] rfl (by (try simp only [List.map_toArray, List.map_cons, List.map_nil]); first | done | rfl | (simp only [List.length_drop, List.length_take]; rfl)) ?_; (with_reducible refine (anticlinelaw8_Row.calls k _ _ l1 (wrap64 (1 + t377)) t378 _ ?side1 ?side2 A11.out).mono ?_); (case side1 => repeat (first | exact (Kd.C_below HR1.out (by repeat (first | (with_reducible first | exact HB.out | apply below_alloc | apply pw_below_drewN | apply below_drew1) | exact HB.out))) | (with_reducible refine Kd.C_alloc ?_ _) | (with_reducible refine Kd.C_drewN ?_ _) | (with_reducible refine Kd.C_drew ?_))); (case side2 => exact HC1.out); rintro e w20 ⟨v379, rfl, ho0, hb⟩; refine ⟨_, rfl, ?_⟩; have n0_ := Aside0.mk (Kd.R_elder' (by (with_reducible repeat (first | apply Kd.R_alloc | apply Kd.R_drewN | apply Kd.R_drew)); exact HO376.out) (Kd.R_base ho0) hb); have n1_ := Aside0.mk (Kd.R_lower (Kd.R_new' ho0 (Kd.R_lt (by (with_reducible repeat (first | apply Kd.R_alloc | apply Kd.R_drewN | apply Kd.R_drew)); exact HO376.out))) (below_size (by repeat (first | (with_reducible first | exact HB.out | apply below_alloc | apply pw_below_drewN | apply below_drew1) | exact HB.out)))); have n2_ := Aside0.mk (below_step (by repeat (first | (with_reducible first | exact HB.out | apply below_alloc | apply pw_below_drewN | apply below_drew1) | exact HB.out)) hb); clear HO376; clear HB; have HO376 := n0_; have HO380 := n1_; have HB := n2_; clear n0_ n1_ n2_; (try clear hb); (try clear hb2); (try clear hk); (try clear hi); (try clear ho0)) | ((with_reducible refine gate_callee (f := 15) rfl ?_); refine goesL_ (some 41) rfl rfl Try.func15 (by kernel_rfl) rfl #[.int .i64 (wrap64 (Int.tdiv a3 20)), .int .i64 9] rfl (by (try simp only [List.map_toArray, List.map_cons, List.map_nil]); first | done | rfl | (simp only [List.length_drop, List.length_take]; rfl)) ?_; (with_reducible refine (anticlinelaw8_within.calls (wrap64 (Int.tdiv a3 20)) 9 t381 _ A12.out).mono ?_); rintro e w' ⟨rfl, ⟨nd, rfl⟩⟩; refine ⟨_, rfl, ?_⟩) | ((with_reducible refine gate_callee (f := 14) rfl ?_); refine goesL_ (some 43) rfl rfl Try.func14 (by kernel_rfl) rfl #[.slice A2 l2.length c2, .int .i64 (wrap64 (1 + t381))] rfl (by (try simp only [List.map_toArray, List.map_cons, List.map_nil]); first | done | rfl | (simp only [List.length_drop, List.length_take]; rfl)) ?_; (with_reducible refine (anticlinelaw8_Row.calls k _ _ l2 (wrap64 (1 + t381)) t382 _ ?side1 ?side2 A13.out).mono ?_); (case side1 => repeat (first | exact (Kd.C_below HR2.out (by repeat (first | (with_reducible first | exact HB.out | apply below_alloc | apply pw_below_drewN | apply below_drew1) | exact HB.out))) | (with_reducible refine Kd.C_alloc ?_ _) | (with_reducible refine Kd.C_drewN ?_ _) | (with_reducible refine Kd.C_drew ?_))); (case side2 => exact HC2.out); rintro e w21 ⟨v383, rfl, ho0, hb⟩; refine ⟨_, rfl, ?_⟩; have n0_ := Aside0.mk (Kd.R_elder' (by (with_reducible repeat (first | apply Kd.R_alloc | apply Kd.R_drewN | apply Kd.R_drew)); exact HO376.out) (Kd.R_base ho0) hb); have n1_ := Aside0.mk (Kd.R_elder' (by (with_reducible repeat (first | apply Kd.R_alloc | apply Kd.R_drewN | apply Kd.R_drew)); exact HO380.out) (Kd.R_base ho0) hb); have n2_ := Aside0.mk (Kd.R_lower (Kd.R_new' (Kd.R_new' ho0 (Kd.R_lt (by (with_reducible repeat (first | apply Kd.R_alloc | apply Kd.R_drewN | apply Kd.R_drew)); exact HO376.out))) (Kd.R_lt (by (with_reducible repeat (first | apply Kd.R_alloc | apply Kd.R_drewN | apply Kd.R_drew)); exact HO380.out))) (below_size (by repeat (first | (with_reducible first | exact HB.out | apply below_alloc | apply pw_below_drewN | apply below_drew1) | exact HB.out)))); have n3_ := Aside0.mk (below_step (by repeat (first | (with_reducible first | exact HB.out | apply below_alloc | apply pw_below_drewN | apply below_drew1) | exact HB.out)) hb); clear HO376; clear HO380; clear HB; have HO376 := n0_; have HO380 := n1_; have HO384 := n2_; have HB := n3_; clear n0_ n1_ n2_ n3_; (try clear hb); (try clear hb2); (try clear hk); (try clear hi); (try clear ho0); obtain ⟨Ao22, co22, eo22⟩ := Kd.R_slice HO376.out; subst eo22; obtain ⟨Ao23, co23, eo23⟩ := Kd.R_slice HO380.out; subst eo23) | ((with_reducible refine gate_callee (f := 19) rfl ?_); refine goesL_ (some 47) rfl rfl Try.func19 (by kernel_rfl) rfl #[.slice Ao22 t374.length co22, .slice Ao23 t378.length co23] rfl (by (try simp only [List.map_toArray, List.map_cons, List.map_nil]); first | done | rfl | (simp only [List.length_drop, List.length_take]; rfl)) ?_; (with_reducible refine (ntt_Conv.calls k _ _ t374 _ _ t378 t385 t386 _ ?side1 ?side2 ?side3 ?side4 A14.out).mono ?_); (case side1 => repeat (first | exact (Kd.R_reads' HO376.out).2.2 | (with_reducible refine Kd.C_alloc ?_ _) | (with_reducible refine Kd.C_drewN ?_ _) | (with_reducible refine Kd.C_drew ?_))); (case side2 => exact (Kd.R_reads' HO376.out).2.1); (case side3 => repeat (first | exact (Kd.R_reads' HO380.out).2.2 | (with_reducible refine Kd.C_alloc ?_ _) | (with_reducible refine Kd.C_drewN ?_ _) | (with_reducible refine Kd.C_drew ?_))); (case side4 => exact (Kd.R_reads' HO380.out).2.1); rintro e w24 ⟨v387, rfl, ho0, hb⟩; refine ⟨_, rfl, ?_⟩; have n0_ := Aside0.mk (Kd.R_elder' (by (with_reducible repeat (first | apply Kd.R_alloc | apply Kd.R_drewN | apply Kd.R_drew)); exact HO376.out) (Kd.R_base ho0) hb); have n1_ := Aside0.mk (Kd.R_elder' (by (with_reducible repeat (first | apply Kd.R_alloc | apply Kd.R_drewN | apply Kd.R_drew)); exact HO380.out) (Kd.R_base ho0) hb); have n2_ := Aside0.mk (Kd.R_elder' (by (with_reducible repeat (first | apply Kd.R_alloc | apply Kd.R_drewN | apply Kd.R_drew)); exact HO384.out) (Kd.R_base ho0) hb); have n3_ := Aside0.mk (Kd.R_lower (Kd.R_new' (Kd.R_new' (Kd.R_new' ho0 (Kd.R_lt (by (with_reducible repeat (first | apply Kd.R_alloc | apply Kd.R_drewN | apply Kd.R_drew)); exact HO376.out))) (Kd.R_lt (by (with_reducible repeat (first | apply Kd.R_alloc | apply Kd.R_drewN | apply Kd.R_drew)); exact HO380.out))) (Kd.R_lt (by (with_reducible repeat (first | apply Kd.R_alloc | apply Kd.R_drewN | apply Kd.R_drew)); exact HO384.out))) (below_size (by repeat (first | (with_reducible first | exact HB.out | apply below_alloc | apply pw_below_drewN | apply below_drew1) | exact HB.out)))); have n4_ := Aside0.mk (below_step (by repeat (first | (with_reducible first | exact HB.out | apply below_alloc | apply pw_below_drewN | apply below_drew1) | exact HB.out)) hb); clear HO376; clear HO380; clear HO384; clear HB; have HO376 := n0_; have HO380 := n1_; have HO384 := n2_; have HO388 := n3_; have HB := n4_; clear n0_ n1_ n2_ n3_ n4_; (try clear hb); (try clear hb2); (try clear hk); (try clear hi); (try clear ho0)) | ((with_reducible refine gate_callee (f := 19) rfl ?_); refine goesL_ (some 53) rfl rfl Try.func19 (by kernel_rfl) rfl #[.slice Ao23 t378.length co23, .slice Ao22 t374.length co22] rfl (by (try simp only [List.map_toArray, List.map_cons, List.map_nil]); first | done | rfl | (simp only [List.length_drop, List.length_take]; rfl)) ?_; (with_reducible refine (ntt_Conv.calls k _ _ t378 _ _ t374 t389 t390 _ ?side1 ?side2 ?side3 ?side4 A15.out).mono ?_); (case side1 => repeat (first | exact (Kd.R_reads' HO380.out).2.2 | (with_reducible refine Kd.C_alloc ?_ _) | (with_reducible refine Kd.C_drewN ?_ _) | (with_reducible refine Kd.C_drew ?_))); (case side2 => exact (Kd.R_reads' HO380.out).2.1); (case side3 => repeat (first | exact (Kd.R_reads' HO376.out).2.2 | (with_reducible refine Kd.C_alloc ?_ _) | (with_reducible refine Kd.C_drewN ?_ _) | (with_reducible refine Kd.C_drew ?_))); (case side4 => exact (Kd.R_reads' HO376.out).2.1); rintro e w25 ⟨v391, rfl, ho0, hb⟩; refine ⟨_, rfl, ?_⟩; have n0_ := Aside0.mk (Kd.R_elder' (by (with_reducible repeat (first | apply Kd.R_alloc | apply Kd.R_drewN | apply Kd.R_drew)); exact HO376.out) (Kd.R_base ho0) hb); have n1_ := Aside0.mk (Kd.R_elder' (by (with_reducible repeat (first | apply Kd.R_alloc | apply Kd.R_drewN | apply Kd.R_drew)); exact HO380.out) (Kd.R_base ho0) hb); have n2_ := Aside0.mk (Kd.R_elder' (by (with_reducible repeat (first | apply Kd.R_alloc | apply Kd.R_drewN | apply Kd.R_drew)); exact HO384.out) (Kd.R_base ho0) hb); have n3_ := Aside0.mk (Kd.R_elder' (by (with_reducible repeat (first | apply Kd.R_alloc | apply Kd.R_drewN | apply Kd.R_drew)); exact HO388.out) (Kd.R_base ho0) hb); have n4_ := Aside0.mk (Kd.R_lower (Kd.R_new' (Kd.R_new' (Kd.R_new' (Kd.R_new' ho0 (Kd.R_lt (by (with_reducible repeat (first | apply Kd.R_alloc | apply Kd.R_drewN | apply Kd.R_drew)); exact HO376.out))) (Kd.R_lt (by (with_reducible repeat (first | apply Kd.R_alloc | apply Kd.R_drewN | apply Kd.R_drew)); exact HO380.out))) (Kd.R_lt (by (with_reducible repeat (first | apply Kd.R_alloc | apply Kd.R_drewN | apply Kd.R_drew)); exact HO384.out))) (Kd.R_lt (by (with_reducible repeat (first | apply Kd.R_alloc | apply Kd.R_drewN | apply Kd.R_drew)); exact HO388.out))) (below_size (by repeat (first | (with_reducible first | exact HB.out | apply below_alloc | apply pw_below_drewN | apply below_drew1) | exact HB.out)))); have n5_ := Aside0.mk (below_step (by repeat (first | (with_reducible first | exact HB.out | apply below_alloc | apply pw_below_drewN | apply below_drew1) | exact HB.out)) hb); clear HO376; clear HO380; clear HO384; clear HO388; clear HB; have HO376 := n0_; have HO380 := n1_; have HO384 := n2_; have HO388 := n3_; have HO392 := n4_; have HB := n5_; clear n0_ n1_ n2_ n3_ n4_ n5_; (try clear hb); (try clear hb2); (try clear hk); (try clear hi); (try clear ho0)) | ((with_reducible refine gate_dst (N := 58) rfl ?_); (try (refine gate_guard (by rfl) ?_; dsimp only)); refine Kd.R_lit (Kd.int .u32) _ 22 ?hg (N := 58) ?hd (xs := ([1] : List Int)) (inner := [.int .u32 1]) (ok := fun _ => True) (okp := fun _ => True) ?hr ?hp (fun _ hk => hk) trivial (Below.refl _ _) (Nat.le_refl _) (by simp) ?_; (case hd => rfl); (case hg => rfl); (case hr => first | (go_simp; done) | (go_simp; rfl)); (case hp => exact (Reps.one (show Kd.M (Kd.int .u32) _ _ _ 1 [.int .u32 1] from rfl) (Reps.none _ _))); intro v394 w26 ho27 hb hg_ hnew_; clear hg_ hnew_; (first | rw [← Ny393.out] at ho27 | (simp only [Int.reduceToNat] at ho27; rw [← Ny393.out] at ho27)); have n0_ := Aside0.mk (Kd.R_elder' (by (with_reducible repeat (first | apply Kd.R_alloc | apply Kd.R_drewN | apply Kd.R_drew)); exact HO376.out) (Kd.R_base ho27) hb); have n1_ := Aside0.mk (Kd.R_elder' (by (with_reducible repeat (first | apply Kd.R_alloc | apply Kd.R_drewN | apply Kd.R_drew)); exact HO380.out) (Kd.R_base ho27) hb); have n2_ := Aside0.mk (Kd.R_elder' (by (with_reducible repeat (first | apply Kd.R_alloc | apply Kd.R_drewN | apply Kd.R_drew)); exact HO384.out) (Kd.R_base ho27) hb); have n3_ := Aside0.mk (Kd.R_elder' (by (with_reducible repeat (first | apply Kd.R_alloc | apply Kd.R_drewN | apply Kd.R_drew)); exact HO388.out) (Kd.R_base ho27) hb); have n4_ := Aside0.mk (Kd.R_elder' (by (with_reducible repeat (first | apply Kd.R_alloc | apply Kd.R_drewN | apply Kd.R_drew)); exact HO392.out) (Kd.R_base ho27) hb); have n5_ := Aside0.mk (Kd.R_lower (Kd.R_new' (Kd.R_new' (Kd.R_new' (Kd.R_new' (Kd.R_new' ho27 (Kd.R_lt (by (with_reducible repeat (first | apply Kd.R_alloc | apply Kd.R_drewN | apply Kd.R_drew)); exact HO376.out))) (Kd.R_lt (by (with_reducible repeat (first | apply Kd.R_alloc | apply Kd.R_drewN | apply Kd.R_drew)); exact HO380.out))) (Kd.R_lt (by (with_reducible repeat (first | apply Kd.R_alloc | apply Kd.R_drewN | apply Kd.R_drew)); exact HO384.out))) (Kd.R_lt (by (with_reducible repeat (first | apply Kd.R_alloc | apply Kd.R_drewN | apply Kd.R_drew)); exact HO388.out))) (Kd.R_lt (by (with_reducible repeat (first | apply Kd.R_alloc | apply Kd.R_drewN | apply Kd.R_drew)); exact HO392.out))) (below_size (by repeat (first | (with_reducible first | exact HB.out | apply below_alloc | apply pw_below_drewN | apply below_drew1) | exact HB.out)))); have n6_ := Aside0.mk (below_step (by repeat (first | (with_reducible first | exact HB.out | apply below_alloc | apply pw_below_drewN | apply below_drew1) | exact HB.out)) hb); clear HO376; clear HO380; clear HO384; clear HO388; clear HO392; clear HB; have HO376 := n0_; have HO380 := n1_; have HO384 := n2_; have HO388 := n3_; have HO392 := n4_; have HO395 := n5_; have HB := n6_; clear n0_ n1_ n2_ n3_ n4_ n5_ n6_; clear hb ho27; obtain ⟨Ao28, co28, eo28⟩ := Kd.R_slice HO395.out; subst eo28) | ((with_reducible refine gate_callee (f := 19) rfl ?_); refine goesL_ (some 59) rfl rfl Try.func19 (by kernel_rfl) rfl #[.slice Ao22 t374.length co22, .slice Ao28 y393.length co28] rfl (by (try simp only [List.map_toArray, List.map_cons, List.map_nil]); first | done | rfl | (simp only [List.length_drop, List.length_take]; rfl)) ?_; (with_reducible refine (ntt_Conv.calls k _ _ t374 _ _ y393 t396 t397 _ ?side1 ?side2 ?side3 ?side4 A16.out).mono ?_); (case side1 => repeat (first | exact (Kd.R_reads' HO376.out).2.2 | (with_reducible refine Kd.C_alloc ?_ _) | (with_reducible refine Kd.C_drewN ?_ _) | (with_reducible refine Kd.C_drew ?_))); (case side2 => exact (Kd.R_reads' HO376.out).2.1); (case side3 => repeat (first | exact (Kd.R_reads' HO395.out).2.2 | (with_reducible refine Kd.C_alloc ?_ _) | (with_reducible refine Kd.C_drewN ?_ _) | (with_reducible refine Kd.C_drew ?_))); (case side4 => exact (Kd.R_reads' HO395.out).2.1); rintro e w29 ⟨v398, rfl, ho0, hb⟩; refine ⟨_, rfl, ?_⟩; have n0_ := Aside0.mk (Kd.R_elder' (by (with_reducible repeat (first | apply Kd.R_alloc | apply Kd.R_drewN | apply Kd.R_drew)); exact HO376.out) (Kd.R_base ho0) hb); have n1_ := Aside0.mk (Kd.R_elder' (by (with_reducible repeat (first | apply Kd.R_alloc | apply Kd.R_drewN | apply Kd.R_drew)); exact HO380.out) (Kd.R_base ho0) hb); have n2_ := Aside0.mk (Kd.R_elder' (by (with_reducible repeat (first | apply Kd.R_alloc | apply Kd.R_drewN | apply Kd.R_drew)); exact HO384.out) (Kd.R_base ho0) hb); have n3_ := Aside0.mk (Kd.R_elder' (by (with_reducible repeat (first | apply Kd.R_alloc | apply Kd.R_drewN | apply Kd.R_drew)); exact HO388.out) (Kd.R_base ho0) hb); have n4_ := Aside0.mk (Kd.R_elder' (by (with_reducible repeat (first | apply Kd.R_alloc | apply Kd.R_drewN | apply Kd.R_drew)); exact HO392.out) (Kd.R_base ho0) hb); have n5_ := Aside0.mk (Kd.R_elder' (by (with_reducible repeat (first | apply Kd.R_alloc | apply Kd.R_drewN | apply Kd.R_drew)); exact HO395.out) (Kd.R_base ho0) hb); have n6_ := Aside0.mk (Kd.R_lower (Kd.R_new' (Kd.R_new' (Kd.R_new' (Kd.R_new' (Kd.R_new' (Kd.R_new' ho0 (Kd.R_lt (by (with_reducible repeat (first | apply Kd.R_alloc | apply Kd.R_drewN | apply Kd.R_drew)); exact HO376.out))) (Kd.R_lt (by (with_reducible repeat (first | apply Kd.R_alloc | apply Kd.R_drewN | apply Kd.R_drew)); exact HO380.out))) (Kd.R_lt (by (with_reducible repeat (first | apply Kd.R_alloc | apply Kd.R_drewN | apply Kd.R_drew)); exact HO384.out))) (Kd.R_lt (by (with_reducible repeat (first | apply Kd.R_alloc | apply Kd.R_drewN | apply Kd.R_drew)); exact HO388.out))) (Kd.R_lt (by (with_reducible repeat (first | apply Kd.R_alloc | apply Kd.R_drewN | apply Kd.R_drew)); exact HO392.out))) (Kd.R_lt (by (with_reducible repeat (first | apply Kd.R_alloc | apply Kd.R_drewN | apply Kd.R_drew)); exact HO395.out))) (below_size (by repeat (first | (with_reducible first | exact HB.out | apply below_alloc | apply pw_below_drewN | apply below_drew1) | exact HB.out)))); have n7_ := Aside0.mk (below_step (by repeat (first | (with_reducible first | exact HB.out | apply below_alloc | apply pw_below_drewN | apply below_drew1) | exact HB.out)) hb); clear HO376; clear HO380; clear HO384; clear HO388; clear HO392; clear HO395; clear HB; have HO376 := n0_; have HO380 := n1_; have HO384 := n2_; have HO388 := n3_; have HO392 := n4_; have HO395 := n5_; have HO399 := n6_; have HB := n7_; clear n0_ n1_ n2_ n3_ n4_ n5_ n6_ n7_; (try clear hb); (try clear hb2); (try clear hk); (try clear hi); (try clear ho0)))
    (try simp only [Act.put, List.setIfInBounds_toArray, List.set_cons_zero, List.set_cons_succ])
    go_cut [88] (fun v88 wc => ∃ (kq : Nat) (x88_16 : Bool), v88 = .bool x88_16 ∧ Aside0 (anticlinelaw8_NttOrder.j0 kq t374 t378 t382 t385 x88_16 = some r) ∧ Aside0 (kq ≤ k) ∧ Aside0 (Kd.R (Kd.int .u32) 22 wc w.heap.size (fun k_ => some k_ ≠ ((.slice Ao23 t378.length co23) : Value).ownBlock ∧ some k_ ≠ (v383 : Value).ownBlock ∧ some k_ ≠ (v387 : Value).ownBlock) (.slice Ao22 t374.length co22) t374) ∧ Aside0 (Kd.R (Kd.int .u32) 22 wc w.heap.size (fun k_ => some k_ ≠ ((.slice Ao22 t374.length co22) : Value).ownBlock ∧ some k_ ≠ (v383 : Value).ownBlock ∧ some k_ ≠ (v387 : Value).ownBlock) (.slice Ao23 t378.length co23) t378) ∧ Aside0 (Kd.R (Kd.int .u32) 22 wc w.heap.size (fun k_ => some k_ ≠ ((.slice Ao22 t374.length co22) : Value).ownBlock ∧ some k_ ≠ ((.slice Ao23 t378.length co23) : Value).ownBlock ∧ some k_ ≠ (v387 : Value).ownBlock) v383 t382) ∧ Aside0 (Kd.R (Kd.int .u32) 22 wc w.heap.size (fun k_ => some k_ ≠ ((.slice Ao22 t374.length co22) : Value).ownBlock ∧ some k_ ≠ ((.slice Ao23 t378.length co23) : Value).ownBlock ∧ some k_ ≠ (v383 : Value).ownBlock) v387 t385) ∧ Aside0 (Below w.heap.size w wc))
    case first =>
      have H := HC17.out
      clear HC17
      by_cases c30 : t386 = 0
      · rw [if_pos c30] at H
        have c30b0 : (t386 == 0) = true := beq_iff_eq.mpr c30
        have c30b1 : (t386 != 0) = false := bne_eq_false_iff_eq.mpr c30
        clear c30
        (first | rw [c30b0] | (simp only [i64_w, i32_w]; rw [c30b0]) | skip)
        by_cases c31 : t390 = 0
        · rw [if_pos c31] at H
          have c31b0 : (t390 == 0) = true := beq_iff_eq.mpr c31
          have c31b1 : (t390 != 0) = false := bne_eq_false_iff_eq.mpr c31
          clear c31
          by_cases c32 : t397 = 0
          · rw [if_pos c32] at H
            have c32b0 : (t397 == 0) = true := beq_iff_eq.mpr c32
            have c32b1 : (t397 != 0) = false := bne_eq_false_iff_eq.mpr c32
            clear c32
            replace H := Option.bind_eq_some_iff.mp H
            obtain ⟨t400, A330, H⟩ := H
            replace H : (if t400 = true then ((anticlineref8_Same.f k t396 t374).bind fun t401 => (if t401 = true then (anticlinelaw8_NttOrder.j0 k t374 t378 t382 t385 ((t385.length : Int) == 0)) else (anticlinelaw8_NttOrder.j0 k t374 t378 t382 t385 true))) else (anticlinelaw8_NttOrder.j0 k t374 t378 t382 t385 true)) = some r := H
            have A33 := Aside0.mk A330
            clear A330
            by_cases c34 : t400 = true
            · subst c34
              have H1 : ((anticlineref8_Same.f k t396 t374).bind fun t401 => (if t401 = true then (anticlinelaw8_NttOrder.j0 k t374 t378 t382 t385 ((t385.length : Int) == 0)) else (anticlinelaw8_NttOrder.j0 k t374 t378 t382 t385 true))) = some r := by rw [if_pos rfl] at H; exact H
              clear H
              have H := H1
              clear H1
              replace H := Option.bind_eq_some_iff.mp H
              obtain ⟨t401, A350, H⟩ := H
              replace H : (if t401 = true then (anticlinelaw8_NttOrder.j0 k t374 t378 t382 t385 ((t385.length : Int) == 0)) else (anticlinelaw8_NttOrder.j0 k t374 t378 t382 t385 true)) = some r := H
              have A35 := Aside0.mk A350
              clear A350
              by_cases c36 : t401 = true
              · subst c36
                have H1 : (anticlinelaw8_NttOrder.j0 k t374 t378 t382 t385 ((t385.length : Int) == 0)) = some r := by rw [if_pos rfl] at H; exact H
                clear H
                have H := H1
                clear H1
                have H' := Aside0.mk H
                clear H
                obtain ⟨Ao37, co37, eo37⟩ := Kd.R_slice HO388.out
                subst eo37
                obtain ⟨Ao38, co38, eo38⟩ := Kd.R_slice HO392.out
                subst eo38
                go_wp2_with (first | (go_at_call 18; (with_reducible refine (anticlineref8_Same.calls k _ _ t385 _ _ t389 true _ ?side1 ?side2 ?side3 ?side4 A33.out).mono ?_); (case side1 => repeat (first | exact (Kd.R_reads' HO388.out).2.2 | (with_reducible refine Kd.C_alloc ?_ _) | (with_reducible refine Kd.C_drewN ?_ _) | (with_reducible refine Kd.C_drew ?_))); (case side2 => exact (Kd.R_reads' HO388.out).2.1); (case side3 => repeat (first | exact (Kd.R_reads' HO392.out).2.2 | (with_reducible refine Kd.C_alloc ?_ _) | (with_reducible refine Kd.C_drewN ?_ _) | (with_reducible refine Kd.C_drew ?_))); (case side4 => exact (Kd.R_reads' HO392.out).2.1); rintro e w' ⟨rfl, ⟨nd, rfl⟩⟩; obtain ⟨Ao39, co39, eo39⟩ := Kd.R_slice HO399.out; subst eo39) | (go_at_call 18; (with_reducible refine (anticlineref8_Same.calls k _ _ t396 _ _ t374 true _ ?side1 ?side2 ?side3 ?side4 A35.out).mono ?_); (case side1 => repeat (first | exact (Kd.R_reads' HO399.out).2.2 | (with_reducible refine Kd.C_alloc ?_ _) | (with_reducible refine Kd.C_drewN ?_ _) | (with_reducible refine Kd.C_drew ?_))); (case side2 => exact (Kd.R_reads' HO399.out).2.1); (case side3 => repeat (first | exact (Kd.R_reads' HO376.out).2.2 | (with_reducible refine Kd.C_alloc ?_ _) | (with_reducible refine Kd.C_drewN ?_ _) | (with_reducible refine Kd.C_drew ?_))); (case side4 => exact (Kd.R_reads' HO376.out).2.1); rintro e w' ⟨rfl, ⟨nd, rfl⟩⟩))
                go_meet
                case rel => exact ⟨_, (((t385.length : Int) == 0)), (by first | rfl | (simp; done) | (simp [*]; done)), H', ⟨by first | omega | exact Nat.le_refl _⟩, ⟨by (with_reducible repeat (first | apply Kd.R_alloc | apply Kd.R_drewN | apply Kd.R_drew)); exact Kd.R_mono HO376.out (fun _ hk => ⟨hk.1.1.1.1.1.2, ⟨hk.1.1.1.1.2, hk.1.1.1.2⟩⟩)⟩, ⟨by (with_reducible repeat (first | apply Kd.R_alloc | apply Kd.R_drewN | apply Kd.R_drew)); exact Kd.R_mono HO380.out (fun _ hk => ⟨hk.1.1.1.1.1.2, ⟨hk.1.1.1.1.2, hk.1.1.1.2⟩⟩)⟩, ⟨by (with_reducible repeat (first | apply Kd.R_alloc | apply Kd.R_drewN | apply Kd.R_drew)); exact Kd.R_mono HO384.out (fun _ hk => ⟨hk.1.1.1.1.1.2, ⟨hk.1.1.1.1.2, hk.1.1.1.2⟩⟩)⟩, ⟨by (with_reducible repeat (first | apply Kd.R_alloc | apply Kd.R_drewN | apply Kd.R_drew)); exact Kd.R_mono HO388.out (fun _ hk => ⟨hk.1.1.1.1.1.2, ⟨hk.1.1.1.1.2, hk.1.1.1.2⟩⟩)⟩, ⟨by repeat (first | (with_reducible first | exact HB.out | apply below_alloc | apply pw_below_drewN | apply below_drew1) | exact HB.out)⟩⟩
              · replace c36 := Bool.eq_false_iff.mpr c36
                subst c36
                have H1 : (anticlinelaw8_NttOrder.j0 k t374 t378 t382 t385 true) = some r := by rw [if_neg (show ¬ (false = true) by decide)] at H; exact H
                clear H
                have H := H1
                clear H1
                have H' := Aside0.mk H
                clear H
                obtain ⟨Ao40, co40, eo40⟩ := Kd.R_slice HO388.out
                subst eo40
                obtain ⟨Ao41, co41, eo41⟩ := Kd.R_slice HO392.out
                subst eo41
                go_wp2_with (first | (go_at_call 18; (with_reducible refine (anticlineref8_Same.calls k _ _ t385 _ _ t389 true _ ?side1 ?side2 ?side3 ?side4 A33.out).mono ?_); (case side1 => repeat (first | exact (Kd.R_reads' HO388.out).2.2 | (with_reducible refine Kd.C_alloc ?_ _) | (with_reducible refine Kd.C_drewN ?_ _) | (with_reducible refine Kd.C_drew ?_))); (case side2 => exact (Kd.R_reads' HO388.out).2.1); (case side3 => repeat (first | exact (Kd.R_reads' HO392.out).2.2 | (with_reducible refine Kd.C_alloc ?_ _) | (with_reducible refine Kd.C_drewN ?_ _) | (with_reducible refine Kd.C_drew ?_))); (case side4 => exact (Kd.R_reads' HO392.out).2.1); rintro e w' ⟨rfl, ⟨nd, rfl⟩⟩; obtain ⟨Ao42, co42, eo42⟩ := Kd.R_slice HO399.out; subst eo42) | (go_at_call 18; (with_reducible refine (anticlineref8_Same.calls k _ _ t396 _ _ t374 false _ ?side1 ?side2 ?side3 ?side4 A35.out).mono ?_); (case side1 => repeat (first | exact (Kd.R_reads' HO399.out).2.2 | (with_reducible refine Kd.C_alloc ?_ _) | (with_reducible refine Kd.C_drewN ?_ _) | (with_reducible refine Kd.C_drew ?_))); (case side2 => exact (Kd.R_reads' HO399.out).2.1); (case side3 => repeat (first | exact (Kd.R_reads' HO376.out).2.2 | (with_reducible refine Kd.C_alloc ?_ _) | (with_reducible refine Kd.C_drewN ?_ _) | (with_reducible refine Kd.C_drew ?_))); (case side4 => exact (Kd.R_reads' HO376.out).2.1); rintro e w' ⟨rfl, ⟨nd, rfl⟩⟩))
                go_meet
                case rel => exact ⟨_, (true), (by first | rfl | (simp; done) | (simp [*]; done)), H', ⟨by first | omega | exact Nat.le_refl _⟩, ⟨by (with_reducible repeat (first | apply Kd.R_alloc | apply Kd.R_drewN | apply Kd.R_drew)); exact Kd.R_mono HO376.out (fun _ hk => ⟨hk.1.1.1.1.1.2, ⟨hk.1.1.1.1.2, hk.1.1.1.2⟩⟩)⟩, ⟨by (with_reducible repeat (first | apply Kd.R_alloc | apply Kd.R_drewN | apply Kd.R_drew)); exact Kd.R_mono HO380.out (fun _ hk => ⟨hk.1.1.1.1.1.2, ⟨hk.1.1.1.1.2, hk.1.1.1.2⟩⟩)⟩, ⟨by (with_reducible repeat (first | apply Kd.R_alloc | apply Kd.R_drewN | apply Kd.R_drew)); exact Kd.R_mono HO384.out (fun _ hk => ⟨hk.1.1.1.1.1.2, ⟨hk.1.1.1.1.2, hk.1.1.1.2⟩⟩)⟩, ⟨by (with_reducible repeat (first | apply Kd.R_alloc | apply Kd.R_drewN | apply Kd.R_drew)); exact Kd.R_mono HO388.out (fun _ hk => ⟨hk.1.1.1.1.1.2, ⟨hk.1.1.1.1.2, hk.1.1.1.2⟩⟩)⟩, ⟨by repeat (first | (with_reducible first | exact HB.out | apply below_alloc | apply pw_below_drewN | apply below_drew1) | exact HB.out)⟩⟩
            · replace c34 := Bool.eq_false_iff.mpr c34
              subst c34
              have H1 : (anticlinelaw8_NttOrder.j0 k t374 t378 t382 t385 true) = some r := by rw [if_neg (show ¬ (false = true) by decide)] at H; exact H
              clear H
              have H := H1
              clear H1
              have H' := Aside0.mk H
              clear H
              obtain ⟨Ao43, co43, eo43⟩ := Kd.R_slice HO388.out
              subst eo43
              obtain ⟨Ao44, co44, eo44⟩ := Kd.R_slice HO392.out
              subst eo44
              go_wp2_with (first | (go_at_call 18; (with_reducible refine (anticlineref8_Same.calls k _ _ t385 _ _ t389 false _ ?side1 ?side2 ?side3 ?side4 A33.out).mono ?_); (case side1 => repeat (first | exact (Kd.R_reads' HO388.out).2.2 | (with_reducible refine Kd.C_alloc ?_ _) | (with_reducible refine Kd.C_drewN ?_ _) | (with_reducible refine Kd.C_drew ?_))); (case side2 => exact (Kd.R_reads' HO388.out).2.1); (case side3 => repeat (first | exact (Kd.R_reads' HO392.out).2.2 | (with_reducible refine Kd.C_alloc ?_ _) | (with_reducible refine Kd.C_drewN ?_ _) | (with_reducible refine Kd.C_drew ?_))); (case side4 => exact (Kd.R_reads' HO392.out).2.1); rintro e w' ⟨rfl, ⟨nd, rfl⟩⟩))
              go_meet
              case rel => exact ⟨_, (true), (by first | rfl | (simp; done) | (simp [*]; done)), H', ⟨by first | omega | exact Nat.le_refl _⟩, ⟨by (with_reducible repeat (first | apply Kd.R_alloc | apply Kd.R_drewN | apply Kd.R_drew)); exact Kd.R_mono HO376.out (fun _ hk => ⟨hk.1.1.1.1.1.2, ⟨hk.1.1.1.1.2, hk.1.1.1.2⟩⟩)⟩, ⟨by (with_reducible repeat (first | apply Kd.R_alloc | apply Kd.R_drewN | apply Kd.R_drew)); exact Kd.R_mono HO380.out (fun _ hk => ⟨hk.1.1.1.1.1.2, ⟨hk.1.1.1.1.2, hk.1.1.1.2⟩⟩)⟩, ⟨by (with_reducible repeat (first | apply Kd.R_alloc | apply Kd.R_drewN | apply Kd.R_drew)); exact Kd.R_mono HO384.out (fun _ hk => ⟨hk.1.1.1.1.1.2, ⟨hk.1.1.1.1.2, hk.1.1.1.2⟩⟩)⟩, ⟨by (with_reducible repeat (first | apply Kd.R_alloc | apply Kd.R_drewN | apply Kd.R_drew)); exact Kd.R_mono HO388.out (fun _ hk => ⟨hk.1.1.1.1.1.2, ⟨hk.1.1.1.1.2, hk.1.1.1.2⟩⟩)⟩, ⟨by repeat (first | (with_reducible first | exact HB.out | apply below_alloc | apply pw_below_drewN | apply below_drew1) | exact HB.out)⟩⟩
          · rw [if_neg c32] at H
            have c32b0 : (t397 == 0) = false := beq_eq_false_iff_ne.mpr c32
            have c32b1 : (t397 != 0) = true := bne_iff_ne.mpr c32
            have H' := Aside0.mk H
            clear H
            go_wp2
            go_meet
            case rel => exact ⟨_, (true), (by first | rfl | (simp; done) | (simp [*]; done)), H', ⟨by first | omega | exact Nat.le_refl _⟩, ⟨by (with_reducible repeat (first | apply Kd.R_alloc | apply Kd.R_drewN | apply Kd.R_drew)); exact Kd.R_mono HO376.out (fun _ hk => ⟨hk.1.1.1.1.1.2, ⟨hk.1.1.1.1.2, hk.1.1.1.2⟩⟩)⟩, ⟨by (with_reducible repeat (first | apply Kd.R_alloc | apply Kd.R_drewN | apply Kd.R_drew)); exact Kd.R_mono HO380.out (fun _ hk => ⟨hk.1.1.1.1.1.2, ⟨hk.1.1.1.1.2, hk.1.1.1.2⟩⟩)⟩, ⟨by (with_reducible repeat (first | apply Kd.R_alloc | apply Kd.R_drewN | apply Kd.R_drew)); exact Kd.R_mono HO384.out (fun _ hk => ⟨hk.1.1.1.1.1.2, ⟨hk.1.1.1.1.2, hk.1.1.1.2⟩⟩)⟩, ⟨by (with_reducible repeat (first | apply Kd.R_alloc | apply Kd.R_drewN | apply Kd.R_drew)); exact Kd.R_mono HO388.out (fun _ hk => ⟨hk.1.1.1.1.1.2, ⟨hk.1.1.1.1.2, hk.1.1.1.2⟩⟩)⟩, ⟨by repeat (first | (with_reducible first | exact HB.out | apply below_alloc | apply pw_below_drewN | apply below_drew1) | exact HB.out)⟩⟩
        · rw [if_neg c31] at H
          have c31b0 : (t390 == 0) = false := beq_eq_false_iff_ne.mpr c31
          have c31b1 : (t390 != 0) = true := bne_iff_ne.mpr c31
          have H' := Aside0.mk H
          clear H
          go_wp2
          go_meet
          case rel => exact ⟨_, (true), (by first | rfl | (simp; done) | (simp [*]; done)), H', ⟨by first | omega | exact Nat.le_refl _⟩, ⟨by (with_reducible repeat (first | apply Kd.R_alloc | apply Kd.R_drewN | apply Kd.R_drew)); exact Kd.R_mono HO376.out (fun _ hk => ⟨hk.1.1.1.1.1.2, ⟨hk.1.1.1.1.2, hk.1.1.1.2⟩⟩)⟩, ⟨by (with_reducible repeat (first | apply Kd.R_alloc | apply Kd.R_drewN | apply Kd.R_drew)); exact Kd.R_mono HO380.out (fun _ hk => ⟨hk.1.1.1.1.1.2, ⟨hk.1.1.1.1.2, hk.1.1.1.2⟩⟩)⟩, ⟨by (with_reducible repeat (first | apply Kd.R_alloc | apply Kd.R_drewN | apply Kd.R_drew)); exact Kd.R_mono HO384.out (fun _ hk => ⟨hk.1.1.1.1.1.2, ⟨hk.1.1.1.1.2, hk.1.1.1.2⟩⟩)⟩, ⟨by (with_reducible repeat (first | apply Kd.R_alloc | apply Kd.R_drewN | apply Kd.R_drew)); exact Kd.R_mono HO388.out (fun _ hk => ⟨hk.1.1.1.1.1.2, ⟨hk.1.1.1.1.2, hk.1.1.1.2⟩⟩)⟩, ⟨by repeat (first | (with_reducible first | exact HB.out | apply below_alloc | apply pw_below_drewN | apply below_drew1) | exact HB.out)⟩⟩
      · rw [if_neg c30] at H
        have c30b0 : (t386 == 0) = false := beq_eq_false_iff_ne.mpr c30
        have c30b1 : (t386 != 0) = true := bne_iff_ne.mpr c30
        (first | rw [c30b0] | (simp only [i64_w, i32_w]; rw [c30b0]) | skip)
        have H' := Aside0.mk H
        clear H
        go_wp2
        go_meet
        case rel => exact ⟨_, (true), (by first | rfl | (simp; done) | (simp [*]; done)), H', ⟨by first | omega | exact Nat.le_refl _⟩, ⟨by (with_reducible repeat (first | apply Kd.R_alloc | apply Kd.R_drewN | apply Kd.R_drew)); exact Kd.R_mono HO376.out (fun _ hk => ⟨hk.1.1.1.1.1.2, ⟨hk.1.1.1.1.2, hk.1.1.1.2⟩⟩)⟩, ⟨by (with_reducible repeat (first | apply Kd.R_alloc | apply Kd.R_drewN | apply Kd.R_drew)); exact Kd.R_mono HO380.out (fun _ hk => ⟨hk.1.1.1.1.1.2, ⟨hk.1.1.1.1.2, hk.1.1.1.2⟩⟩)⟩, ⟨by (with_reducible repeat (first | apply Kd.R_alloc | apply Kd.R_drewN | apply Kd.R_drew)); exact Kd.R_mono HO384.out (fun _ hk => ⟨hk.1.1.1.1.1.2, ⟨hk.1.1.1.1.2, hk.1.1.1.2⟩⟩)⟩, ⟨by (with_reducible repeat (first | apply Kd.R_alloc | apply Kd.R_drewN | apply Kd.R_drew)); exact Kd.R_mono HO388.out (fun _ hk => ⟨hk.1.1.1.1.1.2, ⟨hk.1.1.1.1.2, hk.1.1.1.2⟩⟩)⟩, ⟨by repeat (first | (with_reducible first | exact HB.out | apply below_alloc | apply pw_below_drewN | apply below_drew1) | exact HB.out)⟩⟩
    case rest =>
      clear HC17
      try clear c1
      try clear c2
      try clear p2
      try clear c3
      try clear p6
      try clear c7
      try clear c9
      try clear c11
      try clear c14
      try clear c15
      try clear c19
      try clear c30
      try clear c30b0
      try clear c30b1
      try clear c31
      try clear c31b0
      try clear c31b1
      try clear c32
      try clear c32b0
      try clear c32b1
      try clear c34
      try clear c36
      obtain ⟨kq, x88_16, rfl, HA, HJ16, HO_11, HO_12, HO_13, HO_14, HB⟩ := hcut
      cases kq with
      | zero => exact absurd HA.out (by simp [anticlinelaw8_NttOrder.j0])
      | succ kj16 =>
        have H := HA.out
        clear HA
        simp only [anticlinelaw8_NttOrder.j0] at H
        by_cases c45 : x88_16 = true
        · subst c45
          have H1 : (none) = some r := by rw [if_pos rfl] at H; exact H
          clear H
          have H := H1
          clear H1
          exact absurd H (by simp)
        · replace c45 := Bool.eq_false_iff.mpr c45
          subst c45
          have H1 : ((ntt_Conv.f kj16 t385 t382).bind fun bt402 => ((anticlineref8_Conv.f kj16 t378 t382).bind fun bt406 => ((ntt_Conv.f kj16 t374 bt406.1).bind fun bt410 => (if bt402.2 = 0 then (if bt410.2 = 0 then ((anticlineref8_Same.f kj16 bt402.1 bt410.1).bind fun t414 => (if t414 = true then (if 0 ≤ (wrap64 ((t385.length : Int) - 1)) then (if (wrap64 ((t385.length : Int) - 1)) < (t385.length : Int) then (if 0 ≤ (wrap64 ((t374.length : Int) - 1)) then (if (wrap64 ((t374.length : Int) - 1)) < (t374.length : Int) then (if 0 ≤ (wrap64 ((t378.length : Int) - 1)) then (if (wrap64 ((t378.length : Int) - 1)) < (t378.length : Int) then (some ((IntKind.u64.wrap (rd t385 (wrap64 ((t385.length : Int) - 1)))) == (Int.tmod (IntKind.u64.wrap ((IntKind.u64.wrap (rd t374 (wrap64 ((t374.length : Int) - 1)))) * (IntKind.u64.wrap (rd t378 (wrap64 ((t378.length : Int) - 1)))))) 998244353))) else (none)) else (none)) else (none)) else (none)) else (none)) else (none)) else (none))) else (none)) else (none))))) = some r := by rw [if_neg (show ¬ (false = true) by decide)] at H; exact H
          clear H
          have H := H1
          clear H1
          replace H := Option.bind_eq_some_iff.mp H
          obtain ⟨⟨t402, t403⟩, A460, H⟩ := H
          replace H : ((anticlineref8_Conv.f kj16 t378 t382).bind fun bt406 => ((ntt_Conv.f kj16 t374 bt406.1).bind fun bt410 => (if t403 = 0 then (if bt410.2 = 0 then ((anticlineref8_Same.f kj16 t402 bt410.1).bind fun t414 => (if t414 = true then (if 0 ≤ (wrap64 ((t385.length : Int) - 1)) then (if (wrap64 ((t385.length : Int) - 1)) < (t385.length : Int) then (if 0 ≤ (wrap64 ((t374.length : Int) - 1)) then (if (wrap64 ((t374.length : Int) - 1)) < (t374.length : Int) then (if 0 ≤ (wrap64 ((t378.length : Int) - 1)) then (if (wrap64 ((t378.length : Int) - 1)) < (t378.length : Int) then (some ((IntKind.u64.wrap (rd t385 (wrap64 ((t385.length : Int) - 1)))) == (Int.tmod (IntKind.u64.wrap ((IntKind.u64.wrap (rd t374 (wrap64 ((t374.length : Int) - 1)))) * (IntKind.u64.wrap (rd t378 (wrap64 ((t378.length : Int) - 1)))))) 998244353))) else (none)) else (none)) else (none)) else (none)) else (none)) else (none)) else (none))) else (none)) else (none)))) = some r := H
          have A46 := Aside0.mk A460
          clear A460
          replace H := Option.bind_eq_some_iff.mp H
          obtain ⟨⟨t406, t407⟩, A470, H⟩ := H
          replace H : ((ntt_Conv.f kj16 t374 t406).bind fun bt410 => (if t403 = 0 then (if bt410.2 = 0 then ((anticlineref8_Same.f kj16 t402 bt410.1).bind fun t414 => (if t414 = true then (if 0 ≤ (wrap64 ((t385.length : Int) - 1)) then (if (wrap64 ((t385.length : Int) - 1)) < (t385.length : Int) then (if 0 ≤ (wrap64 ((t374.length : Int) - 1)) then (if (wrap64 ((t374.length : Int) - 1)) < (t374.length : Int) then (if 0 ≤ (wrap64 ((t378.length : Int) - 1)) then (if (wrap64 ((t378.length : Int) - 1)) < (t378.length : Int) then (some ((IntKind.u64.wrap (rd t385 (wrap64 ((t385.length : Int) - 1)))) == (Int.tmod (IntKind.u64.wrap ((IntKind.u64.wrap (rd t374 (wrap64 ((t374.length : Int) - 1)))) * (IntKind.u64.wrap (rd t378 (wrap64 ((t378.length : Int) - 1)))))) 998244353))) else (none)) else (none)) else (none)) else (none)) else (none)) else (none)) else (none))) else (none)) else (none))) = some r := H
          have A47 := Aside0.mk A470
          clear A470
          replace H := Option.bind_eq_some_iff.mp H
          obtain ⟨⟨t410, t411⟩, A480, H⟩ := H
          replace H : (if t403 = 0 then (if t411 = 0 then ((anticlineref8_Same.f kj16 t402 t410).bind fun t414 => (if t414 = true then (if 0 ≤ (wrap64 ((t385.length : Int) - 1)) then (if (wrap64 ((t385.length : Int) - 1)) < (t385.length : Int) then (if 0 ≤ (wrap64 ((t374.length : Int) - 1)) then (if (wrap64 ((t374.length : Int) - 1)) < (t374.length : Int) then (if 0 ≤ (wrap64 ((t378.length : Int) - 1)) then (if (wrap64 ((t378.length : Int) - 1)) < (t378.length : Int) then (some ((IntKind.u64.wrap (rd t385 (wrap64 ((t385.length : Int) - 1)))) == (Int.tmod (IntKind.u64.wrap ((IntKind.u64.wrap (rd t374 (wrap64 ((t374.length : Int) - 1)))) * (IntKind.u64.wrap (rd t378 (wrap64 ((t378.length : Int) - 1)))))) 998244353))) else (none)) else (none)) else (none)) else (none)) else (none)) else (none)) else (none))) else (none)) else (none)) = some r := H
          have A48 := Aside0.mk A480
          clear A480
          by_cases c49 : t403 = 0
          · rw [if_pos c49] at H
            have c49b0 : (t403 == 0) = true := beq_iff_eq.mpr c49
            have c49b1 : (t403 != 0) = false := bne_eq_false_iff_eq.mpr c49
            clear c49
            by_cases c50 : t411 = 0
            · rw [if_pos c50] at H
              have c50b0 : (t411 == 0) = true := beq_iff_eq.mpr c50
              have c50b1 : (t411 != 0) = false := bne_eq_false_iff_eq.mpr c50
              clear c50
              replace H := Option.bind_eq_some_iff.mp H
              obtain ⟨t414, A510, H⟩ := H
              replace H : (if t414 = true then (if 0 ≤ (wrap64 ((t385.length : Int) - 1)) then (if (wrap64 ((t385.length : Int) - 1)) < (t385.length : Int) then (if 0 ≤ (wrap64 ((t374.length : Int) - 1)) then (if (wrap64 ((t374.length : Int) - 1)) < (t374.length : Int) then (if 0 ≤ (wrap64 ((t378.length : Int) - 1)) then (if (wrap64 ((t378.length : Int) - 1)) < (t378.length : Int) then (some ((IntKind.u64.wrap (rd t385 (wrap64 ((t385.length : Int) - 1)))) == (Int.tmod (IntKind.u64.wrap ((IntKind.u64.wrap (rd t374 (wrap64 ((t374.length : Int) - 1)))) * (IntKind.u64.wrap (rd t378 (wrap64 ((t378.length : Int) - 1)))))) 998244353))) else (none)) else (none)) else (none)) else (none)) else (none)) else (none)) else (none)) = some r := H
              have A51 := Aside0.mk A510
              clear A510
              by_cases c52 : t414 = true
              · subst c52
                have H1 : (if 0 ≤ (wrap64 ((t385.length : Int) - 1)) then (if (wrap64 ((t385.length : Int) - 1)) < (t385.length : Int) then (if 0 ≤ (wrap64 ((t374.length : Int) - 1)) then (if (wrap64 ((t374.length : Int) - 1)) < (t374.length : Int) then (if 0 ≤ (wrap64 ((t378.length : Int) - 1)) then (if (wrap64 ((t378.length : Int) - 1)) < (t378.length : Int) then (some ((IntKind.u64.wrap (rd t385 (wrap64 ((t385.length : Int) - 1)))) == (Int.tmod (IntKind.u64.wrap ((IntKind.u64.wrap (rd t374 (wrap64 ((t374.length : Int) - 1)))) * (IntKind.u64.wrap (rd t378 (wrap64 ((t378.length : Int) - 1)))))) 998244353))) else (none)) else (none)) else (none)) else (none)) else (none)) else (none)) = some r := by rw [if_pos rfl] at H; exact H
                clear H
                have H := H1
                clear H1
                obtain ⟨ji53, hji53⟩ : ∃ j_ : Int, (wrap64 ((t385.length : Int) - 1)) = j_ := ⟨_, rfl⟩
                replace H : (if 0 ≤ (ji53) then (if (ji53) < (t385.length : Int) then (if 0 ≤ (wrap64 ((t374.length : Int) - 1)) then (if (wrap64 ((t374.length : Int) - 1)) < (t374.length : Int) then (if 0 ≤ (wrap64 ((t378.length : Int) - 1)) then (if (wrap64 ((t378.length : Int) - 1)) < (t378.length : Int) then (some ((IntKind.u64.wrap (rd t385 (ji53))) == (Int.tmod (IntKind.u64.wrap ((IntKind.u64.wrap (rd t374 (wrap64 ((t374.length : Int) - 1)))) * (IntKind.u64.wrap (rd t378 (wrap64 ((t378.length : Int) - 1)))))) 998244353))) else (none)) else (none)) else (none)) else (none)) else (none)) else (none)) = some r := by first | (rw [hji53] at H; exact H) | (simp only [hji53] at H ⊢; exact H)
                (try rw [hji53] at A46)
                (try rw [hji53] at A47)
                (try rw [hji53] at A48)
                (try rw [hji53] at A51)
                have hji53w : (IntKind.i64.wrap ((t385.length : Int) - 1)) = ji53 := (i64_w _).trans hji53
                by_cases c54 : 0 ≤ (ji53)
                · rw [if_pos c54] at H
                  have c54b0 : decide (0 ≤ (ji53)) = true := decide_eq_true c54
                  clear c54
                  by_cases c55 : (ji53) < (t385.length : Int)
                  · rw [if_pos c55] at H
                    have c55b0 : decide ((ji53) < (t385.length : Int)) = true := decide_eq_true c55
                    clear c55
                    obtain ⟨ji56, hji56⟩ : ∃ j_ : Int, (wrap64 ((t374.length : Int) - 1)) = j_ := ⟨_, rfl⟩
                    replace H : (if 0 ≤ (ji56) then (if (ji56) < (t374.length : Int) then (if 0 ≤ (wrap64 ((t378.length : Int) - 1)) then (if (wrap64 ((t378.length : Int) - 1)) < (t378.length : Int) then (some ((IntKind.u64.wrap (rd t385 (ji53))) == (Int.tmod (IntKind.u64.wrap ((IntKind.u64.wrap (rd t374 (ji56))) * (IntKind.u64.wrap (rd t378 (wrap64 ((t378.length : Int) - 1)))))) 998244353))) else (none)) else (none)) else (none)) else (none)) = some r := by first | (rw [hji56] at H; exact H) | (simp only [hji56] at H ⊢; exact H)
                    (try rw [hji56] at A46)
                    (try rw [hji56] at A47)
                    (try rw [hji56] at A48)
                    (try rw [hji56] at A51)
                    have hji56w : (IntKind.i64.wrap ((t374.length : Int) - 1)) = ji56 := (i64_w _).trans hji56
                    by_cases c57 : 0 ≤ (ji56)
                    · rw [if_pos c57] at H
                      have c57b0 : decide (0 ≤ (ji56)) = true := decide_eq_true c57
                      clear c57
                      by_cases c58 : (ji56) < (t374.length : Int)
                      · rw [if_pos c58] at H
                        have c58b0 : decide ((ji56) < (t374.length : Int)) = true := decide_eq_true c58
                        clear c58
                        obtain ⟨ji59, hji59⟩ : ∃ j_ : Int, (wrap64 ((t378.length : Int) - 1)) = j_ := ⟨_, rfl⟩
                        replace H : (if 0 ≤ (ji59) then (if (ji59) < (t378.length : Int) then (some ((IntKind.u64.wrap (rd t385 (ji53))) == (Int.tmod (IntKind.u64.wrap ((IntKind.u64.wrap (rd t374 (ji56))) * (IntKind.u64.wrap (rd t378 (ji59))))) 998244353))) else (none)) else (none)) = some r := by first | (rw [hji59] at H; exact H) | (simp only [hji59] at H ⊢; exact H)
                        (try rw [hji59] at A46)
                        (try rw [hji59] at A47)
                        (try rw [hji59] at A48)
                        (try rw [hji59] at A51)
                        have hji59w : (IntKind.i64.wrap ((t378.length : Int) - 1)) = ji59 := (i64_w _).trans hji59
                        by_cases c60 : 0 ≤ (ji59)
                        · rw [if_pos c60] at H
                          have c60b0 : decide (0 ≤ (ji59)) = true := decide_eq_true c60
                          clear c60
                          by_cases c61 : (ji59) < (t378.length : Int)
                          · rw [if_pos c61] at H
                            have c61b0 : decide ((ji59) < (t378.length : Int)) = true := decide_eq_true c61
                            clear c61
                            obtain rfl := Option.some.inj H
                            obtain ⟨Ao62, co62, eo62⟩ := Kd.R_slice HO_14.out
                            subst eo62
                            obtain ⟨Ao63, co63, eo63⟩ := Kd.R_slice HO_13.out
                            subst eo63
                            try go_wp2_with (first | ((with_reducible refine gate_callee (f := 19) rfl ?_); refine goesL_ (some 92) rfl rfl Try.func19 (by kernel_rfl) rfl #[.slice Ao62 t385.length co62, .slice Ao63 t382.length co63] rfl (by (try simp only [List.map_toArray, List.map_cons, List.map_nil]); first | done | rfl | (simp only [List.length_drop, List.length_take]; rfl)) ?_; (with_reducible refine (ntt_Conv.calls kj16 _ _ t385 _ _ t382 t402 t403 _ ?side1 ?side2 ?side3 ?side4 A46.out).mono ?_); (case side1 => repeat (first | exact (Kd.R_reads' HO_14.out).2.2 | (with_reducible refine Kd.C_alloc ?_ _) | (with_reducible refine Kd.C_drewN ?_ _) | (with_reducible refine Kd.C_drew ?_))); (case side2 => exact (Kd.R_reads' HO_14.out).2.1); (case side3 => repeat (first | exact (Kd.R_reads' HO_13.out).2.2 | (with_reducible refine Kd.C_alloc ?_ _) | (with_reducible refine Kd.C_drewN ?_ _) | (with_reducible refine Kd.C_drew ?_))); (case side4 => exact (Kd.R_reads' HO_13.out).2.1); rintro e w64 ⟨v404, rfl, ho0, hb⟩; refine ⟨_, rfl, ?_⟩; have n0_ := Aside0.mk (Kd.R_elder' (by (with_reducible repeat (first | apply Kd.R_alloc | apply Kd.R_drewN | apply Kd.R_drew)); exact HO_11.out) (Kd.R_base ho0) hb); have n1_ := Aside0.mk (Kd.R_elder' (by (with_reducible repeat (first | apply Kd.R_alloc | apply Kd.R_drewN | apply Kd.R_drew)); exact HO_12.out) (Kd.R_base ho0) hb); have n2_ := Aside0.mk (Kd.R_elder' (by (with_reducible repeat (first | apply Kd.R_alloc | apply Kd.R_drewN | apply Kd.R_drew)); exact HO_13.out) (Kd.R_base ho0) hb); have n3_ := Aside0.mk (Kd.R_elder' (by (with_reducible repeat (first | apply Kd.R_alloc | apply Kd.R_drewN | apply Kd.R_drew)); exact HO_14.out) (Kd.R_base ho0) hb); have n4_ := Aside0.mk (Kd.R_lower (Kd.R_new' (Kd.R_new' (Kd.R_new' (Kd.R_new' ho0 (Kd.R_lt (by (with_reducible repeat (first | apply Kd.R_alloc | apply Kd.R_drewN | apply Kd.R_drew)); exact HO_11.out))) (Kd.R_lt (by (with_reducible repeat (first | apply Kd.R_alloc | apply Kd.R_drewN | apply Kd.R_drew)); exact HO_12.out))) (Kd.R_lt (by (with_reducible repeat (first | apply Kd.R_alloc | apply Kd.R_drewN | apply Kd.R_drew)); exact HO_13.out))) (Kd.R_lt (by (with_reducible repeat (first | apply Kd.R_alloc | apply Kd.R_drewN | apply Kd.R_drew)); exact HO_14.out))) (below_size (by repeat (first | (with_reducible first | exact HB.out | apply below_alloc | apply pw_below_drewN | apply below_drew1) | exact HB.out)))); have n5_ := Aside0.mk (below_step (by repeat (first | (with_reducible first | exact HB.out | apply below_alloc | apply pw_below_drewN | apply below_drew1) | exact HB.out)) hb); clear HO_11; clear HO_12; clear HO_13; clear HO_14; clear HB; have HO_11 := n0_; have HO_12 := n1_; have HO_13 := n2_; have HO_14 := n3_; have HO405 := n4_; have HB := n5_; clear n0_ n1_ n2_ n3_ n4_ n5_; (try clear hb); (try clear hb2); (try clear hk); (try clear hi); (try clear ho0)) | ((with_reducible refine gate_callee (f := 20) rfl ?_); refine goesL_ (some 98) rfl rfl Try.func20 (by kernel_rfl) rfl #[.slice Ao23 t378.length co23, .slice Ao63 t382.length co63] rfl (by (try simp only [List.map_toArray, List.map_cons, List.map_nil]); first | done | rfl | (simp only [List.length_drop, List.length_take]; rfl)) ?_; (with_reducible refine (anticlineref8_Conv.calls kj16 _ _ t378 _ _ t382 t406 t407 _ ?side1 ?side2 ?side3 ?side4 A47.out).mono ?_); (case side1 => repeat (first | exact (Kd.R_reads' HO_12.out).2.2 | (with_reducible refine Kd.C_alloc ?_ _) | (with_reducible refine Kd.C_drewN ?_ _) | (with_reducible refine Kd.C_drew ?_))); (case side2 => exact (Kd.R_reads' HO_12.out).2.1); (case side3 => repeat (first | exact (Kd.R_reads' HO_13.out).2.2 | (with_reducible refine Kd.C_alloc ?_ _) | (with_reducible refine Kd.C_drewN ?_ _) | (with_reducible refine Kd.C_drew ?_))); (case side4 => exact (Kd.R_reads' HO_13.out).2.1); rintro e w65 ⟨v408, rfl, ho0, hb⟩; refine ⟨_, rfl, ?_⟩; have n0_ := Aside0.mk (Kd.R_elder' (by (with_reducible repeat (first | apply Kd.R_alloc | apply Kd.R_drewN | apply Kd.R_drew)); exact HO_11.out) (Kd.R_base ho0) hb); have n1_ := Aside0.mk (Kd.R_elder' (by (with_reducible repeat (first | apply Kd.R_alloc | apply Kd.R_drewN | apply Kd.R_drew)); exact HO_12.out) (Kd.R_base ho0) hb); have n2_ := Aside0.mk (Kd.R_elder' (by (with_reducible repeat (first | apply Kd.R_alloc | apply Kd.R_drewN | apply Kd.R_drew)); exact HO_13.out) (Kd.R_base ho0) hb); have n3_ := Aside0.mk (Kd.R_elder' (by (with_reducible repeat (first | apply Kd.R_alloc | apply Kd.R_drewN | apply Kd.R_drew)); exact HO_14.out) (Kd.R_base ho0) hb); have n4_ := Aside0.mk (Kd.R_elder' (by (with_reducible repeat (first | apply Kd.R_alloc | apply Kd.R_drewN | apply Kd.R_drew)); exact HO405.out) (Kd.R_base ho0) hb); have n5_ := Aside0.mk (Kd.R_lower (Kd.R_new' (Kd.R_new' (Kd.R_new' (Kd.R_new' (Kd.R_new' ho0 (Kd.R_lt (by (with_reducible repeat (first | apply Kd.R_alloc | apply Kd.R_drewN | apply Kd.R_drew)); exact HO_11.out))) (Kd.R_lt (by (with_reducible repeat (first | apply Kd.R_alloc | apply Kd.R_drewN | apply Kd.R_drew)); exact HO_12.out))) (Kd.R_lt (by (with_reducible repeat (first | apply Kd.R_alloc | apply Kd.R_drewN | apply Kd.R_drew)); exact HO_13.out))) (Kd.R_lt (by (with_reducible repeat (first | apply Kd.R_alloc | apply Kd.R_drewN | apply Kd.R_drew)); exact HO_14.out))) (Kd.R_lt (by (with_reducible repeat (first | apply Kd.R_alloc | apply Kd.R_drewN | apply Kd.R_drew)); exact HO405.out))) (below_size (by repeat (first | (with_reducible first | exact HB.out | apply below_alloc | apply pw_below_drewN | apply below_drew1) | exact HB.out)))); have n6_ := Aside0.mk (below_step (by repeat (first | (with_reducible first | exact HB.out | apply below_alloc | apply pw_below_drewN | apply below_drew1) | exact HB.out)) hb); clear HO_11; clear HO_12; clear HO_13; clear HO_14; clear HO405; clear HB; have HO_11 := n0_; have HO_12 := n1_; have HO_13 := n2_; have HO_14 := n3_; have HO405 := n4_; have HO409 := n5_; have HB := n6_; clear n0_ n1_ n2_ n3_ n4_ n5_ n6_; (try clear hb); (try clear hb2); (try clear hk); (try clear hi); (try clear ho0); obtain ⟨Ao66, co66, eo66⟩ := Kd.R_slice HO409.out; subst eo66) | ((with_reducible refine gate_callee (f := 19) rfl ?_); refine goesL_ (some 104) rfl rfl Try.func19 (by kernel_rfl) rfl #[.slice Ao22 t374.length co22, .slice Ao66 t406.length co66] rfl (by (try simp only [List.map_toArray, List.map_cons, List.map_nil]); first | done | rfl | (simp only [List.length_drop, List.length_take]; rfl)) ?_; (with_reducible refine (ntt_Conv.calls kj16 _ _ t374 _ _ t406 t410 t411 _ ?side1 ?side2 ?side3 ?side4 A48.out).mono ?_); (case side1 => repeat (first | exact (Kd.R_reads' HO_11.out).2.2 | (with_reducible refine Kd.C_alloc ?_ _) | (with_reducible refine Kd.C_drewN ?_ _) | (with_reducible refine Kd.C_drew ?_))); (case side2 => exact (Kd.R_reads' HO_11.out).2.1); (case side3 => repeat (first | exact (Kd.R_reads' HO409.out).2.2 | (with_reducible refine Kd.C_alloc ?_ _) | (with_reducible refine Kd.C_drewN ?_ _) | (with_reducible refine Kd.C_drew ?_))); (case side4 => exact (Kd.R_reads' HO409.out).2.1); rintro e w67 ⟨v412, rfl, ho0, hb⟩; refine ⟨_, rfl, ?_⟩; have n0_ := Aside0.mk (Kd.R_elder' (by (with_reducible repeat (first | apply Kd.R_alloc | apply Kd.R_drewN | apply Kd.R_drew)); exact HO_11.out) (Kd.R_base ho0) hb); have n1_ := Aside0.mk (Kd.R_elder' (by (with_reducible repeat (first | apply Kd.R_alloc | apply Kd.R_drewN | apply Kd.R_drew)); exact HO_12.out) (Kd.R_base ho0) hb); have n2_ := Aside0.mk (Kd.R_elder' (by (with_reducible repeat (first | apply Kd.R_alloc | apply Kd.R_drewN | apply Kd.R_drew)); exact HO_13.out) (Kd.R_base ho0) hb); have n3_ := Aside0.mk (Kd.R_elder' (by (with_reducible repeat (first | apply Kd.R_alloc | apply Kd.R_drewN | apply Kd.R_drew)); exact HO_14.out) (Kd.R_base ho0) hb); have n4_ := Aside0.mk (Kd.R_elder' (by (with_reducible repeat (first | apply Kd.R_alloc | apply Kd.R_drewN | apply Kd.R_drew)); exact HO405.out) (Kd.R_base ho0) hb); have n5_ := Aside0.mk (Kd.R_elder' (by (with_reducible repeat (first | apply Kd.R_alloc | apply Kd.R_drewN | apply Kd.R_drew)); exact HO409.out) (Kd.R_base ho0) hb); have n6_ := Aside0.mk (Kd.R_lower (Kd.R_new' (Kd.R_new' (Kd.R_new' (Kd.R_new' (Kd.R_new' (Kd.R_new' ho0 (Kd.R_lt (by (with_reducible repeat (first | apply Kd.R_alloc | apply Kd.R_drewN | apply Kd.R_drew)); exact HO_11.out))) (Kd.R_lt (by (with_reducible repeat (first | apply Kd.R_alloc | apply Kd.R_drewN | apply Kd.R_drew)); exact HO_12.out))) (Kd.R_lt (by (with_reducible repeat (first | apply Kd.R_alloc | apply Kd.R_drewN | apply Kd.R_drew)); exact HO_13.out))) (Kd.R_lt (by (with_reducible repeat (first | apply Kd.R_alloc | apply Kd.R_drewN | apply Kd.R_drew)); exact HO_14.out))) (Kd.R_lt (by (with_reducible repeat (first | apply Kd.R_alloc | apply Kd.R_drewN | apply Kd.R_drew)); exact HO405.out))) (Kd.R_lt (by (with_reducible repeat (first | apply Kd.R_alloc | apply Kd.R_drewN | apply Kd.R_drew)); exact HO409.out))) (below_size (by repeat (first | (with_reducible first | exact HB.out | apply below_alloc | apply pw_below_drewN | apply below_drew1) | exact HB.out)))); have n7_ := Aside0.mk (below_step (by repeat (first | (with_reducible first | exact HB.out | apply below_alloc | apply pw_below_drewN | apply below_drew1) | exact HB.out)) hb); clear HO_11; clear HO_12; clear HO_13; clear HO_14; clear HO405; clear HO409; clear HB; have HO_11 := n0_; have HO_12 := n1_; have HO_13 := n2_; have HO_14 := n3_; have HO405 := n4_; have HO409 := n5_; have HO413 := n6_; have HB := n7_; clear n0_ n1_ n2_ n3_ n4_ n5_ n6_ n7_; (try clear hb); (try clear hb2); (try clear hk); (try clear hi); (try clear ho0)))
                            have n0_ := Aside0.mk (Kd.R_drew HO_11.out)
                            have n1_ := Aside0.mk (Kd.R_drew HO_12.out)
                            have n2_ := Aside0.mk (Kd.R_drew HO_13.out)
                            have n3_ := Aside0.mk (Kd.R_drew HO_14.out)
                            have n4_ := Aside0.mk (Kd.R_drew HO405.out)
                            have n5_ := Aside0.mk (Kd.R_drew HO409.out)
                            have n6_ := Aside0.mk (Kd.R_drew HO413.out)
                            have n7_ := Aside0.mk (below_drew1 HB.out)
                            clear HO_11
                            clear HO_12
                            clear HO_13
                            clear HO_14
                            clear HO405
                            clear HO409
                            clear HO413
                            clear HB
                            have HO_11 := n0_
                            have HO_12 := n1_
                            have HO_13 := n2_
                            have HO_14 := n3_
                            have HO405 := n4_
                            have HO409 := n5_
                            have HO413 := n6_
                            have HB := n7_
                            clear n0_ n1_ n2_ n3_ n4_ n5_ n6_ n7_
                            obtain ⟨Ao69, co69, eo69⟩ := Kd.R_slice HO405.out
                            (first | subst eo69 | (injection eo69 with f1_ f2_ f3_; have f4_ := f1_.symm; have f5_ := f3_.symm; clear f1_ f2_ f3_; subst f4_; subst f5_))
                            obtain ⟨Ao70, co70, eo70⟩ := Kd.R_slice HO413.out
                            (first | subst eo70 | (injection eo70 with f1_ f2_ f3_; have f4_ := f1_.symm; have f5_ := f3_.symm; clear f1_ f2_ f3_; subst f4_; subst f5_))
                            have p415 : 0 ≤ ((ji53) : Int) := of_decide_eq_true (by first | (with_reducible assumption) | assumption)
                            have q415 : (ji53) < (t385.length : Int) := of_decide_eq_true (by first | (with_reducible assumption) | assumption)
                            obtain ⟨ad415, e415, hx415_0⟩ := Kd.at_int (Kd.R_reads' HO_14.out).2.2 (ji53) p415 q415
                            cases e415
                            replace p415 := eq_true p415
                            replace q415 := eq_true q415
                            have p416 : 0 ≤ ((ji56) : Int) := of_decide_eq_true (by first | (with_reducible assumption) | assumption)
                            have q416 : (ji56) < (t374.length : Int) := of_decide_eq_true (by first | (with_reducible assumption) | assumption)
                            obtain ⟨ad416, e416, hx416_0⟩ := Kd.at_int (Kd.R_reads' HO_11.out).2.2 (ji56) p416 q416
                            cases e416
                            replace p416 := eq_true p416
                            replace q416 := eq_true q416
                            have p417 : 0 ≤ ((ji59) : Int) := of_decide_eq_true (by first | (with_reducible assumption) | assumption)
                            have q417 : (ji59) < (t378.length : Int) := of_decide_eq_true (by first | (with_reducible assumption) | assumption)
                            obtain ⟨ad417, e417, hx417_0⟩ := Kd.at_int (Kd.R_reads' HO_12.out).2.2 (ji59) p417 q417
                            cases e417
                            replace p417 := eq_true p417
                            replace q417 := eq_true q417
                            refine start_ (n := 38) (S := fun w' => w'.cell? (ad415.add ((ji53)).toNat) = some (.int .u32 (rd t385 (ji53))) ∧ w'.cell? (ad416.add ((ji56)).toNat) = some (.int .u32 (rd t374 (ji56))) ∧ w'.cell? (ad417.add ((ji59)).toNat) = some (.int .u32 (rd t378 (ji59)))) (ds := []) #[false, false, false, false, false, false, false, false, false, false, false, false, false, false, false, false, false, false, false, false, false, false, false, false, false, false, false, false, false, false, false, false, false, false, false, false, false, false] (by kernel_rfl) rfl rfl ⟨hx415_0, hx416_0, hx417_0⟩ (fun hHeld => ?_); refine with_tabW anticlinelaw8_NttOrder.tab12 anticlinelaw8_NttOrder.bits12 (fun HT_ HW_ => ?_)
                            generalize w67.drew = w68 at HO_11 HO_12 HO_13 HO_14 HO405 HO409 HO413 HB hx415_0 hx416_0 hx417_0 hHeld ⊢
                            refine pure_ (i := 0) (N := some 107) (v := ?_) (a' := ?_) #[true, false, false, false, false, false, false, false, false, false, false, false, false, false, false, false, false, false, false, false, false, false, false, false, false, false, false, false, false, false, false, false, false, false, false, false, false, false] rfl rfl (any_of HT_.out (by kernel_rfl)) (fun _ _ _ h => h) (Or.inl ⟨by rfl, ?_⟩) ?_ ?_
                            rotate_left
                            · intro w'
                              go_simp
                              with_reducible rfl
                            rotate_left
                            · simp only [Act.put, List.setIfInBounds_toArray, List.set_cons_zero, List.set_cons_succ, i64_w, i32_w]
                              rfl
                            refine pure_ (i := 1) (N := some 108) (v := ?_) (a' := ?_) #[true, true, false, false, false, false, false, false, false, false, false, false, false, false, false, false, false, false, false, false, false, false, false, false, false, false, false, false, false, false, false, false, false, false, false, false, false, false] rfl rfl (any_of HT_.out (by kernel_rfl)) (fun _ _ _ h => h) (Or.inl ⟨by rfl, ?_⟩) ?_ ?_
                            rotate_left
                            · intro w'
                              go_simp
                              with_reducible rfl
                            rotate_left
                            · simp only [Act.put, List.setIfInBounds_toArray, List.set_cons_zero, List.set_cons_succ, i64_w, i32_w]
                              rfl
                            refine pure_ (i := 2) (N := some 109) (v := ?_) (a' := ?_) #[true, true, true, false, false, false, false, false, false, false, false, false, false, false, false, false, false, false, false, false, false, false, false, false, false, false, false, false, false, false, false, false, false, false, false, false, false, false] rfl rfl (any_of HT_.out (by kernel_rfl)) (fun _ _ _ h => h) (Or.inl ⟨by rfl, ?_⟩) ?_ ?_
                            rotate_left
                            · intro w'
                              go_simp
                              with_reducible rfl
                            rotate_left
                            · simp only [Act.put, List.setIfInBounds_toArray, List.set_cons_zero, List.set_cons_succ, i64_w, i32_w]
                              rfl
                            refine pure_ (i := 3) (N := some 110) (v := ?_) (a' := ?_) #[true, true, true, true, false, false, false, false, false, false, false, false, false, false, false, false, false, false, false, false, false, false, false, false, false, false, false, false, false, false, false, false, false, false, false, false, false, false] rfl rfl (any_of HT_.out (by kernel_rfl)) (fun _ _ _ h => h) (Or.inl ⟨by rfl, ?_⟩) ?_ ?_
                            rotate_left
                            · intro w'
                              go_simp
                              with_reducible rfl
                            rotate_left
                            · simp only [Act.put, List.setIfInBounds_toArray, List.set_cons_zero, List.set_cons_succ, i64_w, i32_w]
                              rfl
                            refine pure_ (i := 4) (N := some 111) (v := ?_) (a' := ?_) #[true, true, true, true, true, false, false, false, false, false, false, false, false, false, false, false, false, false, false, false, false, false, false, false, false, false, false, false, false, false, false, false, false, false, false, false, false, false] rfl rfl (any_of HT_.out (by kernel_rfl)) (fun _ _ _ h => h) (Or.inl ⟨by rfl, ?_⟩) ?_ ?_
                            rotate_left
                            · intro w'
                              go_simp
                              with_reducible rfl
                            rotate_left
                            · simp only [Act.put, List.setIfInBounds_toArray, List.set_cons_zero, List.set_cons_succ, i64_w, i32_w]
                              rfl
                            refine pure_ (i := 5) (N := some 112) (v := ?_) (a' := ?_) #[true, true, true, true, true, true, false, false, false, false, false, false, false, false, false, false, false, false, false, false, false, false, false, false, false, false, false, false, false, false, false, false, false, false, false, false, false, false] rfl rfl (any_of HT_.out (by kernel_rfl)) (fun _ _ _ h => h) (Or.inl ⟨by rfl, ?_⟩) ?_ ?_
                            rotate_left
                            · intro w'
                              go_simp
                              with_reducible rfl
                            rotate_left
                            · simp only [Act.put, List.setIfInBounds_toArray, List.set_cons_zero, List.set_cons_succ, i64_w, i32_w]
                              rfl
                            refine pure_ (i := 6) (N := some 113) (v := ?_) (a' := ?_) #[true, true, true, true, true, true, true, false, false, false, false, false, false, false, false, false, false, false, false, false, false, false, false, false, false, false, false, false, false, false, false, false, false, false, false, false, false, false] rfl rfl (any_of HT_.out (by kernel_rfl)) (fun _ _ _ h => h) (Or.inl ⟨by rfl, ?_⟩) ?_ ?_
                            rotate_left
                            · intro w'
                              go_simp
                              with_reducible rfl
                            rotate_left
                            · simp only [Act.put, List.setIfInBounds_toArray, List.set_cons_zero, List.set_cons_succ, i64_w, i32_w]
                              rfl
                            refine pure_ (i := 7) (N := some 114) (v := ?_) (a' := ?_) #[true, true, true, true, true, true, true, true, false, false, false, false, false, false, false, false, false, false, false, false, false, false, false, false, false, false, false, false, false, false, false, false, false, false, false, false, false, false] rfl rfl (any_of HT_.out (by kernel_rfl)) (fun _ _ _ h => h) (Or.inl ⟨by rfl, ?_⟩) ?_ ?_
                            rotate_left
                            · intro w'
                              go_simp
                              with_reducible rfl
                            rotate_left
                            · simp only [Act.put, List.setIfInBounds_toArray, List.set_cons_zero, List.set_cons_succ, i64_w, i32_w]
                              rfl
                            refine pure_ (i := 8) (N := some 115) (v := ?_) (a' := ?_) #[true, true, true, true, true, true, true, true, true, false, false, false, false, false, false, false, false, false, false, false, false, false, false, false, false, false, false, false, false, false, false, false, false, false, false, false, false, false] rfl rfl (any_of HT_.out (by kernel_rfl)) (fun _ _ _ h => h) (Or.inl ⟨by rfl, ?_⟩) ?_ ?_
                            rotate_left
                            · intro w'
                              go_simp
                              with_reducible rfl
                            rotate_left
                            · simp only [Act.put, List.setIfInBounds_toArray, List.set_cons_zero, List.set_cons_succ, i64_w, i32_w]
                              rfl
                            refine one_ (i := 9) (N := some 116) #[true, true, true, true, true, true, true, true, true, true, false, false, false, false, false, false, false, false, false, false, false, false, false, false, false, false, false, false, false, false, false, false, false, false, false, false, false, false] rfl rfl (one_of HT_.out (by kernel_rfl)) (by decide) (fun K hK => ?_)
                            refine goes_ Try.func18 (by kernel_rfl) rfl #[.slice Ao69 t402.length co69, .slice Ao70 t410.length co70] (by rfl) rfl rfl (by (try simp only [List.map_toArray, List.map_cons, List.map_nil]); first | done | rfl | (simp only [List.length_drop, List.length_take]; rfl)) ?_
                            with_reducible refine (anticlineref8_Same.calls kj16 _ _ t402 _ _ t410 true _ ?side1 ?side2 ?side3 ?side4 A51.out).mono ?_
                            (case side1 => repeat (first | exact (Kd.R_reads' HO405.out).2.2 | (with_reducible refine Kd.C_alloc ?_ _) | (with_reducible refine Kd.C_drewN ?_ _) | (with_reducible refine Kd.C_drew ?_)))
                            (case side2 => exact (Kd.R_reads' HO405.out).2.1)
                            (case side3 => repeat (first | exact (Kd.R_reads' HO413.out).2.2 | (with_reducible refine Kd.C_alloc ?_ _) | (with_reducible refine Kd.C_drewN ?_ _) | (with_reducible refine Kd.C_drew ?_)))
                            (case side4 => exact (Kd.R_reads' HO413.out).2.1)
                            rintro e w' ⟨rfl, ⟨nd, rfl⟩⟩
                            refine ⟨_, rfl, ?_⟩
                            refine hK.out _ _ ⟨hHeld.1, hHeld.2.1, hHeld.2.2⟩ (fun hHeld => ?_)
                            clear hK K
                            refine norm_ (a' := ?_) ?_ ?_
                            rotate_left
                            · show Act.put _ (some 116) _ = _
                              simp only [Act.put, List.setIfInBounds_toArray, List.set_cons_zero, List.set_cons_succ, i64_w, i32_w]
                              rfl
                            refine pure_ (i := 10) (N := some 117) (v := ?_) (a' := ?_) #[true, true, true, true, true, true, true, true, true, true, true, false, false, false, false, false, false, false, false, false, false, false, false, false, false, false, false, false, false, false, false, false, false, false, false, false, false, false] rfl rfl (any_of HT_.out (by kernel_rfl)) (fun _ _ _ h => h) (Or.inl ⟨by rfl, ?_⟩) ?_ ?_
                            rotate_left
                            · intro w'
                              go_simp
                              with_reducible rfl
                            rotate_left
                            · simp only [Act.put, List.setIfInBounds_toArray, List.set_cons_zero, List.set_cons_succ, i64_w, i32_w]
                              rfl
                            refine pure_ (i := 11) (N := some 118) (v := ?_) (a' := ?_) #[true, true, true, true, true, true, true, true, true, true, true, true, false, false, false, false, false, false, false, false, false, false, false, false, false, false, false, false, false, false, false, false, false, false, false, false, false, false] rfl rfl (any_of HT_.out (by kernel_rfl)) (fun _ _ _ h => h) (Or.inl ⟨by rfl, ?_⟩) ?_ ?_
                            rotate_left
                            · intro w'
                              go_simp
                              with_reducible rfl
                            rotate_left
                            · simp only [Act.put, List.setIfInBounds_toArray, List.set_cons_zero, List.set_cons_succ, i64_w, i32_w]
                              rfl
                            refine pure_ (i := 12) (N := some 119) (v := ?_) (a' := ?_) #[true, true, true, true, true, true, true, true, true, true, true, true, true, false, false, false, false, false, false, false, false, false, false, false, false, false, false, false, false, false, false, false, false, false, false, false, false, false] rfl rfl (any_of HT_.out (by kernel_rfl)) (fun _ _ _ h => h) (Or.inl ⟨by rfl, ?_⟩) ?_ ?_
                            rotate_left
                            · intro w'
                              go_simp
                              with_reducible rfl
                            rotate_left
                            · simp only [Act.put, List.setIfInBounds_toArray, List.set_cons_zero, List.set_cons_succ, i64_w, i32_w]
                              rfl
                            refine pure_ (i := 13) (N := some 120) (v := ?_) (a' := ?_) #[true, true, true, true, true, true, true, true, true, true, true, true, true, true, false, false, false, false, false, false, false, false, false, false, false, false, false, false, false, false, false, false, false, false, false, false, false, false] rfl rfl (any_of HT_.out (by kernel_rfl)) (fun _ _ _ h => h) (Or.inl ⟨by rfl, ?_⟩) ?_ ?_
                            rotate_left
                            · intro w'
                              go_simp
                              with_reducible rfl
                            rotate_left
                            · simp only [Act.put, List.setIfInBounds_toArray, List.set_cons_zero, List.set_cons_succ, i64_w, i32_w]
                              rfl
                            refine pure_ (i := 14) (N := some 121) (v := ?_) (a' := ?_) #[true, true, true, true, true, true, true, true, true, true, true, true, true, true, true, false, false, false, false, false, false, false, false, false, false, false, false, false, false, false, false, false, false, false, false, false, false, false] rfl rfl (any_of HT_.out (by kernel_rfl)) (fun _ _ _ h => h) (Or.inl ⟨by rfl, ?_⟩) ?_ ?_
                            rotate_left
                            · intro w'
                              go_simp
                              with_reducible rfl
                            rotate_left
                            · simp only [Act.put, List.setIfInBounds_toArray, List.set_cons_zero, List.set_cons_succ, i64_w, i32_w]
                              rfl
                            refine pure_ (i := 15) (N := some 122) (v := ?_) (a' := ?_) #[true, true, true, true, true, true, true, true, true, true, true, true, true, true, true, true, false, false, false, false, false, false, false, false, false, false, false, false, false, false, false, false, false, false, false, false, false, false] rfl rfl (any_of HT_.out (by kernel_rfl)) (fun _ _ _ h => h) (Or.inl ⟨by rfl, ?_⟩) ?_ ?_
                            rotate_left
                            · intro w'
                              go_simp
                              with_reducible rfl
                            rotate_left
                            · simp only [Act.put, List.setIfInBounds_toArray, List.set_cons_zero, List.set_cons_succ, i64_w, i32_w]
                              rfl
                            refine pure_ (i := 16) (N := some 123) (v := ?_) (a' := ?_) #[true, true, true, true, true, true, true, true, true, true, true, true, true, true, true, true, true, false, false, false, false, false, false, false, false, false, false, false, false, false, false, false, false, false, false, false, false, false] rfl rfl (any_of HT_.out (by kernel_rfl)) (fun _ _ _ h => h) (Or.inl ⟨by rfl, ?_⟩) ?_ ?_
                            rotate_left
                            · intro w'
                              go_simp
                              with_reducible rfl
                            rotate_left
                            · simp only [Act.put, List.setIfInBounds_toArray, List.set_cons_zero, List.set_cons_succ, i64_w, i32_w]
                              rfl
                            refine pure_ (i := 19) (N := some 126) (v := ?_) (a' := ?_) #[true, true, true, true, true, true, true, true, true, true, true, true, true, true, true, true, true, false, false, true, false, false, false, false, false, false, false, false, false, false, false, false, false, false, false, false, false, false] rfl rfl (any_of HT_.out (by kernel_rfl)) (fun _ _ _ h => h) (Or.inl ⟨by rfl, ?_⟩) ?_ ?_
                            rotate_left
                            · intro w'
                              go_simp
                              with_reducible rfl
                            rotate_left
                            · simp only [Act.put, List.setIfInBounds_toArray, List.set_cons_zero, List.set_cons_succ, i64_w, i32_w]
                              rfl
                            refine pure_ (i := 20) (N := some 127) (v := ?_) (a' := ?_) #[true, true, true, true, true, true, true, true, true, true, true, true, true, true, true, true, true, false, false, true, true, false, false, false, false, false, false, false, false, false, false, false, false, false, false, false, false, false] rfl rfl (any_of HT_.out (by kernel_rfl)) (fun _ _ _ h => h) (Or.inl ⟨by rfl, ?_⟩) ?_ ?_
                            rotate_left
                            · intro w'
                              go_simp
                              with_reducible rfl
                            rotate_left
                            · simp only [Act.put, List.setIfInBounds_toArray, List.set_cons_zero, List.set_cons_succ, i64_w, i32_w]
                              rfl
                            refine pure_ (i := 21) (N := some 128) (v := ?_) (a' := ?_) #[true, true, true, true, true, true, true, true, true, true, true, true, true, true, true, true, true, false, false, true, true, true, false, false, false, false, false, false, false, false, false, false, false, false, false, false, false, false] rfl rfl (any_of HT_.out (by kernel_rfl)) (fun _ _ _ h => h) (Or.inl ⟨by rfl, ?_⟩) ?_ ?_
                            rotate_left
                            · intro w'
                              go_simp
                              with_reducible rfl
                            rotate_left
                            · simp only [Act.put, List.setIfInBounds_toArray, List.set_cons_zero, List.set_cons_succ, i64_w, i32_w]
                              rfl
                            refine pure_ (i := 22) (N := some 129) (v := ?_) (a' := ?_) #[true, true, true, true, true, true, true, true, true, true, true, true, true, true, true, true, true, false, false, true, true, true, true, false, false, false, false, false, false, false, false, false, false, false, false, false, false, false] rfl rfl (any_of HT_.out (by kernel_rfl)) (fun _ _ _ h => h) (Or.inl ⟨by rfl, ?_⟩) ?_ ?_
                            rotate_left
                            · intro w'
                              go_simp
                              with_reducible rfl
                            rotate_left
                            · simp only [Act.put, List.setIfInBounds_toArray, List.set_cons_zero, List.set_cons_succ, i64_w, i32_w]
                              rfl
                            refine pure_ (i := 23) (N := some 130) (v := ?_) (a' := ?_) #[true, true, true, true, true, true, true, true, true, true, true, true, true, true, true, true, true, false, false, true, true, true, true, true, false, false, false, false, false, false, false, false, false, false, false, false, false, false] rfl rfl (any_of HT_.out (by kernel_rfl)) (fun _ _ _ h => h) (Or.inl ⟨by rfl, ?_⟩) ?_ ?_
                            rotate_left
                            · intro w'
                              go_simp
                              with_reducible rfl
                            rotate_left
                            · simp only [Act.put, List.setIfInBounds_toArray, List.set_cons_zero, List.set_cons_succ, i64_w, i32_w]
                              rfl
                            refine pure_ (i := 26) (N := some 133) (v := ?_) (a' := ?_) #[true, true, true, true, true, true, true, true, true, true, true, true, true, true, true, true, true, false, false, true, true, true, true, true, false, false, true, false, false, false, false, false, false, false, false, false, false, false] rfl rfl (any_of HT_.out (by kernel_rfl)) (fun _ _ _ h => h) (Or.inl ⟨by rfl, ?_⟩) ?_ ?_
                            rotate_left
                            · intro w'
                              go_simp
                              with_reducible rfl
                            rotate_left
                            · simp only [Act.put, List.setIfInBounds_toArray, List.set_cons_zero, List.set_cons_succ, i64_w, i32_w]
                              rfl
                            refine pure_ (i := 27) (N := some 134) (v := ?_) (a' := ?_) #[true, true, true, true, true, true, true, true, true, true, true, true, true, true, true, true, true, false, false, true, true, true, true, true, false, false, true, true, false, false, false, false, false, false, false, false, false, false] rfl rfl (any_of HT_.out (by kernel_rfl)) (fun _ _ _ h => h) (Or.inl ⟨by rfl, ?_⟩) ?_ ?_
                            rotate_left
                            · intro w'
                              go_simp
                              with_reducible rfl
                            rotate_left
                            · simp only [Act.put, List.setIfInBounds_toArray, List.set_cons_zero, List.set_cons_succ, i64_w, i32_w]
                              rfl
                            refine pure_ (i := 28) (N := some 135) (v := ?_) (a' := ?_) #[true, true, true, true, true, true, true, true, true, true, true, true, true, true, true, true, true, false, false, true, true, true, true, true, false, false, true, true, true, false, false, false, false, false, false, false, false, false] rfl rfl (any_of HT_.out (by kernel_rfl)) (fun _ _ _ h => h) (Or.inl ⟨by rfl, ?_⟩) ?_ ?_
                            rotate_left
                            · intro w'
                              go_simp
                              with_reducible rfl
                            rotate_left
                            · simp only [Act.put, List.setIfInBounds_toArray, List.set_cons_zero, List.set_cons_succ, i64_w, i32_w]
                              rfl
                            refine pure_ (i := 29) (N := some 136) (v := ?_) (a' := ?_) #[true, true, true, true, true, true, true, true, true, true, true, true, true, true, true, true, true, false, false, true, true, true, true, true, false, false, true, true, true, true, false, false, false, false, false, false, false, false] rfl rfl (any_of HT_.out (by kernel_rfl)) (fun _ _ _ h => h) (Or.inl ⟨by rfl, ?_⟩) ?_ ?_
                            rotate_left
                            · intro w'
                              go_simp
                              with_reducible rfl
                            rotate_left
                            · simp only [Act.put, List.setIfInBounds_toArray, List.set_cons_zero, List.set_cons_succ, i64_w, i32_w]
                              rfl
                            refine pure_ (i := 30) (N := some 137) (v := ?_) (a' := ?_) #[true, true, true, true, true, true, true, true, true, true, true, true, true, true, true, true, true, false, false, true, true, true, true, true, false, false, true, true, true, true, true, false, false, false, false, false, false, false] rfl rfl (any_of HT_.out (by kernel_rfl)) (fun _ _ _ h => h) (Or.inl ⟨by rfl, ?_⟩) ?_ ?_
                            rotate_left
                            · intro w'
                              go_simp
                              with_reducible rfl
                            rotate_left
                            · simp only [Act.put, List.setIfInBounds_toArray, List.set_cons_zero, List.set_cons_succ, i64_w, i32_w]
                              rfl
                            refine take_ (i := 17) (N := some 124) (v := ?_) (a' := ?_) #[true, true, true, true, true, true, true, true, true, true, true, true, true, true, true, true, true, true, false, true, true, true, true, true, false, false, true, true, true, true, true, false, false, false, false, false, false, false] rfl rfl (take_ofW HT_.out HW_.out (by kernel_rfl)) (fun _ _ _ h => h) (Or.inl ⟨by rfl, ?_⟩) hHeld ?_ ?_
                            rotate_left
                            · rintro w' ⟨s0, s1, s2⟩
                              go_simp
                              with_reducible rfl
                            rotate_left
                            · simp only [Act.put, List.setIfInBounds_toArray, List.set_cons_zero, List.set_cons_succ, i64_w, i32_w]
                              rfl
                            refine pure_ (i := 18) (N := some 125) (v := ?_) (a' := ?_) #[true, true, true, true, true, true, true, true, true, true, true, true, true, true, true, true, true, true, true, true, true, true, true, true, false, false, true, true, true, true, true, false, false, false, false, false, false, false] rfl rfl (any_of HT_.out (by kernel_rfl)) (fun _ _ _ h => h) (Or.inl ⟨by rfl, ?_⟩) ?_ ?_
                            rotate_left
                            · intro w'
                              go_simp
                              with_reducible rfl
                            rotate_left
                            · simp only [Act.put, List.setIfInBounds_toArray, List.set_cons_zero, List.set_cons_succ, i64_w, i32_w]
                              rfl
                            refine take_ (i := 24) (N := some 131) (v := ?_) (a' := ?_) #[true, true, true, true, true, true, true, true, true, true, true, true, true, true, true, true, true, true, true, true, true, true, true, true, true, false, true, true, true, true, true, false, false, false, false, false, false, false] rfl rfl (take_ofW HT_.out HW_.out (by kernel_rfl)) (fun _ _ _ h => h) (Or.inl ⟨by rfl, ?_⟩) hHeld ?_ ?_
                            rotate_left
                            · rintro w' ⟨s0, s1, s2⟩
                              go_simp
                              with_reducible rfl
                            rotate_left
                            · simp only [Act.put, List.setIfInBounds_toArray, List.set_cons_zero, List.set_cons_succ, i64_w, i32_w]
                              rfl
                            refine pure_ (i := 25) (N := some 132) (v := ?_) (a' := ?_) #[true, true, true, true, true, true, true, true, true, true, true, true, true, true, true, true, true, true, true, true, true, true, true, true, true, true, true, true, true, true, true, false, false, false, false, false, false, false] rfl rfl (any_of HT_.out (by kernel_rfl)) (fun _ _ _ h => h) (Or.inl ⟨by rfl, ?_⟩) ?_ ?_
                            rotate_left
                            · intro w'
                              go_simp
                              with_reducible rfl
                            rotate_left
                            · simp only [Act.put, List.setIfInBounds_toArray, List.set_cons_zero, List.set_cons_succ, i64_w, i32_w]
                              rfl
                            refine take_ (i := 31) (N := some 138) (v := ?_) (a' := ?_) #[true, true, true, true, true, true, true, true, true, true, true, true, true, true, true, true, true, true, true, true, true, true, true, true, true, true, true, true, true, true, true, true, false, false, false, false, false, false] rfl rfl (take_ofW HT_.out HW_.out (by kernel_rfl)) (fun _ _ _ h => h) (Or.inl ⟨by rfl, ?_⟩) hHeld ?_ ?_
                            rotate_left
                            · rintro w' ⟨s0, s1, s2⟩
                              go_simp
                              with_reducible rfl
                            rotate_left
                            · simp only [Act.put, List.setIfInBounds_toArray, List.set_cons_zero, List.set_cons_succ, i64_w, i32_w]
                              rfl
                            refine pure_ (i := 32) (N := some 139) (v := ?_) (a' := ?_) #[true, true, true, true, true, true, true, true, true, true, true, true, true, true, true, true, true, true, true, true, true, true, true, true, true, true, true, true, true, true, true, true, true, false, false, false, false, false] rfl rfl (any_of HT_.out (by kernel_rfl)) (fun _ _ _ h => h) (Or.inl ⟨by rfl, ?_⟩) ?_ ?_
                            rotate_left
                            · intro w'
                              go_simp
                              with_reducible rfl
                            rotate_left
                            · simp only [Act.put, List.setIfInBounds_toArray, List.set_cons_zero, List.set_cons_succ, i64_w, i32_w]
                              rfl
                            refine pure_ (i := 33) (N := some 140) (v := ?_) (a' := ?_) #[true, true, true, true, true, true, true, true, true, true, true, true, true, true, true, true, true, true, true, true, true, true, true, true, true, true, true, true, true, true, true, true, true, true, false, false, false, false] rfl rfl (any_of HT_.out (by kernel_rfl)) (fun _ _ _ h => h) (Or.inl ⟨by rfl, ?_⟩) ?_ ?_
                            rotate_left
                            · intro w'
                              go_simp
                              with_reducible rfl
                            rotate_left
                            · simp only [Act.put, List.setIfInBounds_toArray, List.set_cons_zero, List.set_cons_succ, i64_w, i32_w]
                              rfl
                            refine pure_ (i := 34) (N := some 141) (v := ?_) (a' := ?_) #[true, true, true, true, true, true, true, true, true, true, true, true, true, true, true, true, true, true, true, true, true, true, true, true, true, true, true, true, true, true, true, true, true, true, true, false, false, false] rfl rfl (any_of HT_.out (by kernel_rfl)) (fun _ _ _ h => h) (Or.inl ⟨by rfl, ?_⟩) ?_ ?_
                            rotate_left
                            · intro w'
                              go_simp
                              with_reducible rfl
                            rotate_left
                            · simp only [Act.put, List.setIfInBounds_toArray, List.set_cons_zero, List.set_cons_succ, i64_w, i32_w]
                              rfl
                            refine pure_ (i := 35) (N := some 142) (v := ?_) (a' := ?_) #[true, true, true, true, true, true, true, true, true, true, true, true, true, true, true, true, true, true, true, true, true, true, true, true, true, true, true, true, true, true, true, true, true, true, true, true, false, false] rfl rfl (any_of HT_.out (by kernel_rfl)) (fun _ _ _ h => h) (Or.inl ⟨by rfl, ?_⟩) ?_ ?_
                            rotate_left
                            · intro w'
                              go_simp
                              with_reducible rfl
                            rotate_left
                            · simp only [Act.put, List.setIfInBounds_toArray, List.set_cons_zero, List.set_cons_succ, i64_w, i32_w]
                              rfl
                            refine pure_ (i := 36) (N := some 143) (v := ?_) (a' := ?_) #[true, true, true, true, true, true, true, true, true, true, true, true, true, true, true, true, true, true, true, true, true, true, true, true, true, true, true, true, true, true, true, true, true, true, true, true, true, false] rfl rfl (any_of HT_.out (by kernel_rfl)) (fun _ _ _ h => h) (Or.inl ⟨by rfl, ?_⟩) ?_ ?_
                            rotate_left
                            · intro w'
                              go_simp
                              with_reducible rfl
                            rotate_left
                            · simp only [Act.put, List.setIfInBounds_toArray, List.set_cons_zero, List.set_cons_succ, i64_w, i32_w]
                              rfl
                            refine pure_ (i := 37) (N := some 10) (v := ?_) (a' := ?_) #[true, true, true, true, true, true, true, true, true, true, true, true, true, true, true, true, true, true, true, true, true, true, true, true, true, true, true, true, true, true, true, true, true, true, true, true, true, true] rfl rfl (any_of HT_.out (by kernel_rfl)) (fun _ _ _ h => h) (Or.inl ⟨by rfl, ?_⟩) ?_ ?_
                            rotate_left
                            · intro w'
                              go_simp
                              with_reducible rfl
                            rotate_left
                            · simp only [Act.put, List.setIfInBounds_toArray, List.set_cons_zero, List.set_cons_succ, i64_w, i32_w]
                              rfl
                            refine done_ (done_of HT_.out (by kernel_rfl)) ?_
                            try go_wp2
                            go_ret
                            exact ⟨by first | rfl | (simp [errW_none, errW_some] <;> rfl) | (simp only [← hji53, ← hji56, ← hji59]; first | rfl | (simp [errW_none, errW_some] <;> rfl)) | (simp [*, errW_none, errW_some] <;> rfl), by repeat (first | (with_reducible first | exact HB.out | apply below_alloc | apply pw_below_drewN | apply below_drew1) | exact HB.out)⟩
                          · rw [if_neg c61] at H
                            exact absurd H (by simp)
                        · rw [if_neg c60] at H
                          exact absurd H (by simp)
                      · rw [if_neg c58] at H
                        exact absurd H (by simp)
                    · rw [if_neg c57] at H
                      exact absurd H (by simp)
                  · rw [if_neg c55] at H
                    exact absurd H (by simp)
                · rw [if_neg c54] at H
                  exact absurd H (by simp)
              · replace c52 := Bool.eq_false_iff.mpr c52
                subst c52
                have H1 : (none) = some r := by rw [if_neg (show ¬ (false = true) by decide)] at H; exact H
                clear H
                have H := H1
                clear H1
                exact absurd H (by simp)
            · rw [if_neg c50] at H
              have c50b0 : (t411 == 0) = false := beq_eq_false_iff_ne.mpr c50
              have c50b1 : (t411 != 0) = true := bne_iff_ne.mpr c50
              exact absurd H (by simp)
          · rw [if_neg c49] at H
            have c49b0 : (t403 == 0) = false := beq_eq_false_iff_ne.mpr c49
            have c49b1 : (t403 != 0) = true := bne_iff_ne.mpr c49
            exact absurd H (by simp)
  · replace c7 := Bool.eq_false_iff.mpr c7
    subst c7
    have H1 : (none) = some r := by rw [if_neg (show ¬ (false = true) by decide)] at H; exact H
    clear H
    have H := H1
    clear H1
    exact absurd H (by simp)

/-- THE ONE PURE STATEMENT of anticlinelaw8_NttOrder: yours. -/
def anticlinelaw8_NttOrder.Pure : Prop := ∀ (l0 : List Int) (l1 : List Int) (l2 : List Int) (a3 : Int) (a4 : Int), l0.length ≤ maxLen → l0.length * 4 ≤ 140737488351232 → (∀ x ∈ l0, (Lit.int .u32 x).wf = true) → l1.length ≤ maxLen → l1.length * 4 ≤ 140737488351232 → (∀ x ∈ l1, (Lit.int .u32 x).wf = true) → l2.length ≤ maxLen → l2.length * 4 ≤ 140737488351232 → (∀ x ∈ l2, (Lit.int .u32 x).wf = true) → (Lit.int .i64 a3).wf = true → (Lit.int .i64 a4).wf = true → ∃ k, anticlinelaw8_NttOrder.f k l0 l1 l2 a3 a4 = some true
theorem anticlinelaw8_NttOrder.walk (P : anticlinelaw8_NttOrder.Pure) (a0 : Option Addr) (len0 cap0 : Nat) (z0 : List Int) (a1 : Option Addr) (len1 cap1 : Nat) (z1 : List Int) (a2 : Option Addr) (len2 cap2 : Nat) (z2 : List Int) (a3 : Int) (a4 : Int) (w : World) (w0 : (a0 = none ∧ len0 = 0 ∧ cap0 = 0 ∧ z0 = []) ∨ ∃ x, a0 = some x ∧ len0 ≤ cap0 ∧ cap0 ≤ maxLen ∧ z0.length = cap0 ∧ (∀ i, i < z0.length → w.cell? (x.add i) = some (.int .u32 (z0.getD i 0))) ∧ ∀ n ∈ z0, (Lit.int .u32 n).wf = true) (y0 : len0 * 4 ≤ 140737488351232) (w1 : (a1 = none ∧ len1 = 0 ∧ cap1 = 0 ∧ z1 = []) ∨ ∃ x, a1 = some x ∧ len1 ≤ cap1 ∧ cap1 ≤ maxLen ∧ z1.length = cap1 ∧ (∀ i, i < z1.length → w.cell? (x.add i) = some (.int .u32 (z1.getD i 0))) ∧ ∀ n ∈ z1, (Lit.int .u32 n).wf = true) (y1 : len1 * 4 ≤ 140737488351232) (w2 : (a2 = none ∧ len2 = 0 ∧ cap2 = 0 ∧ z2 = []) ∨ ∃ x, a2 = some x ∧ len2 ≤ cap2 ∧ cap2 ≤ maxLen ∧ z2.length = cap2 ∧ (∀ i, i < z2.length → w.cell? (x.add i) = some (.int .u32 (z2.getD i 0))) ∧ ∀ n ∈ z2, (Lit.int .u32 n).wf = true) (y2 : len2 * 4 ≤ 140737488351232) (w3 : (Lit.int .i64 a3).wf = true) (w4 : (Lit.int .i64 a4).wf = true) :
    Calls Try.prog 9 #[.slice a0 len0 cap0, .slice a1 len1 cap1, .slice a2 len2 cap2, .int .i64 a3, .int .i64 a4] w fun e w' => e = .returned (.bool true) ∧ Below w.heap.size w w' := by
  obtain ⟨l0, rfl, hr0, hm0, hw0, hc0⟩ := ReadsInt.ofRowC w0
  obtain ⟨l1, rfl, hr1, hm1, hw1, hc1⟩ := ReadsInt.ofRowC w1
  obtain ⟨l2, rfl, hr2, hm2, hw2, hc2⟩ := ReadsInt.ofRowC w2
  obtain ⟨k, h⟩ := P l0 l1 l2 a3 a4 hm0 y0 hw0 hm1 y1 hw1 hm2 y2 hw2 w3 w4
  refine (anticlinelaw8_NttOrder.calls k _ _ l0 _ _ l1 _ _ l2 a3 a4 true w (Kd.C_of_reads (d := (0 : Int)) (h1 := fun _ => rfl) hr0) hc0 (Kd.C_of_reads (d := (0 : Int)) (h1 := fun _ => rfl) hr1) hc1 (Kd.C_of_reads (d := (0 : Int)) (h1 := fun _ => rfl) hr2) hc2 h).mono ?_
  rintro e w' ⟨rfl, hd⟩
  exact ⟨rfl, hd⟩

end Go.Proofs.Ytbmmjnmfinjdeaa.F

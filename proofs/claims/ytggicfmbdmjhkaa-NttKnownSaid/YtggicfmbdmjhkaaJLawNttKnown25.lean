/- Joined texts, 25: F3. -/
import Derived.Test.YtggicfmbdmjhkaaJLawNttKnown22
import Derived.Test.YtggicfmbdmjhkaaJLawNttKnown23
import Derived.Test.YtggicfmbdmjhkaaJLawNttKnown24
set_option linter.unusedVariables false
set_option linter.unusedSimpArgs false
-- Written by pp.py, a program of this repository, out of the translation. Lean checks it.
namespace Go.Proofs.Ytggicfmbdmjhkaa.F
open Go.RowKit Go.Proofs.YtggicfmbdmjhkaaW.PrintWords Go.Proofs.YtggicfmbdmjhkaaW.PrintLast Go.Proofs.YtggicfmbdmjhkaaW.PrintMore
attribute [local go_sem] max2_int min2_int max_two min_two max_three min_three max_four min_four   -- for this text's walks alone
set_option linter.unusedVariables false
set_option linter.unusedSimpArgs false
/-! ### ntt_Conv: function 9 -/
mutual
def ntt_Conv.j0 : Nat → List Int → List Int → Bool → Option (List Int × Int)
  | 0, _, _, _ => none
  | k + 1, x0, x1, x15 => if x15 = true then (some (([] : List Int), 3)) else ((ntt_whole.f k x0).bind fun t138 => (if t138 = true then ((ntt_whole.f k x1).bind fun t139 => (if t139 = true then ((bits_Len.f k (IntKind.u64.wrap (wrap64 ((wrap64 ((wrap64 ((x0.length : Int) + (x1.length : Int))) - 1)) - 1)))).bind fun t140 => (if 0 ≤ t140 then ((slices_Clone_uint32_uint32.f x0).bind fun t141 => (if 0 ≤ (wrap64 ((shl .i64 1 t140) - (x0.length : Int))) then (if t141.length + (wrap64 ((shl .i64 1 t140) - (x0.length : Int)) : Int).toNat < 35184372088832 then ((ntt_Transform.f k (t141 ++ List.replicate (wrap64 ((shl .i64 1 t140) - (x0.length : Int)) : Int).toNat 0) false).bind fun bt147 => ((slices_Clone_uint32_uint32.f x1).bind fun t151 => (if 0 ≤ (wrap64 ((shl .i64 1 t140) - (x1.length : Int))) then (if t151.length + (wrap64 ((shl .i64 1 t140) - (x1.length : Int)) : Int).toNat < 35184372088832 then ((ntt_Transform.f k (t151 ++ List.replicate (wrap64 ((shl .i64 1 t140) - (x1.length : Int)) : Int).toNat 0) false).bind fun bt157 => (ntt_Conv.l0 k (wrap64 ((wrap64 ((x0.length : Int) + (x1.length : Int))) - 1)) bt147.1 bt157.1 (bt147.1.length : Int) 0)) else (none)) else (none)))) else (none)) else (none))) else (none))) else (some (([] : List Int), 1)))) else (some (([] : List Int), 1))))
def ntt_Conv.l0 : Nat → Int → List Int → List Int → Int → Int → Option (List Int × Int)
  | 0, _, _, _, _, _ => none
  | k + 1, x6, x8, x10, x75, x76 => if x76 < x75 then (if 0 ≤ x76 then (if x76 < (x8.length : Int) then (if x76 < (x10.length : Int) then ((ntt_field_times.f (rd x8 x76) (rd x10 x76)).bind fun t163 => (ntt_Conv.l0 k x6 (x8.set (x76 : Int).toNat t163) x10 x75 (wrap64 (x76 + 1)))) else (none)) else (none)) else (none)) else ((ntt_Transform.f k x8 true).bind fun bt165 => (if bt165.2 = 0 then (if 0 ≤ x6 then (if x6 ≤ (bt165.1.length : Int) then ((slices_Clone_uint32_uint32.f (bt165.1.take (x6 : Int).toNat)).bind fun t173 => (some (t173, 0))) else (none)) else (none)) else (some (([] : List Int), bt165.2))))
end
def ntt_Conv.f (k : Nat) (l0 : List Int) (l1 : List Int) : Option (List Int × Int) := if (l0.length : Int) = 0 then (ntt_Conv.j0 k l0 l1 true) else (if (l1.length : Int) = 0 then (ntt_Conv.j0 k l0 l1 true) else (ntt_Conv.j0 k l0 l1 (decide ((wrap64 ((l0.length : Int) + (l1.length : Int))) > 1025))))
theorem ntt_Conv.mono_l : ∀ k, (∀ y0 y1 y2, LeO (ntt_Conv.j0 k y0 y1 y2) (ntt_Conv.j0 (k + 1) y0 y1 y2)) ∧ (∀ y0 y1 y2 y3 y4, LeO (ntt_Conv.l0 k y0 y1 y2 y3 y4) (ntt_Conv.l0 (k + 1) y0 y1 y2 y3 y4))
  | 0 => ⟨fun _ _ _ r h => by simp [ntt_Conv.j0] at h, fun _ _ _ _ _ r h => by simp [ntt_Conv.l0] at h⟩
  | k + 1 => by
    obtain ⟨ih0, ih1⟩ := ntt_Conv.mono_l k
    refine ⟨?_, ?_⟩
    · intro y0 y1 y2
      unfold ntt_Conv.j0
      repeat' first
      | (with_reducible exact ih0 _ _ _)
      | (with_reducible exact ih1 _ _ _ _ _)
      | (with_reducible exact bits_Len.mono _ _)
      | (with_reducible exact ntt_Transform.mono _ _ _)
      | (with_reducible exact ntt_whole.mono _ _)
      | (with_reducible exact LeO.refl _)
      | (with_reducible exact LeO.none _)
      | (with_reducible refine LeO.ite ?_ ?_)
      | (with_reducible refine LeO.bind ?_ (fun _ => ?_))
      | exact ih0 _ _ _
      | exact ih1 _ _ _ _ _
      | exact bits_Len.mono _ _
      | exact ntt_Transform.mono _ _ _
      | exact ntt_whole.mono _ _
      | exact LeO.none _
      | refine LeO.ite ?_ ?_
      | refine LeO.bind ?_ (fun _ => ?_)
    · intro y0 y1 y2 y3 y4
      unfold ntt_Conv.l0
      repeat' first
      | (with_reducible exact ih0 _ _ _)
      | (with_reducible exact ih1 _ _ _ _ _)
      | (with_reducible exact bits_Len.mono _ _)
      | (with_reducible exact ntt_Transform.mono _ _ _)
      | (with_reducible exact ntt_whole.mono _ _)
      | (with_reducible exact LeO.refl _)
      | (with_reducible exact LeO.none _)
      | (with_reducible refine LeO.ite ?_ ?_)
      | (with_reducible refine LeO.bind ?_ (fun _ => ?_))
      | exact ih0 _ _ _
      | exact ih1 _ _ _ _ _
      | exact bits_Len.mono _ _
      | exact ntt_Transform.mono _ _ _
      | exact ntt_whole.mono _ _
      | exact LeO.none _
      | refine LeO.ite ?_ ?_
      | refine LeO.bind ?_ (fun _ => ?_)
theorem ntt_Conv.mono : ∀ a0 a1 k, LeO (ntt_Conv.f k a0 a1) (ntt_Conv.f (k + 1) a0 a1) := by
  intro a0 a1 k
  obtain ⟨ih0, ih1⟩ := ntt_Conv.mono_l k
  unfold ntt_Conv.f
  repeat' first
      | (with_reducible exact ih0 _ _ _)
      | (with_reducible exact ih1 _ _ _ _ _)
      | (with_reducible exact bits_Len.mono _ _)
      | (with_reducible exact ntt_Transform.mono _ _ _)
      | (with_reducible exact ntt_whole.mono _ _)
      | (with_reducible exact LeO.refl _)
      | (with_reducible exact LeO.none _)
      | (with_reducible refine LeO.ite ?_ ?_)
      | (with_reducible refine LeO.bind ?_ (fun _ => ?_))
      | exact ih0 _ _ _
      | exact ih1 _ _ _ _ _
      | exact bits_Len.mono _ _
      | exact ntt_Transform.mono _ _ _
      | exact ntt_whole.mono _ _
      | exact LeO.none _
      | refine LeO.ite ?_ ?_
      | refine LeO.bind ?_ (fun _ => ?_)
def ntt_Conv.T12 : Bool × List (List Nat × List Nat) := (true, [([], []), ([], []), ([], []), ([], []), ([2, 3], [2, 3]), ([4], [4]), ([], []), ([], []), ([6, 7], [6, 7]), ([8], [8]), ([5, 9], [5, 9]), ([0, 1, 0, 1, 2, 3, 4, 5, 6, 7, 8, 9, 10], [0, 1]), ([11, 10, 10, 0, 1, 2, 3, 4, 5, 6, 7, 8, 9, 10], [10, 11])])
def ntt_Conv.B12 : List Nat := [0, 0, 0, 0, 12, 28, 0, 0, 192, 448, 1020, 2047, 4095]
theorem ntt_Conv.tab12 : rtab .any (opsOf Try.f9 12) = ntt_Conv.T12 := by kernel_rfl
theorem ntt_Conv.bits12 : waitsOk ntt_Conv.T12.2 ntt_Conv.B12 = true := by kernel_rfl
set_option maxHeartbeats 8000000 in
set_option maxRecDepth 100000 in
theorem ntt_Conv.calls (k : Nat) (A0 : Option Addr) (c0 : Nat) (l0 : List Int) (A1 : Option Addr) (c1 : Nat) (l1 : List Int) (r1 : List Int) (r2 : Int) (w : World) (hr0 : Kd.C (Kd.int .u32) w A0 l0.length l0) (hc0 : l0.length ≤ c0) (hr1 : Kd.C (Kd.int .u32) w A1 l1.length l1) (hc1 : l1.length ≤ c1) (h : ntt_Conv.f k l0 l1 = some (r1, r2)) :
    Calls Try.prog 9 #[.slice A0 l0.length c0, .slice A1 l1.length c1] w fun e w' => ∃ v0_ : Value, e = .returned (.tuple #[v0_, .int .i64 r2]) ∧ Kd.R (Kd.int .u32) 36 w' w.heap.size (fun _ => True) v0_ r1 ∧ Below w.heap.size w w' := by
  have HR0 := Aside0.mk hr0
  have HC0 := Aside0.mk hc0
  clear hr0 hc0
  have HR1 := Aside0.mk hr1
  have HC1 := Aside0.mk hc1
  clear hr1 hc1
  have HB := Aside0.mk (Below.refl w.heap.size w)
  have H : (if (l0.length : Int) = 0 then (ntt_Conv.j0 k l0 l1 true) else (if (l1.length : Int) = 0 then (ntt_Conv.j0 k l0 l1 true) else (ntt_Conv.j0 k l0 l1 (decide ((wrap64 ((l0.length : Int) + (l1.length : Int))) > 1025))))) = some (r1, r2) := h
  clear h
  have HC3 := Aside0.mk H
  clear H
  go_enter Try.func9, Try.ntmps9
  go_upto_region 1 with (fail)
  go_cut [15] (fun v15 wc => ∃ (kq : Nat) (x15_2 : Bool), v15 = .bool x15_2 ∧ Aside0 (ntt_Conv.j0 kq l0 l1 x15_2 = some (r1, r2)) ∧ Aside0 (kq ≤ k) ∧ Aside0 (Below w.heap.size w wc))
  case first =>
    have H := HC3.out
    clear HC3
    by_cases c4 : (l0.length : Int) = 0
    · rw [if_pos c4] at H
      have c4b0 : ((l0.length : Int) == 0) = true := beq_iff_eq.mpr c4
      have c4b1 : ((l0.length : Int) != 0) = false := bne_eq_false_iff_eq.mpr c4
      clear c4
      (first | rw [c4b0] | (simp only [i64_w, i32_w]; rw [c4b0]) | skip)
      have H' := Aside0.mk H
      clear H
      go_wp2
      go_meet
      case rel => exact ⟨_, (true), (by first | rfl | (simp; done) | (simp [*]; done)), H', ⟨by first | omega | exact Nat.le_refl _⟩, ⟨by repeat (first | (with_reducible first | exact HB.out | apply below_alloc | apply pw_below_drewN | apply below_drew1) | exact HB.out)⟩⟩
    · rw [if_neg c4] at H
      have c4b0 : ((l0.length : Int) == 0) = false := beq_eq_false_iff_ne.mpr c4
      have c4b1 : ((l0.length : Int) != 0) = true := bne_iff_ne.mpr c4
      have c4b2 : ¬ (l0 = []) := fun h_ => c4 (by rw [h_]; rfl)
      (first | rw [c4b0] | (simp only [i64_w, i32_w]; rw [c4b0]) | skip)
      by_cases c5 : (l1.length : Int) = 0
      · rw [if_pos c5] at H
        have c5b0 : ((l1.length : Int) == 0) = true := beq_iff_eq.mpr c5
        have c5b1 : ((l1.length : Int) != 0) = false := bne_eq_false_iff_eq.mpr c5
        clear c5
        have H' := Aside0.mk H
        clear H
        go_wp2
        go_meet
        case rel => exact ⟨_, (true), (by first | rfl | (simp; done) | (simp [*]; done)), H', ⟨by first | omega | exact Nat.le_refl _⟩, ⟨by repeat (first | (with_reducible first | exact HB.out | apply below_alloc | apply pw_below_drewN | apply below_drew1) | exact HB.out)⟩⟩
      · rw [if_neg c5] at H
        have c5b0 : ((l1.length : Int) == 0) = false := beq_eq_false_iff_ne.mpr c5
        have c5b1 : ((l1.length : Int) != 0) = true := bne_iff_ne.mpr c5
        have c5b2 : ¬ (l1 = []) := fun h_ => c5 (by rw [h_]; rfl)
        have H' := Aside0.mk H
        clear H
        go_wp2
        go_meet
        case rel => exact ⟨_, (decide ((wrap64 ((l0.length : Int) + (l1.length : Int))) > 1025)), (by first | rfl | (simp; done) | (simp [*]; done)), H', ⟨by first | omega | exact Nat.le_refl _⟩, ⟨by repeat (first | (with_reducible first | exact HB.out | apply below_alloc | apply pw_below_drewN | apply below_drew1) | exact HB.out)⟩⟩
  case rest =>
    clear HC3
    try clear c1
    try clear p2
    try clear c4
    try clear c4b0
    try clear c4b1
    try clear c4b2
    try clear c5
    try clear c5b0
    try clear c5b1
    try clear c5b2
    obtain ⟨kq, x15_2, rfl, HA, HJ2, HB⟩ := hcut
    cases kq with
    | zero => exact absurd HA.out (by simp [ntt_Conv.j0])
    | succ kj2 =>
      have H := HA.out
      clear HA
      simp only [ntt_Conv.j0] at H
      by_cases c6 : x15_2 = true
      · subst c6
        have H1 : (some (([] : List Int), 3)) = some (r1, r2) := by rw [if_pos rfl] at H; exact H
        clear H
        have H := H1
        clear H1
        simp only [Option.some.injEq, Prod.mk.injEq] at H
        obtain ⟨rfl, rfl⟩ := H
        go_wp2
        go_ret2
        exact ⟨_, by first | rfl | (simp [errW_none, errW_some] <;> rfl) | (simp [*, errW_none, errW_some] <;> rfl), by first | exact Kd.R_nil _ _ _ _ _ | exact Kd.N_nil _ _ _ _ _ | exact Kd.V_nil _ _ _ _ _ | exact Kd.Q_nil _ _ _ _ _ | exact Kd.S_nil _ _ _ _ _, by repeat (first | (with_reducible first | exact HB.out | apply below_alloc | apply pw_below_drewN | apply below_drew1) | exact HB.out)⟩
      · replace c6 := Bool.eq_false_iff.mpr c6
        subst c6
        have H1 : ((ntt_whole.f kj2 l0).bind fun t138 => (if t138 = true then ((ntt_whole.f kj2 l1).bind fun t139 => (if t139 = true then ((bits_Len.f kj2 (IntKind.u64.wrap (wrap64 ((wrap64 ((wrap64 ((l0.length : Int) + (l1.length : Int))) - 1)) - 1)))).bind fun t140 => (if 0 ≤ t140 then ((slices_Clone_uint32_uint32.f l0).bind fun t141 => (if 0 ≤ (wrap64 ((shl .i64 1 t140) - (l0.length : Int))) then (if t141.length + (wrap64 ((shl .i64 1 t140) - (l0.length : Int)) : Int).toNat < 35184372088832 then ((ntt_Transform.f kj2 (t141 ++ List.replicate (wrap64 ((shl .i64 1 t140) - (l0.length : Int)) : Int).toNat 0) false).bind fun bt147 => ((slices_Clone_uint32_uint32.f l1).bind fun t151 => (if 0 ≤ (wrap64 ((shl .i64 1 t140) - (l1.length : Int))) then (if t151.length + (wrap64 ((shl .i64 1 t140) - (l1.length : Int)) : Int).toNat < 35184372088832 then ((ntt_Transform.f kj2 (t151 ++ List.replicate (wrap64 ((shl .i64 1 t140) - (l1.length : Int)) : Int).toNat 0) false).bind fun bt157 => (ntt_Conv.l0 kj2 (wrap64 ((wrap64 ((l0.length : Int) + (l1.length : Int))) - 1)) bt147.1 bt157.1 (bt147.1.length : Int) 0)) else (none)) else (none)))) else (none)) else (none))) else (none))) else (some (([] : List Int), 1)))) else (some (([] : List Int), 1)))) = some (r1, r2) := by rw [if_neg (show ¬ (false = true) by decide)] at H; exact H
        clear H
        have H := H1
        clear H1
        replace H := Option.bind_eq_some_iff.mp H
        obtain ⟨t138, A70, H⟩ := H
        replace H : (if t138 = true then ((ntt_whole.f kj2 l1).bind fun t139 => (if t139 = true then ((bits_Len.f kj2 (IntKind.u64.wrap (wrap64 ((wrap64 ((wrap64 ((l0.length : Int) + (l1.length : Int))) - 1)) - 1)))).bind fun t140 => (if 0 ≤ t140 then ((slices_Clone_uint32_uint32.f l0).bind fun t141 => (if 0 ≤ (wrap64 ((shl .i64 1 t140) - (l0.length : Int))) then (if t141.length + (wrap64 ((shl .i64 1 t140) - (l0.length : Int)) : Int).toNat < 35184372088832 then ((ntt_Transform.f kj2 (t141 ++ List.replicate (wrap64 ((shl .i64 1 t140) - (l0.length : Int)) : Int).toNat 0) false).bind fun bt147 => ((slices_Clone_uint32_uint32.f l1).bind fun t151 => (if 0 ≤ (wrap64 ((shl .i64 1 t140) - (l1.length : Int))) then (if t151.length + (wrap64 ((shl .i64 1 t140) - (l1.length : Int)) : Int).toNat < 35184372088832 then ((ntt_Transform.f kj2 (t151 ++ List.replicate (wrap64 ((shl .i64 1 t140) - (l1.length : Int)) : Int).toNat 0) false).bind fun bt157 => (ntt_Conv.l0 kj2 (wrap64 ((wrap64 ((l0.length : Int) + (l1.length : Int))) - 1)) bt147.1 bt157.1 (bt147.1.length : Int) 0)) else (none)) else (none)))) else (none)) else (none))) else (none))) else (some (([] : List Int), 1)))) else (some (([] : List Int), 1))) = some (r1, r2) := H
        have A7 := Aside0.mk A70
        clear A70
        by_cases c8 : t138 = true
        · subst c8
          have H1 : ((ntt_whole.f kj2 l1).bind fun t139 => (if t139 = true then ((bits_Len.f kj2 (IntKind.u64.wrap (wrap64 ((wrap64 ((wrap64 ((l0.length : Int) + (l1.length : Int))) - 1)) - 1)))).bind fun t140 => (if 0 ≤ t140 then ((slices_Clone_uint32_uint32.f l0).bind fun t141 => (if 0 ≤ (wrap64 ((shl .i64 1 t140) - (l0.length : Int))) then (if t141.length + (wrap64 ((shl .i64 1 t140) - (l0.length : Int)) : Int).toNat < 35184372088832 then ((ntt_Transform.f kj2 (t141 ++ List.replicate (wrap64 ((shl .i64 1 t140) - (l0.length : Int)) : Int).toNat 0) false).bind fun bt147 => ((slices_Clone_uint32_uint32.f l1).bind fun t151 => (if 0 ≤ (wrap64 ((shl .i64 1 t140) - (l1.length : Int))) then (if t151.length + (wrap64 ((shl .i64 1 t140) - (l1.length : Int)) : Int).toNat < 35184372088832 then ((ntt_Transform.f kj2 (t151 ++ List.replicate (wrap64 ((shl .i64 1 t140) - (l1.length : Int)) : Int).toNat 0) false).bind fun bt157 => (ntt_Conv.l0 kj2 (wrap64 ((wrap64 ((l0.length : Int) + (l1.length : Int))) - 1)) bt147.1 bt157.1 (bt147.1.length : Int) 0)) else (none)) else (none)))) else (none)) else (none))) else (none))) else (some (([] : List Int), 1)))) = some (r1, r2) := by rw [if_pos rfl] at H; exact H
          clear H
          have H := H1
          clear H1
          replace H := Option.bind_eq_some_iff.mp H
          obtain ⟨t139, A90, H⟩ := H
          replace H : (if t139 = true then ((bits_Len.f kj2 (IntKind.u64.wrap (wrap64 ((wrap64 ((wrap64 ((l0.length : Int) + (l1.length : Int))) - 1)) - 1)))).bind fun t140 => (if 0 ≤ t140 then ((slices_Clone_uint32_uint32.f l0).bind fun t141 => (if 0 ≤ (wrap64 ((shl .i64 1 t140) - (l0.length : Int))) then (if t141.length + (wrap64 ((shl .i64 1 t140) - (l0.length : Int)) : Int).toNat < 35184372088832 then ((ntt_Transform.f kj2 (t141 ++ List.replicate (wrap64 ((shl .i64 1 t140) - (l0.length : Int)) : Int).toNat 0) false).bind fun bt147 => ((slices_Clone_uint32_uint32.f l1).bind fun t151 => (if 0 ≤ (wrap64 ((shl .i64 1 t140) - (l1.length : Int))) then (if t151.length + (wrap64 ((shl .i64 1 t140) - (l1.length : Int)) : Int).toNat < 35184372088832 then ((ntt_Transform.f kj2 (t151 ++ List.replicate (wrap64 ((shl .i64 1 t140) - (l1.length : Int)) : Int).toNat 0) false).bind fun bt157 => (ntt_Conv.l0 kj2 (wrap64 ((wrap64 ((l0.length : Int) + (l1.length : Int))) - 1)) bt147.1 bt157.1 (bt147.1.length : Int) 0)) else (none)) else (none)))) else (none)) else (none))) else (none))) else (some (([] : List Int), 1))) = some (r1, r2) := H
          have A9 := Aside0.mk A90
          clear A90
          by_cases c10 : t139 = true
          · subst c10
            have H1 : ((bits_Len.f kj2 (IntKind.u64.wrap (wrap64 ((wrap64 ((wrap64 ((l0.length : Int) + (l1.length : Int))) - 1)) - 1)))).bind fun t140 => (if 0 ≤ t140 then ((slices_Clone_uint32_uint32.f l0).bind fun t141 => (if 0 ≤ (wrap64 ((shl .i64 1 t140) - (l0.length : Int))) then (if t141.length + (wrap64 ((shl .i64 1 t140) - (l0.length : Int)) : Int).toNat < 35184372088832 then ((ntt_Transform.f kj2 (t141 ++ List.replicate (wrap64 ((shl .i64 1 t140) - (l0.length : Int)) : Int).toNat 0) false).bind fun bt147 => ((slices_Clone_uint32_uint32.f l1).bind fun t151 => (if 0 ≤ (wrap64 ((shl .i64 1 t140) - (l1.length : Int))) then (if t151.length + (wrap64 ((shl .i64 1 t140) - (l1.length : Int)) : Int).toNat < 35184372088832 then ((ntt_Transform.f kj2 (t151 ++ List.replicate (wrap64 ((shl .i64 1 t140) - (l1.length : Int)) : Int).toNat 0) false).bind fun bt157 => (ntt_Conv.l0 kj2 (wrap64 ((wrap64 ((l0.length : Int) + (l1.length : Int))) - 1)) bt147.1 bt157.1 (bt147.1.length : Int) 0)) else (none)) else (none)))) else (none)) else (none))) else (none))) = some (r1, r2) := by rw [if_pos rfl] at H; exact H
            clear H
            have H := H1
            clear H1
            replace H := Option.bind_eq_some_iff.mp H
            obtain ⟨t140, A110, H⟩ := H
            replace H : (if 0 ≤ t140 then ((slices_Clone_uint32_uint32.f l0).bind fun t141 => (if 0 ≤ (wrap64 ((shl .i64 1 t140) - (l0.length : Int))) then (if t141.length + (wrap64 ((shl .i64 1 t140) - (l0.length : Int)) : Int).toNat < 35184372088832 then ((ntt_Transform.f kj2 (t141 ++ List.replicate (wrap64 ((shl .i64 1 t140) - (l0.length : Int)) : Int).toNat 0) false).bind fun bt147 => ((slices_Clone_uint32_uint32.f l1).bind fun t151 => (if 0 ≤ (wrap64 ((shl .i64 1 t140) - (l1.length : Int))) then (if t151.length + (wrap64 ((shl .i64 1 t140) - (l1.length : Int)) : Int).toNat < 35184372088832 then ((ntt_Transform.f kj2 (t151 ++ List.replicate (wrap64 ((shl .i64 1 t140) - (l1.length : Int)) : Int).toNat 0) false).bind fun bt157 => (ntt_Conv.l0 kj2 (wrap64 ((wrap64 ((l0.length : Int) + (l1.length : Int))) - 1)) bt147.1 bt157.1 (bt147.1.length : Int) 0)) else (none)) else (none)))) else (none)) else (none))) else (none)) = some (r1, r2) := H
            have A11 := Aside0.mk A110
            clear A110
            by_cases c12 : 0 ≤ t140
            · rw [if_pos c12] at H
              have c12b0 := eq_true c12
              have c12b1 : decide (0 ≤ t140) = true := decide_eq_true c12
              clear c12
              obtain ⟨ji13, hji13⟩ : ∃ j_ : Int, (shl .i64 1 t140) = j_ := ⟨_, rfl⟩
              replace H : ((slices_Clone_uint32_uint32.f l0).bind fun t141 => (if 0 ≤ (wrap64 ((ji13) - (l0.length : Int))) then (if t141.length + (wrap64 ((ji13) - (l0.length : Int)) : Int).toNat < 35184372088832 then ((ntt_Transform.f kj2 (t141 ++ List.replicate (wrap64 ((ji13) - (l0.length : Int)) : Int).toNat 0) false).bind fun bt147 => ((slices_Clone_uint32_uint32.f l1).bind fun t151 => (if 0 ≤ (wrap64 ((ji13) - (l1.length : Int))) then (if t151.length + (wrap64 ((ji13) - (l1.length : Int)) : Int).toNat < 35184372088832 then ((ntt_Transform.f kj2 (t151 ++ List.replicate (wrap64 ((ji13) - (l1.length : Int)) : Int).toNat 0) false).bind fun bt157 => (ntt_Conv.l0 kj2 (wrap64 ((wrap64 ((l0.length : Int) + (l1.length : Int))) - 1)) bt147.1 bt157.1 (bt147.1.length : Int) 0)) else (none)) else (none)))) else (none)) else (none))) = some (r1, r2) := by first | (rw [hji13] at H; exact H) | (simp only [hji13] at H ⊢; exact H)
              (try rw [hji13] at A7)
              (try rw [hji13] at A9)
              (try rw [hji13] at A11)
              have hji13_ : (IntKind.i64.wrap (1 * 2 ^ min t140.toNat 64)) = ji13 := hji13
              have hji13z : t140 ≤ 64 → (IntKind.i64.wrap (1 * 2 ^ t140.toNat)) = ji13 := shl_small hji13
              have hji13u : (IntKind.i64.wrap (2 ^ min t140.toNat 64)) = ji13 := by have h_ := hji13_; rw [Int.one_mul] at h_; exact h_
              have hji13v : t140 ≤ 64 → (IntKind.i64.wrap (2 ^ t140.toNat)) = ji13 := fun hle_ => by have h_ := hji13z hle_; rw [Int.one_mul] at h_; exact h_
              have hji13y : (wrap64 (1 * 2 ^ min t140.toNat 64)) = ji13 := (i64_w _).symm.trans hji13_
              have hji13x : t140 ≤ 64 → (wrap64 (1 * 2 ^ t140.toNat)) = ji13 := fun h_ => (i64_w _).symm.trans (hji13z h_)
              replace H := Option.bind_eq_some_iff.mp H
              obtain ⟨t141, A140, H⟩ := H
              replace H : (if 0 ≤ (wrap64 ((ji13) - (l0.length : Int))) then (if t141.length + (wrap64 ((ji13) - (l0.length : Int)) : Int).toNat < 35184372088832 then ((ntt_Transform.f kj2 (t141 ++ List.replicate (wrap64 ((ji13) - (l0.length : Int)) : Int).toNat 0) false).bind fun bt147 => ((slices_Clone_uint32_uint32.f l1).bind fun t151 => (if 0 ≤ (wrap64 ((ji13) - (l1.length : Int))) then (if t151.length + (wrap64 ((ji13) - (l1.length : Int)) : Int).toNat < 35184372088832 then ((ntt_Transform.f kj2 (t151 ++ List.replicate (wrap64 ((ji13) - (l1.length : Int)) : Int).toNat 0) false).bind fun bt157 => (ntt_Conv.l0 kj2 (wrap64 ((wrap64 ((l0.length : Int) + (l1.length : Int))) - 1)) bt147.1 bt157.1 (bt147.1.length : Int) 0)) else (none)) else (none)))) else (none)) else (none)) = some (r1, r2) := H
              have A14 := Aside0.mk A140
              clear A140
              obtain ⟨ji15, hji15⟩ : ∃ j_ : Int, (wrap64 ((ji13) - (l0.length : Int))) = j_ := ⟨_, rfl⟩
              replace H : (if 0 ≤ (ji15) then (if t141.length + (ji15 : Int).toNat < 35184372088832 then ((ntt_Transform.f kj2 (t141 ++ List.replicate (ji15 : Int).toNat 0) false).bind fun bt147 => ((slices_Clone_uint32_uint32.f l1).bind fun t151 => (if 0 ≤ (wrap64 ((ji13) - (l1.length : Int))) then (if t151.length + (wrap64 ((ji13) - (l1.length : Int)) : Int).toNat < 35184372088832 then ((ntt_Transform.f kj2 (t151 ++ List.replicate (wrap64 ((ji13) - (l1.length : Int)) : Int).toNat 0) false).bind fun bt157 => (ntt_Conv.l0 kj2 (wrap64 ((wrap64 ((l0.length : Int) + (l1.length : Int))) - 1)) bt147.1 bt157.1 (bt147.1.length : Int) 0)) else (none)) else (none)))) else (none)) else (none)) = some (r1, r2) := by first | (rw [hji15] at H; exact H) | (simp only [hji15] at H ⊢; exact H)
              (try rw [hji15] at A7)
              (try rw [hji15] at A9)
              (try rw [hji15] at A11)
              (try rw [hji15] at A14)
              have hji15w : (IntKind.i64.wrap ((ji13) - (l0.length : Int))) = ji15 := (i64_w _).trans hji15
              by_cases c16 : 0 ≤ (ji15)
              · rw [if_pos c16] at H
                have c16b0 := eq_true c16
                have c16b1 : decide (0 ≤ (ji15)) = true := decide_eq_true c16
                clear c16
                by_cases c17 : t141.length + (ji15 : Int).toNat < 35184372088832
                · rw [if_pos c17] at H
                  have LMc17 := Aside0.mk c17
                  clear c17
                  obtain ⟨y144, hy144⟩ : ∃ y_ : List Int, y_ = (t141 ++ List.replicate (ji15 : Int).toNat 0) := ⟨_, rfl⟩
                  replace H : ((ntt_Transform.f kj2 y144 false).bind fun bt147 => ((slices_Clone_uint32_uint32.f l1).bind fun t151 => (if 0 ≤ (wrap64 ((ji13) - (l1.length : Int))) then (if t151.length + (wrap64 ((ji13) - (l1.length : Int)) : Int).toNat < 35184372088832 then ((ntt_Transform.f kj2 (t151 ++ List.replicate (wrap64 ((ji13) - (l1.length : Int)) : Int).toNat 0) false).bind fun bt157 => (ntt_Conv.l0 kj2 (wrap64 ((wrap64 ((l0.length : Int) + (l1.length : Int))) - 1)) bt147.1 bt157.1 (bt147.1.length : Int) 0)) else (none)) else (none)))) = some (r1, r2) := by first | (rw [hy144]; with_reducible exact H) | (have H2_ := (Option.bind_some _ _).symm.trans H; rw [hy144]; with_reducible exact H2_) | (have H2_ := (Option.bind_some _ _).symm.trans H; with_reducible exact H2_) | with_reducible exact H | (rw [hy144]; exact H) | exact H
                  have Ny144 := Aside0.mk hy144
                  clear hy144
                  replace H := Option.bind_eq_some_iff.mp H
                  obtain ⟨⟨t147, t148⟩, A180, H⟩ := H
                  replace H : ((slices_Clone_uint32_uint32.f l1).bind fun t151 => (if 0 ≤ (wrap64 ((ji13) - (l1.length : Int))) then (if t151.length + (wrap64 ((ji13) - (l1.length : Int)) : Int).toNat < 35184372088832 then ((ntt_Transform.f kj2 (t151 ++ List.replicate (wrap64 ((ji13) - (l1.length : Int)) : Int).toNat 0) false).bind fun bt157 => (ntt_Conv.l0 kj2 (wrap64 ((wrap64 ((l0.length : Int) + (l1.length : Int))) - 1)) t147 bt157.1 (t147.length : Int) 0)) else (none)) else (none))) = some (r1, r2) := H
                  have A18 := Aside0.mk A180
                  clear A180
                  replace H := Option.bind_eq_some_iff.mp H
                  obtain ⟨t151, A190, H⟩ := H
                  replace H : (if 0 ≤ (wrap64 ((ji13) - (l1.length : Int))) then (if t151.length + (wrap64 ((ji13) - (l1.length : Int)) : Int).toNat < 35184372088832 then ((ntt_Transform.f kj2 (t151 ++ List.replicate (wrap64 ((ji13) - (l1.length : Int)) : Int).toNat 0) false).bind fun bt157 => (ntt_Conv.l0 kj2 (wrap64 ((wrap64 ((l0.length : Int) + (l1.length : Int))) - 1)) t147 bt157.1 (t147.length : Int) 0)) else (none)) else (none)) = some (r1, r2) := H
                  have A19 := Aside0.mk A190
                  clear A190
                  obtain ⟨ji20, hji20⟩ : ∃ j_ : Int, (wrap64 ((ji13) - (l1.length : Int))) = j_ := ⟨_, rfl⟩
                  replace H : (if 0 ≤ (ji20) then (if t151.length + (ji20 : Int).toNat < 35184372088832 then ((ntt_Transform.f kj2 (t151 ++ List.replicate (ji20 : Int).toNat 0) false).bind fun bt157 => (ntt_Conv.l0 kj2 (wrap64 ((wrap64 ((l0.length : Int) + (l1.length : Int))) - 1)) t147 bt157.1 (t147.length : Int) 0)) else (none)) else (none)) = some (r1, r2) := by first | (rw [hji20] at H; exact H) | (simp only [hji20] at H ⊢; exact H)
                  (try rw [hji20] at A7)
                  (try rw [hji20] at A9)
                  (try rw [hji20] at A11)
                  (try rw [hji20] at A14)
                  (try rw [hji20] at A18)
                  (try rw [hji20] at A19)
                  have hji20w : (IntKind.i64.wrap ((ji13) - (l1.length : Int))) = ji20 := (i64_w _).trans hji20
                  by_cases c21 : 0 ≤ (ji20)
                  · rw [if_pos c21] at H
                    have c21b0 := eq_true c21
                    have c21b1 : decide (0 ≤ (ji20)) = true := decide_eq_true c21
                    clear c21
                    by_cases c22 : t151.length + (ji20 : Int).toNat < 35184372088832
                    · rw [if_pos c22] at H
                      have LMc22 := Aside0.mk c22
                      clear c22
                      obtain ⟨y154, hy154⟩ : ∃ y_ : List Int, y_ = (t151 ++ List.replicate (ji20 : Int).toNat 0) := ⟨_, rfl⟩
                      replace H : ((ntt_Transform.f kj2 y154 false).bind fun bt157 => (ntt_Conv.l0 kj2 (wrap64 ((wrap64 ((l0.length : Int) + (l1.length : Int))) - 1)) t147 bt157.1 (t147.length : Int) 0)) = some (r1, r2) := by first | (rw [hy154]; with_reducible exact H) | (have H2_ := (Option.bind_some _ _).symm.trans H; rw [hy154]; with_reducible exact H2_) | (have H2_ := (Option.bind_some _ _).symm.trans H; with_reducible exact H2_) | with_reducible exact H | (rw [hy154]; exact H) | exact H
                      have Ny154 := Aside0.mk hy154
                      clear hy154
                      replace H := Option.bind_eq_some_iff.mp H
                      obtain ⟨⟨t157, t158⟩, A230, H⟩ := H
                      replace H : (ntt_Conv.l0 kj2 (wrap64 ((wrap64 ((l0.length : Int) + (l1.length : Int))) - 1)) t147 t157 (t147.length : Int) 0) = some (r1, r2) := H
                      have A23 := Aside0.mk A230
                      clear A230
                      have H' := Aside0.mk H
                      clear H
                      go_wp2_with (first | ((with_reducible refine gate_callee (f := 19) rfl ?_); refine goesL_ (some 34) rfl rfl Try.func19 (by kernel_rfl) rfl #[.slice A0 l0.length c0] rfl (by (try simp only [List.map_toArray, List.map_cons, List.map_nil]); first | done | rfl | (simp only [List.length_drop, List.length_take]; rfl)) ?_; (with_reducible refine (ntt_whole.calls kj2 _ _ l0 true _ ?side1 ?side2 A7.out).mono ?_); (case side1 => repeat (first | exact (Kd.C_below HR0.out HB.out) | (with_reducible refine Kd.C_alloc ?_ _) | (with_reducible refine Kd.C_drewN ?_ _) | (with_reducible refine Kd.C_drew ?_))); (case side2 => exact HC0.out); rintro e w' ⟨rfl, ⟨nd, rfl⟩⟩; refine ⟨_, rfl, ?_⟩) | (go_at_call 19; (with_reducible refine (ntt_whole.calls kj2 _ _ l1 true _ ?side1 ?side2 A9.out).mono ?_); (case side1 => repeat (first | exact (Kd.C_below HR1.out (by repeat (first | (with_reducible first | exact HB.out | apply below_alloc | apply pw_below_drewN | apply below_drew1) | exact HB.out))) | (with_reducible refine Kd.C_alloc ?_ _) | (with_reducible refine Kd.C_drewN ?_ _) | (with_reducible refine Kd.C_drew ?_))); (case side2 => exact HC1.out); rintro e w' ⟨rfl, ⟨nd, rfl⟩⟩) | ((with_reducible refine gate_callee (f := 20) rfl ?_); refine goesL_ (some 50) rfl rfl Try.func20 (by kernel_rfl) rfl #[.int .u64 (IntKind.u64.wrap (wrap64 ((wrap64 ((wrap64 ((l0.length : Int) + (l1.length : Int))) - 1)) - 1)))] rfl (by (try simp only [List.map_toArray, List.map_cons, List.map_nil]); first | done | rfl | (simp only [List.length_drop, List.length_take]; rfl)) ?_; (with_reducible refine (bits_Len.calls kj2 (IntKind.u64.wrap (wrap64 ((wrap64 ((wrap64 ((l0.length : Int) + (l1.length : Int))) - 1)) - 1))) t140 _ A11.out).mono ?_); rintro e w' ⟨rfl, ⟨nd, rfl⟩⟩; refine ⟨_, rfl, ?_⟩) | ((with_reducible refine gate_callee (f := 21) rfl ?_); refine goesL_ (some 54) rfl rfl Try.func21 (by kernel_rfl) rfl #[.slice A0 l0.length c0] rfl (by (try simp only [List.map_toArray, List.map_cons, List.map_nil]); first | done | rfl | (simp only [List.length_drop, List.length_take]; rfl)) ?_; (with_reducible refine (slices_Clone_uint32_uint32.calls _ _ l0 t141 _ ?side1 ?side2 A14.out).mono ?_); (case side1 => repeat (first | exact (Kd.C_below HR0.out (by repeat (first | (with_reducible first | exact HB.out | apply below_alloc | apply pw_below_drewN | apply below_drew1) | exact HB.out))) | (with_reducible refine Kd.C_alloc ?_ _) | (with_reducible refine Kd.C_drewN ?_ _) | (with_reducible refine Kd.C_drew ?_))); (case side2 => exact HC0.out); rintro e w24 ⟨v142, rfl, ho0, hb⟩; refine ⟨_, rfl, ?_⟩; have n0_ := Aside0.mk (Kd.R_lower ho0 (below_size (by repeat (first | (with_reducible first | exact HB.out | apply below_alloc | apply pw_below_drewN | apply below_drew1) | exact HB.out)))); have n1_ := Aside0.mk (below_step (by repeat (first | (with_reducible first | exact HB.out | apply below_alloc | apply pw_below_drewN | apply below_drew1) | exact HB.out)) hb); clear HB; have HO143 := n0_; have HB := n1_; clear n0_ n1_; (try clear hb); (try clear hb2); (try clear hk); (try clear hi); (try clear ho0)) | (at_builtin; refine Kd.R_append_zeros (Kd.int .u32) (w0 := w) w.heap.size rfl (.tmp 54) (.tmp 58) 22 3 36 (.int .u32 0) 4 rfl Try.underlying22 Try.underlying3 info36 rfl (by decide) (by omega) v142 t141 0 (ji15 : Int) (fun _ => True) rfl rfl rfl ?aF ?aO (of_decide_eq_true (by first | (with_reducible assumption) | assumption)) ?aB ?aS ?aL ?_; (case aB => exact (by repeat (first | (with_reducible first | exact HB.out | apply below_alloc | apply pw_below_drewN | apply below_drew1) | exact HB.out))); (case aF => exact (fun _ _ => trivial)); (case aO => exact (by (with_reducible repeat (first | apply Kd.R_alloc | apply Kd.R_drewN | apply Kd.R_drew)); exact HO143.out)); (case aS => exact (below_size (by repeat (first | (with_reducible first | exact HB.out | apply below_alloc | apply pw_below_drewN | apply below_drew1) | exact HB.out)))); (case aL => have := LMc17.out; omega); intro v145 w25 ho hb hg hat; rw [← Ny144.out] at ho; have n0_ := Aside0.mk (hb); have n1_ := Aside0.mk (ho); clear HB; clear HO143; have HB := n0_; have HO146 := n1_; clear n0_ n1_; clear ho hb hg hat; obtain ⟨Ao26, co26, eo26⟩ := Kd.R_slice HO146.out; subst eo26) | ((with_reducible refine gate_callee (f := 12) rfl ?_); refine goesL_ (some 60) rfl rfl Try.func12 (by kernel_rfl) rfl #[.slice Ao26 y144.length co26, .bool false] rfl (by (try simp only [List.map_toArray, List.map_cons, List.map_nil]); first | done | rfl | (simp only [List.length_drop, List.length_take]; rfl)) ?_; (with_reducible refine (ntt_Transform.calls kj2 _ _ y144 false t147 t148 _ ?side1 ?side2 A18.out).mono ?_); (case side1 => repeat (first | exact (Kd.R_reads' HO146.out).2.2 | (with_reducible refine Kd.C_alloc ?_ _) | (with_reducible refine Kd.C_drewN ?_ _) | (with_reducible refine Kd.C_drew ?_))); (case side2 => exact (Kd.R_reads' HO146.out).2.1); rintro e w27 ⟨v149, rfl, ho0, hb⟩; refine ⟨_, rfl, ?_⟩; have n0_ := Aside0.mk (Kd.R_elder' (by (with_reducible repeat (first | apply Kd.R_alloc | apply Kd.R_drewN | apply Kd.R_drew)); exact HO146.out) (Kd.R_base ho0) hb); have n1_ := Aside0.mk (Kd.R_lower (Kd.R_new' ho0 (Kd.R_lt (by (with_reducible repeat (first | apply Kd.R_alloc | apply Kd.R_drewN | apply Kd.R_drew)); exact HO146.out))) (below_size (by repeat (first | (with_reducible first | exact HB.out | apply below_alloc | apply pw_below_drewN | apply below_drew1) | exact HB.out)))); have n2_ := Aside0.mk (below_step (by repeat (first | (with_reducible first | exact HB.out | apply below_alloc | apply pw_below_drewN | apply below_drew1) | exact HB.out)) hb); clear HO146; clear HB; have HO146 := n0_; have HO150 := n1_; have HB := n2_; clear n0_ n1_ n2_; (try clear hb); (try clear hb2); (try clear hk); (try clear hi); (try clear ho0)) | ((with_reducible refine gate_callee (f := 21) rfl ?_); refine goesL_ (some 65) rfl rfl Try.func21 (by kernel_rfl) rfl #[.slice A1 l1.length c1] rfl (by (try simp only [List.map_toArray, List.map_cons, List.map_nil]); first | done | rfl | (simp only [List.length_drop, List.length_take]; rfl)) ?_; (with_reducible refine (slices_Clone_uint32_uint32.calls _ _ l1 t151 _ ?side1 ?side2 A19.out).mono ?_); (case side1 => repeat (first | exact (Kd.C_below HR1.out HB.out) | (with_reducible refine Kd.C_alloc ?_ _) | (with_reducible refine Kd.C_drewN ?_ _) | (with_reducible refine Kd.C_drew ?_))); (case side2 => exact HC1.out); rintro e w28 ⟨v152, rfl, ho0, hb⟩; refine ⟨_, rfl, ?_⟩; have n0_ := Aside0.mk (Kd.R_elder' (by (with_reducible repeat (first | apply Kd.R_alloc | apply Kd.R_drewN | apply Kd.R_drew)); exact HO146.out) (Kd.R_base ho0) hb); have n1_ := Aside0.mk (Kd.R_elder' (by (with_reducible repeat (first | apply Kd.R_alloc | apply Kd.R_drewN | apply Kd.R_drew)); exact HO150.out) (Kd.R_base ho0) hb); have n2_ := Aside0.mk (Kd.R_lower (Kd.R_new' (Kd.R_new' ho0 (Kd.R_lt (by (with_reducible repeat (first | apply Kd.R_alloc | apply Kd.R_drewN | apply Kd.R_drew)); exact HO146.out))) (Kd.R_lt (by (with_reducible repeat (first | apply Kd.R_alloc | apply Kd.R_drewN | apply Kd.R_drew)); exact HO150.out))) (below_size (by repeat (first | (with_reducible first | exact HB.out | apply below_alloc | apply pw_below_drewN | apply below_drew1) | exact HB.out)))); have n3_ := Aside0.mk (below_step (by repeat (first | (with_reducible first | exact HB.out | apply below_alloc | apply pw_below_drewN | apply below_drew1) | exact HB.out)) hb); clear HO146; clear HO150; clear HB; have HO146 := n0_; have HO150 := n1_; have HO153 := n2_; have HB := n3_; clear n0_ n1_ n2_ n3_; (try clear hb); (try clear hb2); (try clear hk); (try clear hi); (try clear ho0)) | (at_builtin; refine Kd.R_append_zeros (Kd.int .u32) (w0 := w) w.heap.size rfl (.tmp 65) (.tmp 69) 22 3 36 (.int .u32 0) 4 rfl Try.underlying22 Try.underlying3 info36 rfl (by decide) (by omega) v152 t151 0 (ji20 : Int) (fun k_ => some k_ ≠ (.slice Ao26 y144.length co26 : Value).ownBlock ∧ some k_ ≠ (v149 : Value).ownBlock) rfl rfl rfl ?aF ?aO (of_decide_eq_true (by first | (with_reducible assumption) | assumption)) ?aB ?aS ?aL ?_; (case aB => exact (by repeat (first | (with_reducible first | exact HB.out | apply below_alloc | apply pw_below_drewN | apply below_drew1) | exact HB.out))); (case aF => exact (fun k_ hk => ⟨Kd.fresh' (Kd.R_lt (by (with_reducible repeat (first | apply Kd.R_alloc | apply Kd.R_drewN | apply Kd.R_drew)); exact HO146.out)) k_ hk, Kd.fresh' (Kd.R_lt (by (with_reducible repeat (first | apply Kd.R_alloc | apply Kd.R_drewN | apply Kd.R_drew)); exact HO150.out)) k_ hk⟩)); (case aO => exact (by (with_reducible repeat (first | apply Kd.R_alloc | apply Kd.R_drewN | apply Kd.R_drew)); exact Kd.R_mono HO153.out (fun _ hk => ⟨hk.1.2, hk.2⟩))); (case aS => exact (below_size (by repeat (first | (with_reducible first | exact HB.out | apply below_alloc | apply pw_below_drewN | apply below_drew1) | exact HB.out)))); (case aL => have := LMc22.out; omega); intro v155 w29 ho hb hg hat; rw [← Ny154.out] at ho; have n0_ := Aside0.mk (Kd.R_after (ok := (fun k_ => some k_ ≠ (v149 : Value).ownBlock)) (by (with_reducible repeat (first | apply Kd.R_alloc | apply Kd.R_drewN | apply Kd.R_drew)); exact Kd.R_mono HO146.out (fun _ hk => ⟨hk.1.2, hk.2⟩)) hg hat); have n1_ := Aside0.mk (Kd.R_after (ok := (fun k_ => some k_ ≠ (.slice Ao26 y144.length co26 : Value).ownBlock)) (by (with_reducible repeat (first | apply Kd.R_alloc | apply Kd.R_drewN | apply Kd.R_drew)); exact Kd.R_mono HO150.out (fun _ hk => ⟨hk.1.2, hk.2⟩)) hg hat); have n2_ := Aside0.mk (hb); have n3_ := Aside0.mk (ho); clear HO146; clear HO150; clear HB; clear HO153; have HO146 := n0_; have HO150 := n1_; have HB := n2_; have HO156 := n3_; clear n0_ n1_ n2_ n3_; clear ho hb hg hat; obtain ⟨Ao30, co30, eo30⟩ := Kd.R_slice HO156.out; subst eo30) | ((with_reducible refine gate_callee (f := 12) rfl ?_); refine goesL_ (some 71) rfl rfl Try.func12 (by kernel_rfl) rfl #[.slice Ao30 y154.length co30, .bool false] rfl (by (try simp only [List.map_toArray, List.map_cons, List.map_nil]); first | done | rfl | (simp only [List.length_drop, List.length_take]; rfl)) ?_; (with_reducible refine (ntt_Transform.calls kj2 _ _ y154 false t157 t158 _ ?side1 ?side2 A23.out).mono ?_); (case side1 => repeat (first | exact (Kd.R_reads' HO156.out).2.2 | (with_reducible refine Kd.C_alloc ?_ _) | (with_reducible refine Kd.C_drewN ?_ _) | (with_reducible refine Kd.C_drew ?_))); (case side2 => exact (Kd.R_reads' HO156.out).2.1); rintro e w31 ⟨v159, rfl, ho0, hb⟩; refine ⟨_, rfl, ?_⟩; have n0_ := Aside0.mk (Kd.R_elder' (by (with_reducible repeat (first | apply Kd.R_alloc | apply Kd.R_drewN | apply Kd.R_drew)); exact HO146.out) (Kd.R_base ho0) hb); have n1_ := Aside0.mk (Kd.R_elder' (by (with_reducible repeat (first | apply Kd.R_alloc | apply Kd.R_drewN | apply Kd.R_drew)); exact HO150.out) (Kd.R_base ho0) hb); have n2_ := Aside0.mk (Kd.R_elder' (by (with_reducible repeat (first | apply Kd.R_alloc | apply Kd.R_drewN | apply Kd.R_drew)); exact HO156.out) (Kd.R_base ho0) hb); have n3_ := Aside0.mk (Kd.R_lower (Kd.R_new' (Kd.R_new' (Kd.R_new' ho0 (Kd.R_lt (by (with_reducible repeat (first | apply Kd.R_alloc | apply Kd.R_drewN | apply Kd.R_drew)); exact HO146.out))) (Kd.R_lt (by (with_reducible repeat (first | apply Kd.R_alloc | apply Kd.R_drewN | apply Kd.R_drew)); exact HO150.out))) (Kd.R_lt (by (with_reducible repeat (first | apply Kd.R_alloc | apply Kd.R_drewN | apply Kd.R_drew)); exact HO156.out))) (below_size (by repeat (first | (with_reducible first | exact HB.out | apply below_alloc | apply pw_below_drewN | apply below_drew1) | exact HB.out)))); have n4_ := Aside0.mk (below_step (by repeat (first | (with_reducible first | exact HB.out | apply below_alloc | apply pw_below_drewN | apply below_drew1) | exact HB.out)) hb); clear HO146; clear HO150; clear HO156; clear HB; have HO146 := n0_; have HO150 := n1_; have HO156 := n2_; have HO160 := n3_; have HB := n4_; clear n0_ n1_ n2_ n3_ n4_; (try clear hb); (try clear hb2); (try clear hk); (try clear hi); (try clear ho0); obtain ⟨Ao32, co32, eo32⟩ := Kd.R_slice HO150.out; subst eo32))
                      go_loopg [76] kj2 (fun kq v76 w' => ∃ (x8_2 : List Int) (x76_2 : Int), v76 = .int .i64 x76_2 ∧ Aside0 (ntt_Conv.l0 kq (wrap64 ((wrap64 ((l0.length : Int) + (l1.length : Int))) - 1)) x8_2 t157 (t147.length : Int) x76_2 = some (r1, r2)) ∧ Aside0 (kq ≤ kj2) ∧ Aside0 (Kd.R (Kd.int .u32) 36 w' w.heap.size (fun k_ => some k_ ≠ (v159 : Value).ownBlock) (.slice Ao32 t147.length co32) x8_2) ∧ Aside0 (Kd.R (Kd.int .u32) 36 w' w.heap.size (fun k_ => some k_ ≠ ((.slice Ao32 t147.length co32) : Value).ownBlock) v159 t157) ∧ Aside0 (Below w.heap.size w w'))
                      case atStart => exact ⟨(t147), (0), (by first | rfl | (simp; done) | (simp [*]; done)), H', ⟨Nat.le_refl _⟩, ⟨by (with_reducible repeat (first | apply Kd.R_alloc | apply Kd.R_drewN | apply Kd.R_drew)); exact Kd.R_mono HO150.out (fun _ hk => hk.2)⟩, ⟨by (with_reducible repeat (first | apply Kd.R_alloc | apply Kd.R_drewN | apply Kd.R_drew)); exact Kd.R_mono HO160.out (fun _ hk => hk.1.2)⟩, ⟨by repeat (first | (with_reducible first | exact HB.out | apply below_alloc | apply pw_below_drewN | apply below_drew1) | exact HB.out)⟩⟩
                      case round =>
                        clear H'
                        try clear c1
                        try clear c2
                        try clear p2
                        try clear c4
                        try clear c4b0
                        try clear c4b1
                        try clear c4b2
                        try clear c5
                        try clear c5b0
                        try clear c5b1
                        try clear c5b2
                        try clear c6
                        try clear p6
                        try clear c8
                        try clear c9
                        try clear c10
                        try clear c12
                        try clear c12b0
                        try clear c12b1
                        try clear c16
                        try clear c16b0
                        try clear c16b1
                        try clear c17
                        try clear c19
                        try clear c20
                        try clear c21
                        try clear c21b0
                        try clear c21b1
                        try clear c22
                        try clear p2
                        obtain ⟨x8_2, x76_2, rfl, HA, HK2, HO_8, HO_10, HB⟩ := hrel
                        have hl8_2 := (Kd.R_reads' HO_8.out).1
                        rw [hl8_2] at HO_8
                        (try simp only [hl8_2])
                        (try simp only [hl8_2] at HO_10)
                        cases gk with
                        | zero => exact absurd HA.out (by simp [ntt_Conv.l0])
                        | succ k2 =>
                          have H := HA.out
                          clear HA
                          simp only [ntt_Conv.l0] at H
                          by_cases c33 : x76_2 < (t147.length : Int)
                          · rw [if_pos c33] at H
                            have c33b0 : decide (x76_2 < (t147.length : Int)) = true := decide_eq_true c33
                            (try simp only [hl8_2] at c33b0)
                            clear c33
                            by_cases c34 : 0 ≤ x76_2
                            · rw [if_pos c34] at H
                              have c34b0 : decide (0 ≤ x76_2) = true := decide_eq_true c34
                              clear c34
                              by_cases c35 : x76_2 < (x8_2.length : Int)
                              · rw [if_pos c35] at H
                                have c35b0 : decide (x76_2 < (x8_2.length : Int)) = true := decide_eq_true c35
                                (try simp only [hl8_2] at c35b0)
                                clear c35
                                by_cases c36 : x76_2 < (t157.length : Int)
                                · rw [if_pos c36] at H
                                  have c36b0 : decide (x76_2 < (t157.length : Int)) = true := decide_eq_true c36
                                  (try simp only [hl8_2] at c36b0)
                                  clear c36
                                  replace H := Option.bind_eq_some_iff.mp H
                                  obtain ⟨t163, A370, H⟩ := H
                                  replace H : (ntt_Conv.l0 k2 (wrap64 ((wrap64 ((l0.length : Int) + (l1.length : Int))) - 1)) (x8_2.set (x76_2 : Int).toNat t163) t157 (t147.length : Int) (wrap64 (x76_2 + 1))) = some (r1, r2) := H
                                  have A37 := Aside0.mk A370
                                  clear A370
                                  obtain ⟨y164, hy164⟩ : ∃ y_ : List Int, y_ = (x8_2.set (x76_2 : Int).toNat t163) := ⟨_, rfl⟩
                                  replace H : (ntt_Conv.l0 k2 (wrap64 ((wrap64 ((l0.length : Int) + (l1.length : Int))) - 1)) y164 t157 (t147.length : Int) (wrap64 (x76_2 + 1))) = some (r1, r2) := by first | (rw [hy164]; with_reducible exact H) | (have H2_ := (Option.bind_some _ _).symm.trans H; rw [hy164]; with_reducible exact H2_) | (have H2_ := (Option.bind_some _ _).symm.trans H; with_reducible exact H2_) | with_reducible exact H | (rw [hy164]; exact H) | exact H
                                  have Ny164 := Aside0.mk hy164
                                  clear hy164
                                  have H' := Aside0.mk H
                                  clear H
                                  try go_wp2
                                  have n0_ := Aside0.mk (Kd.R_drew HO_8.out)
                                  have n1_ := Aside0.mk (Kd.R_drew HO_10.out)
                                  have n2_ := Aside0.mk (below_drew1 HB.out)
                                  clear HO_8
                                  clear HO_10
                                  clear HB
                                  have HO_8 := n0_
                                  have HO_10 := n1_
                                  have HB := n2_
                                  clear n0_ n1_ n2_
                                  have p161 : 0 ≤ (x76_2 : Int) := of_decide_eq_true (by first | (with_reducible assumption) | assumption)
                                  have q161 : x76_2 < (x8_2.length : Int) := of_decide_eq_true (by first | (with_reducible assumption) | assumption)
                                  obtain ⟨ad161, e161, hx161_0⟩ := Kd.at_int (Kd.R_reads' HO_8.out).2.2 x76_2 p161 q161
                                  cases e161
                                  replace p161 := eq_true p161
                                  replace q161 := eq_true q161
                                  obtain ⟨Ao40, co40, eo40⟩ := Kd.R_slice HO_10.out
                                  (first | subst eo40 | (injection eo40 with f1_ f2_ f3_; have f4_ := f1_.symm; have f5_ := f3_.symm; clear f1_ f2_ f3_; subst f4_; subst f5_))
                                  have p162 : 0 ≤ (x76_2 : Int) := of_decide_eq_true (by first | (with_reducible assumption) | assumption)
                                  have q162 : x76_2 < (t157.length : Int) := of_decide_eq_true (by first | (with_reducible assumption) | assumption)
                                  obtain ⟨ad162, e162, hx162_0⟩ := Kd.at_int (Kd.R_reads' HO_10.out).2.2 x76_2 p162 q162
                                  cases e162
                                  replace p162 := eq_true p162
                                  replace q162 := eq_true q162
                                  refine start_ (n := 13) (S := fun w' => w'.cell? (ad161.add (x76_2).toNat) = some (.int .u32 (rd x8_2 x76_2)) ∧ w'.cell? (ad162.add (x76_2).toNat) = some (.int .u32 (rd t157 x76_2))) (ds := [12]) #[false, false, false, false, false, false, false, false, false, false, false, false, false] (by kernel_rfl) rfl rfl ⟨hx161_0, hx162_0⟩ (fun hHeld => ?_); refine with_tabW ntt_Conv.tab12 ntt_Conv.bits12 (fun HT_ HW_ => ?_)
                                  generalize wr.drew = w39 at HO_8 HO_10 HB hx161_0 hx162_0 hHeld ⊢
                                  refine pure_ (i := 0) (N := some 79) (v := ?_) (a' := ?_) #[true, false, false, false, false, false, false, false, false, false, false, false, false] rfl rfl (any_of HT_.out (by kernel_rfl)) (fun _ _ _ h => h) (Or.inl ⟨by rfl, ?_⟩) ?_ ?_
                                  rotate_left
                                  · intro w'
                                    go_simp
                                    with_reducible rfl
                                  rotate_left
                                  · simp only [Act.put, List.setIfInBounds_toArray, List.set_cons_zero, List.set_cons_succ, i64_w, i32_w]
                                    rfl
                                  refine pure_ (i := 1) (N := some 80) (v := ?_) (a' := ?_) #[true, true, false, false, false, false, false, false, false, false, false, false, false] rfl rfl (any_of HT_.out (by kernel_rfl)) (fun _ _ _ h => h) (Or.inl ⟨by rfl, ?_⟩) ?_ ?_
                                  rotate_left
                                  · intro w'
                                    go_simp
                                    with_reducible rfl
                                  rotate_left
                                  · simp only [Act.put, List.setIfInBounds_toArray, List.set_cons_zero, List.set_cons_succ, i64_w, i32_w]
                                    rfl
                                  refine pure_ (i := 2) (N := some 81) (v := ?_) (a' := ?_) #[true, true, true, false, false, false, false, false, false, false, false, false, false] rfl rfl (any_of HT_.out (by kernel_rfl)) (fun _ _ _ h => h) (Or.inl ⟨by rfl, ?_⟩) ?_ ?_
                                  rotate_left
                                  · intro w'
                                    go_simp
                                    with_reducible rfl
                                  rotate_left
                                  · simp only [Act.put, List.setIfInBounds_toArray, List.set_cons_zero, List.set_cons_succ, i64_w, i32_w]
                                    rfl
                                  refine pure_ (i := 3) (N := some 82) (v := ?_) (a' := ?_) #[true, true, true, true, false, false, false, false, false, false, false, false, false] rfl rfl (any_of HT_.out (by kernel_rfl)) (fun _ _ _ h => h) (Or.inl ⟨by rfl, ?_⟩) ?_ ?_
                                  rotate_left
                                  · intro w'
                                    go_simp
                                    with_reducible rfl
                                  rotate_left
                                  · simp only [Act.put, List.setIfInBounds_toArray, List.set_cons_zero, List.set_cons_succ, i64_w, i32_w]
                                    rfl
                                  refine pure_ (i := 4) (N := some 83) (v := ?_) (a' := ?_) #[true, true, true, true, true, false, false, false, false, false, false, false, false] rfl rfl (any_of HT_.out (by kernel_rfl)) (fun _ _ _ h => h) (Or.inl ⟨by rfl, ?_⟩) ?_ ?_
                                  rotate_left
                                  · intro w'
                                    go_simp
                                    with_reducible rfl
                                  rotate_left
                                  · simp only [Act.put, List.setIfInBounds_toArray, List.set_cons_zero, List.set_cons_succ, i64_w, i32_w]
                                    rfl
                                  refine pure_ (i := 6) (N := some 85) (v := ?_) (a' := ?_) #[true, true, true, true, true, false, true, false, false, false, false, false, false] rfl rfl (any_of HT_.out (by kernel_rfl)) (fun _ _ _ h => h) (Or.inl ⟨by rfl, ?_⟩) ?_ ?_
                                  rotate_left
                                  · intro w'
                                    go_simp
                                    with_reducible rfl
                                  rotate_left
                                  · simp only [Act.put, List.setIfInBounds_toArray, List.set_cons_zero, List.set_cons_succ, i64_w, i32_w]
                                    rfl
                                  refine pure_ (i := 7) (N := some 86) (v := ?_) (a' := ?_) #[true, true, true, true, true, false, true, true, false, false, false, false, false] rfl rfl (any_of HT_.out (by kernel_rfl)) (fun _ _ _ h => h) (Or.inl ⟨by rfl, ?_⟩) ?_ ?_
                                  rotate_left
                                  · intro w'
                                    go_simp
                                    with_reducible rfl
                                  rotate_left
                                  · simp only [Act.put, List.setIfInBounds_toArray, List.set_cons_zero, List.set_cons_succ, i64_w, i32_w]
                                    rfl
                                  refine pure_ (i := 8) (N := some 87) (v := ?_) (a' := ?_) #[true, true, true, true, true, false, true, true, true, false, false, false, false] rfl rfl (any_of HT_.out (by kernel_rfl)) (fun _ _ _ h => h) (Or.inl ⟨by rfl, ?_⟩) ?_ ?_
                                  rotate_left
                                  · intro w'
                                    go_simp
                                    with_reducible rfl
                                  rotate_left
                                  · simp only [Act.put, List.setIfInBounds_toArray, List.set_cons_zero, List.set_cons_succ, i64_w, i32_w]
                                    rfl
                                  refine take_ (i := 5) (N := some 84) (v := ?_) (a' := ?_) #[true, true, true, true, true, true, true, true, true, false, false, false, false] rfl rfl (take_ofW HT_.out HW_.out (by kernel_rfl)) (fun _ _ _ h => h) (Or.inl ⟨by rfl, ?_⟩) hHeld ?_ ?_
                                  rotate_left
                                  · rintro w' ⟨s0, s1⟩
                                    go_simp
                                    with_reducible rfl
                                  rotate_left
                                  · simp only [Act.put, List.setIfInBounds_toArray, List.set_cons_zero, List.set_cons_succ, i64_w, i32_w]
                                    rfl
                                  refine take_ (i := 9) (N := some 88) (v := ?_) (a' := ?_) #[true, true, true, true, true, true, true, true, true, true, false, false, false] rfl rfl (take_ofW HT_.out HW_.out (by kernel_rfl)) (fun _ _ _ h => h) (Or.inl ⟨by rfl, ?_⟩) hHeld ?_ ?_
                                  rotate_left
                                  · rintro w' ⟨s0, s1⟩
                                    go_simp
                                    with_reducible rfl
                                  rotate_left
                                  · simp only [Act.put, List.setIfInBounds_toArray, List.set_cons_zero, List.set_cons_succ, i64_w, i32_w]
                                    rfl
                                  refine one_ (i := 10) (N := some 89) #[true, true, true, true, true, true, true, true, true, true, true, false, false] rfl rfl (one_of HT_.out (by kernel_rfl)) (by decide) (fun K hK => ?_)
                                  refine goes_ Try.func22 (by kernel_rfl) rfl #[.int .u32 (rd x8_2 x76_2), .int .u32 (rd t157 x76_2)] (by rfl) rfl rfl (by (try simp only [List.map_toArray, List.map_cons, List.map_nil]); first | done | rfl | (simp only [List.length_drop, List.length_take]; rfl)) ?_
                                  with_reducible refine (ntt_field_times.calls (rd x8_2 x76_2) (rd t157 x76_2) t163 _ A37.out).mono ?_
                                  rintro e w' ⟨rfl, ⟨nd, rfl⟩⟩
                                  refine ⟨_, rfl, ?_⟩
                                  have p38 : 0 ≤ (x76_2 : Int) := of_decide_eq_true (by first | (with_reducible assumption) | assumption)
                                  have q38 : (x76_2 : Int) < ((x8_2.length : Int) : Int) := of_decide_eq_true (by first | (with_reducible assumption) | assumption)
                                  obtain ⟨go38, co38, eo38, gb38, gl38, cl38, HG38⟩ := Kd.R_form HO_8.out (by omega)
                                  (first | cases eo38 | (injection eo38 with ea_ en_ ec_; (first | subst ea_ | (injection ea_ with ea_; subst ea_)); subst ec_; clear en_))
                                  have GB38 := Aside0.mk gb38
                                  have GG38 := Aside0.mk HG38
                                  clear gb38 gl38 HG38
                                  (first | simp only [add_plain] at hx161_0 | skip)
                                  obtain ⟨hx38_0, hf38_0⟩ := Kd.R_celln 0 HO_8.out (x76_2 : Int) p38 q38
                                  replace p38 := eq_true p38
                                  replace q38 := eq_true q38
                                  have HP41 := Kd.R_putn HO_8.out (x76_2 : Int) t163
                                  rw [← Ny164.out] at HP41
                                  have HQ41 := Aside0.mk HP41
                                  clear HP41
                                  refine hK.out _ _ ⟨hHeld.1, hHeld.2⟩ (fun hHeld => ?_)
                                  clear hK K
                                  refine norm_ (a' := ?_) ?_ ?_
                                  rotate_left
                                  · show Act.put _ (some 89) _ = _
                                    simp only [Act.put, List.setIfInBounds_toArray, List.set_cons_zero, List.set_cons_succ, i64_w, i32_w]
                                    rfl
                                  refine pure_ (i := 11) (N := some 90) (v := ?_) (a' := ?_) #[true, true, true, true, true, true, true, true, true, true, true, true, false] rfl rfl (any_of HT_.out (by kernel_rfl)) (fun _ _ _ h => h) (Or.inl ⟨by rfl, ?_⟩) ?_ ?_
                                  rotate_left
                                  · intro w'
                                    go_simp
                                    with_reducible rfl
                                  rotate_left
                                  · simp only [Act.put, List.setIfInBounds_toArray, List.set_cons_zero, List.set_cons_succ, i64_w, i32_w]
                                    rfl
                                  refine last_ (i := 12) (N := none) #[true, true, true, true, true, true, true, true, true, true, true, true, true] rfl rfl (one_of HT_.out (by kernel_rfl)) (by decide) (fun K hK => ?_)
                                  refine skip_ (w1 := ?_) (by rfl) rfl ?_ ?_
                                  rotate_left
                                  · go_simp
                                    rfl
                                  refine hK.out _ _ ?_
                                  clear hK K
                                  refine done_ (done_of HT_.out (by kernel_rfl)) ?_
                                  try go_wp2
                                  (try simp only [← hl8_2])
                                  go_roundg k2
                                  case measure => have := HJ2.out; have := HK2.out; omega
                                  case rel => exact ⟨(y164), (wrap64 (x76_2 + 1)), (by first | rfl | (simp; done) | (simp [*]; done)), H', ⟨by have := HJ2.out; have := HK2.out; omega⟩, ⟨by (try simp only [hl8_2]); (with_reducible repeat (first | apply Kd.R_alloc | apply Kd.R_drewN | apply Kd.R_drew)); exact HQ41.out⟩, ⟨by (try simp only [hl8_2]); (with_reducible repeat (first | apply Kd.R_alloc | apply Kd.R_drewN | apply Kd.R_drew)); exact Kd.R_mono (Kd.R_far (p := ⟨go38, (x76_2 : Int).toNat, none⟩) (Kd.R_mono HO_10.out (fun k_ hk => (⟨hk, fun e_ => hk (by rw [e_]; rfl)⟩ : _ ∧ k_ ≠ go38))) (fun _ hk => hk.2) (.int .u32 t163)) (fun _ hk => hk.1)⟩, ⟨by repeat (first | (with_reducible first | exact HB.out | apply below_alloc | apply pw_below_drewN | apply below_drew1 | refine below_set ?_ GB38.out) | exact HB.out)⟩⟩
                                · rw [if_neg c36] at H
                                  exact absurd H (by simp)
                              · rw [if_neg c35] at H
                                exact absurd H (by simp)
                            · rw [if_neg c34] at H
                              exact absurd H (by simp)
                          · rw [if_neg c33] at H
                            have c33b0 : decide (x76_2 < (t147.length : Int)) = false := decide_eq_false c33
                            (try simp only [hl8_2] at c33b0)
                            clear c33
                            replace H := Option.bind_eq_some_iff.mp H
                            obtain ⟨⟨t165, t166⟩, A420, H⟩ := H
                            replace H : (if t166 = 0 then (if 0 ≤ (wrap64 ((wrap64 ((l0.length : Int) + (l1.length : Int))) - 1)) then (if (wrap64 ((wrap64 ((l0.length : Int) + (l1.length : Int))) - 1)) ≤ (t165.length : Int) then ((slices_Clone_uint32_uint32.f (t165.take ((wrap64 ((wrap64 ((l0.length : Int) + (l1.length : Int))) - 1)) : Int).toNat)).bind fun t173 => (some (t173, 0))) else (none)) else (none)) else (some (([] : List Int), t166))) = some (r1, r2) := H
                            have A42 := Aside0.mk A420
                            clear A420
                            by_cases c43 : t166 = 0
                            · rw [if_pos c43] at H
                              have c43b0 : (t166 == 0) = true := beq_iff_eq.mpr c43
                              have c43b1 : (t166 != 0) = false := bne_eq_false_iff_eq.mpr c43
                              clear c43
                              obtain ⟨ji44, hji44⟩ : ∃ j_ : Int, (wrap64 ((wrap64 ((l0.length : Int) + (l1.length : Int))) - 1)) = j_ := ⟨_, rfl⟩
                              replace H : (if 0 ≤ (ji44) then (if (ji44) ≤ (t165.length : Int) then ((slices_Clone_uint32_uint32.f (t165.take ((ji44) : Int).toNat)).bind fun t173 => (some (t173, 0))) else (none)) else (none)) = some (r1, r2) := by first | (rw [hji44] at H; exact H) | (simp only [hji44] at H ⊢; exact H)
                              (try rw [hji44] at A42)
                              have hji44w : (IntKind.i64.wrap ((wrap64 ((l0.length : Int) + (l1.length : Int))) - 1)) = ji44 := (i64_w _).trans hji44
                              by_cases c45 : 0 ≤ (ji44)
                              · rw [if_pos c45] at H
                                have c45b0 := eq_true c45
                                have c45b1 : decide (0 ≤ (ji44)) = true := decide_eq_true c45
                                clear c45
                                by_cases c46 : (ji44) ≤ (t165.length : Int)
                                · rw [if_pos c46] at H
                                  have c46b0 := eq_true c46
                                  have c46b1 : decide ((ji44) ≤ (t165.length : Int)) = true := decide_eq_true c46
                                  clear c46
                                  obtain ⟨y169, hy169⟩ : ∃ y_ : List Int, y_ = (t165.take ((ji44) : Int).toNat) := ⟨_, rfl⟩
                                  replace H : ((slices_Clone_uint32_uint32.f y169).bind fun t173 => (some (t173, 0))) = some (r1, r2) := by first | (rw [hy169]; with_reducible exact H) | (have H2_ := (Option.bind_some _ _).symm.trans H; rw [hy169]; with_reducible exact H2_) | (have H2_ := (Option.bind_some _ _).symm.trans H; with_reducible exact H2_) | with_reducible exact H | (rw [hy169]; exact H) | exact H
                                  have Ny169 := Aside0.mk hy169
                                  clear hy169
                                  replace H := Option.bind_eq_some_iff.mp H
                                  obtain ⟨t173, A470, H⟩ := H
                                  replace H : (some (t173, 0)) = some (r1, r2) := H
                                  have A47 := Aside0.mk A470
                                  clear A470
                                  simp only [Option.some.injEq, Prod.mk.injEq] at H
                                  obtain ⟨rfl, rfl⟩ := H
                                  go_wp2_with (first | ((with_reducible refine gate_callee (f := 12) rfl ?_); refine goesL_ (some 94) rfl rfl Try.func12 (by kernel_rfl) rfl #[.slice Ao32 x8_2.length co32, .bool true] rfl (by (try simp only [List.map_toArray, List.map_cons, List.map_nil]); first | done | rfl | (simp only [List.length_drop, List.length_take]; rfl)) ?_; (with_reducible refine (ntt_Transform.calls k2 _ _ x8_2 true t165 t166 _ ?side1 ?side2 A42.out).mono ?_); (case side1 => repeat (first | exact (Kd.R_reads' HO_8.out).2.2 | (with_reducible refine Kd.C_alloc ?_ _) | (with_reducible refine Kd.C_drewN ?_ _) | (with_reducible refine Kd.C_drew ?_))); (case side2 => exact (Kd.R_reads' HO_8.out).2.1); rintro e w48 ⟨v167, rfl, ho0, hb⟩; refine ⟨_, rfl, ?_⟩; have n0_ := Aside0.mk (Kd.R_elder' (by (with_reducible repeat (first | apply Kd.R_alloc | apply Kd.R_drewN | apply Kd.R_drew)); exact HO_8.out) (Kd.R_base ho0) hb); have n1_ := Aside0.mk (Kd.R_elder' (by (with_reducible repeat (first | apply Kd.R_alloc | apply Kd.R_drewN | apply Kd.R_drew)); exact HO_10.out) (Kd.R_base ho0) hb); have n2_ := Aside0.mk (Kd.R_lower (Kd.R_new' (Kd.R_new' ho0 (Kd.R_lt (by (with_reducible repeat (first | apply Kd.R_alloc | apply Kd.R_drewN | apply Kd.R_drew)); exact HO_8.out))) (Kd.R_lt (by (with_reducible repeat (first | apply Kd.R_alloc | apply Kd.R_drewN | apply Kd.R_drew)); exact HO_10.out))) (below_size (by repeat (first | (with_reducible first | exact HB.out | apply below_alloc | apply pw_below_drewN | apply below_drew1) | exact HB.out)))); have n3_ := Aside0.mk (below_step (by repeat (first | (with_reducible first | exact HB.out | apply below_alloc | apply pw_below_drewN | apply below_drew1) | exact HB.out)) hb); clear HO_8; clear HO_10; clear HB; have HO_8 := n0_; have HO_10 := n1_; have HO168 := n2_; have HB := n3_; clear n0_ n1_ n2_ n3_; (try clear hb); (try clear hb2); (try clear hk); (try clear hi); (try clear ho0); obtain ⟨Ao50, co50, eo50⟩ := Kd.R_slice HO168.out; subst eo50; have q49 : ((ji44) : Int) ≤ ((t165.length : Int) : Int) := of_decide_eq_true (by first | (with_reducible assumption) | assumption); obtain ⟨i049, hi049, _, hsz49, _⟩ := info_parts info36; have hroom49 : t165.length ≤ co50 := (Kd.R_reads' HO168.out).2.1; have hC49 : Kd.C (Kd.int .u32) _ Ao50 t165.length t165 := (Kd.R_reads' HO168.out).2.2; have hcut49 := cut_to (P := Try.prog) 22 36 .i64 Try.underlying22 hi049 Ao50 t165.length co50 (ji44) (of_decide_eq_true (by first | (with_reducible assumption) | assumption)) q49 hroom49; have hr49 := Kd.C_take (m := ((ji44) : Int).toNat) hC49 (Int.toNat_le.mpr q49); have hy49 : y169.length = ((ji44) : Int).toNat := (by rw [Ny169.out, List.length_take]; exact Nat.min_eq_left (Int.toNat_le.mpr q49)); rw [← Ny169.out] at hr49; rw [← hy49] at hcut49; have HR172 := Aside0.mk hr49; have HC172 := Aside0.mk (show y169.length ≤ co50 from  Nat.le_trans (Nat.le_of_eq hy49) (Nat.le_trans (Int.toNat_le.mpr q49) hroom49)); clear hr49 hC49 hroom49 hi049 hsz49; have KY49 := Aside0.mk hy49; clear hy49; have KL49 := Aside0.mk (show ((ji44) : Int).toNat ≤ t165.length from  Int.toNat_le.mpr q49); replace q49 := eq_true q49) | ((with_reducible refine gate_callee (f := 21) rfl ?_); refine goesL_ (some 103) rfl rfl Try.func21 (by kernel_rfl) rfl #[.slice Ao50 y169.length co50] rfl (by (try simp only [List.map_toArray, List.map_cons, List.map_nil]); first | done | rfl | (simp only [List.length_drop, List.length_take]; rfl)) ?_; (with_reducible refine (slices_Clone_uint32_uint32.calls _ _ y169 t173 _ ?side1 ?side2 A47.out).mono ?_); (case side1 => repeat (first | exact (by repeat (first | (with_reducible exact HR172.out) | (with_reducible refine Kd.C_alloc ?_ _) | (with_reducible refine Kd.C_drewN ?_ _) | (with_reducible refine Kd.C_drew ?_) | exact HR172.out)) | (with_reducible refine Kd.C_alloc ?_ _) | (with_reducible refine Kd.C_drewN ?_ _) | (with_reducible refine Kd.C_drew ?_))); (case side2 => exact HC172.out); rintro e w51 ⟨v174, rfl, ho0, hb⟩; refine ⟨_, rfl, ?_⟩; have n0_ := Aside0.mk (Kd.R_elder' (by (with_reducible repeat (first | apply Kd.R_alloc | apply Kd.R_drewN | apply Kd.R_drew)); exact HO_8.out) (Kd.R_base ho0) hb); have n1_ := Aside0.mk (Kd.R_elder' (by (with_reducible repeat (first | apply Kd.R_alloc | apply Kd.R_drewN | apply Kd.R_drew)); exact HO_10.out) (Kd.R_base ho0) hb); have n2_ := Aside0.mk (Kd.R_elder' (by (with_reducible repeat (first | apply Kd.R_alloc | apply Kd.R_drewN | apply Kd.R_drew)); exact HO168.out) (Kd.R_base ho0) hb); have n3_ := Aside0.mk (Kd.R_lower (Kd.R_new' (Kd.R_new' (Kd.R_new' ho0 (Kd.R_lt (by (with_reducible repeat (first | apply Kd.R_alloc | apply Kd.R_drewN | apply Kd.R_drew)); exact HO_8.out))) (Kd.R_lt (by (with_reducible repeat (first | apply Kd.R_alloc | apply Kd.R_drewN | apply Kd.R_drew)); exact HO_10.out))) (Kd.R_lt (by (with_reducible repeat (first | apply Kd.R_alloc | apply Kd.R_drewN | apply Kd.R_drew)); exact HO168.out))) (below_size (by repeat (first | (with_reducible first | exact HB.out | apply below_alloc | apply pw_below_drewN | apply below_drew1) | exact HB.out)))); have n4_ := Aside0.mk (Kd.C_below (by repeat (first | (with_reducible exact HR172.out) | (with_reducible refine Kd.C_alloc ?_ _) | (with_reducible refine Kd.C_drewN ?_ _) | (with_reducible refine Kd.C_drew ?_) | exact HR172.out)) hb); have n5_ := Aside0.mk (below_step (by repeat (first | (with_reducible first | exact HB.out | apply below_alloc | apply pw_below_drewN | apply below_drew1) | exact HB.out)) hb); clear HO_8; clear HO_10; clear HO168; clear HR172; clear HB; have HO_8 := n0_; have HO_10 := n1_; have HO168 := n2_; have HO175 := n3_; have HR172 := n4_; have HB := n5_; clear n0_ n1_ n2_ n3_ n4_ n5_; (try clear hb); (try clear hb2); (try clear hk); (try clear hi); (try clear ho0)))
                                  go_ret2
                                  exact ⟨_, by first | rfl | (simp [errW_none, errW_some] <;> rfl) | (simp only [← hji13, ← hji15, ← hji20, ← hji44]; first | rfl | (simp [errW_none, errW_some] <;> rfl)) | (simp [*, errW_none, errW_some] <;> rfl), by (with_reducible repeat (first | apply Kd.R_alloc | apply Kd.R_drewN | apply Kd.R_drew)); exact Kd.R_mono HO175.out (fun _ hk => trivial), by repeat (first | (with_reducible first | exact HB.out | apply below_alloc | apply pw_below_drewN | apply below_drew1) | exact HB.out)⟩
                                · rw [if_neg c46] at H
                                  exact absurd H (by simp)
                              · rw [if_neg c45] at H
                                exact absurd H (by simp)
                            · rw [if_neg c43] at H
                              have c43b0 : (t166 == 0) = false := beq_eq_false_iff_ne.mpr c43
                              have c43b1 : (t166 != 0) = true := bne_iff_ne.mpr c43
                              simp only [Option.some.injEq, Prod.mk.injEq] at H
                              obtain ⟨rfl, rfl⟩ := H
                              go_wp2_with (first | ((with_reducible refine gate_callee (f := 12) rfl ?_); refine goesL_ (some 94) rfl rfl Try.func12 (by kernel_rfl) rfl #[.slice Ao32 x8_2.length co32, .bool true] rfl (by (try simp only [List.map_toArray, List.map_cons, List.map_nil]); first | done | rfl | (simp only [List.length_drop, List.length_take]; rfl)) ?_; (with_reducible refine (ntt_Transform.calls k2 _ _ x8_2 true t165 t166 _ ?side1 ?side2 A42.out).mono ?_); (case side1 => repeat (first | exact (Kd.R_reads' HO_8.out).2.2 | (with_reducible refine Kd.C_alloc ?_ _) | (with_reducible refine Kd.C_drewN ?_ _) | (with_reducible refine Kd.C_drew ?_))); (case side2 => exact (Kd.R_reads' HO_8.out).2.1); rintro e w52 ⟨v167, rfl, ho0, hb⟩; refine ⟨_, rfl, ?_⟩; have n0_ := Aside0.mk (Kd.R_elder' (by (with_reducible repeat (first | apply Kd.R_alloc | apply Kd.R_drewN | apply Kd.R_drew)); exact HO_8.out) (Kd.R_base ho0) hb); have n1_ := Aside0.mk (Kd.R_elder' (by (with_reducible repeat (first | apply Kd.R_alloc | apply Kd.R_drewN | apply Kd.R_drew)); exact HO_10.out) (Kd.R_base ho0) hb); have n2_ := Aside0.mk (Kd.R_lower (Kd.R_new' (Kd.R_new' ho0 (Kd.R_lt (by (with_reducible repeat (first | apply Kd.R_alloc | apply Kd.R_drewN | apply Kd.R_drew)); exact HO_8.out))) (Kd.R_lt (by (with_reducible repeat (first | apply Kd.R_alloc | apply Kd.R_drewN | apply Kd.R_drew)); exact HO_10.out))) (below_size (by repeat (first | (with_reducible first | exact HB.out | apply below_alloc | apply pw_below_drewN | apply below_drew1) | exact HB.out)))); have n3_ := Aside0.mk (below_step (by repeat (first | (with_reducible first | exact HB.out | apply below_alloc | apply pw_below_drewN | apply below_drew1) | exact HB.out)) hb); clear HO_8; clear HO_10; clear HB; have HO_8 := n0_; have HO_10 := n1_; have HO168 := n2_; have HB := n3_; clear n0_ n1_ n2_ n3_; (try clear hb); (try clear hb2); (try clear hk); (try clear hi); (try clear ho0)))
                              go_ret2
                              exact ⟨_, by first | rfl | (simp [errW_none, errW_some] <;> rfl) | (simp only [← hji13, ← hji15, ← hji20]; first | rfl | (simp [errW_none, errW_some] <;> rfl)) | (simp [*, errW_none, errW_some] <;> rfl), by first | exact Kd.R_nil _ _ _ _ _ | exact Kd.N_nil _ _ _ _ _ | exact Kd.V_nil _ _ _ _ _ | exact Kd.Q_nil _ _ _ _ _ | exact Kd.S_nil _ _ _ _ _, by repeat (first | (with_reducible first | exact HB.out | apply below_alloc | apply pw_below_drewN | apply below_drew1) | exact HB.out)⟩
                    · rw [if_neg c22] at H
                      exact absurd H (by simp)
                  · rw [if_neg c21] at H
                    exact absurd H (by simp)
                · rw [if_neg c17] at H
                  exact absurd H (by simp)
              · rw [if_neg c16] at H
                exact absurd H (by simp)
            · rw [if_neg c12] at H
              exact absurd H (by simp)
          · replace c10 := Bool.eq_false_iff.mpr c10
            subst c10
            have H1 : (some (([] : List Int), 1)) = some (r1, r2) := by rw [if_neg (show ¬ (false = true) by decide)] at H; exact H
            clear H
            have H := H1
            clear H1
            simp only [Option.some.injEq, Prod.mk.injEq] at H
            obtain ⟨rfl, rfl⟩ := H
            go_wp2_with (first | ((with_reducible refine gate_callee (f := 19) rfl ?_); refine goesL_ (some 34) rfl rfl Try.func19 (by kernel_rfl) rfl #[.slice A0 l0.length c0] rfl (by (try simp only [List.map_toArray, List.map_cons, List.map_nil]); first | done | rfl | (simp only [List.length_drop, List.length_take]; rfl)) ?_; (with_reducible refine (ntt_whole.calls kj2 _ _ l0 true _ ?side1 ?side2 A7.out).mono ?_); (case side1 => repeat (first | exact (Kd.C_below HR0.out HB.out) | (with_reducible refine Kd.C_alloc ?_ _) | (with_reducible refine Kd.C_drewN ?_ _) | (with_reducible refine Kd.C_drew ?_))); (case side2 => exact HC0.out); rintro e w' ⟨rfl, ⟨nd, rfl⟩⟩; refine ⟨_, rfl, ?_⟩) | (go_at_call 19; (with_reducible refine (ntt_whole.calls kj2 _ _ l1 false _ ?side1 ?side2 A9.out).mono ?_); (case side1 => repeat (first | exact (Kd.C_below HR1.out (by repeat (first | (with_reducible first | exact HB.out | apply below_alloc | apply pw_below_drewN | apply below_drew1) | exact HB.out))) | (with_reducible refine Kd.C_alloc ?_ _) | (with_reducible refine Kd.C_drewN ?_ _) | (with_reducible refine Kd.C_drew ?_))); (case side2 => exact HC1.out); rintro e w' ⟨rfl, ⟨nd, rfl⟩⟩))
            go_ret2
            exact ⟨_, by first | rfl | (simp [errW_none, errW_some] <;> rfl) | (simp [*, errW_none, errW_some] <;> rfl), by first | exact Kd.R_nil _ _ _ _ _ | exact Kd.N_nil _ _ _ _ _ | exact Kd.V_nil _ _ _ _ _ | exact Kd.Q_nil _ _ _ _ _ | exact Kd.S_nil _ _ _ _ _, by repeat (first | (with_reducible first | exact HB.out | apply below_alloc | apply pw_below_drewN | apply below_drew1) | exact HB.out)⟩
        · replace c8 := Bool.eq_false_iff.mpr c8
          subst c8
          have H1 : (some (([] : List Int), 1)) = some (r1, r2) := by rw [if_neg (show ¬ (false = true) by decide)] at H; exact H
          clear H
          have H := H1
          clear H1
          simp only [Option.some.injEq, Prod.mk.injEq] at H
          obtain ⟨rfl, rfl⟩ := H
          go_wp2_with (first | ((with_reducible refine gate_callee (f := 19) rfl ?_); refine goesL_ (some 34) rfl rfl Try.func19 (by kernel_rfl) rfl #[.slice A0 l0.length c0] rfl (by (try simp only [List.map_toArray, List.map_cons, List.map_nil]); first | done | rfl | (simp only [List.length_drop, List.length_take]; rfl)) ?_; (with_reducible refine (ntt_whole.calls kj2 _ _ l0 false _ ?side1 ?side2 A7.out).mono ?_); (case side1 => repeat (first | exact (Kd.C_below HR0.out HB.out) | (with_reducible refine Kd.C_alloc ?_ _) | (with_reducible refine Kd.C_drewN ?_ _) | (with_reducible refine Kd.C_drew ?_))); (case side2 => exact HC0.out); rintro e w' ⟨rfl, ⟨nd, rfl⟩⟩; refine ⟨_, rfl, ?_⟩))
          go_ret2
          exact ⟨_, by first | rfl | (simp [errW_none, errW_some] <;> rfl) | (simp [*, errW_none, errW_some] <;> rfl), by first | exact Kd.R_nil _ _ _ _ _ | exact Kd.N_nil _ _ _ _ _ | exact Kd.V_nil _ _ _ _ _ | exact Kd.Q_nil _ _ _ _ _ | exact Kd.S_nil _ _ _ _ _, by repeat (first | (with_reducible first | exact HB.out | apply below_alloc | apply pw_below_drewN | apply below_drew1) | exact HB.out)⟩
/-! ### anticlineref8_small: function 23 -/
def anticlineref8_small.l0 : Nat → List Int → Int → Option (Bool)
  | 0, _, _ => none
  | k + 1, x0, x3 => if x3 < (x0.length : Int) then (if 0 ≤ x3 then (if (rd x0 x3) ≥ 998244353 then (some false) else (anticlineref8_small.l0 k x0 (wrap64 (x3 + 1)))) else (none)) else (some true)
def anticlineref8_small.f (k : Nat) (l0 : List Int) : Option (Bool) := anticlineref8_small.l0 k l0 0
theorem anticlineref8_small.mono_l : ∀ k, (∀ y0 y1, LeO (anticlineref8_small.l0 k y0 y1) (anticlineref8_small.l0 (k + 1) y0 y1))
  | 0 => fun _ _ r h => by simp [anticlineref8_small.l0] at h
  | k + 1 => by
    have ih0 := anticlineref8_small.mono_l k
    · intro y0 y1
      unfold anticlineref8_small.l0
      repeat' first
      | (with_reducible exact ih0 _ _)
      | (with_reducible exact LeO.refl _)
      | (with_reducible exact LeO.none _)
      | (with_reducible refine LeO.ite ?_ ?_)
      | (with_reducible refine LeO.bind ?_ (fun _ => ?_))
      | exact ih0 _ _
      | exact LeO.none _
      | refine LeO.ite ?_ ?_
      | refine LeO.bind ?_ (fun _ => ?_)
theorem anticlineref8_small.mono : ∀ a0 k, LeO (anticlineref8_small.f k a0) (anticlineref8_small.f (k + 1) a0) := by
  intro a0 k
  have ih0 := anticlineref8_small.mono_l k
  unfold anticlineref8_small.f
  repeat' first
      | (with_reducible exact ih0 _ _)
      | (with_reducible exact LeO.refl _)
      | (with_reducible exact LeO.none _)
      | (with_reducible refine LeO.ite ?_ ?_)
      | (with_reducible refine LeO.bind ?_ (fun _ => ?_))
      | exact ih0 _ _
      | exact LeO.none _
      | refine LeO.ite ?_ ?_
      | refine LeO.bind ?_ (fun _ => ?_)
set_option maxHeartbeats 8000000 in
set_option maxRecDepth 100000 in
theorem anticlineref8_small.calls (k : Nat) (A0 : Option Addr) (c0 : Nat) (l0 : List Int) (r : Bool) (w : World) (hr0 : Kd.C (Kd.int .u32) w A0 l0.length l0) (hc0 : l0.length ≤ c0) (h : anticlineref8_small.f k l0 = some r) :
    Calls Try.prog 23 #[.slice A0 l0.length c0] w fun e w' => e = .returned (.bool r) ∧ Drawn0 w w' := by
  have HR0 := Aside0.mk hr0
  have HC0 := Aside0.mk hc0
  clear hr0 hc0
  have H : (anticlineref8_small.l0 k l0 0) = some r := h
  clear h
  have H' := Aside0.mk H
  clear H
  go_enter Try.func23, Try.ntmps23
  go_wp2
  go_loopg [3] k (fun kq v3 w' => ∃ (x3_1 : Int), v3 = .int .i64 x3_1 ∧ Aside0 (anticlineref8_small.l0 kq l0 x3_1 = some r) ∧ Aside0 (kq ≤ k) ∧ Drawn0 w w')
  case atStart => exact ⟨(0), (by first | rfl | (simp; done) | (simp [*]; done)), H', ⟨Nat.le_refl _⟩, by repeat (first | exact Drawn0.refl _ | apply Drawn0.step)⟩
  case round =>
    clear H'
    obtain ⟨x3_1, rfl, HA, HK1, ⟨m1, rfl⟩⟩ := hrel
    cases gk with
    | zero => exact absurd HA.out (by simp [anticlineref8_small.l0])
    | succ k1 =>
      have H := HA.out
      clear HA
      simp only [anticlineref8_small.l0] at H
      by_cases c2 : x3_1 < (l0.length : Int)
      · rw [if_pos c2] at H
        have c2b0 : decide (x3_1 < (l0.length : Int)) = true := decide_eq_true c2
        clear c2
        by_cases c3 : 0 ≤ x3_1
        · rw [if_pos c3] at H
          have c3b0 : decide (0 ≤ x3_1) = true := decide_eq_true c3
          clear c3
          by_cases c4 : (rd l0 x3_1) ≥ 998244353
          · rw [if_pos c4] at H
            have c4b0 : decide (998244353 ≤ (rd l0 x3_1)) = true := decide_eq_true c4
            clear c4
            obtain rfl := Option.some.inj H
            have p176 : 0 ≤ (x3_1 : Int) := of_decide_eq_true (by first | (with_reducible assumption) | assumption)
            have q176 : x3_1 < (l0.length : Int) := of_decide_eq_true (by first | (with_reducible assumption) | assumption)
            obtain ⟨ad176, e176, hx176_0⟩ := Kd.at_int HR0.out x3_1 p176 q176
            cases e176
            replace p176 := eq_true p176
            replace q176 := eq_true q176
            go_wp2
            go_ret
            exact ⟨by first | rfl | (simp; done) | (simp [*]; done), by repeat (first | exact Drawn0.refl _ | apply Drawn0.step)⟩
          · rw [if_neg c4] at H
            have c4b0 : decide (998244353 ≤ (rd l0 x3_1)) = false := decide_eq_false c4
            clear c4
            have H' := Aside0.mk H
            clear H
            have p176 : 0 ≤ (x3_1 : Int) := of_decide_eq_true (by first | (with_reducible assumption) | assumption)
            have q176 : x3_1 < (l0.length : Int) := of_decide_eq_true (by first | (with_reducible assumption) | assumption)
            obtain ⟨ad176, e176, hx176_0⟩ := Kd.at_int HR0.out x3_1 p176 q176
            cases e176
            replace p176 := eq_true p176
            replace q176 := eq_true q176
            go_wp2
            go_roundg k1
            case measure => have := HK1.out; omega
            case rel => exact ⟨(wrap64 (x3_1 + 1)), (by first | rfl | (simp; done) | (simp [*]; done)), H', ⟨by have := HK1.out; omega⟩, by repeat (first | exact Drawn0.refl _ | apply Drawn0.step)⟩
        · rw [if_neg c3] at H
          exact absurd H (by simp)
      · rw [if_neg c2] at H
        have c2b0 : decide (x3_1 < (l0.length : Int)) = false := decide_eq_false c2
        clear c2
        obtain rfl := Option.some.inj H
        go_wp2
        go_ret
        exact ⟨by first | rfl | (simp; done) | (simp [*]; done), by repeat (first | exact Drawn0.refl _ | apply Drawn0.step)⟩
/-! ### anticlineref8_times: function 24 -/
def anticlineref8_times.f (a0 : Int) (a1 : Int) : Option (Int) := some ((Int.tmod (IntKind.u64.wrap ((IntKind.u64.wrap (a0)) * (IntKind.u64.wrap (a1)))) 998244353) % 4294967296)
set_option maxHeartbeats 8000000 in
set_option maxRecDepth 100000 in
theorem anticlineref8_times.calls (a0 : Int) (a1 : Int) (r : Int) (w : World) (h : anticlineref8_times.f a0 a1 = some r) :
    Calls Try.prog 24 #[.int .u32 a0, .int .u32 a1] w fun e w' => e = .returned (.int .u32 r) ∧ Drawn0 w w' := by
  have H : (some ((Int.tmod (IntKind.u64.wrap ((IntKind.u64.wrap (a0)) * (IntKind.u64.wrap (a1)))) 998244353) % 4294967296)) = some r := h
  clear h
  obtain rfl := Option.some.inj H
  go_enter Try.func24, Try.ntmps24
  go_wp2
  go_ret
  exact ⟨by first | rfl | (simp; done) | (simp [*]; done), by repeat (first | exact Drawn0.refl _ | apply Drawn0.step)⟩
end Go.Proofs.Ytggicfmbdmjhkaa.F

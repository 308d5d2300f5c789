/- The law FastBig: whatever the input, it returns true, and the input reads as it did. Conditions: those of the given statement, none beyond. -/
import Derived.Test.YtpclkgjhfhhddaaGreatRows
import Derived.Test.YtpclkgjhfhhddaaGreatJLawFastBig25
import Derived.WalkKit
import Derived.ProofKit
import Derived.OpenShut
import Derived.ShutString
import Derived.ChangeOld
import Derived.Below
import Derived.SizedLaws
namespace Go.Proofs.YtpclkgjhfhhddaaGreat.V
open Go Go.RowKit Go.Proofs.YtpclkgjhfhhddaaGreat.AM Go.Proofs.YtpclkgjhfhhddaaGreat.PN
theorem law_walk (a0 : Int) (a1 : Int) (a2 : Bool) (u2 v2 : Value) (n2 d2 : List Nat) (a3 : Bool) (u3 v3 : Value) (n3 d3 : List Nat) (a4 : Option Addr) (len4 cap4 : Nat) (z4 : List Int) (W : World) (w0 : (Lit.int .i64 a0).wf = true) (w1 : (Lit.int .i64 a1).wf = true) (w2 : ((LF n2 ∧ n2.length ≤ 9223372036854775807) ∧ PLb (fun _ => True) W u2 n2) ∧ (LF d2 ∧ d2.length ≤ 9223372036854775807) ∧ PLb (fun _ => True) W v2 d2) (w3 : ((LF n3 ∧ n3.length ≤ 9223372036854775807) ∧ PLb (fun _ => True) W u3 n3) ∧ (LF d3 ∧ d3.length ≤ 9223372036854775807) ∧ PLb (fun _ => True) W v3 d3) (w4 : IsRow .i64 W a4 len4 cap4 z4) :
    Calls Tryz.prog 3 #[.int .i64 a0, .int .i64 a1, .agg #[.bool a2, u2, v2], .agg #[.bool a3, u3, v3], .slice a4 len4 cap4] W fun e w' => e = .returned (.bool true) ∧ Below W.heap.size W w' := by
  let β : Nat → Nat → Value := fun _ _ => .bool false
  obtain ⟨y4, f4, g4⟩ := row_seq w4 W.heap.size β
  have h := (k_big (fit_wf w0) (fit_wf w1) a2 w2.1.1.1 w2.2.1.1 w2.1.1.2 w2.2.1.2 a3 w3.1.1.1 w3.2.1.1 w3.1.1.2 w3.2.1.2 f4).run W (fun _ => True) β [.int .i64 a0, .int .i64 a1, .agg #[.bool a2, u2, v2], .agg #[.bool a3, u3, v3], .slice a4 len4 cap4] ⟨rfl, fun i x v hx hv => by
    match i, hx, hv with
    | 0, hx, hv => cases hx; cases hv; exact rfl
    | 1, hx, hv => cases hx; cases hv; exact rfl
    | 2, hx, hv => cases hx; cases hv; exact rv_num w2.1.2 w2.2.2
    | 3, hx, hv => cases hx; cases hv; exact rv_num w3.1.2 w3.2.2
    | 4, hx, hv => cases hx; cases hv; exact g4⟩
  refine h.mono ?_
  rintro e w' ⟨v, rfl, hk, hv⟩
  have hv : v = .bool true := hv
  subst hv
  exact ⟨rfl, hk⟩
end Go.Proofs.YtpclkgjhfhhddaaGreat.V
namespace Go.Proofs.YtpclkgjhfhhddaaGreat.fastBig
open Go.ChangeShapes Go.WideShapes Go.ChangeAt Go.RowKit
open Go.ChangeMaps (open_string shut_string)
set_option linter.unusedVariables false
theorem own : ownKnob Tryz.prog.godebug = none := by kernel_rfl
theorem laidOut : laidOutB Tryz.prog = true := by kernel_rfl
set_option maxRecDepth 100000 in
theorem lifted (os : Os) (started : os.Started) (H : Type) (enc : TypeId × Value → H) :
    ReturnsInHanded {} Tryz.checked os 3 .any (Rows.fastBigSpec.pre6 enc Tryz.prog Tryz.f3 Rows.fastBigRow.domain false) (Rows.fastBigSpec.post enc Tryz.prog Tryz.f3 false true false false) := by
  refine returnsInHanded_of_change_sized (C := Tryz.checked) own started (by kernel_rfl) Tryz.func3
    (ChangeSpec.witness6 (enc := enc) (C := Tryz.checked) false ⟨#[], #[.int .i64 0, .int .i64 0, .agg #[.bool false, .slice none 0 0, .slice none 0 0], .agg #[.bool false, .slice none 0 0, .slice none 0 0], .slice none 0 0], []⟩ 8 (by kernel_rfl) (by kernel_rfl) (by kernel_rfl) (by kernel_rfl)) ?_
  intro W base args ds gs before hval0 hW hcnd hsz0 _
  have hval : ∀ (j : Nat) t v, Tryz.f3.params[j]? = some t → args[j]? = some v → Value.okWide Tryz.prog W .any base t v := hval0
  have hW' := hW
  obtain ⟨p, q, hA0, hV, rfl, hfz, hnd⟩ := hW
  have hA : DataW.TrodAll enc Tryz.prog W 0 (fun _ => true) true Tryz.f3.params.toList args.toList ds p := hA0
  rw [Tryz.params3] at hA hval
  obtain ⟨v0, vs0, d0, ds0, p0, q0, hargs, rfl, rfl, h0, r0⟩ := trodAll_cons hA
  obtain ⟨v1, vs1, d1, ds1, p1, q1, rfl, rfl, rfl, h1, r1⟩ := trodAll_cons r0
  obtain ⟨v2, vs2, d2, ds2, p2, q2, rfl, rfl, rfl, h2, r2⟩ := trodAll_cons r1
  obtain ⟨v3, vs3, d3, ds3, p3, q3, rfl, rfl, rfl, h3, r3⟩ := trodAll_cons r2
  obtain ⟨v4, vs4, d4, ds4, p4, q4, rfl, rfl, rfl, h4, r4⟩ := trodAll_cons r3
  obtain ⟨rfl, rfl, rfl⟩ := trodAll_nil r4
  obtain rfl : args = #[v0, v1, v2, v3, v4] := by cases args; simp_all
  obtain ⟨rfl, rfl⟩ := trodVars_none hV
  obtain ⟨a0, rfl, rfl, rfl, w0⟩ := open_int Tryz.underlying3 (hval 0 3 v0 rfl rfl) h0
  obtain ⟨a1, rfl, rfl, rfl, w1⟩ := open_int Tryz.underlying3 (hval 1 3 v1 rfl rfl) h1
  have k2 := h2
  have lt2 : ∀ x ∈ p2, x.block < W.heap.size := by obtain ⟨m, hm⟩ := k2; exact DataW.trod_lt m _ _ _ hm
  obtain ⟨m2, hm2⟩ := h2
  obtain ⟨a2, x2, y2, n2, e2, hc2, w2⟩ := AM.trod_num (t := 24) ⟨_, _, _, Tryz.underlying24, rfl, rfl, rfl, rfl, rfl, rfl⟩ (by kernel_rfl) (by kernel_rfl) (by kernel_rfl) hm2
  obtain rfl := AM.cells3 hc2
  have k3 := h3
  have lt3 : ∀ x ∈ p3, x.block < W.heap.size := by obtain ⟨m, hm⟩ := k3; exact DataW.trod_lt m _ _ _ hm
  obtain ⟨m3, hm3⟩ := h3
  obtain ⟨a3, x3, y3, n3, e3, hc3, w3⟩ := AM.trod_num (t := 24) ⟨_, _, _, Tryz.underlying24, rfl, rfl, rfl, rfl, rfl, rfl⟩ (by kernel_rfl) (by kernel_rfl) (by kernel_rfl) hm3
  obtain rfl := AM.cells3 hc3
  obtain ⟨a4, len4, cap4, rfl⟩ := okWide_slice Tryz.underlying25 (hval 4 25 v4 rfl rfl)
  have k4 := h4
  have lt4 : ∀ x ∈ p4, x.block < W.heap.size := by obtain ⟨m, hm⟩ := k4; exact DataW.trod_lt m _ _ _ hm
  obtain ⟨z4, w4⟩ : ∃ zs, V.IsRow .i64 W a4 len4 cap4 zs := by
    obtain ⟨fuel, hf⟩ := h4
    rcases open_ints Tryz.underlying25 Tryz.underlying3 (by kernel_rfl) hf with ⟨hcs, _⟩ | ⟨x, l, c, zs, hcs, _, hl, hm, hz, _, hcell, hwz⟩
    · simp [Value.cells] at hcs
      obtain ⟨rfl, rfl, rfl⟩ := hcs
      exact ⟨[], .inl ⟨rfl, rfl, rfl, rfl⟩⟩
    · simp [Value.cells] at hcs
      obtain ⟨rfl, rfl, rfl⟩ := hcs
      exact ⟨zs, .inr ⟨_, rfl, hl, hm, by simpa using hz, hcell, hwz⟩⟩
  clear hA0 hval0 hsz0
  refine (V.law_walk a0 a1 a2 x2 y2 n2 e2 a3 x3 y3 n3 e3 a4 len4 cap4 z4 W w0 w1 w2 w3 w4).mono fun e W' ⟨he, bel⟩ => ?_
  subst he
  exact ⟨_, rfl, _, _, _, [], _, [], hW', trodAll_mk1 (shut_bool Tryz.underlying4 _), (trodAll_cons_mk (shut_int Tryz.underlying3 w0) (trodAll_cons_mk (shut_int Tryz.underlying3 w1) (trodAll_cons_mk (Below.trod laidOut (by kernel_rfl) (of_decide_eq_true (by kernel_rfl)) k2 bel lt2) (trodAll_cons_mk (Below.trod laidOut (by kernel_rfl) (of_decide_eq_true (by kernel_rfl)) k3 bel lt3) (trodAll_cons_mk (Below.trod laidOut (by kernel_rfl) (of_decide_eq_true (by kernel_rfl)) k4 bel lt4) trodAll_mk0))))), rfl, bel.frame _, fun h => by cases h⟩
theorem over : Rows.fastBigRow.holds Tryz.pinned (OpenSpec.ofChange Rows.fastBigSpec) :=
  OpenClaim.holds_of_wide 3 Tryz.f3 rfl rfl rfl rfl rfl rfl rfl ⟨rfl, rfl, rfl, rfl, rfl⟩ rfl rfl rfl rfl rfl (by kernel_rfl) Tryz.func3 (by kernel_rfl)
    (of_decide_eq_true (by kernel_rfl)) (by unfold Func.isWrapper; first | (rw [if_pos (by decide +kernel)]; kernel_rfl) | (rw [if_neg (by decide +kernel)]; exact ⟨rfl, rfl⟩))
    (fun os started H enc _ => lifted os started H enc)
end Go.Proofs.YtpclkgjhfhhddaaGreat.fastBig
namespace Go.Proofs.YtpclkgjhfhhddaaGreat
theorem fastBig_holds : Rows.FastBigSaid := fastBig.over
#print axioms fastBig_holds
end Go.Proofs.YtpclkgjhfhhddaaGreat

/- Joined texts, 24: OpG. -/
import Derived.Test.YtpclkgjhfhhddaaJLawGenChecks23
set_option linter.unusedVariables false
set_option linter.unusedSimpArgs false
/- Systems of seven parts that are handed in. -/
namespace Go.Proofs.Ytpclkgjhfhhddaa.AM
open Go Go.RowKit Go.Proofs.Ytpclkgjhfhhddaa.PN Go.Proofs.Ytpclkgjhfhhddaa.V Go.ChangeShapes
set_option linter.unusedVariables false
set_option linter.unusedSimpArgs false
set_option maxRecDepth 8000
section
variable {H : Type} {enc : TypeId × Value → H} {w : World} {spare : Nat → Bool} {held : Bool}
theorem trod_gen {t tr : TypeId} (hu : ∃ f0 f1 f2 f3 f4 f5 f6 : Field, Try.prog.underlying 26 = some (.struct #[f0, f1, f2, f3, f4, f5, f6]) ∧ (f0.type = t ∧ f1.type = t ∧ f2.type = t ∧ f3.type = 24 ∧ f4.type = 24 ∧ f5.type = 24 ∧ f6.type = 24) ∧ f0.offset = 0 ∧ f1.offset = 1 ∧ f2.offset = 2 ∧ f3.offset = 3 ∧ f4.offset = 4 ∧ f5.offset = 5 ∧ f6.offset = 6)
    (hi : Try.prog.underlying t = some (.int .i64)) (hc : Try.prog.cellsOf 26 = 7) (hci : Try.prog.cellsOf t = 1) (hcr : Try.prog.cellsOf 24 = 1)
    (hur : Try.prog.underlying 24 = some (.slice tr)) (hs : ∃ f0 f1 f2 : Field, Try.prog.underlying tr = some (.struct #[f0, f1, f2]) ∧ f0.type = 4 ∧ f1.type = 41 ∧ f2.type = 41 ∧ f0.offset = 0 ∧ f1.offset = 1 ∧ f2.offset = 2) (hc3 : Try.prog.cellsOf tr = 3) (h1 : Try.prog.cellsOf 4 = 1) (h2 : Try.prog.cellsOf 41 = 1)
    {fuel : Nat} {cs : List Value} {x : DataW H × List MemPlace} (h : DataW.trod enc Try.prog w 0 spare held fuel 26 cs = some x) (B : Nat) (β : Nat → Nat → Value) : ∃ v0 v1 v2 v3 v4 v5 v6 : Value, ∃ g : GR, cs = [v0, v1, v2, v3, v4, v5, v6] ∧ g.Fin ∧ RV (fun _ => True) B β w g.v (.agg #[v0, v1, v2, v3, v4, v5, v6]) := by
  obtain ⟨f0, f1, f2, f3, f4, f5, f6, hu, ⟨t0, t1, t2, t3, t4, t5, t6⟩, o0, o1, o2, o3, o4, o5, o6⟩ := hu
  obtain ⟨xs, n, _, _, hl, hlen, hf⟩ := DataW.trod_struct hu h
  rw [hc] at hl
  match xs, hlen, hf with
  | [y0, y1, y2, y3, y4, y5, y6], _, hf =>
    match cs, hl with
    | [v0, v1, v2, v3, v4, v5, v6], _ =>
      have q0 := hf 0 f0 rfl; have q1 := hf 1 f1 rfl; have q2 := hf 2 f2 rfl; have q3 := hf 3 f3 rfl; have q4 := hf 4 f4 rfl; have q5 := hf 5 f5 rfl; have q6 := hf 6 f6 rfl
      rw [t0, o0, hci] at q0; rw [t1, o1, hci] at q1; rw [t2, o2, hci] at q2
      rw [t3, o3, hcr] at q3; rw [t4, o4, hcr] at q4; rw [t5, o5, hcr] at q5; rw [t6, o6, hcr] at q6
      obtain ⟨a0, e0, _⟩ := DataW.trod_int hi q0
      obtain ⟨a1, e1, _⟩ := DataW.trod_int hi q1
      obtain ⟨a2, e2, _⟩ := DataW.trod_int hi q2
      obtain ⟨u3, r3, e3, p3, w3⟩ := trod_nums hur hs hc3 h1 h2 q3 B β
      obtain ⟨u4, r4, e4, p4, w4⟩ := trod_nums hur hs hc3 h1 h2 q4 B β
      obtain ⟨u5, r5, e5, p5, w5⟩ := trod_nums hur hs hc3 h1 h2 q5 B β
      obtain ⟨u6, r6, e6, p6, w6⟩ := trod_nums hur hs hc3 h1 h2 q6 B β
      have e0 : [v0] = [_] := e0; have e1 : [v1] = [_] := e1; have e2 : [v2] = [_] := e2; have e3 : [v3] = [_] := e3; have e4 : [v4] = [_] := e4; have e5 : [v5] = [_] := e5; have e6 : [v6] = [_] := e6
      cases e0; cases e1; cases e2; cases e3; cases e4; cases e5; cases e6
      refine ⟨_, _, _, _, _, _, _, ⟨a0, a1, a2, r3, r4, r5, r6⟩, rfl, ⟨p3, p4, p5, p6⟩, #[_, _, _, _, _, _, _], rfl, rfl, fun i hi => ?_⟩
      match i, hi with
      | 0, _ => exact ⟨_, rfl, rfl, rfl⟩
      | 1, _ => exact ⟨_, rfl, rfl, rfl⟩
      | 2, _ => exact ⟨_, rfl, rfl, rfl⟩
      | 3, _ => exact ⟨_, rfl, RV.one rfl w3, w3⟩
      | 4, _ => exact ⟨_, rfl, RV.one rfl w4, w4⟩
      | 5, _ => exact ⟨_, rfl, RV.one rfl w5, w5⟩
      | 6, _ => exact ⟨_, rfl, RV.one rfl w6, w6⟩
end
theorem cells7 {v a b c d e f g : Value} (h : v.cells.toList = [a, b, c, d, e, f, g]) : v = .agg #[a, b, c, d, e, f, g] := by
  cases v with
  | agg cs =>
    have h : cs.toList = [a, b, c, d, e, f, g] := h
    congr 1
    exact Array.ext' h
  | _ => cases h
end Go.Proofs.Ytpclkgjhfhhddaa.AM

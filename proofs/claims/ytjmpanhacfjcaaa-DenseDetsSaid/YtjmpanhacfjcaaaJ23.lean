/- Joined texts, 23: PRing AmV AmX. -/
import Derived.Test.YtjmpanhacfjcaaaJ22
import Derived.Test.YtjmpanhacfjcaaaJ20
/- Products of matrices: the plain laws that DenseRing asks for. -/
namespace Go.Proofs.Ytjmpanhacfjcaaa.AM
open Go.Proofs.Ytjmpanhacfjcaaa.LA (S S_succ S_zero S_congr S_mul S_mulr S_swap S_single)
set_option linter.unusedVariables false
set_option linter.unusedSimpArgs false
theorem ring_assoc (n : Nat) (A B C : Nat → Nat → Rat) (i j : Nat) : (S n fun k => (S n fun l => A i l * B l k) * C k j) = S n fun l => A i l * S n fun k => B l k * C k j := by
  have h1 : (S n fun k => (S n fun l => A i l * B l k) * C k j) = S n fun k => S n fun l => A i l * (B l k * C k j) := S_congr fun k _ => by
    rw [← S_mulr]
    exact S_congr fun l _ => Rat.mul_assoc _ _ _
  rw [h1, S_swap]
  exact S_congr fun l _ => S_mul _ _ _
theorem ring_apply (n : Nat) (A B : Nat → Nat → Rat) (v : Nat → Rat) (i : Nat) : (S n fun k => (S n fun l => A i l * B l k) * v k) = S n fun l => A i l * S n fun k => B l k * v k :=
  ring_assoc n A B (fun k _ => v k) i 0
theorem ring_one {n : Nat} (A : Nat → Nat → Rat) (i : Nat) {j : Nat} (hj : j < n) : (S n fun k => A i k * idm k j) = A i j := by
  rw [S_single hj (fun k _ hk => by unfold idm; rw [if_neg hk, Rat.mul_zero])]
  unfold idm
  rw [if_pos rfl, Rat.mul_one]
theorem ring_turn (n : Nat) (A B : Nat → Nat → Rat) (i j : Nat) : (S n fun k => A j k * B k i) = S n fun k => B k i * A j k :=
  S_congr fun k _ => Rat.mul_comm _ _
end Go.Proofs.Ytjmpanhacfjcaaa.AM
/- Limbs behind none: new limbs. -/
namespace Go.Proofs.Ytjmpanhacfjcaaa.AM
open Go Go.RowKit Go.Proofs.Ytjmpanhacfjcaaa.PN Go.Proofs.Ytjmpanhacfjcaaa.V
set_option linter.unusedVariables false
set_option linter.unusedSimpArgs false
theorem ok_build0 {o : Oper} {s : St} (ho : o.op = .buildSlice 27 0 #[]) : LOK Try.prog o s ⟨some .e0, [], []⟩ := by
  refine lok_kept fun s2 hl W N β w a hs K Q hK => ?_
  obtain ⟨i0, hi, hz0, hz1, hz2⟩ := info_parts info_u32
  have hrun : (Instr.buildSlice 27 0 (#[] : Array (Nat × Value))).run Try.prog w = .ok (.slice (some ⟨w.heap.size, 0, none⟩) 0 0) (w.alloc (.cells #[] U32)) :=
    run_buildSlice w Try.underlying27 hi hz0 hz1 (by omega) (by simp [Instr.fill, madeCells])
  unfold Oper.wp
  have he : (execOp a.eval o).run Try.prog w = .ok (.value (.slice (some ⟨w.heap.size, 0, none⟩) 0 0)) (w.alloc (.cells #[] U32)) := by
    unfold execOp; rw [ho]; simp only [Sem.run_bind]
    rw [show ((#[] : Array (Nat × Operand)).map fun p => (p.1, a.eval p.2)) = #[] from by simp, hrun]
    rfl
  rw [he]
  exact hK _ _ (Kept.alloc _ _) fun x hx => by cases hx; exact ⟨trivial, _, rfl, row_new w #[] U32⟩
theorem run_app0 {w : World} {g : Nat} {v : Value} {n : Nat} (hr : Row? w g #[] U32) (hn : NatS w (fun _ => True) v n) (hs : size n ≤ 1000000000000) (ty : TypeId) :
    ∃ v' w', (Builtin.append_ #[27, 27] ty #[.slice (some ⟨g, 0, none⟩) 0 0, v]).run Try.prog w = .ok v' w' ∧ Kept w w' ∧ NatS w' (fun _ => True) v' n := by
  obtain ⟨i0, hi, hz0, hz1, hz2⟩ := info_parts info_u32
  obtain ⟨A, c, rfl, hc, hx⟩ := hn
  by_cases h0 : size n = 0
  · refine ⟨.slice (some ⟨g, 0, none⟩) 0 0, w, ?_, Below.refl _ _, ?_⟩
    · rw [h0]
      cases A with
      | none => simp [Builtin.append_, run_underlying Try.underlying27, sizeOf, typeInfo, hi, Builtin.lenOf, Builtin.firstCells, storeCells]
      | some a => simp [Builtin.append_, run_underlying Try.underlying27, sizeOf, typeInfo, hi, Builtin.lenOf, Builtin.firstCells, storeCells, loadCells, loadCellsFrom, World.setCells]
    · show Dg w _ _ n (size n)
      rw [h0]
      exact ⟨_, _, rfl, Nat.le_refl _, fun i hi => absurd hi (Nat.not_lt_zero _)⟩
  · obtain ⟨A', c', e, _, hat⟩ := Dg.at (s := n) (⟨A, c, rfl, hc, hx⟩ : Dg w (fun _ => True) (.slice A (size n) c) n (size n))
    cases e
    obtain ⟨b, off, e1, _⟩ := hat 0 (by omega)
    subst e1
    obtain ⟨v', w', h1, h2, h3⟩ := run_append_arg_grows (P := Try.prog) w 27 ty U32 i0 (.int .u32 0) 1 4 Try.underlying27 hi hz0 hz1 hz2 rfl (by decide) ⟨g, 0, none⟩ 0 0 [] rfl (by simp) ⟨b, off, none⟩ (size n) c (lim n (size n)) (by rw [lim_length, Nat.mul_one]) (hat.cells_any) (by omega) (by unfold maxLen; omega) (by omega)
    refine ⟨v', w', h1, Kept.grown (Below.refl _ _) h3 (fun k hk => by cases hk), ?_⟩
    have h4 := Dg.of_own (s := n) (n := size n) h2 (by omega) rfl
    obtain ⟨A2, c2, q1, q2, q3⟩ := h4
    exact ⟨A2, c2, q1, q2, fun i hi => by obtain ⟨b, off, cs, a1, a2, a3, a4⟩ := q3 i hi; exact ⟨b, off, cs, a1, trivial, a3, a4⟩⟩
/-- The whole number whose limbs a value is. -/
def numA : AV → Option Nat
  | .nat n => some n
  | .rn (.q p) => some (nm p)
  | .rd (.q p) => some p.den
  | _ => none
theorem numA_rv {y : AV} {n : Nat} (h : numA y = some n) {S : Nat → Prop} {B : Nat} {β : Nat → Nat → Value} {w : World} {v : Value} : RV S B β w y v ↔ NatS w (fun _ => True) v n := by
  unfold numA at h
  split at h <;> cases h <;> exact Iff.rfl
theorem numA_ok {y : AV} {n : Nat} (h : numA y = some n) (U : Nat → Bool) : y.ok U := by
  unfold numA at h
  split at h <;> cases h <;> trivial
theorem ok_app0 {o : Oper} {s : St} {x y : Operand} {Y : AV} {n : Nat} (ho : o.op = .call { callee := .builtin .append, args := #[x, y], argTypes := #[27, 27] }) (hx : avo s x = some .e0) (hy : avo s y = some Y) (hn : numA Y = some n) (hs : size n ≤ 1000000000000) : LOK Try.prog o s ⟨some Y, [], []⟩ := by
  refine lok_kept fun s2 hl W N β w a hsim K Q hK => ?_
  obtain ⟨_, g, h1, hr⟩ := hsim.opd (x := x) (by rw [hl.avo (by rw [ho]; simp [Op.operands, Call.operands])]; exact hx)
  obtain ⟨_, h2⟩ := hsim.opd (x := y) (by rw [hl.avo (by rw [ho]; simp [Op.operands, Call.operands])]; exact hy)
  obtain ⟨v', w', hrun, hk, hv⟩ := run_app0 hr ((numA_rv hn).1 h2) hs o.type
  have he : (execOp a.eval o).run Try.prog w = .ok (.value v') w' := by
    unfold execOp; rw [ho]; simp only [resolve, List.map_toArray, List.map_cons, List.map_nil]; rw [h1]
    simp only [Sem.run_bind, Sem.run_pure, Result.andThen_ok, invoke, builtin, hrun]
  unfold Oper.wp
  rw [he]
  exact hK _ _ hk fun x hx => by cases hx; exact ⟨numA_ok hn _, (numA_rv hn).2 hv⟩
section
variable {ops : Array Oper} {l : List Oper} {s : St} {acc : List Fp} {K : St → List Fp → Prop} {d : Option Tmp} {ty : TypeId} {ps : String} {aft : Array Edge}
theorem st_build0 (k : AOps Try.prog ops l (nxt s d (some .e0) []) (([], []) :: acc) K) : AOps Try.prog ops (⟨d, .buildSlice 27 0 #[], ty, ps, aft, none⟩ :: l) s acc K := st_lok (ok_build0 rfl) k
theorem st_app0 {x y : Operand} {Y : AV} {n : Nat} (hx : avo s x = some .e0) (hy : avo s y = some Y) (hn : numA Y = some n) (hs : size n ≤ 1000000000000) (k : AOps Try.prog ops l (nxt s d (some Y) []) (([], []) :: acc) K) : AOps Try.prog ops (⟨d, .call ⟨.builtin .append, #[x, y], #[27, 27]⟩, ty, ps, aft, none⟩ :: l) s acc K := st_lok (ok_app0 rfl hx hy hn hs) k
end
theorem ok_build_num {o : Oper} {s : St} {parts : Array (Nat × Operand)} {ys : List (Nat × AV)} {b : Bool} {Y1 Y2 : AV} {n m : Nat} (q : Rat) (ho : o.op = .build RT parts) (hp : partsA s parts.toList = some ys) (hok : (ys.all fun p => partOK p.2) = true) (hf : fillA [(0, 1), (1, 1), (2, 1)] [.v (.bool false), .v (.slice none 0 0), .v (.slice none 0 0)] ys = some [.v (.bool b), Y1, Y2]) (h1 : numA Y1 = some n) (h2 : numA Y2 = some m) (hb : b = ng q) (hn : n = nm q) (hm : m = q.den) :
    LOK Try.prog o s ⟨some (.ra (.q q)), [], []⟩ := by
  refine lok_val fun s2 hk W N β w a hs => ?_
  obtain ⟨c', hrun, hc⟩ := build_lay ho lay_rt hp hok hf hk hs
  refine ⟨_, hrun, fun x hx => ?_⟩
  cases hx
  obtain ⟨c'⟩ := c'
  have hl : c'.length = 3 := hc.1
  match c', hl with
  | [v0, v1, v2], _ =>
    have a0 := (hc.2 0 _ _ rfl rfl).2.2
    have a1 := (hc.2 1 _ _ rfl rfl).2.2
    have a2 := (hc.2 2 _ _ rfl rfl).2.2
    have a0 : v0 = .bool b := a0
    subst a0; subst hn; subst hm
    exact ⟨trivial, b, v1, v2, rfl, hb, (numA_rv h1).1 a1, (numA_rv h2).1 a2⟩
theorem k_neg {p : Rat} (hs : wt p ≤ 1000000) : Has Try.prog 34 [.q p] (.q (-p)) := by
  refine has_of Try.func34 (by kernel_rfl) rfl Try.ntmps34 Try.results34 rfl rfl rfl ?_
  have b1 := wt_num p
  have b2 := wt_den p
  cases hg : ng p with
  | true =>
    have hA : ((!(ng p)) == true) = false := by rw [hg]; rfl
    have hB : (!(ng p)) = false := by rw [hg]; rfl
    have hq : (false : Bool) = ng (-p) := by rw [neg_ng, hg]; rfl
    repeat(first|(with_reducible first|refine awp_seq ?_|refine awp_block ?_|refine awp_skip ?_|refine awp_exit ?_|refine awp_ret ?_|refine q_then ?_|refine q_block ?_|refine q_then_exit ?_|refine q_then_ret ?_|refine q_block_exit ?_|refine q_block_ret ?_|refine q_loop_exit ?_|refine q_loop_ret ?_)|((with_reducible refine q_block_other ?_ ?_);exact rfl)|((with_reducible refine reg ?_ ?_);exact rfl)|((with_reducible refine st_end ?_ ?_);first|exact .inl rfl|exact .inr rfl)|(with_reducible apply st_build0)|((with_reducible apply st_ev);exact rfl;(first|exact True.intro|((repeat' apply And.intro)<;>first|exact True.intro|with_reducible rfl|(simp only[Fits];omega)|omega|assumption|decide|(simp;done)|exact rfl)))|((with_reducible apply st_evg);exact rfl;exact rfl;(first|exact rfl|assumption);exact rfl;(first|exact True.intro|((repeat' apply And.intro)<;>first|exact True.intro|with_reducible rfl|(simp only[Fits];omega)|omega|assumption|decide|(simp;done)|exact rfl)))|((with_reducible apply st_skip);exact rfl;exact rfl;(first|exact rfl|assumption))|((with_reducible apply st_app0);exact rfl;exact rfl;exact rfl;omega)|((with_reducible apply st_skipu);exact rfl;exact rfl)|((with_reducible apply st_pickt);exact rfl;assumption;exact rfl)|((with_reducible apply st_pickf);exact rfl;assumption;exact rfl)|((with_reducible apply st_pickgt);exact rfl;exact rfl;(first|exact rfl|assumption);exact rfl;(first|exact rfl|assumption);exact rfl)|((with_reducible apply st_pickgf);exact rfl;exact rfl;(first|exact rfl|assumption);exact rfl;(first|exact rfl|assumption);exact rfl)|((with_reducible apply st_build);exact rfl;first|exact rfl|(first|exact True.intro|((repeat' apply And.intro)<;>first|exact True.intro|with_reducible rfl|(simp only[Fits];omega)|omega|assumption|decide|(simp;done)|exact rfl))))
    with_reducible apply st_lok
    · exact ok_build_num (-p) rfl rfl rfl rfl rfl rfl hq (neg_nm p).symm (neg_den p).symm
    repeat(first|(with_reducible first|refine awp_seq ?_|refine awp_block ?_|refine awp_skip ?_|refine awp_exit ?_|refine awp_ret ?_|refine q_then ?_|refine q_block ?_|refine q_then_exit ?_|refine q_then_ret ?_|refine q_block_exit ?_|refine q_block_ret ?_|refine q_loop_exit ?_|refine q_loop_ret ?_)|((with_reducible refine q_block_other ?_ ?_);exact rfl)|((with_reducible refine reg ?_ ?_);exact rfl)|((with_reducible refine st_end ?_ ?_);first|exact .inl rfl|exact .inr rfl)|(with_reducible apply st_build0)|((with_reducible apply st_ev);exact rfl;(first|exact True.intro|((repeat' apply And.intro)<;>first|exact True.intro|with_reducible rfl|(simp only[Fits];omega)|omega|assumption|decide|(simp;done)|exact rfl)))|((with_reducible apply st_evg);exact rfl;exact rfl;(first|exact rfl|assumption);exact rfl;(first|exact True.intro|((repeat' apply And.intro)<;>first|exact True.intro|with_reducible rfl|(simp only[Fits];omega)|omega|assumption|decide|(simp;done)|exact rfl)))|((with_reducible apply st_skip);exact rfl;exact rfl;(first|exact rfl|assumption))|((with_reducible apply st_app0);exact rfl;exact rfl;exact rfl;omega)|((with_reducible apply st_skipu);exact rfl;exact rfl)|((with_reducible apply st_pickt);exact rfl;assumption;exact rfl)|((with_reducible apply st_pickf);exact rfl;assumption;exact rfl)|((with_reducible apply st_pickgt);exact rfl;exact rfl;(first|exact rfl|assumption);exact rfl;(first|exact rfl|assumption);exact rfl)|((with_reducible apply st_pickgf);exact rfl;exact rfl;(first|exact rfl|assumption);exact rfl;(first|exact rfl|assumption);exact rfl)|((with_reducible apply st_build);exact rfl;first|exact rfl|(first|exact True.intro|((repeat' apply And.intro)<;>first|exact True.intro|with_reducible rfl|(simp only[Fits];omega)|omega|assumption|decide|(simp;done)|exact rfl))))
    refine ⟨.inr rfl, _, Imp.refl _, ?_⟩
    exact .one (.rat rfl rfl (by decide) rfl (by decide) rfl)
  | false =>
    have hA : ((!(ng p)) == true) = true := by rw [hg]; rfl
    have hB : (!(ng p)) = true := by rw [hg]; rfl
    have hq : decide ((0 : Int) < (size (nm p) : Int)) = ng (-p) := by
      rw [neg_ng, hg]
      show _ = (true && decide (0 < nm p))
      rw [Bool.true_and]
      have h1 := size_eq_zero (s := nm p)
      exact decide_eq_decide.2 (by omega)
    repeat(first|(with_reducible first|refine awp_seq ?_|refine awp_block ?_|refine awp_skip ?_|refine awp_exit ?_|refine awp_ret ?_|refine q_then ?_|refine q_block ?_|refine q_then_exit ?_|refine q_then_ret ?_|refine q_block_exit ?_|refine q_block_ret ?_|refine q_loop_exit ?_|refine q_loop_ret ?_)|((with_reducible refine q_block_other ?_ ?_);exact rfl)|((with_reducible refine reg ?_ ?_);exact rfl)|((with_reducible refine st_end ?_ ?_);first|exact .inl rfl|exact .inr rfl)|(with_reducible apply st_build0)|((with_reducible apply st_ev);exact rfl;(first|exact True.intro|((repeat' apply And.intro)<;>first|exact True.intro|with_reducible rfl|(simp only[Fits];omega)|omega|assumption|decide|(simp;done)|exact rfl)))|((with_reducible apply st_evg);exact rfl;exact rfl;(first|exact rfl|assumption);exact rfl;(first|exact True.intro|((repeat' apply And.intro)<;>first|exact True.intro|with_reducible rfl|(simp only[Fits];omega)|omega|assumption|decide|(simp;done)|exact rfl)))|((with_reducible apply st_skip);exact rfl;exact rfl;(first|exact rfl|assumption))|((with_reducible apply st_app0);exact rfl;exact rfl;exact rfl;omega)|((with_reducible apply st_skipu);exact rfl;exact rfl)|((with_reducible apply st_pickt);exact rfl;assumption;exact rfl)|((with_reducible apply st_pickf);exact rfl;assumption;exact rfl)|((with_reducible apply st_pickgt);exact rfl;exact rfl;(first|exact rfl|assumption);exact rfl;(first|exact rfl|assumption);exact rfl)|((with_reducible apply st_pickgf);exact rfl;exact rfl;(first|exact rfl|assumption);exact rfl;(first|exact rfl|assumption);exact rfl)|((with_reducible apply st_build);exact rfl;first|exact rfl|(first|exact True.intro|((repeat' apply And.intro)<;>first|exact True.intro|with_reducible rfl|(simp only[Fits];omega)|omega|assumption|decide|(simp;done)|exact rfl))))
    with_reducible apply st_lok
    · exact ok_build_num (-p) rfl rfl rfl rfl rfl rfl hq (neg_nm p).symm (neg_den p).symm
    repeat(first|(with_reducible first|refine awp_seq ?_|refine awp_block ?_|refine awp_skip ?_|refine awp_exit ?_|refine awp_ret ?_|refine q_then ?_|refine q_block ?_|refine q_then_exit ?_|refine q_then_ret ?_|refine q_block_exit ?_|refine q_block_ret ?_|refine q_loop_exit ?_|refine q_loop_ret ?_)|((with_reducible refine q_block_other ?_ ?_);exact rfl)|((with_reducible refine reg ?_ ?_);exact rfl)|((with_reducible refine st_end ?_ ?_);first|exact .inl rfl|exact .inr rfl)|(with_reducible apply st_build0)|((with_reducible apply st_ev);exact rfl;(first|exact True.intro|((repeat' apply And.intro)<;>first|exact True.intro|with_reducible rfl|(simp only[Fits];omega)|omega|assumption|decide|(simp;done)|exact rfl)))|((with_reducible apply st_evg);exact rfl;exact rfl;(first|exact rfl|assumption);exact rfl;(first|exact True.intro|((repeat' apply And.intro)<;>first|exact True.intro|with_reducible rfl|(simp only[Fits];omega)|omega|assumption|decide|(simp;done)|exact rfl)))|((with_reducible apply st_skip);exact rfl;exact rfl;(first|exact rfl|assumption))|((with_reducible apply st_app0);exact rfl;exact rfl;exact rfl;omega)|((with_reducible apply st_skipu);exact rfl;exact rfl)|((with_reducible apply st_pickt);exact rfl;assumption;exact rfl)|((with_reducible apply st_pickf);exact rfl;assumption;exact rfl)|((with_reducible apply st_pickgt);exact rfl;exact rfl;(first|exact rfl|assumption);exact rfl;(first|exact rfl|assumption);exact rfl)|((with_reducible apply st_pickgf);exact rfl;exact rfl;(first|exact rfl|assumption);exact rfl;(first|exact rfl|assumption);exact rfl)|((with_reducible apply st_build);exact rfl;first|exact rfl|(first|exact True.intro|((repeat' apply And.intro)<;>first|exact True.intro|with_reducible rfl|(simp only[Fits];omega)|omega|assumption|decide|(simp;done)|exact rfl))))
    refine ⟨.inr rfl, _, Imp.refl _, ?_⟩
    exact .one (.rat rfl rfl (by decide) rfl (by decide) rfl)
theorem k_copy {p : Rat} (hs : wt p ≤ 1000000) : Has Try.prog 44 [.q p] (.q p) := by
  have h2 := k_neg (p := -p) (by rw [wt_neg]; exact hs)
  rw [Rat.neg_neg] at h2
  refine has_of Try.func44 (by kernel_rfl) rfl Try.ntmps44 Try.results44 rfl rfl rfl ?_
  repeat(first|(with_reducible first|refine awp_seq ?_|refine awp_block ?_|refine awp_skip ?_|refine awp_exit ?_|refine awp_ret ?_|refine q_then ?_|refine q_block ?_|refine q_then_exit ?_|refine q_then_ret ?_|refine q_block_exit ?_|refine q_block_ret ?_|refine q_loop_exit ?_|refine q_loop_ret ?_)|((with_reducible refine q_block_other ?_ ?_);exact rfl)|((with_reducible refine reg ?_ ?_);exact rfl)|((with_reducible refine st_end ?_ ?_);first|exact .inl rfl|exact .inr rfl)|(with_reducible apply st_build0)|((with_reducible apply st_ev);exact rfl;(first|exact True.intro|((repeat' apply And.intro)<;>first|exact True.intro|with_reducible rfl|(simp only[Fits];omega)|omega|assumption|decide|(simp;done)|exact rfl)))|((with_reducible apply st_evg);exact rfl;exact rfl;(first|exact rfl|assumption);exact rfl;(first|exact True.intro|((repeat' apply And.intro)<;>first|exact True.intro|with_reducible rfl|(simp only[Fits];omega)|omega|assumption|decide|(simp;done)|exact rfl)))|((with_reducible apply st_skip);exact rfl;exact rfl;(first|exact rfl|assumption))|((with_reducible apply st_app0);exact rfl;exact rfl;exact rfl;omega)|((with_reducible apply st_skipu);exact rfl;exact rfl)|((with_reducible apply st_pickt);exact rfl;assumption;exact rfl)|((with_reducible apply st_pickf);exact rfl;assumption;exact rfl)|((with_reducible apply st_pickgt);exact rfl;exact rfl;(first|exact rfl|assumption);exact rfl;(first|exact rfl|assumption);exact rfl)|((with_reducible apply st_pickgf);exact rfl;exact rfl;(first|exact rfl|assumption);exact rfl;(first|exact rfl|assumption);exact rfl)|((with_reducible apply st_build);exact rfl;first|exact rfl|(first|exact True.intro|((repeat' apply And.intro)<;>first|exact True.intro|with_reducible rfl|(simp only[Fits];omega)|omega|assumption|decide|(simp;done)|exact rfl)))|((with_reducible apply st_call);exact rfl;exact rfl;exact rfl;first|(exact k_neg hs)|(exact h2))|((with_reducible apply st_callg);exact rfl;exact rfl;(first|exact rfl|assumption);exact rfl;exact rfl;exact rfl;first|(exact k_neg hs)|(exact h2)))
  refine ⟨.inr rfl, _, Imp.refl _, ?_⟩
  exact .one (.rat rfl rfl (by decide) rfl (by decide) rfl)
theorem k_sub {p q : Rat} (hs : wt p ≤ 15000) (hs' : wt q ≤ 15000) : Has Try.prog 60 [.q p, .q q] (.q (p - q)) := by
  have h2 := hs_add (p := p) (q := -q) hs (by rw [wt_neg]; exact hs')
  rw [← Rat.sub_eq_add_neg] at h2
  refine has_of Try.func60 (by kernel_rfl) rfl Try.ntmps60 Try.results60 rfl rfl rfl ?_
  repeat(first|(with_reducible first|refine awp_seq ?_|refine awp_block ?_|refine awp_skip ?_|refine awp_exit ?_|refine awp_ret ?_|refine q_then ?_|refine q_block ?_|refine q_then_exit ?_|refine q_then_ret ?_|refine q_block_exit ?_|refine q_block_ret ?_|refine q_loop_exit ?_|refine q_loop_ret ?_)|((with_reducible refine q_block_other ?_ ?_);exact rfl)|((with_reducible refine reg ?_ ?_);exact rfl)|((with_reducible refine st_end ?_ ?_);first|exact .inl rfl|exact .inr rfl)|(with_reducible apply st_build0)|((with_reducible apply st_ev);exact rfl;(first|exact True.intro|((repeat' apply And.intro)<;>first|exact True.intro|with_reducible rfl|(simp only[Fits];omega)|omega|assumption|decide|(simp;done)|exact rfl)))|((with_reducible apply st_evg);exact rfl;exact rfl;(first|exact rfl|assumption);exact rfl;(first|exact True.intro|((repeat' apply And.intro)<;>first|exact True.intro|with_reducible rfl|(simp only[Fits];omega)|omega|assumption|decide|(simp;done)|exact rfl)))|((with_reducible apply st_skip);exact rfl;exact rfl;(first|exact rfl|assumption))|((with_reducible apply st_app0);exact rfl;exact rfl;exact rfl;omega)|((with_reducible apply st_skipu);exact rfl;exact rfl)|((with_reducible apply st_pickt);exact rfl;assumption;exact rfl)|((with_reducible apply st_pickf);exact rfl;assumption;exact rfl)|((with_reducible apply st_pickgt);exact rfl;exact rfl;(first|exact rfl|assumption);exact rfl;(first|exact rfl|assumption);exact rfl)|((with_reducible apply st_pickgf);exact rfl;exact rfl;(first|exact rfl|assumption);exact rfl;(first|exact rfl|assumption);exact rfl)|((with_reducible apply st_build);exact rfl;first|exact rfl|(first|exact True.intro|((repeat' apply And.intro)<;>first|exact True.intro|with_reducible rfl|(simp only[Fits];omega)|omega|assumption|decide|(simp;done)|exact rfl)))|((with_reducible apply st_call);exact rfl;exact rfl;exact rfl;first|(exact k_neg (by omega))|(exact h2))|((with_reducible apply st_callg);exact rfl;exact rfl;(first|exact rfl|assumption);exact rfl;exact rfl;exact rfl;first|(exact k_neg (by omega))|(exact h2)))
  refine ⟨.inr rfl, _, Imp.refl _, ?_⟩
  exact .one (.rat rfl rfl (by decide) rfl (by decide) rfl)
end Go.Proofs.Ytjmpanhacfjcaaa.AM
/- A matrix of own rows that is written no more. -/
namespace Go.Proofs.Ytjmpanhacfjcaaa.AM
open Go Go.RowKit Go.Proofs.Ytjmpanhacfjcaaa.PN Go.Proofs.Ytjmpanhacfjcaaa.V
set_option linter.unusedVariables false
set_option linter.unusedSimpArgs false
theorem imp_mat2 {s : St} (t : Nat) {g g2 n : Nat} {F F2 : Nat → Blk} {f : Nat → AV} (m : Nat → Nat) (G : Nat → Nat → RA) (hx : s.env t = some (.own g 0)) (hg : s.heap g = some (1, F)) (hF : F 0 = .ones WT n f) (hf : ∀ i, i < n → f i = .own g2 i) (hg2 : s.heap g2 = some (n, F2)) (hF2 : ∀ i, i < n → F2 i = .rats (m i) (G i)) (hne : g ≠ g2) :
    Imp s ⟨put s.env t (some (.mat true n m G)), put (put s.heap g none) g2 none, s.used⟩ := by
  intro W N β w a hs
  have hheap : ∀ h n1 F1, put (put s.heap g none) g2 none h = some (n1, F1) → s.heap h = some (n1, F1) ∧ h ≠ g ∧ h ≠ g2 := by
    intro h n1 F1 e
    by_cases c2 : h = g2
    · subst c2; rw [put_same] at e; cases e
    · rw [put_ne _ _ c2] at e
      by_cases c1 : h = g
      · subst c1; rw [put_same] at e; cases e
      · rw [put_ne _ _ c1] at e; exact ⟨e, c1, c2⟩
  generalize hs' : (⟨put s.env t (some (.mat true n m G)), put (put s.heap g none) g2 none, s.used⟩ : St) = s'
  have hown : ∀ i, Own s' β i → Own s β i ∧ ub (β g 0) ≠ some i ∧ ∀ r, r < n → ub (β g2 r) ≠ some i := by
    rintro i ⟨h, n1, F1, r, h1, h2, h3⟩
    subst hs'
    obtain ⟨a1, a2, a3⟩ := hheap h n1 F1 h1
    exact ⟨⟨h, n1, F1, r, a1, h2, h3⟩, fun e => a2 (hs.inj _ _ _ _ _ _ _ _ i a1 h2 hg (by decide) h3 e).1, fun r' hr' e => a3 (hs.inj _ _ _ _ _ _ _ _ i a1 h2 hg2 hr' h3 e).1⟩
  have kf : Fwd (notOwn W s β) (notOwn W s' β) W.w.heap.size W.w.heap.size s.used β β (fun _ => False) w w :=
    ⟨Ext.refl _ _, fun _ _ h => h, fun b hb _ => ⟨hb.1, fun ho => hb.2 (hown b ho).1⟩, Nat.le_refl _, fun _ _ _ => rfl⟩
  have hpub : ∀ b, Own s β b → ¬ Own s' β b → notOwn W s' β b := fun b ho hn => ⟨fun hlt => W.law b (own_lt hs ho).1 hlt (hs.pin b ho), hn⟩
  refine ⟨β, hs.kept, hs.nodef, hs.size, fun t' z hz => ?_, fun h n1 F1 r h1 h2 => ?_, fun h n1 F1 h1 => ?_, fun g1 n1 F1 r1 g3 n3 F3 r3 k h1 h2 h3 h4 h5 h6 => ?_, hs.fix, fun i ho => hs.pin i (hown i ho).1, by subst hs'; exact hs.fixd, by subst hs'; exact hs.keep⟩
  · have hu : s'.used = s.used := by subst hs'; rfl
    have hz : put s.env t (some (.mat true n m G)) t' = some z := by subst hs'; exact hz
    rw [hu]
    by_cases e : t' = t
    · subst e
      rw [put_same] at hz
      cases hz
      refine ⟨trivial, ?_⟩
      obtain ⟨e0, A, n', c, e⟩ := (hs.env t' _ hx).2
      have hb := (hs.heap g 1 F 0 hg (by decide)).2
      rw [hF] at hb
      rcases hb.2 with ⟨e', rfl⟩ | ⟨k, cs, hB, hr, hat, hxx⟩
      · exact ⟨none, 0, e0.trans e', Nat.le_refl _, Nat.zero_le _, fun i hi => absurd hi (Nat.not_lt_zero _)⟩
      · have hub := ub_at hat
        rcases hat with ⟨e', _⟩ | ⟨cap, e', h3, h4, _⟩
        · rw [← e0, e] at e'; cases e'
        · refine ⟨_, cap, e0.trans e', h3, h4, fun i hi => ?_⟩
          obtain ⟨y, a0, a1, a2⟩ := hxx i hi
          rw [hf i hi] at a2
          have hb2 := (hs.heap g2 n F2 i hg2 hi).2
          rw [hF2 i hi] at hb2
          refine ⟨k, 0, cs, y, rfl, hpub k ⟨g, 1, F, 0, hg, by decide, hub⟩ (fun ho => (hown k ho).2.1 hub), fun _ => hB, hr, by rw [Nat.zero_add]; exact a0, ?_⟩
          exact own_row a2 hb2 fun b hb => hpub b ⟨g2, n, F2, i, hg2, hi, hb⟩ (fun ho => (hown b ho).2.2 i hi hb)
    · rw [put_ne _ _ e] at hz
      exact ⟨(hs.env t' z hz).1, (hs.env t' z hz).2.fwd kf (hs.env t' z hz).1⟩
  · have hu : s'.used = s.used := by subst hs'; rfl
    have h1 : put (put s.heap g none) g2 none h = some (n1, F1) := by subst hs'; exact h1
    rw [hu]
    obtain ⟨a1, a2, a3⟩ := hheap h n1 F1 h1
    obtain ⟨q1, q2⟩ := hs.heap h n1 F1 r a1 h2
    exact ⟨q1, RB.fwd kf q1 (fun _ _ h => h) q2⟩
  · subst hs'
    exact hs.live _ _ _ (hheap h n1 F1 h1).1
  · subst hs'
    exact hs.inj _ _ _ _ _ _ _ _ k (hheap g1 n1 F1 h1).1 h2 (hheap g3 n3 F3 h3).1 h4 h5 h6
end Go.Proofs.Ytjmpanhacfjcaaa.AM

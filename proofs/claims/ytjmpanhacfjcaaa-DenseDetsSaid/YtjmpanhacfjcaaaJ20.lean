/- Joined texts, 20: DnI AmU. -/
import Derived.Test.YtjmpanhacfjcaaaJ19
import Derived.Test.YtjmpanhacfjcaaaJ16
/- Dense matrices: walks: determinants, ranks. -/
namespace Go.Proofs.Ytjmpanhacfjcaaa.AM
open Go Go.RowKit Go.Proofs.Ytjmpanhacfjcaaa.PN Go.Proofs.Ytjmpanhacfjcaaa.V
open Go.Proofs.Ytjmpanhacfjcaaa.LA (S S_succ S_zero S_congr)
set_option linter.unusedVariables false
set_option linter.unusedSimpArgs false
set_option maxRecDepth 4000
set_option maxHeartbeats 4000000
theorem d_of0 {n : Nat} {F : Nat → Nat → Rat} (hn : n ≤ 8) (h0 : 0 < n) :
    HasH Try.prog 53 [] [.mat false n (fun _ => n) (fun i j => .q (F i j)), .v (.func (.func 54) #[] #[])] (.ptr 60 0 0) (WH n n 1 (fun i => i) (aug n F fun _ _ => 0)) :=
  HasH.arg2 (x' := .clo 54 0 (fun _ => .v undef)) (d_of (e := 0) (G := fun _ _ => 0) hn h0 (by decide) rfl fun i _ => Has.imp d_nothing rfl fun S B β w v hv => by
    obtain ⟨A, c, e1, e2, e3, e4⟩ := hv
    exact ⟨A, c, e1, e2, e3, fun j hj => absurd hj (Nat.not_lt_zero _)⟩) (fun S B β w v hv => by
      have hv : v = .func (.func 54) #[] #[] := hv
      exact ⟨#[], hv, rfl, fun i hi => absurd hi (Nat.not_lt_zero _)⟩) (fun i hi => absurd hi (Nat.not_lt_zero _))
theorem aug_wt {n K : Nat} {F : Nat → Nat → Rat} [hf : ∀ i j, Wt (F i j) K] (i j : Nat) : Wt (aug n F (fun _ _ => 0) i j) (K + 1) := by
  unfold aug
  split
  · exact (hf i j).mono (by omega)
  · exact (inferInstance : Wt 0 1).mono (by omega)
/-- What the steps make of a matrix. -/
noncomputable def gs (n : Nat) (F : Nat → Nat → Rat) : ES := stps n n false (aug n F fun _ _ => 0) n
noncomputable def gdet (n : Nat) (F : Nat → Nat → Rat) : Rat := if (gs n F).at' < n then 0 else (gs n F).d
theorem d_det {n K : Nat} {F : Nat → Nat → Rat} [hf : ∀ i j, Wt (F i j) K] (hK : K ≤ 399) (h0 : 0 < n) (hn : n ≤ 8) : Has Try.prog 47 [.mat false n (fun _ => n) (fun i j => .q (F i j))] (.q (gdet n F)) := by
  have wA : ∀ i j, Wt (aug n F (fun _ _ => 0) i j) (K + 1) := fun i j => aug_wt (hf := hf) i j
  refine has_of Try.func47 (by kernel_rfl) rfl Try.ntmps47 Try.results47 rfl rfl rfl ?_
  repeat(first|(with_reducible first|refine awp_seq ?_|refine awp_block ?_|refine awp_skip ?_|refine awp_exit ?_|refine awp_ret ?_|refine q_then ?_|refine q_block ?_|refine q_then_exit ?_|refine q_then_ret ?_|refine q_block_exit ?_|refine q_block_ret ?_|refine q_loop_exit ?_|refine q_loop_ret ?_)|((with_reducible refine q_block_other ?_ ?_);exact rfl)|((with_reducible refine reg ?_ ?_);exact rfl)|((with_reducible refine st_end ?_ ?_);first|exact .inl rfl|exact .inr rfl)|(with_reducible apply st_build0)|((with_reducible apply st_ev);exact rfl;(first|exact True.intro|((repeat' apply And.intro)<;>first|exact True.intro|with_reducible rfl|(simp only[Fits];omega)|omega|assumption|decide|(simp;done)|exact rfl)))|((with_reducible apply st_evg);exact rfl;exact rfl;(first|exact rfl|assumption);exact rfl;(first|exact True.intro|((repeat' apply And.intro)<;>first|exact True.intro|with_reducible rfl|(simp only[Fits];omega)|omega|assumption|decide|(simp;done)|exact rfl)))|((with_reducible apply st_skip);exact rfl;exact rfl;(first|exact rfl|assumption))|((with_reducible apply st_app0);exact rfl;exact rfl;exact rfl;omega)|((with_reducible apply st_skipu);exact rfl;exact rfl)|((with_reducible apply st_pickt);exact rfl;assumption;exact rfl)|((with_reducible apply st_pickf);exact rfl;assumption;exact rfl)|((with_reducible apply st_pickgt);exact rfl;exact rfl;(first|exact rfl|assumption);exact rfl;(first|exact rfl|assumption);exact rfl)|((with_reducible apply st_pickgf);exact rfl;exact rfl;(first|exact rfl|assumption);exact rfl;(first|exact rfl|assumption);exact rfl)|((with_reducible apply st_build);exact rfl;first|exact rfl|(first|exact True.intro|((repeat' apply And.intro)<;>first|exact True.intro|with_reducible rfl|(simp only[Fits];omega)|omega|assumption|decide|(simp;done)|exact rfl))))
  ((with_reducible apply st_callH); exact rfl; exact rfl; exact rfl; exact (d_of0 hn h0); (first | exact True.intro | exact ⟨rfl, rfl, rfl, True.intro⟩); exact rfl; exact rfl; exact rfl; exact rfl; (focus (repeat (first | exact True.intro | refine ⟨(by first | exact True.intro | rfl), ?_⟩))); (first | exact True.intro | exact okf_WH))
  repeat(first|(with_reducible first|refine awp_seq ?_|refine awp_block ?_|refine awp_skip ?_|refine awp_exit ?_|refine awp_ret ?_|refine q_then ?_|refine q_block ?_|refine q_then_exit ?_|refine q_then_ret ?_|refine q_block_exit ?_|refine q_block_ret ?_|refine q_loop_exit ?_|refine q_loop_ret ?_)|((with_reducible refine q_block_other ?_ ?_);exact rfl)|((with_reducible refine reg ?_ ?_);exact rfl)|((with_reducible refine st_end ?_ ?_);first|exact .inl rfl|exact .inr rfl)|(with_reducible apply st_build0)|((with_reducible apply st_ev);exact rfl;(first|exact True.intro|((repeat' apply And.intro)<;>first|exact True.intro|with_reducible rfl|(simp only[Fits];omega)|omega|assumption|decide|(simp;done)|exact rfl)))|((with_reducible apply st_evg);exact rfl;exact rfl;(first|exact rfl|assumption);exact rfl;(first|exact True.intro|((repeat' apply And.intro)<;>first|exact True.intro|with_reducible rfl|(simp only[Fits];omega)|omega|assumption|decide|(simp;done)|exact rfl)))|((with_reducible apply st_skip);exact rfl;exact rfl;(first|exact rfl|assumption))|((with_reducible apply st_app0);exact rfl;exact rfl;exact rfl;omega)|((with_reducible apply st_skipu);exact rfl;exact rfl)|((with_reducible apply st_pickt);exact rfl;assumption;exact rfl)|((with_reducible apply st_pickf);exact rfl;assumption;exact rfl)|((with_reducible apply st_pickgt);exact rfl;exact rfl;(first|exact rfl|assumption);exact rfl;(first|exact rfl|assumption);exact rfl)|((with_reducible apply st_pickgf);exact rfl;exact rfl;(first|exact rfl|assumption);exact rfl;(first|exact rfl|assumption);exact rfl)|((with_reducible apply st_build);exact rfl;first|exact rfl|(first|exact True.intro|((repeat' apply And.intro)<;>first|exact True.intro|with_reducible rfl|(simp only[Fits];omega)|omega|assumption|decide|(simp;done)|exact rfl))))
  ((with_reducible apply st_callH); exact rfl; exact rfl; exact rfl; exact (d_steps (all := false) (hA := wA) (by omega) hn (by omega) (Nat.le_refl _)); (first | exact True.intro | exact ⟨rfl, rfl, rfl, True.intro⟩); exact rfl; exact rfl; exact rfl; exact rfl; (focus (repeat (first | exact True.intro | refine ⟨(by first | exact True.intro | rfl), ?_⟩))); (first | exact True.intro | exact okf_WH))
  repeat(first|(with_reducible first|refine awp_seq ?_|refine awp_block ?_|refine awp_skip ?_|refine awp_exit ?_|refine awp_ret ?_|refine q_then ?_|refine q_block ?_|refine q_then_exit ?_|refine q_then_ret ?_|refine q_block_exit ?_|refine q_block_ret ?_|refine q_loop_exit ?_|refine q_loop_ret ?_)|((with_reducible refine q_block_other ?_ ?_);exact rfl)|((with_reducible refine reg ?_ ?_);exact rfl)|((with_reducible refine st_end ?_ ?_);first|exact .inl rfl|exact .inr rfl)|(with_reducible apply st_build0)|((with_reducible apply st_ev);exact rfl;(first|exact True.intro|((repeat' apply And.intro)<;>first|exact True.intro|with_reducible rfl|(simp only[Fits];omega)|omega|assumption|decide|(simp;done)|exact rfl)))|((with_reducible apply st_evg);exact rfl;exact rfl;(first|exact rfl|assumption);exact rfl;(first|exact True.intro|((repeat' apply And.intro)<;>first|exact True.intro|with_reducible rfl|(simp only[Fits];omega)|omega|assumption|decide|(simp;done)|exact rfl)))|((with_reducible apply st_skip);exact rfl;exact rfl;(first|exact rfl|assumption))|((with_reducible apply st_app0);exact rfl;exact rfl;exact rfl;omega)|((with_reducible apply st_skipu);exact rfl;exact rfl)|((with_reducible apply st_pickt);exact rfl;assumption;exact rfl)|((with_reducible apply st_pickf);exact rfl;assumption;exact rfl)|((with_reducible apply st_pickgt);exact rfl;exact rfl;(first|exact rfl|assumption);exact rfl;(first|exact rfl|assumption);exact rfl)|((with_reducible apply st_pickgf);exact rfl;exact rfl;(first|exact rfl|assumption);exact rfl;(first|exact rfl|assumption);exact rfl)|((with_reducible apply st_build);exact rfl;first|exact rfl|(first|exact True.intro|((repeat' apply And.intro)<;>first|exact True.intro|with_reducible rfl|(simp only[Fits];omega)|omega|assumption|decide|(simp;done)|exact rfl))))
  have eg : stps n n false (aug n F fun _ _ => 0) n = gs n F := rfl
  refine awp_if rfl (fun h => ?_) (fun h => ?_)
  · have e : gdet n F = 0 := if_pos (by rw [← eg]; omega)
    rw [e]
    repeat(first|(with_reducible first|refine awp_seq ?_|refine awp_block ?_|refine awp_skip ?_|refine awp_exit ?_|refine awp_ret ?_|refine q_then ?_|refine q_block ?_|refine q_then_exit ?_|refine q_then_ret ?_|refine q_block_exit ?_|refine q_block_ret ?_|refine q_loop_exit ?_|refine q_loop_ret ?_)|((with_reducible refine q_block_other ?_ ?_);exact rfl)|((with_reducible refine reg ?_ ?_);exact rfl)|((with_reducible refine st_end ?_ ?_);first|exact .inl rfl|exact .inr rfl)|(with_reducible apply st_build0)|((with_reducible apply st_ev);exact rfl;(first|exact True.intro|((repeat' apply And.intro)<;>first|exact True.intro|with_reducible rfl|(simp only[Fits];omega)|omega|assumption|decide|(simp;done)|exact rfl)))|((with_reducible apply st_evg);exact rfl;exact rfl;(first|exact rfl|assumption);exact rfl;(first|exact True.intro|((repeat' apply And.intro)<;>first|exact True.intro|with_reducible rfl|(simp only[Fits];omega)|omega|assumption|decide|(simp;done)|exact rfl)))|((with_reducible apply st_skip);exact rfl;exact rfl;(first|exact rfl|assumption))|((with_reducible apply st_app0);exact rfl;exact rfl;exact rfl;omega)|((with_reducible apply st_skipu);exact rfl;exact rfl)|((with_reducible apply st_pickt);exact rfl;assumption;exact rfl)|((with_reducible apply st_pickf);exact rfl;assumption;exact rfl)|((with_reducible apply st_pickgt);exact rfl;exact rfl;(first|exact rfl|assumption);exact rfl;(first|exact rfl|assumption);exact rfl)|((with_reducible apply st_pickgf);exact rfl;exact rfl;(first|exact rfl|assumption);exact rfl;(first|exact rfl|assumption);exact rfl)|((with_reducible apply st_build);exact rfl;first|exact rfl|(first|exact True.intro|((repeat' apply And.intro)<;>first|exact True.intro|with_reducible rfl|(simp only[Fits];omega)|omega|assumption|decide|(simp;done)|exact rfl)))|((with_reducible apply st_call);exact rfl;exact rfl;exact rfl;first|(exact d_zero))|((with_reducible apply st_callg);exact rfl;exact rfl;(first|exact rfl|assumption);exact rfl;exact rfl;exact rfl;first|(exact d_zero)))
    refine ⟨.inr rfl, _, Imp.refl _, ?_⟩
    exact .one (.rat rfl rfl (by decide) rfl (by decide) rfl)
  · have e : gdet n F = (gs n F).d := if_neg (by rw [← eg]; omega)
    rw [e]
    repeat(first|(with_reducible first|refine awp_seq ?_|refine awp_block ?_|refine awp_skip ?_|refine awp_exit ?_|refine awp_ret ?_|refine q_then ?_|refine q_block ?_|refine q_then_exit ?_|refine q_then_ret ?_|refine q_block_exit ?_|refine q_block_ret ?_|refine q_loop_exit ?_|refine q_loop_ret ?_)|((with_reducible refine q_block_other ?_ ?_);exact rfl)|((with_reducible refine reg ?_ ?_);exact rfl)|((with_reducible refine st_end ?_ ?_);first|exact .inl rfl|exact .inr rfl)|(with_reducible apply st_build0)|((with_reducible apply st_ev);exact rfl;(first|exact True.intro|((repeat' apply And.intro)<;>first|exact True.intro|with_reducible rfl|(simp only[Fits];omega)|omega|assumption|decide|(simp;done)|exact rfl)))|((with_reducible apply st_evg);exact rfl;exact rfl;(first|exact rfl|assumption);exact rfl;(first|exact True.intro|((repeat' apply And.intro)<;>first|exact True.intro|with_reducible rfl|(simp only[Fits];omega)|omega|assumption|decide|(simp;done)|exact rfl)))|((with_reducible apply st_skip);exact rfl;exact rfl;(first|exact rfl|assumption))|((with_reducible apply st_app0);exact rfl;exact rfl;exact rfl;omega)|((with_reducible apply st_skipu);exact rfl;exact rfl)|((with_reducible apply st_pickt);exact rfl;assumption;exact rfl)|((with_reducible apply st_pickf);exact rfl;assumption;exact rfl)|((with_reducible apply st_pickgt);exact rfl;exact rfl;(first|exact rfl|assumption);exact rfl;(first|exact rfl|assumption);exact rfl)|((with_reducible apply st_pickgf);exact rfl;exact rfl;(first|exact rfl|assumption);exact rfl;(first|exact rfl|assumption);exact rfl)|((with_reducible apply st_build);exact rfl;first|exact rfl|(first|exact True.intro|((repeat' apply And.intro)<;>first|exact True.intro|with_reducible rfl|(simp only[Fits];omega)|omega|assumption|decide|(simp;done)|exact rfl))))
    refine ⟨.inr rfl, _, Imp.refl _, ?_⟩
    exact .one (.rat rfl rfl (by decide) rfl (by decide) rfl)
theorem d_Det {n K : Nat} {F : Nat → Nat → Rat} [hf : ∀ i j, Wt (F i j) K] (hK : K ≤ 399) (h0 : 0 < n) (hn : n ≤ 8) : Has Try.prog 15 [.mat false n (fun _ => n) (fun i j => .q (F i j))] (.q (gdet n F)) := by
  refine has_of Try.func15 (by kernel_rfl) rfl Try.ntmps15 Try.results15 rfl rfl rfl ?_
  repeat(first|(with_reducible first|refine awp_seq ?_|refine awp_block ?_|refine awp_skip ?_|refine awp_exit ?_|refine awp_ret ?_|refine q_then ?_|refine q_block ?_|refine q_then_exit ?_|refine q_then_ret ?_|refine q_block_exit ?_|refine q_block_ret ?_|refine q_loop_exit ?_|refine q_loop_ret ?_)|((with_reducible refine q_block_other ?_ ?_);exact rfl)|((with_reducible refine reg ?_ ?_);exact rfl)|((with_reducible refine st_end ?_ ?_);first|exact .inl rfl|exact .inr rfl)|(with_reducible apply st_build0)|((with_reducible apply st_ev);exact rfl;(first|exact True.intro|((repeat' apply And.intro)<;>first|exact True.intro|with_reducible rfl|(simp only[Fits];omega)|omega|assumption|decide|(simp;done)|exact rfl)))|((with_reducible apply st_evg);exact rfl;exact rfl;(first|exact rfl|assumption);exact rfl;(first|exact True.intro|((repeat' apply And.intro)<;>first|exact True.intro|with_reducible rfl|(simp only[Fits];omega)|omega|assumption|decide|(simp;done)|exact rfl)))|((with_reducible apply st_skip);exact rfl;exact rfl;(first|exact rfl|assumption))|((with_reducible apply st_app0);exact rfl;exact rfl;exact rfl;omega)|((with_reducible apply st_skipu);exact rfl;exact rfl)|((with_reducible apply st_pickt);exact rfl;assumption;exact rfl)|((with_reducible apply st_pickf);exact rfl;assumption;exact rfl)|((with_reducible apply st_pickgt);exact rfl;exact rfl;(first|exact rfl|assumption);exact rfl;(first|exact rfl|assumption);exact rfl)|((with_reducible apply st_pickgf);exact rfl;exact rfl;(first|exact rfl|assumption);exact rfl;(first|exact rfl|assumption);exact rfl)|((with_reducible apply st_build);exact rfl;first|exact rfl|(first|exact True.intro|((repeat' apply And.intro)<;>first|exact True.intro|with_reducible rfl|(simp only[Fits];omega)|omega|assumption|decide|(simp;done)|exact rfl)))|((with_reducible apply st_call);exact rfl;exact rfl;exact rfl;first|(exact d_square (hf := hf) (by omega) h0 (by omega)))|((with_reducible apply st_callg);exact rfl;exact rfl;(first|exact rfl|assumption);exact rfl;exact rfl;exact rfl;first|(exact d_square (hf := hf) (by omega) h0 (by omega))))
  refine awp_no rfl rfl ?_
  repeat(first|(with_reducible first|refine awp_seq ?_|refine awp_block ?_|refine awp_skip ?_|refine awp_exit ?_|refine awp_ret ?_|refine q_then ?_|refine q_block ?_|refine q_then_exit ?_|refine q_then_ret ?_|refine q_block_exit ?_|refine q_block_ret ?_|refine q_loop_exit ?_|refine q_loop_ret ?_)|((with_reducible refine q_block_other ?_ ?_);exact rfl)|((with_reducible refine reg ?_ ?_);exact rfl)|((with_reducible refine st_end ?_ ?_);first|exact .inl rfl|exact .inr rfl)|(with_reducible apply st_build0)|((with_reducible apply st_ev);exact rfl;(first|exact True.intro|((repeat' apply And.intro)<;>first|exact True.intro|with_reducible rfl|(simp only[Fits];omega)|omega|assumption|decide|(simp;done)|exact rfl)))|((with_reducible apply st_evg);exact rfl;exact rfl;(first|exact rfl|assumption);exact rfl;(first|exact True.intro|((repeat' apply And.intro)<;>first|exact True.intro|with_reducible rfl|(simp only[Fits];omega)|omega|assumption|decide|(simp;done)|exact rfl)))|((with_reducible apply st_skip);exact rfl;exact rfl;(first|exact rfl|assumption))|((with_reducible apply st_app0);exact rfl;exact rfl;exact rfl;omega)|((with_reducible apply st_skipu);exact rfl;exact rfl)|((with_reducible apply st_pickt);exact rfl;assumption;exact rfl)|((with_reducible apply st_pickf);exact rfl;assumption;exact rfl)|((with_reducible apply st_pickgt);exact rfl;exact rfl;(first|exact rfl|assumption);exact rfl;(first|exact rfl|assumption);exact rfl)|((with_reducible apply st_pickgf);exact rfl;exact rfl;(first|exact rfl|assumption);exact rfl;(first|exact rfl|assumption);exact rfl)|((with_reducible apply st_build);exact rfl;first|exact rfl|(first|exact True.intro|((repeat' apply And.intro)<;>first|exact True.intro|with_reducible rfl|(simp only[Fits];omega)|omega|assumption|decide|(simp;done)|exact rfl)))|((with_reducible apply st_call);exact rfl;exact rfl;exact rfl;first|(exact d_det (hf := hf) hK h0 hn))|((with_reducible apply st_callg);exact rfl;exact rfl;(first|exact rfl|assumption);exact rfl;exact rfl;exact rfl;first|(exact d_det (hf := hf) hK h0 hn)))
  refine ⟨.inr rfl, _, Imp.refl _, ?_⟩
  exact .one (.rat rfl rfl (by decide) rfl (by decide) rfl)
theorem d_Rank {n K : Nat} {F : Nat → Nat → Rat} [hf : ∀ i j, Wt (F i j) K] (hK : K ≤ 399) (h0 : 0 < n) (hn : n ≤ 8) : Has Try.prog 19 [.mat false n (fun _ => n) (fun i j => .q (F i j))] (.i (gs n F).at') := by
  have wA : ∀ i j, Wt (aug n F (fun _ _ => 0) i j) (K + 1) := fun i j => aug_wt (hf := hf) i j
  refine has_of Try.func19 (by kernel_rfl) rfl Try.ntmps19 Try.results19 rfl rfl rfl ?_
  repeat(first|(with_reducible first|refine awp_seq ?_|refine awp_block ?_|refine awp_skip ?_|refine awp_exit ?_|refine awp_ret ?_|refine q_then ?_|refine q_block ?_|refine q_then_exit ?_|refine q_then_ret ?_|refine q_block_exit ?_|refine q_block_ret ?_|refine q_loop_exit ?_|refine q_loop_ret ?_)|((with_reducible refine q_block_other ?_ ?_);exact rfl)|((with_reducible refine reg ?_ ?_);exact rfl)|((with_reducible refine st_end ?_ ?_);first|exact .inl rfl|exact .inr rfl)|(with_reducible apply st_build0)|((with_reducible apply st_ev);exact rfl;(first|exact True.intro|((repeat' apply And.intro)<;>first|exact True.intro|with_reducible rfl|(simp only[Fits];omega)|omega|assumption|decide|(simp;done)|exact rfl)))|((with_reducible apply st_evg);exact rfl;exact rfl;(first|exact rfl|assumption);exact rfl;(first|exact True.intro|((repeat' apply And.intro)<;>first|exact True.intro|with_reducible rfl|(simp only[Fits];omega)|omega|assumption|decide|(simp;done)|exact rfl)))|((with_reducible apply st_skip);exact rfl;exact rfl;(first|exact rfl|assumption))|((with_reducible apply st_app0);exact rfl;exact rfl;exact rfl;omega)|((with_reducible apply st_skipu);exact rfl;exact rfl)|((with_reducible apply st_pickt);exact rfl;assumption;exact rfl)|((with_reducible apply st_pickf);exact rfl;assumption;exact rfl)|((with_reducible apply st_pickgt);exact rfl;exact rfl;(first|exact rfl|assumption);exact rfl;(first|exact rfl|assumption);exact rfl)|((with_reducible apply st_pickgf);exact rfl;exact rfl;(first|exact rfl|assumption);exact rfl;(first|exact rfl|assumption);exact rfl)|((with_reducible apply st_build);exact rfl;first|exact rfl|(first|exact True.intro|((repeat' apply And.intro)<;>first|exact True.intro|with_reducible rfl|(simp only[Fits];omega)|omega|assumption|decide|(simp;done)|exact rfl)))|((with_reducible apply st_call);exact rfl;exact rfl;exact rfl;first|(exact d_square (hf := hf) (by omega) h0 (by omega)))|((with_reducible apply st_callg);exact rfl;exact rfl;(first|exact rfl|assumption);exact rfl;exact rfl;exact rfl;first|(exact d_square (hf := hf) (by omega) h0 (by omega))))
  refine awp_no rfl rfl ?_
  repeat(first|(with_reducible first|refine awp_seq ?_|refine awp_block ?_|refine awp_skip ?_|refine awp_exit ?_|refine awp_ret ?_|refine q_then ?_|refine q_block ?_|refine q_then_exit ?_|refine q_then_ret ?_|refine q_block_exit ?_|refine q_block_ret ?_|refine q_loop_exit ?_|refine q_loop_ret ?_)|((with_reducible refine q_block_other ?_ ?_);exact rfl)|((with_reducible refine reg ?_ ?_);exact rfl)|((with_reducible refine st_end ?_ ?_);first|exact .inl rfl|exact .inr rfl)|(with_reducible apply st_build0)|((with_reducible apply st_ev);exact rfl;(first|exact True.intro|((repeat' apply And.intro)<;>first|exact True.intro|with_reducible rfl|(simp only[Fits];omega)|omega|assumption|decide|(simp;done)|exact rfl)))|((with_reducible apply st_evg);exact rfl;exact rfl;(first|exact rfl|assumption);exact rfl;(first|exact True.intro|((repeat' apply And.intro)<;>first|exact True.intro|with_reducible rfl|(simp only[Fits];omega)|omega|assumption|decide|(simp;done)|exact rfl)))|((with_reducible apply st_skip);exact rfl;exact rfl;(first|exact rfl|assumption))|((with_reducible apply st_app0);exact rfl;exact rfl;exact rfl;omega)|((with_reducible apply st_skipu);exact rfl;exact rfl)|((with_reducible apply st_pickt);exact rfl;assumption;exact rfl)|((with_reducible apply st_pickf);exact rfl;assumption;exact rfl)|((with_reducible apply st_pickgt);exact rfl;exact rfl;(first|exact rfl|assumption);exact rfl;(first|exact rfl|assumption);exact rfl)|((with_reducible apply st_pickgf);exact rfl;exact rfl;(first|exact rfl|assumption);exact rfl;(first|exact rfl|assumption);exact rfl)|((with_reducible apply st_build);exact rfl;first|exact rfl|(first|exact True.intro|((repeat' apply And.intro)<;>first|exact True.intro|with_reducible rfl|(simp only[Fits];omega)|omega|assumption|decide|(simp;done)|exact rfl))))
  ((with_reducible apply st_callH); exact rfl; exact rfl; exact rfl; exact (d_of0 hn h0); (first | exact True.intro | exact ⟨rfl, rfl, rfl, True.intro⟩); exact rfl; exact rfl; exact rfl; exact rfl; (focus (repeat (first | exact True.intro | refine ⟨(by first | exact True.intro | rfl), ?_⟩))); (first | exact True.intro | exact okf_WH))
  repeat(first|(with_reducible first|refine awp_seq ?_|refine awp_block ?_|refine awp_skip ?_|refine awp_exit ?_|refine awp_ret ?_|refine q_then ?_|refine q_block ?_|refine q_then_exit ?_|refine q_then_ret ?_|refine q_block_exit ?_|refine q_block_ret ?_|refine q_loop_exit ?_|refine q_loop_ret ?_)|((with_reducible refine q_block_other ?_ ?_);exact rfl)|((with_reducible refine reg ?_ ?_);exact rfl)|((with_reducible refine st_end ?_ ?_);first|exact .inl rfl|exact .inr rfl)|(with_reducible apply st_build0)|((with_reducible apply st_ev);exact rfl;(first|exact True.intro|((repeat' apply And.intro)<;>first|exact True.intro|with_reducible rfl|(simp only[Fits];omega)|omega|assumption|decide|(simp;done)|exact rfl)))|((with_reducible apply st_evg);exact rfl;exact rfl;(first|exact rfl|assumption);exact rfl;(first|exact True.intro|((repeat' apply And.intro)<;>first|exact True.intro|with_reducible rfl|(simp only[Fits];omega)|omega|assumption|decide|(simp;done)|exact rfl)))|((with_reducible apply st_skip);exact rfl;exact rfl;(first|exact rfl|assumption))|((with_reducible apply st_app0);exact rfl;exact rfl;exact rfl;omega)|((with_reducible apply st_skipu);exact rfl;exact rfl)|((with_reducible apply st_pickt);exact rfl;assumption;exact rfl)|((with_reducible apply st_pickf);exact rfl;assumption;exact rfl)|((with_reducible apply st_pickgt);exact rfl;exact rfl;(first|exact rfl|assumption);exact rfl;(first|exact rfl|assumption);exact rfl)|((with_reducible apply st_pickgf);exact rfl;exact rfl;(first|exact rfl|assumption);exact rfl;(first|exact rfl|assumption);exact rfl)|((with_reducible apply st_build);exact rfl;first|exact rfl|(first|exact True.intro|((repeat' apply And.intro)<;>first|exact True.intro|with_reducible rfl|(simp only[Fits];omega)|omega|assumption|decide|(simp;done)|exact rfl))))
  ((with_reducible apply st_callH); exact rfl; exact rfl; exact rfl; exact (d_steps (all := false) (hA := wA) (by omega) hn (by omega) (Nat.le_refl _)); (first | exact True.intro | exact ⟨rfl, rfl, rfl, True.intro⟩); exact rfl; exact rfl; exact rfl; exact rfl; (focus (repeat (first | exact True.intro | refine ⟨(by first | exact True.intro | rfl), ?_⟩))); (first | exact True.intro | exact okf_WH))
  repeat(first|(with_reducible first|refine awp_seq ?_|refine awp_block ?_|refine awp_skip ?_|refine awp_exit ?_|refine awp_ret ?_|refine q_then ?_|refine q_block ?_|refine q_then_exit ?_|refine q_then_ret ?_|refine q_block_exit ?_|refine q_block_ret ?_|refine q_loop_exit ?_|refine q_loop_ret ?_)|((with_reducible refine q_block_other ?_ ?_);exact rfl)|((with_reducible refine reg ?_ ?_);exact rfl)|((with_reducible refine st_end ?_ ?_);first|exact .inl rfl|exact .inr rfl)|(with_reducible apply st_build0)|((with_reducible apply st_ev);exact rfl;(first|exact True.intro|((repeat' apply And.intro)<;>first|exact True.intro|with_reducible rfl|(simp only[Fits];omega)|omega|assumption|decide|(simp;done)|exact rfl)))|((with_reducible apply st_evg);exact rfl;exact rfl;(first|exact rfl|assumption);exact rfl;(first|exact True.intro|((repeat' apply And.intro)<;>first|exact True.intro|with_reducible rfl|(simp only[Fits];omega)|omega|assumption|decide|(simp;done)|exact rfl)))|((with_reducible apply st_skip);exact rfl;exact rfl;(first|exact rfl|assumption))|((with_reducible apply st_app0);exact rfl;exact rfl;exact rfl;omega)|((with_reducible apply st_skipu);exact rfl;exact rfl)|((with_reducible apply st_pickt);exact rfl;assumption;exact rfl)|((with_reducible apply st_pickf);exact rfl;assumption;exact rfl)|((with_reducible apply st_pickgt);exact rfl;exact rfl;(first|exact rfl|assumption);exact rfl;(first|exact rfl|assumption);exact rfl)|((with_reducible apply st_pickgf);exact rfl;exact rfl;(first|exact rfl|assumption);exact rfl;(first|exact rfl|assumption);exact rfl)|((with_reducible apply st_build);exact rfl;first|exact rfl|(first|exact True.intro|((repeat' apply And.intro)<;>first|exact True.intro|with_reducible rfl|(simp only[Fits];omega)|omega|assumption|decide|(simp;done)|exact rfl))))
  refine ⟨.inr rfl, _, Imp.refl _, ?_⟩
  exact .one (.tmp rfl)
end Go.Proofs.Ytjmpanhacfjcaaa.AM
/- Own slices that are handed to a call that only reads them. -/
namespace Go.Proofs.Ytjmpanhacfjcaaa.AM
open Go Go.RowKit Go.Proofs.Ytjmpanhacfjcaaa.PN Go.Proofs.Ytjmpanhacfjcaaa.V
set_option linter.unusedVariables false
set_option linter.unusedSimpArgs false
/-- A row, as it is or own. -/
inductive RView (s : St) (rd : List Nat) : AV → Nat → (Nat → RA) → Prop where
  | row {fr : Bool} {n : Nat} {f : Nat → RA} : RView s rd (.row fr n f) n f
  | own {g r n m : Nat} {F : Nat → Blk} {f f0 : Nat → RA} (hg : s.heap g = some (n, F)) (hr : r < n) (hF : F r = .rats m f0) (hrd : g ∈ rd) (he : ∀ i, i < m → f0 i = f i) : RView s rd (.own g r) m f
/-- What a reader may take a value for. -/
inductive View (s : St) (rd : List Nat) : AV → AV → Prop where
  | old {x y : AV} (h : x.old = y) : View s rd x y
  | row {x : AV} {n : Nat} {f : Nat → RA} (h : RView s rd x n f) : View s rd x (.row false n f)
  | mat {g r n n' : Nat} {F : Nat → Blk} {f : Nat → AV} {m : Nat → Nat} {G : Nat → Nat → RA} (hg : s.heap g = some (n', F)) (hr : r < n') (hF : F r = .ones WT n f) (hrd : g ∈ rd) (h : ∀ i, i < n → RView s rd (f i) (m i) (G i)) : View s rd (.own g r) (.mat false n m G)
def safe : AV → Bool
  | .v _ | .nat _ | .lb _ | .ra _ | .rs _ | .rn _ | .rd _ => true
  | .row fr _ _ => fr
  | .mat fr _ _ _ => fr
  | .tup a b => safe a && safe b
  | .tup3 a b c => safe a && (safe b && safe c)
  | _ => false
theorem safe_rv {S S' : Nat → Prop} {B B' : Nat} {β β' : Nat → Nat → Value} {w : World} (hS : ∀ b, B ≤ b → S' b) (hB : B' ≤ B) : ∀ {r : AV} {v : Value}, safe r = true → RV S B β w r v → RV S' B' β' w r v := by
  have row : ∀ {n : Nat} {f : Nat → RA} {v : Value}, RowV S B w true n f v → RowV S' B' w true n f v := by
    rintro n f v ⟨A, c, e1, e2, e3, e4⟩
    refine ⟨A, c, e1, e2, e3, fun i hi => ?_⟩
    obtain ⟨b, off, a1, a2, a3, a4⟩ := e4 i hi
    exact ⟨b, off, a1, hS b (a3 rfl), fun _ => Nat.le_trans hB (a3 rfl), a4⟩
  intro r
  induction r with
  | v x => exact fun _ h => h
  | nat n => exact fun _ h => h
  | lb l => exact fun _ h => h
  | ra r => exact fun _ h => h
  | rs r => exact fun _ h => h
  | rn r => exact fun _ h => h
  | rd r => exact fun _ h => h
  | row fr n f => intro v hs h; cases hs; exact row h
  | mat fr n m F =>
    intro v hs h
    cases hs
    obtain ⟨A, c, e1, e2, e3, e4⟩ := h
    refine ⟨A, c, e1, e2, e3, fun i hi => ?_⟩
    obtain ⟨b, off, cs, x, a1, a2, a3, a4, a5, a6⟩ := e4 i hi
    exact ⟨b, off, cs, x, a1, hS b (a3 rfl), fun _ => Nat.le_trans hB (a3 rfl), a4, a5, row a6⟩
  | tup a b iha ihb =>
    intro v hs h
    unfold safe at hs
    rw [Bool.and_eq_true] at hs
    obtain ⟨x, y, e, h1, h2⟩ := h
    exact ⟨x, y, e, iha hs.1 h1, ihb hs.2 h2⟩
  | tup3 a b c iha ihb ihc =>
    intro v hs h
    unfold safe at hs
    rw [Bool.and_eq_true, Bool.and_eq_true] at hs
    obtain ⟨x, y, z, e, h1, h2, h3⟩ := h
    exact ⟨x, y, z, e, iha hs.1 h1, ihb hs.2.1 h2, ihc hs.2.2 h3⟩
  | _ => intro v hs; cases hs
theorem ok_true : ∀ x : AV, x.ok (fun _ => true) := by
  intro x
  induction x with
  | own g r => rfl
  | ptr g r i => rfl
  | rptr g r i => rfl
  | fld g r i j => rfl
  | cp x ih => exact ih
  | ag n f ih => exact fun i _ => ih i
  | tup a b iha ihb => exact ⟨iha, ihb⟩
  | tup3 a b c iha ihb ihc => exact ⟨iha, ihb, ihc⟩
  | clo f n c ih => exact fun i _ => ih i
  | _ => trivial
theorem rv_all {S : Nat → Prop} {B B' : Nat} {β : Nat → Nat → Value} {w : World} {x : AV} {v : Value} (h : RV S B β w x v) : RV (fun _ => True) B' β w x.old v := by
  have h1 : RV S B' β w x.old v := rv_old h
  exact RV.fwd (U := fun _ => true) (O := fun _ => False) ⟨Ext.refl _ _, fun _ _ h => h, fun _ _ _ => trivial, Nat.le_refl _, fun _ _ _ => rfl⟩ (ok_true _) h1
theorem row_congr {S : Nat → Prop} {B : Nat} {w : World} {fr : Bool} {n : Nat} {f g : Nat → RA} {v : Value} (he : ∀ i, i < n → f i = g i) (h : RowV S B w fr n f v) : RowV S B w fr n g v := by
  obtain ⟨A, c, e1, e2, e3, e4⟩ := h
  refine ⟨A, c, e1, e2, e3, fun i hi => ?_⟩
  obtain ⟨b, off, a1, a2, a3, a4⟩ := e4 i hi
  exact ⟨b, off, a1, a2, a3, by rw [← he i hi]; exact a4⟩
theorem rview_rv {W : Wd} {N : Nat} {β : Nat → Nat → Value} {w : World} {a : Act} {s : St} (hs : Sim W N β w a s) {rd : List Nat} {x : AV} {n B' : Nat} {f : Nat → RA} {v : Value} (h : RView s rd x n f) (hv : RV (notOwn W s β) W.w.heap.size β w x v) : RowV (fun _ => True) B' w false n f v := by
  cases h with
  | row => exact rv_all (x := .row _ n f) hv
  | own hg hr hF hrd he =>
    have hb := (hs.heap _ _ _ _ hg hr).2
    rw [hF] at hb
    exact row_congr he (row_old (own_row (S' := fun _ => True) hv hb fun _ _ => trivial))
theorem view_rv {W : Wd} {N : Nat} {β : Nat → Nat → Value} {w : World} {a : Act} {s : St} (hs : Sim W N β w a s) {rd : List Nat} {x y : AV} {B' : Nat} {v : Value} (h : View s rd x y) (hv : RV (notOwn W s β) W.w.heap.size β w x v) : RV (fun _ => True) B' β w y v := by
  cases h with
  | old h => subst h; exact rv_all hv
  | row h => exact rview_rv hs h hv
  | mat hg hr hF hrd h =>
    have hb := (hs.heap _ _ _ _ hg hr).2
    rw [hF] at hb
    obtain ⟨e0, A, n', c, e⟩ := hv
    rcases hb.2 with ⟨e', rfl⟩ | ⟨k, cs, hB, hr, hat, hx⟩
    · exact ⟨none, 0, e0.trans e', Nat.le_refl _, Nat.zero_le _, fun i hi => absurd hi (Nat.not_lt_zero _)⟩
    · rcases hat with ⟨e', _⟩ | ⟨cap, e', h3, h4, _⟩
      · rw [← e0, e] at e'; cases e'
      · refine ⟨_, cap, e0.trans e', h3, h4, fun i hi => ?_⟩
        obtain ⟨y, a0, a1, a2⟩ := hx i hi
        exact ⟨k, 0, cs, y, rfl, trivial, fun h => (by cases h), hr, by rw [Nat.zero_add]; exact a0, rview_rv hs (h i hi) a2⟩
theorem RView.like {s s2 : St} {rd : List Nat} (hl : ∀ g ∈ rd, s2.heap g = s.heap g) {x : AV} {n : Nat} {f : Nat → RA} (h : RView s rd x n f) : RView s2 rd x n f := by
  cases h with
  | row => exact .row
  | own hg hr hF hrd he => exact .own ((hl _ hrd).trans hg) hr hF hrd he
theorem View.like {s s2 : St} {rd : List Nat} (hl : ∀ g ∈ rd, s2.heap g = s.heap g) {x y : AV} (h : View s rd x y) : View s2 rd x y := by
  cases h with
  | old h => exact .old h
  | row h => exact .row (h.like hl)
  | mat hg hr hF hrd h => exact .mat ((hl _ hrd).trans hg) hr hF hrd fun i hi => (h i hi).like hl
inductive Views (s : St) (rd : List Nat) : List AV → List AV → Prop where
  | nil : Views s rd [] []
  | cons {x y : AV} {xs ys : List AV} (h : View s rd x y) (k : Views s rd xs ys) : Views s rd (x :: xs) (y :: ys)
theorem Views.get {s : St} {rd : List Nat} : ∀ {xs ys : List AV}, Views s rd xs ys → xs.length = ys.length ∧ ∀ (i : Nat) (y : AV), ys[i]? = some y → ∃ x, xs[i]? = some x ∧ View s rd x y
  | _, _, .nil => ⟨rfl, fun i y h => by cases h⟩
  | _, _, .cons h k => by
    obtain ⟨h1, h2⟩ := k.get
    refine ⟨by simp [h1], fun i y hy => ?_⟩
    cases i with
    | zero => cases hy; exact ⟨_, rfl, h⟩
    | succ i => exact h2 i y (by simpa using hy)
theorem ok_callO {P : Program} {o : Oper} {s : St} {fo : Operand} {args : Array Operand} {Ts : Array TypeId} {F r : AV} {f : FuncId} {caps xs ys : List AV} {rd : List Nat} (ho : o.op = .call { callee := .value fo, args := args, argTypes := Ts })
    (hF : avo s fo = some F) (hc : callee F = some (f, caps)) (ha : avl s args.toList = some xs) (hvs : Views s rd (xs ++ caps) ys) (h : Has P f ys r) (hsafe : safe r = true) : LOK P o s ⟨some r, [], rd⟩ := by
  refine lok_kept fun s2 hl W N β w a hs K Q hK => ?_
  have hfo : avo s2 fo = some F := by rw [hl.avo (by rw [ho]; simp [Op.operands, Call.operands])]; exact hF
  obtain ⟨hok0, hFv⟩ := hs.opd hfo
  obtain ⟨hal, hag⟩ := avl_get ha
  -- the function and what it has captured
  obtain ⟨cap, hfv, hcl, hcv⟩ : ∃ cap : Array Value, a.eval fo = .func (.func f) #[] cap ∧ caps.length = cap.toList.length ∧ ∀ (i : Nat) (x : AV) (v : Value), caps[i]? = some x → cap.toList[i]? = some v → RV (notOwn W s2 β) W.w.heap.size β w x v := by
    unfold callee at hc
    split at hc
    · rename_i f' fs cs
      cases hb : (Nat.beq fs.size 0 && Nat.beq cs.size 0) with
      | false => rw [hb] at hc; cases hc
      | true =>
        rw [hb] at hc
        cases hc
        rw [Bool.and_eq_true] at hb
        have e1 : fs = #[] := Array.eq_empty_of_size_eq_zero (Nat.eq_of_beq_eq_true hb.1)
        have e2 : cs = #[] := Array.eq_empty_of_size_eq_zero (Nat.eq_of_beq_eq_true hb.2)
        subst e1; subst e2
        exact ⟨#[], hFv, rfl, fun i x v hx => by cases hx⟩
    · rename_i f' n c
      cases hc
      obtain ⟨cap, h1, h2, h3⟩ := hFv
      refine ⟨cap, h1, by simp [h2], fun i x v hx hv => ?_⟩
      rw [List.getElem?_map] at hx
      have hin : i < n := by
        rcases Nat.lt_or_ge i n with h | h
        · exact h
        · rw [List.getElem?_eq_none (by simpa using h)] at hx; cases hx
      rw [List.getElem?_range hin] at hx
      cases hx
      obtain ⟨y, a0, a2⟩ := h3 i hin
      rw [Array.getElem?_toList, a0] at hv
      cases hv
      exact a2
    · cases hc
  have hrun : (execOp a.eval o).run P w = .ok (.enter f (args.map a.eval ++ cap)) w := by
    unfold execOp; rw [ho]; simp only [resolve]; rw [hfv]
    simp [Deferred.ofValue, invoke, run_enter h.b]
  have hR0 : ∀ (i : Nat) (x : AV) (v : Value), (xs ++ caps)[i]? = some x → (args.map a.eval ++ cap).toList[i]? = some v → RV (notOwn W s2 β) W.w.heap.size β w x v := by
    intro i x v hx hv
    rw [Array.toList_append] at hv
    have hla : (args.map a.eval).toList.length = xs.length := by simp [hal]
    rw [List.getElem?_append] at hx hv
    rw [hla] at hv
    split at hx
    · rename_i hi
      rw [if_pos hi] at hv
      obtain ⟨q, e1, e2⟩ := hag i x hx
      rw [Array.toList_map, List.getElem?_map, e1] at hv
      cases hv
      refine (hs.opd ?_).2
      rw [hl.avo (by rw [ho]; simp only [Op.operands, Call.operands]; exact Array.mem_append.2 (.inr (Array.mem_toList_iff.1 (List.mem_of_getElem? e1))))]
      exact e2
    · rename_i hi
      rw [if_neg hi] at hv
      exact hcv _ x v hx hv
  have hlen : (xs ++ caps).length = (args.map a.eval ++ cap).toList.length := by simp [hal]; simpa using hcl
  obtain ⟨hvl, hvg⟩ := hvs.get
  have hR : RVs (fun _ => True) w.heap.size β w ys (args.map a.eval ++ cap).toList := by
    refine ⟨hvl.symm.trans hlen, fun i y v hy hv => ?_⟩
    obtain ⟨x, hx, hxy⟩ := hvg i y hy
    exact view_rv hs (hxy.like hl.heap) (hR0 i x v hx hv)
  have hcall := h.run w (fun _ => True) β (args.map a.eval ++ cap).toList hR
  unfold Oper.wp
  rw [hrun]
  show Calls P f _ w _
  rw [Array.toArray_toList] at hcall
  refine hcall.mono fun e w' he => ?_
  obtain ⟨v, rfl, hk, hv⟩ := he
  refine hK v w' hk fun x hx => ?_
  cases hx
  exact ⟨ok_none h.ok, safe_rv (fun b hb => ⟨fun hlt => absurd (Nat.lt_of_lt_of_le hlt hs.fix.size) (by omega), fun ho => by have := (own_lt hs ho).2; omega⟩) hs.kept.size hsafe hv⟩
theorem st_callO {ops : Array Oper} {l : List Oper} {s : St} {acc : List Fp} {K : St → List Fp → Prop} {d : Option Tmp} {ty : TypeId} {ps : String} {aft : Array Edge} {fo : Operand} {args : Array Operand} {Ts : Array TypeId} {F r : AV} {f : FuncId} {caps xs ys : List AV} (rd : List Nat)
    (hF : avo s fo = some F) (hc : callee F = some (f, caps)) (ha : avl s args.toList = some xs) (hvs : Views s rd (xs ++ caps) ys) (h : Has Try.prog f ys r) (hsafe : safe r = true)
    (k : AOps Try.prog ops l (nxt s d (some r) []) ((rd, []) :: acc) K) : AOps Try.prog ops (⟨d, .call ⟨.value fo, args, Ts⟩, ty, ps, aft, none⟩ :: l) s acc K :=
  .cons _ (.inl ⟨.none rfl, ok_callO rfl hF hc ha hvs h hsafe⟩) k
end Go.Proofs.Ytjmpanhacfjcaaa.AM

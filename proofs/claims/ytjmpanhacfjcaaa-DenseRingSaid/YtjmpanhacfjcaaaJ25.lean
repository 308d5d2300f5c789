/- Joined texts, 25: LawF LawG. -/
import Derived.Test.YtjmpanhacfjcaaaJ24
/- Laws of dense matrices: DenseRing, walked. -/
namespace Go.Proofs.Ytjmpanhacfjcaaa.AM
open Go Go.RowKit Go.Proofs.Ytjmpanhacfjcaaa.PN Go.Proofs.Ytjmpanhacfjcaaa.V
open Go.Proofs.Ytjmpanhacfjcaaa.LA (S S_succ S_zero S_congr)
set_option linter.unusedVariables false
set_option linter.unusedSimpArgs false
set_option maxRecDepth 8000
set_option maxHeartbeats 8000000
def AllFit (zs : List Int) : Prop := ∀ i, i < zs.length → Fits .i64 (zs.getD i 0)
theorem k_ring {n : Int} {ns ms ks vs : List Int} (h1 : AllFit ns) (h2 : AllFit ms) (h3 : AllFit ks) (h4 : AllFit vs) : Has Try.prog 8 [.i n, .seq .i64 ns, .seq .i64 ms, .seq .i64 ks, .seq .i64 vs] (.b true) := by
  refine has_of Try.func8 (by kernel_rfl) rfl Try.ntmps8 Try.results8 rfl rfl rfl ?_
  obtain ⟨q1, q2⟩ := wthn_lt (a := n) (n := 4) (by decide)
  obtain ⟨N, hN⟩ : ∃ N : Nat, 1 + wthn n 4 = (N : Int) := ⟨(1 + wthn n 4).toNat, by omega⟩
  have hN0 : 0 < N := by omega
  have hN8 : N ≤ 8 := by omega
  repeat(first|(with_reducible first|refine awp_seq ?_|refine awp_block ?_|refine awp_skip ?_|refine awp_exit ?_|refine awp_ret ?_|refine q_then ?_|refine q_block ?_|refine q_then_exit ?_|refine q_then_ret ?_|refine q_block_exit ?_|refine q_block_ret ?_|refine q_loop_exit ?_|refine q_loop_ret ?_)|((with_reducible refine q_block_other ?_ ?_);exact rfl)|((with_reducible refine reg ?_ ?_);exact rfl)|((with_reducible refine st_end ?_ ?_);first|exact .inl rfl|exact .inr rfl)|(with_reducible apply st_build0)|((with_reducible apply st_ev);exact rfl;(first|exact True.intro|((repeat' apply And.intro)<;>first|exact True.intro|with_reducible rfl|(simp only[Fits];omega)|omega|assumption|decide|(simp;done)|exact rfl)))|((with_reducible apply st_evg);exact rfl;exact rfl;(first|exact rfl|assumption);exact rfl;(first|exact True.intro|((repeat' apply And.intro)<;>first|exact True.intro|with_reducible rfl|(simp only[Fits];omega)|omega|assumption|decide|(simp;done)|exact rfl)))|((with_reducible apply st_skip);exact rfl;exact rfl;(first|exact rfl|assumption))|((with_reducible apply st_app0);exact rfl;exact rfl;exact rfl;omega)|((with_reducible apply st_skipu);exact rfl;exact rfl)|((with_reducible apply st_pickt);exact rfl;assumption;exact rfl)|((with_reducible apply st_pickf);exact rfl;assumption;exact rfl)|((with_reducible apply st_pickgt);exact rfl;exact rfl;(first|exact rfl|assumption);exact rfl;(first|exact rfl|assumption);exact rfl)|((with_reducible apply st_pickgf);exact rfl;exact rfl;(first|exact rfl|assumption);exact rfl;(first|exact rfl|assumption);exact rfl)|((with_reducible apply st_build);exact rfl;first|exact rfl|(first|exact True.intro|((repeat' apply And.intro)<;>first|exact True.intro|with_reducible rfl|(simp only[Fits];omega)|omega|assumption|decide|(simp;done)|exact rfl)))|((with_reducible apply st_call);exact rfl;exact rfl;exact rfl;first|(exact k_known))|((with_reducible apply st_callg);exact rfl;exact rfl;(first|exact rfl|assumption);exact rfl;exact rfl;exact rfl;first|(exact k_known)))
  refine awp_no rfl rfl ?_
  repeat(first|(with_reducible first|refine awp_seq ?_|refine awp_block ?_|refine awp_skip ?_|refine awp_exit ?_|refine awp_ret ?_|refine q_then ?_|refine q_block ?_|refine q_then_exit ?_|refine q_then_ret ?_|refine q_block_exit ?_|refine q_block_ret ?_|refine q_loop_exit ?_|refine q_loop_ret ?_)|((with_reducible refine q_block_other ?_ ?_);exact rfl)|((with_reducible refine reg ?_ ?_);exact rfl)|((with_reducible refine st_end ?_ ?_);first|exact .inl rfl|exact .inr rfl)|(with_reducible apply st_build0)|((with_reducible apply st_ev);exact rfl;(first|exact True.intro|((repeat' apply And.intro)<;>first|exact True.intro|with_reducible rfl|(simp only[Fits];omega)|omega|assumption|decide|(simp;done)|exact rfl)))|((with_reducible apply st_evg);exact rfl;exact rfl;(first|exact rfl|assumption);exact rfl;(first|exact True.intro|((repeat' apply And.intro)<;>first|exact True.intro|with_reducible rfl|(simp only[Fits];omega)|omega|assumption|decide|(simp;done)|exact rfl)))|((with_reducible apply st_skip);exact rfl;exact rfl;(first|exact rfl|assumption))|((with_reducible apply st_app0);exact rfl;exact rfl;exact rfl;omega)|((with_reducible apply st_skipu);exact rfl;exact rfl)|((with_reducible apply st_pickt);exact rfl;assumption;exact rfl)|((with_reducible apply st_pickf);exact rfl;assumption;exact rfl)|((with_reducible apply st_pickgt);exact rfl;exact rfl;(first|exact rfl|assumption);exact rfl;(first|exact rfl|assumption);exact rfl)|((with_reducible apply st_pickgf);exact rfl;exact rfl;(first|exact rfl|assumption);exact rfl;(first|exact rfl|assumption);exact rfl)|((with_reducible apply st_build);exact rfl;first|exact rfl|(first|exact True.intro|((repeat' apply And.intro)<;>first|exact True.intro|with_reducible rfl|(simp only[Fits];omega)|omega|assumption|decide|(simp;done)|exact rfl)))|((with_reducible apply st_call);exact rfl;exact rfl;exact rfl;first|(exact k_within7 (by decide) (by decide)))|((with_reducible apply st_callg);exact rfl;exact rfl;(first|exact rfl|assumption);exact rfl;exact rfl;exact rfl;first|(exact k_within7 (by decide) (by decide))))
  rw [hN]
  have wA : ∀ i j, Wt (mkm N ns i j) 3 := fun i j => mkm_wt _ _ _ _
  have wB : ∀ i j, Wt (mkm N ms i j) 3 := fun i j => mkm_wt _ _ _ _
  have wC : ∀ i j, Wt (mkm N ks i j) 3 := fun i j => mkm_wt _ _ _ _
  have wv : ∀ i, Wt (rowq vs i) 1 := fun i => rowq_wt _ _
  have m1 := k_make hN0 hN8 h1
  have m2 := k_make hN0 hN8 h2
  have m3 := k_make hN0 hN8 h3
  have m4 := k_row (zs := vs) (n := N) (by omega) h4
  generalize mkm N ns = A at *
  generalize mkm N ms = B at *
  generalize mkm N ks = C at *
  generalize rowq vs = v at *
  have wP : ∀ i j, Wt (S N fun k => A i k * B k j) 57 := fun i j => Wt.sum hN8 fun k _ => (inferInstance : Wt (A i k * B k j) (3 + 3))
  have wQ : ∀ i j, Wt (S N fun k => B i k * C k j) 57 := fun i j => Wt.sum hN8 fun k _ => (inferInstance : Wt (B i k * C k j) (3 + 3))
  have wX : ∀ i j, Wt (S N fun k => (S N fun l => A i l * B l k) * C k j) 489 := fun i j => (Wt.sum hN8 fun k _ => (inferInstance : Wt ((S N fun l => A i l * B l k) * C k j) (57 + 3))).mono (by decide)
  have wI : ∀ i j, Wt (S N fun k => A i k * idm k j) 57 := fun i j => (Wt.sum hN8 fun k _ => (inferInstance : Wt (A i k * idm k j) (3 + 1))).mono (by decide)
  have wBv : ∀ i, Wt (S N fun k => B i k * v k) 57 := fun i => (Wt.sum hN8 fun k _ => (inferInstance : Wt (B i k * v k) (3 + 1))).mono (by decide)
  have wPv : ∀ i, Wt (S N fun k => (S N fun l => A i l * B l k) * v k) 489 := fun i => (Wt.sum hN8 fun k _ => (inferInstance : Wt ((S N fun l => A i l * B l k) * v k) (57 + 1))).mono (by decide)
  have wAt : ∀ i j, Wt (A j i) 3 := fun i j => wA j i
  have wBt : ∀ i j, Wt (B j i) 3 := fun i j => wB j i
  have wPt : ∀ i j, Wt (S N fun k => A j k * B k i) 57 := fun i j => wP j i
  have c1 := d_mul (hf := wA) (hg := wB) (by decide) (by decide) hN0 hN8
  have c2 := d_mul (hf := wP) (hg := wC) (by decide) (by decide) hN0 hN8
  have c3 := d_mul (hf := wB) (hg := wC) (by decide) (by decide) hN0 hN8
  have c4 := d_mul (hf := wA) (hg := wQ) (by decide) (by decide) hN0 hN8
  have c5 := k_all (hf := wX) (by decide) (show N ≤ 1000 by omega) (show N ≤ 1000 by omega) (fun i _ j _ => ring_assoc N A B C i j)
  have c6 := k_one (n := N) (by omega)
  have c7 := d_mul (hf := wA) (hg := fun i j => idm_wt i j) (by decide) (by decide) hN0 hN8
  have c8 := k_all (hf := wI) (by decide) (show N ≤ 1000 by omega) (show N ≤ 1000 by omega) (fun i _ j hj => ring_one A i hj)
  have c9 := d_turn (hf := wP) (by decide) hN0 hN8
  have c10 := d_turn (hf := wB) (by decide) hN0 hN8
  have c11 := d_turn (hf := wA) (by decide) hN0 hN8
  have c12 := d_mul (hf := wBt) (hg := wAt) (by decide) (by decide) hN0 hN8
  have c13 := k_all (hf := wPt) (by decide) (show N ≤ 1000 by omega) (show N ≤ 1000 by omega) (fun i _ j _ => ring_turn N A B i j)
  have c14 := d_apply (hf := wP) (hv := wv) (by decide) (by decide) hN0 hN8
  have c15 := d_apply (hf := wB) (hv := wv) (by decide) (by decide) hN0 hN8
  have c16 := d_apply (K := 57) (hf := fun i j => (wA i j).mono (by decide)) (hv := wBv) (by decide) (by decide) hN0 hN8
  have c17 := k_rows (hf := wPv) (by decide) (show N ≤ 1000 by omega) (fun i _ => ring_apply N A B v i)
  have c18 := d_turn (hf := wAt) (by decide) hN0 hN8
  have c19 := k_all (hf := wA) (by decide) (show N ≤ 1000 by omega) (show N ≤ 1000 by omega) (fun i _ j _ => rfl : ∀ i, i < N → ∀ j, j < N → A i j = A i j)
  repeat(first|(with_reducible first|refine awp_seq ?_|refine awp_block ?_|refine awp_skip ?_|refine awp_exit ?_|refine awp_ret ?_|refine q_then ?_|refine q_block ?_|refine q_then_exit ?_|refine q_then_ret ?_|refine q_block_exit ?_|refine q_block_ret ?_|refine q_loop_exit ?_|refine q_loop_ret ?_)|((with_reducible refine q_block_other ?_ ?_);exact rfl)|((with_reducible refine reg ?_ ?_);exact rfl)|((with_reducible refine st_end ?_ ?_);first|exact .inl rfl|exact .inr rfl)|(with_reducible apply st_build0)|((with_reducible apply st_ev);exact rfl;(first|exact True.intro|((repeat' apply And.intro)<;>first|exact True.intro|with_reducible rfl|(simp only[Fits];omega)|omega|assumption|decide|(simp;done)|exact rfl)))|((with_reducible apply st_evg);exact rfl;exact rfl;(first|exact rfl|assumption);exact rfl;(first|exact True.intro|((repeat' apply And.intro)<;>first|exact True.intro|with_reducible rfl|(simp only[Fits];omega)|omega|assumption|decide|(simp;done)|exact rfl)))|((with_reducible apply st_skip);exact rfl;exact rfl;(first|exact rfl|assumption))|((with_reducible apply st_app0);exact rfl;exact rfl;exact rfl;omega)|((with_reducible apply st_skipu);exact rfl;exact rfl)|((with_reducible apply st_pickt);exact rfl;assumption;exact rfl)|((with_reducible apply st_pickf);exact rfl;assumption;exact rfl)|((with_reducible apply st_pickgt);exact rfl;exact rfl;(first|exact rfl|assumption);exact rfl;(first|exact rfl|assumption);exact rfl)|((with_reducible apply st_pickgf);exact rfl;exact rfl;(first|exact rfl|assumption);exact rfl;(first|exact rfl|assumption);exact rfl)|((with_reducible apply st_build);exact rfl;first|exact rfl|(first|exact True.intro|((repeat' apply And.intro)<;>first|exact True.intro|with_reducible rfl|(simp only[Fits];omega)|omega|assumption|decide|(simp;done)|exact rfl)))|((with_reducible apply st_call);exact rfl;exact rfl;exact rfl;first|(exact m1)|(exact m2)|(exact m3)|(exact m4)|(exact c1)|(exact c2)|(exact c3)|(exact c4)|(exact c5)|(exact c6)|(exact c7)|(exact c8)|(exact c9)|(exact c10)|(exact c11)|(exact c12)|(exact c13)|(exact c14)|(exact c15)|(exact c16)|(exact c17)|(exact c18)|(exact c19))|((with_reducible apply st_callg);exact rfl;exact rfl;(first|exact rfl|assumption);exact rfl;exact rfl;exact rfl;first|(exact m1)|(exact m2)|(exact m3)|(exact m4)|(exact c1)|(exact c2)|(exact c3)|(exact c4)|(exact c5)|(exact c6)|(exact c7)|(exact c8)|(exact c9)|(exact c10)|(exact c11)|(exact c12)|(exact c13)|(exact c14)|(exact c15)|(exact c16)|(exact c17)|(exact c18)|(exact c19)))
  refine ⟨.inr rfl, _, Imp.refl _, ?_⟩
  exact .one (.tmp rfl)
end Go.Proofs.Ytjmpanhacfjcaaa.AM
/- Laws of dense matrices: DenseRing: its call. -/
namespace Go.Proofs.Ytjmpanhacfjcaaa.V
open Go
def IsRow (k : IntKind) (w : World) (a : Option Addr) (len cap : Nat) (zs : List Int) : Prop :=
  (a = none ∧ len = 0 ∧ cap = 0 ∧ zs = []) ∨
  ∃ x, a = some x ∧ len ≤ cap ∧ cap ≤ maxLen ∧ zs.length = cap ∧ (∀ i, i < zs.length → w.cell? (x.add i) = some (.int k (zs.getD i 0))) ∧ ∀ n ∈ zs, (Lit.int k n).wf = true
end Go.Proofs.Ytjmpanhacfjcaaa.V
namespace Go.Proofs.Ytjmpanhacfjcaaa.AM
open Go Go.RowKit Go.Proofs.Ytjmpanhacfjcaaa.PN Go.Proofs.Ytjmpanhacfjcaaa.V
set_option linter.unusedVariables false
set_option linter.unusedSimpArgs false
theorem fit_wf {n : Int} (h : (Lit.int .i64 n).wf = true) : Fits .i64 n := by
  unfold Lit.wf at h
  rw [Bool.and_eq_true] at h
  exact ⟨of_decide_eq_true h.1, of_decide_eq_true h.2⟩
theorem row_seq {W : World} {a : Option Addr} {len cap : Nat} {zs : List Int} (h : IsRow .i64 W a len cap zs) (B : Nat) (β : Nat → Nat → Value) : ∃ l, AllFit l ∧ RV (fun _ => True) B β W (.seq .i64 l) (.slice a len cap) := by
  rcases h with ⟨rfl, rfl, rfl, rfl⟩ | ⟨x, rfl, h1, h2, h3, h4, h5⟩
  · exact ⟨[], fun i hi => absurd hi (Nat.not_lt_zero _), none, 0, rfl, Nat.le_refl _, Nat.zero_le _, fun i hi => absurd hi (Nat.not_lt_zero _)⟩
  · have hl : (zs.take len).length = len := by simp; omega
    have hg : ∀ i, i < len → (zs.take len).getD i 0 = zs.getD i 0 := fun i hi => by
      rw [List.getD_eq_getElem?_getD, List.getD_eq_getElem?_getD, List.getElem?_take, if_pos hi]
    refine ⟨zs.take len, fun i hi => ?_, some x, cap, by rw [hl], by rw [hl]; exact h1, h2, fun i hi => ?_⟩
    · rw [hl] at hi
      rw [hg i hi]
      apply fit_wf
      apply h5
      rw [List.getD_eq_getElem?_getD, List.getElem?_eq_getElem (by omega)]
      exact List.getElem_mem _
    · rw [hl] at hi
      exact ⟨x, rfl, trivial, by rw [hg i hi]; exact h4 i (by omega)⟩
theorem ring_calls (n : Int) (a1 a2 a3 a4 : Option Addr) (l1 l2 l3 l4 c1 c2 c3 c4 : Nat) (z1 z2 z3 z4 : List Int) (W : World) (h1 : IsRow .i64 W a1 l1 c1 z1) (h2 : IsRow .i64 W a2 l2 c2 z2) (h3 : IsRow .i64 W a3 l3 c3 z3) (h4 : IsRow .i64 W a4 l4 c4 z4) :
    Calls Try.prog 8 #[.int .i64 n, .slice a1 l1 c1, .slice a2 l2 c2, .slice a3 l3 c3, .slice a4 l4 c4] W fun e w' => e = .returned (.bool true) ∧ Below W.heap.size W w' := by
  let β : Nat → Nat → Value := fun _ _ => .bool false
  obtain ⟨y1, f1, g1⟩ := row_seq h1 W.heap.size β
  obtain ⟨y2, f2, g2⟩ := row_seq h2 W.heap.size β
  obtain ⟨y3, f3, g3⟩ := row_seq h3 W.heap.size β
  obtain ⟨y4, f4, g4⟩ := row_seq h4 W.heap.size β
  have h := (k_ring (n := n) f1 f2 f3 f4).run W (fun _ => True) β [.int .i64 n, .slice a1 l1 c1, .slice a2 l2 c2, .slice a3 l3 c3, .slice a4 l4 c4] ⟨rfl, fun i x v hx hv => by
    match i, hx, hv with
    | 0, hx, hv => cases hx; cases hv; rfl
    | 1, hx, hv => cases hx; cases hv; exact g1
    | 2, hx, hv => cases hx; cases hv; exact g2
    | 3, hx, hv => cases hx; cases hv; exact g3
    | 4, hx, hv => cases hx; cases hv; exact g4⟩
  refine h.mono ?_
  rintro e w' ⟨v, rfl, hk, hv⟩
  have hv : v = .bool true := hv
  subst hv
  exact ⟨rfl, hk⟩
end Go.Proofs.Ytjmpanhacfjcaaa.AM
namespace Go.Proofs.Ytjmpanhacfjcaaa.V
open Go Go.RowKit
theorem ring_walk (a0 : Int) (a1 : Option Addr) (len1 cap1 : Nat) (z1 : List Int) (a2 : Option Addr) (len2 cap2 : Nat) (z2 : List Int) (a3 : Option Addr) (len3 cap3 : Nat) (z3 : List Int) (a4 : Option Addr) (len4 cap4 : Nat) (z4 : List Int) (W : World)
    (w0 : (Lit.int .i64 a0).wf = true) (w1 : IsRow .i64 W a1 len1 cap1 z1) (w2 : IsRow .i64 W a2 len2 cap2 z2) (w3 : IsRow .i64 W a3 len3 cap3 z3) (w4 : IsRow .i64 W a4 len4 cap4 z4) :
    Calls Try.prog 8 #[.int .i64 a0, .slice a1 len1 cap1, .slice a2 len2 cap2, .slice a3 len3 cap3, .slice a4 len4 cap4] W fun e w' => e = .returned (.bool true) ∧ Below W.heap.size W w' :=
  AM.ring_calls a0 a1 a2 a3 a4 len1 len2 len3 len4 cap1 cap2 cap3 cap4 z1 z2 z3 z4 W w1 w2 w3 w4
end Go.Proofs.Ytjmpanhacfjcaaa.V

/- Joined texts, 30: AmW LawK. -/
import Derived.Test.YtjmpanhacfjcaaaJ23
import Derived.Test.YtjmpanhacfjcaaaJ29
/- What a law is called with. -/
namespace Go.Proofs.Ytjmpanhacfjcaaa.V
open Go
def IsRow (k : IntKind) (w : World) (a : Option Addr) (len cap : Nat) (zs : List Int) : Prop :=
  (a = none ∧ len = 0 ∧ cap = 0 ∧ zs = []) ∨
  ∃ x, a = some x ∧ len ≤ cap ∧ cap ≤ maxLen ∧ zs.length = cap ∧ (∀ i, i < zs.length → w.cell? (x.add i) = some (.int k (zs.getD i 0))) ∧ ∀ n ∈ zs, (Lit.int k n).wf = true
end Go.Proofs.Ytjmpanhacfjcaaa.V
namespace Go.Proofs.Ytjmpanhacfjcaaa.AM
open Go Go.RowKit Go.Proofs.Ytjmpanhacfjcaaa.PN Go.Proofs.Ytjmpanhacfjcaaa.V
set_option linter.unusedVariables false
set_option linter.unusedSimpArgs false
def AllFit (zs : List Int) : Prop := ∀ i, i < zs.length → Fits .i64 (zs.getD i 0)
theorem fit_wf {n : Int} (h : (Lit.int .i64 n).wf = true) : Fits .i64 n := by
  unfold Lit.wf at h
  rw [Bool.and_eq_true] at h
  exact ⟨of_decide_eq_true h.1, of_decide_eq_true h.2⟩
theorem row_seq {W : World} {a : Option Addr} {len cap : Nat} {zs : List Int} (h : IsRow .i64 W a len cap zs) (B : Nat) (β : Nat → Nat → Value) : ∃ l, AllFit l ∧ RV (fun _ => True) B β W (.seq .i64 l) (.slice a len cap) := by
  rcases h with ⟨rfl, rfl, rfl, rfl⟩ | ⟨x, rfl, h1, h2, h3, h4, h5⟩
  · exact ⟨[], fun i hi => absurd hi (Nat.not_lt_zero _), none, 0, rfl, Nat.le_refl _, Nat.zero_le _, fun i hi => absurd hi (Nat.not_lt_zero _)⟩
  · have hl : (zs.take len).length = len := by simp; omega
    have hg : ∀ i, i < len → (zs.take len).getD i 0 = zs.getD i 0 := fun i hi => by
      rw [List.getD_eq_getElem?_getD, List.getD_eq_getElem?_getD, List.getElem?_take, if_pos hi]
    refine ⟨zs.take len, fun i hi => ?_, some x, cap, by rw [hl], by rw [hl]; exact h1, h2, fun i hi => ?_⟩
    · rw [hl] at hi
      rw [hg i hi]
      apply fit_wf
      apply h5
      rw [List.getD_eq_getElem?_getD, List.getElem?_eq_getElem (by omega)]
      exact List.getElem_mem _
    · rw [hl] at hi
      exact ⟨x, rfl, trivial, by rw [hg i hi]; exact h4 i (by omega)⟩
/-- The same of arguments that say no less. -/
theorem Has.args {P : Program} {f : FuncId} {xs xs' : List AV} {r : AV} (H : Has P f xs' r) (h : ∀ S B β w vs, RVs S B β w xs vs → RVs S B β w xs' vs) : Has P f xs r :=
  ⟨H.b, H.ok, fun w S β vs hv => H.run w S β vs (h _ _ _ _ _ hv)⟩
theorem rv_row {S : Nat → Prop} {B : Nat} {β : Nat → Nat → Value} {w : World} {fr : Bool} {n : Nat} {f g : Nat → RA} (h : ∀ i, i < n → f i = g i) (v : Value) (hv : RV S B β w (.row fr n f) v) : RV S B β w (.row fr n g) v := row_congr h hv
theorem rvs_cons {S : Nat → Prop} {B : Nat} {β : Nat → Nat → Value} {w : World} {x x' : AV} {xs xs' : List AV} {vs : List Value} (hx : ∀ v, RV S B β w x v → RV S B β w x' v) (h : ∀ us, RVs S B β w xs us → RVs S B β w xs' us) (k : RVs S B β w (x :: xs) vs) : RVs S B β w (x' :: xs') vs := by
  match vs, k with
  | [], k => exact absurd k.1 (by simp)
  | v :: us, k =>
    have k2 := h us ⟨by simpa using k.1, fun i y u hy hu => k.2 (i + 1) y u hy hu⟩
    refine ⟨by simpa using k2.1, fun i y u hy hu => ?_⟩
    cases i with
    | zero => cases hy; cases hu; exact hx _ (k.2 0 x v rfl rfl)
    | succ i => exact k2.2 i y u hy hu
end Go.Proofs.Ytjmpanhacfjcaaa.AM
/- Laws of dense matrices: DenseOps, walked. -/
namespace Go.Proofs.Ytjmpanhacfjcaaa.AM
open Go Go.RowKit Go.Proofs.Ytjmpanhacfjcaaa.PN Go.Proofs.Ytjmpanhacfjcaaa.V
open Go.Proofs.Ytjmpanhacfjcaaa.LA (S S_succ S_zero S_congr)
set_option linter.unusedVariables false
set_option linter.unusedSimpArgs false
set_option maxRecDepth 8000
set_option maxHeartbeats 8000000
theorem smal_bits : ∀ x : _root_.Fin 41, ∀ y : _root_.Fin 5, nm ((((x.val : Int) - 20 : Int) : Rat) / ((1 + (y.val : Int) : Int) : Rat)) < 2 ^ 5 ∧ ((((x.val : Int) - 20 : Int) : Rat) / ((1 + (y.val : Int) : Int) : Rat)).den < 2 ^ 5 := by decide +kernel
instance smal_bt (a : Int) : Bt (smal a) 5 := by
  obtain ⟨h1, h2⟩ := wthn_lt (a := a) (n := 41) (by decide)
  obtain ⟨h3, h4⟩ := wthn_lt (a := a.tdiv 41) (n := 5) (by decide)
  have := smal_bits ⟨(wthn a 41).toNat, by omega⟩ ⟨(wthn (a.tdiv 41) 5).toNat, by omega⟩
  rw [show (((wthn a 41).toNat : Nat) : Int) = wthn a 41 by omega, show (((wthn (a.tdiv 41) 5).toNat : Nat) : Int) = wthn (a.tdiv 41) 5 by omega] at this
  exact ⟨this.1, this.2⟩
instance rowq_bt (zs : List Int) (i : Nat) : Bt (rowq zs i) 5 := smal_bt _
instance mbase_bt (n : Nat) (zs : List Int) (i j : Nat) : Bt (mbase n zs i j) 5 := rowq_bt _ _
theorem nv_bt (n : Nat) (zs : List Int) (c : Nat) : Bt (nv n zs c) 11 := by
  unfold nv; split
  · exact (inferInstance : Bt (mbase n zs 0 c + mbase n zs (lb2 n) c) (5 + 5 + 1))
  · exact (mbase_bt n zs 0 c).mono (by decide)
theorem mkm_bt (n : Nat) (zs : List Int) (i j : Nat) : Bt (mkm n zs i j) 11 := by
  unfold mkm; split
  · unfold mx; split
    · exact nv_bt _ _ _
    · exact (mbase_bt _ _ _ _).mono (by decide)
  · exact (mbase_bt _ _ _ _).mono (by decide)
theorem mkm_TB {n k : Nat} {zs : List Int} (h0 : 0 < k) (hn : k ≤ 5) : TB k k 2400 (mkm n zs) := by
  refine TB.of (K := 11) h0 (by decide) (hA := fun i j => mkm_bt n zs i j) ?_
  have : 4 ^ (k - 1) ≤ 4 ^ 4 := Nat.pow_le_pow_right (by decide) (by omega)
  have e : 4 ^ 4 = 256 := rfl
  omega
theorem gdet_wt {n X : Nat} {F : Nat → Nat → Rat} (h : TB n n X F) : Wt (gdet n F) (X + 1) := by
  rw [← dd_gdet]
  have := h.d n (Nat.le_refl n)
  exact (dd_wt (h := this.mono (Nat.le_succ X)) (by omega))
theorem k_rowsb {n K : Nat} {f g : Nat → Rat} (hf : ∀ i, i < n → Wt (f i) K) (hK1 : 1 ≤ K) (hK : K ≤ 1000000000000) (hn : n ≤ 1000) (h : ∀ i, i < n → f i = g i) : Has Try.prog 24 [.row false n (fun i => .q (f i)), .row false n (fun i => .q (g i))] (.b true) := by
  have w : ∀ i, Wt (if i < n then f i else 0) K := fun i => by
    split
    · rename_i h; exact hf i h
    · exact (inferInstance : Wt 0 1).mono hK1
  refine Has.args (k_rows (f := fun i => if i < n then f i else 0) (g := fun i => if i < n then f i else 0) (hf := w) hK hn (fun _ _ => rfl)) fun S B β w vs hv => rvs_cons (rv_row fun i hi => ?_) (fun us hu => rvs_cons (rv_row fun i hi => ?_) (fun us hu => hu) hu) hv
  · rw [if_pos hi]
  · rw [if_pos hi, h i hi]
theorem k_ops {n : Int} {ns ms vs : List Int} (_ : Fits .i64 n) (h1 : AllFit ns) (h2 : AllFit ms) (h3 : AllFit vs) : Has Try.prog 9 [.i n, .seq .i64 ns, .seq .i64 ms, .seq .i64 vs] (.b true) := by
  refine has_of Try.func9 (by kernel_rfl) rfl Try.ntmps9 Try.results9 rfl rfl rfl ?_
  obtain ⟨q1, q2⟩ := wthn_lt (a := n) (n := 5) (by decide)
  obtain ⟨N, hN⟩ : ∃ N : Nat, 1 + wthn n 5 = (N : Int) := ⟨(1 + wthn n 5).toNat, by omega⟩
  have hN0 : 0 < N := by omega
  have hN8 : N ≤ 8 := by omega
  repeat(first|(with_reducible first|refine awp_seq ?_|refine awp_block ?_|refine awp_skip ?_|refine awp_exit ?_|refine awp_ret ?_|refine q_then ?_|refine q_block ?_|refine q_then_exit ?_|refine q_then_ret ?_|refine q_block_exit ?_|refine q_block_ret ?_|refine q_loop_exit ?_|refine q_loop_ret ?_)|((with_reducible refine q_block_other ?_ ?_);exact rfl)|((with_reducible refine reg ?_ ?_);exact rfl)|((with_reducible refine st_end ?_ ?_);first|exact .inl rfl|exact .inr rfl)|(with_reducible apply st_build0)|((with_reducible apply st_ev);exact rfl;(first|exact True.intro|((repeat' apply And.intro)<;>first|exact True.intro|with_reducible rfl|(simp only[Fits];omega)|omega|assumption|decide|(simp;done)|exact rfl)))|((with_reducible apply st_evg);exact rfl;exact rfl;(first|exact rfl|assumption);exact rfl;(first|exact True.intro|((repeat' apply And.intro)<;>first|exact True.intro|with_reducible rfl|(simp only[Fits];omega)|omega|assumption|decide|(simp;done)|exact rfl)))|((with_reducible apply st_skip);exact rfl;exact rfl;(first|exact rfl|assumption))|((with_reducible apply st_app0);exact rfl;exact rfl;exact rfl;omega)|((with_reducible apply st_skipu);exact rfl;exact rfl)|((with_reducible apply st_pickt);exact rfl;assumption;exact rfl)|((with_reducible apply st_pickf);exact rfl;assumption;exact rfl)|((with_reducible apply st_pickgt);exact rfl;exact rfl;(first|exact rfl|assumption);exact rfl;(first|exact rfl|assumption);exact rfl)|((with_reducible apply st_pickgf);exact rfl;exact rfl;(first|exact rfl|assumption);exact rfl;(first|exact rfl|assumption);exact rfl)|((with_reducible apply st_build);exact rfl;first|exact rfl|(first|exact True.intro|((repeat' apply And.intro)<;>first|exact True.intro|with_reducible rfl|(simp only[Fits];omega)|omega|assumption|decide|(simp;done)|exact rfl)))|((with_reducible apply st_call);exact rfl;exact rfl;exact rfl;first|(exact k_known))|((with_reducible apply st_callg);exact rfl;exact rfl;(first|exact rfl|assumption);exact rfl;exact rfl;exact rfl;first|(exact k_known)))
  refine awp_no rfl rfl ?_
  repeat(first|(with_reducible first|refine awp_seq ?_|refine awp_block ?_|refine awp_skip ?_|refine awp_exit ?_|refine awp_ret ?_|refine q_then ?_|refine q_block ?_|refine q_then_exit ?_|refine q_then_ret ?_|refine q_block_exit ?_|refine q_block_ret ?_|refine q_loop_exit ?_|refine q_loop_ret ?_)|((with_reducible refine q_block_other ?_ ?_);exact rfl)|((with_reducible refine reg ?_ ?_);exact rfl)|((with_reducible refine st_end ?_ ?_);first|exact .inl rfl|exact .inr rfl)|(with_reducible apply st_build0)|((with_reducible apply st_ev);exact rfl;(first|exact True.intro|((repeat' apply And.intro)<;>first|exact True.intro|with_reducible rfl|(simp only[Fits];omega)|omega|assumption|decide|(simp;done)|exact rfl)))|((with_reducible apply st_evg);exact rfl;exact rfl;(first|exact rfl|assumption);exact rfl;(first|exact True.intro|((repeat' apply And.intro)<;>first|exact True.intro|with_reducible rfl|(simp only[Fits];omega)|omega|assumption|decide|(simp;done)|exact rfl)))|((with_reducible apply st_skip);exact rfl;exact rfl;(first|exact rfl|assumption))|((with_reducible apply st_app0);exact rfl;exact rfl;exact rfl;omega)|((with_reducible apply st_skipu);exact rfl;exact rfl)|((with_reducible apply st_pickt);exact rfl;assumption;exact rfl)|((with_reducible apply st_pickf);exact rfl;assumption;exact rfl)|((with_reducible apply st_pickgt);exact rfl;exact rfl;(first|exact rfl|assumption);exact rfl;(first|exact rfl|assumption);exact rfl)|((with_reducible apply st_pickgf);exact rfl;exact rfl;(first|exact rfl|assumption);exact rfl;(first|exact rfl|assumption);exact rfl)|((with_reducible apply st_build);exact rfl;first|exact rfl|(first|exact True.intro|((repeat' apply And.intro)<;>first|exact True.intro|with_reducible rfl|(simp only[Fits];omega)|omega|assumption|decide|(simp;done)|exact rfl)))|((with_reducible apply st_call);exact rfl;exact rfl;exact rfl;first|(exact k_within7 (by decide) (by decide)))|((with_reducible apply st_callg);exact rfl;exact rfl;(first|exact rfl|assumption);exact rfl;exact rfl;exact rfl;first|(exact k_within7 (by decide) (by decide))))
  rw [hN]
  have wA : ∀ i j, Wt (mkm N ns i j) 3 := fun i j => mkm_wt _ _ _ _
  have wB : ∀ i j, Wt (mkm N ms i j) 3 := fun i j => mkm_wt _ _ _ _
  have wv : ∀ i, Wt (rowq vs i) 1 := fun i => rowq_wt _ _
  have hT : ∀ k, 0 < k → k ≤ N → TB k k 2400 (mkm N ns) := fun k h0 hk => mkm_TB h0 (by omega)
  have m1 := k_make hN0 hN8 h1
  have m2 := k_make hN0 hN8 h2
  have m3 := k_row (zs := vs) (n := N) (by omega) h3
  generalize mkm N ns = A at *
  generalize mkm N ms = B at *
  generalize rowq vs = v at *
  have wAv : ∀ i, Wt (S N fun j => A i j * v j) 57 := fun i => (Wt.sum hN8 fun k _ => (inferInstance : Wt (A i k * v k) (3 + 1))).mono (by decide)
  have wAB : ∀ i j, Wt (S N fun k => A i k * B k j) 57 := fun i j => Wt.sum hN8 fun k _ => (inferInstance : Wt (A i k * B k j) (3 + 3))
  have wAt : ∀ i j, Wt (A j i) 3 := fun i j => wA j i
  have wd := gdet_wt (hT N hN0 (Nat.le_refl N))
  have wm : ∀ i, i < N → Wt (gdet (i + 1) A) 2401 := fun i hi => gdet_wt (hT (i + 1) (by omega) (by omega))
  have c1 := d_apply (hf := wA) (hv := wv) (by decide) (by decide) hN0 hN8
  have c2 := r7_apply (K := 3) (hf := wA) (hv := fun i => (wv i).mono (by decide)) (by decide) hN8 hN8
  have c3 := k_rows (hf := wAv) (by decide) (show N ≤ 1000 by omega) (fun i _ => rfl : ∀ i, i < N → (S N fun j => A i j * v j) = S N fun j => A i j * v j)
  have c4 := d_mul (hf := wA) (hg := wB) (by decide) (by decide) hN0 hN8
  have c5 := r7_mul (hf := wA) (hg := wB) (by decide) hN8
  have c6 := k_all (hf := wAB) (G := fun i j => S N fun l => B l j * A i l) (by decide) (show N ≤ 1000 by omega) (show N ≤ 1000 by omega) (fun i _ j _ => S_congr fun k _ => Rat.mul_comm _ _)
  have c7 := d_turn (hf := wA) (by decide) hN0 hN8
  have c8 := r7_turn (hf := wA) (by decide) hN8
  have c9 := k_all (hf := wAt) (by decide) (show N ≤ 1000 by omega) (show N ≤ 1000 by omega) (fun i _ j _ => rfl : ∀ i, i < N → ∀ j, j < N → A j i = A j i)
  have c10 := d_Det (hf := wA) (by decide) hN0 hN8
  have c11 := r7_det (hT N hN0 (Nat.le_refl N)) (by decide) hN0 hN8
  have c12 := cs_same (p := gdet N A) (q := gdet N A) ⟨by decide, by decide⟩
  rw [decide_eq_true (rfl : gdet N A = gdet N A)] at c12
  have c13 := d_Rank (hf := wA) (by decide) hN0 hN8
  have c14 := r7_rank (hT N hN0 (Nat.le_refl N)) (by decide) hN0 hN8
  have c15 := d_minors (hf := wA) (by decide) hN0 hN8
  have c16 := r7_minors hT (by decide) hN8
  have c17 := k_rowsb (f := fun i => gdet (i + 1) A) (g := fun i => gdet (i + 1) A) wm (by decide) (by decide) (show N ≤ 1000 by omega) (fun _ _ => rfl)
  have gR : decide (((gs N A).at' : Int) = ((gs N A).at' : Int)) = true := decide_eq_true rfl
  have gR2 : (decide (((gs N A).at' : Int) = ((gs N A).at' : Int)) == true) = true := by rw [gR]; rfl
  generalize gdet N A = dA at *
  generalize (gs N A).at' = rA at *
  repeat(first|(with_reducible first|refine awp_seq ?_|refine awp_block ?_|refine awp_skip ?_|refine awp_exit ?_|refine awp_ret ?_|refine q_then ?_|refine q_block ?_|refine q_then_exit ?_|refine q_then_ret ?_|refine q_block_exit ?_|refine q_block_ret ?_|refine q_loop_exit ?_|refine q_loop_ret ?_)|((with_reducible refine q_block_other ?_ ?_);exact rfl)|((with_reducible refine reg ?_ ?_);exact rfl)|((with_reducible refine st_end ?_ ?_);first|exact .inl rfl|exact .inr rfl)|(with_reducible apply st_build0)|((with_reducible apply st_ev);exact rfl;(first|exact True.intro|((repeat' apply And.intro)<;>first|exact True.intro|with_reducible rfl|(simp only[Fits];omega)|omega|assumption|decide|(simp;done)|exact rfl)))|((with_reducible apply st_evg);exact rfl;exact rfl;(first|exact rfl|assumption);exact rfl;(first|exact True.intro|((repeat' apply And.intro)<;>first|exact True.intro|with_reducible rfl|(simp only[Fits];omega)|omega|assumption|decide|(simp;done)|exact rfl)))|((with_reducible apply st_skip);exact rfl;exact rfl;(first|exact rfl|assumption))|((with_reducible apply st_app0);exact rfl;exact rfl;exact rfl;omega)|((with_reducible apply st_skipu);exact rfl;exact rfl)|((with_reducible apply st_pickt);exact rfl;assumption;exact rfl)|((with_reducible apply st_pickf);exact rfl;assumption;exact rfl)|((with_reducible apply st_pickgt);exact rfl;exact rfl;(first|exact rfl|assumption);exact rfl;(first|exact rfl|assumption);exact rfl)|((with_reducible apply st_pickgf);exact rfl;exact rfl;(first|exact rfl|assumption);exact rfl;(first|exact rfl|assumption);exact rfl)|((with_reducible apply st_build);exact rfl;first|exact rfl|(first|exact True.intro|((repeat' apply And.intro)<;>first|exact True.intro|with_reducible rfl|(simp only[Fits];omega)|omega|assumption|decide|(simp;done)|exact rfl)))|((with_reducible apply st_call);exact rfl;exact rfl;exact rfl;first|(exact m1)|(exact m2)|(exact m3)|(exact c1)|(exact c2)|(exact c3)|(exact c4)|(exact c5)|(exact c6)|(exact c7)|(exact c8)|(exact c9)|(exact c10)|(exact c11)|(exact c12)|(exact c13)|(exact c14)|(exact c15)|(exact c16)|(exact c17))|((with_reducible apply st_callg);exact rfl;exact rfl;(first|exact rfl|assumption);exact rfl;exact rfl;exact rfl;first|(exact m1)|(exact m2)|(exact m3)|(exact c1)|(exact c2)|(exact c3)|(exact c4)|(exact c5)|(exact c6)|(exact c7)|(exact c8)|(exact c9)|(exact c10)|(exact c11)|(exact c12)|(exact c13)|(exact c14)|(exact c15)|(exact c16)|(exact c17)))
  refine ⟨.inr rfl, _, Imp.refl _, ?_⟩
  exact .one (.tmp rfl)
end Go.Proofs.Ytjmpanhacfjcaaa.AM

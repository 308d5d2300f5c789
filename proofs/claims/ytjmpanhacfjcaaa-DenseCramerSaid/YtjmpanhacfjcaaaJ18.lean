/- Joined texts, 18: LawQ. -/
import Derived.Test.YtjmpanhacfjcaaaJ17
set_option linter.unusedVariables false
set_option linter.unusedSimpArgs false
/- Laws of dense matrices: DenseCramer, walked. -/
namespace Go.Proofs.Ytjmpanhacfjcaaa.AM
open Go Go.RowKit Go.Proofs.Ytjmpanhacfjcaaa.PN Go.Proofs.Ytjmpanhacfjcaaa.V
open Go.Proofs.Ytjmpanhacfjcaaa.LA (S S_succ S_zero S_congr app det_congr cramer)
set_option linter.unusedVariables false
set_option linter.unusedSimpArgs false
set_option maxRecDepth 8000
set_option maxHeartbeats 8000000
/-- A column in another one's place. -/
def colx (c : Nat) (b : Nat → Rat) (A : Nat → Nat → Rat) (i j : Nat) : Rat := if j = c then b i else A i j
theorem gdet_colx {n c : Nat} {A : Nat → Nat → Rat} {b x : Nat → Rat} (hc : c < n) (h : ∀ i, i < n → app n A x i = b i) : gdet n (colx c b A) = x c * gdet n A := by
  rw [gdet_det, gdet_det, Rat.mul_comm, ← cramer n A x hc]
  refine det_congr fun i j hi _ => ?_
  unfold colx LA.cupd
  by_cases e : j = c
  · rw [if_pos e, if_pos e]; exact (h i hi).symm
  · rw [if_neg e, if_neg e]
theorem colx_wt {c K : Nat} {A : Nat → Nat → Rat} {b : Nat → Rat} [hA : ∀ i j, Wt (A i j) K] [hb : ∀ i, Wt (b i) K] (i j : Nat) : Wt (colx c b A i j) K := by
  unfold colx; split
  · exact hb i
  · exact hA i j
theorem k_cramer {n k : Int} {ns bs : List Int} (_ : Fits .i64 n) (h1 : AllFit ns) (h2 : AllFit bs) (_ : Fits .i64 k) : Has Try.prog 5 [.i n, .seq .i64 ns, .seq .i64 bs, .i k] (.b true) := by
  refine has_of Try.func5 (by kernel_rfl) rfl Try.ntmps5 Try.results5 rfl rfl rfl ?_
  obtain ⟨q1, q2⟩ := wthn_lt (a := n) (n := 4) (by decide)
  obtain ⟨N, hN⟩ : ∃ N : Nat, 1 + wthn n 4 = (N : Int) := ⟨(1 + wthn n 4).toNat, by omega⟩
  have hN0 : 0 < N := by omega
  have hN8 : N ≤ 8 := by omega
  repeat(first|refine run1 ?_|((with_reducible apply st_call);exact rfl;exact rfl;exact rfl;first|(exact k_known))|((with_reducible apply st_callg);exact rfl;exact rfl;(first|exact rfl|assumption);exact rfl;exact rfl;exact rfl;first|(exact k_known)))
  refine awp_no rfl rfl ?_
  repeat(first|refine run1 ?_|((with_reducible apply st_call);exact rfl;exact rfl;exact rfl;first|(exact k_within7 (by decide) (by decide)))|((with_reducible apply st_callg);exact rfl;exact rfl;(first|exact rfl|assumption);exact rfl;exact rfl;exact rfl;first|(exact k_within7 (by decide) (by decide))))
  rw [hN]
  have wA : ∀ i j, Wt (mkm N ns i j) 3 := fun i j => mkm_wt _ _ _ _
  have wb : ∀ i, Wt (rowq bs i) 3 := fun i => (rowq_wt _ _).mono (by decide)
  have hT : TB N N 2400 (mkm N ns) := mkm_TB hN0 (by omega)
  have m1 := k_make hN0 hN8 h1
  have m2 := k_row (zs := bs) (n := N) (by omega) h2
  obtain ⟨y1, y2⟩ := yb11 ⟨N, by omega⟩
  have hB : BB N (mkm N ns) (rowq bs) (xbd 11) := by
    refine BB.of hN0 (by decide) ?_ (hf := fun i j => mkm_bt N ns i j) (hb := fun i => (rowq_bt bs i).mono (by decide)) y1
    have : 4 ^ (N - 1) ≤ 4 ^ 4 := Nat.pow_le_pow_right (by decide) (by omega)
    have e : 4 ^ 4 = 256 := rfl
    omega
  generalize mkm N ns = A at *
  generalize rowq bs = b at *
  have wy : ∀ i, i < N → Wt (bsx N (PR (gt N A b)) N i) 2500 := fun i hi => (ybd_wt (X := xbd 11) hB.P N (Nat.le_refl N) i (by omega) hi).mono (y2 ⟨i, by omega⟩)
  have wd := gdet_wt hT
  obtain ⟨i1, i2⟩ := wthn_lt (a := k) (n := (N : Int)) (by omega)
  have b1 := k_within7 (a := k) (n := (N : Int)) (by omega) (by omega)
  obtain ⟨C, hC⟩ : ∃ C : Nat, wthn k N = (C : Int) := ⟨(wthn k N).toNat, by omega⟩
  rw [hC] at b1 i1 i2
  have hCN : C < N := by omega
  have c1 := d_solve (hf := wA) (hb := wb) (by decide) hN0 hN8
  have c2 := d_Det (hf := wA) (by decide) hN0 hN8
  have c3 := hs_nought (p := gdet N A)
  by_cases hd : gdet N A = 0
  · rw [if_pos hd] at c1
    rw [decide_eq_true hd] at c3
    repeat(first|refine run1 ?_|((with_reducible apply st_call);exact rfl;exact rfl;exact rfl;first|(exact m1)|(exact m2)|(exact c1)|(exact c2))|((with_reducible apply st_callg);exact rfl;exact rfl;(first|exact rfl|assumption);exact rfl;exact rfl;exact rfl;first|(exact m1)|(exact m2)|(exact c1)|(exact c2)))
    refine awp_yes rfl rfl ?_
    repeat(first|refine run1 ?_|((with_reducible apply st_call);exact rfl;exact rfl;exact rfl;first|(exact c3))|((with_reducible apply st_callg);exact rfl;exact rfl;(first|exact rfl|assumption);exact rfl;exact rfl;exact rfl;first|(exact c3)))
    refine ⟨.inr rfl, _, Imp.refl _, ?_⟩
    exact .one (.tmp rfl)
  · rw [if_neg hd] at c1
    have hs := (gj_nz (b := b) hd).2.2
    have wx : Wt (gjx N A b C) 2500 := by rw [solve_same hd hCN]; exact wy C hCN
    have wF : ∀ i j, Wt (colx C b A i j) 3 := fun i j => colx_wt (hA := wA) (hb := wb) i j
    have c4 := d_Det (hf := wF) (by decide) hN0 hN8
    rw [gdet_colx hCN hs] at c4
    have c5 := cs_mul (p := gjx N A b C) (q := gdet N A) ⟨by decide, by decide⟩
    have c6 := cs_same (p := gjx N A b C * gdet N A) (q := gjx N A b C * gdet N A) ⟨by decide, by decide⟩
    rw [decide_eq_true (rfl : gjx N A b C * gdet N A = gjx N A b C * gdet N A)] at c6
    generalize gjx N A b = x at *
    generalize gdet N A = dA at *
    repeat(first|refine run1 ?_|((with_reducible apply st_call);exact rfl;exact rfl;exact rfl;first|(exact m1)|(exact m2)|(exact c1)|(exact c2))|((with_reducible apply st_callg);exact rfl;exact rfl;(first|exact rfl|assumption);exact rfl;exact rfl;exact rfl;first|(exact m1)|(exact m2)|(exact c1)|(exact c2)))
    refine awp_no rfl rfl ?_
    repeat(first|refine run1 ?_|((with_reducible apply st_call);exact rfl;exact rfl;exact rfl;first|(exact b1))|((with_reducible apply st_callg);exact rfl;exact rfl;(first|exact rfl|assumption);exact rfl;exact rfl;exact rfl;first|(exact b1)))
    refine awp_loop (fun m' s => ∃ r, r ≤ N ∧ m' = N - r ∧ s = accS 15 (.ones WT r fun i => .row true N fun j => .q (colx C b A i j)) [(0, .i N), (9, .mat true N (fun _ => N) (fun i j => .q (A i j))), (10, .row true N fun i => .q (b i)), (11, .row true N fun i => .q (x i)), (13, .rptr 13 0 0), (14, .i C), (16, .i (r : Int))] [(13, (1, fun _ => .rats 1 fun _ => .q dA))]) N _ (acc_start rfl rfl (by exact ⟨by decide, rfl⟩) rfl (by decide) ?_ ?_) ⟨0, Nat.zero_le _, rfl, rfl⟩ ?_
    · exact eA
    · exact hA
    · rintro m' s ⟨r, hr, rfl, rfl⟩
      refine run0 ?_
      refine awp_if rfl (fun h => ?_) (fun h => ?_)
      · have h : r < N := by omega
        have h0N : (C : Int) < ((0 + N : Nat) : Int) := by omega
        refine run0 ?_
        refine q_loop (m' := N - (r + 1)) (by omega) (acc_pub (a := 69) (c := 58) rfl rfl rfl (fun i hi => if_pos hi) (by show (if _ then _ else _) = _; rw [if_neg (Nat.lt_irrefl _), Nat.sub_self]; rfl) rfl rfl ?_ rfl (Nat.zero_add N) (fun _ => by exact True.intro) (by decide) rfl rfl ?_ ?_) ⟨r + 1, by omega, rfl, rfl⟩
        · intro j hj
          show updN (glue _ _ _) C _ j = _
          unfold updN glue colx
          by_cases e : j = C
          · rw [if_pos e, if_pos e]; rfl
          · rw [if_neg e, if_neg e, if_neg (Nat.not_lt_zero _), Nat.sub_zero]; rfl
        · refine alle rfl (Le.eq rfl rfl) True.intro (alle rfl (Le.eq rfl rfl) True.intro (alle rfl (Le.eq rfl rfl) True.intro (alle rfl (Le.eq rfl rfl) True.intro (alle rfl (Le.rptr (s1_ne (by decide))) rfl (alle rfl (Le.eq rfl rfl) True.intro (alle rfl (Le.eq rfl rfl) True.intro True.intro))))))
        · exact allh rfl Nat.zero_lt_one (ble1 rfl) True.intro True.intro
      · obtain rfl : r = N := by omega
        refine awp_imp (imp_matn 15 (fun _ => r) (fun i j => .q (colx C b A i j)) rfl rfl rfl (fun _ _ => rfl) rfl) ?_
        have g1 : decide ((r : Int) = r) = true := decide_eq_true rfl
        have g2 : (decide ((r : Int) = r) == true) = true := by rw [g1]; rfl
        repeat(first|refine run1 ?_|((with_reducible apply st_call);exact rfl;exact rfl;exact rfl;first|(exact c4)|(exact c5)|(exact c6))|((with_reducible apply st_callg);exact rfl;exact rfl;(first|exact rfl|assumption);exact rfl;exact rfl;exact rfl;first|(exact c4)|(exact c5)|(exact c6)))
        refine ⟨.inr rfl, _, Imp.refl _, ?_⟩
        exact .one (.tmp rfl)
end Go.Proofs.Ytjmpanhacfjcaaa.AM

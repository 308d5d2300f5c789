/- Joined texts, 16: AmZb LawM. -/
import Derived.Test.YtjmpanhacfjcaaaJ14
import Derived.Test.YtjmpanhacfjcaaaJ15
/- Two slices that are gathered at a time. -/
namespace Go.Proofs.Ytjmpanhacfjcaaa.AM
open Go Go.RowKit Go.Proofs.Ytjmpanhacfjcaaa.PN Go.Proofs.Ytjmpanhacfjcaaa.V
set_option linter.unusedVariables false
set_option linter.unusedSimpArgs false
abbrev acc2S (t1 t2 : Nat) (b1 b2 : Blk) (e : List (Nat × AV)) (l : List (Nat × Fam)) : St := stl ((t1, .own t1 0) :: (t2, .own t2 0) :: e) ((t1, (1, fun _ => b1)) :: (t2, (1, fun _ => b2)) :: l)
def s2 (t1 a1 t2 a2 : Nat) : Ren := fun g r => if g = t1 then (a1, r) else if g = t2 then (a2, r) else (g, r)
theorem s2_1 {t1 a1 t2 a2 r : Nat} : s2 t1 a1 t2 a2 t1 r = (a1, r) := by unfold s2; rw [if_pos rfl]
theorem s2_2 {t1 a1 t2 a2 r : Nat} (h : t2 ≠ t1) : s2 t1 a1 t2 a2 t2 r = (a2, r) := by unfold s2; rw [if_neg h, if_pos rfl]
theorem s2_ne {t1 a1 t2 a2 g r : Nat} (h : g ≠ t1) (h' : g ≠ t2) : s2 t1 a1 t2 a2 g r = (g, r) := by unfold s2; rw [if_neg h, if_neg h']
theorem s2_inj {t1 a1 t2 a2 : Nat} {l : List Nat} (ht : t2 ≠ t1) (ha : a1 ≠ a2) (h1 : notIn t1 a1 l = true) (h2 : notIn t2 a2 l = true) (g1 r1 g2 r2 : Nat) (k1 : memN g1 (t1 :: t2 :: l) = true) (k2 : memN g2 (t1 :: t2 :: l) = true) (e : s2 t1 a1 t2 a2 g1 r1 = s2 t1 a1 t2 a2 g2 r2) : g1 = g2 ∧ r1 = r2 := by
  have key : ∀ g, memN g (t1 :: t2 :: l) = true → g = t1 ∨ g = t2 ∨ (memN g l = true ∧ (g ≠ t1 ∧ g ≠ a1) ∧ g ≠ t2 ∧ g ≠ a2) := fun g h => by
    rcases memN_uncons h with h | h
    · exact .inl h
    · rcases memN_uncons h with h | h
      · exact .inr (.inl h)
      · exact .inr (.inr ⟨h, notIn_ne h1 _ h, notIn_ne h2 _ h⟩)
  rcases key g1 k1 with rfl | rfl | ⟨_, m1, m2⟩ <;> rcases key g2 k2 with rfl | rfl | ⟨_, n1, n2⟩
  · rw [s2_1, s2_1] at e; cases e; exact ⟨rfl, rfl⟩
  · rw [s2_1, s2_2 ht] at e; cases e; exact absurd rfl ha
  · rw [s2_1, s2_ne n1.1 n2.1] at e; cases e; exact absurd rfl n1.2
  · rw [s2_1, s2_2 ht] at e; cases e; exact absurd rfl ha
  · rw [s2_2 ht, s2_2 ht] at e; cases e; exact ⟨rfl, rfl⟩
  · rw [s2_2 ht, s2_ne n1.1 n2.1] at e; cases e; exact absurd rfl n2.2
  · rw [s2_1, s2_ne m1.1 m2.1] at e; cases e; exact absurd rfl m1.2
  · rw [s2_2 ht, s2_ne m1.1 m2.1] at e; cases e; exact absurd rfl m2.2
  · rw [s2_ne n1.1 n2.1, s2_ne m1.1 m2.1] at e; cases e; exact ⟨rfl, rfl⟩
theorem blk_id (b : Blk) : BLe idR b b := by
  cases b with
  | rats n f => exact blen rfl fun _ _ => rfl
  | ones T n f => exact bleo rfl fun _ _ => Le.id rfl
theorem nilB_ok {b : Blk} (h : nilB b) (U : Nat → Bool) : b.ok U := by
  cases b with
  | rats n f => exact True.intro
  | ones T n f => exact fun i hi => by have := h.2; omega
/-- The state with two slices of nothing. -/
abbrev two0 (s : St) (t1 t2 : Nat) (b1 b2 : Blk) : St := ⟨put (put s.env t1 (some (.own t1 0))) t2 (some (.own t2 0)), put (put s.heap t1 (some (1, fun _ => b1))) t2 (some (1, fun _ => b2)), mark (mark s.used t1) t2⟩
theorem acc2_start {s : St} {t1 t2 : Nat} {b1 b2 : Blk} {e : List (Nat × AV)} {l : List (Nat × Fam)} (h1 : s.env t1 = some (.v (.slice none 0 0))) (h2 : s.env t2 = some (.v (.slice none 0 0))) (g1 : s.used t1 = false) (g2 : s.used t2 = false) (n1 : nilB b1) (n2 : nilB b2) (h60 : s.used 60 = false) (hne : t2 ≠ t1 ∧ t1 ≠ 60 ∧ t2 ≠ 60)
    (he : AllE (two0 s t1 t2 b1 b2) idR (fun g => memN g (t1 :: t2 :: keys l)) e) (hl : AllH (two0 s t1 t2 b1 b2) idR (fun g => memN g (t1 :: t2 :: keys l)) l) : Imp s (acc2S t1 t2 b1 b2 e l) := by
  obtain ⟨h21, h1n, h2n⟩ := hne
  refine (imp_nil t1 t1 b1 h1 g1 n1).trans ((imp_nil t2 t2 b2 ((put_ne _ _ h21).trans h2) ((mark_ne _ h21).trans g2) n2).trans (imp_id (h := (t1, (1, fun _ => b1)) :: (t2, (1, fun _ => b2)) :: l) ⟨⟨_, (put_ne _ _ (Ne.symm h21)).trans (put_same _ _ _), Le.id rfl, memN_head _ _⟩, ⟨_, put_same _ _ _, Le.id rfl, memN_tail (memN_head _ _)⟩, he⟩ ⟨fun r hr => ?_, fun r hr => ?_, hl⟩ ?_))
  · obtain rfl : r = 0 := by omega
    exact ⟨1, _, (put_ne _ _ (Ne.symm h21)).trans (put_same _ _ _), Nat.zero_lt_one, blk_id b1, nilB_ok n1 _⟩
  · obtain rfl : r = 0 := by omega
    exact ⟨1, _, put_same _ _ _, Nat.zero_lt_one, blk_id b2, nilB_ok n2 _⟩
  · show (!(mark (mark s.used t1) t2 60) || _) = true
    rw [mark_ne _ (Ne.symm h2n), mark_ne _ (Ne.symm h1n), h60]; rfl
theorem acc2_next {s : St} {t1 a1 t2 a2 : Nat} {b1 b1' b2 b2' : Blk} {F1 F2 : Nat → Blk} {e : List (Nat × AV)} {l : List (Nat × Fam)} (h1 : s.env t1 = some (.own a1 0)) (h2 : s.env t2 = some (.own a2 0)) (k1 : s.heap a1 = some (1, F1)) (k2 : s.heap a2 = some (1, F2)) (e1 : F1 0 = b1') (e2 : F2 0 = b2') (hb1 : BLe (s2 t1 a1 t2 a2) b1' b1) (hb2 : BLe (s2 t1 a1 t2 a2) b2' b2)
    (o1 : b1.ok (fun _ => false)) (o2 : b2.ok (fun _ => false)) (h60 : s.used 60 = false) (hne : t2 ≠ t1 ∧ a1 ≠ a2) (n1 : notIn t1 a1 (keys l) = true) (n2 : notIn t2 a2 (keys l) = true)
    (he : AllE s (s2 t1 a1 t2 a2) (fun g => memN g (t1 :: t2 :: keys l)) e) (hl : AllH s (s2 t1 a1 t2 a2) (fun g => memN g (t1 :: t2 :: keys l)) l) : Imp s (acc2S t1 t2 b1 b2 e l) := by
  refine imp_stl (h := (t1, (1, fun _ => b1)) :: (t2, (1, fun _ => b2)) :: l) (s2 t1 a1 t2 a2) (fun h => by rw [h60] at h; cases h) (s2_inj hne.1 hne.2 n1 n2) ⟨⟨_, h1, Le.own s2_1, memN_head _ _⟩, ⟨_, h2, Le.own (s2_2 hne.1), memN_tail (memN_head _ _)⟩, he⟩ ⟨fun r hr => ?_, fun r hr => ?_, hl⟩ (by rw [h60]; rfl)
  · obtain rfl : r = 0 := by omega
    rw [s2_1]
    exact ⟨1, F1, k1, Nat.zero_lt_one, by rw [e1]; exact hb1, Blk.ok_mono (fun g h => by cases h) o1⟩
  · obtain rfl : r = 0 := by omega
    rw [s2_2 hne.1]
    exact ⟨1, F2, k2, Nat.zero_lt_one, by rw [e2]; exact hb2, Blk.ok_mono (fun g h => by cases h) o2⟩
/-- The block behind a row that is laid into it. -/
theorem pub_blk {σ : Ren} {k m m' : Nat} {f v : Nat → AV} {q w : Nat → RA} (hf : ∀ i, i < k → f i = v i) (hq : ∀ j, j < m → q j = w j) (hv : v k = .row true m' w) (hm : m = m') (hok : ∀ i, (v i).ok (fun _ => false)) : BLe σ (.ones WT (k + 1) (updN f k (.row true m q))) (.ones WT (k + 1) v) := by
  refine bleo rfl fun i hi => ?_
  by_cases c : i = k
  · subst c
    rw [updN_same, hv]
    exact Le.row hm hq fun h => h
  · rw [updN_ne _ _ c, hf i (by omega)]
    exact Le.same (hok i)
end Go.Proofs.Ytjmpanhacfjcaaa.AM
/- Laws of dense matrices: DenseRows, walked. -/
namespace Go.Proofs.Ytjmpanhacfjcaaa.AM
open Go Go.RowKit Go.Proofs.Ytjmpanhacfjcaaa.PN Go.Proofs.Ytjmpanhacfjcaaa.V
open Go.Proofs.Ytjmpanhacfjcaaa.LA (S S_succ S_zero S_congr HasRank det_congr det_addr det_scl rank_addr rank_congr)
set_option linter.unusedVariables false
set_option linter.unusedSimpArgs false
set_option maxRecDepth 8000
set_option maxHeartbeats 8000000
/-- A row's multiple added to another one; a row a multiple. -/
def radd (a b : Nat) (f : Rat) (A : Nat → Nat → Rat) (r c : Nat) : Rat := if r = a then A r c + f * A b c else A r c
def rscl (a : Nat) (f : Rat) (A : Nat → Nat → Rat) (r c : Nat) : Rat := if r = a then f * A r c else A r c
theorem radd_eq (a b : Nat) (f : Rat) (A : Nat → Nat → Rat) (r c : Nat) : radd a b f A r c = LA.addr A a b f r c := by
  unfold radd LA.addr LA.upd
  by_cases e : r = a
  · subst e; simp only [if_pos]
  · rw [if_neg e, if_neg e]
theorem rscl_eq (a : Nat) (f : Rat) (A : Nat → Nat → Rat) (r c : Nat) : rscl a f A r c = LA.scl A a f r c := by
  unfold rscl LA.scl LA.upd
  by_cases e : r = a
  · subst e; simp only [if_pos]
  · rw [if_neg e, if_neg e]
theorem gdet_radd {n a b : Nat} (ha : a < n) (hb : b < n) (hab : a ≠ b) (f : Rat) (A : Nat → Nat → Rat) : gdet n (radd a b f A) = gdet n A := by
  rw [gdet_det, gdet_det, det_congr (B := LA.addr A a b f) fun i j _ _ => radd_eq a b f A i j, det_addr A ha hb hab]
theorem gdet_rscl {n a : Nat} (ha : a < n) (f : Rat) (A : Nat → Nat → Rat) : gdet n (rscl a f A) = f * gdet n A := by
  rw [gdet_det, gdet_det, det_congr (B := LA.scl A a f) fun i j _ _ => rscl_eq a f A i j, det_scl A ha]
theorem rank_radd {n a b : Nat} (ha : a < n) (hb : b < n) (hab : a ≠ b) (f : Rat) (A : Nat → Nat → Rat) : (gs n (radd a b f A)).at' = (gs n A).at' :=
  gs_of (rank_congr (fun i j _ _ => (radd_eq a b f A i j).symm) (rank_addr ha hb hab f (gs_rank n A)))
theorem radd_wt {a b K : Nat} {f : Rat} {A : Nat → Nat → Rat} [hA : ∀ i j, Wt (A i j) K] [hf : Wt f K] (i j : Nat) : Wt (radd a b f A i j) (4 * K + 1) := by
  unfold radd; split
  · exact (inferInstance : Wt (A i j + f * A b j) (K + (K + K) + 1)).mono (by omega)
  · exact (hA i j).mono (by omega)
theorem rscl_wt {a K : Nat} {f : Rat} {A : Nat → Nat → Rat} [hA : ∀ i j, Wt (A i j) K] [hf : Wt f K] (i j : Nat) : Wt (rscl a f A i j) (4 * K + 1) := by
  unfold rscl; split
  · exact (inferInstance : Wt (f * A i j) (K + K)).mono (by omega)
  · exact (hA i j).mono (by omega)
theorem k_drows {n i j k : Int} {ns : List Int} (_ : Fits .i64 n) (h1 : AllFit ns) (_ : Fits .i64 i) (_ : Fits .i64 j) (h3 : Fits .i64 k) : Has Try.prog 3 [.i n, .seq .i64 ns, .i i, .i j, .i k] (.b true) := by
  refine has_of Try.func3 (by kernel_rfl) rfl Try.ntmps3 Try.results3 rfl rfl rfl ?_
  obtain ⟨q1, q2⟩ := wthn_lt (a := n) (n := 4) (by decide)
  obtain ⟨N, hN⟩ : ∃ N : Nat, 2 + wthn n 4 = (N : Int) := ⟨(2 + wthn n 4).toNat, by omega⟩
  have hN0 : 0 < N := by omega
  have hN8 : N ≤ 8 := by omega
  repeat(first|refine run1 ?_|((with_reducible apply st_call);exact rfl;exact rfl;exact rfl;first|(exact k_known))|((with_reducible apply st_callg);exact rfl;exact rfl;(first|exact rfl|assumption);exact rfl;exact rfl;exact rfl;first|(exact k_known)))
  refine awp_no rfl rfl ?_
  repeat(first|refine run1 ?_|((with_reducible apply st_call);exact rfl;exact rfl;exact rfl;first|(exact k_within7 (by decide) (by decide)))|((with_reducible apply st_callg);exact rfl;exact rfl;(first|exact rfl|assumption);exact rfl;exact rfl;exact rfl;first|(exact k_within7 (by decide) (by decide))))
  rw [hN]
  have wA : ∀ i j, Wt (mkm N ns i j) 3 := fun i j => mkm_wt _ _ _ _
  have hT : TB N N 2400 (mkm N ns) := mkm_TB hN0 (by omega)
  have m1 := k_make hN0 hN8 h1
  have w1 := gdet_wt (mkm_TB (n := N) (zs := ns) hN0 (by omega))
  have m2 := k_small h3
  have wf : Wt (smal k) 3 := (smal_wt k).mono (by decide)
  generalize mkm N ns = A at *
  generalize smal k = f at *
  obtain ⟨i1, i2⟩ := wthn_lt (a := i) (n := (N : Int)) (by omega)
  obtain ⟨j1, j2⟩ := wthn_lt (a := j) (n := (N : Int)) (by omega)
  have b1 := k_within7 (a := i) (n := (N : Int)) (by omega) (by omega)
  have b2 := k_within7 (a := j) (n := (N : Int)) (by omega) (by omega)
  obtain ⟨I, hI⟩ : ∃ I : Nat, wthn i N = (I : Int) := ⟨(wthn i N).toNat, by omega⟩
  obtain ⟨J0, hJ⟩ : ∃ J : Nat, wthn j N = (J : Int) := ⟨(wthn j N).toNat, by omega⟩
  rw [hI] at b1 i1 i2
  rw [hJ] at b2 j1 j2
  have hIN : I < N := by omega
  have c1 := d_Det (hf := wA) (by decide) hN0 hN8
  repeat(first|refine run1 ?_|((with_reducible apply st_call);exact rfl;exact rfl;exact rfl;first|(exact m1)|(exact m2)|(exact b1)|(exact b2))|((with_reducible apply st_callg);exact rfl;exact rfl;(first|exact rfl|assumption);exact rfl;exact rfl;exact rfl;first|(exact m1)|(exact m2)|(exact b1)|(exact b2)))
  obtain ⟨J, hJN, hIJ, hJe⟩ : ∃ J : Nat, J < N ∧ I ≠ J ∧ J = if I = J0 then (J0 + 1) % N else J0 := by
    refine ⟨if I = J0 then (J0 + 1) % N else J0, ?_, ?_, rfl⟩
    · split
      · exact Nat.mod_lt _ hN0
      · omega
    · split
      · rcases Nat.lt_or_ge (J0 + 1) N with h | h
        · rw [Nat.mod_eq_of_lt h]; omega
        · rw [show J0 + 1 = N by omega, Nat.mod_self]; omega
      · omega
  refine awp_join (stl [(0, .i N), (11, .mat true N (fun _ => N) (fun i j => .q (A i j))), (12, .rptr 12 0 0), (13, .i I), (14, .i J)] [(12, (1, fun _ => .rats 1 fun _ => .q f))]) ?_ ?_
  · refine awp_if rfl (fun h => ?_) (fun h => ?_)
    · have h : I = J0 := by omega
      rw [if_pos h] at hJe
      have e : ((J0 : Int) + 1).tmod (N : Int) = (J : Int) := by
        rw [hJe, Int.tmod_eq_emod_of_nonneg (by omega)]; rfl
      refine run0 ?_
      refine ⟨rfl, imp_id ?_ ?_⟩
      · refine alle rfl (Le.id rfl) True.intro (alle rfl (Le.id rfl) True.intro (alle rfl (Le.id rfl) rfl (alle rfl (Le.id rfl) True.intro (alle rfl (Le.id ?_) True.intro True.intro))))
        exact congrArg AV.i e
      · exact hA
    · have h : I ≠ J0 := by omega
      rw [if_neg h] at hJe
      subst hJe
      refine run0 ?_
      refine ⟨rfl, imp_id ?_ ?_⟩
      · exact eA
      · exact hA
  · have wR : ∀ r c, Wt (radd I J f A r c) 13 := fun r c => radd_wt (hA := wA) (hf := wf) r c
    have wC : ∀ r c, Wt (rscl I f A r c) 13 := fun r c => rscl_wt (hA := wA) (hf := wf) r c
    have c2 := d_Det (hf := wR) (by decide) hN0 hN8
    rw [gdet_radd hIN hJN hIJ] at c2
    have c3 := d_Det (hf := wC) (by decide) hN0 hN8
    rw [gdet_rscl hIN] at c3
    have c4 := d_Rank (hf := wR) (by decide) hN0 hN8
    rw [rank_radd hIN hJN hIJ] at c4
    have c5 := r7_rank hT (by decide) hN0 hN8
    have c6 := cs_same (p := gdet N A) (q := gdet N A) ⟨by decide, by decide⟩
    rw [decide_eq_true (rfl : gdet N A = gdet N A)] at c6
    have c7 := cs_same (p := f * gdet N A) (q := f * gdet N A) ⟨by decide, by decide⟩
    rw [decide_eq_true (rfl : f * gdet N A = f * gdet N A)] at c7
    have c8 := cs_mul (p := f) (q := gdet N A) ⟨by decide, by decide⟩
    generalize gdet N A = dA at *
    generalize (gs N A).at' = rA at *
    repeat(first|refine run1 ?_|((with_reducible apply st_call);exact rfl;exact rfl;exact rfl;first|(exact c1))|((with_reducible apply st_callg);exact rfl;exact rfl;(first|exact rfl|assumption);exact rfl;exact rfl;exact rfl;first|(exact c1)))
    refine awp_loop (fun m' s => ∃ r, r ≤ N ∧ m' = N - r ∧ s = acc2S 16 17 (.ones WT r fun i => .row true N fun j => .q (radd I J f A i j)) (.ones WT r fun i => .row true N fun j => .q (rscl I f A i j)) [(0, .i N), (11, .mat true N (fun _ => N) (fun i j => .q (A i j))), (12, .rptr 12 0 0), (13, .i I), (14, .i J), (15, .rptr 15 0 0), (18, .i (r : Int))] [(12, (1, fun _ => .rats 1 fun _ => .q f)), (15, (1, fun _ => .rats 1 fun _ => .q dA))]) N _ (acc2_start rfl rfl rfl rfl (by exact ⟨by decide, rfl⟩) (by exact ⟨by decide, rfl⟩) rfl (by decide) ?_ ?_) ⟨0, Nat.zero_le _, rfl, rfl⟩ ?_
    · exact eA
    · exact hA
    · rintro m' s ⟨r, hr, rfl, rfl⟩
      refine run0 ?_
      refine awp_if rfl (fun h => ?_) (fun h => ?_)
      · have h : r < N := by omega
        refine run0 ?_
        refine awp_loop (fun m' s => ∃ c, c ≤ N ∧ m' = N - c ∧ s = acc2S 19 20 (.rats c fun j => .q (radd I J f A r j)) (.rats c fun j => .q (rscl I f A r j)) [(0, .i N), (11, .mat true N (fun _ => N) (fun i j => .q (A i j))), (12, .rptr 12 0 0), (13, .i I), (14, .i J), (15, .rptr 15 0 0), (16, .own 16 0), (17, .own 17 0), (18, .i (r : Int)), (21, .i (c : Int))] [(16, (1, fun _ => .ones WT r fun i => .row true N fun j => .q (radd I J f A i j))), (17, (1, fun _ => .ones WT r fun i => .row true N fun j => .q (rscl I f A i j))), (12, (1, fun _ => .rats 1 fun _ => .q f)), (15, (1, fun _ => .rats 1 fun _ => .q dA))]) N _ (acc2_start rfl rfl rfl rfl (by exact rfl) (by exact rfl) rfl (by decide) ?_ ?_) ⟨0, Nat.zero_le _, rfl, rfl⟩ ?_
        · exact eA
        · exact hA
        · rintro m' s ⟨c, hc, rfl, rfl⟩
          refine run0 ?_
          refine awp_if rfl (fun h1 => ?_) (fun h1 => ?_)
          · have h1 : c < N := by omega
            refine run0 ?_
            refine awp_join (stl [(0, .i N), (11, .mat true N (fun _ => N) (fun i j => .q (A i j))), (12, .rptr 12 0 0), (13, .i I), (14, .i J), (15, .rptr 15 0 0), (16, .own 16 0), (17, .own 17 0), (18, .i (r : Int)), (19, .own 19 0), (20, .own 20 0), (21, .i (c : Int)), (22, .rptr 22 0 0), (23, .rptr 23 0 0)] [(19, (1, fun _ => .rats c fun j => .q (radd I J f A r j))), (20, (1, fun _ => .rats c fun j => .q (rscl I f A r j))), (16, (1, fun _ => .ones WT r fun i => .row true N fun j => .q (radd I J f A i j))), (17, (1, fun _ => .ones WT r fun i => .row true N fun j => .q (rscl I f A i j))), (12, (1, fun _ => .rats 1 fun _ => .q f)), (15, (1, fun _ => .rats 1 fun _ => .q dA)), (22, (1, fun _ => .rats 1 fun _ => .q (radd I J f A r c))), (23, (1, fun _ => .rats 1 fun _ => .q (rscl I f A r c)))]) ?_ ?_
            · refine awp_if rfl (fun h2 => ?_) (fun h2 => ?_)
              · have h2 : r = I := by omega
                have e1 : radd I J f A r c = A r c + f * A J c := if_pos h2
                have e2 : rscl I f A r c = f * A r c := if_pos h2
                rw [e1, e2]
                repeat(first|refine run1 ?_|((with_reducible apply st_call);exact rfl;exact rfl;exact rfl;first|(exact cs_mul ⟨by omega, by omega⟩)|(exact cs_add ⟨by omega, by omega⟩))|((with_reducible apply st_callg);exact rfl;exact rfl;(first|exact rfl|assumption);exact rfl;exact rfl;exact rfl;first|(exact cs_mul ⟨by omega, by omega⟩)|(exact cs_add ⟨by omega, by omega⟩)))
                refine ⟨rfl, imp_id ?_ ?_⟩
                · exact eA
                · exact hA
              · have h2 : ¬ r = I := by omega
                have e1 : radd I J f A r c = A r c := if_neg h2
                have e2 : rscl I f A r c = A r c := if_neg h2
                rw [e1, e2]
                refine run0 ?_
                refine ⟨rfl, imp_id ?_ ?_⟩
                · exact eA
                · exact hA
            · refine run0 ?_
              refine q_loop (m' := N - (c + 1)) (by omega) (acc2_next (a1 := 93) (a2 := 97) rfl rfl rfl rfl rfl rfl (glue_one rfl) (glue_one rfl) (by exact True.intro) (by exact True.intro) rfl (by decide) rfl rfl ?_ ?_) ⟨c + 1, by omega, rfl, rfl⟩
              · refine alle rfl (Le.eq rfl rfl) True.intro (alle rfl (Le.eq rfl rfl) True.intro (alle rfl (Le.rptr (s2_ne (by decide) (by decide))) rfl (alle rfl (Le.eq rfl rfl) True.intro (alle rfl (Le.eq rfl rfl) True.intro (alle rfl (Le.rptr (s2_ne (by decide) (by decide))) rfl (alle rfl (Le.own (s2_ne (by decide) (by decide))) rfl (alle rfl (Le.own (s2_ne (by decide) (by decide))) rfl (alle rfl (Le.eq rfl rfl) True.intro (alle rfl (Le.eq rfl rfl) True.intro True.intro)))))))))
              · refine allh rfl Nat.zero_lt_one (bleo rfl fun _ _ => Le.eq rfl rfl) (fun _ _ => True.intro) (allh rfl Nat.zero_lt_one (bleo rfl fun _ _ => Le.eq rfl rfl) (fun _ _ => True.intro) (allh rfl Nat.zero_lt_one (ble1 rfl) True.intro (allh rfl Nat.zero_lt_one (ble1 rfl) True.intro True.intro)))
          · obtain rfl : c = N := by omega
            refine run0 ?_
            refine q_loop (m' := c - (r + 1)) (by omega) ((imp_pub (g := 19) 101 r rfl rfl (Nat.lt_succ_self r) (by show (if _ then _ else _) = _; rw [if_neg (Nat.lt_irrefl _), Nat.sub_self]; rfl) rfl rfl (by decide)).trans ((imp_pub (g := 20) 105 r rfl rfl (Nat.lt_succ_self r) (by show (if _ then _ else _) = _; rw [if_neg (Nat.lt_irrefl _), Nat.sub_self]; rfl) rfl rfl (by decide)).trans (acc2_next (a1 := 101) (a2 := 105) rfl rfl rfl rfl rfl rfl (by exact pub_blk (fun i hi => if_pos hi) (fun _ _ => rfl) rfl rfl (fun _ => True.intro)) (by exact pub_blk (fun i hi => if_pos hi) (fun _ _ => rfl) rfl rfl (fun _ => True.intro)) (by exact fun _ _ => True.intro) (by exact fun _ _ => True.intro) rfl (by decide) rfl rfl ?_ ?_))) ⟨r + 1, by omega, rfl, rfl⟩
            · refine alle rfl (Le.eq rfl rfl) True.intro (alle rfl (Le.eq rfl rfl) True.intro (alle rfl (Le.rptr (s2_ne (by decide) (by decide))) rfl (alle rfl (Le.eq rfl rfl) True.intro (alle rfl (Le.eq rfl rfl) True.intro (alle rfl (Le.rptr (s2_ne (by decide) (by decide))) rfl (alle rfl (Le.eq rfl rfl) True.intro True.intro))))))
            · refine allh rfl Nat.zero_lt_one (ble1 rfl) True.intro (allh rfl Nat.zero_lt_one (ble1 rfl) True.intro True.intro)
      · obtain rfl : r = N := by omega
        refine awp_imp (imp_matn 16 (fun _ => r) (fun i j => .q (radd I J f A i j)) rfl rfl rfl (fun _ _ => rfl) rfl) ?_
        refine awp_imp (imp_matn 17 (fun _ => r) (fun i j => .q (rscl I f A i j)) rfl rfl rfl (fun _ _ => rfl) rfl) ?_
        repeat(first|refine run1 ?_|((with_reducible apply st_call);exact rfl;exact rfl;exact rfl;first|(exact c2)|(exact c3)|(exact c4)|(exact c5)|(exact c6)|(exact c7)|(exact c8))|((with_reducible apply st_callg);exact rfl;exact rfl;(first|exact rfl|assumption);exact rfl;exact rfl;exact rfl;first|(exact c2)|(exact c3)|(exact c4)|(exact c5)|(exact c6)|(exact c7)|(exact c8)))
        refine ⟨.inr rfl, _, Imp.refl _, ?_⟩
        exact .one (.tmp (congrArg (fun b => some (AV.b b)) (decide_eq_true rfl)))
end Go.Proofs.Ytjmpanhacfjcaaa.AM

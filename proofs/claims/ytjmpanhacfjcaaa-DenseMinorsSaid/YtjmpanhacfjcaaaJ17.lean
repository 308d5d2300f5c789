/- Joined texts, 17: LawE LawH PBt PBits AmZ. -/
import Derived.Test.YtjmpanhacfjcaaaJ16
import Derived.Test.YtjmpanhacfjcaaaJ14
import Derived.Test.YtjmpanhacfjcaaaJ15
set_option linter.unusedVariables false
set_option linter.unusedSimpArgs false
/- Laws of dense matrices: walks: matrices of small numbers (under way). -/
namespace Go.Proofs.Ytjmpanhacfjcaaa.AM
open Go Go.RowKit Go.Proofs.Ytjmpanhacfjcaaa.PN Go.Proofs.Ytjmpanhacfjcaaa.V
open Go.Proofs.Ytjmpanhacfjcaaa.LA (S S_succ S_zero S_congr)
set_option linter.unusedVariables false
set_option linter.unusedSimpArgs false
set_option maxRecDepth 4000
set_option maxHeartbeats 4000000
/-- Rows that are gathered in slot 6, all of them own. -/
def famS (e : List (Nat × AV)) (m : Nat) (A : Nat → Nat → Rat) : Nat → St
  | 0 => stl ((6, .v (.slice none 0 0)) :: e) []
  | k + 1 => stl ((6, .own 6 0) :: e) [(6, (1, fun _ => .ones WT (k + 1) (fun i => .own 3 i))), (3, (k + 1, fun r => .rats m (fun j => .q (A r j))))]
def sm (k : Nat) : Ren := fun g r => if g = 3 then (if r < k then (3, r) else (31, r - k)) else if g = 6 then (33, r) else (g, r)
theorem sm_inj (k : Nat) (g r g' r' : Nat) (hg : memN g [6, 3] = true) (hg' : memN g' [6, 3] = true) (e : sm k g r = sm k g' r') : g = g' ∧ r = r' := by
  have m1 := memN_spec hg
  have m2 := memN_spec hg'
  simp only [List.mem_cons, List.not_mem_nil, or_false] at m1 m2
  unfold sm at e
  rcases m1 with rfl | rfl <;> rcases m2 with rfl | rfl <;> simp at e ⊢
  · exact e
  · split at e <;> simp at e
  · split at e <;> simp at e
  · split at e <;> split at e <;> simp at e <;> omega
theorem fam_close {s : St} {e : List (Nat × AV)} {k m : Nat} {A : Nat → Nat → Rat} {F1 F2 F3 : Nat → Blk} {f1 : Nat → AV} (h6 : s.env 6 = some (.own 33 0))
    (h33 : s.heap 33 = some (1, F1)) (e33 : F1 0 = .ones WT (k + 1) f1) (g33 : ∀ i, i < k → f1 i = .own 3 i) (g33' : f1 k = .own 31 0) (h3 : 0 < k → s.heap 3 = some (k, F2)) (g3 : ∀ r, r < k → BLe (sm k) (F2 r) (.rats m fun j => .q (A r j)))
    (h31 : s.heap 31 = some (1, F3)) (g31 : BLe (sm k) (F3 0) (.rats m fun j => .q (A k j))) (h60 : s.used 60 = false) (he : AllE s (sm k) (fun g => memN g [6, 3]) e) : Imp s (famS e m A (k + 1)) := by
  refine imp_stl (h := [(6, (1, fun _ => .ones WT (k + 1) (fun i => .own 3 i))), (3, (k + 1, fun r => .rats m (fun j => .q (A r j))))]) (sm k) (fun h => by rw [h60] at h; cases h) (fun g r g' r' h1 h2 => sm_inj k g r g' r' h1 h2) ⟨⟨_, h6, Le.own rfl, rfl⟩, he⟩ ⟨fun r hr => ?_, fun r hr => ?_, trivial⟩ (by rw [h60]; rfl)
  · obtain rfl : r = 0 := by omega
    refine ⟨1, F1, h33, Nat.zero_lt_one, ?_, fun i hi => rfl⟩
    show BLe (sm k) (F1 0) _
    rw [e33]
    refine bleo rfl fun i hi => ?_
    by_cases e : i < k
    · rw [g33 i e]; exact Le.own (by unfold sm; rw [if_pos rfl, if_pos e])
    · obtain rfl : i = k := by omega
      rw [g33']; exact Le.own (by unfold sm; rw [if_pos rfl, if_neg e, Nat.sub_self])
  · by_cases e : r < k
    · have e1 : sm k 3 r = (3, r) := by unfold sm; rw [if_pos rfl, if_pos e]
      rw [e1]
      exact ⟨k, F2, h3 (by omega), e, g3 r e, trivial⟩
    · obtain rfl : r = k := by omega
      have e1 : sm r 3 r = (31, 0) := by unfold sm; rw [if_pos rfl, if_neg e, Nat.sub_self]
      rw [e1]
      exact ⟨1, F3, h31, Nat.zero_lt_one, g31, trivial⟩
/-- The rows, as they are drawn. -/
def mbase (n : Nat) (zs : List Int) (i j : Nat) : Rat := rowq zs (i * n + j)
theorem mul_cast (n : Nat) : (n : Int) * (n : Int) = ((n * n : Nat) : Int) := (Int.natCast_mul n n).symm
theorem cut_blk {σ : Ren} {n k : Nat} {zs : List Int} {g : Nat → RA} : BLe σ (.rats (0 + ((k : Int) * (n : Int) + n - (k : Int) * (n : Int)).toNat) (glue 0 g (fun i => .q (rowq zs (((k : Int) * (n : Int)).toNat + i))))) (.rats n fun j => .q (mbase n zs k j)) := by
  have e : (k : Int) * (n : Int) = ((k * n : Nat) : Int) := (Int.natCast_mul k n).symm
  rw [e]
  refine blen (by omega) fun j hj => ?_
  unfold glue mbase
  rw [if_neg (Nat.not_lt_zero _), Nat.sub_zero]
  rfl
/-- The last row's place, and the one ahead of it. -/
def la (n : Nat) : Nat := ((n : Int) - 1).toNat
def lb2 (n : Nat) : Nat := ((n : Int) - 2).toNat
def nv (n : Nat) (zs : List Int) (c : Nat) : Rat := if 2 < n then mbase n zs 0 c + mbase n zs (lb2 n) c else mbase n zs 0 c
def mx (n : Nat) (zs : List Int) (j : Nat) : Nat → Nat → Rat := fun r c => if r = la n ∧ c < j then nv n zs c else mbase n zs r c
def mc (n : Nat) (zs : List Int) : Prop := 1 < n ∧ 2 < zs.length ∧ wthn (zs.getD 2 0) 3 = 0
open Classical in
/-- The matrix that is made. -/
noncomputable def mkm (n : Nat) (zs : List Int) (i j : Nat) : Rat := if mc n zs then mx n zs n i j else mbase n zs i j
theorem imp_fam {s : St} {e : List (Nat × AV)} {n m : Nat} {A : Nat → Nat → Rat} {F1 F2 : Nat → Blk} {f1 : Nat → AV} (h6 : s.heap 6 = some (1, F1)) (e6 : F1 0 = .ones WT n f1) (g6 : ∀ i, i < n → f1 i = .own 3 i) (h3 : s.heap 3 = some (n, F2)) (g3 : ∀ r, r < n → BLe idR (F2 r) (.rats m fun j => .q (A r j)))
    (h60 : s.used 60 = false) (he : AllE s idR (fun g => memN g [6, 3]) e) : Imp s (stl e [(6, (1, fun _ => .ones WT n (fun i => .own 3 i))), (3, (n, fun r => .rats m (fun j => .q (A r j))))]) := by
  refine imp_id he ⟨fun r hr => ?_, fun r hr => ⟨n, F2, h3, hr, g3 r hr, trivial⟩, trivial⟩ (by rw [h60]; rfl)
  obtain rfl : r = 0 := by omega
  refine ⟨1, F1, h6, by decide, ?_, fun i hi => rfl⟩
  show BLe idR (F1 0) _
  rw [e6]; exact bleo rfl fun i hi => Le.id (g6 i hi)
def mx1 (n : Nat) (zs : List Int) (j : Nat) : Nat → Nat → Rat := fun r c => if r = la n ∧ c = j then mx n zs j 0 j else mx n zs j r c
theorem mx_zero {n : Nat} {zs : List Int} {j r c : Nat} (h : r ≠ la n) : mx n zs j r c = mbase n zs r c := by
  unfold mx; rw [if_neg (fun e => h e.1)]
theorem mx_step {n : Nat} {zs : List Int} {j r c : Nat} (h1 : 1 < n) (h2 : 2 < n) : (if r = la n ∧ c = j then mx1 n zs j 0 j + mx1 n zs j (lb2 n) j else mx1 n zs j r c) = mx n zs (j + 1) r c := by
  have e0 : (0 : Nat) ≠ la n := by unfold la; omega
  have e2 : lb2 n ≠ la n := by unfold la lb2; omega
  have a0 : mx1 n zs j 0 j = mbase n zs 0 j := by unfold mx1; rw [if_neg (fun e => e0 e.1), mx_zero e0]
  have a2 : mx1 n zs j (lb2 n) j = mbase n zs (lb2 n) j := by unfold mx1; rw [if_neg (fun e => e2 e.1), mx_zero e2]
  rw [a0, a2]
  by_cases hr : r = la n
  · by_cases hc : c = j
    · rw [if_pos ⟨hr, hc⟩]; unfold mx; rw [if_pos ⟨hr, by omega⟩]; unfold nv; rw [if_pos h2, hc]
    · rw [if_neg (fun e => hc e.2)]
      unfold mx1; rw [if_neg (fun e => hc e.2)]
      unfold mx
      by_cases hl : c < j
      · rw [if_pos ⟨hr, hl⟩, if_pos ⟨hr, by omega⟩]
      · rw [if_neg (fun e => hl e.2), if_neg (by omega)]
  · rw [if_neg (fun e => hr e.1)]
    unfold mx1; rw [if_neg (fun e => hr e.1), mx_zero hr, mx_zero hr]
theorem mx_step2 {n : Nat} {zs : List Int} {j r c : Nat} (h1 : 1 < n) (h2 : ¬ 2 < n) : mx1 n zs j r c = mx n zs (j + 1) r c := by
  have e0 : (0 : Nat) ≠ la n := by unfold la; omega
  unfold mx1
  by_cases hr : r = la n
  · by_cases hc : c = j
    · rw [if_pos ⟨hr, hc⟩, mx_zero e0]; unfold mx; rw [if_pos ⟨hr, by omega⟩]; unfold nv; rw [if_neg h2, hc]
    · rw [if_neg (fun e => hc e.2)]
      unfold mx
      by_cases hl : c < j
      · rw [if_pos ⟨hr, hl⟩, if_pos ⟨hr, by omega⟩]
      · rw [if_neg (fun e => hl e.2), if_neg (by omega)]
  · rw [if_neg (fun e => hr e.1), mx_zero hr, mx_zero hr]
instance mbase_wt (n : Nat) (zs : List Int) (i j : Nat) : Wt (mbase n zs i j) 1 := rowq_wt _ _
theorem nv_wt (n : Nat) (zs : List Int) (c : Nat) : Wt (nv n zs c) 3 := by
  unfold nv; split
  · exact (inferInstance : Wt (mbase n zs 0 c + mbase n zs (lb2 n) c) (1 + 1 + 1))
  · exact (mbase_wt n zs 0 c).mono (by decide)
theorem mx_wt (n : Nat) (zs : List Int) (j r c : Nat) : Wt (mx n zs j r c) 3 := by
  unfold mx; split
  · exact nv_wt _ _ _
  · exact (mbase_wt _ _ _ _).mono (by decide)
theorem mx1_wt (n : Nat) (zs : List Int) (j r c : Nat) : Wt (mx1 n zs j r c) 3 := by
  unfold mx1; split
  · exact mx_wt _ _ _ _ _
  · exact mx_wt _ _ _ _ _
theorem mkm_wt (n : Nat) (zs : List Int) (i j : Nat) : Wt (mkm n zs i j) 3 := by
  unfold mkm; split
  · exact mx_wt _ _ _ _ _
  · exact (mbase_wt _ _ _ _).mono (by decide)
theorem k_make {n : Nat} {zs : List Int} (h0 : 0 < n) (hn : n ≤ 8) (hz : ∀ i, i < zs.length → Fits .i64 (zs.getD i 0)) : Has Try.prog 13 [.i n, .seq .i64 zs] (.mat true n (fun _ => n) (fun i j => .q (mkm n zs i j))) := by
  have hnn : n * n ≤ 64 := Nat.mul_le_mul hn hn
  refine has_of Try.func13 (by kernel_rfl) rfl Try.ntmps13 Try.results13 rfl rfl rfl ?_
  refine run0 ?_
  rw [mul_cast]
  repeat(first|refine run1 ?_|((with_reducible apply st_call);exact rfl;exact rfl;exact rfl;first|(exact k_row (by omega) hz))|((with_reducible apply st_callg);exact rfl;exact rfl;(first|exact rfl|assumption);exact rfl;exact rfl;exact rfl;first|(exact k_row (by omega) hz)))
  refine awp_loop (fun m' s => ∃ k, k ≤ n ∧ m' = n - k ∧ s = famS [(0, .i n), (1, .seq .i64 zs), (5, .row true (n * n) (fun i => .q (rowq zs i))), (7, .i (k : Int))] n (mbase n zs) k) n _ (imp_id (h := []) (e := [(6, .v (.slice none 0 0)), (0, .i n), (1, .seq .i64 zs), (5, .row true (n * n) (fun i => .q (rowq zs i))), (7, .i ((0 : Nat) : Int))]) ?_ ?_) ⟨0, Nat.zero_le _, rfl, rfl⟩ ?_
  · exact eA
  · exact True.intro
  · rintro m' s ⟨k, hk, rfl, rfl⟩
    have hb : k < n → 0 ≤ (k : Int) * (n : Int) ∧ (k : Int) * (n : Int) + n ≤ ((n * n : Nat) : Int) := fun h => by
      have h1 : k * n + n ≤ n * n := by
        have := Nat.mul_le_mul_right n (show k + 1 ≤ n from h)
        rw [Nat.succ_mul] at this
        exact this
      rw [show (k : Int) * (n : Int) = ((k * n : Nat) : Int) from (Int.natCast_mul k n).symm]
      omega
    rcases k with _ | k
    · refine run0 ?_
      refine awp_if rfl (fun h => ?_) (fun h => absurd (show ((0 : Nat) : Int) < n by omega) h)
      obtain ⟨hb1, hb2⟩ := hb h0
      refine run0 ?_
      refine q_loop ?_ (fam_close (F2 := fun _ => .rats 0 fun _ => ra0) rfl rfl rfl (fun i hi => absurd hi (Nat.not_lt_zero _)) rfl (fun h => absurd h (Nat.lt_irrefl _)) (fun r hr => absurd hr (Nat.not_lt_zero _)) rfl (cut_blk (k := 0)) rfl ?_) ⟨0 + 1, ?_, rfl, rfl⟩
      · omega
      · refine alle rfl (Le.eq rfl rfl) True.intro (alle rfl (Le.eq rfl rfl) True.intro (alle rfl (Le.eq rfl rfl) True.intro (alle rfl (Le.eq rfl rfl) True.intro True.intro)))
      · omega
    · refine run0 ?_
      refine awp_if rfl (fun h => ?_) (fun h => ?_)
      · have h : k + 1 < n := by omega
        obtain ⟨hb1, hb2⟩ := hb h
        refine run0 ?_
        refine q_loop ?_ (fam_close (k := k + 1) rfl rfl rfl (fun i hi => if_pos hi) ?_ (fun _ => rfl) (fun r hr => blen rfl fun j hj => rfl) rfl (cut_blk (k := k + 1)) rfl ?_) ⟨k + 1 + 1, ?_, rfl, rfl⟩
        · omega
        · show (if _ then _ else _) = _
          rw [if_neg (Nat.lt_irrefl _), Nat.sub_self]; rfl
        · refine alle rfl (Le.eq rfl rfl) True.intro (alle rfl (Le.eq rfl rfl) True.intro (alle rfl (Le.eq rfl rfl) True.intro (alle rfl (Le.eq rfl rfl) True.intro True.intro)))
        · omega
      · obtain rfl : k + 1 = n := by omega
        generalize hN : k + 1 = N at *
        have hbase : ¬ mc N zs → mkm N zs = mbase N zs := fun h => by funext i j; exact if_neg h
        by_cases c1 : 1 < N
        · by_cases c2 : 2 < zs.length
          · by_cases c3 : wthn (zs.getD 2 0) 3 = 0
            · have hm : mkm N zs = mx N zs N := by funext i j; exact if_pos ⟨c1, c2, c3⟩
              rw [hm]
              subst hN
              have c1' : (1 : Int) < ((k + 1 : Nat) : Int) := by omega
              have gA : (decide ((1 : Int) < ((k + 1 : Nat) : Int)) == true) = true := by rw [decide_eq_true c1']; rfl
              have pA : decide ((1 : Int) < ((k + 1 : Nat) : Int)) = true := decide_eq_true c1'
              have c2' : (2 : Int) < (zs.length : Int) := by omega
              have gB : (decide ((2 : Int) < (zs.length : Int)) == true) = true := by rw [decide_eq_true c2']; rfl
              have pB : decide ((2 : Int) < (zs.length : Int)) = true := decide_eq_true c2'
              repeat(first|refine run1 ?_|((with_reducible apply st_call);exact rfl;exact rfl;exact rfl;first|(exact k_within7 (by decide) (by decide)))|((with_reducible apply st_callg);exact rfl;exact rfl;(first|exact rfl|assumption);exact rfl;exact rfl;exact rfl;first|(exact k_within7 (by decide) (by decide))))
              refine awp_yes rfl ?_ ?_
              · exact decide_eq_true c3
              refine run0 ?_
              refine awp_loop (fun m' s => ∃ j, j ≤ k + 1 ∧ m' = k + 1 - j ∧ s = stl [(0, .i ((k + 1 : Nat) : Int)), (6, .own 6 0), (8, .i (j : Int))] [(6, (1, fun _ => .ones WT (k + 1) (fun i => .own 3 i))), (3, (k + 1, fun r => .rats (k + 1) (fun c => .q (mx (k + 1) zs j r c))))]) (k + 1) _ (imp_fam rfl rfl (fun _ _ => rfl) rfl (fun r hr => blen rfl fun c _ => congrArg RA.q (show mbase (k + 1) zs r c = mx (k + 1) zs 0 r c from (if_neg (fun e => Nat.not_lt_zero _ e.2)).symm)) rfl ?_) ⟨0, Nat.zero_le _, rfl, rfl⟩ ?_
              · exact eA
              · rintro m' s ⟨j, hj, rfl, rfl⟩
                have w0 : ∀ r c, Wt (mx (k + 1) zs j r c) 3 := fun r c => mx_wt _ _ _ _ _
                have w1 : ∀ r c, Wt (mx1 (k + 1) zs j r c) 3 := fun r c => mx1_wt _ _ _ _ _
                refine run0 ?_
                refine awp_if rfl (fun h => ?_) (fun h => ?_)
                · have h : j < k + 1 := by omega
                  refine run3 ?_
                  repeat(first|refine run4 ?_|((with_reducible apply st_call);exact rfl;exact rfl;exact rfl;first|(exact k_copy (Nat.le_trans (w0 _ _).le (by decide))))|((with_reducible apply st_callg);exact rfl;exact rfl;(first|exact rfl|assumption);exact rfl;exact rfl;exact rfl;first|(exact k_copy (Nat.le_trans (w0 _ _).le (by decide)))))
                  refine awp_imp (imp_fam (n := k + 1) (m := k + 1) (A := mx1 (k + 1) zs j) (e := [(0, .i ((k + 1 : Nat) : Int)), (6, .own 6 0), (8, .i (j : Int))]) rfl rfl (fun _ _ => rfl) rfl (fun r hr => clr_blk (fun _ _ => rfl) r) rfl ?_) ?_
                  · exact eA
                  refine run0 ?_
                  refine awp_if rfl (fun h2 => ?_) (fun h2 => ?_)
                  · have h2 : 2 < k + 1 := by omega
                    repeat(first|refine run1 ?_|((with_reducible apply st_call);exact rfl;exact rfl;exact rfl;first|(exact cs_add ⟨by decide, by decide⟩))|((with_reducible apply st_callg);exact rfl;exact rfl;(first|exact rfl|assumption);exact rfl;exact rfl;exact rfl;first|(exact cs_add ⟨by decide, by decide⟩)))
                    refine q_loop (m' := k + 1 - (j + 1)) (by omega) (imp_fam (n := k + 1) (m := k + 1) (A := mx (k + 1) zs (j + 1)) (e := [(0, .i ((k + 1 : Nat) : Int)), (6, .own 6 0), (8, .i ((j + 1 : Nat) : Int))]) rfl rfl (fun _ _ => rfl) rfl (fun r hr => clr_blk (fun _ _ => mx_step c1 h2) r) rfl ?_) ⟨j + 1, by omega, rfl, rfl⟩
                    exact eA
                  · have h2 : ¬ 2 < k + 1 := by omega
                    refine run0 ?_
                    refine q_loop (m' := k + 1 - (j + 1)) (by omega) (imp_fam (n := k + 1) (m := k + 1) (A := mx (k + 1) zs (j + 1)) (e := [(0, .i ((k + 1 : Nat) : Int)), (6, .own 6 0), (8, .i ((j + 1 : Nat) : Int))]) rfl rfl (fun _ _ => rfl) rfl (fun r hr => blen rfl fun c _ => congrArg RA.q (mx_step2 c1 h2)) rfl ?_) ⟨j + 1, by omega, rfl, rfl⟩
                    exact eA
                · obtain rfl : j = k + 1 := by omega
                  refine run0 ?_
                  refine ⟨.inr rfl, _, imp_mat2 4 (fun _ => k + 1) (fun i j => .q (mx (k + 1) zs (k + 1) i j)) rfl rfl rfl (fun _ _ => rfl) rfl (fun _ _ => rfl) (by decide), ?_⟩
                  exact .one (.tmp rfl)
            · have hc : ¬ mc N zs := fun h => c3 h.2.2
              rw [hbase hc]
              subst hN
              have c1' : (1 : Int) < ((k + 1 : Nat) : Int) := by omega
              have gA : (decide ((1 : Int) < ((k + 1 : Nat) : Int)) == true) = true := by rw [decide_eq_true c1']; rfl
              have pA : decide ((1 : Int) < ((k + 1 : Nat) : Int)) = true := decide_eq_true c1'
              have c2' : (2 : Int) < (zs.length : Int) := by omega
              have gB : (decide ((2 : Int) < (zs.length : Int)) == true) = true := by rw [decide_eq_true c2']; rfl
              have pB : decide ((2 : Int) < (zs.length : Int)) = true := decide_eq_true c2'
              repeat(first|refine run1 ?_|((with_reducible apply st_call);exact rfl;exact rfl;exact rfl;first|(exact k_within7 (by decide) (by decide)))|((with_reducible apply st_callg);exact rfl;exact rfl;(first|exact rfl|assumption);exact rfl;exact rfl;exact rfl;first|(exact k_within7 (by decide) (by decide))))
              refine awp_no rfl ?_ ?_
              · exact decide_eq_false c3
              refine run0 ?_
              refine ⟨.inr rfl, _, imp_mat2 4 (fun _ => k + 1) (fun i j => .q (mbase (k + 1) zs i j)) rfl rfl rfl (fun _ _ => rfl) rfl (fun _ _ => rfl) (by decide), ?_⟩
              exact .one (.tmp rfl)
          · have hc : ¬ mc N zs := fun h => c2 h.2.1
            rw [hbase hc]
            subst hN
            have c1' : (1 : Int) < ((k + 1 : Nat) : Int) := by omega
            have gA : (decide ((1 : Int) < ((k + 1 : Nat) : Int)) == true) = true := by rw [decide_eq_true c1']; rfl
            have pA : decide ((1 : Int) < ((k + 1 : Nat) : Int)) = true := decide_eq_true c1'
            have c2' : ¬ (2 : Int) < (zs.length : Int) := by omega
            have gB : (decide ((2 : Int) < (zs.length : Int)) == true) = false := by rw [decide_eq_false c2']; rfl
            have pB : decide ((2 : Int) < (zs.length : Int)) = false := decide_eq_false c2'
            refine run0 ?_
            refine awp_no rfl rfl ?_
            refine run0 ?_
            refine ⟨.inr rfl, _, imp_mat2 4 (fun _ => k + 1) (fun i j => .q (mbase (k + 1) zs i j)) rfl rfl rfl (fun _ _ => rfl) rfl (fun _ _ => rfl) (by decide), ?_⟩
            exact .one (.tmp rfl)
        · have hc : ¬ mc N zs := fun h => c1 h.1
          rw [hbase hc]
          subst hN
          have c1' : ¬ (1 : Int) < ((k + 1 : Nat) : Int) := by omega
          have gA : (decide ((1 : Int) < ((k + 1 : Nat) : Int)) == true) = false := by rw [decide_eq_false c1']; rfl
          have pA : decide ((1 : Int) < ((k + 1 : Nat) : Int)) = false := decide_eq_false c1'
          refine run0 ?_
          refine awp_no rfl rfl ?_
          refine run0 ?_
          refine ⟨.inr rfl, _, imp_mat2 4 (fun _ => k + 1) (fun i j => .q (mbase (k + 1) zs i j)) rfl rfl rfl (fun _ _ => rfl) rfl (fun _ _ => rfl) (by decide), ?_⟩
          exact .one (.tmp rfl)
end Go.Proofs.Ytjmpanhacfjcaaa.AM
/- The document's elimination: walked. It does what the program's does. -/
namespace Go.Proofs.Ytjmpanhacfjcaaa.AM
open Go Go.RowKit Go.Proofs.Ytjmpanhacfjcaaa.PN Go.Proofs.Ytjmpanhacfjcaaa.V
open Go.Proofs.Ytjmpanhacfjcaaa.LA (S S_succ S_zero S_congr)
set_option linter.unusedVariables false
set_option linter.unusedSimpArgs false
set_option maxRecDepth 4000
set_option maxHeartbeats 4000000
/-- How long all numbers are while the steps are done. -/
structure TB (n m X : Nat) (A : Nat → Nat → Rat) : Prop where
  d : ∀ c, c ≤ n → Wt (stps n m false A c).d X
  A : ∀ c, c ≤ n → ∀ i j, Wt ((stps n m false A c).A i j) X
theorem TB.wt {n m X : Nat} {A : Nat → Nat → Rat} (h : TB n m X A) (i j : Nat) : Wt (A i j) X := h.A 0 (Nat.zero_le _) i j
/-- The determinant, as far as it is known. -/
def dd (c : Nat) (s : ES) : Rat := if s.at' < c then 0 else s.d
theorem cln_low {A : Nat → Nat → Rat} {π : Nat → Nat} {at' col m k : Nat} (h : k ≤ at' + 1) (r j : Nat) : cln A π false at' col m k r j = A r j := by
  unfold cln
  rw [if_neg]
  rintro ⟨⟨i, h1, h2, _⟩, _⟩
  rcases h2 with h2 | ⟨h2, _⟩
  · omega
  · cases h2
theorem dd_wt {c X : Nat} {s : ES} [h : Wt s.d X] (hX : 1 ≤ X) : Wt (dd c s) X := by
  unfold dd; split
  · exact (inferInstance : Wt 0 1).mono hX
  · exact h
theorem sub_zero_mul (x y : Rat) {q : Rat} (h : q = 0) : x - q * y = x := by
  rw [h, Rat.zero_mul, Rat.sub_eq_add_neg, Rat.neg_zero, Rat.add_zero]
theorem copy_blk {m : Nat} {σ : Ren} {z f : Nat → RA} {g : Nat → Rat} (h : ∀ j, j < m → f j = .q (g j)) : BLe σ (.rats (0 + m) (glue 0 z f)) (.rats m fun j => .q (g j)) := by
  refine blen (Nat.zero_add m) fun j hj => ?_
  unfold glue
  rw [if_neg (Nat.not_lt_zero _), Nat.sub_zero]
  exact h j (by omega)
section
variable {p q : Rat} {a b : Nat} [hp : Wt p a] [hq : Wt q b]
theorem cs_sub (h : a ≤ 15000 ∧ b ≤ 15000) : Has Try.prog 60 [.q p, .q q] (.q (p - q)) := k_sub (Nat.le_trans hp.le h.1) (Nat.le_trans hq.le h.2)
end
theorem cln_mix {A : Nat → Nat → Rat} {π : Nat → Nat} {all : Bool} {at' col m k n : Nat} (h : k ≤ n) (r j : Nat) : cln A π all at' col m k r j = A r j ∨ cln A π all at' col m k r j = cln A π all at' col m n r j := by
  unfold cln
  by_cases e : (∃ i, i < k ∧ tst all at' i ∧ r = π i) ∧ col ≤ j ∧ j < m
  · obtain ⟨⟨i, h1, h2, h3⟩, h4⟩ := e
    rw [if_pos ⟨⟨i, h1, h2, h3⟩, h4⟩, if_pos ⟨⟨i, by omega, h2, h3⟩, h4⟩]
    exact .inr rfl
  · rw [if_neg e]; exact .inl rfl
theorem dd_step {c a p : Nat} {d x : Rat} {π π' : Nat → Nat} {B B' : Nat → Nat → Rat} : det1 (dd c ⟨a, d, π, B⟩) p a * x = dd (c + 1) ⟨a + 1, det1 d p a * x, π', B'⟩ := by
  unfold dd
  show det1 (if a < c then 0 else d) p a * x = if a + 1 < c + 1 then 0 else det1 d p a * x
  by_cases h : a < c
  · rw [if_pos h, if_pos (by omega)]
    unfold det1
    split
    · exact Rat.zero_mul _
    · rw [Rat.neg_zero]; exact Rat.zero_mul _
  · rw [if_neg h, if_neg (by omega)]
theorem r7_triangle {n m X : Nat} {A : Nat → Nat → Rat} (hB : TB n m X A) (hX : X ≤ 2400) (h0 : 0 < n) (hn : n ≤ 8) (hnm : n ≤ m) (hm : m ≤ 9) :
    Has Try.prog 56 [.mat false n (fun _ => m) (fun i j => .q (A i j)), .i n] (.tup3 (.mat true n (fun _ => m) (fun i j => .q ((stps n m false A n).A ((stps n m false A n).π i) j))) (.q (dd n (stps n m false A n))) (.i (stps n m false A n).at')) := by
  have hX1 : 1 ≤ X := Nat.le_trans (wt_pos _) (hB.d 0 (Nat.zero_le _)).le
  have hwt := hB.wt
  refine has_of Try.func56 (by kernel_rfl) rfl Try.ntmps56 Try.results56 rfl rfl rfl ?_
  refine run0 ?_
  refine awp_loop (fun m' s => ∃ k, k ≤ n ∧ m' = n - k ∧ s = famT 7 3 [(0, .mat false n (fun _ => m) (fun i j => .q (A i j))), (1, .i n), (5, .rptr 5 0 0), (8, .i (k : Int))] [(5, (1, fun _ => .rats 1 fun _ => ra0))] m A k) n _ (imp_id (h := [(5, (1, fun _ => .rats 1 fun _ => ra0))]) (e := [(7, .v (.slice none 0 0)), (0, .mat false n (fun _ => m) (fun i j => .q (A i j))), (1, .i n), (5, .rptr 5 0 0), (8, .i ((0 : Nat) : Int))]) ?_ ?_) ⟨0, Nat.zero_le _, rfl, rfl⟩ ?_
  · exact eA
  · exact hA
  · rintro m' s ⟨k, hk, rfl, rfl⟩
    rcases k with _ | k
    · refine run0 ?_
      refine awp_if rfl (fun h => ?_) (fun h => absurd (show ((0 : Nat) : Int) < n by omega) h)
      refine run0 ?_
      refine q_loop ?_ (famT_close (k := 0) (a := 30) (b := 28) (F2 := fun _ => .rats 0 fun _ => ra0) rfl rfl rfl (fun i hi => absurd hi (Nat.not_lt_zero _)) rfl (fun h => absurd h (Nat.lt_irrefl _)) (fun r hr => absurd hr (Nat.not_lt_zero _)) rfl (copy_blk fun j hj => rfl) rfl (by decide) rfl ?_ ?_) ⟨0 + 1, ?_, rfl, rfl⟩
      · omega
      · refine alle rfl (Le.eq rfl rfl) True.intro (alle rfl (Le.eq rfl rfl) True.intro (alle rfl (Le.rptr rfl) rfl (alle rfl (Le.eq rfl rfl) True.intro True.intro)))
      · exact allh rfl Nat.zero_lt_one (ble1 rfl) True.intro True.intro
      · omega
    · refine run0 ?_
      refine awp_if rfl (fun h => ?_) (fun h => ?_)
      · have h : k + 1 < n := by omega
        refine run0 ?_
        refine q_loop ?_ (famT_close (k := k + 1) (a := 30) (b := 28) rfl rfl rfl (fun i hi => if_pos hi) ?_ (fun _ => rfl) (fun r hr => blen rfl fun j hj => rfl) rfl (copy_blk fun j hj => rfl) rfl (by decide) rfl ?_ ?_) ⟨k + 1 + 1, ?_, rfl, rfl⟩
        · omega
        · show (if _ then _ else _) = _
          rw [if_neg (Nat.lt_irrefl _), Nat.sub_self]; rfl
        · refine alle rfl (Le.eq rfl rfl) True.intro (alle rfl (Le.eq rfl rfl) True.intro (alle rfl (Le.rptr rfl) rfl (alle rfl (Le.eq rfl rfl) True.intro True.intro)))
        · exact allh rfl Nat.zero_lt_one (ble1 rfl) True.intro True.intro
        · omega
      · obtain rfl : k + 1 = n := by omega
        refine awp_imp (imp_TH (n := k + 1) (t := 7) (g := 3) (m := m) (π := fun i => i) (A := A) (e := [(1, .i ((k + 1 : Nat) : Int)), (5, .rptr 5 0 0), (7, .own 7 0)]) (l := [(5, (1, fun _ => .rats 1 fun _ => ra0))]) rfl rfl (fun _ _ => rfl) rfl (fun r hr => blen rfl fun _ _ => rfl) rfl ?_ ?_) ?_
        · exact eA
        · exact hA
        generalize hN : k + 1 = N at *
        repeat(first|refine run1 ?_|((with_reducible apply st_call);exact rfl;exact rfl;exact rfl;first|(exact c_unit))|((with_reducible apply st_callg);exact rfl;exact rfl;(first|exact rfl|assumption);exact rfl;exact rfl;exact rfl;first|(exact c_unit)))
        refine awp_loop (fun m' s => ∃ c, c ≤ N ∧ m' = N - c ∧ s = stl [(1, .i N), (5, .rptr 5 0 0), (7, .own 7 0), (9, .rptr 9 0 0), (10, .i (stps N m false A c).at'), (11, .i (c : Int))] (TH 7 3 N m (stps N m false A c).π (stps N m false A c).A [(5, (1, fun _ => .rats 1 fun _ => ra0)), (9, (1, fun _ => .rats 1 fun _ => .q (dd c (stps N m false A c))))])) N _ ?_ ⟨0, Nat.zero_le _, rfl, rfl⟩ ?_
        · refine imp_TH rfl rfl (fun _ _ => rfl) rfl (fun r hr => blen rfl fun _ _ => rfl) rfl ?_ ?_
          · exact eA
          · exact hA
        · rintro m' s ⟨c, hc, rfl, rfl⟩
          have hok := stps_ok (n := N) (m := m) (all := false) (hA := hwt) c
          have hnx : stps N m false A (c + 1) = stp N m false (stps N m false A c) c := rfl
          have wd := hB.d c hc
          have wB := hB.A c hc
          generalize hT : stps N m false A c = T at *
          obtain ⟨a, d, π, B⟩ := T
          have hle : a ≤ c := hok.le
          have hlt : ∀ i, i < N → π i < N := hok.lt
          have hinj : ∀ i j, i < N → j < N → π i = π j → i = j := hok.inj
          have wd : Wt d X := wd
          have wB : ∀ i j, Wt (B i j) X := wB
          refine run0 ?_
          refine awp_if rfl (fun h => ?_) (fun h => ?_)
          · have hcn : c < N := by omega
            have han : a < N := by omega
            refine run0 ?_
            obtain ⟨f1, f2, f3, f4⟩ := fnd_le (fun i => B (π i) c ≠ 0) (N - a) a
            have e1 := stp_yes (n := N) (m := m) (all := false) (s := ⟨a, d, π, B⟩) (col := c)
            have e2 := stp_no (n := N) (m := m) (all := false) (s := ⟨a, d, π, B⟩) (col := c)
            dsimp only at e1 e2
            generalize fnd (fun i => B (π i) c ≠ 0) (N - a) a = i0 at *
            have hz : ∀ j, a ≤ j → j < i0 → B (π j) c = 0 := fun j h1 h2 => Classical.byContradiction fun h => f3 j h1 h2 h
            refine awp_loop (fun m' s => ∃ p, a ≤ p ∧ p ≤ i0 ∧ m' = i0 - p ∧ s = stl [(1, .i N), (5, .rptr 5 0 0), (7, .own 7 0), (9, .rptr 9 0 0), (10, .i (a : Int)), (11, .i (c : Int)), (12, .i (p : Int))] (TH 7 3 N m π B [(5, (1, fun _ => .rats 1 fun _ => ra0)), (9, (1, fun _ => .rats 1 fun _ => .q (dd c ⟨a, d, π, B⟩)))])) (i0 - a) _ (imp_TH rfl rfl (fun _ _ => rfl) rfl (fun r hr => blen rfl fun _ _ => rfl) rfl ?_ ?_) ⟨a, Nat.le_refl _, f1, rfl, rfl⟩ ?_
            · exact eA
            · exact hA
            · rintro m' s ⟨p, hp1, hp, rfl, rfl⟩
              by_cases hpN : p < N
              · have hpN' : (p : Int) < (N : Int) := by omega
                have g1 : (decide ((p : Int) < (N : Int)) == true) = true := by rw [decide_eq_true hpN']; rfl
                have g2 : decide ((p : Int) < (N : Int)) = true := decide_eq_true hpN'
                have hpp := hlt p hpN
                repeat(first|refine run1 ?_|((with_reducible apply st_call);exact rfl;exact rfl;exact rfl;first|(exact hs_nought))|((with_reducible apply st_callg);exact rfl;exact rfl;(first|exact rfl|assumption);exact rfl;exact rfl;exact rfl;first|(exact hs_nought)))
                by_cases hpi : p < i0
                · refine awp_yes rfl ?_ ?_
                  · exact decide_eq_true (hz p hp1 hpi)
                  clear g1 g2
                  refine run0 ?_
                  refine q_loop (m' := i0 - (p + 1)) (by omega) (imp_TH rfl rfl (fun _ _ => rfl) rfl (fun r hr => blen rfl fun _ _ => rfl) rfl ?_ ?_) ⟨p + 1, by omega, by omega, rfl, rfl⟩
                  · exact eA
                  · exact hA
                · obtain rfl : p = i0 := by omega
                  have hnz := f4 (by omega)
                  refine awp_no rfl ?_ ?_
                  · exact decide_eq_false hnz
                  clear g1 g2
                  have e3 := e1 hpN
                  refine run0 ?_
                  refine awp_no rfl ?_ ?_
                  · exact decide_eq_false (show ¬ ((N : Int) ≤ p) by omega)
                  have hlt' := swp_lt hlt hpN han
                  have hinj' := swp_inj hinj hpN han
                  have hat : swp π p a a = π p := swp_at π p a
                  have hD : dd (c + 1) (stps N m false A (c + 1)) = det1 (dd c ⟨a, d, π, B⟩) p a * B (π p) c := by
                    rw [hnx.trans e3]; exact dd_step.symm
                  have wD : Wt (dd c ⟨a, d, π, B⟩) X := dd_wt (h := wd) hX1
                  have hfin := hnx.trans e3
                  generalize dd c ⟨a, d, π, B⟩ = D at *
                  have hpa := hlt a han
                  have hpp' := hlt' a han
                  refine run0 ?_
                  refine awp_join (stl [(1, .i N), (5, .rptr 5 0 0), (7, .own 7 0), (9, .rptr 9 0 0), (10, .i (a : Int)), (11, .i (c : Int))] (TH 7 3 N m (swp π p a) B [(5, (1, fun _ => .rats 1 fun _ => ra0)), (9, (1, fun _ => .rats 1 fun _ => .q (det1 D p a)))])) ?_ ?_
                  · refine awp_if rfl (fun h => ?_) (fun h => ?_)
                    · have e4 : det1 D p a = -D := if_neg (by omega)
                      rw [e4]
                      refine run2 ?_
                      refine run3 ?_
                      repeat(first|refine run4 ?_|((with_reducible apply st_call);exact rfl;exact rfl;exact rfl;first|(exact k_neg (Nat.le_trans wD.le (by omega))))|((with_reducible apply st_callg);exact rfl;exact rfl;(first|exact rfl|assumption);exact rfl;exact rfl;exact rfl;first|(exact k_neg (Nat.le_trans wD.le (by omega)))))
                      refine ⟨rfl, imp_TH rfl rfl (fun _ _ => swp_own _) rfl (fun r hr => blen rfl fun _ _ => rfl) rfl ?_ ?_⟩
                      · exact eA
                      · exact hA
                    · obtain rfl : p = a := by omega
                      have e4 : det1 D p p = D := if_pos rfl
                      rw [e4]
                      refine run0 ?_
                      refine ⟨rfl, imp_TH rfl rfl (fun _ _ => congrArg _ (swp_self _ _ _).symm) rfl (fun r hr => blen rfl fun _ _ => rfl) rfl ?_ ?_⟩
                      · exact eA
                      · exact hA
                  · have wD2 : Wt (det1 D p a) X := det1_wt (h := wD)
                    generalize det1 D p a = D2 at *
                    rw [← hat] at hD hnz
                    generalize swp π p a = π' at *
                    repeat(first|refine run1 ?_|((with_reducible apply st_call);exact rfl;exact rfl;exact rfl;first|(exact cs_mul ⟨by omega, by omega⟩))|((with_reducible apply st_callg);exact rfl;exact rfl;(first|exact rfl|assumption);exact rfl;exact rfl;exact rfl;first|(exact cs_mul ⟨by omega, by omega⟩)))
                    have wn : ∀ i j, Wt ((stps N m false A (c + 1)).A i j) X := hB.A (c + 1) (by omega)
                    rw [hfin] at wn
                    have wn : ∀ i j, Wt (cln B π' false a c m N i j) X := wn
                    refine awp_loop (fun m' s => ∃ k, a + 1 ≤ k ∧ k ≤ N ∧ m' = N - k ∧ s = stl [(1, .i N), (5, .rptr 5 0 0), (7, .own 7 0), (9, .rptr 9 0 0), (10, .i (a : Int)), (11, .i (c : Int)), (13, .i (k : Int))] (TH 7 3 N m π' (cln B π' false a c m k) [(5, (1, fun _ => .rats 1 fun _ => ra0)), (9, (1, fun _ => .rats 1 fun _ => .q (D2 * B (π' a) c)))])) (N - (a + 1)) _ (imp_TH rfl rfl (fun _ _ => rfl) rfl (fun r hr => blen rfl fun j _ => congrArg RA.q (cln_low (Nat.le_refl _) r j).symm) rfl ?_ ?_) ⟨a + 1, Nat.le_refl _, by omega, rfl, rfl⟩ ?_
                    · exact eA
                    · exact hA
                    · rintro m' s ⟨k, hk1, hk, rfl, rfl⟩
                      refine run0 ?_
                      refine awp_if rfl (fun h => ?_) (fun h => ?_)
                      · have h' : (k : Int) < (N : Int) := h
                        have hkN : k < N := by omega
                        have hpk := hlt' k hkN
                        have wC : ∀ r j, Wt (cln B π' false a c m k r j) X := fun r j => by
                          rcases cln_mix (A := B) (π := π') (all := false) (at' := a) (col := c) (m := m) hk r j with e | e
                          · rw [e]; exact wB r j
                          · rw [e]; exact wn r j
                        have ht : tst false a k := .inl (by omega)
                        have hne : π' k ≠ π' a := fun e => tst_ne ht (hinj' k a hkN han e)
                        have est := cln_step (m := m) (all := false) (A := B) (col := c) hinj' han hkN ht
                        have hrow : cln B π' false a c m k (π' a) c = B (π' a) c := cln_row (n := N) (fun i h1 h2 h3 => tst_ne h2 (hinj' a i han (by omega) h3).symm) c
                        have hne0 : cln B π' false a c m k (π' a) c ≠ 0 := by rw [hrow]; exact hnz
                        generalize cln B π' false a c m k = C at *
                        repeat(first|refine run1 ?_|((with_reducible apply st_call);exact rfl;exact rfl;exact rfl;first|(exact hs_nought))|((with_reducible apply st_callg);exact rfl;exact rfl;(first|exact rfl|assumption);exact rfl;exact rfl;exact rfl;first|(exact hs_nought)))
                        refine awp_if rfl (fun hq => ?_) (fun hq => ?_)
                        · have hq' : C (π' k) c = 0 := hq
                          rw [hq', show (0 : Rat) / C (π' a) c = 0 by rw [Rat.div_def, Rat.zero_mul]] at est
                          refine run0 ?_
                          refine q_loop (m' := N - (k + 1)) (by omega) (imp_TH rfl rfl (fun _ _ => rfl) rfl (fun r hr => blen rfl fun j _ => congrArg RA.q ?_) rfl ?_ ?_) ⟨k + 1, by omega, by omega, rfl, rfl⟩
                          · rw [← est, clr_zero rfl]
                          · exact eA
                          · exact hA
                        · repeat(first|refine run1 ?_|((with_reducible apply st_call);exact rfl;exact rfl;exact rfl;first|(exact cs_over ⟨by omega, by omega⟩ hne0))|((with_reducible apply st_callg);exact rfl;exact rfl;(first|exact rfl|assumption);exact rfl;exact rfl;exact rfl;first|(exact cs_over ⟨by omega, by omega⟩ hne0)))
                          have wq : Wt (C (π' k) c / C (π' a) c) (X + X) := inferInstance
                          generalize hq2 : C (π' k) c / C (π' a) c = q at *
                          refine awp_loop (fun m' s => ∃ u, c ≤ u ∧ u ≤ m ∧ m' = m - u ∧ s = stl [(1, .i N), (5, .rptr 5 0 0), (7, .own 7 0), (9, .rptr 9 0 0), (10, .i (a : Int)), (11, .i (c : Int)), (13, .i (k : Int)), (14, .rptr 14 0 0), (15, .i (u : Int))] (TH 7 3 N m π' (clr C q (π' k) (π' a) c u) [(5, (1, fun _ => .rats 1 fun _ => ra0)), (9, (1, fun _ => .rats 1 fun _ => .q (D2 * B (π' a) c))), (14, (1, fun _ => .rats 1 fun _ => .q q))])) (m - c) _ (imp_TH rfl rfl (fun _ _ => rfl) rfl (fun r hr => blen rfl fun j _ => congrArg RA.q clr_none.symm) rfl ?_ ?_) ⟨c, Nat.le_refl _, by omega, rfl, rfl⟩ ?_
                          · exact eA
                          · refine allh rfl (by decide) (ble1 rfl) True.intro (allh rfl (by decide) (ble1 rfl) True.intro (allh rfl (by decide) (ble1 (congrArg RA.q hq2)) True.intro True.intro))
                          · rintro m' s ⟨u, hu1, hu, rfl, rfl⟩
                            refine run0 ?_
                            refine awp_if rfl (fun h => ?_) (fun h => ?_)
                            · have h' : (u : Int) < m := h
                              have hum : u < m := by omega
                              have wk : ∀ r j, Wt (clr C q (π' k) (π' a) c u r j) (4 * X + 1) := fun r j => clr_wt r j
                              repeat(first|refine run1 ?_|((with_reducible apply st_call);exact rfl;exact rfl;exact rfl;first|(exact cs_mul ⟨by omega, by omega⟩)|(exact cs_sub ⟨by omega, by omega⟩))|((with_reducible apply st_callg);exact rfl;exact rfl;(first|exact rfl|assumption);exact rfl;exact rfl;exact rfl;first|(exact cs_mul ⟨by omega, by omega⟩)|(exact cs_sub ⟨by omega, by omega⟩)))
                              refine q_loop (m' := m - (u + 1)) (by omega) (imp_TH (t := 7) (g := 3) (n := N) (m := m) (π := π') (A := clr C q (π' k) (π' a) c (u + 1)) (e := [(1, .i N), (5, .rptr 5 0 0), (7, .own 7 0), (9, .rptr 9 0 0), (10, .i (a : Int)), (11, .i (c : Int)), (13, .i (k : Int)), (14, .rptr 14 0 0), (15, .i ((u + 1 : Nat) : Int))]) (l := [(5, (1, fun _ => .rats 1 fun _ => ra0)), (9, (1, fun _ => .rats 1 fun _ => .q (D2 * B (π' a) c))), (14, (1, fun _ => .rats 1 fun _ => .q q))]) rfl rfl (fun _ _ => rfl) rfl (fun r hr => clr_blk (clr_step hne hu1) r) rfl ?_ ?_) ⟨u + 1, by omega, by omega, rfl, rfl⟩
                              · exact eA
                              · exact hA
                            · have h' : ¬ (u : Int) < m := h
                              obtain rfl : u = m := by omega
                              refine run0 ?_
                              refine q_loop (m' := N - (k + 1)) (by omega) (imp_TH rfl rfl (fun _ _ => rfl) rfl (fun r hr => blen rfl fun j _ => congrArg RA.q (by rw [est])) rfl ?_ ?_) ⟨k + 1, by omega, by omega, rfl, rfl⟩
                              · exact eA
                              · exact hA
                      · have h' : ¬ (k : Int) < (N : Int) := h
                        obtain rfl : k = N := by omega
                        refine run0 ?_
                        refine q_loop (m' := k - (c + 1)) (by omega) (imp_TH (e := [(1, .i k), (5, .rptr 5 0 0), (7, .own 7 0), (9, .rptr 9 0 0), (10, .i ((a + 1 : Nat) : Int)), (11, .i ((c + 1 : Nat) : Int))]) (t := 7) (g := 3) (n := k) (m := m) (π := π') (A := cln B π' false a c m k) (l := [(5, (1, fun _ => .rats 1 fun _ => ra0)), (9, (1, fun _ => .rats 1 fun _ => .q (D2 * B (π' a) c)))]) rfl rfl (fun _ _ => rfl) rfl (fun r hr => blen rfl fun _ _ => rfl) rfl ?_ ?_) ⟨c + 1, by omega, rfl, ?_⟩
                        · exact eA
                        · exact hA
                        · rw [hD, hfin]
              · have hpN' : ¬ (p : Int) < (N : Int) := by omega
                have g1 : (decide ((p : Int) < (N : Int)) == true) = false := by rw [decide_eq_false hpN']; rfl
                have g2 : decide ((p : Int) < (N : Int)) = false := decide_eq_false hpN'
                obtain rfl : p = i0 := by omega
                have e3 := hnx.trans (e2 hpN)
                refine run0 ?_
                refine awp_no rfl rfl ?_
                refine run0 ?_
                refine awp_yes rfl ?_ ?_
                · exact decide_eq_true (show (N : Int) ≤ p by omega)
                clear g1 g2
                repeat(first|refine run1 ?_|((with_reducible apply st_call);exact rfl;exact rfl;exact rfl;first|(exact hs_zero))|((with_reducible apply st_callg);exact rfl;exact rfl;(first|exact rfl|assumption);exact rfl;exact rfl;exact rfl;first|(exact hs_zero)))
                refine q_loop (m' := N - (c + 1)) (by omega) (imp_TH (e := [(1, .i N), (5, .rptr 5 0 0), (7, .own 7 0), (9, .rptr 9 0 0), (10, .i (a : Int)), (11, .i ((c + 1 : Nat) : Int))]) (t := 7) (g := 3) (n := N) (m := m) (π := π) (A := B) (l := [(5, (1, fun _ => .rats 1 fun _ => ra0)), (9, (1, fun _ => .rats 1 fun _ => .q 0))]) rfl rfl (fun _ _ => rfl) rfl (fun r hr => blen rfl fun _ _ => rfl) rfl ?_ ?_) ⟨c + 1, by omega, rfl, ?_⟩
                · exact eA
                · exact hA
                · rw [e3, show dd (c + 1) ⟨a, d, π, B⟩ = 0 from if_pos (show a < c + 1 by omega)]
          · obtain rfl : c = N := by omega
            rw [hT]
            refine run0 ?_
            refine ⟨.inr rfl, _, (imp_stl (h := [(7, (1, fun _ => .ones WT c (fun i => .own 3 i))), (3, (c, fun r => .rats m (fun j => .q (B (π r) j)))), (5, (1, fun _ => .rats 1 fun _ => .q (dd c ⟨a, d, π, B⟩)))]) (e := [(4, .own 7 0), (5, .rptr 5 0 0), (6, .i (a : Int))]) (sP 3 c π) (fun h => by cases h) (fun g r g' r' _ _ => sP_inj hlt hinj g r g' r') ?_ ?_).trans (imp_mat2 4 (fun _ => m) (fun i j => .q (B (π i) j)) rfl rfl rfl (fun _ _ => rfl) rfl (fun _ _ => rfl) (by decide)), .three (.tmp rfl) (.rat rfl rfl (by decide) rfl (by decide) rfl) (.tmp rfl)⟩
            · exact alle rfl (Le.own (sP_ne (by decide) 0)) rfl (alle rfl (Le.rptr (sP_ne (by decide) 0)) rfl (alle rfl (Le.eq rfl rfl) True.intro True.intro))
            · refine ⟨fun r hr => ?_, fun r hr => ?_, fun r hr => ?_, True.intro⟩
              · obtain rfl : r = 0 := by omega
                rw [sP_ne (by decide)]
                exact ⟨1, _, rfl, Nat.zero_lt_one, bleo rfl fun i hi => Le.own (sP_g hi), fun i hi => rfl⟩
              · rw [sP_g hr]
                exact ⟨c, _, rfl, hlt r hr, blen rfl fun _ _ => rfl, True.intro⟩
              · obtain rfl : r = 0 := by omega
                rw [sP_ne (by decide)]
                exact ⟨1, _, rfl, Nat.zero_lt_one, ble1 rfl, True.intro⟩
end Go.Proofs.Ytjmpanhacfjcaaa.AM
/- How long numbers are, by bits. -/
namespace Go.Proofs.Ytjmpanhacfjcaaa.AM
open Go.Proofs.Ytjmpanhacfjcaaa.PN
set_option linter.unusedVariables false
set_option linter.unusedSimpArgs false
class Bt (q : Rat) (k : outParam Nat) : Prop where
  n : nm q < 2 ^ k
  d : q.den < 2 ^ k
theorem Bt.mono {q : Rat} {a b : Nat} (h : Bt q a) (k : a ≤ b) : Bt q b :=
  ⟨Nat.lt_of_lt_of_le h.n (Nat.pow_le_pow_right (by decide) k), Nat.lt_of_lt_of_le h.d (Nat.pow_le_pow_right (by decide) k)⟩
theorem Bt.of_mk {n d k : Nat} (s : Bool) (hd : d ≠ 0) (h1 : n < 2 ^ k) (h2 : d < 2 ^ k) : Bt (PN.mk s n d) k :=
  ⟨by rw [mk_num s hd]; exact Nat.lt_of_le_of_lt (Nat.div_le_self _ _) h1, by rw [mk_den s hd]; exact Nat.lt_of_le_of_lt (Nat.div_le_self _ _) h2⟩
theorem lt_mul {x y a b : Nat} (h : x < 2 ^ a) (k : y < 2 ^ b) : x * y < 2 ^ (a + b) := by rw [Nat.pow_add]; exact Nat.mul_lt_mul'' h k
instance Bt.mul {p q : Rat} {a b : Nat} [h : Bt p a] [k : Bt q b] : Bt (p * q) (a + b) := by
  rw [mul_parts]
  exact Bt.of_mk _ (Nat.mul_ne_zero (den_ne p) (den_ne q)) (lt_mul h.n k.n) (lt_mul h.d k.d)
theorem Bt.pos {q : Rat} {a : Nat} (h : Bt q a) : 0 < a := by
  rcases Nat.eq_zero_or_pos a with rfl | h0
  · have := h.d; have := q.den_pos; omega
  · exact h0
instance Bt.zero : Bt 0 1 := ⟨by decide, by decide⟩
instance Bt.one : Bt 1 1 := ⟨by decide, by decide⟩
instance Bt.div {p q : Rat} {a b : Nat} [h : Bt p a] [k : Bt q b] : Bt (p / q) (a + b) := by
  by_cases e : q = 0
  · rw [e, Rat.div_def, Rat.inv_zero, Rat.mul_zero]
    exact Bt.zero.mono (by have := h.pos; omega)
  · rw [div_parts p q e]
    exact Bt.of_mk _ (Nat.mul_ne_zero (den_ne p) (fun e' => e (nm_eq_zero.1 e'))) (lt_mul h.n k.d) (lt_mul h.d k.n)
instance Bt.add {p q : Rat} {a b : Nat} [h : Bt p a] [k : Bt q b] : Bt (p + q) (a + b + 1) := by
  have h1 := lt_mul h.n k.d
  have h2 : nm q * p.den < 2 ^ (a + b) := by rw [Nat.add_comm]; exact lt_mul k.n h.d
  have h3 := lt_mul h.d k.d
  have hp : 2 ^ (a + b + 1) = 2 ^ (a + b) * 2 := Nat.pow_succ ..
  have hd := Nat.mul_ne_zero (den_ne p) (den_ne q)
  by_cases e : ng p = ng q
  · rw [add_parts_same p q e]; exact Bt.of_mk _ hd (by omega) (by omega)
  · rcases Nat.le_total (nm q * p.den) (nm p * q.den) with hle | hle
    · rw [add_parts_ge p q e hle]; exact Bt.of_mk _ hd (by omega) (by omega)
    · rw [add_parts_lt p q e hle]; exact Bt.of_mk _ hd (by omega) (by omega)
instance Bt.neg {p : Rat} {a : Nat} [h : Bt p a] : Bt (-p) a := ⟨by rw [neg_nm]; exact h.n, by rw [neg_den]; exact h.d⟩
instance Bt.sub {p q : Rat} {a b : Nat} [h : Bt p a] [k : Bt q b] : Bt (p - q) (a + b + 1) := by
  rw [Rat.sub_eq_add_neg]; exact inferInstance
theorem Bt.wt {q : Rat} {k X : Nat} (h : Bt q k) (hX : k / 32 + 1 ≤ X) : Wt q X := by
  have hB : 2 ^ k ≤ B ^ (k / 32 + 1) := by
    rw [show B ^ (k / 32 + 1) = 2 ^ (32 * (k / 32 + 1)) by rw [Nat.pow_mul]]
    exact Nat.pow_le_pow_right (by decide) (by omega)
  refine ⟨Nat.le_trans ?_ hX⟩
  have h1 := (lt_iff (nm q) _).1 (Nat.lt_of_lt_of_le h.n hB)
  have h2 := (lt_iff q.den _).1 (Nat.lt_of_lt_of_le h.d hB)
  unfold PN.wt
  omega
theorem smal_bits : ∀ x : _root_.Fin 41, ∀ y : _root_.Fin 5, nm ((((x.val : Int) - 20 : Int) : Rat) / ((1 + (y.val : Int) : Int) : Rat)) < 2 ^ 5 ∧ ((((x.val : Int) - 20 : Int) : Rat) / ((1 + (y.val : Int) : Int) : Rat)).den < 2 ^ 5 := by decide +kernel
instance smal_bt (a : Int) : Bt (smal a) 5 := by
  obtain ⟨h1, h2⟩ := wthn_lt (a := a) (n := 41) (by decide)
  obtain ⟨h3, h4⟩ := wthn_lt (a := a.tdiv 41) (n := 5) (by decide)
  have := smal_bits ⟨(wthn a 41).toNat, by omega⟩ ⟨(wthn (a.tdiv 41) 5).toNat, by omega⟩
  rw [show (((wthn a 41).toNat : Nat) : Int) = wthn a 41 by omega, show (((wthn (a.tdiv 41) 5).toNat : Nat) : Int) = wthn (a.tdiv 41) 5 by omega] at this
  exact ⟨this.1, this.2⟩
instance rowq_bt (zs : List Int) (i : Nat) : Bt (rowq zs i) 5 := smal_bt _
end Go.Proofs.Ytjmpanhacfjcaaa.AM
/- How long numbers are, by bits: while the steps are done. -/
namespace Go.Proofs.Ytjmpanhacfjcaaa.AM
open Go.Proofs.Ytjmpanhacfjcaaa.PN
open Go.Proofs.Ytjmpanhacfjcaaa.LA (S S_succ S_zero S_congr)
set_option linter.unusedVariables false
set_option linter.unusedSimpArgs false
/-- How many bits numbers have when a pivots are found. -/
def gb (n K a : Nat) : Nat := 4 ^ (min a (n - 1)) * (K + 1)
theorem gb_pos (n K a : Nat) : K + 1 ≤ gb n K a := Nat.le_mul_of_pos_left _ (Nat.pow_pos (by decide))
theorem gb_last {n K a : Nat} (h : ¬ a + 1 ≤ n - 1) : gb n K (a + 1) = gb n K a ∨ a + 1 ≤ n - 1 := by
  unfold gb
  exact .inl (by rw [show min (a + 1) (n - 1) = min a (n - 1) by omega])
theorem gb_step {n K a : Nat} (h : a + 1 ≤ n - 1) : gb n K (a + 1) = 4 * gb n K a := by
  unfold gb
  rw [show min (a + 1) (n - 1) = min a (n - 1) + 1 by omega, Nat.pow_succ]
  ac_rfl
structure EB (n K : Nat) (s : ES) : Prop where
  A : ∀ i j, Bt (s.A i j) (gb n K s.at' - 1)
  d : Bt s.d (3 * gb n K s.at')
  d' : s.at' < n → Bt s.d (2 * gb n K s.at')
theorem det1_bt {d : Rat} {X i j : Nat} [h : Bt d X] : Bt (det1 d i j) X := by
  unfold det1; split
  · exact h
  · exact inferInstance
theorem stp_eb {n m c K : Nat} {s : ES} (hn : 0 < n) (h : EB n K s) : EB n K (stp n m false s c) := by
  unfold stp
  split
  · rename_i hi
    obtain ⟨h1, h2, _, _⟩ := fnd_le (fun i => s.A (s.π i) c ≠ 0) (n - s.at') s.at'
    generalize fnd (fun i => s.A (s.π i) c ≠ 0) (n - s.at') s.at' = i0 at *
    have han : s.at' < n := by omega
    have w1 := det1_bt (i := i0) (j := s.at') (h := h.d' han)
    have w2 := h.A (s.π i0) c
    have hp := gb_pos n K s.at'
    have w3 := Bt.mul (h := w1) (k := w2)
    by_cases hl : s.at' + 1 ≤ n - 1
    · have e := gb_step (K := K) hl
      refine ⟨fun i j => ?_, w3.mono ?_, fun _ => w3.mono ?_⟩
      · show Bt (cln _ _ _ _ _ _ _ i j) (gb n K (s.at' + 1) - 1)
        rw [e]
        unfold cln
        split
        · have hA := h.A
          exact (inferInstance : Bt (s.A i j - s.A i c / s.A (swp s.π i0 s.at' s.at') c * s.A (swp s.π i0 s.at' s.at') j) _).mono (by omega)
        · exact (h.A i j).mono (by omega)
      · show _ ≤ 3 * gb n K (s.at' + 1); omega
      · show _ ≤ 2 * gb n K (s.at' + 1); omega
    · have e : gb n K (s.at' + 1) = gb n K s.at' := (gb_last hl).resolve_right hl
      refine ⟨fun i j => ?_, w3.mono ?_, fun hlt => ?_⟩
      · show Bt (cln _ _ _ _ _ _ _ i j) (gb n K (s.at' + 1) - 1)
        rw [e]
        unfold cln
        rw [if_neg]
        · exact h.A i j
        · rintro ⟨⟨k, h3, h4, _⟩, _⟩
          rcases h4 with h4 | ⟨h4, _⟩
          · omega
          · cases h4
      · show _ ≤ 3 * gb n K (s.at' + 1); omega
      · have hlt : s.at' + 1 < n := hlt
        omega
  · exact h
theorem stps_eb {n m K : Nat} {A : Nat → Nat → Rat} (hn : 0 < n) (hK : 1 ≤ K) [hA : ∀ i j, Bt (A i j) K] : ∀ c, EB n K (stps n m false A c)
  | 0 => by
    have e : gb n K 0 = K + 1 := by unfold gb; rw [Nat.zero_min, Nat.pow_zero, Nat.one_mul]
    have h1 : Bt (1 : Rat) 1 := inferInstance
    refine ⟨fun i j => ?_, ?_, fun _ => ?_⟩
    · show Bt (A i j) (gb n K 0 - 1); rw [e]; exact hA i j
    · show Bt (1 : Rat) (3 * gb n K 0); rw [e]; exact h1.mono (by omega)
    · show Bt (1 : Rat) (2 * gb n K 0); rw [e]; exact h1.mono (by omega)
  | c + 1 => stp_eb hn (stps_eb hn hK c)
theorem gb_le (n K a : Nat) : gb n K a ≤ 4 ^ (n - 1) * (K + 1) := Nat.mul_le_mul_right _ (Nat.pow_le_pow_right (by decide) (Nat.min_le_right _ _))
theorem TB.of {n m K X : Nat} {A : Nat → Nat → Rat} (hn : 0 < n) (hK : 1 ≤ K) [hA : ∀ i j, Bt (A i j) K] (hX : (3 * (4 ^ (n - 1) * (K + 1))) / 32 + 1 ≤ X) : TB n m X A := by
  refine ⟨fun c _ => ?_, fun c _ i j => ?_⟩
  · have h := (stps_eb (m := m) hn hK (hA := hA) c).d
    have := gb_le n K (stps n m false A c).at'
    exact (h.mono (show _ ≤ 3 * (4 ^ (n - 1) * (K + 1)) by omega)).wt hX
  · have h := (stps_eb (m := m) hn hK (hA := hA) c).A i j
    have := gb_le n K (stps n m false A c).at'
    exact (h.mono (show _ ≤ 3 * (4 ^ (n - 1) * (K + 1)) by omega)).wt hX
end Go.Proofs.Ytjmpanhacfjcaaa.AM
/- Slices that are gathered from none, in one form. -/
namespace Go.Proofs.Ytjmpanhacfjcaaa.AM
open Go Go.RowKit Go.Proofs.Ytjmpanhacfjcaaa.PN Go.Proofs.Ytjmpanhacfjcaaa.V
set_option linter.unusedVariables false
set_option linter.unusedSimpArgs false
def nilB : Blk → Prop
  | .rats n _ => n = 0
  | .ones T n _ => T ≠ U32 ∧ n = 0
/-- A slot that holds no slice holds an own one of nothing. -/
theorem imp_nil {s : St} (t g : Nat) (b : Blk) (ht : s.env t = some (.v (.slice none 0 0))) (hg : s.used g = false) (hb : nilB b) :
    Imp s ⟨put s.env t (some (.own g 0)), put s.heap g (some (1, fun _ => b)), mark s.used g⟩ := by
  intro W N β w a hs
  have hok : ∀ U, b.ok U := fun U => by
    cases b with
    | rats n f => trivial
    | ones T n f => exact fun i hi => by have := hb.2; omega
  have h2 := hs.newfam hg none (fun o ho => by cases ho) (.slice none 0 0) b (O := fun _ => False) hs.kept (Ext.refl _ _) (fun i h => h.elim) (fun i hi => by cases hi) (fun S' β' _ => ⟨hok _, by
    cases b with
    | rats n f => exact .inl ⟨rfl, hb⟩
    | ones T n f => exact ⟨hb.1, .inl ⟨rfl, hb.2⟩⟩⟩)
  have h2 : Sim W N (setv β g (.slice none 0 0)) w a ⟨s.env, put s.heap g (some (1, fun _ => b)), mark s.used g⟩ := h2
  refine ⟨_, h2.kept, h2.nodef, h2.size, fun t' z hz => ?_, h2.heap, h2.live, h2.inj, h2.fix, h2.pin, h2.fixd, h2.keep⟩
  have hz : put s.env t (some (.own g 0)) t' = some z := hz
  by_cases e : t' = t
  · subst e
    rw [put_same] at hz; cases hz
    have hv : a.tmps.getD t' undef = .slice none 0 0 := (hs.env t' _ ht).2
    refine ⟨mark_same _ _, ?_, none, 0, 0, hv⟩
    rw [hv]; unfold setv; rw [if_pos rfl]
  · rw [put_ne _ _ e] at hz; exact h2.env t' z hz
theorem s1_t {t a r : Nat} : s1 t a t r = (a, r) := by unfold s1; rw [if_pos rfl]
theorem s1_ne {t a g r : Nat} (h : g ≠ t) : s1 t a g r = (g, r) := by unfold s1; rw [if_neg h]
def notIn (t a : Nat) : List Nat → Bool
  | [] => true
  | x :: l => !(Nat.beq x t) && (!(Nat.beq x a) && notIn t a l)
theorem notIn_ne {t a : Nat} : ∀ {l : List Nat}, notIn t a l = true → ∀ x, memN x l = true → x ≠ t ∧ x ≠ a
  | [], _, x, h => by cases h
  | y :: l, hf, x, h => by
    unfold notIn at hf
    simp only [Bool.and_eq_true, Bool.not_eq_true'] at hf
    obtain ⟨h1, h2, h5⟩ := hf
    unfold memN at h
    have ne : ∀ {p q : Nat}, Nat.beq p q = false → p ≠ q := fun h e => by rw [e, Nat.beq_refl] at h; cases h
    cases e : Nat.beq x y with
    | true =>
      have := Nat.eq_of_beq_eq_true e
      subst this
      exact ⟨ne h1, ne h2⟩
    | false => rw [e] at h; exact notIn_ne h5 x h
theorem s1_injl {t a : Nat} {l : List Nat} (hl : notIn t a l = true) (g1 r1 g2 r2 : Nat) (h1 : memN g1 (t :: l) = true) (h2 : memN g2 (t :: l) = true) (e : s1 t a g1 r1 = s1 t a g2 r2) : g1 = g2 ∧ r1 = r2 := by
  rcases memN_uncons h1 with rfl | h1
  · rcases memN_uncons h2 with rfl | h2
    · rw [s1_t, s1_t] at e; cases e; exact ⟨rfl, rfl⟩
    · obtain ⟨n1, n2⟩ := notIn_ne hl _ h2
      rw [s1_t, s1_ne n1] at e; cases e; exact absurd rfl n2
  · obtain ⟨n1, n2⟩ := notIn_ne hl _ h1
    rcases memN_uncons h2 with rfl | h2
    · rw [s1_t, s1_ne n1] at e; cases e; exact absurd rfl n2
    · obtain ⟨m1, m2⟩ := notIn_ne hl _ h2
      rw [s1_ne n1, s1_ne m1] at e; cases e; exact ⟨rfl, rfl⟩
/-- A slice in slot t, its block b; more memory beside. -/
abbrev accS (t : Nat) (b : Blk) (e : List (Nat × AV)) (l : List (Nat × Fam)) : St := stl ((t, .own t 0) :: e) ((t, (1, fun _ => b)) :: l)
theorem acc_start {s : St} {t : Nat} {b : Blk} {e : List (Nat × AV)} {l : List (Nat × Fam)} (ht : s.env t = some (.v (.slice none 0 0))) (hg : s.used t = false) (hb : nilB b) (h60 : s.used 60 = false) (ht60 : t ≠ 60)
    (he : AllE ⟨put s.env t (some (.own t 0)), put s.heap t (some (1, fun _ => b)), mark s.used t⟩ idR (fun g => memN g (t :: keys l)) e) (hl : AllH ⟨put s.env t (some (.own t 0)), put s.heap t (some (1, fun _ => b)), mark s.used t⟩ idR (fun g => memN g (t :: keys l)) l) : Imp s (accS t b e l) := by
  refine (imp_nil t t b ht hg hb).trans (imp_id (h := (t, (1, fun _ => b)) :: l) ⟨⟨_, put_same _ _ _, Le.id rfl, memN_head _ _⟩, he⟩ ⟨fun r hr => ?_, hl⟩ ?_)
  · obtain rfl : r = 0 := by omega
    refine ⟨1, _, put_same _ _ _, Nat.zero_lt_one, ?_, ?_⟩
    · cases b with
      | rats n f => exact blen rfl fun _ _ => rfl
      | ones T n f => exact bleo rfl fun _ _ => Le.id rfl
    · cases b with
      | rats n f => exact True.intro
      | ones T n f => exact fun i hi => by have := hb.2; omega
  · show (!(mark s.used t 60) || _) = true
    rw [mark_ne _ (Ne.symm ht60), h60]; rfl
theorem acc_next {s : St} {t a : Nat} {b b' : Blk} {F : Nat → Blk} {e : List (Nat × AV)} {l : List (Nat × Fam)} (ht : s.env t = some (.own a 0)) (ha : s.heap a = some (1, F)) (hF : F 0 = b') (hb : BLe (s1 t a) b' b) (hok : b.ok (fun _ => false)) (h60 : s.used 60 = false) (hn : notIn t a (keys l) = true)
    (he : AllE s (s1 t a) (fun g => memN g (t :: keys l)) e) (hl : AllH s (s1 t a) (fun g => memN g (t :: keys l)) l) : Imp s (accS t b e l) := by
  refine imp_stl (h := (t, (1, fun _ => b)) :: l) (s1 t a) (fun h => by rw [h60] at h; cases h) (s1_injl hn) ⟨⟨_, ht, Le.own s1_t, memN_head _ _⟩, he⟩ ⟨fun r hr => ?_, hl⟩ (by rw [h60]; rfl)
  obtain rfl : r = 0 := by omega
  rw [s1_t]
  exact ⟨1, F, ha, Nat.zero_lt_one, by rw [hF]; exact hb, Blk.ok_mono (fun g h => by cases h) hok⟩
theorem glue_one {σ : Ren} {k : Nat} {v f : Nat → RA} (h : f 0 = v k) : BLe σ (.rats (k + 1) (glue k v f)) (.rats (k + 1) v) := by
  refine blen rfl fun i hi => ?_
  unfold glue
  by_cases e : i < k
  · rw [if_pos e]
  · obtain rfl : i = k := by omega
    rw [if_neg e, Nat.sub_self, h]
theorem glue_row {σ : Ren} {k : Nat} {v f : Nat → AV} (hv : ∀ i, i < k → Le σ (v i) (v i)) (h : Le σ (f 0) (v k)) : BLe σ (.ones WT (k + 1) (glue k v f)) (.ones WT (k + 1) v) := by
  refine bleo rfl fun i hi => ?_
  unfold glue
  by_cases e : i < k
  · rw [if_pos e]; exact hv i e
  · obtain rfl : i = k := by omega
    rw [if_neg e, Nat.sub_self]; exact h
/-- The same where the new row lies in an own slice that is written no more. -/
theorem acc_pub {s : St} {t a c k m m' : Nat} {f v : Nat → AV} {q w : Nat → RA} {F F' : Nat → Blk} {e : List (Nat × AV)} {l : List (Nat × Fam)} (ht : s.env t = some (.own a 0)) (ha : s.heap a = some (1, F)) (hF : F 0 = .ones WT (k + 1) f) (hf : ∀ i, i < k → f i = v i) (hk : f k = .own c 0)
    (hc : s.heap c = some (1, F')) (hF' : F' 0 = .rats m q) (hq : ∀ j, j < m → q j = w j) (hv : v k = .row true m' w) (hm : m = m') (hok : ∀ i, (v i).ok (fun _ => false)) (hac : c ≠ a) (h60 : s.used 60 = false) (hn : notIn t a (keys l) = true)
    (he : AllE s (s1 t a) (fun g => memN g (t :: keys l)) e) (hl : AllH ⟨s.env, put (put s.heap c none) a (some (1, fun _ => .ones WT (k + 1) (updN f k (.row true m q)))), s.used⟩ (s1 t a) (fun g => memN g (t :: keys l)) l) : Imp s (accS t (.ones WT (k + 1) v) e l) := by
  refine (imp_pub a k ha hF (Nat.lt_succ_self k) hk hc hF' hac).trans (acc_next ht (put_same _ _ _) rfl ?_ (fun i _ => hok i) h60 hn (AllE.env (s := s) (s' := ⟨s.env, put (put s.heap c none) a (some (1, fun _ => .ones WT (k + 1) (updN f k (.row true m q)))), s.used⟩) rfl he) hl)
  refine bleo rfl fun i hi => ?_
  by_cases c : i = k
  · subst c
    rw [updN_same, hv]
    exact Le.row hm hq fun h => h
  · rw [updN_ne _ _ c, hf i (by omega)]
    exact Le.same (hok i)
theorem imp_matn {s : St} (t : Nat) {g n n' : Nat} {F : Nat → Blk} {f : Nat → AV} (m : Nat → Nat) (G : Nat → Nat → RA) (hx : s.env t = some (.own g 0)) (hg : s.heap g = some (1, F)) (hF : F 0 = .ones WT n f) (hf : ∀ i, i < n → f i = .row true (m i) (G i)) (hn : n = n') : Imp s ⟨put s.env t (some (.mat true n' m G)), put s.heap g none, s.used⟩ := by
  subst hn; exact imp_mat t m G hx hg hF hf
/-- Rows that others have, too. -/
theorem imp_matf {s : St} (t : Nat) {g n : Nat} {F : Nat → Blk} {f : Nat → AV} (m : Nat → Nat) (G : Nat → Nat → RA) (hx : s.env t = some (.own g 0)) (hg : s.heap g = some (1, F)) (hF : F 0 = .ones WT n f) (hf : ∀ i, i < n → ∃ fr, f i = .row fr (m i) (G i)) : Imp s ⟨put s.env t (some (.mat false n m G)), put s.heap g none, s.used⟩ :=
  imp_turn1 hx hg trivial fun W N β w a hs v hv hok hb S' h1 h2 => by
    rw [hF] at hb
    obtain ⟨e0, A, n', c, e⟩ := hv
    rcases hb.2 with ⟨e', rfl⟩ | ⟨k, cs, hB, hr, hat, hx⟩
    · exact ⟨none, 0, e0.trans e', Nat.le_refl _, Nat.zero_le _, fun i hi => absurd hi (Nat.not_lt_zero _)⟩
    · have hub := ub_at hat
      rcases hat with ⟨e', _⟩ | ⟨cap, e', h3, h4, _⟩
      · rw [← e0, e] at e'; cases e'
      · refine ⟨_, cap, e0.trans e', h3, h4, fun i hi => ?_⟩
        obtain ⟨y, a0, a1, a2⟩ := hx i hi
        obtain ⟨fr, hfi⟩ := hf i hi
        rw [hfi] at a2
        refine ⟨k, 0, cs, y, rfl, h2 k hub, (fun e => by cases e), hr, by rw [Nat.zero_add]; exact a0, ?_⟩
        obtain ⟨A2, c2, b1, b2, b3, b4⟩ := a2
        exact ⟨A2, c2, b1, b2, b3, fun j hj => by obtain ⟨bb, off, d1, d2, d3, d4⟩ := b4 j hj; exact ⟨bb, off, d1, h1 _ d2, (fun e => by cases e), d4⟩⟩
end Go.Proofs.Ytjmpanhacfjcaaa.AM

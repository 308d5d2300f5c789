/- Joined texts, 25: PCram LawO RowsB LawK LawP GenF GenG LvR TuD. -/
import Derived.Test.YtdnmoggifjlbiaaGreatJLawTurnedWays24
import Derived.Test.YtdnmoggifjlbiaaGreatJLawTurnedWays21
import Derived.Test.YtdnmoggifjlbiaaGreatJLawTurnedWays14
import Derived.Test.YtdnmoggifjlbiaaGreatJLawTurnedWays23
import Derived.Test.YtdnmoggifjlbiaaGreatJLawTurnedWays20
import Derived.Test.YtdnmoggifjlbiaaGreatJLawTurnedWays15
set_option linter.unusedVariables false
set_option linter.unusedSimpArgs false
/- Answers of small systems: how long they are. -/
namespace Go.Proofs.YtdnmoggifjlbiaaGreat.AM
open Go.Proofs.YtdnmoggifjlbiaaGreat.PN
open Go.Proofs.YtdnmoggifjlbiaaGreat.LA (Mt S S_succ S_zero S_congr app det cupd cupd_at cupd_ne cramer)
set_option linter.unusedVariables false
set_option linter.unusedSimpArgs false
set_option maxRecDepth 8000
set_option maxHeartbeats 8000000
theorem Fq.sg (i : Nat) : Fq 1 1 (LA.sg i) := by
  unfold LA.sg
  split
  · exact ⟨1, by decide +kernel, by decide⟩
  · exact ⟨-1, by decide +kernel, by decide⟩
def fac : Nat → Nat
  | 0 => 1
  | n + 1 => (n + 1) * fac n
theorem det_fq {D M : Nat} : ∀ {n : Nat} {F : Mt}, (∀ i j, i < n → j < n → Fq D M (F i j)) → Fq (D ^ n) (fac n * M ^ n) (det n F)
  | 0, F, _ => ⟨1, by show (1 : Rat) = _; rw [Nat.pow_zero]; decide +kernel, by rw [Nat.pow_zero]; decide⟩
  | n + 1, F, h => by
    have hs : ∀ i, i < n + 1 → Fq (D ^ (n + 1)) (fac n * M ^ (n + 1)) (LA.sg i * F i 0 * det n (LA.del i F)) := fun i hi => by
      have h1 := det_fq (n := n) (F := LA.del i F) fun r c hr hc => by
        show Fq D M (F (LA.skip i r) (c + 1))
        refine h _ _ ?_ (by omega)
        unfold LA.skip; split <;> omega
      have h2 := ((Fq.sg i).mul (h i 0 hi (by omega))).mul h1
      have e1 : 1 * D * D ^ n = D ^ (n + 1) := by rw [Nat.one_mul, Nat.pow_succ, Nat.mul_comm]
      have e2 : 1 * M * (fac n * M ^ n) = fac n * M ^ (n + 1) := by rw [Nat.one_mul, Nat.pow_succ, Nat.mul_left_comm, Nat.mul_comm M]
      rw [e1, e2] at h2
      exact h2
    have := Fq.sum hs
    rw [← Nat.mul_assoc] at this
    exact this
theorem quo_bt {E M k : Nat} {p q : Rat} (hp : Fq E M p) (hq : Fq E M q) (h0 : q ≠ 0) (hM : M < 2 ^ k) : Bt (p / q) k := by
  obtain ⟨y, rfl, hy⟩ := hp
  obtain ⟨z, rfl, hz⟩ := hq
  have hz0 : z ≠ 0 := fun e => h0 (by rw [e, Rat.div_def]; simp)
  have hE : ((E : Int) : Rat) ≠ 0 := fun e => h0 (by rw [e, Rat.div_def, Rat.inv_zero, Rat.mul_zero])
  have hzr : ((z : Int) : Rat) ≠ 0 := fun e => hz0 (by exact_mod_cast e)
  have e : ((y : Int) : Rat) / ((E : Int) : Rat) / (((z : Int) : Rat) / ((E : Int) : Rat)) = ((y : Int) : Rat) / ((z : Int) : Rat) := by
    rw [Rat.div_def, Rat.div_def, Rat.div_def, Rat.div_def, Rat.inv_mul_rev, Rat.inv_inv]
    rw [Rat.mul_assoc, ← Rat.mul_assoc (_)⁻¹ ((E : Int) : Rat), Rat.inv_mul_cancel _ hE, Rat.one_mul]
  rw [e]
  have e2 : ((y : Int) : Rat) / ((z : Int) : Rat) = ((y * z.sign : Int) : Rat) / (((z.natAbs : Nat) : Int) : Rat) := by
    have hs : z.sign * z = (z.natAbs : Int) := by rw [Int.mul_comm]; exact Int.mul_sign_self z
    have h1 : (((z.natAbs : Nat) : Int) : Rat) = ((z.sign : Int) : Rat) * ((z : Int) : Rat) := by rw [← Rat.intCast_mul, hs]
    have hsz : z.sign * z.sign = 1 := by
      rcases Int.lt_trichotomy z 0 with h | h | h
      · rw [Int.sign_eq_neg_one_of_neg h]; rfl
      · exact absurd h hz0
      · rw [Int.sign_eq_one_of_pos h]; rfl
    have hss : ((z.sign : Int) : Rat) * ((z.sign : Int) : Rat) = 1 := by rw [← Rat.intCast_mul, hsz]; rfl
    have hsi : ((z.sign : Int) : Rat)⁻¹ = ((z.sign : Int) : Rat) := by
      have hne : ((z.sign : Int) : Rat) ≠ 0 := fun e => by rw [e, Rat.mul_zero] at hss; exact absurd hss (by decide)
      calc ((z.sign : Int) : Rat)⁻¹ = ((z.sign : Int) : Rat)⁻¹ * (((z.sign : Int) : Rat) * ((z.sign : Int) : Rat)) := by rw [hss, Rat.mul_one]
        _ = ((z.sign : Int) : Rat) := by rw [← Rat.mul_assoc, Rat.inv_mul_cancel _ hne, Rat.one_mul]
    rw [h1, Rat.intCast_mul, Rat.div_def, Rat.div_def, Rat.inv_mul_rev, hsi]
    rw [Rat.mul_assoc ((y : Int) : Rat), ← Rat.mul_assoc ((z.sign : Int) : Rat), Rat.mul_comm ((z.sign : Int) : Rat) (_)⁻¹, Rat.mul_assoc (_)⁻¹, hss, Rat.mul_one]
  have h3 : z.natAbs ≠ 0 := by omega
  exact Fq.bt (D := z.natAbs) (M := M) ⟨y * z.sign, e2, by
    rw [Int.natAbs_mul]
    have : z.sign.natAbs ≤ 1 := by
      rcases Int.lt_trichotomy z 0 with h | h | h
      · rw [Int.sign_eq_neg_one_of_neg h]; decide
      · rw [h]; decide
      · rw [Int.sign_eq_one_of_pos h]; decide
    exact Nat.le_trans (Nat.mul_le_mul_left _ this) (by rw [Nat.mul_one]; exact hy)⟩ h3 hM (Nat.lt_of_le_of_lt hz hM)
theorem fac6 : ∀ n : _root_.Fin 7, fac n.val * 1200 ^ n.val < 2 ^ 72 := by decide
/-- An answer of a small system. -/
theorem ans_bt {n : Nat} {F : Nat → Nat → Rat} {b x : Nat → Rat} (hF : ∀ i j, i < n → j < n → Fq 60 1200 (F i j)) (hb : ∀ i, i < n → Fq 60 1200 (b i)) (hn : n ≤ 6) (hd : det n F ≠ 0) (hx : ∀ i, i < n → app n F x i = b i) {c : Nat} (hc : c < n) : Bt (x c) 72 := by
  have h1 := cramer n F x hc
  have h2 := det_fq (n := n) (F := cupd F c (app n F x)) fun i j hi hj => by
    by_cases e : j = c
    · subst e; rw [cupd_at, hx i hi]; exact hb i hi
    · rw [cupd_ne _ _ _ e]; exact hF i j hi hj
  have h3 := det_fq (n := n) (F := F) hF
  have e : x c = det n (cupd F c (app n F x)) / det n F := by
    rw [h1, Rat.div_def, Rat.mul_comm (det n F), Rat.mul_assoc, Rat.mul_inv_cancel _ hd, Rat.mul_one]
  rw [e]
  exact quo_bt h2 h3 hd (fac6 ⟨n, by omega⟩)
theorem ans_wt {n : Nat} {F : Nat → Nat → Rat} {b x : Nat → Rat} (hF : ∀ i j, i < n → j < n → Fq 60 1200 (F i j)) (hb : ∀ i, i < n → Fq 60 1200 (b i)) (hn : n ≤ 6) (hd : det n F ≠ 0) (hx : ∀ i, i < n → app n F x i = b i) {c : Nat} (hc : c < n) : Wt (x c) 3 :=
  (ans_bt hF hb hn hd hx hc).wt (by decide)
end Go.Proofs.YtdnmoggifjlbiaaGreat.AM
/- The document's way to solve: walked. -/
namespace Go.Proofs.YtdnmoggifjlbiaaGreat.AM
open Go Go.RowKit Go.Proofs.YtdnmoggifjlbiaaGreat.PN Go.Proofs.YtdnmoggifjlbiaaGreat.V
open Go.Proofs.YtdnmoggifjlbiaaGreat.LA (S S_succ S_zero S_congr)
set_option linter.unusedVariables false
set_option linter.unusedSimpArgs false
set_option maxRecDepth 8000
set_option maxHeartbeats 8000000
/-- The answer, as far as it is known: the last k parts. -/
def xs (n : Nat) (P : Nat → Nat → Rat) (k i : Nat) : RA := if n - k ≤ i then .q (bsx n P k i) else ra0
theorem xs_at {n k i : Nat} {P : Nat → Nat → Rat} (h : n - k ≤ i) : xs n P k i = .q (bsx n P k i) := if_pos h
theorem xs_step {n k i : Nat} {P : Nat → Nat → Rat} (hk : k < n) (hi : i < n) : updN (xs n P k) (n - 1 - k) (.q (bsx n P (k + 1) (n - 1 - k))) i = xs n P (k + 1) i := by
  by_cases e : i = n - 1 - k
  · subst e; rw [updN_same, xs_at (by omega)]
  · rw [updN_ne _ _ e]
    unfold xs
    by_cases h : n - k ≤ i
    · rw [if_pos h, if_pos (by omega), bsx_later (k := k) (k' := k + 1) (by omega) (by omega) h hi]
    · rw [if_neg h, if_neg (by omega)]
theorem sbd_mono (X Y : Nat → Nat) (i : Nat) : ∀ {u k : Nat}, u ≤ k → sbd X Y i u ≤ sbd X Y i k := by
  intro u k h
  induction h with
  | refl => exact Nat.le_refl _
  | step h ih =>
    rename_i m
    show _ ≤ sbd X Y i m + (X i + Y (i + 1 + m)) + 1
    omega
structure BB (n : Nat) (F : Nat → Nat → Rat) (b : Nat → Rat) (X : Nat → Nat) : Prop where
  tb : TB n (n + 1) 2400 (augb n F b)
  P : ∀ i, i < n → ∀ j, Wt (PR (gt n F b) i j) (X i)
  ok : ybOK n X = true
theorem r7_solve {n : Nat} {F : Nat → Nat → Rat} {b : Nat → Rat} {X : Nat → Nat} (hB : BB n F b X) (h0 : 0 < n) (hn : n ≤ 8) : Has Tryz.prog 78 [.mat false n (fun _ => n) (fun i j => .q (F i j)), .row false n (fun i => .q (b i))] (if gdet n F = 0 then .tup (.row true 0 fun _ => .q 0) (.i 9) else .tup (.row true n fun i => .q (bsx n (PR (gt n F b)) n i)) (.i 0)) := by
  have hcl : (if gdet n F = 0 then AV.tup (.row true 0 fun _ => .q 0) (.i 9) else .tup (.row true n fun i => .q (bsx n (PR (gt n F b)) n i)) (.i 0)).closed = true := by split <;> rfl
  refine has_of Tryz.func78 (by kernel_rfl) rfl Tryz.ntmps78 Tryz.results78 rfl hcl rfl ?_
  have hrow : ∀ {σ : Ren} {k : Nat} {z : Nat → RA}, BLe σ (.rats (0 + n + 1) (glue (0 + n) (glue 0 z (fun j => .q (F k j))) (fun i => [RA.q (b k)].getD i ra0))) (.rats (n + 1) fun j => .q (augb n F b k j)) := fun {σ k z} => blen (by omega) fun j hj => by
    unfold glue augb aug
    rw [Nat.zero_add]
    by_cases e : j < n
    · rw [if_pos e, if_pos e, if_neg (Nat.not_lt_zero _), Nat.sub_zero]
    · obtain rfl : j = n := by omega
      rw [if_neg e, if_neg e, Nat.sub_self]; rfl
  refine run0 ?_
  refine awp_loop (fun m' s => ∃ k, k ≤ n ∧ m' = n - k ∧ s = famT 7 3 [(0, .mat false n (fun _ => n) (fun i j => .q (F i j))), (1, .row false n (fun i => .q (b i))), (6, .i n), (8, .i (k : Int))] [] (n + 1) (augb n F b) k) n _ (imp_id (h := []) (e := [(7, .v (.slice none 0 0)), (0, .mat false n (fun _ => n) (fun i j => .q (F i j))), (1, .row false n (fun i => .q (b i))), (6, .i n), (8, .i ((0 : Nat) : Int))]) ?_ ?_) ⟨0, Nat.zero_le _, rfl, rfl⟩ ?_
  · exact eA
  · exact hA
  · rintro m' s ⟨k, hk, rfl, rfl⟩
    rcases k with _ | k
    · refine run0 ?_
      refine awp_if rfl (fun h => ?_) (fun h => absurd (show ((0 : Nat) : Int) < n by omega) h)
      refine run0 ?_
      refine q_loop (m' := n - (0 + 1)) (by omega) (famT_close (k := 0) (a := 37) (b := 35) (F2 := fun _ => .rats 0 fun _ => ra0) rfl rfl rfl (fun i hi => absurd hi (Nat.not_lt_zero _)) rfl (fun h => absurd h (Nat.lt_irrefl _)) (fun r hr => absurd hr (Nat.not_lt_zero _)) rfl (by exact hrow) rfl (by decide) rfl ?_ (by exact True.intro)) ⟨0 + 1, by omega, rfl, rfl⟩
      refine alle rfl (Le.eq rfl rfl) True.intro (alle rfl (Le.eq rfl rfl) True.intro (alle rfl (Le.eq rfl rfl) True.intro (alle rfl (Le.eq rfl rfl) True.intro True.intro)))
    · refine run0 ?_
      refine awp_if rfl (fun h => ?_) (fun h => ?_)
      · have h : k + 1 < n := by omega
        refine run0 ?_
        refine q_loop (m' := n - (k + 1 + 1)) (by omega) (famT_close (k := k + 1) (a := 37) (b := 35) rfl rfl rfl (fun i hi => if_pos hi) (by show (if _ then _ else _) = _; rw [if_neg (Nat.lt_irrefl _), Nat.sub_self]; rfl) (fun _ => rfl) (fun r hr => blen rfl fun j hj => rfl) rfl (by exact hrow) rfl (by decide) rfl ?_ (by exact True.intro)) ⟨k + 1 + 1, by omega, rfl, rfl⟩
        refine alle rfl (Le.eq rfl rfl) True.intro (alle rfl (Le.eq rfl rfl) True.intro (alle rfl (Le.eq rfl rfl) True.intro (alle rfl (Le.eq rfl rfl) True.intro True.intro)))
      · obtain rfl : k + 1 = n := by omega
        refine awp_imp ((imp_TH (n := k + 1) (t := 7) (g := 3) (m := k + 1 + 1) (π := fun i => i) (A := augb (k + 1) F b) (e := [(6, .i ((k + 1 : Nat) : Int)), (7, .own 7 0)]) (l := []) rfl rfl (fun _ _ => rfl) rfl (fun r hr => blen rfl fun _ _ => rfl) rfl ?_ ?_).trans (imp_mat2 7 (fun _ => k + 1 + 1) (fun i j => .q (augb (k + 1) F b i j)) rfl rfl rfl (fun _ _ => rfl) rfl (fun _ _ => rfl) (by decide))) ?_
        · exact eA
        · exact hA
        generalize hN : k + 1 = N at *
        have c1 := r7_triangle hB.tb (by decide) h0 hn (Nat.le_succ N) (by omega)
        have eg : stps N (N + 1) false (augb N F b) N = gt N F b := rfl
        rw [eg, gt_det] at c1
        have c2 := hs_nought (p := gdet N F)
        repeat(first|refine run1 ?_|((with_reducible apply st_call);exact rfl;exact rfl;exact rfl;first|(exact c1)|(exact c2))|((with_reducible apply st_callg);exact rfl;exact rfl;(first|exact rfl|assumption);exact rfl;exact rfl;exact rfl;first|(exact c1)|(exact c2)))
        by_cases hd : gdet N F = 0
        · rw [if_pos hd]
          refine awp_yes rfl (decide_eq_true hd) ?_
          refine run0 ?_
          refine ⟨.inr rfl, _, imp_slot (y := .row true 0 fun _ => .q 0) 4 rfl True.intro Le.nilrow, ?_⟩
          exact .two (.tmp rfl) (.tmp rfl)
        · rw [if_neg hd]
          refine awp_no rfl (decide_eq_false hd) ?_
          obtain ⟨_, hnz, _⟩ := gt_nz (b := b) hd
          have hP := hB.P
          have hok := hB.ok
          have hPR : (fun i j => RA.q ((gt N F b).A ((gt N F b).π i) j)) = fun i j => RA.q (PR (gt N F b) i j) := rfl
          rw [hPR]
          generalize PR (gt N F b) = P at *
          have hb : ∀ k, k < N → sbd X (ybd N X k) (N - 1 - k) k ≤ 15000 ∧ X (N - 1 - k) ≤ 15000 := fun k hk => by
            have := List.all_eq_true.1 hok k (List.mem_range.2 hk)
            rw [Bool.and_eq_true] at this
            exact ⟨Nat.le_of_ble_eq_true this.1, Nat.le_of_ble_eq_true this.2⟩
          refine run0 ?_
          refine awp_loop (fun m' s => ∃ k, k ≤ N ∧ m' = N - k ∧ s = stl [(6, .i N), (9, .mat true N (fun _ => N + 1) (fun i j => .q (P i j))), (12, .own 48 0), (13, .i ((N : Int) - 1 - k))] [(48, (1, fun _ => .rats N (xs N P k)))]) N _ (imp_id ?_ ?_) ⟨0, Nat.zero_le _, rfl, rfl⟩ ?_
          · refine alle rfl (Le.id rfl) True.intro (alle rfl (Le.id rfl) True.intro (alle rfl (Le.id rfl) rfl (alle rfl (Le.id ?_) True.intro True.intro)))
            exact congrArg AV.i (by omega)
          · refine allh rfl (by decide) (blen rfl fun i hi => ?_) True.intro True.intro
            exact (if_neg (by omega)).symm
          · rintro m' s ⟨k, hk, rfl, rfl⟩
            refine run0 ?_
            refine awp_if rfl (fun h => ?_) (fun h => ?_)
            · have hkN : k < N := by omega
              obtain ⟨I, hI⟩ : ∃ I, N - 1 - k = I := ⟨_, rfl⟩
              have eI : (N : Int) - 1 - k = (I : Int) := by omega
              have hIN : I < N := by omega
              obtain ⟨hb1, hb2⟩ := hb k hkN
              have hy : ∀ u, u < k → Wt (bsx N P k (I + 1 + u)) (ybd N X k (I + 1 + u)) := fun u hu => ybd_wt (X := X) hP k hk _ (by omega) (by omega)
              have hsw : ∀ u, u ≤ k → Wt (P I N - S u fun v => P I (I + 1 + v) * bsx N P k (I + 1 + v)) (sbd X (ybd N X k) I u) := fun u hu => sbd_wt (X := X) (Y := ybd N X k) (hP I hIN N) (hP I hIN) u (fun v hv => hy v (by omega))
              have hsl : ∀ u, u ≤ k → sbd X (ybd N X k) I u ≤ 15000 := fun u hu => Nat.le_trans (sbd_mono X _ I hu) (by rw [← hI]; exact hb1)
              rw [hI] at hb2
              rw [eI]
              refine run0 ?_
              refine awp_loop (fun m' s => ∃ u, u ≤ k ∧ m' = k - u ∧ s = stl [(6, .i N), (9, .mat true N (fun _ => N + 1) (fun i j => .q (P i j))), (12, .own 48 0), (13, .i I), (14, .rptr 14 0 0), (15, .i ((I + 1 + u : Nat) : Int))] [(48, (1, fun _ => .rats N (xs N P k))), (14, (1, fun _ => .rats 1 fun _ => .q (P I N - S u fun v => P I (I + 1 + v) * bsx N P k (I + 1 + v))))]) k _ (imp_id ?_ ?_) ⟨0, Nat.zero_le _, rfl, rfl⟩ ?_
              · exact eA
              · refine allh rfl (by decide) (blen rfl fun _ _ => rfl) True.intro (allh rfl (by decide) (ble1 (congrArg RA.q ?_)) True.intro True.intro)
                rw [S_zero, Rat.sub_eq_add_neg, Rat.neg_zero, Rat.add_zero]; rfl
              · rintro m' s ⟨u, hu, rfl, rfl⟩
                refine run0 ?_
                refine awp_if rfl (fun h1 => ?_) (fun h1 => ?_)
                · have huk : u < k := by omega
                  have d1 := cs_mul (p := P I (I + 1 + u)) (q := bsx N P k (I + 1 + u)) (hp := hP I hIN _) (hq := hy u huk) ⟨hb2, by have := hsl (u + 1) huk; unfold sbd at this; omega⟩
                  have wm : Wt (P I (I + 1 + u) * bsx N P k (I + 1 + u)) (X I + ybd N X k (I + 1 + u)) := Wt.mul (h := hP I hIN _) (k := hy u huk)
                  have d2 := cs_sub (p := P I N - S u fun v => P I (I + 1 + v) * bsx N P k (I + 1 + v)) (q := P I (I + 1 + u) * bsx N P k (I + 1 + u)) (hp := hsw u hu) (hq := wm) ⟨hsl u hu, by have := hsl (u + 1) huk; unfold sbd at this; omega⟩
                  refine run0 ?_
                  rw [show xs N P k (((I + 1 + u : Nat) : Int)).toNat = .q (bsx N P k (I + 1 + u)) from xs_at (show N - k ≤ I + 1 + u by omega)]
                  repeat(first|refine run1 ?_|((with_reducible apply st_call);exact rfl;exact rfl;exact rfl;first|(exact d1)|(exact d2))|((with_reducible apply st_callg);exact rfl;exact rfl;(first|exact rfl|assumption);exact rfl;exact rfl;exact rfl;first|(exact d1)|(exact d2)))
                  refine q_loop (m' := k - (u + 1)) (by omega) (imp_id (e := [(6, .i N), (9, .mat true N (fun _ => N + 1) (fun i j => .q (P i j))), (12, .own 48 0), (13, .i I), (14, .rptr 14 0 0), (15, .i ((I + 1 + (u + 1) : Nat) : Int))]) (h := [(48, (1, fun _ => .rats N (xs N P k))), (14, (1, fun _ => .rats 1 fun _ => .q (P I N - S (u + 1) fun v => P I (I + 1 + v) * bsx N P k (I + 1 + v))))]) ?_ ?_) ⟨u + 1, by omega, rfl, rfl⟩
                  · exact eA
                  · refine allh rfl (by decide) (blen rfl fun _ _ => rfl) True.intro (allh rfl (by decide) (ble1 (congrArg RA.q ?_)) True.intro True.intro)
                    rw [S_succ]; grind
                · obtain rfl : u = k := by omega
                  have hd2 := hnz I hIN
                  have ev : bsx N P (u + 1) (N - 1 - u) = (P I N - S u fun v => P I (I + 1 + v) * bsx N P u (I + 1 + v)) / P I I := by rw [bsx_at, hI]
                  have d3 := cs_over (p := P I N - S u fun v => P I (I + 1 + v) * bsx N P u (I + 1 + v)) (q := P I I) (hp := hsw u hu) (hq := hP I hIN I) ⟨hsl u hu, hb2⟩ hd2
                  repeat(first|refine run1 ?_|((with_reducible apply st_call);exact rfl;exact rfl;exact rfl;first|(exact d3))|((with_reducible apply st_callg);exact rfl;exact rfl;(first|exact rfl|assumption);exact rfl;exact rfl;exact rfl;first|(exact d3)))
                  refine q_loop (m' := N - (u + 1)) (by omega) (imp_id (e := [(6, .i N), (9, .mat true N (fun _ => N + 1) (fun i j => .q (P i j))), (12, .own 48 0), (13, .i ((N : Int) - 1 - (u + 1 : Nat)))]) (h := [(48, (1, fun _ => .rats N (xs N P (u + 1))))]) ?_ ?_) ⟨u + 1, by omega, rfl, rfl⟩
                  · refine alle rfl (Le.id rfl) True.intro (alle rfl (Le.id rfl) True.intro (alle rfl (Le.id rfl) rfl (alle rfl (Le.id ?_) True.intro True.intro)))
                    exact congrArg AV.i (by omega)
                  · refine allh rfl (by decide) (blen rfl fun i hi => ?_) True.intro True.intro
                    have := xs_step (P := P) hkN hi
                    rw [ev, hI] at this
                    exact this
            · obtain rfl : k = N := by omega
              refine run0 ?_
              refine ⟨.inr rfl, _, imp_rowv 4 (fun i => .q (bsx k P k i)) rfl rfl rfl (fun i hi => xs_at (by omega)), ?_⟩
              exact .two (.tmp rfl) (.tmp rfl)
end Go.Proofs.YtdnmoggifjlbiaaGreat.AM
/- Rows that are the same: the rest. -/
namespace Go.Proofs.YtdnmoggifjlbiaaGreat.AM
open Go Go.RowKit Go.Proofs.YtdnmoggifjlbiaaGreat.PN Go.Proofs.YtdnmoggifjlbiaaGreat.V
open Go.Proofs.YtdnmoggifjlbiaaGreat.LA (S S_succ S_zero S_congr)
set_option linter.unusedVariables false
set_option linter.unusedSimpArgs false
set_option maxRecDepth 4000
set_option maxHeartbeats 4000000
theorem k_rowsb {n K : Nat} {f g : Nat → Rat} (hf : ∀ i, i < n → Wt (f i) K) (hK1 : 1 ≤ K) (hK : K ≤ 1000000000000) (hn : n ≤ 1000) (h : ∀ i, i < n → f i = g i) : Has Tryz.prog 19 [.row false n (fun i => .q (f i)), .row false n (fun i => .q (g i))] (.b true) := by
  have w : ∀ i, Wt (if i < n then f i else 0) K := fun i => by
    split
    · rename_i h; exact hf i h
    · exact (inferInstance : Wt 0 1).mono hK1
  refine Has.args (k_rows (f := fun i => if i < n then f i else 0) (g := fun i => if i < n then f i else 0) (hf := w) hK hn (fun _ _ => rfl)) fun S B β w vs hv => rvs_cons (rv_row fun i hi => ?_) (fun us hu => rvs_cons (rv_row fun i hi => ?_) (fun us hu => hu) hu) hv
  · rw [if_pos hi]
  · rw [if_pos hi, h i hi]
end Go.Proofs.YtdnmoggifjlbiaaGreat.AM
/- Laws of dense matrices: DenseOps, walked. -/
namespace Go.Proofs.YtdnmoggifjlbiaaGreat.AM
open Go Go.RowKit Go.Proofs.YtdnmoggifjlbiaaGreat.PN Go.Proofs.YtdnmoggifjlbiaaGreat.V
open Go.Proofs.YtdnmoggifjlbiaaGreat.LA (S S_succ S_zero S_congr)
set_option linter.unusedVariables false
set_option linter.unusedSimpArgs false
set_option maxRecDepth 8000
set_option maxHeartbeats 8000000
instance mbase_bt (n : Nat) (zs : List Int) (i j : Nat) : Bt (mbase n zs i j) 5 := rowq_bt _ _
end Go.Proofs.YtdnmoggifjlbiaaGreat.AM
/- Laws of dense matrices: DenseSolves, walked. -/
namespace Go.Proofs.YtdnmoggifjlbiaaGreat.AM
open Go Go.RowKit Go.Proofs.YtdnmoggifjlbiaaGreat.PN Go.Proofs.YtdnmoggifjlbiaaGreat.V
open Go.Proofs.YtdnmoggifjlbiaaGreat.LA (S S_succ S_zero S_congr app)
set_option linter.unusedVariables false
set_option linter.unusedSimpArgs false
set_option maxRecDepth 8000
set_option maxHeartbeats 8000000
theorem augb_bt {n K : Nat} {F : Nat → Nat → Rat} {b : Nat → Rat} [hf : ∀ i j, Bt (F i j) K] [hb : ∀ i, Bt (b i) K] (i j : Nat) : Bt (augb n F b i j) K := by
  unfold augb aug; split
  · exact hf i j
  · exact hb _
/-- How long rows are: of so many bits. -/
def xbd (K i : Nat) : Nat := 4 ^ i * (K + 1) / 32 + 1
theorem BB.of {n K : Nat} {F : Nat → Nat → Rat} {b : Nat → Rat} (h0 : 0 < n) (hK : 1 ≤ K) (hX : 3 * (4 ^ (n - 1) * (K + 1)) / 32 + 1 ≤ 2400) [hf : ∀ i j, Bt (F i j) K] [hb : ∀ i, Bt (b i) K] (hok : ybOK n (xbd K) = true) : BB n F b (xbd K) := by
  have hA : ∀ i j, Bt (augb n F b i j) K := fun i j => augb_bt (hf := hf) (hb := hb) i j
  refine ⟨TB.of h0 hK (hA := hA) hX, fun i hi j => ?_, hok⟩
  have h := pr_bits (n := n) (m := n + 1) hK (hA := hA) n i hi j
  have h2 : 4 ^ (min i (stps n (n + 1) false (augb n F b) n).at') * (K + 1) - 1 ≤ 4 ^ i * (K + 1) := by
    have := Nat.mul_le_mul_right (K + 1) (Nat.pow_le_pow_right (show 0 < 4 by decide) (Nat.min_le_left i (stps n (n + 1) false (augb n F b) n).at'))
    omega
  exact (h.mono h2).wt (Nat.le_refl _)
end Go.Proofs.YtdnmoggifjlbiaaGreat.AM
/- The document's systems: entries. -/
namespace Go.Proofs.YtdnmoggifjlbiaaGreat.AM
open Go Go.RowKit Go.Proofs.YtdnmoggifjlbiaaGreat.PN Go.Proofs.YtdnmoggifjlbiaaGreat.V
open Go.Proofs.YtdnmoggifjlbiaaGreat.LA (S S_succ S_zero S_congr)
set_option linter.unusedVariables false
set_option linter.unusedSimpArgs false
set_option maxRecDepth 8000
set_option maxHeartbeats 8000000
theorem r5_row {g : GD} {i j : Nat} (sm : g.Sm) (hr : g.r ≤ 3) (hi : i < 8) (hj : j < 8) (hg : i * g.r + g.r ≤ g.lg) (hh : j * g.r + g.r ≤ g.lh) : Has Tryz.prog 64 [g.v, .i i, .i j] (.q (rdot g i j)) := by
  have hI : i * g.r ≤ 8 * 3 := Nat.mul_le_mul (by omega) hr
  have hJ : j * g.r ≤ 8 * 3 := Nat.mul_le_mul (by omega) hr
  have eI : (i : Int) * (g.r : Int) = ((i * g.r : Nat) : Int) := (Int.natCast_mul i g.r).symm
  have eJ : (j : Int) * (g.r : Int) = ((j * g.r : Nat) : Int) := (Int.natCast_mul j g.r).symm
  refine has_of Tryz.func64 (by kernel_rfl) rfl Tryz.ntmps64 Tryz.results64 rfl rfl rfl ?_
  repeat(first|refine run1 ?_|((with_reducible apply st_call);exact rfl;exact rfl;exact rfl;first|(exact hs_zero))|((with_reducible apply st_callg);exact rfl;exact rfl;(first|exact rfl|assumption);exact rfl;exact rfl;exact rfl;first|(exact hs_zero)))
  refine awp_loop (fun m s => ∃ k, k ≤ g.r ∧ m = g.r - k ∧ s = stl [(1, .i i), (2, .i j), (3, .ptr 3 0 0), (6, .rptr 6 0 0), (7, .rptr 7 0 0), (8, .i (k : Int))] [(3, (1, fun _ => .ones 26 7 g.f)), (6, (1, fun _ => .rats 1 (fun _ => ra0))), (7, (1, fun _ => .rats 1 (fun _ => .q (S k fun k => g.G (i * g.r + k) * g.H (j * g.r + k)))))]) g.r _ (imp_id ?_ ?_) ⟨0, Nat.zero_le _, rfl, rfl⟩ ?_
  · exact eA
  · refine allh rfl (by decide) (bleo rfl fun _ _ => Le.id rfl) (fun i _ => g.fok _ i) ?_
    exact hA
  · rintro m s ⟨k, hk, rfl, rfl⟩
    refine run0 ?_
    refine awp_if rfl (fun h => ?_) (fun h => ?_)
    · have h : k < g.r := by omega
      have w1 : wt (S k fun k => g.G (i * g.r + k) * g.H (j * g.r + k)) ≤ k * 9 + 1 := wt_sum (K := 8) fun u hu => by
        have h1 := wt_mul (g.G (i * g.r + u)) (g.H (j * g.r + u)); have h2 := sm.G (i * g.r + u) (by omega); have h3 := sm.H (j * g.r + u) (by omega)
        omega
      have w2 := sm.G (i * g.r + k) (by omega); have w3 := sm.H (j * g.r + k) (by omega)
      have w4 := wt_mul (g.G (i * g.r + k)) (g.H (j * g.r + k))
      have q1 : 0 ≤ (i : Int) * (g.r : Int) := by rw [eI]; omega
      have q2 : (i : Int) * (g.r : Int) ≤ 24 := by rw [eI]; omega
      have q3 : (i : Int) * (g.r : Int) + k < g.lg := by rw [eI]; omega
      have q4 : 0 ≤ (j : Int) * (g.r : Int) := by rw [eJ]; omega
      have q5 : (j : Int) * (g.r : Int) ≤ 24 := by rw [eJ]; omega
      have q6 : (j : Int) * (g.r : Int) + k < g.lh := by rw [eJ]; omega
      have e1 : ((i : Int) * (g.r : Int) + (k : Int)).toNat = i * g.r + k := by rw [eI]; omega
      have e2 : ((j : Int) * (g.r : Int) + (k : Int)).toNat = j * g.r + k := by rw [eJ]; omega
      refine run0 ?_
      rw [e1, e2]
      repeat(first|refine run1 ?_|((with_reducible apply st_call);exact rfl;exact rfl;exact rfl;first|(exact hs_mul (by omega) (by omega))|(exact hs_add (by omega) (by omega)))|((with_reducible apply st_callg);exact rfl;exact rfl;(first|exact rfl|assumption);exact rfl;exact rfl;exact rfl;first|(exact hs_mul (by omega) (by omega))|(exact hs_add (by omega) (by omega))))
      refine q_loop ?_ (imp_id ?_ ?_) ⟨k + 1, ?_, rfl, rfl⟩
      · omega
      · exact eA
      · refine allh rfl (by decide) (bleo rfl fun _ _ => Le.id rfl) (fun i _ => g.fok _ i) ?_
        exact hA
      · omega
    · have ek : k = g.r := by omega
      unfold rdot
      rw [← ek]
      refine run0 ?_
      refine ⟨.inr rfl, _, Imp.refl _, ?_⟩
      exact .one (.rat rfl rfl (by decide) rfl (by decide) rfl)
theorem r5_entry {g : GD} (h : g.OK) {i j : Nat} (hi : i < g.n) (hj : j < g.n) : Has Tryz.prog 24 [g.v, .i i, .i j] (.q (gent g i j)) := by
  have n8 := h.n8; have r3 := h.r3; have k1 := h.k1; have k7 := h.k7; have sm := h.sm
  obtain ⟨m1, m2, m3, m4⟩ := ok_lens h
  have hk : g.k = 1 ∨ g.k = 2 ∨ g.k = 3 ∨ g.k = 4 ∨ g.k = 5 ∨ g.k = 6 ∨ g.k = 7 := by omega
  have hin : i * g.r + g.r ≤ g.n * g.r := by rw [← Nat.succ_mul]; exact Nat.mul_le_mul_right _ hi
  have hjn : j * g.r + g.r ≤ g.n * g.r := by rw [← Nat.succ_mul]; exact Nat.mul_le_mul_right _ hj
  unfold gent
  refine has_of Tryz.func24 (by kernel_rfl) rfl Tryz.ntmps24 Tryz.results24 rfl rfl rfl ?_
  refine run0p ?_
  rcases hk with hk | hk | hk | hk | hk | hk | hk
  · have w := sm.A (i + g.n - 1 - j) (by omega)
    have e1 : ((i : Int) - (j : Int) + (g.n : Int) - 1).toNat = i + g.n - 1 - j := by omega
    have w0 : wt 0 ≤ 1 := by decide
    refine awp_yes rfl (kdec hk rfl) ?_
    refine run0p ?_
    rw [e1]
    repeat(first|refine run1p ?_|((with_reducible apply st_call);exact rfl;exact rfl;exact rfl;first|(exact k_copy (by omega)))|((with_reducible apply st_callg);exact rfl;exact rfl;(first|exact rfl|assumption);exact rfl;exact rfl;exact rfl;first|(exact k_copy (by omega))))
    refine ⟨.inr rfl, _, Imp.refl _, .one (.rat rfl rfl (by decide) rfl (by decide) ?_)⟩
    rw [hk]; rfl
  · have w := sm.A (i + j) (by omega)
    have e1 : ((i : Int) + (j : Int)).toNat = i + j := by omega
    have w0 : wt 0 ≤ 1 := by decide
    refine awp_no rfl (kndec hk (by decide)) ?_
    refine run0p ?_
    refine awp_yes rfl (kdec hk rfl) ?_
    refine run0p ?_
    rw [e1]
    repeat(first|refine run1p ?_|((with_reducible apply st_call);exact rfl;exact rfl;exact rfl;first|(exact k_copy (by omega)))|((with_reducible apply st_callg);exact rfl;exact rfl;(first|exact rfl|assumption);exact rfl;exact rfl;exact rfl;first|(exact k_copy (by omega))))
    refine ⟨.inr rfl, _, Imp.refl _, .one (.rat rfl rfl (by decide) rfl (by decide) ?_)⟩
    rw [hk]; rfl
  · have hlt : (i + g.n - j) % g.n < g.n := Nat.mod_lt _ (by omega)
    have w := sm.A ((i + g.n - j) % g.n) (by omega)
    have w0 : wt 0 ≤ 1 := by decide
    have e0 : Int.tmod ((i : Int) - (j : Int) + (g.n : Int)) (g.n : Int) = (((i + g.n - j) % g.n : Nat) : Int) := by
      rw [Int.tmod_eq_emod_of_nonneg (by omega), show ((i : Int) - (j : Int) + (g.n : Int)) = ((i + g.n - j : Nat) : Int) by omega]
      rfl
    have e1 : (Int.tmod ((i : Int) - (j : Int) + (g.n : Int)) (g.n : Int)).toNat = (i + g.n - j) % g.n := by rw [e0]; rfl
    have q1 : 0 ≤ Int.tmod ((i : Int) - (j : Int) + (g.n : Int)) (g.n : Int) := by rw [e0]; omega
    have q2 : Int.tmod ((i : Int) - (j : Int) + (g.n : Int)) (g.n : Int) < g.la := by rw [e0]; omega
    refine awp_no rfl (kndec hk (by decide)) ?_
    refine run0p ?_
    refine awp_no rfl (kndec hk (by decide)) ?_
    refine run0p ?_
    refine awp_yes rfl (kdec hk rfl) ?_
    refine run0p ?_
    rw [e1]
    repeat(first|refine run1p ?_|((with_reducible apply st_call);exact rfl;exact rfl;exact rfl;first|(exact k_copy (by omega)))|((with_reducible apply st_callg);exact rfl;exact rfl;(first|exact rfl|assumption);exact rfl;exact rfl;exact rfl;first|(exact k_copy (by omega))))
    refine ⟨.inr rfl, _, Imp.refl _, .one (.rat rfl rfl (by decide) rfl (by decide) ?_)⟩
    rw [hk]; rfl
  · have w := sm.A i (by omega)
    refine awp_no rfl (kndec hk (by decide)) ?_
    refine run0p ?_
    refine awp_no rfl (kndec hk (by decide)) ?_
    refine run0p ?_
    refine awp_no rfl (kndec hk (by decide)) ?_
    refine run0p ?_
    refine awp_yes rfl (kdec hk rfl) ?_
    repeat(first|refine run1p ?_|((with_reducible apply st_call);exact rfl;exact rfl;exact rfl;first|(exact hs_int 1 (by decide) (by decide)))|((with_reducible apply st_callg);exact rfl;exact rfl;(first|exact rfl|assumption);exact rfl;exact rfl;exact rfl;first|(exact hs_int 1 (by decide) (by decide))))
    refine awp_loop (fun m s => ∃ k, k ≤ j ∧ m = j - k ∧ s = stl [(1, .i i), (2, .i j), (3, .ptr 3 0 0), (6, .rptr 6 0 0), (7, .rptr 7 0 0), (8, .i (k : Int))] [(3, (1, fun _ => .ones 26 7 g.f)), (6, (1, fun _ => .rats 1 (fun _ => ra0))), (7, (1, fun _ => .rats 1 (fun _ => .q (g.A i ^ k))))]) j _ (imp_id ?_ ?_) ⟨0, Nat.zero_le _, rfl, rfl⟩ ?_
    · exact eA
    · refine allh rfl (by decide) (bleo rfl fun _ _ => Le.id rfl) (fun i _ => g.fok _ i) (allh rfl (by decide) (ble1 rfl) True.intro (allh rfl (by decide) (ble1 (by rw [Rat.pow_zero]; rfl)) True.intro True.intro))
    · rintro m s ⟨k, hk', rfl, rfl⟩
      have w1 := pow_wt w k
      refine run0p ?_
      refine awp_if rfl (fun h' => ?_) (fun h' => ?_)
      · have h' : k < j := by omega
        repeat(first|refine run1p ?_|((with_reducible apply st_call);exact rfl;exact rfl;exact rfl;first|(exact hs_mul (p := g.A i ^ k) (q := g.A i) (by omega) (by omega)))|((with_reducible apply st_callg);exact rfl;exact rfl;(first|exact rfl|assumption);exact rfl;exact rfl;exact rfl;first|(exact hs_mul (p := g.A i ^ k) (q := g.A i) (by omega) (by omega))))
        refine q_loop ?_ (imp_id ?_ ?_) ⟨k + 1, ?_, rfl, rfl⟩
        · omega
        · exact eA
        · refine allh rfl (by decide) (bleo rfl fun _ _ => Le.id rfl) (fun i _ => g.fok _ i) (allh rfl (by decide) (ble1 rfl) True.intro (allh rfl (by decide) (ble1 (by rw [Rat.pow_succ]; rfl)) True.intro True.intro))
        · omega
      · have ek : k = j := by omega
        refine run0p ?_
        refine ⟨.inr rfl, _, Imp.refl _, .one (.rat rfl rfl (by decide) rfl (by decide) ?_)⟩
        rw [hk, ek]; rfl
  · have w0 : wt 1 ≤ 1 := by decide
    refine awp_no rfl (kndec hk (by decide)) ?_
    refine run0p ?_
    refine awp_no rfl (kndec hk (by decide)) ?_
    refine run0p ?_
    refine awp_no rfl (kndec hk (by decide)) ?_
    refine run0p ?_
    refine awp_no rfl (kndec hk (by decide)) ?_
    refine run0p ?_
    refine awp_yes rfl (kdec hk rfl) ?_
    have u1 := sm.A i (by omega); have u2 := sm.B j (by omega)
    have u3 := wt_sub (g.A i) (g.B j)
    have hne : g.A i - g.B j ≠ 0 := fun e => h.ne i (by omega) j (by omega) (by rw [← Rat.sub_add_cancel (a := g.A i) (b := g.B j), e, Rat.zero_add])
    repeat(first|refine run1p ?_|((with_reducible apply st_call);exact rfl;exact rfl;exact rfl;first|(exact hs_int 1 (by decide) (by decide))|(exact k_sub (p := g.A i) (q := g.B j) (by omega) (by omega))|(exact hs_over (p := 1) (q := g.A i - g.B j) (by omega) (by omega) hne))|((with_reducible apply st_callg);exact rfl;exact rfl;(first|exact rfl|assumption);exact rfl;exact rfl;exact rfl;first|(exact hs_int 1 (by decide) (by decide))|(exact k_sub (p := g.A i) (q := g.B j) (by omega) (by omega))|(exact hs_over (p := 1) (q := g.A i - g.B j) (by omega) (by omega) hne)))
    refine ⟨.inr rfl, _, Imp.refl _, .one (.rat rfl rfl (by decide) rfl (by decide) ?_)⟩
    rw [hk]; rfl
  · obtain ⟨hg, hh⟩ := m4 (.inl hk)
    refine awp_no rfl (kndec hk (by decide)) ?_
    refine run0p ?_
    refine awp_no rfl (kndec hk (by decide)) ?_
    refine run0p ?_
    refine awp_no rfl (kndec hk (by decide)) ?_
    refine run0p ?_
    refine awp_no rfl (kndec hk (by decide)) ?_
    refine run0p ?_
    refine awp_no rfl (kndec hk (by decide)) ?_
    refine run0p ?_
    refine awp_yes rfl (kdec hk rfl) ?_
    repeat(first|refine run1p ?_|((with_reducible apply st_call);exact rfl;exact rfl;exact rfl;first|(exact hs_zero))|((with_reducible apply st_callg);exact rfl;exact rfl;(first|exact rfl|assumption);exact rfl;exact rfl;exact rfl;first|(exact hs_zero)))
    have wS : ∀ m, m ≤ 8 → m ≤ min i j + 1 → wt (S m fun m => rdot g (i - m) (j - m)) ≤ 8 * 29 + 1 := fun m hm8 hm => by
      have := wt_sum (n := m) (K := 28) (f := fun m => rdot g (i - m) (j - m)) fun u hu => by
        have h1 : (i - u) * g.r + g.r ≤ g.n * g.r := by rw [← Nat.succ_mul]; exact Nat.mul_le_mul_right _ (by omega)
        have h2 : (j - u) * g.r + g.r ≤ g.n * g.r := by rw [← Nat.succ_mul]; exact Nat.mul_le_mul_right _ (by omega)
        exact rdot_wt sm (by omega) (by omega) r3
      omega
    refine awp_loop (fun m' s => ∃ m, m ≤ min i j + 1 ∧ m' = min i j + 1 - m ∧ s = stl [(1, .i i), (2, .i j), (3, .ptr 3 0 0), (6, .rptr 6 0 0), (9, .rptr 9 0 0), (10, .i (m : Int))] [(3, (1, fun _ => .ones 26 7 g.f)), (6, (1, fun _ => .rats 1 (fun _ => ra0))), (9, (1, fun _ => .rats 1 (fun _ => .q (S m fun m => rdot g (i - m) (j - m)))))]) (min i j + 1) _ (imp_id ?_ ?_) ⟨0, Nat.zero_le _, rfl, rfl⟩ ?_
    · exact eA
    · refine allh rfl (by decide) (bleo rfl fun _ _ => Le.id rfl) (fun i _ => g.fok _ i) ?_
      exact hA
    · rintro m' s ⟨m, hm, rfl, rfl⟩
      have w1 := wS m (by omega) hm
      refine run0p ?_
      refine awp_if rfl (fun h' => ?_) (fun h' => ?_)
      · have h' : m ≤ min i j := by omega
        have h1 : (i - m) * g.r + g.r ≤ g.n * g.r := by rw [← Nat.succ_mul]; exact Nat.mul_le_mul_right _ (by omega)
        have h2 : (j - m) * g.r + g.r ≤ g.n * g.r := by rw [← Nat.succ_mul]; exact Nat.mul_le_mul_right _ (by omega)
        have w2 := rdot_wt (g := g) (i := i - m) (j := j - m) sm (by omega) (by omega) r3
        have ei : (i : Int) - (m : Int) = ((i - m : Nat) : Int) := by omega
        have ej : (j : Int) - (m : Int) = ((j - m : Nat) : Int) := by omega
        refine run0p ?_
        rw [ei, ej]
        repeat(first|refine run1p ?_|((with_reducible apply st_call);exact rfl;exact rfl;exact rfl;first|(exact Has.ag (g7 rfl rfl rfl rfl rfl rfl rfl) (r5_row (i := i - m) (j := j - m) sm r3 (by omega) (by omega) (by omega) (by omega)))|(exact hs_add (by omega) (by omega)))|((with_reducible apply st_callg);exact rfl;exact rfl;(first|exact rfl|assumption);exact rfl;exact rfl;exact rfl;first|(exact Has.ag (g7 rfl rfl rfl rfl rfl rfl rfl) (r5_row (i := i - m) (j := j - m) sm r3 (by omega) (by omega) (by omega) (by omega)))|(exact hs_add (by omega) (by omega))))
        refine q_loop ?_ (imp_id ?_ ?_) ⟨m + 1, ?_, rfl, rfl⟩
        · omega
        · exact eA
        · refine allh rfl (by decide) (bleo rfl fun _ _ => Le.id rfl) (fun i _ => g.fok _ i) ?_
          exact hA
        · omega
      · have em : min i j + 1 = m := by omega
        refine run0p ?_
        refine ⟨.inr rfl, _, Imp.refl _, .one (.rat rfl rfl (by decide) rfl (by decide) ?_)⟩
        rw [hk, ← em]; rfl
  · obtain ⟨hg, hh⟩ := m4 (.inr hk)
    have w0 := rdot_wt (g := g) (i := i) (j := j) sm (by omega) (by omega) r3
    refine awp_no rfl (kndec hk (by decide)) ?_
    refine run0p ?_
    refine awp_no rfl (kndec hk (by decide)) ?_
    refine run0p ?_
    refine awp_no rfl (kndec hk (by decide)) ?_
    refine run0p ?_
    refine awp_no rfl (kndec hk (by decide)) ?_
    refine run0p ?_
    refine awp_no rfl (kndec hk (by decide)) ?_
    refine run0p ?_
    refine awp_no rfl (kndec hk (by decide)) ?_
    have u1 := sm.A i (by omega); have u2 := sm.B j (by omega)
    have u3 := wt_sub (g.A i) (g.B j)
    have hne : g.A i - g.B j ≠ 0 := fun e => h.ne i (by omega) j (by omega) (by rw [← Rat.sub_add_cancel (a := g.A i) (b := g.B j), e, Rat.zero_add])
    repeat(first|refine run1p ?_|((with_reducible apply st_call);exact rfl;exact rfl;exact rfl;first|(exact Has.ag (g7 rfl rfl rfl rfl rfl rfl rfl) (r5_row sm r3 (by omega) (by omega) (by omega) (by omega)))|(exact k_sub (p := g.A i) (q := g.B j) (by omega) (by omega))|(exact hs_over (p := rdot g i j) (q := g.A i - g.B j) (by omega) (by omega) hne))|((with_reducible apply st_callg);exact rfl;exact rfl;(first|exact rfl|assumption);exact rfl;exact rfl;exact rfl;first|(exact Has.ag (g7 rfl rfl rfl rfl rfl rfl rfl) (r5_row sm r3 (by omega) (by omega) (by omega) (by omega)))|(exact k_sub (p := g.A i) (q := g.B j) (by omega) (by omega))|(exact hs_over (p := rdot g i j) (q := g.A i - g.B j) (by omega) (by omega) hne)))
    refine ⟨.inr rfl, _, Imp.refl _, .one (.rat rfl rfl (by decide) rfl (by decide) ?_)⟩
    rw [hk]; rfl
end Go.Proofs.YtdnmoggifjlbiaaGreat.AM
/- The document's systems: the whole matrix. -/
namespace Go.Proofs.YtdnmoggifjlbiaaGreat.AM
open Go Go.RowKit Go.Proofs.YtdnmoggifjlbiaaGreat.PN Go.Proofs.YtdnmoggifjlbiaaGreat.V
open Go.Proofs.YtdnmoggifjlbiaaGreat.LA (S S_succ S_zero S_congr)
set_option linter.unusedVariables false
set_option linter.unusedSimpArgs false
set_option maxRecDepth 8000
set_option maxHeartbeats 8000000
theorem le_fok (g : GD) {σ : Ren} (i : Nat) (hi : i < 7) : Le σ (g.f i) (g.f i) := by
  match i, hi with
  | 0, _ | 1, _ | 2, _ | 3, _ | 4, _ | 5, _ | 6, _ => exact Le.eq rfl rfl
theorem r5_expand {g : GD} (h : g.OK) : Has Tryz.prog 35 [g.v] (.mat true g.n (fun _ => g.n) (fun i j => .q (gent g i j))) := by
  have n8 := h.n8; have n1 := h.n1
  have hG := h
  refine has_of Tryz.func35 (by kernel_rfl) rfl Tryz.ntmps35 Tryz.results35 rfl rfl rfl ?_
  refine run0 ?_
  refine awp_loop (fun m' s => ∃ r, r ≤ g.n ∧ m' = g.n - r ∧ s = accS 3 (.ones WT r fun i => .row true g.n fun j => .q (gent g i j)) [(1, .ptr 1 0 0), (4, .i (r : Int))] [(1, (1, fun _ => .ones 26 7 g.f))]) g.n _ (acc_start rfl rfl (by exact ⟨by decide, rfl⟩) rfl (by decide) ?_ ?_) ⟨0, Nat.zero_le _, rfl, rfl⟩ ?_
  · exact eA
  · exact allh rfl (by decide) (bleo rfl fun _ _ => Le.id rfl) (fun i _ => g.fok _ i) True.intro
  · rintro m' s ⟨r, hr, rfl, rfl⟩
    refine run0 ?_
    refine awp_if rfl (fun h => ?_) (fun h => ?_)
    · have h : r < g.n := by omega
      refine run0 ?_
      refine awp_loop (fun m' s => ∃ c, c ≤ g.n ∧ m' = g.n - c ∧ s = accS 5 (.rats c fun j => .q (gent g r j)) [(1, .ptr 1 0 0), (3, .own 3 0), (4, .i (r : Int)), (6, .i (c : Int))] [(1, (1, fun _ => .ones 26 7 g.f)), (3, (1, fun _ => .ones WT r fun i => .row true g.n fun j => .q (gent g i j)))]) g.n _ (acc_start rfl rfl (by exact rfl) rfl (by decide) ?_ ?_) ⟨0, Nat.zero_le _, rfl, rfl⟩ ?_
      · exact eA
      · exact allh rfl (by decide) (bleo rfl fun _ _ => Le.id rfl) (fun i _ => g.fok _ i) (allh rfl (by decide) (bleo rfl fun _ _ => Le.id rfl) (fun i _ => True.intro) True.intro)
      · rintro m' s ⟨c, hc, rfl, rfl⟩
        refine run0 ?_
        refine awp_if rfl (fun h1 => ?_) (fun h1 => ?_)
        · have h1 : c < g.n := by omega
          repeat(first|refine run1 ?_|((with_reducible apply st_call);exact rfl;exact rfl;exact rfl;first|(exact Has.ag (g7 rfl rfl rfl rfl rfl rfl rfl) (r5_entry hG h h1)))|((with_reducible apply st_callg);exact rfl;exact rfl;(first|exact rfl|assumption);exact rfl;exact rfl;exact rfl;first|(exact Has.ag (g7 rfl rfl rfl rfl rfl rfl rfl) (r5_entry hG h h1))))
          refine q_loop (m' := g.n - (c + 1)) (by omega) (acc_next (a := 25) rfl rfl rfl (glue_one rfl) (by exact True.intro) rfl rfl ?_ ?_) ⟨c + 1, by omega, rfl, rfl⟩
          · refine alle rfl (Le.ptr (s1_ne (by decide))) rfl (alle rfl (Le.own (s1_ne (by decide))) rfl (alle rfl (Le.eq rfl rfl) True.intro (alle rfl (Le.eq rfl rfl) True.intro True.intro)))
          · refine allh rfl Nat.zero_lt_one (bleo rfl fun i hi => le_fok g i hi) (fun i _ => g.fok _ i) (allh rfl Nat.zero_lt_one (bleo rfl fun _ _ => Le.eq rfl rfl) (fun _ _ => True.intro) True.intro)
        · have ec : c = g.n := by omega
          subst ec
          refine run0 ?_
          refine q_loop (m' := g.n - (r + 1)) (by omega) (acc_pub (a := 29) (c := 5) rfl rfl rfl (fun i hi => if_pos hi) (by show (if _ then _ else _) = _; rw [if_neg (Nat.lt_irrefl _), Nat.sub_self]; rfl) rfl rfl (fun _ _ => rfl) rfl rfl (fun _ => by exact True.intro) (by decide) rfl rfl ?_ ?_) ⟨r + 1, by omega, rfl, rfl⟩
          · refine alle rfl (Le.ptr (s1_ne (by decide))) rfl (alle rfl (Le.eq rfl rfl) True.intro True.intro)
          · exact allh rfl Nat.zero_lt_one (bleo rfl fun i hi => le_fok g i hi) (fun i _ => g.fok _ i) True.intro
    · have er : r = g.n := by omega
      subst er
      refine run0 ?_
      refine ⟨.inr rfl, _, imp_mat 2 (fun _ => g.n) (fun i j => .q (gent g i j)) rfl rfl rfl (fun _ _ => rfl), ?_⟩
      exact .one (.tmp rfl)
end Go.Proofs.YtdnmoggifjlbiaaGreat.AM
/- The document's chapter 10: the least leading minor that is nought; systems. -/
namespace Go.Proofs.YtdnmoggifjlbiaaGreat.AM
open Go Go.RowKit Go.Proofs.YtdnmoggifjlbiaaGreat.PN Go.Proofs.YtdnmoggifjlbiaaGreat.V
open Go.Proofs.YtdnmoggifjlbiaaGreat.LA (S S_succ S_zero S_congr app det unique)
set_option linter.unusedVariables false
set_option linter.unusedSimpArgs false
set_option maxRecDepth 8000
set_option maxHeartbeats 8000000
theorem r7_least {n X : Nat} {F : Nat → Nat → Rat} (hB : ∀ k, 0 < k → k ≤ n → TB k k X F) (hX : X ≤ 2400) (hn : n ≤ 8) : Has Tryz.prog 85 [.mat false n (fun _ => n) (fun i j => .q (F i j))] (.i (lstD F n)) := by
  obtain ⟨_, p2, p3, p4⟩ := fnd_le (fun k => gdet (k + 1) F = 0) n 0
  have eL : lstD F n = if fnd (fun k => gdet (k + 1) F = 0) n 0 < n then fnd (fun k => gdet (k + 1) F = 0) n 0 + 1 else 0 := rfl
  rw [eL]
  generalize fnd (fun k => gdet (k + 1) F = 0) n 0 = p at *
  refine has_of Tryz.func85 (by kernel_rfl) rfl Tryz.ntmps85 Tryz.results85 rfl rfl rfl ?_
  refine run0 ?_
  refine awp_loop (fun m' s => ∃ u, u ≤ p ∧ m' = n - u ∧ s = stl [(0, .mat false n (fun _ => n) (fun i j => .q (F i j))), (3, .i ((u + 1 : Nat) : Int))] []) n _ (imp_id ?_ ?_) ⟨0, Nat.zero_le _, rfl, rfl⟩ ?_
  · exact eA
  · exact hA
  rintro m' s ⟨u, hu, rfl, rfl⟩
  refine run0 ?_
  refine awp_if rfl (fun h => ?_) (fun h => ?_)
  · have h : u < n := by omega
    repeat(first|refine run1 ?_|((with_reducible apply st_call);exact rfl;exact rfl;exact rfl;first|(exact r7_cut (k := u + 1) (by omega) (by omega) hn)|(exact r7_det (hB (u + 1) (by omega) (by omega)) hX (by omega) (by omega))|(exact hs_nought))|((with_reducible apply st_callg);exact rfl;exact rfl;(first|exact rfl|assumption);exact rfl;exact rfl;exact rfl;first|(exact r7_cut (k := u + 1) (by omega) (by omega) hn)|(exact r7_det (hB (u + 1) (by omega) (by omega)) hX (by omega) (by omega))|(exact hs_nought)))
    by_cases e : u = p
    · subst e
      have hz : gdet (u + 1) F = 0 := p4 (by omega)
      refine awp_yes rfl (decide_eq_true hz) ?_
      refine run0 ?_
      rw [if_pos h]
      exact ⟨.inr rfl, _, Imp.refl _, .one (.tmp rfl)⟩
    · have hz : gdet (u + 1) F ≠ 0 := p3 u (Nat.zero_le _) (by omega)
      refine awp_no rfl (decide_eq_false hz) ?_
      refine run0 ?_
      refine q_loop ?_ (imp_id ?_ ?_) ⟨u + 1, ?_, rfl, rfl⟩
      · omega
      · exact eA
      · exact hA
      · omega
  · have hp : p = n := by omega
    refine run0 ?_
    rw [if_neg (by omega)]
    exact ⟨.inr rfl, _, Imp.refl _, .one (.tmp rfl)⟩
/-- What is known of a small Toeplitz system, and of a right side. -/
structure TS (g : GD) (b : Nat → Rat) : Prop where
  ok : g.OK
  k : g.k = 1
  n6 : g.n ≤ 6
  F : ∀ i j, Fq 60 1200 (gec g i j)
  Ft : ∀ i j, Bt (gec g i j) 5
  bq : ∀ i, Fq 60 1200 (b i)
  bt : ∀ i, Bt (b i) 5
theorem toe_gent {g : GD} (hk : g.k = 1) : LA.Toe g.n (gent g) := fun i j hi hj => by
  unfold gent; rw [hk]
  show g.A (i + 1 + g.n - 1 - (j + 1)) = g.A (i + g.n - 1 - j)
  congr 1; omega
theorem S_gec {g : GD} {x : Nat → Rat} {i : Nat} (hi : i < g.n) : (S g.n fun j => gec g i j * x j) = S g.n fun j => gent g i j * x j := S_congr fun j hj => by rw [gec_in hi hj]
theorem det_gec {g : GD} {k : Nat} (hk : k ≤ g.n) : det k (gec g) = det k (gent g) := LA.det_congr fun i j hi hj => gec_in (by omega) (by omega)
theorem lst_gec (g : GD) : lstD (gec g) g.n = lstD (gent g) g.n := by
  have e : ∀ k, k < g.n → (gdet (k + 1) (gec g) = 0 ↔ gdet (k + 1) (gent g) = 0) := fun k hk => by rw [gdet_det, gdet_det, det_gec (by omega)]
  obtain ⟨_, p2, p3, p4⟩ := fnd_le (fun k => gdet (k + 1) (gec g) = 0) g.n 0
  obtain ⟨_, q2, q3, q4⟩ := fnd_le (fun k => gdet (k + 1) (gent g) = 0) g.n 0
  have : fnd (fun k => gdet (k + 1) (gec g) = 0) g.n 0 = fnd (fun k => gdet (k + 1) (gent g) = 0) g.n 0 := by
    rcases Nat.lt_trichotomy (fnd (fun k => gdet (k + 1) (gec g) = 0) g.n 0) (fnd (fun k => gdet (k + 1) (gent g) = 0) g.n 0) with h | h | h
    · exact absurd ((e _ (by omega)).1 (p4 (by omega))) (q3 _ (Nat.zero_le _) h)
    · exact h
    · exact absurd ((e _ (by omega)).2 (q4 (by omega))) (p3 _ (Nat.zero_le _) h)
  unfold lstD
  rw [this]
theorem yb5 : ∀ n : _root_.Fin 7, ybOK n.val (xbd 5) = true := by decide +kernel
theorem r10_solve {g : GD} {b : Nat → Rat} (t : TS g b) : Has Tryz.prog 48 [g.v, .row false g.n fun i => .q (b i)]
    (if lstD (gent g) g.n = 0 then .tup3 (.row true g.n fun i => .q (bsx g.n (PR (gt g.n (gec g) b)) g.n i)) (.i 0) (.i 0) else .tup3 (.v (.slice none 0 0)) (.i (lstD (gent g) g.n)) (.i 8)) := by
  have o := t.ok; have n8 := o.n8; have n1 := o.n1; have n6 := t.n6
  have hFt := t.Ft; have hbt := t.bt
  have h4 : ∀ k, k ≤ g.n → 4 ^ (k - 1) ≤ 4 ^ 5 := fun k hk => Nat.pow_le_pow_right (by decide) (by omega)
  have e4 : 4 ^ 5 = 1024 := rfl
  have hB : ∀ k, 0 < k → k ≤ g.n → TB k k 2400 (gec g) := fun k hk0 hk => TB.of hk0 (by decide) (hA := hFt) (by have := h4 k hk; omega)
  have hBB : BB g.n (gec g) b (xbd 5) := BB.of n1 (by decide) (by have := h4 g.n (Nat.le_refl _); omega) (hf := hFt) (hb := hbt) (yb5 ⟨g.n, by omega⟩)
  have cl := r7_least hB (by decide) n8
  rw [lst_gec] at cl
  have cs := r7_solve hBB n1 n8
  have e0 : decide ((g.k : Int) ≠ 1) = false := decide_eq_false (by rw [t.k]; decide)
  by_cases hl : lstD (gent g) g.n = 0
  · rw [if_pos hl]
    rw [hl] at cl
    have hd : gdet g.n (gec g) ≠ 0 := by
      rcases lst_cases (toe_gent t.k) with ⟨_, _, h⟩ | ⟨K, _, h, _⟩
      · rw [gdet_det, det_gec (Nat.le_refl _)]; exact h
      · omega
    rw [if_neg hd] at cs
    refine has_of Tryz.func48 (by kernel_rfl) rfl Tryz.ntmps48 Tryz.results48 rfl rfl rfl ?_
    refine run0 ?_
    refine awp_no rfl e0 ?_
    refine run0 ?_
    refine awp_no rfl (decide_eq_false fun e => e rfl) ?_
    repeat(first|refine run1 ?_|((with_reducible apply st_call);exact rfl;exact rfl;exact rfl;first|(exact Has.ag (g7 rfl rfl rfl rfl rfl rfl rfl) (r5_expand o))|(exact Has.gec cl))|((with_reducible apply st_callg);exact rfl;exact rfl;(first|exact rfl|assumption);exact rfl;exact rfl;exact rfl;first|(exact Has.ag (g7 rfl rfl rfl rfl rfl rfl rfl) (r5_expand o))|(exact Has.gec cl)))
    refine awp_no rfl rfl ?_
    repeat(first|refine run1 ?_|((with_reducible apply st_call);exact rfl;exact rfl;exact rfl;first|(exact Has.gec cs))|((with_reducible apply st_callg);exact rfl;exact rfl;(first|exact rfl|assumption);exact rfl;exact rfl;exact rfl;first|(exact Has.gec cs)))
    exact ⟨.inr rfl, _, Imp.refl _, .three (.tmp rfl) (.tmp rfl) (.tmp rfl)⟩
  · rw [if_neg hl]
    refine has_of Tryz.func48 (by kernel_rfl) rfl Tryz.ntmps48 Tryz.results48 rfl rfl rfl ?_
    refine run0 ?_
    refine awp_no rfl e0 ?_
    refine run0 ?_
    refine awp_no rfl (decide_eq_false fun e => e rfl) ?_
    repeat(first|refine run1 ?_|((with_reducible apply st_call);exact rfl;exact rfl;exact rfl;first|(exact Has.ag (g7 rfl rfl rfl rfl rfl rfl rfl) (r5_expand o))|(exact Has.gec cl))|((with_reducible apply st_callg);exact rfl;exact rfl;(first|exact rfl|assumption);exact rfl;exact rfl;exact rfl;first|(exact Has.ag (g7 rfl rfl rfl rfl rfl rfl rfl) (r5_expand o))|(exact Has.gec cl)))
    refine awp_yes rfl (decide_eq_true (show ((0 : Nat) : Int) < (lstD (gent g) g.n : Nat) by omega)) ?_
    refine run0 ?_
    exact ⟨.inr rfl, _, Imp.refl _, .three (.tmp rfl) (.tmp rfl) (.tmp rfl)⟩
end Go.Proofs.YtdnmoggifjlbiaaGreat.AM
/- The document's chapter 12; what law 12 knows. -/
namespace Go.Proofs.YtdnmoggifjlbiaaGreat.AM
open Go Go.RowKit Go.Proofs.YtdnmoggifjlbiaaGreat.PN Go.Proofs.YtdnmoggifjlbiaaGreat.V
open Go.Proofs.YtdnmoggifjlbiaaGreat.LA (S S_succ S_zero S_congr)
set_option linter.unusedVariables false
set_option linter.unusedSimpArgs false
set_option maxRecDepth 8000
set_option maxHeartbeats 8000000
end Go.Proofs.YtdnmoggifjlbiaaGreat.AM

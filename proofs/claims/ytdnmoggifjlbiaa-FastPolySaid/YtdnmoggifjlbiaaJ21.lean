/- Joined texts, 21: LawFc. -/
import Derived.Test.YtdnmoggifjlbiaaJ20
set_option linter.unusedVariables false
set_option linter.unusedSimpArgs false
/- Laws of matrices that are applied: FastPoly. -/
namespace Go.Proofs.Ytdnmoggifjlbiaa.AM
open Go Go.RowKit Go.Proofs.Ytdnmoggifjlbiaa.PN Go.Proofs.Ytdnmoggifjlbiaa.V
open Go.Proofs.Ytdnmoggifjlbiaa.LA (S S_succ S_zero S_congr S_first S_circ S_mulr)
set_option linter.unusedVariables false
set_option linter.unusedSimpArgs false
set_option maxRecDepth 8000
set_option maxHeartbeats 8000000
/-- What is reckoned of a polynomial, from the last number down to number k. -/
def hor (v : Nat → Rat) (a : Rat) (n k : Nat) : Rat := S (n - k) fun t => v (k + t) * a ^ t
theorem hor_step {v : Nat → Rat} {a : Rat} {n k : Nat} (hk : k < n) : hor v a n (k + 1) * a + v k = hor v a n k := by
  unfold hor
  rw [show n - k = (n - (k + 1)) + 1 by omega, S_first, ← S_mulr, Rat.pow_zero, Rat.mul_one, Nat.add_zero, Rat.add_comm]
  congr 1
  refine S_congr fun t _ => ?_
  rw [Rat.pow_succ, show k + 1 + t = k + (t + 1) by omega, Rat.mul_assoc]
theorem hor_wt {v : Nat → Rat} {a : Rat} {n k : Nat} (hv : ∀ i, wt (v i) ≤ 1) (ha : wt a ≤ 4) (hn : n ≤ 8) : wt (hor v a n k) ≤ 400 := by
  have := wt_sum (n := n - k) (K := 40) (f := fun t => v (k + t) * a ^ t) fun u hu => by
    have h1 := wt_mul (v (k + u)) (a ^ u); have h2 := hv (k + u); have h3 := pow_wt ha u
    omega
  have h4 := Nat.mul_le_mul_right (40 + 1) (show n - k ≤ 8 by omega)
  unfold hor
  omega
theorem k_poly {n : Int} {ns cs : List Int} (hn : Fits .i64 n) (hz : AllFit ns) (hc : AllFit cs) : Has Try.prog 4 [.i n, .seq .i64 ns, .seq .i64 cs] (.b true) := by
  have m1 := k_mk (kind := 3) (n := n) (most := 8) (zs := ns) (by show _ ∧ _; omega) hn hz (by decide) (by decide)
  have m2 := k_mk (kind := 2) (n := n) (most := 8) (zs := ns) (by show _ ∧ _; omega) hn hz (by decide) (by decide)
  have o := mkg_ok (kind := 3) (n := n) (zs := ns) (most := 8) (by decide) (by decide)
  have p := mkg_ok (kind := 2) (n := n) (zs := ns) (most := 8) (by decide) (by decide)
  have eg : (mkg 3 n ns 8).k = 4 := rfl
  have ec : (mkg 2 n ns 8).k = 3 := rfl
  have en : (mkg 2 n ns 8).n = (mkg 3 n ns 8).n := rfl
  generalize mkg 3 n ns 8 = g at *
  generalize mkg 2 n ns 8 = c at *
  have n8 := o.n8; have n1 := o.n1
  obtain ⟨_, l2, _, _⟩ := ok_lens o
  obtain ⟨_, k2, _, _⟩ := ok_lens p
  have hla : g.la = g.n := l2 (by omega)
  have hlc : c.la = c.n := k2 (by omega)
  have wv : ∀ i, wt (rowq cs i) ≤ 1 := fun i => (rowq_wt cs i).le
  have hv1 : ∀ i, Wt (rowq cs i) 200 := fun i => ⟨by have := wv i; omega⟩
  have ho : ∀ i : Nat, Wt ((fun _ => (1 : Rat)) i) 200 := fun i => ⟨by show wt (1 : Rat) ≤ 200; decide⟩
  have ca := fs_apply (v := rowq cs) (n := g.n) o hv1 (by omega)
  have cb := fs_apply (v := fun _ => 1) (n := c.n) p ho (by omega)
  rw [if_pos rfl] at ca cb
  have gN : decide ((g.n : Int) ≠ g.n) = false := decide_eq_false fun h => h rfl
  have gN2 : (decide ((g.n : Int) ≠ g.n) == false) = true := by rw [gN]; rfl
  have cN : decide ((c.n : Int) ≠ c.n) = false := decide_eq_false fun h => h rfl
  have x1 : ∀ i, i < g.n → (S g.n fun j => gec g i j * rowq cs j) = hor (rowq cs) (g.A i) g.n 0 := fun i hi => by
    refine S_congr fun j hj => ?_
    rw [gec_in hi hj, show gent g i j = g.A i ^ j by unfold gent; rw [eg]; rfl, Nat.zero_add, Rat.mul_comm]
  have x2 : ∀ i, i < c.n → (S c.n fun j => gec c i j * (1 : Rat)) = S c.n c.A := fun i hi => by
    rw [← S_circ hi c.A]
    refine S_congr fun j hj => ?_
    rw [gec_in hi hj, Rat.mul_one]
    unfold gent; rw [ec]; rfl
  have wS : ∀ k, k ≤ c.n → wt (S k c.A) ≤ k * 5 + 1 := fun k hk => wt_sum (K := 4) fun u hu => p.sm.A u (by omega)
  refine has_of Try.func4 (by kernel_rfl) rfl Try.ntmps4 Try.results4 rfl rfl rfl ?_
  repeat(first|refine run1p ?_|((with_reducible apply st_call);exact rfl;exact rfl;exact rfl;first|(exact k_known9))|((with_reducible apply st_callg);exact rfl;exact rfl;(first|exact rfl|assumption);exact rfl;exact rfl;exact rfl;first|(exact k_known9)))
  refine awp_no rfl rfl ?_
  repeat(first|refine run1p ?_|((with_reducible apply st_call);exact rfl;exact rfl;exact rfl;first|(exact m1)|(exact m2)|(exact k_row (by omega) hc)|(exact Has.ag (u' := g.f) (g7 rfl rfl rfl rfl rfl rfl rfl) ca)|(exact hs_zero))|((with_reducible apply st_callg);exact rfl;exact rfl;(first|exact rfl|assumption);exact rfl;exact rfl;exact rfl;first|(exact m1)|(exact m2)|(exact k_row (by omega) hc)|(exact Has.ag (u' := g.f) (g7 rfl rfl rfl rfl rfl rfl rfl) ca)|(exact hs_zero)))
  refine awp_loop (fun m' s => ∃ i, i ≤ c.n ∧ m' = c.n - i ∧ s = accS 12 (.rats i fun _ => .q ((1 : Int) : Rat)) [(7, .ptr 7 0 0), (8, .ptr 8 0 0), (9, .row true g.n fun i => .q (rowq cs i)), (10, .row true g.n fun i => .q (S g.n fun j => gec g i j * rowq cs j)), (11, .i 0), (13, .rptr 13 0 0), (14, .i (i : Int))] [(7, (1, fun _ => .ones 26 7 g.ft)), (8, (1, fun _ => .ones 26 7 c.ft)), (13, (1, fun _ => .rats 1 fun _ => .q (S i c.A)))]) c.n _ (acc_start rfl rfl (by exact rfl) rfl (by decide) ?_ ?_) ⟨0, Nat.zero_le _, rfl, rfl⟩ ?_
  · exact eA
  · exact allh rfl (by decide) (bleo rfl fun _ _ => Le.id rfl) (fun i _ => g.ftok _ i) (allh rfl (by decide) (bleo rfl fun _ _ => Le.id rfl) (fun i _ => c.ftok _ i) (by exact hA))
  rintro m' st ⟨i, hi, rfl, rfl⟩
  refine run0p ?_
  refine awp_if rfl (fun h => ?_) (fun h => ?_)
  · have hin : i < c.n := by omega
    have w1 := wS i (by omega); have w2 := p.sm.A i (by omega)
    repeat(first|refine run1 ?_|((with_reducible apply st_call);exact rfl;exact rfl;exact rfl;first|(exact hs_int 1 (by decide) (by decide))|(exact hs_add (p := S i c.A) (q := c.A i) (by omega) (by omega)))|((with_reducible apply st_callg);exact rfl;exact rfl;(first|exact rfl|assumption);exact rfl;exact rfl;exact rfl;first|(exact hs_int 1 (by decide) (by decide))|(exact hs_add (p := S i c.A) (q := c.A i) (by omega) (by omega))))
    refine q_loop (m' := c.n - (i + 1)) (by omega) (acc_next (a := 48) rfl rfl rfl (glue_one rfl) (by exact True.intro) rfl rfl ?_ ?_) ⟨i + 1, by omega, rfl, rfl⟩
    · refine alle rfl (Le.ptr (s1_ne (by decide))) rfl (alle rfl (Le.ptr (s1_ne (by decide))) rfl (alle rfl (Le.eq rfl rfl) True.intro (alle rfl (Le.eq rfl rfl) True.intro (alle rfl (Le.eq rfl rfl) True.intro (alle rfl (Le.rptr (s1_ne (by decide))) rfl (alle rfl (Le.eq rfl rfl) True.intro True.intro))))))
    · refine allh rfl Nat.zero_lt_one g.le_ft (fun i _ => g.ftok _ i) (allh rfl Nat.zero_lt_one c.le_ft (fun i _ => c.ftok _ i) (allh rfl Nat.zero_lt_one (ble1 rfl) True.intro True.intro))
  have ei : i = c.n := by omega
  subst ei
  repeat(first|(with_reducible first|refine awp_seq ?_|refine awp_block ?_|refine awp_skip ?_|refine awp_exit ?_|refine awp_ret ?_|refine q_then ?_|refine q_block ?_|refine q_then_exit ?_|refine q_then_ret ?_|refine q_block_exit ?_|refine q_block_ret ?_|refine q_loop_exit ?_|refine q_loop_ret ?_)|((with_reducible refine q_block_other ?_ ?_);exact rfl))
  refine awp_imp (imp_rowv 12 (fun i => .q 1) rfl rfl rfl (fun i hi => ?_)) ?_
  · rfl
  repeat(first|refine run1p ?_|((with_reducible apply st_call);exact rfl;exact rfl;exact rfl;first|(exact Has.ag (u' := c.f) (g7 rfl rfl rfl rfl rfl rfl rfl) cb))|((with_reducible apply st_callg);exact rfl;exact rfl;(first|exact rfl|assumption);exact rfl;exact rfl;exact rfl;first|(exact Has.ag (u' := c.f) (g7 rfl rfl rfl rfl rfl rfl rfl) cb)))
  refine awp_no rfl cN ?_
  refine run0p ?_
  refine awp_loop (fun m' s => ∃ i, i ≤ g.n ∧ m' = g.n - i ∧ s = stl [(7, .ptr 7 0 0), (9, .row true g.n fun i => .q (rowq cs i)), (10, .row true g.n fun i => .q (S g.n fun j => gec g i j * rowq cs j)), (13, .rptr 13 0 0), (15, .row true c.n fun i => .q (S c.n fun j => gec c i j * 1)), (17, .i (i : Int))] [(7, (1, fun _ => .ones 26 7 g.ft)), (13, (1, fun _ => .rats 1 fun _ => .q (S c.n c.A)))]) g.n _ (imp_id ?_ ?_) ⟨0, Nat.zero_le _, rfl, rfl⟩ ?_
  · exact eA
  · exact allh rfl (by decide) (bleo rfl fun _ _ => Le.id rfl) (fun i _ => g.ftok _ i) (by exact hA)
  rintro m' st ⟨i, hi, rfl, rfl⟩
  refine run0p ?_
  refine awp_if rfl (fun h1 => ?_) (fun h1 => ?_)
  · have hin : i < g.n := by omega
    have wa := o.sm.A i (by omega)
    have wh := fun k => hor_wt (n := g.n) (k := k) wv wa n8
    repeat(first|refine run1p ?_|((with_reducible apply st_call);exact rfl;exact rfl;exact rfl;first|(exact hs_zero))|((with_reducible apply st_callg);exact rfl;exact rfl;(first|exact rfl|assumption);exact rfl;exact rfl;exact rfl;first|(exact hs_zero)))
    refine awp_loop (fun m' s => ∃ k, k ≤ g.n ∧ m' = k ∧ s = stl [(7, .ptr 7 0 0), (9, .row true g.n fun i => .q (rowq cs i)), (10, .row true g.n fun i => .q (S g.n fun j => gec g i j * rowq cs j)), (13, .rptr 13 0 0), (15, .row true c.n fun i => .q (S c.n fun j => gec c i j * 1)), (17, .i (i : Int)), (18, .rptr 18 0 0), (19, .i (k : Int))] [(7, (1, fun _ => .ones 26 7 g.ft)), (13, (1, fun _ => .rats 1 fun _ => .q (S c.n c.A))), (18, (1, fun _ => .rats 1 fun _ => .q (hor (rowq cs) (g.A i) g.n k)))]) g.n _ (imp_id ?_ ?_) ⟨g.n, Nat.le_refl _, rfl, rfl⟩ ?_
    · exact eA
    · refine allh rfl (by decide) (bleo rfl fun _ _ => Le.id rfl) (fun i _ => g.ftok _ i) (allh rfl (by decide) (ble1 rfl) True.intro (allh rfl (by decide) (ble1 ?_) True.intro True.intro))
      show RA.q 0 = RA.q (S (g.n - g.n) _)
      rw [Nat.sub_self]; rfl
    rintro m' st ⟨k, hk, hm, rfl⟩
    refine run0p ?_
    refine awp_if rfl (fun h2 => ?_) (fun h2 => ?_)
    · obtain ⟨k, rfl⟩ : ∃ u, k = u + 1 := ⟨k - 1, by omega⟩
      have w1 := wh (k + 1); have w2 := wh k; have w3 := wv k
      have w4 := wt_mul (hor (rowq cs) (g.A i) g.n (k + 1)) (g.A i)
      have e1 : (((k + 1 : Nat) : Int) - 1).toNat = k := by omega
      have e2 : ((k + 1 : Nat) : Int) - 1 = (k : Int) := by omega
      have cm := hs_mul (p := hor (rowq cs) (g.A i) g.n (k + 1)) (q := g.A i) (by omega) (by omega)
      have cs' : Has Try.prog 18 [.q (hor (rowq cs) (g.A i) g.n (k + 1) * g.A i), .q (rowq cs k)] (.q (hor (rowq cs) (g.A i) g.n k)) := by
        rw [← hor_step (v := rowq cs) (a := g.A i) (show k < g.n from by omega)]
        exact hs_add (by omega) (by omega)
      repeat(first|refine run1p ?_|((with_reducible apply st_call);exact rfl;exact rfl;exact rfl;first|(exact cm))|((with_reducible apply st_callg);exact rfl;exact rfl;(first|exact rfl|assumption);exact rfl;exact rfl;exact rfl;first|(exact cm)))
      rw [e1]
      repeat(first|refine run1p ?_|((with_reducible apply st_call);exact rfl;exact rfl;exact rfl;first|(exact cs'))|((with_reducible apply st_callg);exact rfl;exact rfl;(first|exact rfl|assumption);exact rfl;exact rfl;exact rfl;first|(exact cs')))
      rw [e2]
      refine q_loop ?_ (imp_id ?_ ?_) ⟨k, ?_, rfl, rfl⟩
      · omega
      · exact eA
      · exact allh rfl (by decide) (bleo rfl fun _ _ => Le.id rfl) (fun i _ => g.ftok _ i) (by exact hA)
      · omega
    · obtain rfl : k = 0 := by omega
      have hic : i < c.n := by omega
      have w1 := wh 0; have w2 := wS c.n (Nat.le_refl _)
      have d1 := hs_same (p := S g.n fun j => gec g i j * rowq cs j) (q := hor (rowq cs) (g.A i) g.n 0) (by rw [x1 i hin]; omega) (by omega)
      have d2 := hs_same (p := S c.n fun j => gec c i j * (1 : Rat)) (q := S c.n c.A) (by rw [x2 i hic]; omega) (by omega)
      rw [decide_eq_true (x1 i hin)] at d1
      rw [decide_eq_true (x2 i hic)] at d2
      repeat(first|refine run1p ?_|((with_reducible apply st_call);exact rfl;exact rfl;exact rfl;first|(exact d1)|(exact d2))|((with_reducible apply st_callg);exact rfl;exact rfl;(first|exact rfl|assumption);exact rfl;exact rfl;exact rfl;first|(exact d1)|(exact d2)))
      refine awp_no rfl rfl ?_
      refine run0p ?_
      refine q_loop ?_ (imp_id ?_ ?_) ⟨i + 1, ?_, rfl, rfl⟩
      · omega
      · exact eA
      · exact allh rfl (by decide) (bleo rfl fun _ _ => Le.id rfl) (fun i _ => g.ftok _ i) (by exact hA)
      · omega
  · refine run0p ?_
    exact ⟨.inr rfl, _, Imp.refl _, .one (.tmp rfl)⟩
end Go.Proofs.Ytdnmoggifjlbiaa.AM

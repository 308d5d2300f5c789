/- Joined texts, 23: LawAB. -/
import Derived.Test.YtjmpanhacfjcaaaJ18
import Derived.Test.YtjmpanhacfjcaaaJ19
import Derived.Test.YtjmpanhacfjcaaaJ17
import Derived.Test.YtjmpanhacfjcaaaJ22
set_option linter.unusedVariables false
set_option linter.unusedSimpArgs false
/- Laws of dense matrices: DenseMinors. -/
namespace Go.Proofs.Ytjmpanhacfjcaaa.AM
open Go Go.RowKit Go.Proofs.Ytjmpanhacfjcaaa.PN Go.Proofs.Ytjmpanhacfjcaaa.V
open Go.Proofs.Ytjmpanhacfjcaaa.LA (S S_succ S_zero S_congr)
set_option linter.unusedVariables false
set_option linter.unusedSimpArgs false
set_option maxRecDepth 8000
set_option maxHeartbeats 8000000
theorem rv_mat {S : Nat → Prop} {B : Nat} {β : Nat → Nat → Value} {w : World} {fr : Bool} {n m : Nat} {F G : Nat → Nat → RA} (h : ∀ i, i < n → ∀ j, j < m → F i j = G i j) (v : Value) (hv : RV S B β w (.mat fr n (fun _ => m) F) v) : RV S B β w (.mat fr n (fun _ => m) G) v := by
  obtain ⟨A, c, e1, e2, e3, e4⟩ := hv
  refine ⟨A, c, e1, e2, e3, fun i hi => ?_⟩
  obtain ⟨b, off, cs, x, a1, a2, a3, a4, a5, a6⟩ := e4 i hi
  exact ⟨b, off, cs, x, a1, a2, a3, a4, a5, row_congr (fun j hj => h i hi j hj) a6⟩
theorem k_dminors {n kind : Int} {ns : List Int} (hn : Fits .i64 n) (hz : AllFit ns) (hk : Fits .i64 kind) : Has Try.prog 6 [.i n, .seq .i64 ns, .i kind] (.b true) := by
  have m := k_mk (kind := kind) (n := n) (most := 5) (zs := ns) hk hn hz (by decide) (by decide)
  have o := mkg_ok (kind := kind) (n := n) (zs := ns) (most := 5) (by decide) (by decide)
  have s5 := mkg_sml (kind := kind) (n := n) (zs := ns)
  generalize mkg kind n ns 5 = g at *
  have n5 := s5.n; have n1 := o.n1
  have hb : ∀ i j, Bt (if i < g.n ∧ j < g.n then gent g i j else 0) 41 := fun i j => by
    split
    · rename_i h; exact gent_bt o s5 h.1 h.2
    · exact Bt.zero.mono (by decide)
  have x0 : Has Try.prog 28 [.ag 7 fun i => (g.ft i).old] (.mat true g.n (fun _ => g.n) (fun i j => .q (gent g i j))) := Has.ag (u' := g.f) (g7 rfl rfl rfl rfl rfl rfl rfl) (r5_expand (g := g) o)
  have x1 : Has Try.prog 28 [.ag 7 fun i => (g.ft i).old] (.mat true g.n (fun _ => g.n) (fun i j => .q (if i < g.n ∧ j < g.n then gent g i j else 0))) :=
    Has.imp x0 rfl fun S B β w v => rv_mat (fun i hi j hj => by rw [if_pos ⟨hi, hj⟩]) v
  generalize hF : (fun i j => if i < g.n ∧ j < g.n then gent g i j else 0) = F at *
  have hb : ∀ i j, Bt (F i j) 41 := fun i j => by rw [← hF]; exact hb i j
  have x1 : Has Try.prog 28 [.ag 7 fun i => (g.ft i).old] (.mat true g.n (fun _ => g.n) (fun i j => .q (F i j))) := by rw [← hF]; exact x1
  have hw : ∀ i j, Wt (F i j) 2 := fun i j => (hb i j).wt (by decide)
  have dm := d_minors (n := g.n) (K := 2) (F := F) (hf := hw) (by decide) (by omega) (by omega)
  have tb : ∀ k, 0 < k → k ≤ g.n → TB k k 1009 F := fun k hk hkn => TB.of (K := 41) hk (by decide) (hA := hb) (by
    have h4 : 4 ^ (k - 1) ≤ 4 ^ 4 := Nat.pow_le_pow_right (by decide) (by omega)
    have := Nat.mul_le_mul_right (41 + 1) h4
    omega)
  generalize g.n = N at *
  have gN : decide ((N : Int) ≠ N) = false := decide_eq_false fun h => h rfl
  refine has_of Try.func6 (by kernel_rfl) rfl Try.ntmps6 Try.results6 rfl rfl rfl ?_
  repeat(first|refine run1 ?_|((with_reducible apply st_call);exact rfl;exact rfl;exact rfl;first|(exact k_known))|((with_reducible apply st_callg);exact rfl;exact rfl;(first|exact rfl|assumption);exact rfl;exact rfl;exact rfl;first|(exact k_known)))
  refine awp_no rfl rfl ?_
  repeat(first|refine run1 ?_|((with_reducible apply st_call);exact rfl;exact rfl;exact rfl;first|(exact m)|(exact x1)|(exact dm))|((with_reducible apply st_callg);exact rfl;exact rfl;(first|exact rfl|assumption);exact rfl;exact rfl;exact rfl;first|(exact m)|(exact x1)|(exact dm)))
  refine awp_no rfl gN ?_
  refine run0 ?_
  refine awp_loop (fun m' s => ∃ k, k ≤ N ∧ m' = N - k ∧ s = stl [(7, .mat true N (fun _ => N) (fun i j => .q (F i j))), (8, .row true N (fun i => .q (gdet (i + 1) F))), (9, .i ((k + 1 : Nat) : Int))] []) N _ (imp_id ?_ ?_) ⟨0, Nat.zero_le _, rfl, rfl⟩ ?_
  · exact eA
  · exact hA
  · rintro m' s ⟨k, hk, rfl, rfl⟩
    refine run0 ?_
    refine awp_if rfl (fun h => ?_) (fun h => ?_)
    · have h : k + 1 ≤ N := by omega
      have cc := r7_cut (n := N) (m := N) (k := k + 1) (F := F) h h (by omega)
      have cd := r7_det (tb (k + 1) (Nat.succ_pos k) h) (by decide) (Nat.succ_pos k) (by omega)
      have wd : wt (gdet (k + 1) F) ≤ 1000000000000 := Nat.le_trans (wt_gdet (hf := hw) (by omega)).le (by decide)
      have cs := hs_same (p := gdet (k + 1) F) (q := gdet (k + 1) F) wd wd
      rw [decide_eq_true rfl] at cs
      have e1 : (((k + 1 : Nat) : Int) - 1).toNat = k := by omega
      refine run0 ?_
      rw [e1]
      repeat(first|refine run1 ?_|((with_reducible apply st_call);exact rfl;exact rfl;exact rfl;first|(exact cc)|(exact cd)|(exact cs))|((with_reducible apply st_callg);exact rfl;exact rfl;(first|exact rfl|assumption);exact rfl;exact rfl;exact rfl;first|(exact cc)|(exact cd)|(exact cs)))
      refine awp_no rfl rfl ?_
      refine run0 ?_
      refine q_loop ?_ (imp_id ?_ ?_) ⟨k + 1, ?_, rfl, rfl⟩
      · omega
      · exact eA
      · exact hA
      · omega
    · refine run0 ?_
      exact ⟨.inr rfl, _, Imp.refl _, .one (.tmp rfl)⟩
end Go.Proofs.Ytjmpanhacfjcaaa.AM

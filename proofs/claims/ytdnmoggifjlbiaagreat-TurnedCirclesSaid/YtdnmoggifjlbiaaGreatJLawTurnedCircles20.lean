/- Joined texts, 20: TuA MkD TuB PFa FsA DnA DnB DnC FsB QuZ LvA LvB LvC LvD LawC DnD DnE DnF. -/
import Derived.Test.YtdnmoggifjlbiaaGreatJLawTurnedCircles17
import Derived.Test.YtdnmoggifjlbiaaGreatJLawTurnedCircles14
import Derived.Test.YtdnmoggifjlbiaaGreatJLawTurnedCircles19
import Derived.Test.YtdnmoggifjlbiaaGreatJLawTurnedCircles18
import Derived.Test.YtdnmoggifjlbiaaGreatJLawTurnedCircles12
import Derived.Test.YtdnmoggifjlbiaaGreatJLawTurnedCircles13
import Derived.Test.YtdnmoggifjlbiaaGreatJLawTurnedCircles16
import Derived.Test.YtdnmoggifjlbiaaGreatJLawTurnedCircles15
set_option linter.unusedVariables false
set_option linter.unusedSimpArgs false
/- Package turned: copies of numbers. -/
namespace Go.Proofs.YtdnmoggifjlbiaaGreat.AM
open Go Go.RowKit Go.Proofs.YtdnmoggifjlbiaaGreat.PN Go.Proofs.YtdnmoggifjlbiaaGreat.V
set_option linter.unusedVariables false
set_option linter.unusedSimpArgs false
set_option maxRecDepth 8000
set_option maxHeartbeats 8000000
/-- Whether limbs are none. -/
def nilOf2 : AV → Option (Bool × Prop)
  | .nat n => some (false, 0 < size n)
  | .v (.slice A _ _) => some (A.isNone, True)
  | _ => none
theorem nilOf2_ok {S : Nat → Prop} {B : Nat} {β : Nat → Nat → Value} {w : World} {x : AV} {v : Value} {b : Bool} {c : Prop} (h : RV S B β w x v) (hn : nilOf2 x = some (b, c)) (hc : c) : ∃ A n k, v = .slice A n k ∧ A.isNone = b := by
  unfold nilOf2 at hn
  split at hn
  · cases hn
    obtain ⟨A, k, e, _, hx⟩ := (h : NatS _ _ _ _)
    obtain ⟨b, off, cs, hA, _⟩ := hx 0 hc
    exact ⟨A, _, k, e, by rw [hA]; rfl⟩
  · cases hn
    exact ⟨_, _, _, h, rfl⟩
  · cases hn
section
variable {ops : Array Oper} {l : List Oper} {s : St} {acc : List Fp} {K : St → List Fp → Prop} {d : Option Tmp} {ty : TypeId} {ps : String} {aft : Array Edge}
theorem ok_eqnil2 {o : Oper} {s : St} {x : Operand} {T T' E : TypeId} {y : AV} {b : Bool} {c : Prop} (ho : o.op = .binOp .eql T x (.const (.slice none 0 0)) T') (hE : Tryz.prog.underlying T = some (.slice E)) (hx : avo s x = some y) (hn : nilOf2 y = some (b, c)) (hc : c) : LOK Tryz.prog o s ⟨some (.v (.bool b)), [], []⟩ := by
  refine lok_val fun s2 hl W N β w ac hs => ⟨.bool b, ?_, fun z hz => by cases hz; exact ⟨trivial, rfl⟩⟩
  obtain ⟨A, n, k, e, hb⟩ := nilOf2_ok (hs.opd (x := x) (by rw [hl.avo (by rw [ho]; simp [Op.operands])]; exact hx)).2 hn hc
  have h2 : ac.eval (.const (.slice none 0 0)) = .slice none 0 0 := rfl
  unfold execOp; rw [ho]; simp only []; rw [e, h2]
  have hg : (eqGuard .eql T x (.const (.slice none 0 0)) (.slice A n k) (.slice none 0 0)).run Tryz.prog w = .ok () w := by simp [eqGuard]
  have hb2 : (binOp .eql T (.slice A n k) (.slice none 0 0)).run Tryz.prog w = .ok (.bool b) w := by
    simp only [binOp, Sem.run_bind, run_eq_slice hE]
    rw [← hb]; rfl
  simp only [Sem.run_bind, hg, Result.andThen_ok, hb2]; rfl
theorem ok_app00 {o : Oper} {s : St} {x y : Operand} {A : Option Addr} {c : Nat} (ho : o.op = .call { callee := .builtin .append, args := #[x, y], argTypes := #[37, 37] }) (hx : avo s x = some .e0) (hy : avo s y = some (.v (.slice A 0 c))) : LOK Tryz.prog o s ⟨some (.nat 0), [], []⟩ := by
  refine lok_kept fun s2 hl W N β w a hsim K Q hK => ?_
  obtain ⟨_, g, h1, hr⟩ := hsim.opd (x := x) (by rw [hl.avo (by rw [ho]; simp [Op.operands, Call.operands])]; exact hx)
  obtain ⟨_, h2⟩ := hsim.opd (x := y) (by rw [hl.avo (by rw [ho]; simp [Op.operands, Call.operands])]; exact hy)
  have h2 : a.eval y = .slice A 0 c := h2
  have h3 : NatS w (fun _ => True) (a.eval y) 0 := ⟨A, c, h2, Nat.zero_le _, fun i hi => absurd hi (Nat.not_lt_zero _)⟩
  obtain ⟨v', w', hrun, hk, hv⟩ := run_app0 hr h3 (by decide) o.type
  have he : (execOp a.eval o).run Tryz.prog w = .ok (.value v') w' := by
    unfold execOp; rw [ho]; simp only [resolve, List.map_toArray, List.map_cons, List.map_nil]; rw [h1]
    simp only [Sem.run_bind, Sem.run_pure, Result.andThen_ok, invoke, builtin, hrun]
  unfold Oper.wp
  rw [he]
  exact hK _ _ hk fun x hx => by cases hx; exact ⟨trivial, hv⟩
end
theorem cl_u : Tryz.prog.underlying 37 = some (.slice U32) := Tryz.underlying37
theorem cl_v (A : Option Addr) (c : Nat) : Has Tryz.prog 126 [.v (.slice A 0 c)] (.nat 0) := by
  refine Has.imp (r := if A.isNone then .v (.slice none 0 0) else .nat 0) ?_ rfl (fun S B β w v hv => ?_)
  · refine has_of Tryz.func126 (by kernel_rfl) rfl Tryz.ntmps126 Tryz.results126 rfl (by split <;> rfl) rfl ?_
    refine run2 ?_
    refine run3 ?_
    refine st_ev rfl True.intro ?_
    refine st_lok (ok_eqnil2 rfl cl_u rfl rfl True.intro) ?_
    cases A with
    | none =>
      refine run0 ?_
      refine awp_yes rfl rfl ?_
      refine run0 ?_
      exact ⟨.inr rfl, _, Imp.refl _, .one (.tmp rfl)⟩
    | some a =>
      refine run0 ?_
      refine awp_no rfl rfl ?_
      refine run3 ?_
      refine st_build0 ?_
      refine st_ev rfl True.intro ?_
      refine st_lok (ok_app00 rfl rfl rfl) ?_
      refine run0 ?_
      exact ⟨.inr rfl, _, Imp.refl _, .one (.tmp rfl)⟩
  · split at hv
    · exact ⟨none, 0, hv, Nat.le_refl _, fun i hi => absurd hi (Nat.not_lt_zero _)⟩
    · exact hv
theorem h_clone {n : Nat} (hs : size n ≤ 1000000000000) : Has Tryz.prog 126 [.nat n] (.nat n) := by
  by_cases h0 : size n = 0
  · have hn : n = 0 := by have := size_eq_zero (s := n); omega
    subst hn
    refine ⟨by kernel_rfl, trivial, fun w S β vs hv => ?_⟩
    obtain ⟨v, rfl, A, c, rfl, _, _⟩ := rvs1 hv
    exact (cl_v A c).run w S β _ ⟨rfl, fun i x v hx hv => by
      cases i with
      | zero => cases hx; cases hv; rfl
      | succ i => cases hx⟩
  · refine has_of Tryz.func126 (by kernel_rfl) rfl Tryz.ntmps126 Tryz.results126 rfl rfl rfl ?_
    refine run2 ?_
    refine run3 ?_
    refine st_ev rfl True.intro ?_
    refine st_lok (ok_eqnil2 rfl cl_u rfl rfl (by omega)) ?_
    refine run0 ?_
    refine awp_no rfl rfl ?_
    refine run0 ?_
    exact ⟨.inr rfl, _, Imp.refl _, .one (.tmp rfl)⟩
theorem t_own {n : Nat} {f : Nat → Rat} (b : Bool) (hf : ∀ i, i < n → wt (f i) ≤ 100000) (hn : n ≤ 100) : Has Tryz.prog 87 [.row false n (fun i => .q (f i))] (if b then .rowx n (fun i => .q (f i)) else .row true n (fun i => .q (f i))) := by
  have hcl : (if b then AV.rowx n (fun i => .q (f i)) else .row true n (fun i => .q (f i))).closed = true := by cases b <;> rfl
  refine has_of Tryz.func87 (by kernel_rfl) rfl Tryz.ntmps87 Tryz.results87 rfl hcl rfl ?_
  refine run2 ?_
  refine run3 ?_
  refine st_ev rfl True.intro ?_
  refine st_ev rfl True.intro ?_
  refine st_lok (ok_make_ratx (g := 8) rfl rfl rfl (by omega) (by omega)) ?_
  repeat(first|(with_reducible first|refine awp_seq ?_|refine awp_block ?_|refine awp_skip ?_|refine awp_exit ?_|refine awp_ret ?_|refine q_then ?_|refine q_block ?_|refine q_then_exit ?_|refine q_then_ret ?_|refine q_block_exit ?_|refine q_block_ret ?_|refine q_loop_exit ?_|refine q_loop_ret ?_)|((with_reducible refine q_block_other ?_ ?_);exact rfl))
  refine run0 ?_
  refine st_lok (ok_clear rfl rfl rfl rfl (by decide) rfl) ?_
  refine run0 ?_
  refine awp_loop (fun m' s => ∃ k, k ≤ n ∧ m' = n - k ∧ s = stl [(3, .own 8 0), (8, .ownx 8 0), (10, .row false n fun i => .q (f i)), (11, .i n), (12, .i (k : Int))] [(8, (1, fun _ => .rats n (grow (fun i => .q (f i)) ra0 k)))]) n _ (imp_id ?_ ?_) ⟨0, Nat.zero_le _, rfl, rfl⟩ ?_
  · exact alle rfl (Le.ownx_own rfl) rfl (alle rfl (Le.ownx rfl) rfl (by exact eA))
  · exact allh rfl (by decide) (blen rfl fun i hi => rfl) True.intro True.intro
  rintro m' s ⟨k, hk, rfl, rfl⟩
  refine run0 ?_
  refine awp_if rfl (fun h => ?_) (fun h => ?_)
  · have h : k < n := by omega
    have w1 := hf k h; have b1 := wt_num (f k); have b2 := wt_den (f k)
    repeat(first|refine run1 ?_|((with_reducible apply st_call);exact rfl;exact rfl;exact rfl;first|(exact h_clone (n := nm (f k)) (by omega))|(exact h_clone (n := (f k).den) (by omega)))|((with_reducible apply st_callg);exact rfl;exact rfl;(first|exact rfl|assumption);exact rfl;exact rfl;exact rfl;first|(exact h_clone (n := nm (f k)) (by omega))|(exact h_clone (n := (f k).den) (by omega))))
    with_reducible apply st_lok
    · exact ok_build_num (f k) rfl rfl rfl rfl rfl rfl rfl rfl rfl
    refine run0 ?_
    refine q_loop ?_ (imp_id ?_ ?_) ⟨k + 1, ?_, rfl, rfl⟩
    · omega
    · exact alle rfl (Le.id rfl) rfl (alle rfl (Le.id rfl) rfl (by exact eA))
    · exact allh rfl (by decide) (blen rfl fun i hi => grow_step _ _ k i) True.intro True.intro
    · omega
  · obtain rfl : k = n := by omega
    refine run0 ?_
    cases b with
    | true => exact ⟨.inr rfl, _, imp_rowx 2 8 (fun i => .q (f i)) rfl rfl rfl rfl (fun i hi => grow_full _ _ hi), .one (.tmp rfl)⟩
    | false => exact ⟨.inr rfl, _, imp_rowv 2 (fun i => .q (f i)) rfl rfl rfl (fun i hi => grow_full _ _ hi), .one (.tmp rfl)⟩
end Go.Proofs.YtdnmoggifjlbiaaGreat.AM
/- Laws of systems: what is known. -/
namespace Go.Proofs.YtdnmoggifjlbiaaGreat.AM
open Go Go.RowKit Go.Proofs.YtdnmoggifjlbiaaGreat.PN Go.Proofs.YtdnmoggifjlbiaaGreat.V
open Go.Proofs.YtdnmoggifjlbiaaGreat.LA (S S_succ S_zero S_congr)
set_option linter.unusedVariables false
set_option linter.unusedSimpArgs false
set_option maxRecDepth 8000
set_option maxHeartbeats 8000000
theorem rv_agv {S : Nat → Prop} {B : Nat} {β : Nat → Nat → Value} {w : World} {n : Nat} {f f' : Nat → AV} (h : ∀ i, i < n → ∀ v, RV S B β w (f i) v → RV S B β w (f' i) v) (v : Value) (hv : RV S B β w (.ag n f) v) : RV S B β w (.ag n f') v := by
  obtain ⟨cs, e1, e2, e3⟩ := hv
  refine ⟨cs, e1, e2, fun i hi => ?_⟩
  obtain ⟨y, a0, a1, a2⟩ := e3 i hi
  exact ⟨y, a0, a1, h i hi y a2⟩
theorem Has.agv {P : Program} {f : FuncId} {n : Nat} {u u' : Nat → AV} {xs : List AV} {r : AV} (h : ∀ S B β w i, i < n → ∀ v, RV S B β w (u i) v → RV S B β w (u' i) v) (H : Has P f (.ag n u' :: xs) r) : Has P f (.ag n u :: xs) r :=
  Has.args H fun S B β w vs hv => rvs_cons (rv_agv (h S B β w)) rvs_same hv
theorem rv_nil0 {S : Nat → Prop} {B : Nat} {β : Nat → Nat → Value} {w : World} {f : Nat → RA} (v : Value) (hv : RV S B β w (.v (.slice none 0 0)) v) : RV S B β w (.row false 0 f) v :=
  ⟨none, 0, hv, Nat.le_refl _, Nat.zero_le _, fun i hi => absurd hi (Nat.not_lt_zero _)⟩
def kg : GD := ⟨3, 1, 0, 1, 0, 0, 0, fun _ => 5, fun _ => 0, fun _ => 0, fun _ => 0⟩
end Go.Proofs.YtdnmoggifjlbiaaGreat.AM
/- Package turned: what a system is as a Toeplitz one. -/
namespace Go.Proofs.YtdnmoggifjlbiaaGreat.AM
open Go Go.RowKit Go.Proofs.YtdnmoggifjlbiaaGreat.PN Go.Proofs.YtdnmoggifjlbiaaGreat.V
open Go.Proofs.YtdnmoggifjlbiaaGreat.LA (S S_succ S_zero S_congr)
set_option linter.unusedVariables false
set_option linter.unusedSimpArgs false
set_option maxRecDepth 8000
set_option maxHeartbeats 8000000
def gT (g : GD) : GD := ⟨1, g.n, 0, 2 * g.n - 1, 0, 0, 0, fun i => if g.k = 3 then g.A ((i + 1) % g.n) else g.A i, fun _ => 0, fun _ => 0, fun _ => 0⟩
/-- A Toeplitz struct, its first row as it stands. -/
def fT (n : Nat) (x : AV) (i : Nat) : AV := [AV.i 1, .i n, .i 0, x, .v (.slice none 0 0), .v (.slice none 0 0), .v (.slice none 0 0)].getD i (.v undef)
theorem fTok {n : Nat} {x : AV} {U : Nat → Bool} (hx : x.ok U) : ∀ i, (fT n x i).ok U
  | 0 | 1 | 2 | 4 | 5 | 6 => trivial
  | 3 => hx
  | _ + 7 => trivial
/-- .. and none. -/
def f00 (i : Nat) : AV := [AV.i 0, .i 0, .i 0, .v (.slice none 0 0), .v (.slice none 0 0), .v (.slice none 0 0), .v (.slice none 0 0)].getD i (.v undef)
theorem f00ok {U : Nat → Bool} : ∀ i, (f00 i).ok U
  | 0 | 1 | 2 | 3 | 4 | 5 | 6 => trivial
  | _ + 7 => trivial
abbrev gTv (g : GD) : AV := .ag 7 (fT g.n (.row true (2 * g.n - 1) fun i => .q ((gT g).A i)))
theorem t_toe {g : GD} (h : g.OK) (hk : g.k ≤ 3) : Has Tryz.prog 49 [g.v] (gTv g) := by
  have n1 := h.n1; have n8 := h.n8; have k1 := h.k1
  obtain ⟨m1, m2, _, _⟩ := ok_lens h
  have hcl : (gTv g).closed = true := rfl
  refine has_of Tryz.func49 (by kernel_rfl) rfl Tryz.ntmps49 Tryz.results49 rfl hcl rfl ?_
  repeat(first|refine run1p ?_|((with_reducible apply st_call);exact rfl;exact rfl;exact rfl;first|(exact Has.ag (g7 rfl rfl rfl rfl rfl rfl rfl) (g_check h)))|((with_reducible apply st_callg);exact rfl;exact rfl;(first|exact rfl|assumption);exact rfl;exact rfl;exact rfl;first|(exact Has.ag (g7 rfl rfl rfl rfl rfl rfl rfl) (g_check h))))
  refine awp_no rfl rfl ?_
  refine run0p ?_
  by_cases e3 : g.k = 3
  · have hla : g.la = g.n := m2 (.inl e3)
    obtain ⟨m, hm⟩ : ∃ m, g.n = m + 1 := ⟨g.n - 1, by omega⟩
    have hla2 : g.la = m + 1 := by omega
    have cx : Has Tryz.prog 87 [.row false g.la (fun i => .q (g.A i))] (.rowx (m + 1) fun i => .q (g.A i)) := by
      rw [← hla2]
      exact t_own (n := g.la) (f := g.A) true (fun i hi => Nat.le_trans (h.sm.A i hi) (by decide)) (by omega)
    have cr : Has Tryz.prog 87 [.row false g.la (fun i => .q (g.A i))] (.row true g.la fun i => .q (g.A i)) := t_own (n := g.la) (f := g.A) false (fun i hi => Nat.le_trans (h.sm.A i hi) (by decide)) (by omega)
    refine awp_no rfl (decide_eq_false (by omega)) ?_
    refine run0p ?_
    refine awp_no rfl (decide_eq_false (by omega)) ?_
    refine run0p ?_
    refine awp_yes rfl (decide_eq_true (by omega)) ?_
    repeat(first|refine run1p ?_|((with_reducible apply st_call);exact rfl;exact rfl;exact rfl;first|(exact cx))|((with_reducible apply st_callg);exact rfl;exact rfl;(first|exact rfl|assumption);exact rfl;exact rfl;exact rfl;first|(exact cx)))
    refine st_lok (ok_slice_tail rfl rfl) ?_
    repeat(first|refine run1p ?_|((with_reducible apply st_call);exact rfl;exact rfl;exact rfl;first|(exact cr))|((with_reducible apply st_callg);exact rfl;exact rfl;(first|exact rfl|assumption);exact rfl;exact rfl;exact rfl;first|(exact cr)))
    refine st_lok (ok_append_full (g := 30) (m := g.la) rfl rfl rfl rfl rfl (by decide) (by omega) (by omega)) ?_
    refine run0p ?_
    refine ⟨.inr rfl, stl [(2, .ptr 2 0 0)] [(2, (1, fun _ => .ones 26 7 (fT g.n (.row true (2 * g.n - 1) fun i => .q ((gT g).A i)))))], (imp_pub 2 3 rfl rfl (by decide) rfl rfl rfl (by decide)).trans (imp_id ?_ ?_), .one (.agg rfl rfl rfl rfl (by decide) rfl rfl)⟩
    · exact eA
    · refine allh rfl (by decide) (le7 (Le.id rfl) (Le.id rfl) (Le.id rfl) (Le.row (by omega) (fun i hi => ?_) fun h => h) (Le.id rfl) (Le.id rfl) (Le.id rfl)) (fun i _ => fTok (by exact True.intro) i) True.intro
      show glue m (fun i => RA.q (g.A (i + 1))) (fun i => RA.q (g.A i)) i = RA.q (if g.k = 3 then g.A ((i + 1) % g.n) else g.A i)
      have hi : i < m + g.la := hi
      rw [if_pos e3]
      unfold glue
      by_cases c : i < m
      · rw [if_pos c, Nat.mod_eq_of_lt (show i + 1 < g.n by omega)]
      · rw [if_neg c, show i + 1 = (i - m) + g.n by omega, Nat.add_mod_right, Nat.mod_eq_of_lt (show i - m < g.n by omega)]
  · have hla : g.la = 2 * g.n - 1 := m1 (by omega)
    have cr : Has Tryz.prog 87 [.row false g.la (fun i => .q (g.A i))] (.row true g.la fun i => .q (g.A i)) := t_own (n := g.la) (f := g.A) false (fun i hi => Nat.le_trans (h.sm.A i hi) (by decide)) (by omega)
    by_cases e1 : g.k = 1
    · refine awp_yes rfl (decide_eq_true (by omega)) ?_
      refine run0p ?_
      refine awp_yes rfl (decide_eq_true (by omega)) ?_
      repeat(first|refine run1p ?_|((with_reducible apply st_call);exact rfl;exact rfl;exact rfl;first|(exact cr))|((with_reducible apply st_callg);exact rfl;exact rfl;(first|exact rfl|assumption);exact rfl;exact rfl;exact rfl;first|(exact cr)))
      refine ⟨.inr rfl, stl [(2, .ptr 2 0 0)] [(2, (1, fun _ => .ones 26 7 (fT g.n (.row true (2 * g.n - 1) fun i => .q ((gT g).A i)))))], imp_id ?_ ?_, .one (.agg rfl rfl rfl rfl (by decide) rfl rfl)⟩
      · exact eA
      · exact allh rfl (by decide) (le7 (Le.id rfl) (Le.id rfl) (Le.id rfl) (Le.row (by omega) (fun i hi => congrArg RA.q (show g.A i = if g.k = 3 then g.A ((i + 1) % g.n) else g.A i by rw [if_neg e3])) fun h => h) (Le.id rfl) (Le.id rfl) (Le.id rfl)) (fun i _ => fTok (by exact True.intro) i) True.intro
    · refine awp_no rfl (decide_eq_false (by omega)) ?_
      refine run0p ?_
      refine awp_yes rfl (decide_eq_true (by omega)) ?_
      repeat(first|refine run1p ?_|((with_reducible apply st_call);exact rfl;exact rfl;exact rfl;first|(exact cr))|((with_reducible apply st_callg);exact rfl;exact rfl;(first|exact rfl|assumption);exact rfl;exact rfl;exact rfl;first|(exact cr)))
      refine ⟨.inr rfl, stl [(2, .ptr 2 0 0)] [(2, (1, fun _ => .ones 26 7 (fT g.n (.row true (2 * g.n - 1) fun i => .q ((gT g).A i)))))], imp_id ?_ ?_, .one (.agg rfl rfl rfl rfl (by decide) rfl rfl)⟩
      · exact eA
      · exact allh rfl (by decide) (le7 (Le.id rfl) (Le.id rfl) (Le.id rfl) (Le.row (by omega) (fun i hi => congrArg RA.q (show g.A i = if g.k = 3 then g.A ((i + 1) % g.n) else g.A i by rw [if_neg e3])) fun h => h) (Le.id rfl) (Le.id rfl) (Le.id rfl)) (fun i _ => fTok (by exact True.intro) i) True.intro
theorem t_toe_no {g : GD} (h : g.OK) (hk : 3 < g.k) : Has Tryz.prog 49 [g.v] (.ag 7 f00) := by
  refine has_of Tryz.func49 (by kernel_rfl) rfl Tryz.ntmps49 Tryz.results49 rfl (by rfl) rfl ?_
  repeat(first|refine run1p ?_|((with_reducible apply st_call);exact rfl;exact rfl;exact rfl;first|(exact Has.ag (g7 rfl rfl rfl rfl rfl rfl rfl) (g_check h)))|((with_reducible apply st_callg);exact rfl;exact rfl;(first|exact rfl|assumption);exact rfl;exact rfl;exact rfl;first|(exact Has.ag (g7 rfl rfl rfl rfl rfl rfl rfl) (g_check h))))
  refine awp_no rfl rfl ?_
  refine run0p ?_
  refine awp_no rfl (decide_eq_false (by omega)) ?_
  refine run0p ?_
  refine awp_no rfl (decide_eq_false (by omega)) ?_
  refine run0p ?_
  refine awp_no rfl (decide_eq_false (by omega)) ?_
  refine run0p ?_
  refine ⟨.inr rfl, stl [(2, .ptr 2 0 0)] [(2, (1, fun _ => .ones 26 7 f00))], imp_id ?_ ?_, .one (.agg rfl rfl rfl rfl (by decide) rfl rfl)⟩
  · exact eA
  · exact allh rfl (by decide) (le7 (Le.id rfl) (Le.id rfl) (Le.id rfl) (Le.id rfl) (Le.id rfl) (Le.id rfl) (Le.id rfl)) (fun i _ => f00ok i) True.intro
end Go.Proofs.YtdnmoggifjlbiaaGreat.AM
/- Displaced matrices. -/
namespace Go.Proofs.YtdnmoggifjlbiaaGreat.AM
open Go.Proofs.YtdnmoggifjlbiaaGreat.PN
open Go.Proofs.YtdnmoggifjlbiaaGreat.LA (S S_succ S_zero S_congr S_first S_null Mt HasRank rank_le)
set_option linter.unusedVariables false
set_option linter.unusedSimpArgs false
set_option maxRecDepth 8000
set_option maxHeartbeats 8000000
/-- An entry; nought outside. -/
def gat (g : GD) (a b : Int) : Rat := if a < 0 ∨ b < 0 ∨ (g.n : Int) ≤ a ∨ (g.n : Int) ≤ b then 0 else gent g a.toNat b.toNat
/-- The displaced matrix. -/
def gdis (g : GD) (i j : Nat) : Rat :=
  match g.k with
  | 2 => gat g ((i : Int) - 1) j - gat g i ((j : Int) - 1)
  | 4 => g.A i * gat g i j - gat g i ((j : Int) + 1)
  | 5 => (g.A i - g.B j) * gat g i j
  | 7 => (g.A i - g.B j) * gat g i j
  | _ => gat g i j - gat g ((i : Int) - 1) ((j : Int) - 1)
/-- .. as a whole matrix. -/
def gdc (g : GD) (i j : Nat) : Rat := if i < g.n ∧ j < g.n then gdis g i j else 0
end Go.Proofs.YtdnmoggifjlbiaaGreat.AM
/- Package fast: entries, displaced. -/
namespace Go.Proofs.YtdnmoggifjlbiaaGreat.AM
open Go Go.RowKit Go.Proofs.YtdnmoggifjlbiaaGreat.PN Go.Proofs.YtdnmoggifjlbiaaGreat.V
open Go.Proofs.YtdnmoggifjlbiaaGreat.LA (S S_succ S_zero S_congr)
set_option linter.unusedVariables false
set_option linter.unusedSimpArgs false
set_option maxRecDepth 8000
set_option maxHeartbeats 8000000
/-- A system, and its matrix. -/
def GD.bd (g : GD) (i : Nat) : AV := [AV.i g.k, .i g.n, .i g.r, .row false g.la (fun i => .q (g.A i)), .row false g.lb (fun i => .q (g.B i)), .row false g.lg (fun i => .q (g.G i)), .row false g.lh (fun i => .q (g.H i)), .mat false g.n (fun _ => g.n) (fun i j => .q (gent g i j))].getD i (.v undef)
def GD.bv (g : GD) : AV := .ag 8 g.bd
/-- How a kind is displaced. -/
def wayF (i : Nat) : FuncId := match i with
  | 1 => 99
  | 3 => 100
  | 4 => 101
  | 6 => 101
  | _ => 98
def wayT : List (Int × FuncId) := [(1, 98), (3, 98), (6, 98), (2, 99), (4, 100), (5, 101), (7, 101)]
end Go.Proofs.YtdnmoggifjlbiaaGreat.AM
/- Dense matrices: walks: zero, one, dot. -/
namespace Go.Proofs.YtdnmoggifjlbiaaGreat.AM
open Go Go.RowKit Go.Proofs.YtdnmoggifjlbiaaGreat.PN Go.Proofs.YtdnmoggifjlbiaaGreat.V
open Go.Proofs.YtdnmoggifjlbiaaGreat.LA (S S_succ S_zero S_congr)
set_option linter.unusedVariables false
set_option linter.unusedSimpArgs false
theorem d_one : Has Tryz.prog 144 [] (.q 1) := by
  refine Has.imp (r := .ra (.raw false [1] [1])) ?_ rfl (fun S B β w v => rv_one)
  refine has_of Tryz.func144 (by kernel_rfl) rfl Tryz.ntmps144 Tryz.results144 rfl rfl rfl ?_
  refine run0 ?_
  refine ⟨.inr rfl, _, Imp.refl _, ?_⟩
  exact .one (.rat rfl rfl (by decide) rfl (by decide) rfl)
end Go.Proofs.YtdnmoggifjlbiaaGreat.AM
/- Dense matrices: walks: right rows, square matrices, products with vectors. -/
namespace Go.Proofs.YtdnmoggifjlbiaaGreat.AM
open Go Go.RowKit Go.Proofs.YtdnmoggifjlbiaaGreat.PN Go.Proofs.YtdnmoggifjlbiaaGreat.V
open Go.Proofs.YtdnmoggifjlbiaaGreat.LA (S S_succ S_zero S_congr)
set_option linter.unusedVariables false
set_option linter.unusedSimpArgs false
theorem shape_u : Tryz.prog.underlying 137 = some (.array 2 3) := by kernel_rfl
theorem int_u : Tryz.prog.underlying 3 = some (.int .i64) := by kernel_rfl
theorem int_info : (Tryz.prog.info? 3).map (fun i => (i.zero, i.size, i.bytes)) = some (some (.int .i64 0), 1, 8) := by kernel_rfl
theorem run_eq_shape (w : World) (a b c d : Int) : (Op.equal 137 (.agg #[.int .i64 a, .int .i64 b]) (.agg #[.int .i64 c, .int .i64 d])).run Tryz.prog w = .ok (decide (a = c) && decide (b = d)) w := by
  obtain ⟨i0, hi, hz0, hz1, hz2⟩ := info_parts int_info
  have hint : ∀ (n : Nat) (x y : Int), (Op.equalIn (n + 1) 3 (.int .i64 x) (.int .i64 y)).run Tryz.prog w = .ok (decide (x = y)) w := by
    intro n x y
    simp [Op.equalIn, run_underlying int_u, beq_dec]
  have hp : ∀ (xs : Array Value) (o : Nat) (v : Value), xs[o]? = some v → (part 3 xs o).run Tryz.prog w = .ok v w := by
    intro xs o v h
    simp [part, isAgg, run_underlying int_u, h]
  have hp0 : ∀ x y : Int, (part 3 #[.int .i64 x, .int .i64 y] 0).run Tryz.prog w = .ok (.int .i64 x) w := fun x y => hp _ 0 _ rfl
  have hp1 : ∀ x y : Int, (part 3 #[.int .i64 x, .int .i64 y] 1).run Tryz.prog w = .ok (.int .i64 y) w := fun x y => hp _ 1 _ rfl
  unfold Op.equal
  rw [show Op.maxDepth = 9998 + 1 + 1 from rfl]
  unfold Op.equalIn
  rw [Sem.run_bind, run_underlying shape_u w]
  by_cases h1 : a = c <;> by_cases h2 : b = d <;>
  simp [sizeOf, typeInfo, hi, hz1, hint, hp0, hp1, h1, h2, Std.Legacy.Range.forIn_eq_forIn_range', List.range'_succ]
theorem pair_vals {S : Nat → Prop} {B : Nat} {β : Nat → Nat → Value} {w : World} {f : Nat → AV} {v : Value} {a b : Int} (h : RV S B β w (.ag 2 f) v) (h0 : f 0 = .i a) (h1 : f 1 = .i b) : v = .agg #[.int .i64 a, .int .i64 b] := by
  obtain ⟨cs, rfl, h2, h3⟩ := h
  obtain ⟨y0, e0, _, r0⟩ := h3 0 (by decide)
  obtain ⟨y1, e1, _, r1⟩ := h3 1 (by decide)
  rw [h0] at r0; rw [h1] at r1
  have r0 : y0 = .int .i64 a := r0
  have r1 : y1 = .int .i64 b := r1
  subst r0; subst r1
  obtain ⟨cs⟩ := cs
  match cs, h2 with
  | [x, y], _ => cases e0; cases e1; rfl
theorem ok_neq_shape {o : Oper} {s : St} {x y : Operand} {T' : TypeId} {f g : Nat → AV} {a b c d : Int} (ho : o.op = .binOp .neq 137 x y T') (hx : avo s x = some (.ag 2 f)) (hy : avo s y = some (.ag 2 g)) (h0 : f 0 = .i a) (h1 : f 1 = .i b) (h2 : g 0 = .i c) (h3 : g 1 = .i d) :
    LOK Tryz.prog o s ⟨some (.b (!(decide (a = c) && decide (b = d)))), [], []⟩ := by
  refine lok_val fun s2 hl W N β w ac hs => ⟨.bool (!(decide (a = c) && decide (b = d))), ?_, fun z hz => by cases hz; exact ⟨trivial, rfl⟩⟩
  have e1 := pair_vals (hs.opd (x := x) (by rw [hl.avo (by rw [ho]; simp [Op.operands])]; exact hx)).2 h0 h1
  have e2 := pair_vals (hs.opd (x := y) (by rw [hl.avo (by rw [ho]; simp [Op.operands])]; exact hy)).2 h2 h3
  have hg : (Tryz.prog.eqGuardType Tryz.prog.depth 137) = false := by kernel_rfl
  unfold execOp; rw [ho]; simp only []; rw [e1, e2]
  simp [eqGuard, binOp, program, Sem.run, hg, run_eq_shape]
theorem d_right {n K : Nat} {f : Nat → Rat} [hf : ∀ i, Wt (f i) K] (hK : K ≤ 1000000000000) (hn : n ≤ 1000000) : Has Tryz.prog 90 [.row false n (fun i => .q (f i))] (.b true) := by
  refine has_of Tryz.func90 (by kernel_rfl) rfl Tryz.ntmps90 Tryz.results90 rfl rfl rfl ?_
  refine run0 ?_
  refine awp_loop (fun m s => ∃ k, k ≤ n ∧ m = n - k ∧ s = stl [(0, .row false n (fun i => .q (f i))), (5, .row false n (fun i => .q (f i))), (6, .i (n : Int)), (7, .i (k : Int))] []) n _ (imp_id ?_ ?_) ⟨0, Nat.zero_le _, rfl, rfl⟩ ?_
  · exact eA
  · exact hA
  · rintro m s ⟨k, hk, rfl, rfl⟩
    refine run0 ?_
    refine awp_if rfl (fun h => ?_) (fun h => ?_)
    · have h : k < n := by omega
      repeat(first|refine run1 ?_|((with_reducible apply st_call);exact rfl;exact rfl;exact rfl;first|(exact c_right hK))|((with_reducible apply st_callg);exact rfl;exact rfl;(first|exact rfl|assumption);exact rfl;exact rfl;exact rfl;first|(exact c_right hK)))
      refine awp_no rfl rfl ?_
      refine run0 ?_
      refine q_loop ?_ (imp_id ?_ ?_) ⟨k + 1, ?_, rfl, rfl⟩
      · omega
      · exact eA
      · exact hA
      · omega
    · refine run0 ?_
      refine ⟨.inr rfl, _, Imp.refl _, ?_⟩
      exact .one (.tmp rfl)
end Go.Proofs.YtdnmoggifjlbiaaGreat.AM
/- Dense matrices: walks: square matrices, products with vectors. -/
namespace Go.Proofs.YtdnmoggifjlbiaaGreat.AM
open Go Go.RowKit Go.Proofs.YtdnmoggifjlbiaaGreat.PN Go.Proofs.YtdnmoggifjlbiaaGreat.V
open Go.Proofs.YtdnmoggifjlbiaaGreat.LA (S S_succ S_zero S_congr)
set_option linter.unusedVariables false
set_option linter.unusedSimpArgs false
theorem d_square {n K : Nat} {F : Nat → Nat → Rat} [hf : ∀ i j, Wt (F i j) K] (hK : K ≤ 1000000000000) (h0 : 0 < n) (hn : n ≤ 1000000) : Has Tryz.prog 89 [.mat false n (fun _ => n) (fun i j => .q (F i j))] (.b true) := by
  refine has_of Tryz.func89 (by kernel_rfl) rfl Tryz.ntmps89 Tryz.results89 rfl rfl rfl ?_
  refine run0 ?_
  refine awp_loop (fun m s => ∃ k, k ≤ n ∧ m = n - k ∧ s = stl [(0, .mat false n (fun _ => n) (fun i j => .q (F i j))), (3, .i (n : Int)), (8, .mat false n (fun _ => n) (fun i j => .q (F i j))), (9, .i (n : Int)), (10, .i (k : Int))] []) n _ (imp_id ?_ ?_) ⟨0, Nat.zero_le _, rfl, rfl⟩ ?_
  · exact eA
  · exact hA
  · rintro m s ⟨k, hk, rfl, rfl⟩
    refine run0 ?_
    refine awp_if rfl (fun h => ?_) (fun h => ?_)
    · have h : k < n := by omega
      refine run0 ?_
      with_reducible apply st_lok
      · exact ok_neq_shape (a := n) (b := n) (c := n) (d := n) rfl rfl rfl rfl rfl rfl rfl
      have e1 : (!(decide ((n : Int) = n) && decide ((n : Int) = n))) = false := by simp
      rw [e1]
      repeat(first|refine run1 ?_|((with_reducible apply st_call);exact rfl;exact rfl;exact rfl;first|(exact d_right hK hn))|((with_reducible apply st_callg);exact rfl;exact rfl;(first|exact rfl|assumption);exact rfl;exact rfl;exact rfl;first|(exact d_right hK hn)))
      refine awp_no rfl rfl ?_
      refine run0 ?_
      refine q_loop ?_ (imp_id ?_ ?_) ⟨k + 1, ?_, rfl, rfl⟩
      · omega
      · exact eA
      · exact hA
      · omega
    · refine run0 ?_
      refine ⟨.inr rfl, _, Imp.refl _, ?_⟩
      have e : (some (AV.b (decide (0 < (n : Int))))) = some (.b true) := by congr 2; simp; omega
      exact .one (.tmp e)
end Go.Proofs.YtdnmoggifjlbiaaGreat.AM
/- Package fast: displaced matrices, applied ones. -/
namespace Go.Proofs.YtdnmoggifjlbiaaGreat.AM
open Go Go.RowKit Go.Proofs.YtdnmoggifjlbiaaGreat.PN Go.Proofs.YtdnmoggifjlbiaaGreat.V
open Go.Proofs.YtdnmoggifjlbiaaGreat.LA (S S_succ S_zero S_congr)
set_option linter.unusedVariables false
set_option linter.unusedSimpArgs false
set_option maxRecDepth 8000
set_option maxHeartbeats 8000000
/-- The matrix; nought outside. -/
def gec (g : GD) (i j : Nat) : Rat := if i < g.n ∧ j < g.n then gent g i j else 0
theorem gec_in {g : GD} {i j : Nat} (hi : i < g.n) (hj : j < g.n) : gec g i j = gent g i j := if_pos ⟨hi, hj⟩
theorem gec_wt {g : GD} (h : g.OK) (i j : Nat) : Wt (gec g i j) 300 := by
  unfold gec
  split
  · exact ⟨gent_wt h (by omega) (by omega)⟩
  · exact ⟨by decide⟩
theorem Has.gec {P : Program} {f : FuncId} {g : GD} {xs : List AV} {r : AV} (H : Has P f (.mat false g.n (fun _ => g.n) (fun i j => .q (gec g i j)) :: xs) r) : Has P f (.mat false g.n (fun _ => g.n) (fun i j => .q (gent g i j)) :: xs) r :=
  Has.args H fun S B β w vs hv => rvs_cons (rv_mat fun i hi j hj => by rw [gec_in hi hj]) rvs_same hv
end Go.Proofs.YtdnmoggifjlbiaaGreat.AM
/- A quotient by nought is refused. -/
namespace Go.Proofs.YtdnmoggifjlbiaaGreat.AM
open Go Go.RowKit Go.Proofs.YtdnmoggifjlbiaaGreat.PN Go.Proofs.YtdnmoggifjlbiaaGreat.V
set_option linter.unusedVariables false
set_option linter.unusedSimpArgs false
set_option maxRecDepth 4000
end Go.Proofs.YtdnmoggifjlbiaaGreat.AM
/- Package levin: its lists. -/
namespace Go.Proofs.YtdnmoggifjlbiaaGreat.AM
open Go Go.RowKit Go.Proofs.YtdnmoggifjlbiaaGreat.PN Go.Proofs.YtdnmoggifjlbiaaGreat.V
open Go.Proofs.YtdnmoggifjlbiaaGreat.LA (S S_succ S_zero S_congr longer later)
set_option linter.unusedVariables false
set_option linter.unusedSimpArgs false
set_option maxRecDepth 8000
set_option maxHeartbeats 8000000
end Go.Proofs.YtdnmoggifjlbiaaGreat.AM
/- Package levin: one step. -/
namespace Go.Proofs.YtdnmoggifjlbiaaGreat.AM
open Go Go.RowKit Go.Proofs.YtdnmoggifjlbiaaGreat.PN Go.Proofs.YtdnmoggifjlbiaaGreat.V
open Go.Proofs.YtdnmoggifjlbiaaGreat.LA (S S_succ S_zero S_congr longer later)
set_option linter.unusedVariables false
set_option linter.unusedSimpArgs false
set_option maxRecDepth 8000
set_option maxHeartbeats 8000000
/-- What the leading part of k rows sends to a one ahead of noughts, and behind them. -/
def lvp (F : Nat → Nat → Rat) : Nat → (Nat → Rat) × (Nat → Rat)
  | 0 => (fun _ => 0, fun _ => 0)
  | k + 1 => if k = 0 then (fun _ => 1 / F 0 0, fun _ => 1 / F 0 0) else
    (fun i => (longer k (lvp F k).1 i - (S k fun j => F k j * (lvp F k).1 j) * later (lvp F k).2 i) * (1 / (1 - (S k fun j => F k j * (lvp F k).1 j) * S k fun j => F 0 (j + 1) * (lvp F k).2 j)),
     fun i => (later (lvp F k).2 i - (S k fun j => F 0 (j + 1) * (lvp F k).2 j) * longer k (lvp F k).1 i) * (1 / (1 - (S k fun j => F k j * (lvp F k).1 j) * S k fun j => F 0 (j + 1) * (lvp F k).2 j)))
def lvf (F : Nat → Nat → Rat) (k : Nat) : Nat → Rat := (lvp F k).1
def lvl (F : Nat → Nat → Rat) (k : Nat) : Nat → Rat := (lvp F k).2
def lvx (F : Nat → Nat → Rat) (k : Nat) : Rat := S k fun j => F k j * lvf F k j
def lvy (F : Nat → Nat → Rat) (k : Nat) : Rat := S k fun j => F 0 (j + 1) * lvl F k j
/-- By what the next step divides. -/
def lvd (F : Nat → Nat → Rat) (k : Nat) : Rat := if k = 0 then F 0 0 else 1 - lvx F k * lvy F k
/-- How long the numbers are. -/
def lvW : Nat → Nat
  | 0 => 1
  | k + 1 => if k = 0 then 5 else 2 * lvW k + 3 * (k * (4 + lvW k + 1) + 1) + 4
section
variable {F : Nat → Nat → Rat} {n : Nat}
end
abbrev LPT : TypeId := 145
def prF (n : Nat) (F : Nat → Nat → Rat) (x y : AV) (i : Nat) : AV := [AV.mat true n (fun _ => n) (fun i j => .q (F i j)), x, y].getD i (.v undef)
def PF (n : Nat) (F : Nat → Nat → Rat) (x y : AV) : List (Nat × Fam) := [(60, (1, fun _ => .ones LPT 3 (prF n F x y))), (61, (0, fun _ => .rats 0 fun _ => ra0)), (62, (0, fun _ => .rats 0 fun _ => ra0))]
abbrev PFk (n : Nat) (F : Nat → Nat → Rat) (k : Nat) : List (Nat × Fam) := PF n F (.row true k fun i => .q (lvf F k i)) (.row true k fun i => .q (lvl F k i))
theorem prF_ok {n : Nat} {F : Nat → Nat → Rat} {x y : AV} {U : Nat → Bool} (hx : x.ok U) (hy : y.ok U) : ∀ i, (prF n F x y i).ok U
  | 0 => trivial
  | 1 => hx
  | 2 => hy
  | _ + 3 => trivial
theorem okf_pf {U : Nat → Bool} {n : Nat} {F : Nat → Nat → Rat} {x y : AV} (hx : x.ok U) (hy : y.ok U) : okf U (PF n F x y) :=
  ⟨fun r _ i _ => prF_ok hx hy i, fun r hr => absurd hr (Nat.not_lt_zero _), fun r hr => absurd hr (Nat.not_lt_zero _), trivial⟩
end Go.Proofs.YtdnmoggifjlbiaaGreat.AM
/- Package levin: one step, walked. -/
namespace Go.Proofs.YtdnmoggifjlbiaaGreat.AM
open Go Go.RowKit Go.Proofs.YtdnmoggifjlbiaaGreat.PN Go.Proofs.YtdnmoggifjlbiaaGreat.V
open Go.Proofs.YtdnmoggifjlbiaaGreat.LA (S S_succ S_zero S_congr longer later)
set_option linter.unusedVariables false
set_option linter.unusedSimpArgs false
set_option maxRecDepth 8000
set_option maxHeartbeats 8000000
/-- What a vector's beginning is sent to, one number longer. -/
def lvm (F : Nat → Nat → Rat) (k : Nat) (x b : Nat → Rat) (i : Nat) : Rat := longer k x i - -(b k - S k fun j => F k j * x j) * lvl F (k + 1) i
end Go.Proofs.YtdnmoggifjlbiaaGreat.AM
/- Package levin: systems. -/
namespace Go.Proofs.YtdnmoggifjlbiaaGreat.AM
open Go Go.RowKit Go.Proofs.YtdnmoggifjlbiaaGreat.PN Go.Proofs.YtdnmoggifjlbiaaGreat.V
open Go.Proofs.YtdnmoggifjlbiaaGreat.LA (S S_succ S_zero S_congr longer later)
set_option linter.unusedVariables false
set_option linter.unusedSimpArgs false
set_option maxRecDepth 8000
set_option maxHeartbeats 8000000
def lvs (F : Nat → Nat → Rat) (b : Nat → Rat) : Nat → Nat → Rat
  | 0 => fun _ => 0
  | k + 1 => lvm F k (lvs F b k) b
def lvX : Nat → Nat
  | 0 => 1
  | k + 1 => lvX k + (100 + (k * (4 + lvX k + 1) + 1) + 1) + lvW (k + 1) + 1
end Go.Proofs.YtdnmoggifjlbiaaGreat.AM
/- Laws of dense matrices: walks: rows and matrices that are the same; ones. -/
namespace Go.Proofs.YtdnmoggifjlbiaaGreat.AM
open Go Go.RowKit Go.Proofs.YtdnmoggifjlbiaaGreat.PN Go.Proofs.YtdnmoggifjlbiaaGreat.V
open Go.Proofs.YtdnmoggifjlbiaaGreat.LA (S S_succ S_zero S_congr)
set_option linter.unusedVariables false
set_option linter.unusedSimpArgs false
set_option maxRecDepth 4000
set_option maxHeartbeats 4000000
theorem k_rows {n K : Nat} {f g : Nat → Rat} [hf : ∀ i, Wt (f i) K] (hK : K ≤ 1000000000000) (hn : n ≤ 1000) (h : ∀ i, i < n → f i = g i) : Has Tryz.prog 19 [.row false n (fun i => .q (f i)), .row false n (fun i => .q (g i))] (.b true) := by
  refine has_of Tryz.func19 (by kernel_rfl) rfl Tryz.ntmps19 Tryz.results19 rfl rfl rfl ?_
  refine run0 ?_
  refine awp_no rfl (decide_eq_false (fun h => h rfl)) ?_
  refine run0 ?_
  refine awp_loop (fun m s => ∃ k, k ≤ n ∧ m = n - k ∧ s = stl [(0, .row false n (fun i => .q (f i))), (1, .row false n (fun i => .q (g i))), (5, .i (k : Int))] []) n _ (imp_id ?_ ?_) ⟨0, Nat.zero_le _, rfl, rfl⟩ ?_
  · exact eA
  · exact hA
  · rintro m s ⟨k, hk, rfl, rfl⟩
    refine run0 ?_
    refine awp_if rfl (fun h1 => ?_) (fun h1 => ?_)
    · have h1 : k < n := by omega
      have e := h k h1
      have wg : Wt (g k) K := by rw [← e]; exact hf k
      have C := cs_same (p := f k) (q := g k) ⟨hK, hK⟩
      rw [decide_eq_true e] at C
      repeat(first|refine run1 ?_|((with_reducible apply st_call);exact rfl;exact rfl;exact rfl;first|(exact C))|((with_reducible apply st_callg);exact rfl;exact rfl;(first|exact rfl|assumption);exact rfl;exact rfl;exact rfl;first|(exact C)))
      refine awp_no rfl rfl ?_
      refine run0 ?_
      refine q_loop ?_ (imp_id ?_ ?_) ⟨k + 1, ?_, rfl, rfl⟩
      · omega
      · exact eA
      · exact hA
      · omega
    · refine run0 ?_
      refine ⟨.inr rfl, _, Imp.refl _, ?_⟩
      exact .one (.tmp rfl)
end Go.Proofs.YtdnmoggifjlbiaaGreat.AM
/- Dense matrices: walks: made, Turn, Mul. -/
namespace Go.Proofs.YtdnmoggifjlbiaaGreat.AM
open Go Go.RowKit Go.Proofs.YtdnmoggifjlbiaaGreat.PN Go.Proofs.YtdnmoggifjlbiaaGreat.V
open Go.Proofs.YtdnmoggifjlbiaaGreat.LA (S S_succ S_zero S_congr)
set_option linter.unusedVariables false
set_option linter.unusedSimpArgs false
end Go.Proofs.YtdnmoggifjlbiaaGreat.AM
/- Dense matrices: walks: the steps on rows. -/
namespace Go.Proofs.YtdnmoggifjlbiaaGreat.AM
open Go Go.RowKit Go.Proofs.YtdnmoggifjlbiaaGreat.PN Go.Proofs.YtdnmoggifjlbiaaGreat.V
open Go.Proofs.YtdnmoggifjlbiaaGreat.LA (S S_succ S_zero S_congr)
set_option linter.unusedVariables false
set_option linter.unusedSimpArgs false
set_option maxRecDepth 4000
set_option maxHeartbeats 2000000
theorem d_nought {p : Rat} : Has Tryz.prog 169 [.q p] (.b (decide (p = 0))) := by
  refine has_of Tryz.func169 (by kernel_rfl) rfl Tryz.ntmps169 Tryz.results169 rfl rfl rfl ?_
  refine run0 ?_
  refine ⟨.inr rfl, _, Imp.refl _, ?_⟩
  have e : decide ((size (nm p) : Int) = 0) = decide (p = 0) := by simp [size_eq_zero, nm_eq_zero]
  refine .one (.tmp ?_)
  exact congrArg (fun b => some (AV.b b)) e
/-- The variable that bears rows, and a determinant. -/
def wk (d : Rat) : Nat → AV := fun i => match i with
  | 0 => .own 61 0
  | 1 => .rs (.q d)
  | 2 => .rn (.q d)
  | _ => .rd (.q d)
abbrev WH (n m : Nat) (d : Rat) (π : Nat → Nat) (A : Nat → Nat → Rat) : List (Nat × Fam) :=
  [(60, (1, fun _ => .ones 118 4 (wk d))), (61, (1, fun _ => .ones WT n (fun i => .own 62 (π i)))), (62, (n, fun r => .rats m (fun j => .q (A r j))))]
theorem wk_upd {d d' : Rat} : ∀ i, i < 4 → upd3 (wk d) 1 (.q d') i = wk d' i := fun i hi => by
  match i, hi with
  | 0, _ => rfl
  | 1, _ => rfl
  | 2, _ => rfl
  | 3, _ => rfl
theorem wk_ok {U : Nat → Bool} (hU : U 61 = true) (d : Rat) : ∀ i, (wk d i).ok U := fun i => by
  match i with
  | 0 => exact hU
  | 1 => trivial
  | 2 => trivial
  | _ + 3 => trivial
theorem imp_WH {s : St} {e : List (Nat × AV)} {n m : Nat} {d : Rat} {π : Nat → Nat} {A : Nat → Nat → Rat} {F0 F1 F2 : Nat → Blk} {f0 f1 : Nat → AV} (h0 : s.heap 60 = some (1, F0)) (e0 : F0 0 = .ones 118 4 f0) (g0 : ∀ i, i < 4 → f0 i = wk d i)
    (h1 : s.heap 61 = some (1, F1)) (e1 : F1 0 = .ones WT n f1) (g1 : ∀ i, i < n → f1 i = .own 62 (π i)) (h2 : s.heap 62 = some (n, F2)) (g2 : ∀ r, r < n → BLe idR (F2 r) (.rats m fun j => .q (A r j)))
    (he : AllE s idR (fun g => memN g [60, 61, 62]) e) : Imp s (stl e (WH n m d π A)) := by
  refine imp_id (h := WH n m d π A) he ⟨fun r hr => ?_, fun r hr => ?_, fun r hr => ?_, trivial⟩ (by cases s.used 60 <;> rfl)
  · obtain rfl : r = 0 := by omega
    refine ⟨1, F0, h0, by decide, ?_, fun i hi => wk_ok rfl d i⟩
    show BLe idR (F0 0) _
    rw [e0]; exact bleo rfl fun i hi => Le.id (g0 i hi)
  · obtain rfl : r = 0 := by omega
    refine ⟨1, F1, h1, by decide, ?_, fun i hi => rfl⟩
    show BLe idR (F1 0) _
    rw [e1]; exact bleo rfl fun i hi => Le.id (g1 i hi)
  · exact ⟨n, F2, h2, hr, g2 r hr, trivial⟩
theorem d_pivot_no {n m at' col : Nat} {d : Rat} {π : Nat → Nat} {A : Nat → Nat → Rat} (hn : n ≤ 8) (hm : m ≤ 9) (hc : col < m) (hπ : ∀ i, i < n → π i < n) (ha : at' ≤ n) (h0 : ∀ i, at' ≤ i → i < n → A (π i) col = 0) :
    HasH Tryz.prog 145 (WH n m d π A) [.ptr 60 0 0, .i at', .i col] (.b false) (WH n m d π A) := by
  refine hasH_of Tryz.func145 (by kernel_rfl) rfl Tryz.ntmps145 Tryz.results145 True.intro rfl rfl ?_
  refine run0 ?_
  refine awp_loop (fun m' s => ∃ k, at' ≤ k ∧ k ≤ n ∧ m' = n - k ∧ s = stl [(0, .ptr 60 0 0), (1, .i at'), (2, .i col), (7, .i (k : Int))] (WH n m d π A)) (n - at') _ (imp_WH rfl rfl (fun _ _ => rfl) rfl rfl (fun _ _ => rfl) rfl (fun r hr => blen rfl fun _ _ => rfl) ?_) ⟨at', Nat.le_refl _, ha, rfl, rfl⟩ ?_
  · exact eA
  · rintro m' s ⟨k, hk1, hk, rfl, rfl⟩
    refine run0 ?_
    refine awp_if rfl (fun h => ?_) (fun h => ?_)
    · have h' : (k : Int) < n := h
      have h : k < n := by omega
      have hp := hπ k h
      repeat(first|refine run1 ?_|((with_reducible apply st_call);exact rfl;exact rfl;exact rfl;first|(exact d_nought))|((with_reducible apply st_callg);exact rfl;exact rfl;(first|exact rfl|assumption);exact rfl;exact rfl;exact rfl;first|(exact d_nought)))
      refine awp_yes rfl ?_ ?_
      · exact decide_eq_true (h0 k hk1 h)
      refine run0 ?_
      refine q_loop ?_ (imp_WH rfl rfl (fun _ _ => rfl) rfl rfl (fun _ _ => rfl) rfl (fun r hr => blen rfl fun _ _ => rfl) ?_) ⟨k + 1, ?_, ?_, rfl, rfl⟩
      · omega
      · exact eA
      · omega
      · omega
    · refine run0 ?_
      refine ⟨.inr rfl, [(6, .b false)], imp_WH rfl rfl (fun _ _ => rfl) rfl rfl (fun _ _ => rfl) rfl (fun r hr => blen rfl fun _ _ => rfl) ?_, .one (.tmp rfl)⟩
      exact eA
def swp (π : Nat → Nat) (i j : Nat) : Nat → Nat := updN (updN π i (π j)) j (π i)
theorem swp_own {π : Nat → Nat} {i j g : Nat} (k : Nat) : updN (updN (fun i => AV.own g (π i)) i (.own g (π j))) j (.own g (π i)) k = .own g (swp π i j k) := by
  unfold swp updN
  by_cases h1 : k = j
  · rw [if_pos h1, if_pos h1]
  · rw [if_neg h1, if_neg h1]
    by_cases h2 : k = i
    · rw [if_pos h2, if_pos h2]
    · rw [if_neg h2, if_neg h2]
theorem swp_self (π : Nat → Nat) (i k : Nat) : swp π i i k = π k := by
  unfold swp updN
  by_cases h : k = i
  · rw [if_pos h, h]
  · rw [if_neg h, if_neg h]
theorem swp_at (π : Nat → Nat) (i j : Nat) : swp π i j j = π i := updN_same _ _ _
def det1 (d : Rat) (i at' : Nat) : Rat := if i = at' then d else -d
theorem d_pivot_yes {n m at' col K L i : Nat} {d : Rat} {π : Nat → Nat} {A : Nat → Nat → Rat} [hA : ∀ i j, Wt (A i j) K] [hd : Wt d L] (hK : K ≤ 1000000000) (hL : L ≤ 1000000000) (hn : n ≤ 8) (hm : m ≤ 9) (hc : col < m) (hπ : ∀ i, i < n → π i < n) (ha : at' ≤ i) (hi : i < n) (h0 : ∀ j, at' ≤ j → j < i → A (π j) col = 0) (h1 : A (π i) col ≠ 0) :
    HasH Tryz.prog 145 (WH n m d π A) [.ptr 60 0 0, .i at', .i col] (.b true) (WH n m (det1 d i at' * A (π i) col) (swp π i at') A) := by
  refine hasH_of Tryz.func145 (by kernel_rfl) rfl Tryz.ntmps145 Tryz.results145 True.intro rfl rfl ?_
  refine run0 ?_
  refine awp_loop (fun m' s => ∃ k, at' ≤ k ∧ k ≤ i ∧ m' = n - k ∧ s = stl [(0, .ptr 60 0 0), (1, .i at'), (2, .i col), (7, .i (k : Int))] (WH n m d π A)) (n - at') _ (imp_WH rfl rfl (fun _ _ => rfl) rfl rfl (fun _ _ => rfl) rfl (fun r hr => blen rfl fun _ _ => rfl) ?_) ⟨at', Nat.le_refl _, ha, rfl, rfl⟩ ?_
  · exact eA
  · rintro m' s ⟨k, hk1, hk, rfl, rfl⟩
    refine run0 ?_
    refine awp_if rfl (fun h => ?_) (fun h => ?_)
    · have hp := hπ k (by omega)
      repeat(first|refine run1 ?_|((with_reducible apply st_call);exact rfl;exact rfl;exact rfl;first|(exact d_nought))|((with_reducible apply st_callg);exact rfl;exact rfl;(first|exact rfl|assumption);exact rfl;exact rfl;exact rfl;first|(exact d_nought)))
      by_cases hki : k = i
      · subst hki
        refine awp_no rfl ?_ ?_
        · exact decide_eq_false h1
        refine run0 ?_
        have hpa := hπ at' (by omega)
        have hps : swp π k at' at' < n := by rw [swp_at]; exact hp
        refine awp_if rfl (fun h => ?_) (fun h => ?_)
        · have e1 : det1 d k at' = -d := if_neg (by omega)
          rw [e1, ← swp_at π k at']
          refine run2 ?_
          refine run3 ?_
          repeat(first|refine run4 ?_|((with_reducible apply st_call);exact rfl;exact rfl;exact rfl;first|(exact c_neg (by omega)))|((with_reducible apply st_callg);exact rfl;exact rfl;(first|exact rfl|assumption);exact rfl;exact rfl;exact rfl;first|(exact c_neg (by omega))))
          refine awp_imp (imp_WH (n := n) (m := m) (d := -d) (π := swp π k at') (A := A) (e := [(0, .ptr 60 0 0), (1, .i at'), (2, .i col)]) rfl rfl wk_upd rfl rfl (fun _ _ => swp_own _) rfl (fun r hr => blen rfl fun _ _ => rfl) ?_) ?_
          · exact eA
          repeat(first|refine run1 ?_|((with_reducible apply st_call);exact rfl;exact rfl;exact rfl;first|(exact c_mul ⟨by omega, by omega⟩))|((with_reducible apply st_callg);exact rfl;exact rfl;(first|exact rfl|assumption);exact rfl;exact rfl;exact rfl;first|(exact c_mul ⟨by omega, by omega⟩)))
          refine ⟨.inr rfl, [(6, .b true)], imp_WH rfl rfl wk_upd rfl rfl (fun _ _ => rfl) rfl (fun r hr => blen rfl fun _ _ => rfl) ?_, .one (.tmp rfl)⟩
          exact eA
        · obtain rfl : k = at' := by omega
          have e1 : det1 d k k = d := if_pos rfl
          rw [e1]
          repeat(first|refine run1 ?_|((with_reducible apply st_call);exact rfl;exact rfl;exact rfl;first|(exact c_mul ⟨by omega, by omega⟩))|((with_reducible apply st_callg);exact rfl;exact rfl;(first|exact rfl|assumption);exact rfl;exact rfl;exact rfl;first|(exact c_mul ⟨by omega, by omega⟩)))
          refine ⟨.inr rfl, [(6, .b true)], imp_WH rfl rfl wk_upd rfl rfl (fun _ _ => congrArg _ (swp_self _ _ _).symm) rfl (fun r hr => blen rfl fun _ _ => rfl) ?_, .one (.tmp rfl)⟩
          exact eA
      · have hlt : k < i := by omega
        refine awp_yes rfl ?_ ?_
        · exact decide_eq_true (h0 k hk1 hlt)
        refine run0 ?_
        refine q_loop ?_ (imp_WH rfl rfl (fun _ _ => rfl) rfl rfl (fun _ _ => rfl) rfl (fun r hr => blen rfl fun _ _ => rfl) ?_) ⟨k + 1, ?_, ?_, rfl, rfl⟩
        · omega
        · exact eA
        · omega
        · omega
    · exact absurd (show (k : Int) < n by omega) h
end Go.Proofs.YtdnmoggifjlbiaaGreat.AM
/- Dense matrices: walks: a row is taken away from another one. -/
namespace Go.Proofs.YtdnmoggifjlbiaaGreat.AM
open Go Go.RowKit Go.Proofs.YtdnmoggifjlbiaaGreat.PN Go.Proofs.YtdnmoggifjlbiaaGreat.V
open Go.Proofs.YtdnmoggifjlbiaaGreat.LA (S S_succ S_zero S_congr)
set_option linter.unusedVariables false
set_option linter.unusedSimpArgs false
set_option maxRecDepth 4000
set_option maxHeartbeats 2000000
theorem imp_WHt {s : St} {e : List (Nat × AV)} {t : List (Nat × Fam)} {n m : Nat} {d : Rat} {π : Nat → Nat} {A : Nat → Nat → Rat} {F0 F1 F2 : Nat → Blk} {f0 f1 : Nat → AV} (h0 : s.heap 60 = some (1, F0)) (e0 : F0 0 = .ones 118 4 f0) (g0 : ∀ i, i < 4 → f0 i = wk d i)
    (h1 : s.heap 61 = some (1, F1)) (e1 : F1 0 = .ones WT n f1) (g1 : ∀ i, i < n → f1 i = .own 62 (π i)) (h2 : s.heap 62 = some (n, F2)) (g2 : ∀ r, r < n → BLe idR (F2 r) (.rats m fun j => .q (A r j)))
    (he : AllE s idR (fun g => memN g (60 :: 61 :: 62 :: keys t)) e) (ht : AllH s idR (fun g => memN g (60 :: 61 :: 62 :: keys t)) t) : Imp s (stl e (WH n m d π A ++ t)) := by
  refine imp_id (h := WH n m d π A ++ t) he ⟨fun r hr => ?_, fun r hr => ?_, fun r hr => ?_, ht⟩ (by cases s.used 60 <;> rfl)
  · obtain rfl : r = 0 := by omega
    refine ⟨1, F0, h0, by decide, ?_, fun i hi => wk_ok rfl d i⟩
    show BLe idR (F0 0) _
    rw [e0]; exact bleo rfl fun i hi => Le.id (g0 i hi)
  · obtain rfl : r = 0 := by omega
    refine ⟨1, F1, h1, by decide, ?_, fun i hi => rfl⟩
    show BLe idR (F1 0) _
    rw [e1]; exact bleo rfl fun i hi => Le.id (g1 i hi)
  · exact ⟨n, F2, h2, hr, g2 r hr, trivial⟩
/-- A row, less a multiple of another one from a column on, up to k. -/
def clr (A : Nat → Nat → Rat) (q : Rat) (a b col k : Nat) : Nat → Nat → Rat := fun r j => if r = a ∧ col ≤ j ∧ j < k then A a j - q * A b j else A r j
theorem clr_wt {A : Nat → Nat → Rat} {q : Rat} {a b col k K : Nat} [hA : ∀ i j, Wt (A i j) K] [hq : Wt q (K + K)] (r j : Nat) : Wt (clr A q a b col k r j) (4 * K + 1) := by
  unfold clr
  split
  · exact (inferInstance : Wt (A a j - q * A b j) (K + (K + K + K) + 1)).mono (by omega)
  · exact (hA r j).mono (by omega)
theorem clr_step {A : Nat → Nat → Rat} {q : Rat} {a b col k : Nat} (hab : a ≠ b) (hk : col ≤ k) (r j : Nat) : (if r = a ∧ j = k then clr A q a b col k a k - q * clr A q a b col k b k else clr A q a b col k r j) = clr A q a b col (k + 1) r j := by
  unfold clr
  by_cases h1 : r = a
  · subst h1
    by_cases h2 : j = k
    · subst h2
      rw [if_pos ⟨rfl, rfl⟩, if_neg (by omega), if_neg (fun h => hab h.1.symm), if_pos ⟨rfl, hk, by omega⟩]
    · rw [if_neg (by omega)]
      by_cases h3 : col ≤ j ∧ j < k
      · rw [if_pos ⟨rfl, h3⟩, if_pos ⟨rfl, by omega, by omega⟩]
      · rw [if_neg (fun h => h3 h.2), if_neg (by omega)]
  · rw [if_neg (fun h => h1 h.1), if_neg (fun h => h1 h.1), if_neg (fun h => h1 h.1)]
theorem clr_none {A : Nat → Nat → Rat} {q : Rat} {a b col r j : Nat} : clr A q a b col col r j = A r j := by
  unfold clr; rw [if_neg (by omega)]
theorem clr_zero {A : Nat → Nat → Rat} {q : Rat} {a b col k r j : Nat} (h : q = 0) : clr A q a b col k r j = A r j := by
  unfold clr
  split
  · rename_i h1; rw [h, h1.1, Rat.zero_mul]; exact by rw [Rat.sub_eq_add_neg, Rat.neg_zero, Rat.add_zero]
  · rfl
theorem clr_blk {C C' : Nat → Nat → Rat} {m a k : Nat} {x : Rat} (h : ∀ r j, (if r = a ∧ j = k then x else C r j) = C' r j) (r : Nat) : BLe idR (updN (fun r => Blk.rats m fun j => .q (C r j)) a (.rats m (updN (fun j => .q (C a j)) k (.q x))) r) (.rats m fun j => .q (C' r j)) := by
  by_cases e : r = a
  · subst e
    rw [updN_same]
    refine blen rfl fun j hj => ?_
    rw [← h r j]
    unfold updN
    by_cases e2 : j = k
    · rw [if_pos e2, if_pos ⟨rfl, e2⟩]
    · rw [if_neg e2, if_neg (fun h => e2 h.2)]
  · rw [updN_ne _ _ e]
    refine blen rfl fun j hj => ?_
    rw [← h r j, if_neg (fun h => e h.1)]
theorem d_clean {n m i at' col K : Nat} {d : Rat} {π : Nat → Nat} {A : Nat → Nat → Rat} [hA : ∀ i j, Wt (A i j) K] (hK : K ≤ 1000000000) (hn : n ≤ 8) (hm : m ≤ 9) (hc : col < m) (hi : i < n) (ha : at' < n) (hpi : π i < n) (hpa : π at' < n) (hne : π i ≠ π at') (h0 : A (π at') col ≠ 0) :
    HasH Tryz.prog 146 (WH n m d π A) [.ptr 60 0 0, .i i, .i at', .i col] (.v (.tuple #[])) (WH n m d π (clr A (A (π i) col / A (π at') col) (π i) (π at') col m)) := by
  refine hasH_of Tryz.func146 (by kernel_rfl) rfl Tryz.ntmps146 Tryz.results146 True.intro rfl rfl ?_
  repeat(first|refine run1 ?_|((with_reducible apply st_call);exact rfl;exact rfl;exact rfl;first|(exact c_quo ⟨by omega, by omega⟩ h0)|(exact d_nought))|((with_reducible apply st_callg);exact rfl;exact rfl;(first|exact rfl|assumption);exact rfl;exact rfl;exact rfl;first|(exact c_quo ⟨by omega, by omega⟩ h0)|(exact d_nought)))
  have wq : Wt (A (π i) col / A (π at') col) (K + K) := inferInstance
  refine awp_if rfl (fun h => ?_) (fun h => ?_)
  · refine run0 ?_
    refine ⟨.inr rfl, [], imp_WH rfl rfl (fun _ _ => rfl) rfl rfl (fun _ _ => rfl) rfl (fun r hr => blen rfl fun _ _ => congrArg RA.q (clr_zero h).symm) ?_, .none⟩
    exact eA
  · refine run0 ?_
    generalize hq : A (π i) col / A (π at') col = q at *
    have w : ∀ k r j, Wt (clr A q (π i) (π at') col k r j) (4 * K + 1) := fun k r j => clr_wt r j
    refine awp_loop (fun m' s => ∃ k, col ≤ k ∧ k ≤ m ∧ m' = m - k ∧ s = stl [(0, .ptr 60 0 0), (1, .i i), (2, .i at'), (3, .i col), (8, .rptr 8 0 0), (10, .i (k : Int))] (WH n m d π (clr A q (π i) (π at') col k) ++ [(8, (1, fun _ => .rats 1 fun _ => .q q))])) (m - col) _ (imp_WHt rfl rfl (fun _ _ => rfl) rfl rfl (fun _ _ => rfl) rfl (fun r hr => blen rfl fun _ _ => congrArg RA.q clr_none.symm) ?_ ?_) ⟨col, Nat.le_refl _, by omega, rfl, rfl⟩ ?_
    · exact eA
    · refine allh rfl (by decide) (ble1 (congrArg RA.q hq)) True.intro True.intro
    · rintro m' s ⟨k, hk1, hk, rfl, rfl⟩
      have hwk := w k
      refine run0 ?_
      refine awp_if rfl (fun h => ?_) (fun h => ?_)
      · have h' : (k : Int) < m := h
        have h : k < m := by omega
        repeat(first|refine run1 ?_|((with_reducible apply st_call);exact rfl;exact rfl;exact rfl;first|(exact c_mul ⟨by omega, by omega⟩)|(exact c_sub ⟨by omega, by omega⟩))|((with_reducible apply st_callg);exact rfl;exact rfl;(first|exact rfl|assumption);exact rfl;exact rfl;exact rfl;first|(exact c_mul ⟨by omega, by omega⟩)|(exact c_sub ⟨by omega, by omega⟩)))
        refine q_loop ?_ (imp_WHt rfl rfl (fun _ _ => rfl) rfl rfl (fun _ _ => rfl) rfl (fun r hr => clr_blk (clr_step hne hk1) r) ?_ ?_) ⟨k + 1, ?_, ?_, rfl, rfl⟩
        · omega
        · exact eA
        · refine allh rfl (by decide) (ble1 rfl) True.intro True.intro
        · omega
        · omega
      · have h' : ¬ (k : Int) < m := h
        obtain rfl : k = m := by omega
        refine run0 ?_
        refine ⟨.inl rfl, [], imp_WH rfl rfl (fun _ _ => rfl) rfl rfl (fun _ _ => rfl) rfl (fun r hr => blen rfl fun _ _ => rfl) ?_, .none⟩
        exact eA
end Go.Proofs.YtdnmoggifjlbiaaGreat.AM

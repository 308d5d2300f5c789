/- Joined texts, 20: TuB PFa FsA DnA DnB DnC FsB QuZ LvA LvB LvC LvD LawC DnD DnE DnF DnG PElim. -/
import Derived.Test.YtdnmoggifjlbiaaGreatJLawTurnedSums19
import Derived.Test.YtdnmoggifjlbiaaGreatJLawTurnedSums18
import Derived.Test.YtdnmoggifjlbiaaGreatJLawTurnedSums12
import Derived.Test.YtdnmoggifjlbiaaGreatJLawTurnedSums17
import Derived.Test.YtdnmoggifjlbiaaGreatJLawTurnedSums13
import Derived.Test.YtdnmoggifjlbiaaGreatJLawTurnedSums14
import Derived.Test.YtdnmoggifjlbiaaGreatJLawTurnedSums16
import Derived.Test.YtdnmoggifjlbiaaGreatJLawTurnedSums15
set_option linter.unusedVariables false
set_option linter.unusedSimpArgs false
/- Package turned: what a system is as a Toeplitz one. -/
namespace Go.Proofs.YtdnmoggifjlbiaaGreat.AM
open Go Go.RowKit Go.Proofs.YtdnmoggifjlbiaaGreat.PN Go.Proofs.YtdnmoggifjlbiaaGreat.V
open Go.Proofs.YtdnmoggifjlbiaaGreat.LA (S S_succ S_zero S_congr)
set_option linter.unusedVariables false
set_option linter.unusedSimpArgs false
set_option maxRecDepth 8000
set_option maxHeartbeats 8000000
def gT (g : GD) : GD := ⟨1, g.n, 0, 2 * g.n - 1, 0, 0, 0, fun i => if g.k = 3 then g.A ((i + 1) % g.n) else g.A i, fun _ => 0, fun _ => 0, fun _ => 0⟩
/-- A Toeplitz struct, its first row as it stands. -/
def fT (n : Nat) (x : AV) (i : Nat) : AV := [AV.i 1, .i n, .i 0, x, .v (.slice none 0 0), .v (.slice none 0 0), .v (.slice none 0 0)].getD i (.v undef)
theorem fTok {n : Nat} {x : AV} {U : Nat → Bool} (hx : x.ok U) : ∀ i, (fT n x i).ok U
  | 0 | 1 | 2 | 4 | 5 | 6 => trivial
  | 3 => hx
  | _ + 7 => trivial
/-- .. and none. -/
def f00 (i : Nat) : AV := [AV.i 0, .i 0, .i 0, .v (.slice none 0 0), .v (.slice none 0 0), .v (.slice none 0 0), .v (.slice none 0 0)].getD i (.v undef)
theorem f00ok {U : Nat → Bool} : ∀ i, (f00 i).ok U
  | 0 | 1 | 2 | 3 | 4 | 5 | 6 => trivial
  | _ + 7 => trivial
abbrev gTv (g : GD) : AV := .ag 7 (fT g.n (.row true (2 * g.n - 1) fun i => .q ((gT g).A i)))
theorem t_toe {g : GD} (h : g.OK) (hk : g.k ≤ 3) : Has Tryz.prog 49 [g.v] (gTv g) := by
  have n1 := h.n1; have n8 := h.n8; have k1 := h.k1
  obtain ⟨m1, m2, _, _⟩ := ok_lens h
  have hcl : (gTv g).closed = true := rfl
  refine has_of Tryz.func49 (by kernel_rfl) rfl Tryz.ntmps49 Tryz.results49 rfl hcl rfl ?_
  repeat(first|refine run1p ?_|((with_reducible apply st_call);exact rfl;exact rfl;exact rfl;first|(exact Has.ag (g7 rfl rfl rfl rfl rfl rfl rfl) (g_check h)))|((with_reducible apply st_callg);exact rfl;exact rfl;(first|exact rfl|assumption);exact rfl;exact rfl;exact rfl;first|(exact Has.ag (g7 rfl rfl rfl rfl rfl rfl rfl) (g_check h))))
  refine awp_no rfl rfl ?_
  refine run0p ?_
  by_cases e3 : g.k = 3
  · have hla : g.la = g.n := m2 (.inl e3)
    obtain ⟨m, hm⟩ : ∃ m, g.n = m + 1 := ⟨g.n - 1, by omega⟩
    have hla2 : g.la = m + 1 := by omega
    have cx : Has Tryz.prog 87 [.row false g.la (fun i => .q (g.A i))] (.rowx (m + 1) fun i => .q (g.A i)) := by
      rw [← hla2]
      exact t_own (n := g.la) (f := g.A) true (fun i hi => Nat.le_trans (h.sm.A i hi) (by decide)) (by omega)
    have cr : Has Tryz.prog 87 [.row false g.la (fun i => .q (g.A i))] (.row true g.la fun i => .q (g.A i)) := t_own (n := g.la) (f := g.A) false (fun i hi => Nat.le_trans (h.sm.A i hi) (by decide)) (by omega)
    refine awp_no rfl (decide_eq_false (by omega)) ?_
    refine run0p ?_
    refine awp_no rfl (decide_eq_false (by omega)) ?_
    refine run0p ?_
    refine awp_yes rfl (decide_eq_true (by omega)) ?_
    repeat(first|refine run1p ?_|((with_reducible apply st_call);exact rfl;exact rfl;exact rfl;first|(exact cx))|((with_reducible apply st_callg);exact rfl;exact rfl;(first|exact rfl|assumption);exact rfl;exact rfl;exact rfl;first|(exact cx)))
    refine st_lok (ok_slice_tail rfl rfl) ?_
    repeat(first|refine run1p ?_|((with_reducible apply st_call);exact rfl;exact rfl;exact rfl;first|(exact cr))|((with_reducible apply st_callg);exact rfl;exact rfl;(first|exact rfl|assumption);exact rfl;exact rfl;exact rfl;first|(exact cr)))
    refine st_lok (ok_append_full (g := 30) (m := g.la) rfl rfl rfl rfl rfl (by decide) (by omega) (by omega)) ?_
    refine run0p ?_
    refine ⟨.inr rfl, stl [(2, .ptr 2 0 0)] [(2, (1, fun _ => .ones 26 7 (fT g.n (.row true (2 * g.n - 1) fun i => .q ((gT g).A i)))))], (imp_pub 2 3 rfl rfl (by decide) rfl rfl rfl (by decide)).trans (imp_id ?_ ?_), .one (.agg rfl rfl rfl rfl (by decide) rfl rfl)⟩
    · exact eA
    · refine allh rfl (by decide) (le7 (Le.id rfl) (Le.id rfl) (Le.id rfl) (Le.row (by omega) (fun i hi => ?_) fun h => h) (Le.id rfl) (Le.id rfl) (Le.id rfl)) (fun i _ => fTok (by exact True.intro) i) True.intro
      show glue m (fun i => RA.q (g.A (i + 1))) (fun i => RA.q (g.A i)) i = RA.q (if g.k = 3 then g.A ((i + 1) % g.n) else g.A i)
      have hi : i < m + g.la := hi
      rw [if_pos e3]
      unfold glue
      by_cases c : i < m
      · rw [if_pos c, Nat.mod_eq_of_lt (show i + 1 < g.n by omega)]
      · rw [if_neg c, show i + 1 = (i - m) + g.n by omega, Nat.add_mod_right, Nat.mod_eq_of_lt (show i - m < g.n by omega)]
  · have hla : g.la = 2 * g.n - 1 := m1 (by omega)
    have cr : Has Tryz.prog 87 [.row false g.la (fun i => .q (g.A i))] (.row true g.la fun i => .q (g.A i)) := t_own (n := g.la) (f := g.A) false (fun i hi => Nat.le_trans (h.sm.A i hi) (by decide)) (by omega)
    by_cases e1 : g.k = 1
    · refine awp_yes rfl (decide_eq_true (by omega)) ?_
      refine run0p ?_
      refine awp_yes rfl (decide_eq_true (by omega)) ?_
      repeat(first|refine run1p ?_|((with_reducible apply st_call);exact rfl;exact rfl;exact rfl;first|(exact cr))|((with_reducible apply st_callg);exact rfl;exact rfl;(first|exact rfl|assumption);exact rfl;exact rfl;exact rfl;first|(exact cr)))
      refine ⟨.inr rfl, stl [(2, .ptr 2 0 0)] [(2, (1, fun _ => .ones 26 7 (fT g.n (.row true (2 * g.n - 1) fun i => .q ((gT g).A i)))))], imp_id ?_ ?_, .one (.agg rfl rfl rfl rfl (by decide) rfl rfl)⟩
      · exact eA
      · exact allh rfl (by decide) (le7 (Le.id rfl) (Le.id rfl) (Le.id rfl) (Le.row (by omega) (fun i hi => congrArg RA.q (show g.A i = if g.k = 3 then g.A ((i + 1) % g.n) else g.A i by rw [if_neg e3])) fun h => h) (Le.id rfl) (Le.id rfl) (Le.id rfl)) (fun i _ => fTok (by exact True.intro) i) True.intro
    · refine awp_no rfl (decide_eq_false (by omega)) ?_
      refine run0p ?_
      refine awp_yes rfl (decide_eq_true (by omega)) ?_
      repeat(first|refine run1p ?_|((with_reducible apply st_call);exact rfl;exact rfl;exact rfl;first|(exact cr))|((with_reducible apply st_callg);exact rfl;exact rfl;(first|exact rfl|assumption);exact rfl;exact rfl;exact rfl;first|(exact cr)))
      refine ⟨.inr rfl, stl [(2, .ptr 2 0 0)] [(2, (1, fun _ => .ones 26 7 (fT g.n (.row true (2 * g.n - 1) fun i => .q ((gT g).A i)))))], imp_id ?_ ?_, .one (.agg rfl rfl rfl rfl (by decide) rfl rfl)⟩
      · exact eA
      · exact allh rfl (by decide) (le7 (Le.id rfl) (Le.id rfl) (Le.id rfl) (Le.row (by omega) (fun i hi => congrArg RA.q (show g.A i = if g.k = 3 then g.A ((i + 1) % g.n) else g.A i by rw [if_neg e3])) fun h => h) (Le.id rfl) (Le.id rfl) (Le.id rfl)) (fun i _ => fTok (by exact True.intro) i) True.intro
theorem t_toe_no {g : GD} (h : g.OK) (hk : 3 < g.k) : Has Tryz.prog 49 [g.v] (.ag 7 f00) := by
  refine has_of Tryz.func49 (by kernel_rfl) rfl Tryz.ntmps49 Tryz.results49 rfl (by rfl) rfl ?_
  repeat(first|refine run1p ?_|((with_reducible apply st_call);exact rfl;exact rfl;exact rfl;first|(exact Has.ag (g7 rfl rfl rfl rfl rfl rfl rfl) (g_check h)))|((with_reducible apply st_callg);exact rfl;exact rfl;(first|exact rfl|assumption);exact rfl;exact rfl;exact rfl;first|(exact Has.ag (g7 rfl rfl rfl rfl rfl rfl rfl) (g_check h))))
  refine awp_no rfl rfl ?_
  refine run0p ?_
  refine awp_no rfl (decide_eq_false (by omega)) ?_
  refine run0p ?_
  refine awp_no rfl (decide_eq_false (by omega)) ?_
  refine run0p ?_
  refine awp_no rfl (decide_eq_false (by omega)) ?_
  refine run0p ?_
  refine ⟨.inr rfl, stl [(2, .ptr 2 0 0)] [(2, (1, fun _ => .ones 26 7 f00))], imp_id ?_ ?_, .one (.agg rfl rfl rfl rfl (by decide) rfl rfl)⟩
  · exact eA
  · exact allh rfl (by decide) (le7 (Le.id rfl) (Le.id rfl) (Le.id rfl) (Le.id rfl) (Le.id rfl) (Le.id rfl) (Le.id rfl)) (fun i _ => f00ok i) True.intro
end Go.Proofs.YtdnmoggifjlbiaaGreat.AM
/- Displaced matrices. -/
namespace Go.Proofs.YtdnmoggifjlbiaaGreat.AM
open Go.Proofs.YtdnmoggifjlbiaaGreat.PN
open Go.Proofs.YtdnmoggifjlbiaaGreat.LA (S S_succ S_zero S_congr S_first S_null Mt HasRank rank_le)
set_option linter.unusedVariables false
set_option linter.unusedSimpArgs false
set_option maxRecDepth 8000
set_option maxHeartbeats 8000000
/-- An entry; nought outside. -/
def gat (g : GD) (a b : Int) : Rat := if a < 0 ∨ b < 0 ∨ (g.n : Int) ≤ a ∨ (g.n : Int) ≤ b then 0 else gent g a.toNat b.toNat
/-- The displaced matrix. -/
def gdis (g : GD) (i j : Nat) : Rat :=
  match g.k with
  | 2 => gat g ((i : Int) - 1) j - gat g i ((j : Int) - 1)
  | 4 => g.A i * gat g i j - gat g i ((j : Int) + 1)
  | 5 => (g.A i - g.B j) * gat g i j
  | 7 => (g.A i - g.B j) * gat g i j
  | _ => gat g i j - gat g ((i : Int) - 1) ((j : Int) - 1)
/-- .. as a whole matrix. -/
def gdc (g : GD) (i j : Nat) : Rat := if i < g.n ∧ j < g.n then gdis g i j else 0
end Go.Proofs.YtdnmoggifjlbiaaGreat.AM
/- Package fast: entries, displaced. -/
namespace Go.Proofs.YtdnmoggifjlbiaaGreat.AM
open Go Go.RowKit Go.Proofs.YtdnmoggifjlbiaaGreat.PN Go.Proofs.YtdnmoggifjlbiaaGreat.V
open Go.Proofs.YtdnmoggifjlbiaaGreat.LA (S S_succ S_zero S_congr)
set_option linter.unusedVariables false
set_option linter.unusedSimpArgs false
set_option maxRecDepth 8000
set_option maxHeartbeats 8000000
/-- A system, and its matrix. -/
def GD.bd (g : GD) (i : Nat) : AV := [AV.i g.k, .i g.n, .i g.r, .row false g.la (fun i => .q (g.A i)), .row false g.lb (fun i => .q (g.B i)), .row false g.lg (fun i => .q (g.G i)), .row false g.lh (fun i => .q (g.H i)), .mat false g.n (fun _ => g.n) (fun i j => .q (gent g i j))].getD i (.v undef)
def GD.bv (g : GD) : AV := .ag 8 g.bd
/-- How a kind is displaced. -/
def wayF (i : Nat) : FuncId := match i with
  | 1 => 99
  | 3 => 100
  | 4 => 101
  | 6 => 101
  | _ => 98
def wayT : List (Int × FuncId) := [(1, 98), (3, 98), (6, 98), (2, 99), (4, 100), (5, 101), (7, 101)]
end Go.Proofs.YtdnmoggifjlbiaaGreat.AM
/- Dense matrices: walks: zero, one, dot. -/
namespace Go.Proofs.YtdnmoggifjlbiaaGreat.AM
open Go Go.RowKit Go.Proofs.YtdnmoggifjlbiaaGreat.PN Go.Proofs.YtdnmoggifjlbiaaGreat.V
open Go.Proofs.YtdnmoggifjlbiaaGreat.LA (S S_succ S_zero S_congr)
set_option linter.unusedVariables false
set_option linter.unusedSimpArgs false
theorem d_one : Has Tryz.prog 144 [] (.q 1) := by
  refine Has.imp (r := .ra (.raw false [1] [1])) ?_ rfl (fun S B β w v => rv_one)
  refine has_of Tryz.func144 (by kernel_rfl) rfl Tryz.ntmps144 Tryz.results144 rfl rfl rfl ?_
  refine run0 ?_
  refine ⟨.inr rfl, _, Imp.refl _, ?_⟩
  exact .one (.rat rfl rfl (by decide) rfl (by decide) rfl)
end Go.Proofs.YtdnmoggifjlbiaaGreat.AM
/- Dense matrices: walks: right rows, square matrices, products with vectors. -/
namespace Go.Proofs.YtdnmoggifjlbiaaGreat.AM
open Go Go.RowKit Go.Proofs.YtdnmoggifjlbiaaGreat.PN Go.Proofs.YtdnmoggifjlbiaaGreat.V
open Go.Proofs.YtdnmoggifjlbiaaGreat.LA (S S_succ S_zero S_congr)
set_option linter.unusedVariables false
set_option linter.unusedSimpArgs false
theorem shape_u : Tryz.prog.underlying 137 = some (.array 2 3) := by kernel_rfl
theorem int_u : Tryz.prog.underlying 3 = some (.int .i64) := by kernel_rfl
theorem int_info : (Tryz.prog.info? 3).map (fun i => (i.zero, i.size, i.bytes)) = some (some (.int .i64 0), 1, 8) := by kernel_rfl
theorem run_eq_shape (w : World) (a b c d : Int) : (Op.equal 137 (.agg #[.int .i64 a, .int .i64 b]) (.agg #[.int .i64 c, .int .i64 d])).run Tryz.prog w = .ok (decide (a = c) && decide (b = d)) w := by
  obtain ⟨i0, hi, hz0, hz1, hz2⟩ := info_parts int_info
  have hint : ∀ (n : Nat) (x y : Int), (Op.equalIn (n + 1) 3 (.int .i64 x) (.int .i64 y)).run Tryz.prog w = .ok (decide (x = y)) w := by
    intro n x y
    simp [Op.equalIn, run_underlying int_u, beq_dec]
  have hp : ∀ (xs : Array Value) (o : Nat) (v : Value), xs[o]? = some v → (part 3 xs o).run Tryz.prog w = .ok v w := by
    intro xs o v h
    simp [part, isAgg, run_underlying int_u, h]
  have hp0 : ∀ x y : Int, (part 3 #[.int .i64 x, .int .i64 y] 0).run Tryz.prog w = .ok (.int .i64 x) w := fun x y => hp _ 0 _ rfl
  have hp1 : ∀ x y : Int, (part 3 #[.int .i64 x, .int .i64 y] 1).run Tryz.prog w = .ok (.int .i64 y) w := fun x y => hp _ 1 _ rfl
  unfold Op.equal
  rw [show Op.maxDepth = 9998 + 1 + 1 from rfl]
  unfold Op.equalIn
  rw [Sem.run_bind, run_underlying shape_u w]
  by_cases h1 : a = c <;> by_cases h2 : b = d <;>
  simp [sizeOf, typeInfo, hi, hz1, hint, hp0, hp1, h1, h2, Std.Legacy.Range.forIn_eq_forIn_range', List.range'_succ]
theorem pair_vals {S : Nat → Prop} {B : Nat} {β : Nat → Nat → Value} {w : World} {f : Nat → AV} {v : Value} {a b : Int} (h : RV S B β w (.ag 2 f) v) (h0 : f 0 = .i a) (h1 : f 1 = .i b) : v = .agg #[.int .i64 a, .int .i64 b] := by
  obtain ⟨cs, rfl, h2, h3⟩ := h
  obtain ⟨y0, e0, _, r0⟩ := h3 0 (by decide)
  obtain ⟨y1, e1, _, r1⟩ := h3 1 (by decide)
  rw [h0] at r0; rw [h1] at r1
  have r0 : y0 = .int .i64 a := r0
  have r1 : y1 = .int .i64 b := r1
  subst r0; subst r1
  obtain ⟨cs⟩ := cs
  match cs, h2 with
  | [x, y], _ => cases e0; cases e1; rfl
theorem ok_neq_shape {o : Oper} {s : St} {x y : Operand} {T' : TypeId} {f g : Nat → AV} {a b c d : Int} (ho : o.op = .binOp .neq 137 x y T') (hx : avo s x = some (.ag 2 f)) (hy : avo s y = some (.ag 2 g)) (h0 : f 0 = .i a) (h1 : f 1 = .i b) (h2 : g 0 = .i c) (h3 : g 1 = .i d) :
    LOK Tryz.prog o s ⟨some (.b (!(decide (a = c) && decide (b = d)))), [], []⟩ := by
  refine lok_val fun s2 hl W N β w ac hs => ⟨.bool (!(decide (a = c) && decide (b = d))), ?_, fun z hz => by cases hz; exact ⟨trivial, rfl⟩⟩
  have e1 := pair_vals (hs.opd (x := x) (by rw [hl.avo (by rw [ho]; simp [Op.operands])]; exact hx)).2 h0 h1
  have e2 := pair_vals (hs.opd (x := y) (by rw [hl.avo (by rw [ho]; simp [Op.operands])]; exact hy)).2 h2 h3
  have hg : (Tryz.prog.eqGuardType Tryz.prog.depth 137) = false := by kernel_rfl
  unfold execOp; rw [ho]; simp only []; rw [e1, e2]
  simp [eqGuard, binOp, program, Sem.run, hg, run_eq_shape]
theorem d_right {n K : Nat} {f : Nat → Rat} [hf : ∀ i, Wt (f i) K] (hK : K ≤ 1000000000000) (hn : n ≤ 1000000) : Has Tryz.prog 90 [.row false n (fun i => .q (f i))] (.b true) := by
  refine has_of Tryz.func90 (by kernel_rfl) rfl Tryz.ntmps90 Tryz.results90 rfl rfl rfl ?_
  refine run0 ?_
  refine awp_loop (fun m s => ∃ k, k ≤ n ∧ m = n - k ∧ s = stl [(0, .row false n (fun i => .q (f i))), (5, .row false n (fun i => .q (f i))), (6, .i (n : Int)), (7, .i (k : Int))] []) n _ (imp_id ?_ ?_) ⟨0, Nat.zero_le _, rfl, rfl⟩ ?_
  · exact eA
  · exact hA
  · rintro m s ⟨k, hk, rfl, rfl⟩
    refine run0 ?_
    refine awp_if rfl (fun h => ?_) (fun h => ?_)
    · have h : k < n := by omega
      repeat(first|refine run1 ?_|((with_reducible apply st_call);exact rfl;exact rfl;exact rfl;first|(exact c_right hK))|((with_reducible apply st_callg);exact rfl;exact rfl;(first|exact rfl|assumption);exact rfl;exact rfl;exact rfl;first|(exact c_right hK)))
      refine awp_no rfl rfl ?_
      refine run0 ?_
      refine q_loop ?_ (imp_id ?_ ?_) ⟨k + 1, ?_, rfl, rfl⟩
      · omega
      · exact eA
      · exact hA
      · omega
    · refine run0 ?_
      refine ⟨.inr rfl, _, Imp.refl _, ?_⟩
      exact .one (.tmp rfl)
end Go.Proofs.YtdnmoggifjlbiaaGreat.AM
/- Dense matrices: walks: square matrices, products with vectors. -/
namespace Go.Proofs.YtdnmoggifjlbiaaGreat.AM
open Go Go.RowKit Go.Proofs.YtdnmoggifjlbiaaGreat.PN Go.Proofs.YtdnmoggifjlbiaaGreat.V
open Go.Proofs.YtdnmoggifjlbiaaGreat.LA (S S_succ S_zero S_congr)
set_option linter.unusedVariables false
set_option linter.unusedSimpArgs false
theorem d_square {n K : Nat} {F : Nat → Nat → Rat} [hf : ∀ i j, Wt (F i j) K] (hK : K ≤ 1000000000000) (h0 : 0 < n) (hn : n ≤ 1000000) : Has Tryz.prog 89 [.mat false n (fun _ => n) (fun i j => .q (F i j))] (.b true) := by
  refine has_of Tryz.func89 (by kernel_rfl) rfl Tryz.ntmps89 Tryz.results89 rfl rfl rfl ?_
  refine run0 ?_
  refine awp_loop (fun m s => ∃ k, k ≤ n ∧ m = n - k ∧ s = stl [(0, .mat false n (fun _ => n) (fun i j => .q (F i j))), (3, .i (n : Int)), (8, .mat false n (fun _ => n) (fun i j => .q (F i j))), (9, .i (n : Int)), (10, .i (k : Int))] []) n _ (imp_id ?_ ?_) ⟨0, Nat.zero_le _, rfl, rfl⟩ ?_
  · exact eA
  · exact hA
  · rintro m s ⟨k, hk, rfl, rfl⟩
    refine run0 ?_
    refine awp_if rfl (fun h => ?_) (fun h => ?_)
    · have h : k < n := by omega
      refine run0 ?_
      with_reducible apply st_lok
      · exact ok_neq_shape (a := n) (b := n) (c := n) (d := n) rfl rfl rfl rfl rfl rfl rfl
      have e1 : (!(decide ((n : Int) = n) && decide ((n : Int) = n))) = false := by simp
      rw [e1]
      repeat(first|refine run1 ?_|((with_reducible apply st_call);exact rfl;exact rfl;exact rfl;first|(exact d_right hK hn))|((with_reducible apply st_callg);exact rfl;exact rfl;(first|exact rfl|assumption);exact rfl;exact rfl;exact rfl;first|(exact d_right hK hn)))
      refine awp_no rfl rfl ?_
      refine run0 ?_
      refine q_loop ?_ (imp_id ?_ ?_) ⟨k + 1, ?_, rfl, rfl⟩
      · omega
      · exact eA
      · exact hA
      · omega
    · refine run0 ?_
      refine ⟨.inr rfl, _, Imp.refl _, ?_⟩
      have e : (some (AV.b (decide (0 < (n : Int))))) = some (.b true) := by congr 2; simp; omega
      exact .one (.tmp e)
end Go.Proofs.YtdnmoggifjlbiaaGreat.AM
/- Package fast: displaced matrices, applied ones. -/
namespace Go.Proofs.YtdnmoggifjlbiaaGreat.AM
open Go Go.RowKit Go.Proofs.YtdnmoggifjlbiaaGreat.PN Go.Proofs.YtdnmoggifjlbiaaGreat.V
open Go.Proofs.YtdnmoggifjlbiaaGreat.LA (S S_succ S_zero S_congr)
set_option linter.unusedVariables false
set_option linter.unusedSimpArgs false
set_option maxRecDepth 8000
set_option maxHeartbeats 8000000
/-- The matrix; nought outside. -/
def gec (g : GD) (i j : Nat) : Rat := if i < g.n ∧ j < g.n then gent g i j else 0
theorem gec_in {g : GD} {i j : Nat} (hi : i < g.n) (hj : j < g.n) : gec g i j = gent g i j := if_pos ⟨hi, hj⟩
theorem gec_wt {g : GD} (h : g.OK) (i j : Nat) : Wt (gec g i j) 300 := by
  unfold gec
  split
  · exact ⟨gent_wt h (by omega) (by omega)⟩
  · exact ⟨by decide⟩
theorem Has.gec {P : Program} {f : FuncId} {g : GD} {xs : List AV} {r : AV} (H : Has P f (.mat false g.n (fun _ => g.n) (fun i j => .q (gec g i j)) :: xs) r) : Has P f (.mat false g.n (fun _ => g.n) (fun i j => .q (gent g i j)) :: xs) r :=
  Has.args H fun S B β w vs hv => rvs_cons (rv_mat fun i hi j hj => by rw [gec_in hi hj]) rvs_same hv
end Go.Proofs.YtdnmoggifjlbiaaGreat.AM
/- A quotient by nought is refused. -/
namespace Go.Proofs.YtdnmoggifjlbiaaGreat.AM
open Go Go.RowKit Go.Proofs.YtdnmoggifjlbiaaGreat.PN Go.Proofs.YtdnmoggifjlbiaaGreat.V
set_option linter.unusedVariables false
set_option linter.unusedSimpArgs false
set_option maxRecDepth 4000
end Go.Proofs.YtdnmoggifjlbiaaGreat.AM
/- Package levin: its lists. -/
namespace Go.Proofs.YtdnmoggifjlbiaaGreat.AM
open Go Go.RowKit Go.Proofs.YtdnmoggifjlbiaaGreat.PN Go.Proofs.YtdnmoggifjlbiaaGreat.V
open Go.Proofs.YtdnmoggifjlbiaaGreat.LA (S S_succ S_zero S_congr longer later)
set_option linter.unusedVariables false
set_option linter.unusedSimpArgs false
set_option maxRecDepth 8000
set_option maxHeartbeats 8000000
end Go.Proofs.YtdnmoggifjlbiaaGreat.AM
/- Package levin: one step. -/
namespace Go.Proofs.YtdnmoggifjlbiaaGreat.AM
open Go Go.RowKit Go.Proofs.YtdnmoggifjlbiaaGreat.PN Go.Proofs.YtdnmoggifjlbiaaGreat.V
open Go.Proofs.YtdnmoggifjlbiaaGreat.LA (S S_succ S_zero S_congr longer later)
set_option linter.unusedVariables false
set_option linter.unusedSimpArgs false
set_option maxRecDepth 8000
set_option maxHeartbeats 8000000
/-- What the leading part of k rows sends to a one ahead of noughts, and behind them. -/
def lvp (F : Nat → Nat → Rat) : Nat → (Nat → Rat) × (Nat → Rat)
  | 0 => (fun _ => 0, fun _ => 0)
  | k + 1 => if k = 0 then (fun _ => 1 / F 0 0, fun _ => 1 / F 0 0) else
    (fun i => (longer k (lvp F k).1 i - (S k fun j => F k j * (lvp F k).1 j) * later (lvp F k).2 i) * (1 / (1 - (S k fun j => F k j * (lvp F k).1 j) * S k fun j => F 0 (j + 1) * (lvp F k).2 j)),
     fun i => (later (lvp F k).2 i - (S k fun j => F 0 (j + 1) * (lvp F k).2 j) * longer k (lvp F k).1 i) * (1 / (1 - (S k fun j => F k j * (lvp F k).1 j) * S k fun j => F 0 (j + 1) * (lvp F k).2 j)))
def lvf (F : Nat → Nat → Rat) (k : Nat) : Nat → Rat := (lvp F k).1
def lvl (F : Nat → Nat → Rat) (k : Nat) : Nat → Rat := (lvp F k).2
def lvx (F : Nat → Nat → Rat) (k : Nat) : Rat := S k fun j => F k j * lvf F k j
def lvy (F : Nat → Nat → Rat) (k : Nat) : Rat := S k fun j => F 0 (j + 1) * lvl F k j
/-- By what the next step divides. -/
def lvd (F : Nat → Nat → Rat) (k : Nat) : Rat := if k = 0 then F 0 0 else 1 - lvx F k * lvy F k
/-- How long the numbers are. -/
def lvW : Nat → Nat
  | 0 => 1
  | k + 1 => if k = 0 then 5 else 2 * lvW k + 3 * (k * (4 + lvW k + 1) + 1) + 4
section
variable {F : Nat → Nat → Rat} {n : Nat}
end
abbrev LPT : TypeId := 145
def prF (n : Nat) (F : Nat → Nat → Rat) (x y : AV) (i : Nat) : AV := [AV.mat true n (fun _ => n) (fun i j => .q (F i j)), x, y].getD i (.v undef)
def PF (n : Nat) (F : Nat → Nat → Rat) (x y : AV) : List (Nat × Fam) := [(60, (1, fun _ => .ones LPT 3 (prF n F x y))), (61, (0, fun _ => .rats 0 fun _ => ra0)), (62, (0, fun _ => .rats 0 fun _ => ra0))]
abbrev PFk (n : Nat) (F : Nat → Nat → Rat) (k : Nat) : List (Nat × Fam) := PF n F (.row true k fun i => .q (lvf F k i)) (.row true k fun i => .q (lvl F k i))
theorem prF_ok {n : Nat} {F : Nat → Nat → Rat} {x y : AV} {U : Nat → Bool} (hx : x.ok U) (hy : y.ok U) : ∀ i, (prF n F x y i).ok U
  | 0 => trivial
  | 1 => hx
  | 2 => hy
  | _ + 3 => trivial
theorem okf_pf {U : Nat → Bool} {n : Nat} {F : Nat → Nat → Rat} {x y : AV} (hx : x.ok U) (hy : y.ok U) : okf U (PF n F x y) :=
  ⟨fun r _ i _ => prF_ok hx hy i, fun r hr => absurd hr (Nat.not_lt_zero _), fun r hr => absurd hr (Nat.not_lt_zero _), trivial⟩
end Go.Proofs.YtdnmoggifjlbiaaGreat.AM
/- Package levin: one step, walked. -/
namespace Go.Proofs.YtdnmoggifjlbiaaGreat.AM
open Go Go.RowKit Go.Proofs.YtdnmoggifjlbiaaGreat.PN Go.Proofs.YtdnmoggifjlbiaaGreat.V
open Go.Proofs.YtdnmoggifjlbiaaGreat.LA (S S_succ S_zero S_congr longer later)
set_option linter.unusedVariables false
set_option linter.unusedSimpArgs false
set_option maxRecDepth 8000
set_option maxHeartbeats 8000000
/-- What a vector's beginning is sent to, one number longer. -/
def lvm (F : Nat → Nat → Rat) (k : Nat) (x b : Nat → Rat) (i : Nat) : Rat := longer k x i - -(b k - S k fun j => F k j * x j) * lvl F (k + 1) i
end Go.Proofs.YtdnmoggifjlbiaaGreat.AM
/- Package levin: systems. -/
namespace Go.Proofs.YtdnmoggifjlbiaaGreat.AM
open Go Go.RowKit Go.Proofs.YtdnmoggifjlbiaaGreat.PN Go.Proofs.YtdnmoggifjlbiaaGreat.V
open Go.Proofs.YtdnmoggifjlbiaaGreat.LA (S S_succ S_zero S_congr longer later)
set_option linter.unusedVariables false
set_option linter.unusedSimpArgs false
set_option maxRecDepth 8000
set_option maxHeartbeats 8000000
def lvs (F : Nat → Nat → Rat) (b : Nat → Rat) : Nat → Nat → Rat
  | 0 => fun _ => 0
  | k + 1 => lvm F k (lvs F b k) b
def lvX : Nat → Nat
  | 0 => 1
  | k + 1 => lvX k + (100 + (k * (4 + lvX k + 1) + 1) + 1) + lvW (k + 1) + 1
end Go.Proofs.YtdnmoggifjlbiaaGreat.AM
/- Laws of dense matrices: walks: rows and matrices that are the same; ones. -/
namespace Go.Proofs.YtdnmoggifjlbiaaGreat.AM
open Go Go.RowKit Go.Proofs.YtdnmoggifjlbiaaGreat.PN Go.Proofs.YtdnmoggifjlbiaaGreat.V
open Go.Proofs.YtdnmoggifjlbiaaGreat.LA (S S_succ S_zero S_congr)
set_option linter.unusedVariables false
set_option linter.unusedSimpArgs false
set_option maxRecDepth 4000
set_option maxHeartbeats 4000000
end Go.Proofs.YtdnmoggifjlbiaaGreat.AM
/- Dense matrices: walks: made, Turn, Mul. -/
namespace Go.Proofs.YtdnmoggifjlbiaaGreat.AM
open Go Go.RowKit Go.Proofs.YtdnmoggifjlbiaaGreat.PN Go.Proofs.YtdnmoggifjlbiaaGreat.V
open Go.Proofs.YtdnmoggifjlbiaaGreat.LA (S S_succ S_zero S_congr)
set_option linter.unusedVariables false
set_option linter.unusedSimpArgs false
end Go.Proofs.YtdnmoggifjlbiaaGreat.AM
/- Dense matrices: walks: the steps on rows. -/
namespace Go.Proofs.YtdnmoggifjlbiaaGreat.AM
open Go Go.RowKit Go.Proofs.YtdnmoggifjlbiaaGreat.PN Go.Proofs.YtdnmoggifjlbiaaGreat.V
open Go.Proofs.YtdnmoggifjlbiaaGreat.LA (S S_succ S_zero S_congr)
set_option linter.unusedVariables false
set_option linter.unusedSimpArgs false
set_option maxRecDepth 4000
set_option maxHeartbeats 2000000
theorem d_nought {p : Rat} : Has Tryz.prog 169 [.q p] (.b (decide (p = 0))) := by
  refine has_of Tryz.func169 (by kernel_rfl) rfl Tryz.ntmps169 Tryz.results169 rfl rfl rfl ?_
  refine run0 ?_
  refine ⟨.inr rfl, _, Imp.refl _, ?_⟩
  have e : decide ((size (nm p) : Int) = 0) = decide (p = 0) := by simp [size_eq_zero, nm_eq_zero]
  refine .one (.tmp ?_)
  exact congrArg (fun b => some (AV.b b)) e
/-- The variable that bears rows, and a determinant. -/
def wk (d : Rat) : Nat → AV := fun i => match i with
  | 0 => .own 61 0
  | 1 => .rs (.q d)
  | 2 => .rn (.q d)
  | _ => .rd (.q d)
abbrev WH (n m : Nat) (d : Rat) (π : Nat → Nat) (A : Nat → Nat → Rat) : List (Nat × Fam) :=
  [(60, (1, fun _ => .ones 118 4 (wk d))), (61, (1, fun _ => .ones WT n (fun i => .own 62 (π i)))), (62, (n, fun r => .rats m (fun j => .q (A r j))))]
theorem wk_upd {d d' : Rat} : ∀ i, i < 4 → upd3 (wk d) 1 (.q d') i = wk d' i := fun i hi => by
  match i, hi with
  | 0, _ => rfl
  | 1, _ => rfl
  | 2, _ => rfl
  | 3, _ => rfl
theorem wk_ok {U : Nat → Bool} (hU : U 61 = true) (d : Rat) : ∀ i, (wk d i).ok U := fun i => by
  match i with
  | 0 => exact hU
  | 1 => trivial
  | 2 => trivial
  | _ + 3 => trivial
theorem imp_WH {s : St} {e : List (Nat × AV)} {n m : Nat} {d : Rat} {π : Nat → Nat} {A : Nat → Nat → Rat} {F0 F1 F2 : Nat → Blk} {f0 f1 : Nat → AV} (h0 : s.heap 60 = some (1, F0)) (e0 : F0 0 = .ones 118 4 f0) (g0 : ∀ i, i < 4 → f0 i = wk d i)
    (h1 : s.heap 61 = some (1, F1)) (e1 : F1 0 = .ones WT n f1) (g1 : ∀ i, i < n → f1 i = .own 62 (π i)) (h2 : s.heap 62 = some (n, F2)) (g2 : ∀ r, r < n → BLe idR (F2 r) (.rats m fun j => .q (A r j)))
    (he : AllE s idR (fun g => memN g [60, 61, 62]) e) : Imp s (stl e (WH n m d π A)) := by
  refine imp_id (h := WH n m d π A) he ⟨fun r hr => ?_, fun r hr => ?_, fun r hr => ?_, trivial⟩ (by cases s.used 60 <;> rfl)
  · obtain rfl : r = 0 := by omega
    refine ⟨1, F0, h0, by decide, ?_, fun i hi => wk_ok rfl d i⟩
    show BLe idR (F0 0) _
    rw [e0]; exact bleo rfl fun i hi => Le.id (g0 i hi)
  · obtain rfl : r = 0 := by omega
    refine ⟨1, F1, h1, by decide, ?_, fun i hi => rfl⟩
    show BLe idR (F1 0) _
    rw [e1]; exact bleo rfl fun i hi => Le.id (g1 i hi)
  · exact ⟨n, F2, h2, hr, g2 r hr, trivial⟩
theorem d_pivot_no {n m at' col : Nat} {d : Rat} {π : Nat → Nat} {A : Nat → Nat → Rat} (hn : n ≤ 8) (hm : m ≤ 9) (hc : col < m) (hπ : ∀ i, i < n → π i < n) (ha : at' ≤ n) (h0 : ∀ i, at' ≤ i → i < n → A (π i) col = 0) :
    HasH Tryz.prog 145 (WH n m d π A) [.ptr 60 0 0, .i at', .i col] (.b false) (WH n m d π A) := by
  refine hasH_of Tryz.func145 (by kernel_rfl) rfl Tryz.ntmps145 Tryz.results145 True.intro rfl rfl ?_
  refine run0 ?_
  refine awp_loop (fun m' s => ∃ k, at' ≤ k ∧ k ≤ n ∧ m' = n - k ∧ s = stl [(0, .ptr 60 0 0), (1, .i at'), (2, .i col), (7, .i (k : Int))] (WH n m d π A)) (n - at') _ (imp_WH rfl rfl (fun _ _ => rfl) rfl rfl (fun _ _ => rfl) rfl (fun r hr => blen rfl fun _ _ => rfl) ?_) ⟨at', Nat.le_refl _, ha, rfl, rfl⟩ ?_
  · exact eA
  · rintro m' s ⟨k, hk1, hk, rfl, rfl⟩
    refine run0 ?_
    refine awp_if rfl (fun h => ?_) (fun h => ?_)
    · have h' : (k : Int) < n := h
      have h : k < n := by omega
      have hp := hπ k h
      repeat(first|refine run1 ?_|((with_reducible apply st_call);exact rfl;exact rfl;exact rfl;first|(exact d_nought))|((with_reducible apply st_callg);exact rfl;exact rfl;(first|exact rfl|assumption);exact rfl;exact rfl;exact rfl;first|(exact d_nought)))
      refine awp_yes rfl ?_ ?_
      · exact decide_eq_true (h0 k hk1 h)
      refine run0 ?_
      refine q_loop ?_ (imp_WH rfl rfl (fun _ _ => rfl) rfl rfl (fun _ _ => rfl) rfl (fun r hr => blen rfl fun _ _ => rfl) ?_) ⟨k + 1, ?_, ?_, rfl, rfl⟩
      · omega
      · exact eA
      · omega
      · omega
    · refine run0 ?_
      refine ⟨.inr rfl, [(6, .b false)], imp_WH rfl rfl (fun _ _ => rfl) rfl rfl (fun _ _ => rfl) rfl (fun r hr => blen rfl fun _ _ => rfl) ?_, .one (.tmp rfl)⟩
      exact eA
def swp (π : Nat → Nat) (i j : Nat) : Nat → Nat := updN (updN π i (π j)) j (π i)
theorem swp_own {π : Nat → Nat} {i j g : Nat} (k : Nat) : updN (updN (fun i => AV.own g (π i)) i (.own g (π j))) j (.own g (π i)) k = .own g (swp π i j k) := by
  unfold swp updN
  by_cases h1 : k = j
  · rw [if_pos h1, if_pos h1]
  · rw [if_neg h1, if_neg h1]
    by_cases h2 : k = i
    · rw [if_pos h2, if_pos h2]
    · rw [if_neg h2, if_neg h2]
theorem swp_self (π : Nat → Nat) (i k : Nat) : swp π i i k = π k := by
  unfold swp updN
  by_cases h : k = i
  · rw [if_pos h, h]
  · rw [if_neg h, if_neg h]
theorem swp_at (π : Nat → Nat) (i j : Nat) : swp π i j j = π i := updN_same _ _ _
def det1 (d : Rat) (i at' : Nat) : Rat := if i = at' then d else -d
theorem d_pivot_yes {n m at' col K L i : Nat} {d : Rat} {π : Nat → Nat} {A : Nat → Nat → Rat} [hA : ∀ i j, Wt (A i j) K] [hd : Wt d L] (hK : K ≤ 1000000000) (hL : L ≤ 1000000000) (hn : n ≤ 8) (hm : m ≤ 9) (hc : col < m) (hπ : ∀ i, i < n → π i < n) (ha : at' ≤ i) (hi : i < n) (h0 : ∀ j, at' ≤ j → j < i → A (π j) col = 0) (h1 : A (π i) col ≠ 0) :
    HasH Tryz.prog 145 (WH n m d π A) [.ptr 60 0 0, .i at', .i col] (.b true) (WH n m (det1 d i at' * A (π i) col) (swp π i at') A) := by
  refine hasH_of Tryz.func145 (by kernel_rfl) rfl Tryz.ntmps145 Tryz.results145 True.intro rfl rfl ?_
  refine run0 ?_
  refine awp_loop (fun m' s => ∃ k, at' ≤ k ∧ k ≤ i ∧ m' = n - k ∧ s = stl [(0, .ptr 60 0 0), (1, .i at'), (2, .i col), (7, .i (k : Int))] (WH n m d π A)) (n - at') _ (imp_WH rfl rfl (fun _ _ => rfl) rfl rfl (fun _ _ => rfl) rfl (fun r hr => blen rfl fun _ _ => rfl) ?_) ⟨at', Nat.le_refl _, ha, rfl, rfl⟩ ?_
  · exact eA
  · rintro m' s ⟨k, hk1, hk, rfl, rfl⟩
    refine run0 ?_
    refine awp_if rfl (fun h => ?_) (fun h => ?_)
    · have hp := hπ k (by omega)
      repeat(first|refine run1 ?_|((with_reducible apply st_call);exact rfl;exact rfl;exact rfl;first|(exact d_nought))|((with_reducible apply st_callg);exact rfl;exact rfl;(first|exact rfl|assumption);exact rfl;exact rfl;exact rfl;first|(exact d_nought)))
      by_cases hki : k = i
      · subst hki
        refine awp_no rfl ?_ ?_
        · exact decide_eq_false h1
        refine run0 ?_
        have hpa := hπ at' (by omega)
        have hps : swp π k at' at' < n := by rw [swp_at]; exact hp
        refine awp_if rfl (fun h => ?_) (fun h => ?_)
        · have e1 : det1 d k at' = -d := if_neg (by omega)
          rw [e1, ← swp_at π k at']
          refine run2 ?_
          refine run3 ?_
          repeat(first|refine run4 ?_|((with_reducible apply st_call);exact rfl;exact rfl;exact rfl;first|(exact c_neg (by omega)))|((with_reducible apply st_callg);exact rfl;exact rfl;(first|exact rfl|assumption);exact rfl;exact rfl;exact rfl;first|(exact c_neg (by omega))))
          refine awp_imp (imp_WH (n := n) (m := m) (d := -d) (π := swp π k at') (A := A) (e := [(0, .ptr 60 0 0), (1, .i at'), (2, .i col)]) rfl rfl wk_upd rfl rfl (fun _ _ => swp_own _) rfl (fun r hr => blen rfl fun _ _ => rfl) ?_) ?_
          · exact eA
          repeat(first|refine run1 ?_|((with_reducible apply st_call);exact rfl;exact rfl;exact rfl;first|(exact c_mul ⟨by omega, by omega⟩))|((with_reducible apply st_callg);exact rfl;exact rfl;(first|exact rfl|assumption);exact rfl;exact rfl;exact rfl;first|(exact c_mul ⟨by omega, by omega⟩)))
          refine ⟨.inr rfl, [(6, .b true)], imp_WH rfl rfl wk_upd rfl rfl (fun _ _ => rfl) rfl (fun r hr => blen rfl fun _ _ => rfl) ?_, .one (.tmp rfl)⟩
          exact eA
        · obtain rfl : k = at' := by omega
          have e1 : det1 d k k = d := if_pos rfl
          rw [e1]
          repeat(first|refine run1 ?_|((with_reducible apply st_call);exact rfl;exact rfl;exact rfl;first|(exact c_mul ⟨by omega, by omega⟩))|((with_reducible apply st_callg);exact rfl;exact rfl;(first|exact rfl|assumption);exact rfl;exact rfl;exact rfl;first|(exact c_mul ⟨by omega, by omega⟩)))
          refine ⟨.inr rfl, [(6, .b true)], imp_WH rfl rfl wk_upd rfl rfl (fun _ _ => congrArg _ (swp_self _ _ _).symm) rfl (fun r hr => blen rfl fun _ _ => rfl) ?_, .one (.tmp rfl)⟩
          exact eA
      · have hlt : k < i := by omega
        refine awp_yes rfl ?_ ?_
        · exact decide_eq_true (h0 k hk1 hlt)
        refine run0 ?_
        refine q_loop ?_ (imp_WH rfl rfl (fun _ _ => rfl) rfl rfl (fun _ _ => rfl) rfl (fun r hr => blen rfl fun _ _ => rfl) ?_) ⟨k + 1, ?_, ?_, rfl, rfl⟩
        · omega
        · exact eA
        · omega
        · omega
    · exact absurd (show (k : Int) < n by omega) h
end Go.Proofs.YtdnmoggifjlbiaaGreat.AM
/- Dense matrices: walks: a row is taken away from another one. -/
namespace Go.Proofs.YtdnmoggifjlbiaaGreat.AM
open Go Go.RowKit Go.Proofs.YtdnmoggifjlbiaaGreat.PN Go.Proofs.YtdnmoggifjlbiaaGreat.V
open Go.Proofs.YtdnmoggifjlbiaaGreat.LA (S S_succ S_zero S_congr)
set_option linter.unusedVariables false
set_option linter.unusedSimpArgs false
set_option maxRecDepth 4000
set_option maxHeartbeats 2000000
theorem imp_WHt {s : St} {e : List (Nat × AV)} {t : List (Nat × Fam)} {n m : Nat} {d : Rat} {π : Nat → Nat} {A : Nat → Nat → Rat} {F0 F1 F2 : Nat → Blk} {f0 f1 : Nat → AV} (h0 : s.heap 60 = some (1, F0)) (e0 : F0 0 = .ones 118 4 f0) (g0 : ∀ i, i < 4 → f0 i = wk d i)
    (h1 : s.heap 61 = some (1, F1)) (e1 : F1 0 = .ones WT n f1) (g1 : ∀ i, i < n → f1 i = .own 62 (π i)) (h2 : s.heap 62 = some (n, F2)) (g2 : ∀ r, r < n → BLe idR (F2 r) (.rats m fun j => .q (A r j)))
    (he : AllE s idR (fun g => memN g (60 :: 61 :: 62 :: keys t)) e) (ht : AllH s idR (fun g => memN g (60 :: 61 :: 62 :: keys t)) t) : Imp s (stl e (WH n m d π A ++ t)) := by
  refine imp_id (h := WH n m d π A ++ t) he ⟨fun r hr => ?_, fun r hr => ?_, fun r hr => ?_, ht⟩ (by cases s.used 60 <;> rfl)
  · obtain rfl : r = 0 := by omega
    refine ⟨1, F0, h0, by decide, ?_, fun i hi => wk_ok rfl d i⟩
    show BLe idR (F0 0) _
    rw [e0]; exact bleo rfl fun i hi => Le.id (g0 i hi)
  · obtain rfl : r = 0 := by omega
    refine ⟨1, F1, h1, by decide, ?_, fun i hi => rfl⟩
    show BLe idR (F1 0) _
    rw [e1]; exact bleo rfl fun i hi => Le.id (g1 i hi)
  · exact ⟨n, F2, h2, hr, g2 r hr, trivial⟩
/-- A row, less a multiple of another one from a column on, up to k. -/
def clr (A : Nat → Nat → Rat) (q : Rat) (a b col k : Nat) : Nat → Nat → Rat := fun r j => if r = a ∧ col ≤ j ∧ j < k then A a j - q * A b j else A r j
theorem clr_wt {A : Nat → Nat → Rat} {q : Rat} {a b col k K : Nat} [hA : ∀ i j, Wt (A i j) K] [hq : Wt q (K + K)] (r j : Nat) : Wt (clr A q a b col k r j) (4 * K + 1) := by
  unfold clr
  split
  · exact (inferInstance : Wt (A a j - q * A b j) (K + (K + K + K) + 1)).mono (by omega)
  · exact (hA r j).mono (by omega)
theorem clr_step {A : Nat → Nat → Rat} {q : Rat} {a b col k : Nat} (hab : a ≠ b) (hk : col ≤ k) (r j : Nat) : (if r = a ∧ j = k then clr A q a b col k a k - q * clr A q a b col k b k else clr A q a b col k r j) = clr A q a b col (k + 1) r j := by
  unfold clr
  by_cases h1 : r = a
  · subst h1
    by_cases h2 : j = k
    · subst h2
      rw [if_pos ⟨rfl, rfl⟩, if_neg (by omega), if_neg (fun h => hab h.1.symm), if_pos ⟨rfl, hk, by omega⟩]
    · rw [if_neg (by omega)]
      by_cases h3 : col ≤ j ∧ j < k
      · rw [if_pos ⟨rfl, h3⟩, if_pos ⟨rfl, by omega, by omega⟩]
      · rw [if_neg (fun h => h3 h.2), if_neg (by omega)]
  · rw [if_neg (fun h => h1 h.1), if_neg (fun h => h1 h.1), if_neg (fun h => h1 h.1)]
theorem clr_none {A : Nat → Nat → Rat} {q : Rat} {a b col r j : Nat} : clr A q a b col col r j = A r j := by
  unfold clr; rw [if_neg (by omega)]
theorem clr_zero {A : Nat → Nat → Rat} {q : Rat} {a b col k r j : Nat} (h : q = 0) : clr A q a b col k r j = A r j := by
  unfold clr
  split
  · rename_i h1; rw [h, h1.1, Rat.zero_mul]; exact by rw [Rat.sub_eq_add_neg, Rat.neg_zero, Rat.add_zero]
  · rfl
theorem clr_blk {C C' : Nat → Nat → Rat} {m a k : Nat} {x : Rat} (h : ∀ r j, (if r = a ∧ j = k then x else C r j) = C' r j) (r : Nat) : BLe idR (updN (fun r => Blk.rats m fun j => .q (C r j)) a (.rats m (updN (fun j => .q (C a j)) k (.q x))) r) (.rats m fun j => .q (C' r j)) := by
  by_cases e : r = a
  · subst e
    rw [updN_same]
    refine blen rfl fun j hj => ?_
    rw [← h r j]
    unfold updN
    by_cases e2 : j = k
    · rw [if_pos e2, if_pos ⟨rfl, e2⟩]
    · rw [if_neg e2, if_neg (fun h => e2 h.2)]
  · rw [updN_ne _ _ e]
    refine blen rfl fun j hj => ?_
    rw [← h r j, if_neg (fun h => e h.1)]
theorem d_clean {n m i at' col K : Nat} {d : Rat} {π : Nat → Nat} {A : Nat → Nat → Rat} [hA : ∀ i j, Wt (A i j) K] (hK : K ≤ 1000000000) (hn : n ≤ 8) (hm : m ≤ 9) (hc : col < m) (hi : i < n) (ha : at' < n) (hpi : π i < n) (hpa : π at' < n) (hne : π i ≠ π at') (h0 : A (π at') col ≠ 0) :
    HasH Tryz.prog 146 (WH n m d π A) [.ptr 60 0 0, .i i, .i at', .i col] (.v (.tuple #[])) (WH n m d π (clr A (A (π i) col / A (π at') col) (π i) (π at') col m)) := by
  refine hasH_of Tryz.func146 (by kernel_rfl) rfl Tryz.ntmps146 Tryz.results146 True.intro rfl rfl ?_
  repeat(first|refine run1 ?_|((with_reducible apply st_call);exact rfl;exact rfl;exact rfl;first|(exact c_quo ⟨by omega, by omega⟩ h0)|(exact d_nought))|((with_reducible apply st_callg);exact rfl;exact rfl;(first|exact rfl|assumption);exact rfl;exact rfl;exact rfl;first|(exact c_quo ⟨by omega, by omega⟩ h0)|(exact d_nought)))
  have wq : Wt (A (π i) col / A (π at') col) (K + K) := inferInstance
  refine awp_if rfl (fun h => ?_) (fun h => ?_)
  · refine run0 ?_
    refine ⟨.inr rfl, [], imp_WH rfl rfl (fun _ _ => rfl) rfl rfl (fun _ _ => rfl) rfl (fun r hr => blen rfl fun _ _ => congrArg RA.q (clr_zero h).symm) ?_, .none⟩
    exact eA
  · refine run0 ?_
    generalize hq : A (π i) col / A (π at') col = q at *
    have w : ∀ k r j, Wt (clr A q (π i) (π at') col k r j) (4 * K + 1) := fun k r j => clr_wt r j
    refine awp_loop (fun m' s => ∃ k, col ≤ k ∧ k ≤ m ∧ m' = m - k ∧ s = stl [(0, .ptr 60 0 0), (1, .i i), (2, .i at'), (3, .i col), (8, .rptr 8 0 0), (10, .i (k : Int))] (WH n m d π (clr A q (π i) (π at') col k) ++ [(8, (1, fun _ => .rats 1 fun _ => .q q))])) (m - col) _ (imp_WHt rfl rfl (fun _ _ => rfl) rfl rfl (fun _ _ => rfl) rfl (fun r hr => blen rfl fun _ _ => congrArg RA.q clr_none.symm) ?_ ?_) ⟨col, Nat.le_refl _, by omega, rfl, rfl⟩ ?_
    · exact eA
    · refine allh rfl (by decide) (ble1 (congrArg RA.q hq)) True.intro True.intro
    · rintro m' s ⟨k, hk1, hk, rfl, rfl⟩
      have hwk := w k
      refine run0 ?_
      refine awp_if rfl (fun h => ?_) (fun h => ?_)
      · have h' : (k : Int) < m := h
        have h : k < m := by omega
        repeat(first|refine run1 ?_|((with_reducible apply st_call);exact rfl;exact rfl;exact rfl;first|(exact c_mul ⟨by omega, by omega⟩)|(exact c_sub ⟨by omega, by omega⟩))|((with_reducible apply st_callg);exact rfl;exact rfl;(first|exact rfl|assumption);exact rfl;exact rfl;exact rfl;first|(exact c_mul ⟨by omega, by omega⟩)|(exact c_sub ⟨by omega, by omega⟩)))
        refine q_loop ?_ (imp_WHt rfl rfl (fun _ _ => rfl) rfl rfl (fun _ _ => rfl) rfl (fun r hr => clr_blk (clr_step hne hk1) r) ?_ ?_) ⟨k + 1, ?_, ?_, rfl, rfl⟩
        · omega
        · exact eA
        · refine allh rfl (by decide) (ble1 rfl) True.intro True.intro
        · omega
        · omega
      · have h' : ¬ (k : Int) < m := h
        obtain rfl : k = m := by omega
        refine run0 ?_
        refine ⟨.inl rfl, [], imp_WH rfl rfl (fun _ _ => rfl) rfl rfl (fun _ _ => rfl) rfl (fun r hr => blen rfl fun _ _ => rfl) ?_, .none⟩
        exact eA
end Go.Proofs.YtdnmoggifjlbiaaGreat.AM
/- Dense matrices: walks: rows on which steps are done. -/
namespace Go.Proofs.YtdnmoggifjlbiaaGreat.AM
open Go Go.RowKit Go.Proofs.YtdnmoggifjlbiaaGreat.PN Go.Proofs.YtdnmoggifjlbiaaGreat.V
open Go.Proofs.YtdnmoggifjlbiaaGreat.LA (S S_succ S_zero S_congr)
set_option linter.unusedVariables false
set_option linter.unusedSimpArgs false
set_option maxRecDepth 4000
set_option maxHeartbeats 2000000
/-- Rows with something beside each. -/
def aug (n : Nat) (F G : Nat → Nat → Rat) : Nat → Nat → Rat := fun i j => if j < n then F i j else G i (j - n)
/-- The variable, before it bears rows. -/
def wk0 (y : AV) : Nat → AV := fun i => match i with
  | 0 => y
  | 1 => .rs (.q 1)
  | 2 => .rn (.q 1)
  | _ => .rd (.q 1)
theorem wk0_ok {U : Nat → Bool} {y : AV} (hy : y.ok U) : ∀ i, (wk0 y i).ok U := fun i => by
  match i with
  | 0 => exact hy
  | 1 => trivial
  | 2 => trivial
  | _ + 3 => trivial
def offs (m k : Nat) (A : Nat → Nat → Rat) : List (Nat × Fam) := match k with
  | 0 => [(10, (1, fun _ => .ones 118 4 (wk0 (.v (.slice none 0 0)))))]
  | k + 1 => [(10, (1, fun _ => .ones 118 4 (wk0 (.own 11 0)))), (11, (1, fun _ => .ones WT (k + 1) (fun i => .own 12 i))), (12, (k + 1, fun r => .rats m (fun j => .q (A r j))))]
def sg (k : Nat) : Ren := fun g r => if g = 12 then (if r < k then (12, r) else (32, r - k)) else if g = 11 then (34, r) else (g, r)
theorem sg_inj (k : Nat) (g r g' r' : Nat) (hg : memN g [10, 11, 12] = true) (hg' : memN g' [10, 11, 12] = true) (e : sg k g r = sg k g' r') : g = g' ∧ r = r' := by
  have m1 := memN_spec hg
  have m2 := memN_spec hg'
  simp only [List.mem_cons, List.not_mem_nil, or_false] at m1 m2
  unfold sg at e
  rcases m1 with rfl | rfl | rfl <;> rcases m2 with rfl | rfl | rfl <;> simp at e ⊢
  · exact e
  · split at e <;> simp at e
  · exact e
  · split at e <;> simp at e
  · split at e <;> simp at e
  · split at e <;> simp at e
  · split at e <;> split at e <;> simp at e <;> omega
theorem of_close {s : St} {e : List (Nat × AV)} {k m : Nat} {A : Nat → Nat → Rat} {F0 F1 F2 F3 : Nat → Blk} {f0 f1 : Nat → AV} (h10 : s.heap 10 = some (1, F0)) (e10 : F0 0 = .ones 118 4 f0) (g10 : ∀ i, i < 4 → f0 i = wk0 (.own 34 0) i)
    (h34 : s.heap 34 = some (1, F1)) (e34 : F1 0 = .ones WT (k + 1) f1) (g34 : ∀ i, i < k → f1 i = .own 12 i) (g34' : f1 k = .own 32 0) (h12 : 0 < k → s.heap 12 = some (k, F2)) (g12 : ∀ r, r < k → BLe (sg k) (F2 r) (.rats m fun j => .q (A r j)))
    (h32 : s.heap 32 = some (1, F3)) (g32 : BLe (sg k) (F3 0) (.rats m fun j => .q (A k j))) (h60 : s.used 60 = false) (he : AllE s (sg k) (fun g => memN g [10, 11, 12]) e) : Imp s (stl e (offs m (k + 1) A)) := by
  refine imp_stl (h := offs m (k + 1) A) (sg k) (fun h => by rw [h60] at h; cases h) (fun g r g' r' h1 h2 => sg_inj k g r g' r' h1 h2) he ⟨fun r hr => ?_, fun r hr => ?_, fun r hr => ?_, trivial⟩ (by rw [h60]; rfl)
  · obtain rfl : r = 0 := by omega
    refine ⟨1, F0, h10, Nat.zero_lt_one, ?_, fun i hi => wk0_ok (U := fun g => memN g [10, 11, 12]) (y := .own 11 0) rfl i⟩
    show BLe (sg k) (F0 0) _
    rw [e10]
    refine bleo rfl fun i hi => ?_
    rw [g10 i hi]
    match i, hi with
    | 0, _ => exact Le.own rfl
    | 1, _ => exact Le.same trivial
    | 2, _ => exact Le.same trivial
    | 3, _ => exact Le.same trivial
  · obtain rfl : r = 0 := by omega
    refine ⟨1, F1, h34, Nat.zero_lt_one, ?_, fun i hi => rfl⟩
    show BLe (sg k) (F1 0) _
    rw [e34]
    refine bleo rfl fun i hi => ?_
    by_cases e : i < k
    · rw [g34 i e]; exact Le.own (by unfold sg; rw [if_pos rfl, if_pos e])
    · obtain rfl : i = k := by omega
      rw [g34']; exact Le.own (by unfold sg; rw [if_pos rfl, if_neg e, Nat.sub_self])
  · by_cases e : r < k
    · have e1 : sg k 12 r = (12, r) := by unfold sg; rw [if_pos rfl, if_pos e]
      rw [e1]
      exact ⟨k, F2, h12 (by omega), e, g12 r e, trivial⟩
    · obtain rfl : r = k := by omega
      have e1 : sg r 12 r = (32, 0) := by unfold sg; rw [if_pos rfl, if_neg e, Nat.sub_self]
      rw [e1]
      exact ⟨1, F3, h32, by decide, g32, trivial⟩
def sf : Ren := fun g r => if g = 60 then (10, r) else if g = 61 then (11, r) else if g = 62 then (12, r) else (g, r)
theorem sf_inj (g r g' r' : Nat) (hg : memN g [60, 61, 62] = true) (hg' : memN g' [60, 61, 62] = true) (e : sf g r = sf g' r') : g = g' ∧ r = r' := by
  have m1 := memN_spec hg
  have m2 := memN_spec hg'
  simp only [List.mem_cons, List.not_mem_nil, or_false] at m1 m2
  unfold sf at e
  rcases m1 with rfl | rfl | rfl <;> rcases m2 with rfl | rfl | rfl <;> simp at e ⊢
  · exact e
  · exact e
  · exact e
theorem of_end {s : St} {e : List (Nat × AV)} {k m : Nat} {A : Nat → Nat → Rat} (h10 : s.heap 10 = some (1, fun _ => .ones 118 4 (wk0 (.own 11 0)))) (h11 : s.heap 11 = some (1, fun _ => .ones WT (k + 1) (fun i => .own 12 i))) (h12 : s.heap 12 = some (k + 1, fun r => .rats m (fun j => .q (A r j)))) (h60 : s.used 60 = false)
    (he : AllE s sf (fun g => memN g [60, 61, 62]) e) : Imp s (stl e (WH (k + 1) m 1 (fun i => i) A)) := by
  refine imp_stl (h := WH (k + 1) m 1 (fun i => i) A) sf (fun h => by rw [h60] at h; cases h) sf_inj he ⟨fun r hr => ?_, fun r hr => ?_, fun r hr => ?_, trivial⟩ (by rw [h60]; rfl)
  · obtain rfl : r = 0 := by omega
    refine ⟨1, _, h10, Nat.zero_lt_one, bleo rfl fun i hi => ?_, fun i hi => wk_ok rfl 1 i⟩
    match i, hi with
    | 0, _ => exact Le.own rfl
    | 1, _ => exact Le.same trivial
    | 2, _ => exact Le.same trivial
    | 3, _ => exact Le.same trivial
  · obtain rfl : r = 0 := by omega
    exact ⟨1, _, h11, Nat.zero_lt_one, bleo rfl fun i hi => Le.own rfl, fun i hi => rfl⟩
  · exact ⟨k + 1, _, h12, hr, blen rfl fun j hj => rfl, trivial⟩
theorem d_of {n e mm : Nat} {g : FuncId} {c : Nat → AV} {F G : Nat → Nat → Rat} (hn : n ≤ 8) (h0 : 0 < n) (he : e ≤ 1) (hc : (AV.clo g mm c).closed = true) (H : ∀ i, i < n → Has Tryz.prog g (([AV.i i] ++ (List.range mm).map c).map AV.old) (.row false e (fun j => .q (G i j)))) :
    HasH Tryz.prog 110 [] [.mat false n (fun _ => n) (fun i j => .q (F i j)), .clo g mm c] (.ptr 60 0 0) (WH n (n + e) 1 (fun i => i) (aug n F G)) := by
  refine hasH_of Tryz.func110 (by kernel_rfl) rfl Tryz.ntmps110 Tryz.results110 rfl rfl rfl ?_
  repeat(first|refine run1 ?_|((with_reducible apply st_call);exact rfl;exact rfl;exact rfl;first|(exact d_one))|((with_reducible apply st_callg);exact rfl;exact rfl;(first|exact rfl|assumption);exact rfl;exact rfl;exact rfl;first|(exact d_one)))
  have hcl := closed_ok hc
  refine awp_loop (fun m' s => ∃ k, k ≤ n ∧ m' = n - k ∧ s = stl [(0, .mat false n (fun _ => n) (fun i j => .q (F i j))), (1, .clo g mm c), (5, .ptr 10 0 0), (11, .mat false n (fun _ => n) (fun i j => .q (F i j))), (12, .i n), (13, .i (k : Int))] (offs (n + e) k (aug n F G))) n _ (imp_id ?_ ?_) ⟨0, Nat.zero_le _, rfl, rfl⟩ ?_
  · refine alle rfl (Le.id rfl) True.intro (alle rfl (Le.id rfl) (ok_none hcl) ?_)
    exact eA
  · refine allh rfl (by decide) (bleo rfl fun i hi => Le.id ?_) (fun i hi => wk0_ok (y := .v (.slice none 0 0)) True.intro i) True.intro
    match i, hi with
    | 0, _ => rfl
    | 1, _ => rfl
    | 2, _ => rfl
    | 3, _ => rfl
  · rintro m' s ⟨k, hk, rfl, rfl⟩
    have hsz : 0 + n + e = n + e := by omega
    have hrow : ∀ k, BLe (sg k) (.rats (0 + n + e) (glue (0 + n) (glue 0 (fun _ => ra0) (fun j => .q (F k j))) (fun j => .q (G k j)))) (.rats (n + e) fun j => .q (aug n F G k j)) := fun k => blen hsz fun j hj => by
      unfold glue aug
      rw [Nat.zero_add, if_neg (Nat.not_lt_zero _), Nat.sub_zero]
      split <;> rfl
    rcases k with _ | k
    · refine run0 ?_
      refine awp_if rfl (fun h => ?_) (fun h => absurd (show ((0 : Nat) : Int) < n by omega) h)
      have H0 := H 0 h0
      repeat(first|refine run1 ?_|((with_reducible apply st_call);exact rfl;exact rfl;exact rfl;first|(exact H0))|((with_reducible apply st_callg);exact rfl;exact rfl;(first|exact rfl|assumption);exact rfl;exact rfl;exact rfl;first|(exact H0)))
      refine q_loop ?_ (of_close (F2 := fun _ => .rats 0 fun _ => ra0) rfl rfl ?_ rfl rfl (fun i hi => absurd hi (Nat.not_lt_zero _)) rfl (fun h => absurd h (Nat.lt_irrefl _)) (fun r hr => absurd hr (Nat.not_lt_zero _)) rfl (hrow 0) rfl ?_) ⟨0 + 1, ?_, rfl, rfl⟩
      · omega
      · intro i hi
        match i, hi with
        | 0, _ => rfl
        | 1, _ => rfl
        | 2, _ => rfl
        | 3, _ => rfl
      · refine alle rfl (Le.eq rfl rfl) True.intro (alle rfl (Le.same hcl) (ok_none hcl) (alle rfl (Le.ptr rfl) rfl (alle rfl (Le.eq rfl rfl) True.intro (alle rfl (Le.eq rfl rfl) True.intro (alle rfl (Le.eq rfl rfl) True.intro True.intro)))))
      · omega
    · refine run0 ?_
      refine awp_if rfl (fun h => ?_) (fun h => ?_)
      · have h : k + 1 < n := by omega
        have H1 := H (k + 1) h
        repeat(first|refine run1 ?_|((with_reducible apply st_call);exact rfl;exact rfl;exact rfl;first|(exact H1))|((with_reducible apply st_callg);exact rfl;exact rfl;(first|exact rfl|assumption);exact rfl;exact rfl;exact rfl;first|(exact H1)))
        refine q_loop ?_ (of_close (k := k + 1) rfl rfl ?_ rfl rfl ?_ ?_ (fun _ => rfl) ?_ rfl (hrow (k + 1)) rfl ?_) ⟨k + 1 + 1, ?_, rfl, rfl⟩
        · omega
        · intro i hi
          match i, hi with
          | 0, _ => rfl
          | 1, _ => rfl
          | 2, _ => rfl
          | 3, _ => rfl
        · intro i hi
          exact if_pos hi
        · show (if _ then _ else _) = _
          rw [if_neg (Nat.lt_irrefl _), Nat.sub_self]; rfl
        · intro r hr
          exact blen rfl fun j hj => rfl
        · refine alle rfl (Le.eq rfl rfl) True.intro (alle rfl (Le.same hcl) (ok_none hcl) (alle rfl (Le.ptr rfl) rfl (alle rfl (Le.eq rfl rfl) True.intro (alle rfl (Le.eq rfl rfl) True.intro (alle rfl (Le.eq rfl rfl) True.intro True.intro)))))
        · omega
      · obtain rfl : k + 1 = n := by omega
        refine run0 ?_
        refine ⟨.inr rfl, [(4, .ptr 60 0 0)], of_end (k := k) rfl rfl rfl rfl (alle rfl (Le.ptr rfl) rfl True.intro), .one (.tmp rfl)⟩
end Go.Proofs.YtdnmoggifjlbiaaGreat.AM
/- Elimination, as plain functions: what the steps on rows make. -/
namespace Go.Proofs.YtdnmoggifjlbiaaGreat.AM
open Go.Proofs.YtdnmoggifjlbiaaGreat.LA (S S_succ S_zero S_congr)
open Classical
set_option linter.unusedVariables false
set_option linter.unusedSimpArgs false
/-- The first number from i on, at most k further, that has p. -/
noncomputable def fnd (p : Nat → Prop) : Nat → Nat → Nat
  | 0, i => i
  | k + 1, i => if p i then i else fnd p k (i + 1)
theorem fnd_le (p : Nat → Prop) : ∀ k i, i ≤ fnd p k i ∧ fnd p k i ≤ i + k ∧ (∀ j, i ≤ j → j < fnd p k i → ¬ p j) ∧ (fnd p k i < i + k → p (fnd p k i))
  | 0, i => ⟨Nat.le_refl _, Nat.le_refl _, fun j h1 h2 => absurd h2 (by unfold fnd; omega), fun h => absurd h (by unfold fnd; omega)⟩
  | k + 1, i => by
    unfold fnd
    by_cases h : p i
    · rw [if_pos h]; exact ⟨Nat.le_refl _, by omega, fun j h1 h2 => by omega, fun _ => h⟩
    · rw [if_neg h]
      obtain ⟨h1, h2, h3, h4⟩ := fnd_le p k (i + 1)
      refine ⟨by omega, by omega, fun j h5 h6 => ?_, fun h5 => h4 (by omega)⟩
      by_cases e : j = i
      · subst e; exact h
      · exact h3 j (by omega) h6
structure ES where
  at' : Nat
  d : Rat
  π : Nat → Nat
  A : Nat → Nat → Rat
/-- Which rows are cleaned. -/
def tst (all : Bool) (at' i : Nat) : Prop := at' < i ∨ (all = true ∧ i < at')
/-- The rows up to k cleaned. -/
noncomputable def cln (A : Nat → Nat → Rat) (π : Nat → Nat) (all : Bool) (at' col m k : Nat) : Nat → Nat → Rat := fun r j =>
  if (∃ i, i < k ∧ tst all at' i ∧ r = π i) ∧ col ≤ j ∧ j < m then A r j - A r col / A (π at') col * A (π at') j else A r j
theorem tst_ne {all : Bool} {at' i : Nat} (h : tst all at' i) : i ≠ at' := by
  rcases h with h | h <;> omega
theorem cln_zero (A : Nat → Nat → Rat) (π : Nat → Nat) (all : Bool) (at' col m : Nat) : cln A π all at' col m 0 = A := by
  funext r j
  unfold cln
  rw [if_neg]
  rintro ⟨⟨i, h, _⟩, _⟩
  omega
theorem cln_skip {A : Nat → Nat → Rat} {π : Nat → Nat} {all : Bool} {at' col m k : Nat} (h : ¬ tst all at' k) : cln A π all at' col m k = cln A π all at' col m (k + 1) := by
  funext r j
  unfold cln
  have e : (∃ i, i < k ∧ tst all at' i ∧ r = π i) ↔ (∃ i, i < k + 1 ∧ tst all at' i ∧ r = π i) := by
    constructor
    · rintro ⟨i, h1, h2, h3⟩; exact ⟨i, by omega, h2, h3⟩
    · rintro ⟨i, h1, h2, h3⟩
      refine ⟨i, ?_, h2, h3⟩
      rcases Nat.lt_or_ge i k with h4 | h4
      · exact h4
      · obtain rfl : i = k := by omega
        exact absurd h2 h
  simp only [e]
theorem cln_row {A : Nat → Nat → Rat} {π : Nat → Nat} {all : Bool} {at' col m k n r : Nat} (hr : ∀ i, i < k → tst all at' i → r ≠ π i) (j : Nat) : cln A π all at' col m k r j = A r j := by
  unfold cln
  rw [if_neg]
  rintro ⟨⟨i, h1, h2, h3⟩, _⟩
  exact hr i h1 h2 h3
theorem cln_step {A : Nat → Nat → Rat} {π : Nat → Nat} {all : Bool} {at' col m k n : Nat} (hinj : ∀ i j, i < n → j < n → π i = π j → i = j) (ha : at' < n) (hk : k < n) (ht : tst all at' k) :
    clr (cln A π all at' col m k) (cln A π all at' col m k (π k) col / cln A π all at' col m k (π at') col) (π k) (π at') col m = cln A π all at' col m (k + 1) := by
  have h1 : ∀ j, cln A π all at' col m k (π k) j = A (π k) j := cln_row (n := n) fun i h1 h2 h3 => by
    have := hinj k i hk (by omega) h3
    omega
  have h2 : ∀ j, cln A π all at' col m k (π at') j = A (π at') j := cln_row (n := n) fun i h1 h2 h3 => by
    have := hinj at' i ha (by omega) h3
    exact tst_ne h2 this.symm
  funext r j
  unfold clr
  rw [h1, h1, h2, h2]
  by_cases e : r = π k
  · subst e
    by_cases c : col ≤ j ∧ j < m
    · rw [if_pos ⟨rfl, c⟩]
      unfold cln
      rw [if_pos ⟨⟨k, by omega, ht, rfl⟩, c⟩]
    · rw [if_neg (fun h => c h.2), h1]
      unfold cln
      rw [if_neg (fun h => c h.2)]
  · rw [if_neg (fun h => e h.1)]
    unfold cln
    have e2 : (∃ i, i < k ∧ tst all at' i ∧ r = π i) ↔ (∃ i, i < k + 1 ∧ tst all at' i ∧ r = π i) := by
      constructor
      · rintro ⟨i, h1, h2, h3⟩; exact ⟨i, by omega, h2, h3⟩
      · rintro ⟨i, h1, h2, h3⟩
        refine ⟨i, ?_, h2, h3⟩
        rcases Nat.lt_or_ge i k with h4 | h4
        · exact h4
        · obtain rfl : i = k := by omega
          exact absurd h3 e
    simp only [e2]
/-- One column. -/
noncomputable def stp (n m : Nat) (all : Bool) (s : ES) (col : Nat) : ES :=
  if fnd (fun i => s.A (s.π i) col ≠ 0) (n - s.at') s.at' < n then
    ⟨s.at' + 1, det1 s.d (fnd (fun i => s.A (s.π i) col ≠ 0) (n - s.at') s.at') s.at' * s.A (s.π (fnd (fun i => s.A (s.π i) col ≠ 0) (n - s.at') s.at')) col, swp s.π (fnd (fun i => s.A (s.π i) col ≠ 0) (n - s.at') s.at') s.at',
      cln s.A (swp s.π (fnd (fun i => s.A (s.π i) col ≠ 0) (n - s.at') s.at') s.at') all s.at' col m n⟩
  else s
noncomputable def stps (n m : Nat) (all : Bool) (A : Nat → Nat → Rat) : Nat → ES
  | 0 => ⟨0, 1, fun i => i, A⟩
  | c + 1 => stp n m all (stps n m all A c) c
/-- What holds of the rows at all times. -/
structure EOK (n c X : Nat) (s : ES) : Prop where
  le : s.at' ≤ c
  lt : ∀ i, i < n → s.π i < n
  inj : ∀ i j, i < n → j < n → s.π i = s.π j → i = j
  wd : Wt s.d X
  wA : ∀ i j, Wt (s.A i j) X
theorem swp_lt {π : Nat → Nat} {n i j : Nat} (h : ∀ i, i < n → π i < n) (hi : i < n) (hj : j < n) (k : Nat) (hk : k < n) : swp π i j k < n := by
  unfold swp updN
  split
  · exact h i hi
  · split
    · exact h j hj
    · exact h k hk
theorem swp_inj {π : Nat → Nat} {n i j : Nat} (h : ∀ i j, i < n → j < n → π i = π j → i = j) (hi : i < n) (hj : j < n) (a b : Nat) (ha : a < n) (hb : b < n) (e : swp π i j a = swp π i j b) : a = b := by
  unfold swp updN at e
  split at e <;> split at e <;> (try split at e) <;> (try split at e) <;> (first | omega | (have := h _ _ (by assumption) (by assumption) e; omega))
theorem det1_wt {d : Rat} {X i j : Nat} [h : Wt d X] : Wt (det1 d i j) X := by
  unfold det1; split
  · exact h
  · exact inferInstance
theorem cln_wt {A : Nat → Nat → Rat} {π : Nat → Nat} {all : Bool} {at' col m k X : Nat} [h : ∀ i j, Wt (A i j) X] (r j : Nat) : Wt (cln A π all at' col m k r j) (4 * X + 1) := by
  unfold cln
  split
  · exact (inferInstance : Wt (A r j - A r col / A (π at') col * A (π at') j) (X + (X + X + X) + 1)).mono (by omega)
  · exact (h r j).mono (by omega)
theorem stp_ok {n m c X : Nat} {all : Bool} {s : ES} (hX : 1 ≤ X) (h : EOK n c X s) : EOK n (c + 1) (5 * X) (stp n m all s c) := by
  have hA := h.wA
  have hd := h.wd
  unfold stp
  split
  · rename_i hi
    obtain ⟨h1, h2, _, _⟩ := fnd_le (fun i => s.A (s.π i) c ≠ 0) (n - s.at') s.at'
    have h3 := h.le
    refine ⟨by show s.at' + 1 ≤ c + 1; omega, swp_lt h.lt hi (by omega), swp_inj h.inj hi (by omega), ?_, fun i j => (cln_wt i j).mono (by omega)⟩
    have w1 : Wt (det1 s.d (fnd (fun i => s.A (s.π i) c ≠ 0) (n - s.at') s.at') s.at') X := det1_wt
    exact (inferInstance : Wt (det1 s.d (fnd (fun i => s.A (s.π i) c ≠ 0) (n - s.at') s.at') s.at' * s.A (s.π (fnd (fun i => s.A (s.π i) c ≠ 0) (n - s.at') s.at')) c) (X + X)).mono (by omega)
  · exact ⟨by have := h.le; omega, h.lt, h.inj, h.wd.mono (by omega), fun i j => (h.wA i j).mono (by omega)⟩
theorem stps_ok {n m K : Nat} {all : Bool} {A : Nat → Nat → Rat} [hA : ∀ i j, Wt (A i j) K] : ∀ c, EOK n c (5 ^ c * (K + 1)) (stps n m all A c)
  | 0 => ⟨Nat.le_refl _, fun i hi => hi, fun i j _ _ e => e, (inferInstance : Wt 1 1).mono (by omega), fun i j => (hA i j).mono (by omega)⟩
  | c + 1 => by
    have h := stp_ok (m := m) (all := all) (Nat.mul_pos (Nat.pow_pos (by decide)) (Nat.succ_pos K)) (stps_ok (n := n) (m := m) (all := all) (A := A) c)
    rw [show 5 ^ (c + 1) * (K + 1) = 5 * (5 ^ c * (K + 1)) by rw [Nat.pow_succ]; ac_rfl]
    exact h
end Go.Proofs.YtdnmoggifjlbiaaGreat.AM

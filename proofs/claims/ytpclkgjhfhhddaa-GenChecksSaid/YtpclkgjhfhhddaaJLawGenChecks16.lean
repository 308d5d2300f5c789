/- Joined texts, 16: AmAr GcT. -/
import Derived.Test.YtpclkgjhfhhddaaJLawGenChecks15
import Derived.Test.YtpclkgjhfhhddaaJLawGenChecks14
set_option linter.unusedVariables false
set_option linter.unusedSimpArgs false
/- Arrays, maps, pairs that are compared. -/
namespace Go.Proofs.Ytpclkgjhfhhddaa.AM
open Go Go.RowKit Go.Proofs.Ytpclkgjhfhhddaa.PN Go.Proofs.Ytpclkgjhfhhddaa.V
set_option linter.unusedVariables false
set_option linter.unusedSimpArgs false
abbrev INT : TypeId := 3
theorem int_und : Try.prog.underlying INT = some (.int .i64) := by kernel_rfl
theorem int_inf : (Try.prog.info? INT).map (fun i => (i.zero, i.size, i.bytes)) = some (some (.int .i64 0), 1, 8) := by kernel_rfl
theorem wt_inf : (Try.prog.info? WT).map (fun i => (i.zero, i.size, i.bytes)) = some (some (.slice none 0 0), 1, 24) := by kernel_rfl
/-! ### Noughts of arrays, of Gens -/
def zOf : Bool → Value
  | true => .int .i64 0
  | false => .slice none 0 0
def zIs : Bool → Value → Bool
  | true, .int .i64 n => decide (n = 0)
  | false, .slice none 0 0 => true
  | _, _ => false
theorem zIs_ok {b : Bool} {v : Value} (h : zIs b v = true) : v = zOf b := by
  unfold zIs at h
  split at h
  · have := of_decide_eq_true h; subst this; rfl
  · rfl
  · cases h
def zAll : List Bool → List Value → Bool
  | [], [] => true
  | b :: l, v :: vs => zIs b v && zAll l vs
  | _, _ => false
theorem zAll_ok : ∀ {l : List Bool} {vs : List Value}, zAll l vs = true → vs = l.map zOf
  | [], [], _ => rfl
  | b :: l, v :: vs, h => by
    unfold zAll at h
    rw [Bool.and_eq_true] at h
    rw [zIs_ok h.1, zAll_ok h.2]; rfl
  | [], _ :: _, h => by cases h
  | _ :: _, [], h => by cases h
noncomputable def zAgg (T : TypeId) (l : List Bool) : Bool := match Try.prog.info? T with
  | some i => (match i.zero with | some z => zAll l z.cells.toList | none => false)
  | none => false
theorem zAgg_ok {T : TypeId} {l : List Bool} (h : zAgg T l = true) : isZero Try.prog T (l.map zOf) := by
  unfold zAgg at h
  split at h
  · rename_i i e
    split at h
    · rename_i z e2
      refine ⟨i, z, e, e2, ?_⟩
      have := zAll_ok h
      rw [← this]
    · cases h
  · cases h
def zTab (T : TypeId) : Option (List Bool) :=
  bif memN T [68] then some [false, false, false, false] else bif memN T [90] then some [true, true, true] else bif memN T [26] then some [true, true, true, false, false, false, false] else bif memN T [] then some [true, true] else bif memN T [74] then some [true, true, true, true] else none
theorem zTab4 : ([68] : List Nat).all (fun T => zAgg T [false, false, false, false]) = true := by kernel_rfl
theorem zTab3 : ([90] : List Nat).all (fun T => zAgg T [true, true, true]) = true := by kernel_rfl
theorem zTabG : ([26] : List Nat).all (fun T => zAgg T [true, true, true, false, false, false, false]) = true := by kernel_rfl
theorem zTabA : ([] : List Nat).all (fun T => zAgg T [true, true]) = true := by kernel_rfl
theorem zTab4i : ([74] : List Nat).all (fun T => zAgg T [true, true, true, true]) = true := by kernel_rfl
theorem zTab_ok {T : TypeId} {l : List Bool} (h : zTab T = some l) : isZero Try.prog T (l.map zOf) := by
  unfold zTab at h
  cases e1 : memN T [68] with
  | true =>
    first | (cases e1; done) | skip
    all_goals (
      rw [e1] at h; cases h; exact zAgg_ok (List.all_eq_true.1 zTab4 T (memN_spec e1)))
  | false =>
    (try rw [e1] at h); (try simp only [cond_false] at h)
    cases e2 : memN T [90] with
    | true =>
      first | (cases e2; done) | skip
      all_goals (
        rw [e2] at h; cases h; exact zAgg_ok (List.all_eq_true.1 zTab3 T (memN_spec e2)))
    | false =>
      (try rw [e2] at h); (try simp only [cond_false] at h)
      cases e3 : memN T [26] with
      | true =>
        first | (cases e3; done) | skip
        all_goals (
          rw [e3] at h; cases h; exact zAgg_ok (List.all_eq_true.1 zTabG T (memN_spec e3)))
      | false =>
        (try rw [e3] at h); (try simp only [cond_false] at h)
        cases e4 : memN T [] with
        | true =>
          first | (cases e4; done) | skip
          all_goals (
            rw [e4] at h; cases h; exact zAgg_ok (List.all_eq_true.1 zTabA T (memN_spec e4)))
        | false =>
          (try rw [e4] at h); (try simp only [cond_false] at h)
          cases e5 : memN T [74] with
          | true =>
            first | (cases e5; done) | skip
            all_goals (
              rw [e5] at h; cases h; exact zAgg_ok (List.all_eq_true.1 zTab4i T (memN_spec e5)))
          | false => ((try rw [e5] at h); (try simp only [cond_false] at h); cases h)
theorem zOf_one (l : List Bool) : (l.map zOf).all (·.oneCell') = true := by
  rw [List.all_map]
  exact List.all_eq_true.2 fun b _ => by cases b <;> rfl
/-! ### Arrays -/
def arrT (T : TypeId) : Option (Nat × TypeId) := bif memN T [68] then some (4, WT) else bif memN T [90] then some (3, INT) else bif memN T [74] then some (4, INT) else none
def arrIs (n : Nat) (E : TypeId) : Option TypeDesc → Bool
  | some (.array m F) => m == n && F == E
  | _ => false
theorem arrIs_ok {n : Nat} {E : TypeId} {d : Option TypeDesc} (h : arrIs n E d = true) : d = some (.array n E) := by
  unfold arrIs at h
  split at h
  · rw [Bool.and_eq_true] at h
    rw [eq_of_beq h.1, eq_of_beq h.2]
  · cases h
theorem arr4 : ([68] : List Nat).all (fun T => arrIs 4 WT (Try.prog.underlying T)) = true := by kernel_rfl
theorem arr3 : ([90] : List Nat).all (fun T => arrIs 3 INT (Try.prog.underlying T)) = true := by kernel_rfl
theorem arr4i : ([74] : List Nat).all (fun T => arrIs 4 INT (Try.prog.underlying T)) = true := by kernel_rfl
structure ArrOf (T : TypeId) (n : Nat) (E : TypeId) : Prop where
  u : Try.prog.underlying T = some (.array n E)
  one : ∀ (cs : Array Value) (o : Nat) (v : Value) (w : World), cs[o]? = some v → (part E cs o).run Try.prog w = .ok v w
  sz : ∃ i, Try.prog.info? E = some i ∧ i.size = 1
theorem arr_ok {T E : TypeId} {n : Nat} (h : arrT T = some (n, E)) : ArrOf T n E := by
  unfold arrT at h
  cases e1 : memN T [68] with
  | true =>
    first | (cases e1; done) | skip
    all_goals (
      rw [e1] at h; cases h
      obtain ⟨i, hi, _, h2, _⟩ := info_parts wt_inf
      exact ⟨arrIs_ok (List.all_eq_true.1 arr4 T (memN_spec e1)), fun cs o v w h => by simp [part, isAgg, run_underlying wt_u, h], i, hi, h2⟩)
  | false =>
    (try rw [e1] at h); (try simp only [cond_false] at h)
    cases e2 : memN T [90] with
    | true =>
      first | (cases e2; done) | skip
      all_goals (
        rw [e2] at h; cases h
        obtain ⟨i, hi, _, h2, _⟩ := info_parts int_inf
        exact ⟨arrIs_ok (List.all_eq_true.1 arr3 T (memN_spec e2)), fun cs o v w h => by simp [part, isAgg, run_underlying int_und, h], i, hi, h2⟩)
    | false =>
      (try rw [e2] at h); (try simp only [cond_false] at h)
      cases e3 : memN T [74] with
      | true =>
        first | (cases e3; done) | skip
        all_goals (
          rw [e3] at h; cases h
          obtain ⟨i, hi, _, h2, _⟩ := info_parts int_inf
          exact ⟨arrIs_ok (List.all_eq_true.1 arr4i T (memN_spec e3)), fun cs o v w h => by simp [part, isAgg, run_underlying int_und, h], i, hi, h2⟩)
      | false => ((try rw [e3] at h); (try simp only [cond_false] at h); cases h)
section
variable {o : Oper} {s : St}
theorem ok_index_arr {x y : Operand} {T E : TypeId} {n m : Nat} {f : Nat → AV} {k : IntKind} {z : Int} (ho : o.op = .index T x y) (ha : ArrOf T n E) (hx : avo s x = some (.ag m f)) (hy : avo s y = some (.v (.int k z))) (h0 : 0 ≤ z) (h1 : z < n) (h2 : z < m) : LOK Try.prog o s ⟨some (f z.toNat), [], []⟩ := by
  refine lok_val fun s2 hl W N β w a hs => ?_
  obtain ⟨hu, cs, e1, e2, e3⟩ := hs.opd (x := x) (by rw [hl.avo (by rw [ho]; simp [Op.operands])]; exact hx)
  have e4 : a.eval y = .int k z := hs.opv (by rw [hl.avo (by rw [ho]; simp [Op.operands])]; exact hy)
  obtain ⟨v, q1, q2, q3⟩ := e3 z.toNat (by omega)
  obtain ⟨i, hi, hz⟩ := ha.sz
  have hrun : (Instr.index T (a.eval x) (a.eval y)).run Try.prog w = .ok v w := by
    rw [e1, e4]
    have := ha.one cs (z.toNat * 1) v w (by rw [Nat.mul_one]; exact q1)
    simp [Instr.index, asIntOf, run_underlying ha.u, h0, h1, sizeOf, typeInfo, hi, hz]
    simpa using this
  exact ⟨v, by unfold execOp; rw [ho]; simp only [Sem.run_bind, hrun]; rfl, fun q hq => by cases hq; exact ⟨hu _ (by omega), q3⟩⟩
theorem ok_indexaddr_arr {x y : Operand} {T E : TypeId} {n g r : Nat} {k : IntKind} {z : Int} (ho : o.op = .indexAddr T x y) (ha : ArrOf T n E) (hx : avo s x = some (.ptr g r 0)) (hy : avo s y = some (.v (.int k z))) (h0 : 0 ≤ z) (h1 : z < n) : LOK Try.prog o s ⟨some (.ptr g r z.toNat), [], []⟩ := by
  refine lok_val fun s2 hl W N β w a hs => ?_
  obtain ⟨hu, b, q1, e1⟩ := hs.opd (x := x) (by rw [hl.avo (by rw [ho]; simp [Op.operands])]; exact hx)
  have e4 : a.eval y = .int k z := hs.opv (by rw [hl.avo (by rw [ho]; simp [Op.operands])]; exact hy)
  obtain ⟨i, hi, hz⟩ := ha.sz
  have hrun : (Instr.indexAt T (a.eval x) (a.eval y)).run Try.prog w = .ok (.pointer (some ⟨b, z.toNat, none⟩)) w := by
    rw [e1, e4]
    simp [Instr.indexAt, asIntOf, Instr.sureAddr, run_underlying ha.u, h0, h1, sizeOf, typeInfo, hi, hz, add_at]
  exact ⟨_, by unfold execOp; rw [ho]; simp only [Sem.run_bind, hrun]; rfl, fun q hq => by cases hq; exact ⟨hu, b, q1, rfl⟩⟩
/-! ### Pairs -/
/-- A struct of two ints. -/
structure PairT (T : TypeId) : Prop where
  u : ∃ f0 f1 : Field, Try.prog.underlying T = some (.struct #[f0, f1]) ∧ f0.type = INT ∧ f0.offset = 0 ∧ f0.name ≠ "_" ∧ f1.type = INT ∧ f1.offset = 1 ∧ f1.name ≠ "_"
  s : Try.prog.stoodInHeld T = false
  g : Try.prog.eqGuardType Try.prog.depth T = false
noncomputable def pairB (T : TypeId) : Bool := (match Try.prog.underlying T with
  | some (.struct fs) => (match fs.toList with
    | [f0, f1] => f0.type == INT && (f0.offset == 0 && (f0.name != "_" && (f1.type == INT && (f1.offset == 1 && f1.name != "_"))))
    | _ => false)
  | _ => false) && (!(Try.prog.stoodInHeld T) && !(Try.prog.eqGuardType Try.prog.depth T))
theorem pairB_ok {T : TypeId} (h : pairB T = true) : PairT T := by
  unfold pairB at h
  rw [Bool.and_eq_true, Bool.and_eq_true, Bool.not_eq_true', Bool.not_eq_true'] at h
  obtain ⟨h1, h2, h3⟩ := h
  refine ⟨?_, h2, h3⟩
  split at h1
  · rename_i fs e
    split at h1
    · rename_i f0 f1 e2
      simp only [Bool.and_eq_true, bne_iff_ne, ne_eq] at h1
      obtain ⟨a1, a2, a3, a4, a5, a6⟩ := h1
      refine ⟨f0, f1, ?_, eq_of_beq a1, eq_of_beq a2, a3, eq_of_beq a4, eq_of_beq a5, a6⟩
      rw [e]
      obtain ⟨fs⟩ := fs
      simp only [] at e2
      rw [e2]
    · cases h1
  · cases h1
abbrev agp (a b : Int) : Value := .agg #[.int .i64 a, .int .i64 b]
theorem part_int (cs : Array Value) (o : Nat) (v : Value) (w : World) (h : cs[o]? = some v) : (part INT cs o).run Try.prog w = .ok v w := by
  simp [part, isAgg, run_underlying int_und, h]
theorem run_eq_pair {T : TypeId} (hT : PairT T) (w : World) (a b c d : Int) : (Op.equal T (agp a b) (agp c d)).run Try.prog w = .ok (decide (a = c) && decide (b = d)) w := by
  obtain ⟨f0, f1, hu, a1, a2, a3, a4, a5, a6⟩ := hT.u
  have hint : ∀ (n : Nat) (x y : Int), (Op.equalIn (n + 1) INT (.int .i64 x) (.int .i64 y)).run Try.prog w = .ok (decide (x = y)) w := by
    intro n x y
    simp [Op.equalIn, run_underlying int_und, beq_dec]
  have hp0 : ∀ x y : Int, (part INT #[.int .i64 x, .int .i64 y] 0).run Try.prog w = .ok (.int .i64 x) w := fun x y => part_int _ 0 _ w rfl
  have hp1 : ∀ x y : Int, (part INT #[.int .i64 x, .int .i64 y] 1).run Try.prog w = .ok (.int .i64 y) w := fun x y => part_int _ 1 _ w rfl
  unfold Op.equal
  rw [show Op.maxDepth = 9998 + 1 + 1 from rfl]
  unfold Op.equalIn
  rw [Sem.run_bind, run_underlying hu w]
  have hs := hT.s
  have hpg : ∀ w, Sem.run Try.prog (Sem.program Sem.pure) w = .ok Try.prog w := fun w => by simp [Sem.run]
  by_cases h1 : a = c <;> by_cases h2 : b = d <;> simp [program, hpg, hs, a1, a2, a3, a4, a5, a6, hint, hp0, hp1, h1, h2]
theorem ag_pair {S : Nat → Prop} {B : Nat} {β : Nat → Nat → Value} {w : World} {f : Nat → AV} {v : Value} {a b : Int} (h : RV S B β w (.ag 2 f) v) (h0 : f 0 = .v (.int .i64 a)) (h1 : f 1 = .v (.int .i64 b)) : v = agp a b := by
  obtain ⟨cs, rfl, h2, h3⟩ := h
  obtain ⟨y0, e0, _, r0⟩ := h3 0 (by decide)
  obtain ⟨y1, e1, _, r1⟩ := h3 1 (by decide)
  rw [h0] at r0; rw [h1] at r1
  have r0 : y0 = .int .i64 a := r0
  have r1 : y1 = .int .i64 b := r1
  subst r0; subst r1
  obtain ⟨cs⟩ := cs
  match cs, h2 with
  | [x, y], _ => cases e0; cases e1; rfl
theorem ok_eq_pair {x y : Operand} {T T' : TypeId} {f g : Nat → AV} {a b c d : Int} (ho : o.op = .binOp .eql T x y T') (hT : PairT T) (hx : avo s x = some (.ag 2 f)) (hy : avo s y = some (.ag 2 g)) (h0 : f 0 = .v (.int .i64 a)) (h1 : f 1 = .v (.int .i64 b)) (h2 : g 0 = .v (.int .i64 c)) (h3 : g 1 = .v (.int .i64 d)) :
    LOK Try.prog o s ⟨some (.v (.bool (decide (a = c) && decide (b = d)))), [], []⟩ := by
  refine lok_val fun s2 hl W N β w ac hs => ⟨.bool (decide (a = c) && decide (b = d)), ?_, fun z hz => by cases hz; exact ⟨trivial, rfl⟩⟩
  have e1 := ag_pair (hs.opd (x := x) (by rw [hl.avo (by rw [ho]; simp [Op.operands])]; exact hx)).2 h0 h1
  have e2 := ag_pair (hs.opd (x := y) (by rw [hl.avo (by rw [ho]; simp [Op.operands])]; exact hy)).2 h2 h3
  have hg := hT.g
  unfold execOp; rw [ho]; simp only []; rw [e1, e2]
  simp [eqGuard, binOp, program, Sem.run, hg, run_eq_pair hT]
/-! ### Two bools -/
structure MarkT (T : TypeId) : Prop where
  u : ∃ f0 f1 : Field, Try.prog.underlying T = some (.struct #[f0, f1]) ∧ f0.type = 4 ∧ f0.offset = 0 ∧ f0.name ≠ "_" ∧ f1.type = 4 ∧ f1.offset = 1 ∧ f1.name ≠ "_"
  s : Try.prog.stoodInHeld T = false
  g : Try.prog.eqGuardType Try.prog.depth T = false
noncomputable def markB (T : TypeId) : Bool := (match Try.prog.underlying T with
  | some (.struct fs) => (match fs.toList with
    | [f0, f1] => f0.type == 4 && (f0.offset == 0 && (f0.name != "_" && (f1.type == 4 && (f1.offset == 1 && f1.name != "_"))))
    | _ => false)
  | _ => false) && (!(Try.prog.stoodInHeld T) && !(Try.prog.eqGuardType Try.prog.depth T))
theorem markB_ok {T : TypeId} (h : markB T = true) : MarkT T := by
  unfold markB at h
  rw [Bool.and_eq_true, Bool.and_eq_true, Bool.not_eq_true', Bool.not_eq_true'] at h
  obtain ⟨h1, h2, h3⟩ := h
  refine ⟨?_, h2, h3⟩
  split at h1
  · rename_i fs e
    split at h1
    · rename_i f0 f1 e2
      simp only [Bool.and_eq_true, bne_iff_ne, ne_eq] at h1
      obtain ⟨a1, a2, a3, a4, a5, a6⟩ := h1
      refine ⟨f0, f1, ?_, eq_of_beq a1, eq_of_beq a2, a3, eq_of_beq a4, eq_of_beq a5, a6⟩
      rw [e]
      obtain ⟨fs⟩ := fs
      simp only [] at e2
      rw [e2]
    · cases h1
  · cases h1
abbrev agb (a b : Bool) : Value := .agg #[.bool a, .bool b]
theorem bool_und : Try.prog.underlying 4 = some .bool := by kernel_rfl
theorem run_eq_mark {T : TypeId} (hT : MarkT T) (w : World) (a b c d : Bool) : (Op.equal T (agb a b) (agb c d)).run Try.prog w = .ok ((a == c) && (b == d)) w := by
  obtain ⟨f0, f1, hu, a1, a2, a3, a4, a5, a6⟩ := hT.u
  have hbool : ∀ (n : Nat) (x y : Bool), (Op.equalIn (n + 1) 4 (.bool x) (.bool y)).run Try.prog w = .ok (x == y) w := by
    intro n x y
    simp [Op.equalIn, run_underlying bool_und]
  have hp : ∀ (cs : Array Value) (o : Nat) (v : Value), cs[o]? = some v → (part 4 cs o).run Try.prog w = .ok v w := fun cs o v h => by simp [part, isAgg, run_underlying bool_und, h]
  have hp0 : ∀ x y : Bool, (part 4 #[.bool x, .bool y] 0).run Try.prog w = .ok (.bool x) w := fun x y => hp _ 0 _ rfl
  have hp1 : ∀ x y : Bool, (part 4 #[.bool x, .bool y] 1).run Try.prog w = .ok (.bool y) w := fun x y => hp _ 1 _ rfl
  unfold Op.equal
  rw [show Op.maxDepth = 9998 + 1 + 1 from rfl]
  unfold Op.equalIn
  rw [Sem.run_bind, run_underlying hu w]
  have hs := hT.s
  have hpg : ∀ w, Sem.run Try.prog (Sem.program Sem.pure) w = .ok Try.prog w := fun w => by simp [Sem.run]
  cases a <;> cases b <;> cases c <;> cases d <;> simp [program, hpg, hs, a1, a2, a3, a4, a5, a6, hbool, hp0, hp1]
theorem ag_mark {S : Nat → Prop} {B : Nat} {β : Nat → Nat → Value} {w : World} {f : Nat → AV} {v : Value} {a b : Bool} (h : RV S B β w (.ag 2 f) v) (h0 : f 0 = .v (.bool a)) (h1 : f 1 = .v (.bool b)) : v = agb a b := by
  obtain ⟨cs, rfl, h2, h3⟩ := h
  obtain ⟨y0, e0, _, r0⟩ := h3 0 (by decide)
  obtain ⟨y1, e1, _, r1⟩ := h3 1 (by decide)
  rw [h0] at r0; rw [h1] at r1
  have r0 : y0 = .bool a := r0
  have r1 : y1 = .bool b := r1
  subst r0; subst r1
  obtain ⟨cs⟩ := cs
  match cs, h2 with
  | [x, y], _ => cases e0; cases e1; rfl
theorem ok_ne_mark {x y : Operand} {T T' : TypeId} {f g : Nat → AV} {a b c d : Bool} (ho : o.op = .binOp .neq T x y T') (hT : MarkT T) (hx : avo s x = some (.ag 2 f)) (hy : avo s y = some (.ag 2 g)) (h0 : f 0 = .v (.bool a)) (h1 : f 1 = .v (.bool b)) (h2 : g 0 = .v (.bool c)) (h3 : g 1 = .v (.bool d)) :
    LOK Try.prog o s ⟨some (.v (.bool (!((a == c) && (b == d))))), [], []⟩ := by
  refine lok_val fun s2 hl W N β w ac hs => ⟨.bool (!((a == c) && (b == d))), ?_, fun z hz => by cases hz; exact ⟨trivial, rfl⟩⟩
  have e1 := ag_mark (hs.opd (x := x) (by rw [hl.avo (by rw [ho]; simp [Op.operands])]; exact hx)).2 h0 h1
  have e2 := ag_mark (hs.opd (x := y) (by rw [hl.avo (by rw [ho]; simp [Op.operands])]; exact hy)).2 h2 h3
  have hg := hT.g
  unfold execOp; rw [ho]; simp only []; rw [e1, e2]
  simp [eqGuard, binOp, program, Sem.run, hg, run_eq_mark hT]
noncomputable def zMark (T : TypeId) : Bool := match Try.prog.info? T with
  | some i => (match i.zero with | some z => (match z.cells.toList with | [.bool a, .bool b] => !a && !b | _ => false) | none => false)
  | none => false
theorem zMark_ok {T : TypeId} (h : zMark T = true) : isZero Try.prog T [.bool false, .bool false] := by
  unfold zMark at h
  split at h
  · rename_i i e
    split at h
    · rename_i z e2
      split at h
      · rename_i a b e3
        rw [Bool.and_eq_true, Bool.not_eq_true', Bool.not_eq_true'] at h
        rw [h.1, h.2] at e3
        refine ⟨i, z, e, e2, ?_⟩
        rw [← e3]
      · cases h
    · cases h
  · cases h
/-! ### Maps -/
structure MapT (M K : TypeId) : Prop where
  u : ∃ E, Try.prog.underlying M = some (.map K E) ∧ (∀ w, (zeroValue E).run Try.prog w = .ok (.agg #[.int .i64 0, .int .i64 0, .int .i64 0]) w)
  k : PairT K
theorem run_find {K : TypeId} (hK : PairT K) (w : World) (a b : Int) : ∀ (es : List MapEntry) (i : Nat), (∀ e ∈ es, ∃ c d, e.key = agp c d) →
    ∃ r, (Instr.findAsking K (agp a b) es i).run Try.prog w = .ok r w ∧ (∀ j v, r = some (j, v) → ∃ e ∈ es, e.key = agp a b ∧ e.val = v) ∧ (r = none → ∀ e ∈ es, e.key ≠ agp a b)
  | [], i, _ => ⟨none, by simp [Instr.findAsking], fun _ _ h => (by cases h), fun _ e he => (by cases he)⟩
  | e :: es, i, h => by
    obtain ⟨c, d, hk⟩ := h e (List.mem_cons_self ..)
    obtain ⟨r, h1, h2, h3⟩ := run_find hK w a b es (i + 1) fun e he => h e (List.mem_cons_of_mem _ he)
    by_cases hcd : a = c ∧ b = d
    · obtain ⟨rfl, rfl⟩ := hcd
      refine ⟨some (i, e.val), ?_, fun j v hv => ?_, fun hn => (by cases hn)⟩
      · unfold Instr.findAsking
        rw [hk]
        simp [run_eq_pair hK]
      · cases hv; exact ⟨e, List.mem_cons_self .., hk, rfl⟩
    · refine ⟨r, ?_, fun j v hv => ?_, fun hn e' he' => ?_⟩
      · unfold Instr.findAsking
        rw [hk]
        have : (decide (a = c) && decide (b = d)) = false := by
          rw [Bool.and_eq_false_iff]
          by_cases h : a = c
          · exact .inr (decide_eq_false fun h' => hcd ⟨h, h'⟩)
          · exact .inl (decide_eq_false h)
        simp [run_eq_pair hK, this, h1]
      · obtain ⟨e', he', h4⟩ := h2 j v hv; exact ⟨e', List.mem_cons_of_mem _ he', h4⟩
      · rcases List.mem_cons.1 he' with rfl | he'
        · rw [hk]; intro e0
          simp only [Value.agg.injEq, Array.mk.injEq, List.cons.injEq, Value.int.injEq, and_true, true_and] at e0
          exact hcd ⟨e0.1.symm, e0.2.symm⟩
        · exact h3 hn e' he'
theorem run_findKey {K : TypeId} (hK : PairT K) (w : World) (a b : Int) (es : List MapEntry) (he : ∀ e ∈ es, ∃ c d, e.key = agp c d) :
    ∃ r, (Instr.findKey K (agp a b) es).run Try.prog w = .ok r w ∧ (∀ j v, r = some (j, v) → ∃ e ∈ es, e.key = agp a b ∧ e.val = v) ∧ (r = none → ∀ e ∈ es, e.key ≠ agp a b) := by
  obtain ⟨f0, f1, hu, _⟩ := hK.u
  cases es with
  | nil => exact ⟨none, by simp [Instr.findKey, run_underlying hu, Instr.findNow], fun _ _ h => (by cases h), fun _ e he => (by cases he)⟩
  | cons e es =>
    obtain ⟨r, h1, h2, h3⟩ := run_find hK w a b (e :: es) 0 he
    obtain ⟨c, d, hk⟩ := he e (List.mem_cons_self ..)
    refine ⟨r, ?_, h2, h3⟩
    unfold Instr.findKey
    rw [Sem.run_bind, run_underlying hu w]
    simp only [Result.andThen_ok, Instr.findNow, hk, Instr.sameNow]
    exact h1
theorem run_checkKey {K : TypeId} (hK : PairT K) (w : World) (em : Bool) (a b : Int) : (Instr.checkKey em 10000 K (agp a b)).run Try.prog w = .ok () w := by
  obtain ⟨f0, f1, hu, a1, a2, a3, a4, a5, a6⟩ := hK.u
  have hp0 : ∀ x y : Int, (part INT #[.int .i64 x, .int .i64 y] 0).run Try.prog w = .ok (.int .i64 x) w := fun x y => part_int _ 0 _ w rfl
  have hp1 : ∀ x y : Int, (part INT #[.int .i64 x, .int .i64 y] 1).run Try.prog w = .ok (.int .i64 y) w := fun x y => part_int _ 1 _ w rfl
  have hint : ∀ (n : Nat) (x : Int), (Instr.checkKey em (n + 1) INT (.int .i64 x)).run Try.prog w = .ok () w := by
    intro n x
    simp [Instr.checkKey, run_underlying int_und]
  rw [show (10000 : Nat) = 9998 + 1 + 1 from rfl]
  unfold Instr.checkKey
  rw [Sem.run_bind, run_underlying hu w]
  simp [a1, a2, a3, a4, a5, a6, hp0, hp1, hint]
/-- What a map says at a key. -/
def mpz (p : Option (Int × Int × Int)) (i : Nat) : Int := match p with
  | some (x, y, z) => (match i with | 0 => x | 1 => y | _ => z)
  | none => 0
def mpv (p : Option (Int × Int × Int)) (i : Nat) : AV := .v (.int .i64 (mpz p i))
theorem mpv_ok (p : Option (Int × Int × Int)) (U : Nat → Bool) (i : Nat) : (mpv p i).ok U := by
  exact True.intro
theorem mpv_rv {S : Nat → Prop} {B : Nat} {β : Nat → Nat → Value} {w : World} {p : Option (Int × Int × Int)} {x y z : Int} (h : (p = some (x, y, z)) ∨ (p = none ∧ x = 0 ∧ y = 0 ∧ z = 0)) : RV S B β w (.ag 3 (mpv p)) (.agg #[.int .i64 x, .int .i64 y, .int .i64 z]) := by
  refine ⟨_, rfl, rfl, fun i hi => ?_⟩
  rcases h with rfl | ⟨rfl, rfl, rfl, rfl⟩
  · match i, hi with
    | 0, _ => exact ⟨_, rfl, rfl, rfl⟩
    | 1, _ => exact ⟨_, rfl, rfl, rfl⟩
    | 2, _ => exact ⟨_, rfl, rfl, rfl⟩
  · match i, hi with
    | 0, _ => exact ⟨_, rfl, rfl, rfl⟩
    | 1, _ => exact ⟨_, rfl, rfl, rfl⟩
    | 2, _ => exact ⟨_, rfl, rfl, rfl⟩
theorem run_getObj {r ck : Nat} {es : Array MapEntry} {w : World} (h : w.heap[r]? = some (.map es ck)) : (getObj r).run Try.prog w = .ok (.map es ck) w := by
  simp [getObj, Sem.run, h]
theorem ok_lookup {x y : Operand} {M K : TypeId} {F : Int → Int → Option (Int × Int × Int)} {f : Nat → AV} {a b : Int} (ho : o.op = .lookup M x y false) (hM : MapT M K) (hx : avo s x = some (.mp F)) (hy : avo s y = some (.ag 2 f)) (h0 : f 0 = .v (.int .i64 a)) (h1 : f 1 = .v (.int .i64 b)) : LOK Try.prog o s ⟨some (.ag 3 (mpv (F a b))), [], []⟩ := by
  refine lok_val fun s2 hl W N β w ac hs => ?_
  obtain ⟨_, r, es, ck, e1, _, e2, e3, e4⟩ := hs.opd (x := x) (by rw [hl.avo (by rw [ho]; simp [Op.operands])]; exact hx)
  have e5 := ag_pair (hs.opd (x := y) (by rw [hl.avo (by rw [ho]; simp [Op.operands])]; exact hy)).2 h0 h1
  obtain ⟨E, hu, hz⟩ := hM.u
  obtain ⟨q, q1, q2, q3⟩ := run_findKey hM.k w a b es.toList fun e he => by obtain ⟨c, d, _, _, _, h, _⟩ := e3 e he; exact ⟨c, d, h⟩
  have hrun : ∃ p1 p2 p3, (Instr.lookup M (ac.eval x) (ac.eval y) false).run Try.prog w = .ok (.agg #[.int .i64 p1, .int .i64 p2, .int .i64 p3]) w ∧ ((F a b = some (p1, p2, p3)) ∨ (F a b = none ∧ p1 = 0 ∧ p2 = 0 ∧ p3 = 0)) := by
    rw [e1, e5]
    cases q with
    | none =>
      refine ⟨0, 0, 0, ?_, .inr ⟨?_, rfl, rfl, rfl⟩⟩
      · simp [Instr.lookup, run_underlying hu, run_getObj e2, run_checkKey hM.k, q1, hz]
      · cases hF : F a b with
        | none => rfl
        | some p => obtain ⟨e, he, hk⟩ := e4 a b p hF; exact absurd hk (q3 rfl e he)
    | some jv =>
      obtain ⟨j, v⟩ := jv
      obtain ⟨e, he, hk, hv⟩ := q2 j v rfl
      obtain ⟨c, d, p1, p2, p3, hk2, hv2, hF⟩ := e3 e he
      rw [hk] at hk2
      simp only [Value.agg.injEq, Array.mk.injEq, List.cons.injEq, Value.int.injEq, and_true, true_and] at hk2
      rw [← hk2.1, ← hk2.2] at hF
      refine ⟨p1, p2, p3, ?_, .inl hF⟩
      rw [← hv2, hv]
      simp [Instr.lookup, run_underlying hu, run_getObj e2, run_checkKey hM.k, q1]
  obtain ⟨x', y', z', hr, hv⟩ := hrun
  exact ⟨_, by unfold execOp; rw [ho]; simp only [Sem.run_bind, hr]; rfl, fun q hq => by cases hq; exact ⟨fun i _ => mpv_ok _ _ i, mpv_rv hv⟩⟩
end
/-! ### Tables; what an operation does -/
def mapK (M : TypeId) : Option TypeId := bif memN M [88] then ([92] : List Nat).head? else none
noncomputable def mapIs (K : TypeId) : Option TypeDesc → Bool
  | some (.map k E) => k == K && (match Try.prog.info? E with
    | some i => (match i.zero with
      | some (.agg cs) => (match cs.toList with | [.int .i64 a, .int .i64 b, .int .i64 c] => decide (a = 0 ∧ b = 0 ∧ c = 0) | _ => false)
      | _ => false)
    | none => false)
  | _ => false
theorem mapIs_ok {M K : TypeId} (h : mapIs K (Try.prog.underlying M) = true) : ∃ E, Try.prog.underlying M = some (.map K E) ∧ (∀ w, (zeroValue E).run Try.prog w = .ok (.agg #[.int .i64 0, .int .i64 0, .int .i64 0]) w) := by
  unfold mapIs at h
  split at h
  · rename_i k E e
    rw [Bool.and_eq_true] at h
    refine ⟨E, by rw [e, eq_of_beq h.1], fun w => ?_⟩
    have h2 := h.2
    split at h2
    · rename_i i ei
      split at h2
      · rename_i cs ec
        split at h2
        · rename_i a b c el
          obtain ⟨rfl, rfl, rfl⟩ := of_decide_eq_true h2
          obtain ⟨cs⟩ := cs
          simp only [] at el
          subst el
          simp [zeroValue, typeInfo, ei, ec]
        · cases h2
      · cases h2
    · cases h2
  · cases h
theorem mapAll : ([88] : List Nat).all (fun M => ([92] : List Nat).all fun K => mapIs K (Try.prog.underlying M)) = true := by kernel_rfl
theorem markAll : ([122] : List Nat).all markB = true := by kernel_rfl
theorem zMarkAll : ([122] : List Nat).all zMark = true := by kernel_rfl
theorem layMarkAll : ∀ T, T ∈ ([122] : List Nat) → Lay T [(0, 1), (1, 1)] [.bool false, .bool false] := by
  intro T hT
  simp only [List.mem_cons, List.not_mem_nil, or_false] at hT <;>
  first
    | exact hT.elim
    | (rcases hT with rfl | rfl <;> exact ⟨⟨fun i => ([(0, 1), (1, 1)] : List (Nat × Nat)).toArray[i]?, fun i p h => by simpa using h, fun parts => by kernel_rfl⟩, rfl⟩)
    | (subst hT; exact ⟨⟨fun i => ([(0, 1), (1, 1)] : List (Nat × Nat)).toArray[i]?, fun i p h => by simpa using h, fun parts => by kernel_rfl⟩, rfl⟩)
theorem pairAll : ([92] : List Nat).all pairB = true := by kernel_rfl
theorem head_mem : ∀ {l : List Nat} {K : Nat}, l.head? = some K → K ∈ l
  | x :: l, K, h => by cases h; exact List.mem_cons_self ..
theorem mapK_ok {M K : TypeId} (h : mapK M = some K) : MapT M K := by
  unfold mapK at h
  cases e1 : memN M [88] with
  | true =>
    first | (cases e1; done) | skip
    all_goals (
      rw [e1] at h
      have hK := head_mem (show ([92] : List Nat).head? = some K from h)
      refine ⟨mapIs_ok (List.all_eq_true.1 (List.all_eq_true.1 mapAll M (memN_spec e1)) K hK), pairB_ok (List.all_eq_true.1 pairAll K ?_)⟩
      simp only [List.mem_cons, List.not_mem_nil, or_false] at hK ⊢ <;>
        first
          | exact .inl hK
          | exact hK)
  | false => ((try rw [e1] at h); (try simp only [cond_false] at h); cases h)
def pairOf : AV → AV → Option (Int × Int)
  | .v (.int .i64 a), .v (.int .i64 b) => some (a, b)
  | _, _ => none
theorem pairOf_ok {x y : AV} {a b : Int} (h : pairOf x y = some (a, b)) : x = .v (.int .i64 a) ∧ y = .v (.int .i64 b) := by
  unfold pairOf at h
  split at h
  · cases h; exact ⟨rfl, rfl⟩
  · cases h
def boolsOf : AV → AV → Option (Bool × Bool)
  | .v (.bool a), .v (.bool b) => some (a, b)
  | _, _ => none
theorem boolsOf_ok {x y : AV} {a b : Bool} (h : boolsOf x y = some (a, b)) : x = .v (.bool a) ∧ y = .v (.bool b) := by
  unfold boolsOf at h
  split at h
  · cases h; exact ⟨rfl, rfl⟩
  · cases h
def ev2 (o : Oper) (s : St) : Ev :=
  match o.op with
  | .alloc T => (match zTab T with
    | some l => outN s o.dst (fun g => .ptr g 0 0) (.ones T l.length (fun i => .v ((l.map zOf).getD i undef))) (T ≠ U32) []
    | none => bif memN T [122] then outN s o.dst (fun g => .ptr g 0 0) (.ones T 2 (fun i => .v ([Value.bool false, Value.bool false].getD i undef))) (T ≠ U32) [] else none)
  | .build T parts => bif memN T [122] then (match partsA s parts.toList with
    | some ys => (match fillA [(0, 1), (1, 1)] [.v (.bool false), .v (.bool false)] ys with
      | some r => out (.ag r.length (fun i => r.getD i (.v undef))) ((ys.all fun p => partOK p.2) = true) []
      | none => none)
    | none => none) else none
  | .index T x y => (match arrT T, avo s x, avo s y with
    | some (n, _), some (.ag m f), some (.v (.int _ z)) => out (f z.toNat) (0 ≤ z ∧ z < n ∧ z < m) []
    | _, _, _ => none)
  | .indexAddr T x y => (match arrT T, avo s x, avo s y with
    | some (n, _), some (.ptr g r i), some (.v (.int _ z)) => bif Nat.beq i 0 then out (.ptr g r z.toNat) (0 ≤ z ∧ z < n) [] else none
    | _, _, _ => none)
  | .lookup M x y ok => bif ok then none else (match mapK M, avo s x, avo s y with
    | some _, some (.mp F), some (.ag m f) => (match pairOf (f 0) (f 1) with
      | some (a, b) => out (.ag 3 (mpv (F a b))) (m = 2) []
      | none => none)
    | _, _, _ => none)
  | .binOp .eql T x y _ => bif memN T [92] then (match avo s x, avo s y with
    | some (.ag m f), some (.ag m' g) => (match pairOf (f 0) (f 1), pairOf (g 0) (g 1) with
      | some (a, b), some (c, d) => out (.v (.bool (decide (a = c) && decide (b = d)))) (m = 2 ∧ m' = 2) []
      | _, _ => none)
    | _, _ => none) else none
  | .binOp .neq T x y _ => bif memN T [122] then (match avo s x, avo s y with
    | some (.ag m f), some (.ag m' g) => (match boolsOf (f 0) (f 1), boolsOf (g 0) (g 1) with
      | some (a, b), some (c, d) => out (.v (.bool (!((a == c) && (b == d))))) (m = 2 ∧ m' = 2) []
      | _, _ => none)
    | _, _ => none) else none
  | _ => none
theorem ev2_ok {o : Oper} {s : St} {D : Dsc} {c : Prop} (h : ev2 o s = some (D, c)) (hc : c) : LOK Try.prog o s D := by
  unfold ev2 at h
  split at h
  · rename_i T ho
    split at h
    · rename_i l e
      obtain ⟨hu, rfl, rfl⟩ := outN_inj h
      exact ok_alloc_ones ho hu (zTab_ok e) hc (zOf_one l) (by simp)
    · rename_i e
      cases hT : memN T [122] with
      | false => rw [hT] at h; cases h
      | true =>
        rw [hT] at h
        obtain ⟨hu, rfl, rfl⟩ := outN_inj h
        exact ok_alloc_ones ho hu (zMark_ok (List.all_eq_true.1 zMarkAll T (memN_spec hT))) hc rfl rfl
  · rename_i T parts ho
    cases hT : memN T [122] with
    | false => rw [hT] at h; cases h
    | true =>
      rw [hT] at h
      simp only [cond_true] at h
      split at h
      · rename_i ys e1
        split at h
        · rename_i r e2
          obtain ⟨rfl, rfl⟩ := out_inj h
          exact ok_build_ag ho (layMarkAll T (memN_spec hT)) e1 hc e2
        · cases h
      · cases h
  · rename_i ho
    split at h
    · rename_i e1 e2 e3
      obtain ⟨rfl, rfl⟩ := out_inj h
      exact ok_index_arr ho (arr_ok e1) e2 e3 hc.1 hc.2.1 hc.2.2
    · cases h
  · rename_i ho
    split at h
    · rename_i g r i k z e1 e2 e3
      cases hi : Nat.beq i 0 with
      | true =>
        rw [hi] at h
        have := Nat.eq_of_beq_eq_true hi
        subst this
        obtain ⟨rfl, rfl⟩ := out_inj h
        exact ok_indexaddr_arr ho (arr_ok e1) e2 e3 hc.1 hc.2
      | false => rw [hi] at h; cases h
    · cases h
  · rename_i M x y ok ho
    cases ok with
    | true => cases h
    | false =>
      simp only [cond_false] at h
      split at h
      · rename_i K F m f e1 e2 e3
        split at h
        · rename_i a b e4
          obtain ⟨rfl, rfl⟩ := out_inj h
          obtain ⟨q1, q2⟩ := pairOf_ok e4
          subst hc
          exact ok_lookup ho (mapK_ok e1) e2 e3 q1 q2
        · cases h
      · cases h
  · rename_i T x y T' ho
    cases hT : memN T [92] with
    | false => rw [hT] at h; cases h
    | true =>
      rw [hT] at h
      simp only [cond_true] at h
      split at h
      · rename_i m f m' g e1 e2
        split at h
        · rename_i a b c' d e3 e4
          obtain ⟨rfl, rfl⟩ := out_inj h
          obtain ⟨q1, q2⟩ := pairOf_ok e3
          obtain ⟨q3, q4⟩ := pairOf_ok e4
          obtain ⟨rfl, rfl⟩ := hc
          exact ok_eq_pair ho (pairB_ok (List.all_eq_true.1 pairAll T (memN_spec hT))) e1 e2 q1 q2 q3 q4
        · cases h
      · cases h
  · rename_i T x y T' ho
    cases hT : memN T [122] with
    | false => rw [hT] at h; cases h
    | true =>
      rw [hT] at h
      simp only [cond_true] at h
      split at h
      · rename_i m f m' g e1 e2
        split at h
        · rename_i a b c' d e3 e4
          obtain ⟨rfl, rfl⟩ := out_inj h
          obtain ⟨q1, q2⟩ := boolsOf_ok e3
          obtain ⟨q3, q4⟩ := boolsOf_ok e4
          obtain ⟨rfl, rfl⟩ := hc
          exact ok_ne_mark ho (markB_ok (List.all_eq_true.1 markAll T (memN_spec hT))) e1 e2 q1 q2 q3 q4
        · cases h
      · cases h
  · cases h
def ev23 (o : Oper) (s : St) : Ev := match ev2 o s with
  | some r => some r
  | none => (match ev3 o s with
    | some r => some r
    | none => ev4 o s)
theorem ev23_ok {o : Oper} {s : St} {D : Dsc} {c : Prop} (h : ev23 o s = some (D, c)) (hc : c) : LOK Try.prog o s D := by
  unfold ev23 at h
  split at h
  · rename_i e; exact ev2_ok (e.trans h) hc
  · split at h
    · rename_i e; exact ev3_ok (e.trans h) hc
    · exact ev4_ok h hc
section
variable {ops : Array Oper} {l : List Oper} {s : St} {acc : List Fp} {K : St → List Fp → Prop} {c : Prop} {d : Option Tmp} {r : Option AV} {upd : List (Nat × Option Fam)} {rd : List Nat} {op : Op} {ty : TypeId} {ps : String} {aft : Array Edge}
theorem st_ev2 (h : ev23 ⟨d, op, ty, ps, aft, none⟩ s = some (⟨r, upd, rd⟩, c)) (hc : c) (k : AOps Try.prog ops l (nxt s d r upd) ((rd, upd.map (·.1)) :: acc) K) : AOps Try.prog ops (⟨d, op, ty, ps, aft, none⟩ :: l) s acc K := .cons _ (.inl ⟨.none rfl, ev23_ok h hc⟩) k
theorem st_evg2 {j : Nat} {want b : Bool} {t : Tmp} (ht : (ops[j]?).bind (·.dst) = some t) (he : s.env t = some (.v (.bool b))) (hb : (b == want) = true) (h : ev23 ⟨d, op, ty, ps, aft, some (j, want)⟩ s = some (⟨r, upd, rd⟩, c)) (hc : c) (k : AOps Try.prog ops l (nxt s d r upd) ((rd, upd.map (·.1)) :: acc) K) : AOps Try.prog ops (⟨d, op, ty, ps, aft, some (j, want)⟩ :: l) s acc K :=
  .cons _ (.inl ⟨hb ▸ .some j want t b rfl ht he, ev23_ok h hc⟩) k
end
end Go.Proofs.Ytpclkgjhfhhddaa.AM
/- What follows, of one frame alone. -/
namespace Go.Proofs.Ytpclkgjhfhhddaa.AM
open Go Go.RowKit Go.Proofs.Ytpclkgjhfhhddaa.PN Go.Proofs.Ytpclkgjhfhhddaa.V
set_option linter.unusedVariables false
set_option linter.unusedSimpArgs false
structure AWPt (W : Wd) (P : Program) (N : Nat) (c : Code) (Q : Exit → St → Prop) (s : St) : Prop where
  out : ∀ β w a, Sim W N β w a s → c.wp P (fun e a' w' => ∃ β' s', Sim W N β' w' a' s' ∧ Q e s') a w
def thenQt (W : Wd) (P : Program) (N : Nat) (y : Code) (Q : Exit → St → Prop) : Exit → St → Prop
  | .normal, s => AWPt W P N y Q s
  | e, s => Q e s
section
variable {W : Wd} {P : Program} {N : Nat} {Q : Exit → St → Prop} {s : St} {i : Nat}
theorem awpt_of {c : Code} (h : AWP P N c Q s) : AWPt W P N c Q s := ⟨fun β w a hs => h.out W β w a hs⟩
theorem awpt_reg {id : Nat} {ops : Array Oper} {dr : Bool} (h : AWP P N (.region id ops dr) Q s) : AWPt W P N (.region id ops dr) Q s := awpt_of h
theorem awpt_skip (h : Q .normal s) : AWPt W P N .skip Q s := awpt_of (awp_skip h)
theorem awpt_ret (h : Q .ret s) : AWPt W P N .ret Q s := awpt_of (awp_ret h)
theorem awpt_exit {id : Nat} (h : Q (.exit id) s) : AWPt W P N (.exit id) Q s := awpt_of (awp_exit h)
theorem awpt_seq {x y : Code} (h : AWPt W P N x (thenQt W P N y Q) s) : AWPt W P N (.seq x y) Q s := by
  refine ⟨fun β w a hs => ?_⟩
  refine wp_seq (wp_mono (h.out β w a hs) ?_)
  rintro e a' w' ⟨β', s', h1, h2⟩
  cases e with
  | normal => exact h2.out β' w' a' h1
  | _ => exact ⟨β', s', h1, h2⟩
theorem awpt_block {id : Nat} {c : Code} (h : AWPt W P N c (blockQ id Q) s) : AWPt W P N (.block id c) Q s := by
  refine ⟨fun β w a hs => ?_⟩
  refine wp_block (wp_mono (h.out β w a hs) ?_)
  rintro e a' w' ⟨β', s', h1, h2⟩
  cases e with
  | exit i =>
    show if i = id then _ else _
    have h2 : bif Nat.beq i id then Q .normal s' else Q (.exit i) s' := h2
    by_cases e : i = id
    · subst e; rw [Nat.beq_refl] at h2; rw [if_pos rfl]; exact ⟨β', s', h1, h2⟩
    · rw [if_neg e]
      have hb : Nat.beq i id = false := by cases hb : Nat.beq i id with | false => rfl | true => exact absurd (Nat.eq_of_beq_eq_true hb) e
      rw [hb] at h2
      exact ⟨β', s', h1, h2⟩
  | _ => exact ⟨β', s', h1, h2⟩
theorem awpt_cond {c : Operand} {x y : Code} {b : Bool} (hc : avo s c = some (.v (.bool b))) (ht : b = true → AWPt W P N x Q s) (hf : b = false → AWPt W P N y Q s) : AWPt W P N (.cond c x y) Q s := by
  refine ⟨fun β w a hs => ?_⟩
  have hv : a.eval c = .bool b := hs.opv hc
  exact wp_cond_split hv (fun e => (ht e).out β w a hs) (fun e => (hf e).out β w a hs)
theorem awpt_if {c : Operand} {x y : Code} {p : Prop} [Decidable p] (hc : avo s c = some (.v (.bool (decide p)))) (ht : p → AWPt W P N x Q s) (hf : ¬ p → AWPt W P N y Q s) : AWPt W P N (.cond c x y) Q s :=
  awpt_cond hc (fun h => ht (of_decide_eq_true h)) (fun h => hf (of_decide_eq_false h))
theorem awpt_yes {c : Operand} {x y : Code} {b : Bool} (hc : avo s c = some (.v (.bool b))) (hb : b = true) (h : AWPt W P N x Q s) : AWPt W P N (.cond c x y) Q s := awpt_cond hc (fun _ => h) (fun e => by rw [hb] at e; cases e)
theorem awpt_no {c : Operand} {x y : Code} {b : Bool} (hc : avo s c = some (.v (.bool b))) (hb : b = false) (h : AWPt W P N y Q s) : AWPt W P N (.cond c x y) Q s := awpt_cond hc (fun e => by rw [hb] at e; cases e) (fun _ => h)
/-- What is told of s' is true where s is, of one frame. -/
def ImpT (W : Wd) (s s' : St) : Prop := ∀ N β w a, Sim W N β w a s → ∃ β', Sim W N β' w a s'
theorem Imp.t {s s' : St} (h : Imp s s') : ImpT W s s' := fun N β w a hs => h W N β w a hs
theorem ImpT.trans {a b c : St} (h : ImpT W a b) (k : ImpT W b c) : ImpT W a c := fun N β w x hs => by
  obtain ⟨β', hs'⟩ := h N β w x hs
  exact k N β' w x hs'
theorem awpt_imp {c : Code} {s' : St} (hi : ImpT W s s') (h : AWPt W P N c Q s') : AWPt W P N c Q s := ⟨fun β w a hs => by
  obtain ⟨β', hs'⟩ := hi N β w a hs
  exact h.out β' w a hs'⟩
theorem q_thent {y : Code} (h : AWPt W P N y Q s) : thenQt W P N y Q .normal s := h
theorem q_thent_exit {y : Code} (h : Q (.exit i) s) : thenQt W P N y Q (.exit i) s := h
theorem q_thent_ret {y : Code} (h : Q .ret s) : thenQt W P N y Q .ret s := h
/-- The two arms of a test end alike. -/
def joinT (W : Wd) (s1 : St) (e : Exit) (s' : St) : Prop := e = .normal ∧ ImpT W s' s1
end
/-- The call of a law: it begins where nothing is own, and all may be taken for as it is. -/
structure TopW (W : Wd) : Prop where
  all : ∀ k, W.S k
  none : ∀ k, ¬ W.P k
  f : W.F = .none
theorem hast_of {f : FuncId} {fn : Func} {c : Code} {N : Nat} {rs : Array ResultVar} {xs : List AV} {z : Value} (hf : Try.prog.funcs[f]? = some fn) (hB : callB Try.prog f = true) (hb : fn.body = some c) (hn : fn.ntmps = N) (hr : fn.results = rs) (hxs : xs.all AV.closed = true) (hlen : Nat.ble xs.length N = true)
    (h : ∀ W, TopW W → AWPt W Try.prog N c (Fin rs (.v z)) (ent xs)) : Has Try.prog f xs (.v z) := by
  subst hn; subst hr
  refine ⟨hB, closed_ok rfl, fun w S0 β vs hR => ?_⟩
  have hle : vs.length ≤ fn.ntmps := by rw [← hR.1]; exact Nat.le_of_ble_eq_true hlen
  refine calls_of_wp hf hb ?_
  have hs : Sim (Wd.of w (fun _ => True)) fn.ntmps β w { tmps := vs.toArray ++ Array.replicate (fn.ntmps - vs.toArray.size) undef, defers := [] } (ent xs) := by
    refine ⟨Below.refl _ _, rfl, by simp; omega, fun t x hx => ?_, fun g n F r h => (by cases h), fun g n F h => (by cases h), fun g n F r g' n' F' r' k h => (by cases h), Fix.refl _ _, fun _ _ h => h, fun _ h => (by cases h), fun _ h => (by cases h)⟩
    have hx : lk xs t = some x := hx
    rw [lk_get] at hx
    have hlt : t < xs.length := (List.getElem?_eq_some_iff.1 hx).1
    have hv : vs[t]? = some (vs[t]'(by rw [← hR.1]; exact hlt)) := List.getElem?_eq_getElem _
    have hc := closed_ok (List.all_eq_true.1 hxs x (List.mem_of_getElem? hx))
    refine ⟨ok_none hc, ?_⟩
    have hg : (vs.toArray ++ Array.replicate (fn.ntmps - vs.toArray.size) undef).getD t undef = vs[t]'(by rw [← hR.1]; exact hlt) := by
      have hlt' : t < vs.length := by rw [← hR.1]; exact hlt
      rw [Array.getD_eq_getD_getElem?, Array.getElem?_append_left (by simpa using hlt')]
      simp [hv]
    rw [hg]
    have kf : Fwd S0 (notOwn (Wd.of w (fun _ => True)) (ent xs) β) w.heap.size w.heap.size (fun _ => false) β β (fun _ => False) w w :=
      ⟨Ext.refl _ _, fun _ _ h => h, fun b hb _ => ⟨fun _ => trivial, fun ⟨g, n, F, r, h, _⟩ => by cases h⟩, Nat.le_refl _, fun _ _ h => by cases h⟩
    exact (hR.2 t x _ hx hv).fwd kf hc
  refine wp_mono ((h (Wd.of w (fun _ => True)) ⟨fun _ => trivial, fun _ h => h, rfl⟩).out β w _ hs) ?_
  rintro e a' w' ⟨β', s', hs', he, s'', hi, hback⟩
  obtain ⟨β'', hs''⟩ := hi _ _ _ _ _ hs'
  obtain ⟨v, hrun, hv⟩ := back_run hback hs''
  have hv : v = z := hv
  rcases he with rfl | rfl
  · exact ⟨hs''.nodef, v, hrun, v, rfl, hs''.kept, hv⟩
  · exact ⟨hs''.nodef, v, hrun, v, rfl, hs''.kept, hv⟩
theorem run0t {G R : Prop} (k : R) (f : Held R → G := by intro hR; (repeat(first|(with_reducible first|refine awp_seq ?_|refine awp_block ?_|refine awp_skip ?_|refine awp_exit ?_|refine awp_ret ?_|refine q_then ?_|refine q_block ?_|refine q_then_exit ?_|refine q_then_ret ?_|refine q_block_exit ?_|refine q_block_ret ?_|refine q_loop_exit ?_|refine q_loop_ret ?_)|((with_reducible refine q_block_other ?_ ?_);exact rfl)|(with_reducible first|refine awpt_seq ?_|refine awpt_block ?_|refine awpt_skip ?_|refine awpt_exit ?_|refine awpt_ret ?_|refine awpt_reg ?_|refine q_thent ?_|refine q_thent_exit ?_|refine q_thent_ret ?_)|((with_reducible refine reg ?_ ?_);exact rfl)|(with_reducible first|apply st_ap|apply st_ap0|apply st_apa)|((with_reducible apply st_bp);exact rfl;(first|exact True.intro|((repeat' apply And.intro)<;>first|exact True.intro|with_reducible rfl|(simp only[Fits];omega)|omega|assumption|decide|(simp;done)|exact rfl)))|((with_reducible apply st_bpg);exact rfl;exact rfl;(first|exact rfl|assumption);exact rfl;(first|exact True.intro|((repeat' apply And.intro)<;>first|exact True.intro|with_reducible rfl|(simp only[Fits];omega)|omega|assumption|decide|(simp;done)|exact rfl)))|((with_reducible apply st_ev2);exact rfl;(first|exact True.intro|((repeat' apply And.intro)<;>first|exact True.intro|with_reducible rfl|(simp only[Fits];omega)|omega|assumption|decide|(simp;done)|exact rfl)))|((with_reducible apply st_evg2);exact rfl;exact rfl;(first|exact rfl|assumption);exact rfl;(first|exact True.intro|((repeat' apply And.intro)<;>first|exact True.intro|with_reducible rfl|(simp only[Fits];omega)|omega|assumption|decide|(simp;done)|exact rfl)))|((with_reducible refine st_end ?_ ?_);first|exact .inl rfl|exact .inr rfl)|(with_reducible apply st_build0)|((with_reducible apply st_ev);exact rfl;(first|exact True.intro|((repeat' apply And.intro)<;>first|exact True.intro|with_reducible rfl|(simp only[Fits];omega)|omega|assumption|decide|(simp;done)|exact rfl)))|((with_reducible apply st_evg);exact rfl;exact rfl;(first|exact rfl|assumption);exact rfl;(first|exact True.intro|((repeat' apply And.intro)<;>first|exact True.intro|with_reducible rfl|(simp only[Fits];omega)|omega|assumption|decide|(simp;done)|exact rfl)))|((with_reducible apply st_skip);exact rfl;exact rfl;(first|exact rfl|assumption))|((with_reducible apply st_app0);exact rfl;exact rfl;exact rfl;omega)|((with_reducible apply st_skipu);exact rfl;exact rfl)|((with_reducible apply st_pickt);exact rfl;assumption;exact rfl)|((with_reducible apply st_pickf);exact rfl;assumption;exact rfl)|((with_reducible apply st_pickgt);exact rfl;exact rfl;(first|exact rfl|assumption);exact rfl;(first|exact rfl|assumption);exact rfl)|((with_reducible apply st_pickgf);exact rfl;exact rfl;(first|exact rfl|assumption);exact rfl;(first|exact rfl|assumption);exact rfl)|((with_reducible apply st_build);exact rfl;first|exact rfl|(first|exact True.intro|((repeat' apply And.intro)<;>first|exact True.intro|with_reducible rfl|(simp only[Fits];omega)|omega|assumption|decide|(simp;done)|exact rfl))))); exact hR.out) : G := f ⟨k⟩
theorem run1t {G R : Prop} (k : R) (f : Held R → G := by intro hR; (first|(with_reducible first|refine awp_seq ?_|refine awp_block ?_|refine awp_skip ?_|refine awp_exit ?_|refine awp_ret ?_|refine q_then ?_|refine q_block ?_|refine q_then_exit ?_|refine q_then_ret ?_|refine q_block_exit ?_|refine q_block_ret ?_|refine q_loop_exit ?_|refine q_loop_ret ?_)|((with_reducible refine q_block_other ?_ ?_);exact rfl)|(with_reducible first|refine awpt_seq ?_|refine awpt_block ?_|refine awpt_skip ?_|refine awpt_exit ?_|refine awpt_ret ?_|refine awpt_reg ?_|refine q_thent ?_|refine q_thent_exit ?_|refine q_thent_ret ?_)|((with_reducible refine reg ?_ ?_);exact rfl)|(with_reducible first|apply st_ap|apply st_ap0|apply st_apa)|((with_reducible apply st_bp);exact rfl;(first|exact True.intro|((repeat' apply And.intro)<;>first|exact True.intro|with_reducible rfl|(simp only[Fits];omega)|omega|assumption|decide|(simp;done)|exact rfl)))|((with_reducible apply st_bpg);exact rfl;exact rfl;(first|exact rfl|assumption);exact rfl;(first|exact True.intro|((repeat' apply And.intro)<;>first|exact True.intro|with_reducible rfl|(simp only[Fits];omega)|omega|assumption|decide|(simp;done)|exact rfl)))|((with_reducible apply st_ev2);exact rfl;(first|exact True.intro|((repeat' apply And.intro)<;>first|exact True.intro|with_reducible rfl|(simp only[Fits];omega)|omega|assumption|decide|(simp;done)|exact rfl)))|((with_reducible apply st_evg2);exact rfl;exact rfl;(first|exact rfl|assumption);exact rfl;(first|exact True.intro|((repeat' apply And.intro)<;>first|exact True.intro|with_reducible rfl|(simp only[Fits];omega)|omega|assumption|decide|(simp;done)|exact rfl)))|((with_reducible refine st_end ?_ ?_);first|exact .inl rfl|exact .inr rfl)|(with_reducible apply st_build0)|((with_reducible apply st_ev);exact rfl;(first|exact True.intro|((repeat' apply And.intro)<;>first|exact True.intro|with_reducible rfl|(simp only[Fits];omega)|omega|assumption|decide|(simp;done)|exact rfl)))|((with_reducible apply st_evg);exact rfl;exact rfl;(first|exact rfl|assumption);exact rfl;(first|exact True.intro|((repeat' apply And.intro)<;>first|exact True.intro|with_reducible rfl|(simp only[Fits];omega)|omega|assumption|decide|(simp;done)|exact rfl)))|((with_reducible apply st_skip);exact rfl;exact rfl;(first|exact rfl|assumption))|((with_reducible apply st_app0);exact rfl;exact rfl;exact rfl;omega)|((with_reducible apply st_skipu);exact rfl;exact rfl)|((with_reducible apply st_pickt);exact rfl;assumption;exact rfl)|((with_reducible apply st_pickf);exact rfl;assumption;exact rfl)|((with_reducible apply st_pickgt);exact rfl;exact rfl;(first|exact rfl|assumption);exact rfl;(first|exact rfl|assumption);exact rfl)|((with_reducible apply st_pickgf);exact rfl;exact rfl;(first|exact rfl|assumption);exact rfl;(first|exact rfl|assumption);exact rfl)|((with_reducible apply st_build);exact rfl;first|exact rfl|(first|exact True.intro|((repeat' apply And.intro)<;>first|exact True.intro|with_reducible rfl|(simp only[Fits];omega)|omega|assumption|decide|(simp;done)|exact rfl))));(repeat(first|(with_reducible first|refine awp_seq ?_|refine awp_block ?_|refine awp_skip ?_|refine awp_exit ?_|refine awp_ret ?_|refine q_then ?_|refine q_block ?_|refine q_then_exit ?_|refine q_then_ret ?_|refine q_block_exit ?_|refine q_block_ret ?_|refine q_loop_exit ?_|refine q_loop_ret ?_)|((with_reducible refine q_block_other ?_ ?_);exact rfl)|(with_reducible first|refine awpt_seq ?_|refine awpt_block ?_|refine awpt_skip ?_|refine awpt_exit ?_|refine awpt_ret ?_|refine awpt_reg ?_|refine q_thent ?_|refine q_thent_exit ?_|refine q_thent_ret ?_)|((with_reducible refine reg ?_ ?_);exact rfl)|(with_reducible first|apply st_ap|apply st_ap0|apply st_apa)|((with_reducible apply st_bp);exact rfl;(first|exact True.intro|((repeat' apply And.intro)<;>first|exact True.intro|with_reducible rfl|(simp only[Fits];omega)|omega|assumption|decide|(simp;done)|exact rfl)))|((with_reducible apply st_bpg);exact rfl;exact rfl;(first|exact rfl|assumption);exact rfl;(first|exact True.intro|((repeat' apply And.intro)<;>first|exact True.intro|with_reducible rfl|(simp only[Fits];omega)|omega|assumption|decide|(simp;done)|exact rfl)))|((with_reducible apply st_ev2);exact rfl;(first|exact True.intro|((repeat' apply And.intro)<;>first|exact True.intro|with_reducible rfl|(simp only[Fits];omega)|omega|assumption|decide|(simp;done)|exact rfl)))|((with_reducible apply st_evg2);exact rfl;exact rfl;(first|exact rfl|assumption);exact rfl;(first|exact True.intro|((repeat' apply And.intro)<;>first|exact True.intro|with_reducible rfl|(simp only[Fits];omega)|omega|assumption|decide|(simp;done)|exact rfl)))|((with_reducible refine st_end ?_ ?_);first|exact .inl rfl|exact .inr rfl)|(with_reducible apply st_build0)|((with_reducible apply st_ev);exact rfl;(first|exact True.intro|((repeat' apply And.intro)<;>first|exact True.intro|with_reducible rfl|(simp only[Fits];omega)|omega|assumption|decide|(simp;done)|exact rfl)))|((with_reducible apply st_evg);exact rfl;exact rfl;(first|exact rfl|assumption);exact rfl;(first|exact True.intro|((repeat' apply And.intro)<;>first|exact True.intro|with_reducible rfl|(simp only[Fits];omega)|omega|assumption|decide|(simp;done)|exact rfl)))|((with_reducible apply st_skip);exact rfl;exact rfl;(first|exact rfl|assumption))|((with_reducible apply st_app0);exact rfl;exact rfl;exact rfl;omega)|((with_reducible apply st_skipu);exact rfl;exact rfl)|((with_reducible apply st_pickt);exact rfl;assumption;exact rfl)|((with_reducible apply st_pickf);exact rfl;assumption;exact rfl)|((with_reducible apply st_pickgt);exact rfl;exact rfl;(first|exact rfl|assumption);exact rfl;(first|exact rfl|assumption);exact rfl)|((with_reducible apply st_pickgf);exact rfl;exact rfl;(first|exact rfl|assumption);exact rfl;(first|exact rfl|assumption);exact rfl)|((with_reducible apply st_build);exact rfl;first|exact rfl|(first|exact True.intro|((repeat' apply And.intro)<;>first|exact True.intro|with_reducible rfl|(simp only[Fits];omega)|omega|assumption|decide|(simp;done)|exact rfl))))); exact hR.out) : G := f ⟨k⟩
theorem run3t {G R : Prop} (k : R) (f : Held R → G := by intro hR; (repeat(first|(with_reducible first|refine awp_seq ?_|refine awp_block ?_|refine awp_skip ?_|refine awp_exit ?_|refine awp_ret ?_|refine q_then ?_|refine q_block ?_|refine q_then_exit ?_|refine q_then_ret ?_|refine q_block_exit ?_|refine q_block_ret ?_|refine q_loop_exit ?_|refine q_loop_ret ?_)|((with_reducible refine q_block_other ?_ ?_);exact rfl)|(with_reducible first|refine awpt_seq ?_|refine awpt_block ?_|refine awpt_skip ?_|refine awpt_exit ?_|refine awpt_ret ?_|refine awpt_reg ?_|refine q_thent ?_|refine q_thent_exit ?_|refine q_thent_ret ?_)));(with_reducible refine reg ?_ ?_);(exact rfl); exact hR.out) : G := f ⟨k⟩
end Go.Proofs.Ytpclkgjhfhhddaa.AM

/- Joined texts, 5: AmE AmF. -/
import Derived.Test.YtpclkgjhfhhddaaJLawGenChecks4
set_option linter.unusedVariables false
set_option linter.unusedSimpArgs false
/- What operations do that reckon with values. -/
namespace Go.Proofs.Ytpclkgjhfhhddaa.AM
open Go Go.RowKit Go.Proofs.Ytpclkgjhfhhddaa.PN Go.Proofs.Ytpclkgjhfhhddaa.V
set_option linter.unusedVariables false
set_option linter.unusedSimpArgs false
def memN (t : Nat) : List Nat → Bool
  | [] => false
  | x :: l => bif Nat.beq t x then true else memN t l
theorem memN_spec {t : Nat} : ∀ {l : List Nat}, memN t l = true → t ∈ l
  | [], h => by cases h
  | x :: l, h => by
    unfold memN at h
    cases e : Nat.beq t x with
    | true => rw [Nat.eq_of_beq_eq_true e]; exact List.mem_cons_self ..
    | false => rw [e] at h; exact List.mem_cons_of_mem _ (memN_spec h)
def Fits : IntKind → Int → Prop
  | .i64, n => -9223372036854775808 ≤ n ∧ n ≤ 9223372036854775807
  | .i32, n => -2147483648 ≤ n ∧ n ≤ 2147483647
  | .i16, n => -32768 ≤ n ∧ n ≤ 32767
  | .i8, n => -128 ≤ n ∧ n ≤ 127
  | .u64, n => 0 ≤ n ∧ n ≤ 18446744073709551615
  | .u32, n => 0 ≤ n ∧ n ≤ 4294967295
  | .u16, n => 0 ≤ n ∧ n ≤ 65535
  | .u8, n => 0 ≤ n ∧ n ≤ 255
theorem fits_wrap {k : IntKind} {n : Int} (h : Fits k n) : k.wrap n = n := by
  cases k <;> simp only [Fits] at h <;> simp [IntKind.wrap, IntKind.bits, IntKind.signed] <;> omega
/-- Types of one cell. -/
def flatT : List TypeId := [4, 3, 85, 53, 5, 111, 2, 21, 9, 41, 24, 60, 22, 28, 30, 36, 58, 57, 46, 76, 94, 23, 70, 79]
def isFlat : Option TypeDesc → Bool
  | some (.struct _) | some (.array _ _) | none => false
  | _ => true
theorem flat_all : flatT.all (fun T => isFlat (Try.prog.underlying T)) = true := by kernel_rfl
theorem flat_ok {T : TypeId} (h : memN T flatT = true) : isFlat (Try.prog.underlying T) = true := List.all_eq_true.1 flat_all T (memN_spec h)
def kindOf (T : TypeId) : Option IntKind :=
  bif memN T [3, 2] then some .i64 else bif memN T [85, 111] then some .u64 else bif memN T [53] then some .u32 else bif memN T [5] then some .u8 else bif memN T [30] then some .i64 else bif memN T [21] then some .i32 else none
def isKind (k : IntKind) : Option TypeDesc → Bool
  | some (.int k') => k' == k
  | some (.named _ _) => false
  | _ => false
theorem Sim.opv {W : Wd} {N : Nat} {β : Nat → Nat → Value} {w : World} {a : Act} {s : St} (h : Sim W N β w a s) {x : Operand} {y : Value} (hx : avo s x = some (.v y)) : a.eval x = y := (h.opd hx).2
theorem beq_dec (a b : Int) : (a == b) = decide (a = b) := by by_cases h : a = b <;> simp [h]
section
variable {o : Oper} {s : St}
theorem ok_move {x : Operand} {y : AV} (ho : o.op = .move x ∨ o.op = .assign x) (hx : avo s x = some y) : LOK Try.prog o s ⟨some y, [], []⟩ := by
  refine lok_val fun s2 hl W N β w a hs => ⟨a.eval x, ?_, fun z hz => ?_⟩
  · unfold execOp; rcases ho with ho | ho <;> rw [ho] <;> rfl
  · cases hz
    refine hs.opd ?_
    rw [hl.avo (by rcases ho with ho | ho <;> rw [ho] <;> simp [Op.operands])]
    exact hx
theorem ok_pick {c x y : Operand} {b : Bool} {z : AV} (ho : o.op = .pick c x y) (hc : avo s c = some (.v (.bool b))) (hz : avo s (bif b then x else y) = some z) : LOK Try.prog o s ⟨some z, [], []⟩ := by
  refine lok_val fun s2 hl W N β w a hs => ⟨a.eval (bif b then x else y), ?_, fun q hq => ?_⟩
  · have h : a.eval c = .bool b := hs.opv (by rw [hl.avo (by rw [ho]; simp [Op.operands])]; exact hc)
    unfold execOp; rw [ho]; simp only []; rw [h]
    cases b <;> rfl
  · cases hq
    refine hs.opd ?_
    rw [hl.avo (by rw [ho]; cases b <;> simp [Op.operands])]
    exact hz
theorem ok_not {x : Operand} {T : TypeId} {b : Bool} (ho : o.op = .unOp .not T x) (hx : avo s x = some (.v (.bool b))) : LOK Try.prog o s ⟨some (.v (.bool (!b))), [], []⟩ := by
  refine lok_val fun s2 hl W N β w a hs => ⟨.bool (!b), ?_, fun z hz => by cases hz; exact ⟨trivial, rfl⟩⟩
  have h : a.eval x = .bool b := hs.opv (by rw [hl.avo (by rw [ho]; simp [Op.operands])]; exact hx)
  unfold execOp; rw [ho]; simp only []; rw [h]; rfl
theorem ok_neg {x : Operand} {T : TypeId} {k : IntKind} {n : Int} (ho : o.op = .unOp .neg T x) (hx : avo s x = some (.v (.int k n))) (hf : Fits k (0 - n)) : LOK Try.prog o s ⟨some (.v (.int k (0 - n))), [], []⟩ := by
  refine lok_val fun s2 hl W N β w a hs => ⟨.int k (0 - n), ?_, fun z hz => by cases hz; exact ⟨trivial, rfl⟩⟩
  have h : a.eval x = .int k n := hs.opv (by rw [hl.avo (by rw [ho]; simp [Op.operands])]; exact hx)
  unfold execOp; rw [ho]; simp only []; rw [h]
  show (Op.intArith .sub k 0 n >>= fun y => pure (Next.value y)).run _ w = _
  rw [Op.intArith, Sem.run_bind, fits_wrap hf]; rfl
def arith : BinOp → Int → Int → Option Int
  | .add, a, b => some (a + b)
  | .sub, a, b => some (a - b)
  | .mul, a, b => some (a * b)
  | _, _, _ => none
theorem ok_arith {op : BinOp} {T T' : TypeId} {x y : Operand} {k k' : IntKind} {a b r : Int} (ho : o.op = .binOp op T x y T') (hx : avo s x = some (.v (.int k a))) (hy : avo s y = some (.v (.int k' b))) (hk : k = k') (hr : arith op a b = some r) (hf : Fits k r) : LOK Try.prog o s ⟨some (.v (.int k r)), [], []⟩ := by
  subst hk
  refine lok_val fun s2 hl W N β w ac hs => ⟨.int k r, ?_, fun z hz => by cases hz; exact ⟨trivial, rfl⟩⟩
  have h1 : ac.eval x = .int k a := hs.opv (by rw [hl.avo (by rw [ho]; simp [Op.operands])]; exact hx)
  have h2 : ac.eval y = .int k b := hs.opv (by rw [hl.avo (by rw [ho]; simp [Op.operands])]; exact hy)
  unfold execOp; rw [ho]; simp only []; rw [h1, h2]
  cases op <;> cases hr <;> simp [eqGuard, binOp, Op.intArith, fits_wrap hf]
theorem ok_quo {T T' : TypeId} {x y : Operand} {k k' : IntKind} {a b : Int} (ho : o.op = .binOp .quo T x y T') (hx : avo s x = some (.v (.int k a))) (hy : avo s y = some (.v (.int k' b))) (hk : k = k') (hb : b ≠ 0) (hf : Fits k (a.tdiv b)) : LOK Try.prog o s ⟨some (.v (.int k (a.tdiv b))), [], []⟩ := by
  subst hk
  refine lok_val fun s2 hl W N β w ac hs => ⟨.int k (a.tdiv b), ?_, fun z hz => by cases hz; exact ⟨trivial, rfl⟩⟩
  have h1 : ac.eval x = .int k a := hs.opv (by rw [hl.avo (by rw [ho]; simp [Op.operands])]; exact hx)
  have h2 : ac.eval y = .int k b := hs.opv (by rw [hl.avo (by rw [ho]; simp [Op.operands])]; exact hy)
  unfold execOp; rw [ho]; simp only []; rw [h1, h2]
  simp [eqGuard, binOp, Op.intDiv, fits_wrap hf, hb]
theorem ok_rem {T T' : TypeId} {x y : Operand} {k k' : IntKind} {a b : Int} (ho : o.op = .binOp .rem T x y T') (hx : avo s x = some (.v (.int k a))) (hy : avo s y = some (.v (.int k' b))) (hk : k = k') (hb : b ≠ 0) : LOK Try.prog o s ⟨some (.v (.int k (a.tmod b))), [], []⟩ := by
  subst hk
  refine lok_val fun s2 hl W N β w ac hs => ⟨.int k (a.tmod b), ?_, fun z hz => by cases hz; exact ⟨trivial, rfl⟩⟩
  have h1 : ac.eval x = .int k a := hs.opv (by rw [hl.avo (by rw [ho]; simp [Op.operands])]; exact hx)
  have h2 : ac.eval y = .int k b := hs.opv (by rw [hl.avo (by rw [ho]; simp [Op.operands])]; exact hy)
  unfold execOp; rw [ho]; simp only []; rw [h1, h2]
  simp [eqGuard, binOp, Op.intDiv, hb]
def cmpB : BinOp → Int → Int → Option Bool
  | .eql, a, b => some (decide (a = b))
  | .neq, a, b => some (decide (a ≠ b))
  | .lss, a, b => some (decide (a < b))
  | .leq, a, b => some (decide (a ≤ b))
  | .gtr, a, b => some (decide (b < a))
  | .geq, a, b => some (decide (b ≤ a))
  | _, _, _ => none
theorem ok_cmp {op : BinOp} {T T' : TypeId} {x y : Operand} {k k' : IntKind} {a b : Int} {r : Bool} (ho : o.op = .binOp op T x y T') (hx : avo s x = some (.v (.int k a))) (hy : avo s y = some (.v (.int k' b))) (hk : k = k') (hr : cmpB op a b = some r) : LOK Try.prog o s ⟨some (.v (.bool r)), [], []⟩ := by
  subst hk
  refine lok_val fun s2 hl W N β w ac hs => ⟨.bool r, ?_, fun z hz => by cases hz; exact ⟨trivial, rfl⟩⟩
  have h1 : ac.eval x = .int k a := hs.opv (by rw [hl.avo (by rw [ho]; simp [Op.operands])]; exact hx)
  have h2 : ac.eval y = .int k b := hs.opv (by rw [hl.avo (by rw [ho]; simp [Op.operands])]; exact hy)
  unfold execOp; rw [ho]; simp only []; rw [h1, h2]
  cases op <;> cases hr <;> simp [eqGuard, binOp, Op.intCmp, bne, beq_dec]
def cmpBB : BinOp → Bool → Bool → Option Bool
  | .eql, a, b => some (a == b)
  | .neq, a, b => some (!(a == b))
  | _, _, _ => none
theorem ok_cmpb {op : BinOp} {T T' : TypeId} {x y : Operand} {a b r : Bool} (ho : o.op = .binOp op T x y T') (hT : memN T [4] = true) (hx : avo s x = some (.v (.bool a))) (hy : avo s y = some (.v (.bool b))) (hr : cmpBB op a b = some r) : LOK Try.prog o s ⟨some (.v (.bool r)), [], []⟩ := by
  refine lok_val fun s2 hl W N β w ac hs => ⟨.bool r, ?_, fun z hz => by cases hz; exact ⟨trivial, rfl⟩⟩
  have h1 : ac.eval x = .bool a := hs.opv (by rw [hl.avo (by rw [ho]; simp [Op.operands])]; exact hx)
  have h2 : ac.eval y = .bool b := hs.opv (by rw [hl.avo (by rw [ho]; simp [Op.operands])]; exact hy)
  have hT : T = 4 := by simpa using memN_spec hT
  subst hT
  unfold execOp; rw [ho]; simp only []; rw [h1, h2]
  cases op <;> cases hr <;> simp [eqGuard, binOp, run_equal_bool w _ a b Try.underlying4]
theorem ok_convert {T T' : TypeId} {x : Operand} {k k' : IntKind} {n : Int} (ho : o.op = .convert T T' x) (hx : avo s x = some (.v (.int k n))) (hu : (Try.prog.underlying T).isSome = true) (hk : Try.prog.underlying T' = some (.int k')) (hf : Fits k' n) : LOK Try.prog o s ⟨some (.v (.int k' n)), [], []⟩ := by
  refine lok_val fun s2 hl W N β w ac hs => ⟨.int k' n, ?_, fun z hz => by cases hz; exact ⟨trivial, rfl⟩⟩
  have h1 : ac.eval x = .int k n := hs.opv (by rw [hl.avo (by rw [ho]; simp [Op.operands])]; exact hx)
  obtain ⟨d, hd⟩ := Option.isSome_iff_exists.1 hu
  unfold execOp; rw [ho]; simp only []; rw [h1]
  simp [convert, run_underlying hd, run_underlying hk, Conv.intToInt, fits_wrap hf]
def sel2 (i : Nat) (y z : AV) : AV := match i with | 0 => y | _ => z
def sel3 (i : Nat) (y z u : AV) : AV := match i with | 0 => y | 1 => z | _ => u
theorem ok_extract2 {x : Operand} {y z : AV} {i : Nat} (ho : o.op = .extract x i) (hx : avo s x = some (.tup y z)) (hi : i < 2) : LOK Try.prog o s ⟨some (sel2 i y z), [], []⟩ := by
  refine lok_val fun s2 hl W N β w ac hs => ?_
  obtain ⟨hu, p, q, h1, h2, h3⟩ := hs.opd (x := x) (by rw [hl.avo (by rw [ho]; simp [Op.operands])]; exact hx)
  match i, hi with
  | 0, _ => exact ⟨p, by unfold execOp; rw [ho]; simp only []; rw [h1]; simp [Instr.extract], fun z hz => by cases hz; exact ⟨hu.1, h2⟩⟩
  | 1, _ => exact ⟨q, by unfold execOp; rw [ho]; simp only []; rw [h1]; simp [Instr.extract], fun z hz => by cases hz; exact ⟨hu.2, h3⟩⟩
theorem ok_extract3 {x : Operand} {y z u : AV} {i : Nat} (ho : o.op = .extract x i) (hx : avo s x = some (.tup3 y z u)) (hi : i < 3) : LOK Try.prog o s ⟨some (sel3 i y z u), [], []⟩ := by
  refine lok_val fun s2 hl W N β w ac hs => ?_
  obtain ⟨hu, p, q, r, h1, h2, h3, h4⟩ := hs.opd (x := x) (by rw [hl.avo (by rw [ho]; simp [Op.operands])]; exact hx)
  match i, hi with
  | 0, _ => exact ⟨p, by unfold execOp; rw [ho]; simp only []; rw [h1]; simp [Instr.extract], fun z hz => by cases hz; exact ⟨hu.1, h2⟩⟩
  | 1, _ => exact ⟨q, by unfold execOp; rw [ho]; simp only []; rw [h1]; simp [Instr.extract], fun z hz => by cases hz; exact ⟨hu.2.1, h3⟩⟩
  | 2, _ => exact ⟨r, by unfold execOp; rw [ho]; simp only []; rw [h1]; simp [Instr.extract], fun z hz => by cases hz; exact ⟨hu.2.2, h4⟩⟩
/-- How long it is. -/
def lenOf : AV → Option Nat
  | .nat n => some (size n)
  | .lb l => some l.length
  | .row _ n _ => some n
  | .mat _ n _ _ => some n
  | .seq _ l => some l.length
  | .sl _ _ _ n => some n
  | .v (.slice _ n _) => some n
  | .rn (.q p) => some (size (nm p))
  | .rd (.q p) => some (size p.den)
  | .rn (.raw _ n _) => some n.length
  | .rd (.raw _ _ d) => some d.length
  | .plb l => some l.length
  | .prow n _ _ _ => some n
  | .arr n _ _ => some n
  | _ => none
theorem lenOf_ok {S : Nat → Prop} {B : Nat} {β : Nat → Nat → Value} {w : World} {x : AV} {v : Value} {n : Nat} (h : RV S B β w x v) (hn : lenOf x = some n) : ∃ A c, v = .slice A n c := by
  cases x <;> try (cases hn; done)
  case v y =>
    have h : v = y := h
    subst h
    cases v <;> first | (cases hn; done) | (cases hn; exact ⟨_, _, rfl⟩)
  case nat m => cases hn; obtain ⟨A, c, h, _⟩ := dg_slice (h : NatS _ _ _ _); exact ⟨A, c, h⟩
  case lb l => cases hn; obtain ⟨A, c, h, _⟩ := h; exact ⟨A, c, h⟩
  case row => cases hn; obtain ⟨A, c, h, _⟩ := h; exact ⟨A, c, h⟩
  case mat => cases hn; obtain ⟨A, c, h, _⟩ := h; exact ⟨A, c, h⟩
  case seq => cases hn; obtain ⟨A, c, h, _⟩ := h; exact ⟨A, c, h⟩
  case sl => cases hn; obtain ⟨A, c, h, _⟩ := h; exact ⟨A, c, h⟩
  case plb l => cases hn; obtain ⟨A, c, h, _⟩ := h; exact ⟨A, c, h⟩
  case prow => cases hn; obtain ⟨A, c, h, _⟩ := h; exact ⟨A, c, h⟩
  case arr => cases hn; obtain ⟨A, c, h, _⟩ := h; exact ⟨A, c, h⟩
  case rn r =>
    cases r <;> cases hn
    · obtain ⟨A, c, h, _⟩ := dg_slice (h : NatS _ _ _ _); exact ⟨A, c, h⟩
    · obtain ⟨A, c, h, _⟩ := (h : Lbs _ _ _); exact ⟨A, c, h⟩
  case rd r =>
    cases r <;> cases hn
    · obtain ⟨A, c, h, _⟩ := dg_slice (h : NatS _ _ _ _); exact ⟨A, c, h⟩
    · obtain ⟨A, c, h, _⟩ := (h : Lbs _ _ _); exact ⟨A, c, h⟩
/-- Types of slices, with what they are of. -/
def sliceT : List TypeId := [41, 24, 60, 22, 28, 36, 58, 57, 46]
def isSlice : Option TypeDesc → Bool
  | some (.slice _) => true
  | _ => false
theorem slice_all : sliceT.all (fun T => isSlice (Try.prog.underlying T)) = true := by kernel_rfl
theorem slice_ok {T : TypeId} (h : memN T sliceT = true) : ∃ E, Try.prog.underlying T = some (.slice E) := by
  have h := List.all_eq_true.1 slice_all T (memN_spec h)
  cases e : Try.prog.underlying T with
  | none => rw [e] at h; cases h
  | some d => rw [e] at h; cases d <;> first | cases h; done | exact ⟨_, rfl⟩
theorem run_len {T ty : TypeId} (hT : memN T sliceT = true) (A : Option Addr) (n c : Nat) (w : World) : (Builtin.len_ #[T] ty #[.slice A n c]).run Try.prog w = .ok (.int .i64 (n : Int)) w := by
  obtain ⟨E, hE⟩ := slice_ok hT
  simp [Builtin.len_, run_underlying hE, goInt]
theorem ok_len {x : Operand} {T : TypeId} {y : AV} {n : Nat} (ho : o.op = .call { callee := .builtin .len, args := #[x], argTypes := #[T] }) (hT : memN T sliceT = true) (hx : avo s x = some y) (hn : lenOf y = some n) : LOK Try.prog o s ⟨some (.v (.int .i64 (n : Int))), [], []⟩ := by
  refine lok_val fun s2 hl W N β w ac hs => ⟨.int .i64 (n : Int), ?_, fun z hz => by cases hz; exact ⟨trivial, rfl⟩⟩
  obtain ⟨A, c, h1⟩ := lenOf_ok (hs.opd (x := x) (by rw [hl.avo (by rw [ho]; simp [Op.operands, Call.operands])]; exact hx)).2 hn
  unfold execOp; rw [ho]; simp only [resolve, List.map_toArray, List.map_cons, List.map_nil]; rw [h1]
  simp [invoke, builtin, run_len hT]
def Blk.len : Blk → Nat
  | .rats n _ => n
  | .ones _ n _ => n
  | .lims n _ => n
theorem RB.len {S : Nat → Prop} {B : Nat} {β : Nat → Nat → Value} {w : World} {u : Value} {b : Blk} (h : RB S B β w u b) {A : Option Addr} {n c : Nat} (e : u = .slice A n c) : n = b.len := by
  have key : ∀ {k m sz size : Nat}, IsAt u k m sz size → n = m := by
    intro k m sz size ha
    rcases ha with ⟨e', _⟩ | ⟨_, e', _⟩
    · rw [e] at e'; cases e'
    · rw [e] at e'; cases e'; rfl
  cases b with
  | rats m f =>
    rcases h with ⟨e', hm⟩ | ⟨k, cs, _, _, ha, _⟩
    · rw [e] at e'; cases e'; exact hm.symm
    · exact key ha
  | ones T m f =>
    rcases h.2 with ⟨e', hm⟩ | ⟨k, cs, _, _, ha, _⟩
    · rw [e] at e'; cases e'; exact hm.symm
    · exact key ha
  | lims m f =>
    rcases h with ⟨e', hm⟩ | ⟨k, cs, _, _, ha, _⟩
    · rw [e] at e'; cases e'; exact hm.symm
    · exact key ha
theorem ok_len_own {x : Operand} {T : TypeId} {g r n : Nat} {F : Nat → Blk} (ho : o.op = .call { callee := .builtin .len, args := #[x], argTypes := #[T] }) (hT : memN T sliceT = true) (hx : avo s x = some (.own g r)) (hg : s.heap g = some (n, F)) (hr : r < n) : LOK Try.prog o s ⟨some (.v (.int .i64 ((F r).len : Int))), [], [g]⟩ := by
  refine lok_val fun s2 hl W N β w ac hs => ⟨.int .i64 ((F r).len : Int), ?_, fun z hz => by cases hz; exact ⟨trivial, rfl⟩⟩
  obtain ⟨e, A, m, c, h1⟩ := (hs.opd (x := x) (by rw [hl.avo (by rw [ho]; simp [Op.operands, Call.operands])]; exact hx)).2
  have hb := (hs.heap g n F r ((hl.heap g (List.mem_singleton.2 rfl)).trans hg) hr).2
  have := hb.len (e.symm.trans h1)
  subst this
  unfold execOp; rw [ho]; simp only [resolve, List.map_toArray, List.map_cons, List.map_nil]; rw [h1]
  simp [invoke, builtin, run_len hT]
def isPtr : AV → Bool
  | .ptr _ _ _ | .rptr _ _ _ | .rp _ | .cp _ | .fld _ _ _ _ => true
  | _ => false
theorem ok_nilcheck {x : Operand} {y : AV} (ho : o.op = .nilCheck x) (hx : avo s x = some y) (hy : isPtr y = true) : LOK Try.prog o s ⟨some y, [], []⟩ := by
  refine lok_val fun s2 hl W N β w ac hs => ?_
  have h := hs.opd (x := x) (by rw [hl.avo (by rw [ho]; simp [Op.operands])]; exact hx)
  have hp : ∃ p, ac.eval x = .pointer (some p) := by
    cases y <;> first | (cases hy; done) | skip
    · obtain ⟨_, b, o', h, _⟩ := h; exact ⟨_, h⟩
    · obtain ⟨_, p, y, h, _⟩ := h; exact ⟨_, h⟩
    · obtain ⟨_, b, _, h⟩ := h; exact ⟨_, h⟩
    · obtain ⟨_, b, _, h⟩ := h; exact ⟨_, h⟩
    · obtain ⟨_, b, _, h⟩ := h; exact ⟨_, h⟩
  obtain ⟨p, hp⟩ := hp
  refine ⟨ac.eval x, ?_, fun z hz => by cases hz; exact h⟩
  unfold execOp; rw [ho]; simp only []; rw [hp]; rfl
theorem ok_min {x y : Operand} {Ts : Array TypeId} {k k' : IntKind} {a b : Int} (ho : o.op = .call { callee := .builtin .min, args := #[x, y], argTypes := Ts }) (hx : avo s x = some (.v (.int k a))) (hy : avo s y = some (.v (.int k' b))) : LOK Try.prog o s ⟨some (.v (.int k (min a b))), [], []⟩ := by
  refine lok_val fun s2 hl W N β w ac hs => ⟨.int k (min a b), ?_, fun z hz => by cases hz; exact ⟨trivial, rfl⟩⟩
  have h1 : ac.eval x = .int k a := hs.opv (by rw [hl.avo (by rw [ho]; simp [Op.operands, Call.operands])]; exact hx)
  have h2 : ac.eval y = .int k' b := hs.opv (by rw [hl.avo (by rw [ho]; simp [Op.operands, Call.operands])]; exact hy)
  unfold execOp; rw [ho]; simp only [resolve, List.map_toArray, List.map_cons, List.map_nil]; rw [h1, h2]
  simp [invoke, builtin, Builtin.min_, Builtin.min2]
  split <;> omega
theorem ok_max {x y : Operand} {Ts : Array TypeId} {k k' : IntKind} {a b : Int} (ho : o.op = .call { callee := .builtin .max, args := #[x, y], argTypes := Ts }) (hx : avo s x = some (.v (.int k a))) (hy : avo s y = some (.v (.int k' b))) : LOK Try.prog o s ⟨some (.v (.int k (max a b))), [], []⟩ := by
  refine lok_val fun s2 hl W N β w ac hs => ⟨.int k (max a b), ?_, fun z hz => by cases hz; exact ⟨trivial, rfl⟩⟩
  have h1 : ac.eval x = .int k a := hs.opv (by rw [hl.avo (by rw [ho]; simp [Op.operands, Call.operands])]; exact hx)
  have h2 : ac.eval y = .int k' b := hs.opv (by rw [hl.avo (by rw [ho]; simp [Op.operands, Call.operands])]; exact hy)
  unfold execOp; rw [ho]; simp only [resolve, List.map_toArray, List.map_cons, List.map_nil]; rw [h1, h2]
  simp [invoke, builtin, Builtin.max_, Builtin.max2]
  split <;> omega
theorem ok_makefunc {f : FuncId} {cap : Array Operand} (ho : o.op = .makeFunc (.func f) #[] cap) (c : Nat → AV) (hc : ∀ i (h : i < cap.size), avo s cap[i] = some (c i)) : LOK Try.prog o s ⟨some (.clo f cap.size c), [], []⟩ := by
  refine lok_val fun s2 hl W N β w ac hs => ⟨.func (.func f) #[] (cap.map ac.eval), ?_, fun z hz => ?_⟩
  · unfold execOp; rw [ho]; simp [Instr.makeFunc]
  · cases hz
    have key : ∀ i (h : i < cap.size), (c i).ok s2.used ∧ RV (notOwn W s2 β) W.w.heap.size β w (c i) (ac.eval cap[i]) := fun i h => hs.opd (by rw [hl.avo (by rw [ho]; simp [Op.operands])]; exact hc i h)
    exact ⟨fun i h => (key i h).1, _, rfl, by simp, fun i h => ⟨ac.eval cap[i], by simp [h], (key i h).2⟩⟩
theorem ok_makebnd {f : FuncId} {x : Operand} {y : AV} (ho : o.op = .makeFunc (.func f) #[x] #[]) (hx : avo s x = some y) : LOK Try.prog o s ⟨some (.bnd f y), [], []⟩ := by
  refine lok_val fun s2 hl W N β w ac hs => ⟨.func (.func f) #[ac.eval x] #[], ?_, fun z hz => ?_⟩
  · unfold execOp; rw [ho]; simp [Instr.makeFunc]
  · cases hz
    have key := hs.opd (x := x) (by rw [hl.avo (by rw [ho]; simp [Op.operands])]; exact hx)
    exact ⟨key.1, _, rfl, key.2⟩
end
end Go.Proofs.Ytpclkgjhfhhddaa.AM
/- What operations do that look into memory, or turn it. -/
namespace Go.Proofs.Ytpclkgjhfhhddaa.AM
open Go Go.RowKit Go.Proofs.Ytpclkgjhfhhddaa.PN Go.Proofs.Ytpclkgjhfhhddaa.V
set_option linter.unusedVariables false
set_option linter.unusedSimpArgs false
/-! ### Cells -/
theorem add_at (b o j : Nat) : (⟨b, o, none⟩ : Addr).add j = ⟨b, o + j, none⟩ := by unfold Addr.add; split <;> simp_all
def seg (cs : Array Value) (o : Nat) (vs : List Value) : Array Value := (cs.toList.take o ++ vs ++ cs.toList.drop (o + vs.length)).toArray
theorem seg_size {cs : Array Value} {o : Nat} {vs : List Value} (h : o + vs.length ≤ cs.size) : (seg cs o vs).size = cs.size := by
  unfold seg; simp; omega
theorem seg_in {cs : Array Value} {o : Nat} {vs : List Value} (h : o + vs.length ≤ cs.size) {j : Nat} (hj : j < vs.length) : (seg cs o vs)[o + j]? = vs[j]? := by
  unfold seg
  rw [List.getElem?_toArray, List.getElem?_append_left (by simp; omega), List.getElem?_append_right (by simp; omega)]
  congr 1; simp; omega
theorem seg_out {cs : Array Value} {o : Nat} {vs : List Value} (h : o + vs.length ≤ cs.size) {i : Nat} (hi : i < o ∨ o + vs.length ≤ i) : (seg cs o vs)[i]? = cs[i]? := by
  unfold seg
  rw [List.getElem?_toArray]
  rcases hi with hi | hi
  · rw [List.append_assoc, List.getElem?_append_left (by simp; omega), List.getElem?_take_of_lt hi, Array.getElem?_toList]
  · rw [List.getElem?_append_right (by simp; omega), List.getElem?_drop]
    have : o + vs.length + (i - (cs.toList.take o ++ vs).length) = i := by simp; omega
    rw [this, Array.getElem?_toList]
theorem Ext.row_set {w : World} {k : Nat} {cs cs' : Array Value} {T : TypeId} (r : Row? w k cs T) (hT : T ≠ U32) : Ext (fun i => i = k) w (w.setRow k cs') := by
  refine ⟨by simp, fun i _ hi => setRow_other w k i cs' hi, fun i cs2 r' => ?_⟩
  refine (setRow_other w k i cs' ?_).trans r'
  rintro rfl
  unfold Row? at r r'
  rw [r] at r'
  injection r' with r'
  injection r' with _ r'
  exact hT r'
theorem Kept.row_set {W w : World} (h : Kept W w) {k : Nat} (hk : W.heap.size ≤ k) (cs : Array Value) : Kept W (w.setRow k cs) :=
  Below.trans h ⟨rfl, rfl, rfl, by simp, fun i hi => setRow_other w k i cs (by omega)⟩
def szB (P : Program) (T : TypeId) (n : Nat) : Bool := (P.info? T).map (·.size) == some n
theorem flat_size : flatT.all (fun T => szB Try.prog T 1) = true := by kernel_rfl
theorem sz_info {T : TypeId} {n : Nat} (h : szB Try.prog T n = true) : ∃ i, Try.prog.info? T = some i ∧ i.size = n := by
  unfold szB at h
  cases e : Try.prog.info? T with
  | none => rw [e] at h; cases h
  | some i => rw [e] at h; exact ⟨i, rfl, by simpa using h⟩
theorem flat_info {T : TypeId} (h : memN T flatT = true) : ∃ i, Try.prog.info? T = some i ∧ i.size = 1 := sz_info (List.all_eq_true.1 flat_size T (memN_spec h))
theorem run_loadflat {T : TypeId} (hT : memN T flatT = true) {w : World} {p : Addr} {v : Value} (h : w.cell? p = some v) : (Instr.loadAt T (.pointer (some p))).run Try.prog w = .ok v w := by
  have hf := flat_ok hT
  cases hd : Try.prog.underlying T with
  | none => rw [hd] at hf; cases hf
  | some d =>
    rw [hd] at hf
    have ha : (isAgg T).run Try.prog w = .ok false w := by
      unfold isAgg
      rw [Sem.run_bind, run_underlying hd w]
      cases d <;> first | (cases hf; done) | rfl
    simp [Instr.loadAt, Instr.sureAddr, loadVar, ha, h]
theorem run_storeflat {T : TypeId} (hT : memN T flatT = true) {w : World} {k o : Nat} {cs : Array Value} {T' : TypeId} (r : Row? w k cs T') (ho : o < cs.size) {v : Value} (hv : v.oneCell' = true) : (Instr.storeAt T (.pointer (some ⟨k, o, none⟩)) v).run Try.prog w = .ok () (w.setRow k (seg cs o [v])) := by
  obtain ⟨i, hi, hs⟩ := flat_info hT
  have hc : v.cells = #[v] := by cases v <;> first | rfl | cases hv
  have := run_storeCells_at Try.prog k o T' [v] 0 cs w r (by simp; omega) (by simpa using hv)
  simp [Instr.storeAt, Instr.sureAddr, storeVar, sizeOf, typeInfo, hi, hs, hc, this, seg]
/-- Types of structs and arrays, read and written whole. -/
def isAggD : Option TypeDesc → Bool
  | some (.struct _) | some (.array _ _) => true
  | _ => false
theorem run_isAgg {T : TypeId} (h : isAggD (Try.prog.underlying T) = true) (w : World) : (isAgg T).run Try.prog w = .ok true w := by
  cases hd : Try.prog.underlying T with
  | none => rw [hd] at h; cases h
  | some d =>
    rw [hd] at h
    unfold isAgg
    rw [Sem.run_bind, run_underlying hd w]
    cases d <;> first | (cases h; done) | rfl
theorem run_loadagg {T : TypeId} {n : Nat} (ha : isAggD (Try.prog.underlying T) = true) (hz : szB Try.prog T n = true) {w : World} {k o : Nat} {vs : List Value} (hl : vs.length = n) (h : ∀ j v, vs[j]? = some v → w.cell? ⟨k, o + j, none⟩ = some v) : (Instr.loadAt T (.pointer (some ⟨k, o, none⟩))).run Try.prog w = .ok (.agg vs.toArray) w := by
  obtain ⟨i, hi, hs⟩ := sz_info hz
  have hc := run_loadCells_list (P := Try.prog) w ⟨k, o, none⟩ vs (fun j v hv => by rw [add_at]; exact h j v hv)
  simp [Instr.loadAt, Instr.sureAddr, loadVar, run_isAgg ha, sizeOf, typeInfo, hi, hs, ← hl, hc]
theorem run_storeagg {T : TypeId} {n : Nat} (hz : szB Try.prog T n = true) {w : World} {k o : Nat} {cs : Array Value} {T' : TypeId} (r : Row? w k cs T') {vs : Array Value} (hl : vs.size = n) (ho : o + n ≤ cs.size) (hv : ∀ v ∈ vs.toList, v.oneCell' = true) : (Instr.storeAt T (.pointer (some ⟨k, o, none⟩)) (.agg vs)).run Try.prog w = .ok () (w.setRow k (seg cs o vs.toList)) := by
  obtain ⟨i, hi, hs⟩ := sz_info hz
  have := run_storeCells_at Try.prog k o T' vs.toList 0 cs w r (by simpa [hl] using ho) hv
  simp [Instr.storeAt, Instr.sureAddr, storeVar, sizeOf, typeInfo, hi, hs, Value.cells, hl, this, seg]
theorem rt_agg : isAggD (Try.prog.underlying RT) = true := by kernel_rfl
theorem rt_sz : szB Try.prog RT 3 = true := by kernel_rfl
theorem run_loadrat {w : World} {k o : Nat} {cs : Array Value} {T : TypeId} {x y z : Value} (r : Row? w k cs T) (h0 : cs[o]? = some x) (h1 : cs[o + 1]? = some y) (h2 : cs[o + 2]? = some z) : (Instr.loadAt RT (.pointer (some ⟨k, o, none⟩))).run Try.prog w = .ok (.agg #[x, y, z]) w := by
  refine run_loadagg rt_agg rt_sz (vs := [x, y, z]) rfl (fun j v hv => ?_)
  rw [cell_of_row w k (o + j) cs T (0, 0) r]
  match j, hv with
  | 0, hv => cases hv; exact h0
  | 1, hv => cases hv; exact h1
  | 2, hv => cases hv; exact h2
  | j + 3, hv => cases hv
/-! ### What own blocks hold -/
theorem ub_at {u : Value} {k n sz size : Nat} (h : IsAt u k n sz size) : ub u = some k := by
  rcases h with ⟨rfl, _⟩ | ⟨_, rfl, _⟩ <;> rfl
theorem at_size {u : Value} {k n sz size : Nat} (h : IsAt u k n sz size) : n * sz ≤ size := by
  rcases h with ⟨_, h⟩ | ⟨cap, _, h, _, rfl⟩
  · exact h
  · exact Nat.mul_le_mul_right _ h
theorem rb_rats {S : Nat → Prop} {B : Nat} {β : Nat → Nat → Value} {w : World} {u : Value} {n : Nat} {f : Nat → RA} (h : RB S B β w u (.rats n f)) {k : Nat} (hk : ub u = some k) :
    ∃ cs, B ≤ k ∧ Row? w k cs RT ∧ IsAt u k n 3 cs.size ∧ ∀ i, i < n → ∃ s vn vd, cs[i * 3]? = some (.bool s) ∧ cs[i * 3 + 1]? = some vn ∧ cs[i * 3 + 2]? = some vd ∧ R3 w (f i) s vn vd := by
  rcases h with ⟨rfl, _⟩ | ⟨k', cs, h1, h2, h3, h4⟩
  · cases hk
  · have := ub_at h3; rw [hk] at this; cases this; exact ⟨cs, h1, h2, h3, h4⟩
theorem rb_ones {S : Nat → Prop} {B : Nat} {β : Nat → Nat → Value} {w : World} {u : Value} {T : TypeId} {n : Nat} {f : Nat → AV} (h : RB S B β w u (.ones T n f)) {k : Nat} (hk : ub u = some k) :
    T ≠ U32 ∧ ∃ cs, B ≤ k ∧ Row? w k cs T ∧ IsAt u k n 1 cs.size ∧ ∀ i, i < n → ∃ y, cs[i]? = some y ∧ y.oneCell' = true ∧ RV S B β w (f i) y := by
  obtain ⟨hT, h⟩ := h
  rcases h with ⟨rfl, _⟩ | ⟨k', cs, h1, h2, h3, h4⟩
  · cases hk
  · have := ub_at h3; rw [hk] at this; cases this; exact ⟨hT, cs, h1, h2, h3, h4⟩
theorem rb_lims {S : Nat → Prop} {B : Nat} {β : Nat → Nat → Value} {w : World} {u : Value} {n : Nat} {f : Nat → Nat} (h : RB S B β w u (.lims n f)) {k : Nat} (hk : ub u = some k) :
    ∃ cs, B ≤ k ∧ Row? w k cs U32 ∧ IsAt u k n 1 cs.size ∧ ∀ i, i < n → cs[i]? = some (.int .u32 (f i : Nat)) := by
  rcases h with ⟨rfl, _⟩ | ⟨k', cs, h1, h2, h3, h4⟩
  · cases hk
  · have := ub_at h3; rw [hk] at this; cases this; exact ⟨cs, h1, h2, h3, h4⟩
/-! ### Loads -/
section
variable {o : Oper} {s : St}
theorem ok_load_rp {x : Operand} {r : RA} (ho : o.op = .load RT x) (hx : avo s x = some (.rp r)) : LOK Try.prog o s ⟨some (.ra r), [], []⟩ := by
  refine lok_val fun s2 hl W N β w ac hs => ?_
  obtain ⟨_, b, off, h1, _, cs, sg, vn, vd, hr, h2, h3, h4, h5⟩ := hs.opd (x := x) (by rw [hl.avo (by rw [ho]; simp [Op.operands])]; exact hx)
  exact ⟨.agg #[.bool sg, vn, vd], by unfold execOp; rw [ho]; simp only []; rw [h1]; simp [run_loadrat hr h2 h3 h4], fun z hz => by cases hz; exact ⟨trivial, _, _, _, rfl, h5⟩⟩
/-- A number's three parts, wherever they lie. -/
def pag (s : Bool) (n d : List Nat) (i : Nat) : AV := [AV.v (.bool s), .plb n, .plb d].getD i (.v undef)
theorem pag_ok (s : Bool) (n d : List Nat) (U : Nat → Bool) : ∀ i, (pag s n d i).ok U
  | 0 | 1 | 2 => trivial
  | _ + 3 => trivial
theorem PLb.one {S : Nat → Prop} {w : World} {v : Value} {l : List Nat} (h : PLb S w v l) : v.oneCell' = true := by obtain ⟨A, c, rfl, _⟩ := h; rfl
theorem pag_rv {S : Nat → Prop} {B : Nat} {β : Nat → Nat → Value} {w : World} {s : Bool} {n d : List Nat} {vn vd : Value} (h1 : PLb S w vn n) (h2 : PLb S w vd d) : RV S B β w (.ag 3 (pag s n d)) (.agg #[.bool s, vn, vd]) := by
  refine ⟨_, rfl, rfl, fun i hi => ?_⟩
  match i, hi with
  | 0, _ => exact ⟨_, rfl, rfl, rfl⟩
  | 1, _ => exact ⟨_, rfl, h1.one, h1⟩
  | 2, _ => exact ⟨_, rfl, h2.one, h2⟩
theorem ok_load_pp {x : Operand} {s' : Bool} {n d : List Nat} (ho : o.op = .load RT x) (hx : avo s x = some (.pp s' n d)) : LOK Try.prog o s ⟨some (.ag 3 (pag s' n d)), [], []⟩ := by
  refine lok_val fun s2 hl W N β w ac hs => ?_
  obtain ⟨_, b, off, h1, _, vn, vd, h2, h3, h4, h5, h6⟩ := hs.opd (x := x) (by rw [hl.avo (by rw [ho]; simp [Op.operands])]; exact hx)
  have hrun : (Instr.loadAt RT (.pointer (some ⟨b, off, none⟩))).run Try.prog w = .ok (.agg #[.bool s', vn, vd]) w :=
    run_loadagg rt_agg rt_sz (vs := [.bool s', vn, vd]) rfl (fun j v hv => by
      match j, hv with
      | 0, hv => cases hv; exact h2
      | 1, hv => cases hv; exact h3
      | 2, hv => cases hv; exact h4
      | j + 3, hv => cases hv)
  exact ⟨.agg #[.bool s', vn, vd], by unfold execOp; rw [ho]; simp only []; rw [h1]; simp [hrun], fun z hz => by cases hz; exact ⟨fun i _ => pag_ok _ _ _ _ i, pag_rv h5 h6⟩⟩
theorem ok_load_cp {x : Operand} {T : TypeId} {y : AV} (ho : o.op = .load T x) (hT : memN T flatT = true) (hx : avo s x = some (.cp y)) : LOK Try.prog o s ⟨some y, [], []⟩ := by
  refine lok_val fun s2 hl W N β w ac hs => ?_
  obtain ⟨hu, p, v, h1, _, h2, h3⟩ := hs.opd (x := x) (by rw [hl.avo (by rw [ho]; simp [Op.operands])]; exact hx)
  exact ⟨v, by unfold execOp; rw [ho]; simp only []; rw [h1]; simp [run_loadflat hT h2], fun z hz => by cases hz; exact ⟨hu, h3⟩⟩
theorem ok_load_rptr {x : Operand} {g r i n m : Nat} {F : Nat → Blk} {f : Nat → RA} (ho : o.op = .load RT x) (hx : avo s x = some (.rptr g r i)) (hg : s.heap g = some (n, F)) (hr : r < n) (hF : F r = .rats m f) (hi : i < m) : LOK Try.prog o s ⟨some (.ra (f i)), [], [g]⟩ := by
  refine lok_val fun s2 hl W N β w ac hs => ?_
  obtain ⟨_, b, hb, h1⟩ := hs.opd (x := x) (by rw [hl.avo (by rw [ho]; simp [Op.operands])]; exact hx)
  have h := (hs.heap g n F r ((hl.heap g (List.mem_singleton.2 rfl)).trans hg) hr).2
  rw [hF] at h
  obtain ⟨cs, _, hrow, _, h4⟩ := rb_rats h hb
  obtain ⟨sg, vn, vd, a0, a1, a2, a3⟩ := h4 i hi
  exact ⟨.agg #[.bool sg, vn, vd], by unfold execOp; rw [ho]; simp only []; rw [h1]; simp [run_loadrat hrow a0 a1 a2], fun z hz => by cases hz; exact ⟨trivial, _, _, _, rfl, a3⟩⟩
theorem ok_load_ptr {x : Operand} {T T' : TypeId} {g r i n m : Nat} {F : Nat → Blk} {f : Nat → AV} (ho : o.op = .load T x) (hT : memN T flatT = true) (hx : avo s x = some (.ptr g r i)) (hg : s.heap g = some (n, F)) (hr : r < n) (hF : F r = .ones T' m f) (hi : i < m) : LOK Try.prog o s ⟨some (f i), [], [g]⟩ := by
  refine lok_val fun s2 hl W N β w ac hs => ?_
  obtain ⟨_, b, hb, h1⟩ := hs.opd (x := x) (by rw [hl.avo (by rw [ho]; simp [Op.operands])]; exact hx)
  obtain ⟨hu, h⟩ := hs.heap g n F r ((hl.heap g (List.mem_singleton.2 rfl)).trans hg) hr
  rw [hF] at h hu
  obtain ⟨_, cs, _, hrow, _, h4⟩ := rb_ones h hb
  obtain ⟨y, a0, a1, a2⟩ := h4 i hi
  exact ⟨y, by unfold execOp; rw [ho]; simp only []; rw [h1]; simp [run_loadflat hT (show w.cell? ⟨b, i, none⟩ = some y by rw [cell_of_row w b i cs T' (0, 0) hrow]; exact a0)], fun z hz => by cases hz; exact ⟨hu i hi, a2⟩⟩
theorem ok_load_ptr3 {x : Operand} {T' : TypeId} {g r i n m : Nat} {F : Nat → Blk} {f : Nat → AV} {q : RA} (ho : o.op = .load RT x) (hx : avo s x = some (.ptr g r i)) (hg : s.heap g = some (n, F)) (hr : r < n) (hF : F r = .ones T' m f) (hi : i + 2 < m) (h0 : f i = .rs q) (h1 : f (i + 1) = .rn q) (h2 : f (i + 2) = .rd q) : LOK Try.prog o s ⟨some (.ra q), [], [g]⟩ := by
  refine lok_val fun s2 hl W N β w ac hs => ?_
  obtain ⟨_, b, hb, e1⟩ := hs.opd (x := x) (by rw [hl.avo (by rw [ho]; simp [Op.operands])]; exact hx)
  obtain ⟨hu, h⟩ := hs.heap g n F r ((hl.heap g (List.mem_singleton.2 rfl)).trans hg) hr
  rw [hF] at h hu
  obtain ⟨_, cs, _, hrow, _, h4⟩ := rb_ones h hb
  obtain ⟨y0, a0, _, b0⟩ := h4 i (by omega)
  obtain ⟨y1, a1, _, b1⟩ := h4 (i + 1) (by omega)
  obtain ⟨y2, a2, _, b2⟩ := h4 (i + 2) hi
  rw [h0] at b0; rw [h1] at b1; rw [h2] at b2
  have b0 : y0 = .bool q.sgn := b0
  subst b0
  exact ⟨.agg #[.bool q.sgn, y1, y2], by unfold execOp; rw [ho]; simp only []; rw [e1]; simp [run_loadrat hrow a0 a1 a2], fun z hz => by cases hz; exact ⟨trivial, _, _, _, rfl, rfl, b1, b2⟩⟩
theorem ok_load_agg {x : Operand} {T T' : TypeId} {g r n m : Nat} {F : Nat → Blk} {f : Nat → AV} (ho : o.op = .load T x) (ha : isAggD (Try.prog.underlying T) = true) (hz : szB Try.prog T m = true) (hx : avo s x = some (.ptr g r 0)) (hg : s.heap g = some (n, F)) (hr : r < n) (hF : F r = .ones T' m f) : LOK Try.prog o s ⟨some (.ag m f), [], [g]⟩ := by
  refine lok_val fun s2 hl W N β w ac hs => ?_
  obtain ⟨_, b, hb, e1⟩ := hs.opd (x := x) (by rw [hl.avo (by rw [ho]; simp [Op.operands])]; exact hx)
  obtain ⟨hu, h⟩ := hs.heap g n F r ((hl.heap g (List.mem_singleton.2 rfl)).trans hg) hr
  rw [hF] at h hu
  obtain ⟨_, cs, _, hrow, hat, h4⟩ := rb_ones h hb
  have hm : m ≤ cs.size := by have := at_size hat; omega
  refine ⟨.agg (cs.toList.take m).toArray, ?_, fun z hz => ?_⟩
  · unfold execOp; rw [ho]; simp only []; rw [e1]
    have := run_loadagg ha hz (w := w) (k := b) (o := 0) (vs := cs.toList.take m) (by simp; omega) (fun j v hv => by
      rw [Nat.zero_add, cell_of_row w b j cs T' (0, 0) hrow]
      rw [List.getElem?_take] at hv
      split at hv
      · rw [← hv, Array.getElem?_toList]
      · cases hv)
    simp [this]
  · cases hz
    refine ⟨hu, _, rfl, by simp; omega, fun i hi => ?_⟩
    obtain ⟨y, a0, a1, a2⟩ := h4 i hi
    exact ⟨y, by rw [List.getElem?_toArray, List.getElem?_take_of_lt hi, Array.getElem?_toList]; exact a0, a1, a2⟩
/-- A field of a number. -/
def RA.field (q : RA) : Nat → AV
  | 0 => .v (.bool q.sgn)
  | 1 => match q with | .q p => .nat (nm p) | .raw _ n _ => .lb n
  | _ => match q with | .q p => .nat p.den | .raw _ _ d => .lb d
theorem field_rv {S : Nat → Prop} {B : Nat} {β : Nat → Nat → Value} {w : World} {q : RA} {sg : Bool} {vn vd : Value} (h : R3 w q sg vn vd) {j : Nat} (hj : j < 3) {v : Value} (hv : #[.bool sg, vn, vd][j]? = some v) : RV S B β w (q.field j) v := by
  match j, hj with
  | 0, _ => cases hv; exact congrArg Value.bool h.1
  | 1, _ => cases hv; cases q <;> exact h.2.1
  | 2, _ => cases hv; cases q <;> exact h.2.2
theorem field_ok (U : Nat → Bool) (q : RA) : ∀ j, (q.field j).ok U
  | 0 => trivial
  | 1 => by cases q <;> trivial
  | j + 2 => by cases q <;> trivial
theorem ok_load_fld {x : Operand} {T : TypeId} {g r i j n m : Nat} {F : Nat → Blk} {f : Nat → RA} (ho : o.op = .load T x) (hT : memN T flatT = true) (hx : avo s x = some (.fld g r i j)) (hg : s.heap g = some (n, F)) (hr : r < n) (hF : F r = .rats m f) (hi : i < m) (hj : j < 3) : LOK Try.prog o s ⟨some ((f i).field j), [], [g]⟩ := by
  refine lok_val fun s2 hl W N β w ac hs => ?_
  obtain ⟨_, b, hb, h1⟩ := hs.opd (x := x) (by rw [hl.avo (by rw [ho]; simp [Op.operands])]; exact hx)
  have h := (hs.heap g n F r ((hl.heap g (List.mem_singleton.2 rfl)).trans hg) hr).2
  rw [hF] at h
  obtain ⟨cs, _, hrow, _, h4⟩ := rb_rats h hb
  obtain ⟨sg, vn, vd, a0, a1, a2, a3⟩ := h4 i hi
  obtain ⟨v, hv, hc⟩ : ∃ v, #[Value.bool sg, vn, vd][j]? = some v ∧ cs[i * 3 + j]? = some v := by
    match j, hj with
    | 0, _ => exact ⟨_, rfl, a0⟩
    | 1, _ => exact ⟨_, rfl, a1⟩
    | 2, _ => exact ⟨_, rfl, a2⟩
  exact ⟨v, by unfold execOp; rw [ho]; simp only []; rw [h1]; simp [run_loadflat hT (show w.cell? ⟨b, i * 3 + j, none⟩ = some v by rw [cell_of_row w b _ cs RT (0, 0) hrow]; exact hc)], fun z hz => by cases hz; exact ⟨field_ok _ _ _, field_rv a3 hj hv⟩⟩
end
/-! ### Stores -/
theorem lok_turn {P : Program} {o : Oper} {s : St} {g n r : Nat} {F F' : Nat → Blk} {rd : List Nat} (hd : o.dst = none) (hg : s.heap g = some (n, F)) (hr : r < n) (hrd : g ∈ rd) (hF : ∀ r', r' < n → r' ≠ r → F' r' = F r')
    (h : ∀ s2, Like o rd s s2 → ∀ W N β w a, Sim W N β w a s2 → s2.heap g = some (n, F) → ∃ w', (execOp a.eval o).run P w = .ok .skip w' ∧ Ext (fun i => ub (β g r) = some i) w w' ∧ Kept W.w w' ∧ (F' r).ok s2.used ∧ RB (notOwn W s2 β) W.w.heap.size β w' (β g r) (F' r)) : LOK P o s ⟨none, [(g, some (n, F'))], rd⟩ := by
  refine ⟨fun g' hb hn => ?_, fun s2 h1 h2 h3 _ W N β w a hs hN K Q hK => ?_⟩
  · obtain ⟨b, hb⟩ := hb
    simp only [List.mem_singleton, Prod.mk.injEq] at hb
    exact absurd hrd (by rw [← hb.1]; exact hn)
  · have hg2 := (h2 g hrd).trans hg
    obtain ⟨w', hrun, he, hk, hok, hrb⟩ := h s2 ⟨h1, h2⟩ W N β w a hs hg2
    unfold Oper.wp
    rw [hrun]
    refine hK β _ w' ?_
    rw [hd]
    exact hs.turnfam hg2 hr he hk hF ⟨hok, hrb⟩
def updN {α : Type} (f : Nat → α) (i : Nat) (x : α) : Nat → α := fun j => if j = i then x else f j
theorem updN_same {α : Type} (f : Nat → α) (i : Nat) (x : α) : updN f i x i = x := if_pos rfl
theorem updN_ne {α : Type} (f : Nat → α) {i j : Nat} (x : α) (h : j ≠ i) : updN f i x j = f j := if_neg h
section
variable {o : Oper} {s : St}
theorem ok_store_rptr {x y : Operand} {g r i n m : Nat} {F : Nat → Blk} {f : Nat → RA} {q : RA} (hd : o.dst = none) (ho : o.op = .store RT x y) (hx : avo s x = some (.rptr g r i)) (hy : avo s y = some (.ra q)) (hg : s.heap g = some (n, F)) (hr : r < n) (hF : F r = .rats m f) (hi : i < m) :
    LOK Try.prog o s ⟨none, [(g, some (n, updN F r (.rats m (updN f i q))))], [g]⟩ := by
  refine lok_turn hd hg hr (List.mem_singleton.2 rfl) (fun r' _ hne => updN_ne _ _ hne) fun s2 hl W N β w ac hs hg2 => ?_
  obtain ⟨_, b, hb, h1⟩ := hs.opd (x := x) (by rw [hl.avo (by rw [ho]; simp [Op.operands])]; exact hx)
  obtain ⟨_, sg, vn, vd, h2, h3⟩ := hs.opd (x := y) (by rw [hl.avo (by rw [ho]; simp [Op.operands])]; exact hy)
  have h := (hs.heap g n F r hg2 hr).2
  rw [hF] at h
  obtain ⟨cs, hB, hrow, hat, h4⟩ := rb_rats h hb
  have hsz := at_size hat
  have hfit : i * 3 + 3 ≤ cs.size := by have := Nat.mul_le_mul_right 3 (show i + 1 ≤ m by omega); omega
  have he : Ext (fun j => j = b) w (w.setRow b (seg cs (i * 3) [.bool sg, vn, vd])) := Ext.row_set hrow (by decide)
  have hrun := run_storeagg rt_sz hrow (vs := #[.bool sg, vn, vd]) rfl hfit (fun v hv => by
      simp at hv
      rcases hv with rfl | rfl | rfl
      · rfl
      · exact rn_one h3.2.1
      · exact rd_one h3.2.2)
  refine ⟨_, by unfold execOp; rw [ho]; simp only []; rw [h1, h2]; simp only [Sem.run_bind, hrun]; rfl, he.mono (fun j hj => by rw [hj]; exact hb), Kept.row_set hs.kept hB _, by rw [updN_same]; trivial, ?_⟩
  rw [updN_same]
  refine .inr ⟨b, _, hB, setRow_heap w b cs _ RT _ hrow, by rw [seg_size (by simpa using hfit)]; exact hat, fun j hj => ?_⟩
  by_cases e : j = i
  · subst e
    rw [updN_same]
    refine ⟨sg, vn, vd, ?_, ?_, ?_, r3_ext h3 he⟩
    · exact seg_in (vs := [.bool sg, vn, vd]) (j := 0) (by simpa using hfit) (by simp)
    · exact seg_in (vs := [.bool sg, vn, vd]) (j := 1) (by simpa using hfit) (by simp)
    · exact seg_in (vs := [.bool sg, vn, vd]) (j := 2) (by simpa using hfit) (by simp)
  · rw [updN_ne _ _ e]
    obtain ⟨s0, n0, d0, a0, a1, a2, a3⟩ := h4 j hj
    have hout : ∀ t, t < 3 → (seg cs (i * 3) [.bool sg, vn, vd])[j * 3 + t]? = cs[j * 3 + t]? := fun t ht => seg_out (by simpa using hfit) (by simp; omega)
    exact ⟨s0, n0, d0, (hout 0 (by omega)).trans a0, (hout 1 (by omega)).trans a1, (hout 2 (by omega)).trans a2, r3_ext a3 he⟩
theorem ok_store_ptr {x y : Operand} {T T' : TypeId} {g r i n m : Nat} {F : Nat → Blk} {f : Nat → AV} {z : AV} (hd : o.dst = none) (ho : o.op = .store T x y) (hT : memN T flatT = true) (hx : avo s x = some (.ptr g r i)) (hy : avo s y = some z) (hz : z.one = true) (hg : s.heap g = some (n, F)) (hr : r < n) (hF : F r = .ones T' m f) (hi : i < m) :
    LOK Try.prog o s ⟨none, [(g, some (n, updN F r (.ones T' m (updN f i z))))], [g]⟩ := by
  refine lok_turn hd hg hr (List.mem_singleton.2 rfl) (fun r' _ hne => updN_ne _ _ hne) fun s2 hl W N β w ac hs hg2 => ?_
  obtain ⟨_, b, hb, h1⟩ := hs.opd (x := x) (by rw [hl.avo (by rw [ho]; simp [Op.operands])]; exact hx)
  have h2 := hs.opd (x := y) (by rw [hl.avo (by rw [ho]; simp [Op.operands])]; exact hy)
  obtain ⟨hu, h⟩ := hs.heap g n F r hg2 hr
  rw [hF] at h hu
  obtain ⟨hT', cs, hB, hrow, hat, h4⟩ := rb_ones h hb
  have hsz := at_size hat
  have he : Ext (fun j => j = b) w (w.setRow b (seg cs i [ac.eval y])) := Ext.row_set hrow hT'
  have hv := RV.one hz h2.2
  have kf : Fwd (notOwn W s2 β) (notOwn W s2 β) W.w.heap.size W.w.heap.size s2.used β β (fun j => j = b) w (w.setRow b (seg cs i [ac.eval y])) := ⟨he, fun j hj e => hj.2 (by rw [e]; exact ⟨g, n, F, r, hg2, hr, hb⟩), fun _ h _ => h, Nat.le_refl _, fun _ _ _ => rfl⟩
  have hrun := run_storeflat hT hrow (by omega : i < cs.size) hv
  refine ⟨_, by unfold execOp; rw [ho]; simp only []; rw [h1]; simp only [Sem.run_bind, hrun]; rfl, he.mono (fun j hj => by rw [hj]; exact hb), Kept.row_set hs.kept hB _, ?_, ?_⟩
  · rw [updN_same]
    intro j hj
    by_cases e : j = i
    · rw [e, updN_same]; exact h2.1
    · rw [updN_ne _ _ e]; exact hu j hj
  rw [updN_same]
  refine ⟨hT', .inr ⟨b, _, hB, setRow_heap w b cs _ T' _ hrow, by rw [seg_size (by simp; omega)]; exact hat, fun j hj => ?_⟩⟩
  by_cases e : j = i
  · subst e
    rw [updN_same]
    exact ⟨ac.eval y, seg_in (vs := [ac.eval y]) (j := 0) (by simp; omega) (by simp), hv, h2.2.fwd kf h2.1⟩
  · rw [updN_ne _ _ e]
    obtain ⟨y0, a0, a1, a2⟩ := h4 j hj
    exact ⟨y0, (seg_out (by simp; omega) (by simp; omega)).trans a0, a1, a2.fwd kf (hu j hj)⟩
def upd3 (f : Nat → AV) (i : Nat) (q : RA) : Nat → AV := updN (updN (updN f i (.rs q)) (i + 1) (.rn q)) (i + 2) (.rd q)
theorem ok_store_ptr3 {x y : Operand} {T' : TypeId} {g r i n m : Nat} {F : Nat → Blk} {f : Nat → AV} {q : RA} (hd : o.dst = none) (ho : o.op = .store RT x y) (hx : avo s x = some (.ptr g r i)) (hy : avo s y = some (.ra q)) (hg : s.heap g = some (n, F)) (hr : r < n) (hF : F r = .ones T' m f) (hi : i + 2 < m) :
    LOK Try.prog o s ⟨none, [(g, some (n, updN F r (.ones T' m (upd3 f i q))))], [g]⟩ := by
  refine lok_turn hd hg hr (List.mem_singleton.2 rfl) (fun r' _ hne => updN_ne _ _ hne) fun s2 hl W N β w ac hs hg2 => ?_
  obtain ⟨_, b, hb, h1⟩ := hs.opd (x := x) (by rw [hl.avo (by rw [ho]; simp [Op.operands])]; exact hx)
  obtain ⟨_, sg, vn, vd, h2, h3⟩ := hs.opd (x := y) (by rw [hl.avo (by rw [ho]; simp [Op.operands])]; exact hy)
  obtain ⟨hu, h⟩ := hs.heap g n F r hg2 hr
  rw [hF] at h hu
  obtain ⟨hT', cs, hB, hrow, hat, h4⟩ := rb_ones h hb
  have hsz := at_size hat
  have hfit : i + 3 ≤ cs.size := by omega
  have he : Ext (fun j => j = b) w (w.setRow b (seg cs i [.bool sg, vn, vd])) := Ext.row_set hrow hT'
  have kf : Fwd (notOwn W s2 β) (notOwn W s2 β) W.w.heap.size W.w.heap.size s2.used β β (fun j => j = b) w (w.setRow b (seg cs i [.bool sg, vn, vd])) := ⟨he, fun j hj e => hj.2 (by rw [e]; exact ⟨g, n, F, r, hg2, hr, hb⟩), fun _ h _ => h, Nat.le_refl _, fun _ _ _ => rfl⟩
  have hrun := run_storeagg rt_sz hrow (vs := #[.bool sg, vn, vd]) rfl hfit (fun v hv => by
      simp at hv
      rcases hv with rfl | rfl | rfl
      · rfl
      · exact rn_one h3.2.1
      · exact rd_one h3.2.2)
  refine ⟨_, by unfold execOp; rw [ho]; simp only []; rw [h1, h2]; simp only [Sem.run_bind, hrun]; rfl, he.mono (fun j hj => by rw [hj]; exact hb), Kept.row_set hs.kept hB _, ?_, ?_⟩
  · rw [updN_same]
    intro j hj
    unfold upd3
    by_cases e2 : j = i + 2
    · rw [e2, updN_same]; trivial
    · rw [updN_ne _ _ e2]
      by_cases e1 : j = i + 1
      · rw [e1, updN_same]; trivial
      · rw [updN_ne _ _ e1]
        by_cases e : j = i
        · rw [e, updN_same]; trivial
        · rw [updN_ne _ _ e]; exact hu j hj
  rw [updN_same]
  refine ⟨hT', .inr ⟨b, _, hB, setRow_heap w b cs _ T' _ hrow, by rw [seg_size (by simpa using hfit)]; exact hat, fun j hj => ?_⟩⟩
  unfold upd3
  by_cases e2 : j = i + 2
  · subst e2; rw [updN_same]
    exact ⟨vd, seg_in (vs := [.bool sg, vn, vd]) (j := 2) (by simpa using hfit) (by simp), rd_one h3.2.2, rd_ext h3.2.2 he⟩
  · rw [updN_ne _ _ e2]
    by_cases e1 : j = i + 1
    · subst e1; rw [updN_same]
      exact ⟨vn, seg_in (vs := [.bool sg, vn, vd]) (j := 1) (by simpa using hfit) (by simp), rn_one h3.2.1, rn_ext h3.2.1 he⟩
    · rw [updN_ne _ _ e1]
      by_cases e : j = i
      · subst e; rw [updN_same]
        exact ⟨.bool sg, seg_in (vs := [.bool sg, vn, vd]) (j := 0) (by simpa using hfit) (by simp), rfl, congrArg Value.bool h3.1⟩
      · rw [updN_ne _ _ e]
        obtain ⟨y0, a0, a1, a2⟩ := h4 j hj
        exact ⟨y0, (seg_out (by simpa using hfit) (by simp; omega)).trans a0, a1, a2.fwd kf (hu j hj)⟩
theorem ok_store_agg {x y : Operand} {T T' : TypeId} {g r n m : Nat} {F : Nat → Blk} {f f' : Nat → AV} (hd : o.dst = none) (ho : o.op = .store T x y) (hz : szB Try.prog T m = true) (hx : avo s x = some (.ptr g r 0)) (hy : avo s y = some (.ag m f')) (hg : s.heap g = some (n, F)) (hr : r < n) (hF : F r = .ones T' m f) :
    LOK Try.prog o s ⟨none, [(g, some (n, updN F r (.ones T' m f')))], [g]⟩ := by
  refine lok_turn hd hg hr (List.mem_singleton.2 rfl) (fun r' _ hne => updN_ne _ _ hne) fun s2 hl W N β w ac hs hg2 => ?_
  obtain ⟨_, b, hb, h1⟩ := hs.opd (x := x) (by rw [hl.avo (by rw [ho]; simp [Op.operands])]; exact hx)
  obtain ⟨hok, vs, h2, h3, h5⟩ := hs.opd (x := y) (by rw [hl.avo (by rw [ho]; simp [Op.operands])]; exact hy)
  obtain ⟨hu, h⟩ := hs.heap g n F r hg2 hr
  rw [hF] at h hu
  obtain ⟨hT', cs, hB, hrow, hat, h4⟩ := rb_ones h hb
  have hsz := at_size hat
  have hfit : 0 + m ≤ cs.size := by omega
  have he : Ext (fun j => j = b) w (w.setRow b (seg cs 0 vs.toList)) := Ext.row_set hrow hT'
  have kf : Fwd (notOwn W s2 β) (notOwn W s2 β) W.w.heap.size W.w.heap.size s2.used β β (fun j => j = b) w (w.setRow b (seg cs 0 vs.toList)) := ⟨he, fun j hj e => hj.2 (by rw [e]; exact ⟨g, n, F, r, hg2, hr, hb⟩), fun _ h _ => h, Nat.le_refl _, fun _ _ _ => rfl⟩
  have hrun := run_storeagg hz hrow h3 hfit (fun v hv => by
      obtain ⟨i, hi, e⟩ := List.mem_iff_getElem.1 hv
      have hi' : i < vs.size := by simpa using hi
      obtain ⟨y, a0, a1, _⟩ := h5 i (by omega)
      rw [Array.getElem?_eq_getElem hi'] at a0
      cases a0
      have e : vs[i] = v := by simpa using e
      rw [← e]; exact a1)
  refine ⟨_, by unfold execOp; rw [ho]; simp only []; rw [h1, h2]; simp only [Sem.run_bind, hrun]; rfl, he.mono (fun j hj => by rw [hj]; exact hb), Kept.row_set hs.kept hB _, by rw [updN_same]; exact hok, ?_⟩
  rw [updN_same]
  refine ⟨hT', .inr ⟨b, _, hB, setRow_heap w b cs _ T' _ hrow, by rw [seg_size (by simp; omega)]; exact hat, fun j hj => ?_⟩⟩
  obtain ⟨y, a0, a1, a2⟩ := h5 j hj
  refine ⟨y, ?_, a1, a2.fwd kf (hok j hj)⟩
  have := seg_in (cs := cs) (o := 0) (vs := vs.toList) (by simp; omega) (j := j) (by simp; omega)
  rw [Nat.zero_add, Array.getElem?_toList] at this
  exact this.trans a0
end
end Go.Proofs.Ytpclkgjhfhhddaa.AM

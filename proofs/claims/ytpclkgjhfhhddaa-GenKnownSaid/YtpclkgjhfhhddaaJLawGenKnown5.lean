/- Joined texts, 5: AmF AmG AmH. -/
import Derived.Test.YtpclkgjhfhhddaaJLawGenKnown4
set_option linter.unusedVariables false
set_option linter.unusedSimpArgs false
/- What operations do that look into memory, or turn it. -/
namespace Go.Proofs.Ytpclkgjhfhhddaa.AM
open Go Go.RowKit Go.Proofs.Ytpclkgjhfhhddaa.PN Go.Proofs.Ytpclkgjhfhhddaa.V
set_option linter.unusedVariables false
set_option linter.unusedSimpArgs false
/-! ### Cells -/
theorem add_at (b o j : Nat) : (⟨b, o, none⟩ : Addr).add j = ⟨b, o + j, none⟩ := by unfold Addr.add; split <;> simp_all
def seg (cs : Array Value) (o : Nat) (vs : List Value) : Array Value := (cs.toList.take o ++ vs ++ cs.toList.drop (o + vs.length)).toArray
theorem seg_size {cs : Array Value} {o : Nat} {vs : List Value} (h : o + vs.length ≤ cs.size) : (seg cs o vs).size = cs.size := by
  unfold seg; simp; omega
theorem seg_in {cs : Array Value} {o : Nat} {vs : List Value} (h : o + vs.length ≤ cs.size) {j : Nat} (hj : j < vs.length) : (seg cs o vs)[o + j]? = vs[j]? := by
  unfold seg
  rw [List.getElem?_toArray, List.getElem?_append_left (by simp; omega), List.getElem?_append_right (by simp; omega)]
  congr 1; simp; omega
theorem seg_out {cs : Array Value} {o : Nat} {vs : List Value} (h : o + vs.length ≤ cs.size) {i : Nat} (hi : i < o ∨ o + vs.length ≤ i) : (seg cs o vs)[i]? = cs[i]? := by
  unfold seg
  rw [List.getElem?_toArray]
  rcases hi with hi | hi
  · rw [List.append_assoc, List.getElem?_append_left (by simp; omega), List.getElem?_take_of_lt hi, Array.getElem?_toList]
  · rw [List.getElem?_append_right (by simp; omega), List.getElem?_drop]
    have : o + vs.length + (i - (cs.toList.take o ++ vs).length) = i := by simp; omega
    rw [this, Array.getElem?_toList]
theorem Ext.row_set {w : World} {k : Nat} {cs cs' : Array Value} {T : TypeId} (r : Row? w k cs T) (hT : T ≠ U32) : Ext (fun i => i = k) w (w.setRow k cs') := by
  refine ⟨by simp, fun i _ hi => setRow_other w k i cs' hi, fun i cs2 r' => ?_⟩
  refine (setRow_other w k i cs' ?_).trans r'
  rintro rfl
  unfold Row? at r r'
  rw [r] at r'
  injection r' with r'
  injection r' with _ r'
  exact hT r'
theorem Kept.row_set {W w : World} (h : Kept W w) {k : Nat} (hk : W.heap.size ≤ k) (cs : Array Value) : Kept W (w.setRow k cs) :=
  Below.trans h ⟨rfl, rfl, rfl, by simp, fun i hi => setRow_other w k i cs (by omega)⟩
def szB (P : Program) (T : TypeId) (n : Nat) : Bool := (P.info? T).map (·.size) == some n
theorem flat_size : flatT.all (fun T => szB Try.prog T 1) = true := by kernel_rfl
theorem sz_info {T : TypeId} {n : Nat} (h : szB Try.prog T n = true) : ∃ i, Try.prog.info? T = some i ∧ i.size = n := by
  unfold szB at h
  cases e : Try.prog.info? T with
  | none => rw [e] at h; cases h
  | some i => rw [e] at h; exact ⟨i, rfl, by simpa using h⟩
theorem flat_info {T : TypeId} (h : memN T flatT = true) : ∃ i, Try.prog.info? T = some i ∧ i.size = 1 := sz_info (List.all_eq_true.1 flat_size T (memN_spec h))
theorem run_loadflat {T : TypeId} (hT : memN T flatT = true) {w : World} {p : Addr} {v : Value} (h : w.cell? p = some v) : (Instr.loadAt T (.pointer (some p))).run Try.prog w = .ok v w := by
  have hf := flat_ok hT
  cases hd : Try.prog.underlying T with
  | none => rw [hd] at hf; cases hf
  | some d =>
    rw [hd] at hf
    have ha : (isAgg T).run Try.prog w = .ok false w := by
      unfold isAgg
      rw [Sem.run_bind, run_underlying hd w]
      cases d <;> first | (cases hf; done) | rfl
    simp [Instr.loadAt, Instr.sureAddr, loadVar, ha, h]
theorem run_storeflat {T : TypeId} (hT : memN T flatT = true) {w : World} {k o : Nat} {cs : Array Value} {T' : TypeId} (r : Row? w k cs T') (ho : o < cs.size) {v : Value} (hv : v.oneCell' = true) : (Instr.storeAt T (.pointer (some ⟨k, o, none⟩)) v).run Try.prog w = .ok () (w.setRow k (seg cs o [v])) := by
  obtain ⟨i, hi, hs⟩ := flat_info hT
  have hc : v.cells = #[v] := by cases v <;> first | rfl | cases hv
  have := run_storeCells_at Try.prog k o T' [v] 0 cs w r (by simp; omega) (by simpa using hv)
  simp [Instr.storeAt, Instr.sureAddr, storeVar, sizeOf, typeInfo, hi, hs, hc, this, seg]
/-- Types of structs and arrays, read and written whole. -/
def isAggD : Option TypeDesc → Bool
  | some (.struct _) | some (.array _ _) => true
  | _ => false
theorem run_isAgg {T : TypeId} (h : isAggD (Try.prog.underlying T) = true) (w : World) : (isAgg T).run Try.prog w = .ok true w := by
  cases hd : Try.prog.underlying T with
  | none => rw [hd] at h; cases h
  | some d =>
    rw [hd] at h
    unfold isAgg
    rw [Sem.run_bind, run_underlying hd w]
    cases d <;> first | (cases h; done) | rfl
theorem run_loadagg {T : TypeId} {n : Nat} (ha : isAggD (Try.prog.underlying T) = true) (hz : szB Try.prog T n = true) {w : World} {k o : Nat} {vs : List Value} (hl : vs.length = n) (h : ∀ j v, vs[j]? = some v → w.cell? ⟨k, o + j, none⟩ = some v) : (Instr.loadAt T (.pointer (some ⟨k, o, none⟩))).run Try.prog w = .ok (.agg vs.toArray) w := by
  obtain ⟨i, hi, hs⟩ := sz_info hz
  have hc := run_loadCells_list (P := Try.prog) w ⟨k, o, none⟩ vs (fun j v hv => by rw [add_at]; exact h j v hv)
  simp [Instr.loadAt, Instr.sureAddr, loadVar, run_isAgg ha, sizeOf, typeInfo, hi, hs, ← hl, hc]
theorem run_storeagg {T : TypeId} {n : Nat} (hz : szB Try.prog T n = true) {w : World} {k o : Nat} {cs : Array Value} {T' : TypeId} (r : Row? w k cs T') {vs : Array Value} (hl : vs.size = n) (ho : o + n ≤ cs.size) (hv : ∀ v ∈ vs.toList, v.oneCell' = true) : (Instr.storeAt T (.pointer (some ⟨k, o, none⟩)) (.agg vs)).run Try.prog w = .ok () (w.setRow k (seg cs o vs.toList)) := by
  obtain ⟨i, hi, hs⟩ := sz_info hz
  have := run_storeCells_at Try.prog k o T' vs.toList 0 cs w r (by simpa [hl] using ho) hv
  simp [Instr.storeAt, Instr.sureAddr, storeVar, sizeOf, typeInfo, hi, hs, Value.cells, hl, this, seg]
theorem rt_agg : isAggD (Try.prog.underlying RT) = true := by kernel_rfl
theorem rt_sz : szB Try.prog RT 3 = true := by kernel_rfl
theorem run_loadrat {w : World} {k o : Nat} {cs : Array Value} {T : TypeId} {x y z : Value} (r : Row? w k cs T) (h0 : cs[o]? = some x) (h1 : cs[o + 1]? = some y) (h2 : cs[o + 2]? = some z) : (Instr.loadAt RT (.pointer (some ⟨k, o, none⟩))).run Try.prog w = .ok (.agg #[x, y, z]) w := by
  refine run_loadagg rt_agg rt_sz (vs := [x, y, z]) rfl (fun j v hv => ?_)
  rw [cell_of_row w k (o + j) cs T (0, 0) r]
  match j, hv with
  | 0, hv => cases hv; exact h0
  | 1, hv => cases hv; exact h1
  | 2, hv => cases hv; exact h2
  | j + 3, hv => cases hv
/-! ### What own blocks hold -/
theorem ub_at {u : Value} {k n sz size : Nat} (h : IsAt u k n sz size) : ub u = some k := by
  rcases h with ⟨rfl, _⟩ | ⟨_, rfl, _⟩ <;> rfl
theorem at_size {u : Value} {k n sz size : Nat} (h : IsAt u k n sz size) : n * sz ≤ size := by
  rcases h with ⟨_, rfl⟩ | ⟨cap, _, h, _, rfl⟩
  · exact Nat.le_refl _
  · exact Nat.mul_le_mul_right _ h
theorem rb_rats {S : Nat → Prop} {B : Nat} {β : Nat → Nat → Value} {w : World} {u : Value} {n : Nat} {f : Nat → RA} (h : RB S B β w u (.rats n f)) {k : Nat} (hk : ub u = some k) :
    ∃ cs, B ≤ k ∧ Row? w k cs RT ∧ IsAt u k n 3 cs.size ∧ ∀ i, i < n → ∃ s vn vd, cs[i * 3]? = some (.bool s) ∧ cs[i * 3 + 1]? = some vn ∧ cs[i * 3 + 2]? = some vd ∧ R3 w (f i) s vn vd := by
  rcases h with ⟨rfl, _⟩ | ⟨k', cs, h1, h2, h3, h4⟩
  · cases hk
  · have := ub_at h3; rw [hk] at this; cases this; exact ⟨cs, h1, h2, h3, h4⟩
theorem rb_ones {S : Nat → Prop} {B : Nat} {β : Nat → Nat → Value} {w : World} {u : Value} {T : TypeId} {n : Nat} {f : Nat → AV} (h : RB S B β w u (.ones T n f)) {k : Nat} (hk : ub u = some k) :
    T ≠ U32 ∧ ∃ cs, B ≤ k ∧ Row? w k cs T ∧ IsAt u k n 1 cs.size ∧ ∀ i, i < n → ∃ y, cs[i]? = some y ∧ y.oneCell' = true ∧ RV S B β w (f i) y := by
  obtain ⟨hT, h⟩ := h
  rcases h with ⟨rfl, _⟩ | ⟨k', cs, h1, h2, h3, h4⟩
  · cases hk
  · have := ub_at h3; rw [hk] at this; cases this; exact ⟨hT, cs, h1, h2, h3, h4⟩
/-! ### Loads -/
section
variable {o : Oper} {s : St}
theorem ok_load_rp {x : Operand} {r : RA} (ho : o.op = .load RT x) (hx : avo s x = some (.rp r)) : LOK Try.prog o s ⟨some (.ra r), [], []⟩ := by
  refine lok_val fun s2 hl W N β w ac hs => ?_
  obtain ⟨_, b, off, h1, _, cs, sg, vn, vd, hr, h2, h3, h4, h5⟩ := hs.opd (x := x) (by rw [hl.avo (by rw [ho]; simp [Op.operands])]; exact hx)
  exact ⟨.agg #[.bool sg, vn, vd], by unfold execOp; rw [ho]; simp only []; rw [h1]; simp [run_loadrat hr h2 h3 h4], fun z hz => by cases hz; exact ⟨trivial, _, _, _, rfl, h5⟩⟩
/-- A number's three parts, wherever they lie. -/
def pag (s : Bool) (n d : List Nat) (i : Nat) : AV := [AV.v (.bool s), .plb n, .plb d].getD i (.v undef)
theorem pag_ok (s : Bool) (n d : List Nat) (U : Nat → Bool) : ∀ i, (pag s n d i).ok U
  | 0 | 1 | 2 => trivial
  | _ + 3 => trivial
theorem PLb.one {S : Nat → Prop} {w : World} {v : Value} {l : List Nat} (h : PLb S w v l) : v.oneCell' = true := by obtain ⟨A, c, rfl, _⟩ := h; rfl
theorem pag_rv {S : Nat → Prop} {B : Nat} {β : Nat → Nat → Value} {w : World} {s : Bool} {n d : List Nat} {vn vd : Value} (h1 : PLb S w vn n) (h2 : PLb S w vd d) : RV S B β w (.ag 3 (pag s n d)) (.agg #[.bool s, vn, vd]) := by
  refine ⟨_, rfl, rfl, fun i hi => ?_⟩
  match i, hi with
  | 0, _ => exact ⟨_, rfl, rfl, rfl⟩
  | 1, _ => exact ⟨_, rfl, h1.one, h1⟩
  | 2, _ => exact ⟨_, rfl, h2.one, h2⟩
theorem ok_load_pp {x : Operand} {s' : Bool} {n d : List Nat} (ho : o.op = .load RT x) (hx : avo s x = some (.pp s' n d)) : LOK Try.prog o s ⟨some (.ag 3 (pag s' n d)), [], []⟩ := by
  refine lok_val fun s2 hl W N β w ac hs => ?_
  obtain ⟨_, b, off, h1, _, vn, vd, h2, h3, h4, h5, h6⟩ := hs.opd (x := x) (by rw [hl.avo (by rw [ho]; simp [Op.operands])]; exact hx)
  have hrun : (Instr.loadAt RT (.pointer (some ⟨b, off, none⟩))).run Try.prog w = .ok (.agg #[.bool s', vn, vd]) w :=
    run_loadagg rt_agg rt_sz (vs := [.bool s', vn, vd]) rfl (fun j v hv => by
      match j, hv with
      | 0, hv => cases hv; exact h2
      | 1, hv => cases hv; exact h3
      | 2, hv => cases hv; exact h4
      | j + 3, hv => cases hv)
  exact ⟨.agg #[.bool s', vn, vd], by unfold execOp; rw [ho]; simp only []; rw [h1]; simp [hrun], fun z hz => by cases hz; exact ⟨fun i _ => pag_ok _ _ _ _ i, pag_rv h5 h6⟩⟩
theorem ok_load_cp {x : Operand} {T : TypeId} {y : AV} (ho : o.op = .load T x) (hT : memN T flatT = true) (hx : avo s x = some (.cp y)) : LOK Try.prog o s ⟨some y, [], []⟩ := by
  refine lok_val fun s2 hl W N β w ac hs => ?_
  obtain ⟨hu, p, v, h1, _, h2, h3⟩ := hs.opd (x := x) (by rw [hl.avo (by rw [ho]; simp [Op.operands])]; exact hx)
  exact ⟨v, by unfold execOp; rw [ho]; simp only []; rw [h1]; simp [run_loadflat hT h2], fun z hz => by cases hz; exact ⟨hu, h3⟩⟩
theorem ok_load_rptr {x : Operand} {g r i n m : Nat} {F : Nat → Blk} {f : Nat → RA} (ho : o.op = .load RT x) (hx : avo s x = some (.rptr g r i)) (hg : s.heap g = some (n, F)) (hr : r < n) (hF : F r = .rats m f) (hi : i < m) : LOK Try.prog o s ⟨some (.ra (f i)), [], [g]⟩ := by
  refine lok_val fun s2 hl W N β w ac hs => ?_
  obtain ⟨_, b, hb, h1⟩ := hs.opd (x := x) (by rw [hl.avo (by rw [ho]; simp [Op.operands])]; exact hx)
  have h := (hs.heap g n F r ((hl.heap g (List.mem_singleton.2 rfl)).trans hg) hr).2
  rw [hF] at h
  obtain ⟨cs, _, hrow, _, h4⟩ := rb_rats h hb
  obtain ⟨sg, vn, vd, a0, a1, a2, a3⟩ := h4 i hi
  exact ⟨.agg #[.bool sg, vn, vd], by unfold execOp; rw [ho]; simp only []; rw [h1]; simp [run_loadrat hrow a0 a1 a2], fun z hz => by cases hz; exact ⟨trivial, _, _, _, rfl, a3⟩⟩
theorem ok_load_ptr {x : Operand} {T T' : TypeId} {g r i n m : Nat} {F : Nat → Blk} {f : Nat → AV} (ho : o.op = .load T x) (hT : memN T flatT = true) (hx : avo s x = some (.ptr g r i)) (hg : s.heap g = some (n, F)) (hr : r < n) (hF : F r = .ones T' m f) (hi : i < m) : LOK Try.prog o s ⟨some (f i), [], [g]⟩ := by
  refine lok_val fun s2 hl W N β w ac hs => ?_
  obtain ⟨_, b, hb, h1⟩ := hs.opd (x := x) (by rw [hl.avo (by rw [ho]; simp [Op.operands])]; exact hx)
  obtain ⟨hu, h⟩ := hs.heap g n F r ((hl.heap g (List.mem_singleton.2 rfl)).trans hg) hr
  rw [hF] at h hu
  obtain ⟨_, cs, _, hrow, _, h4⟩ := rb_ones h hb
  obtain ⟨y, a0, a1, a2⟩ := h4 i hi
  exact ⟨y, by unfold execOp; rw [ho]; simp only []; rw [h1]; simp [run_loadflat hT (show w.cell? ⟨b, i, none⟩ = some y by rw [cell_of_row w b i cs T' (0, 0) hrow]; exact a0)], fun z hz => by cases hz; exact ⟨hu i hi, a2⟩⟩
theorem ok_load_ptr3 {x : Operand} {T' : TypeId} {g r i n m : Nat} {F : Nat → Blk} {f : Nat → AV} {q : RA} (ho : o.op = .load RT x) (hx : avo s x = some (.ptr g r i)) (hg : s.heap g = some (n, F)) (hr : r < n) (hF : F r = .ones T' m f) (hi : i + 2 < m) (h0 : f i = .rs q) (h1 : f (i + 1) = .rn q) (h2 : f (i + 2) = .rd q) : LOK Try.prog o s ⟨some (.ra q), [], [g]⟩ := by
  refine lok_val fun s2 hl W N β w ac hs => ?_
  obtain ⟨_, b, hb, e1⟩ := hs.opd (x := x) (by rw [hl.avo (by rw [ho]; simp [Op.operands])]; exact hx)
  obtain ⟨hu, h⟩ := hs.heap g n F r ((hl.heap g (List.mem_singleton.2 rfl)).trans hg) hr
  rw [hF] at h hu
  obtain ⟨_, cs, _, hrow, _, h4⟩ := rb_ones h hb
  obtain ⟨y0, a0, _, b0⟩ := h4 i (by omega)
  obtain ⟨y1, a1, _, b1⟩ := h4 (i + 1) (by omega)
  obtain ⟨y2, a2, _, b2⟩ := h4 (i + 2) hi
  rw [h0] at b0; rw [h1] at b1; rw [h2] at b2
  have b0 : y0 = .bool q.sgn := b0
  subst b0
  exact ⟨.agg #[.bool q.sgn, y1, y2], by unfold execOp; rw [ho]; simp only []; rw [e1]; simp [run_loadrat hrow a0 a1 a2], fun z hz => by cases hz; exact ⟨trivial, _, _, _, rfl, rfl, b1, b2⟩⟩
theorem ok_load_agg {x : Operand} {T T' : TypeId} {g r n m : Nat} {F : Nat → Blk} {f : Nat → AV} (ho : o.op = .load T x) (ha : isAggD (Try.prog.underlying T) = true) (hz : szB Try.prog T m = true) (hx : avo s x = some (.ptr g r 0)) (hg : s.heap g = some (n, F)) (hr : r < n) (hF : F r = .ones T' m f) : LOK Try.prog o s ⟨some (.ag m f), [], [g]⟩ := by
  refine lok_val fun s2 hl W N β w ac hs => ?_
  obtain ⟨_, b, hb, e1⟩ := hs.opd (x := x) (by rw [hl.avo (by rw [ho]; simp [Op.operands])]; exact hx)
  obtain ⟨hu, h⟩ := hs.heap g n F r ((hl.heap g (List.mem_singleton.2 rfl)).trans hg) hr
  rw [hF] at h hu
  obtain ⟨_, cs, _, hrow, hat, h4⟩ := rb_ones h hb
  have hm : m ≤ cs.size := by have := at_size hat; omega
  refine ⟨.agg (cs.toList.take m).toArray, ?_, fun z hz => ?_⟩
  · unfold execOp; rw [ho]; simp only []; rw [e1]
    have := run_loadagg ha hz (w := w) (k := b) (o := 0) (vs := cs.toList.take m) (by simp; omega) (fun j v hv => by
      rw [Nat.zero_add, cell_of_row w b j cs T' (0, 0) hrow]
      rw [List.getElem?_take] at hv
      split at hv
      · rw [← hv, Array.getElem?_toList]
      · cases hv)
    simp [this]
  · cases hz
    refine ⟨hu, _, rfl, by simp; omega, fun i hi => ?_⟩
    obtain ⟨y, a0, a1, a2⟩ := h4 i hi
    exact ⟨y, by rw [List.getElem?_toArray, List.getElem?_take_of_lt hi, Array.getElem?_toList]; exact a0, a1, a2⟩
/-- A field of a number. -/
def RA.field (q : RA) : Nat → AV
  | 0 => .v (.bool q.sgn)
  | 1 => match q with | .q p => .nat (nm p) | .raw _ n _ => .lb n
  | _ => match q with | .q p => .nat p.den | .raw _ _ d => .lb d
theorem field_rv {S : Nat → Prop} {B : Nat} {β : Nat → Nat → Value} {w : World} {q : RA} {sg : Bool} {vn vd : Value} (h : R3 w q sg vn vd) {j : Nat} (hj : j < 3) {v : Value} (hv : #[.bool sg, vn, vd][j]? = some v) : RV S B β w (q.field j) v := by
  match j, hj with
  | 0, _ => cases hv; exact congrArg Value.bool h.1
  | 1, _ => cases hv; cases q <;> exact h.2.1
  | 2, _ => cases hv; cases q <;> exact h.2.2
theorem field_ok (U : Nat → Bool) (q : RA) : ∀ j, (q.field j).ok U
  | 0 => trivial
  | 1 => by cases q <;> trivial
  | j + 2 => by cases q <;> trivial
theorem ok_load_fld {x : Operand} {T : TypeId} {g r i j n m : Nat} {F : Nat → Blk} {f : Nat → RA} (ho : o.op = .load T x) (hT : memN T flatT = true) (hx : avo s x = some (.fld g r i j)) (hg : s.heap g = some (n, F)) (hr : r < n) (hF : F r = .rats m f) (hi : i < m) (hj : j < 3) : LOK Try.prog o s ⟨some ((f i).field j), [], [g]⟩ := by
  refine lok_val fun s2 hl W N β w ac hs => ?_
  obtain ⟨_, b, hb, h1⟩ := hs.opd (x := x) (by rw [hl.avo (by rw [ho]; simp [Op.operands])]; exact hx)
  have h := (hs.heap g n F r ((hl.heap g (List.mem_singleton.2 rfl)).trans hg) hr).2
  rw [hF] at h
  obtain ⟨cs, _, hrow, _, h4⟩ := rb_rats h hb
  obtain ⟨sg, vn, vd, a0, a1, a2, a3⟩ := h4 i hi
  obtain ⟨v, hv, hc⟩ : ∃ v, #[Value.bool sg, vn, vd][j]? = some v ∧ cs[i * 3 + j]? = some v := by
    match j, hj with
    | 0, _ => exact ⟨_, rfl, a0⟩
    | 1, _ => exact ⟨_, rfl, a1⟩
    | 2, _ => exact ⟨_, rfl, a2⟩
  exact ⟨v, by unfold execOp; rw [ho]; simp only []; rw [h1]; simp [run_loadflat hT (show w.cell? ⟨b, i * 3 + j, none⟩ = some v by rw [cell_of_row w b _ cs RT (0, 0) hrow]; exact hc)], fun z hz => by cases hz; exact ⟨field_ok _ _ _, field_rv a3 hj hv⟩⟩
end
/-! ### Stores -/
theorem lok_turn {P : Program} {o : Oper} {s : St} {g n r : Nat} {F F' : Nat → Blk} {rd : List Nat} (hd : o.dst = none) (hg : s.heap g = some (n, F)) (hr : r < n) (hrd : g ∈ rd) (hF : ∀ r', r' < n → r' ≠ r → F' r' = F r')
    (h : ∀ s2, Like o rd s s2 → ∀ W N β w a, Sim W N β w a s2 → s2.heap g = some (n, F) → ∃ w', (execOp a.eval o).run P w = .ok .skip w' ∧ Ext (fun i => ub (β g r) = some i) w w' ∧ Kept W.w w' ∧ (F' r).ok s2.used ∧ RB (notOwn W s2 β) W.w.heap.size β w' (β g r) (F' r)) : LOK P o s ⟨none, [(g, some (n, F'))], rd⟩ := by
  refine ⟨fun g' hb hn => ?_, fun s2 h1 h2 h3 _ W N β w a hs hN K Q hK => ?_⟩
  · obtain ⟨b, hb⟩ := hb
    simp only [List.mem_singleton, Prod.mk.injEq] at hb
    exact absurd hrd (by rw [← hb.1]; exact hn)
  · have hg2 := (h2 g hrd).trans hg
    obtain ⟨w', hrun, he, hk, hok, hrb⟩ := h s2 ⟨h1, h2⟩ W N β w a hs hg2
    unfold Oper.wp
    rw [hrun]
    refine hK β _ w' ?_
    rw [hd]
    exact hs.turnfam hg2 hr he hk hF ⟨hok, hrb⟩
def updN {α : Type} (f : Nat → α) (i : Nat) (x : α) : Nat → α := fun j => if j = i then x else f j
theorem updN_same {α : Type} (f : Nat → α) (i : Nat) (x : α) : updN f i x i = x := if_pos rfl
theorem updN_ne {α : Type} (f : Nat → α) {i j : Nat} (x : α) (h : j ≠ i) : updN f i x j = f j := if_neg h
section
variable {o : Oper} {s : St}
theorem ok_store_rptr {x y : Operand} {g r i n m : Nat} {F : Nat → Blk} {f : Nat → RA} {q : RA} (hd : o.dst = none) (ho : o.op = .store RT x y) (hx : avo s x = some (.rptr g r i)) (hy : avo s y = some (.ra q)) (hg : s.heap g = some (n, F)) (hr : r < n) (hF : F r = .rats m f) (hi : i < m) :
    LOK Try.prog o s ⟨none, [(g, some (n, updN F r (.rats m (updN f i q))))], [g]⟩ := by
  refine lok_turn hd hg hr (List.mem_singleton.2 rfl) (fun r' _ hne => updN_ne _ _ hne) fun s2 hl W N β w ac hs hg2 => ?_
  obtain ⟨_, b, hb, h1⟩ := hs.opd (x := x) (by rw [hl.avo (by rw [ho]; simp [Op.operands])]; exact hx)
  obtain ⟨_, sg, vn, vd, h2, h3⟩ := hs.opd (x := y) (by rw [hl.avo (by rw [ho]; simp [Op.operands])]; exact hy)
  have h := (hs.heap g n F r hg2 hr).2
  rw [hF] at h
  obtain ⟨cs, hB, hrow, hat, h4⟩ := rb_rats h hb
  have hsz := at_size hat
  have hfit : i * 3 + 3 ≤ cs.size := by have := Nat.mul_le_mul_right 3 (show i + 1 ≤ m by omega); omega
  have he : Ext (fun j => j = b) w (w.setRow b (seg cs (i * 3) [.bool sg, vn, vd])) := Ext.row_set hrow (by decide)
  have hrun := run_storeagg rt_sz hrow (vs := #[.bool sg, vn, vd]) rfl hfit (fun v hv => by
      simp at hv
      rcases hv with rfl | rfl | rfl
      · rfl
      · exact rn_one h3.2.1
      · exact rd_one h3.2.2)
  refine ⟨_, by unfold execOp; rw [ho]; simp only []; rw [h1, h2]; simp only [Sem.run_bind, hrun]; rfl, he.mono (fun j hj => by rw [hj]; exact hb), Kept.row_set hs.kept hB _, by rw [updN_same]; trivial, ?_⟩
  rw [updN_same]
  refine .inr ⟨b, _, hB, setRow_heap w b cs _ RT _ hrow, by rw [seg_size (by simpa using hfit)]; exact hat, fun j hj => ?_⟩
  by_cases e : j = i
  · subst e
    rw [updN_same]
    refine ⟨sg, vn, vd, ?_, ?_, ?_, r3_ext h3 he⟩
    · exact seg_in (vs := [.bool sg, vn, vd]) (j := 0) (by simpa using hfit) (by simp)
    · exact seg_in (vs := [.bool sg, vn, vd]) (j := 1) (by simpa using hfit) (by simp)
    · exact seg_in (vs := [.bool sg, vn, vd]) (j := 2) (by simpa using hfit) (by simp)
  · rw [updN_ne _ _ e]
    obtain ⟨s0, n0, d0, a0, a1, a2, a3⟩ := h4 j hj
    have hout : ∀ t, t < 3 → (seg cs (i * 3) [.bool sg, vn, vd])[j * 3 + t]? = cs[j * 3 + t]? := fun t ht => seg_out (by simpa using hfit) (by simp; omega)
    exact ⟨s0, n0, d0, (hout 0 (by omega)).trans a0, (hout 1 (by omega)).trans a1, (hout 2 (by omega)).trans a2, r3_ext a3 he⟩
theorem ok_store_ptr {x y : Operand} {T T' : TypeId} {g r i n m : Nat} {F : Nat → Blk} {f : Nat → AV} {z : AV} (hd : o.dst = none) (ho : o.op = .store T x y) (hT : memN T flatT = true) (hx : avo s x = some (.ptr g r i)) (hy : avo s y = some z) (hz : z.one = true) (hg : s.heap g = some (n, F)) (hr : r < n) (hF : F r = .ones T' m f) (hi : i < m) :
    LOK Try.prog o s ⟨none, [(g, some (n, updN F r (.ones T' m (updN f i z))))], [g]⟩ := by
  refine lok_turn hd hg hr (List.mem_singleton.2 rfl) (fun r' _ hne => updN_ne _ _ hne) fun s2 hl W N β w ac hs hg2 => ?_
  obtain ⟨_, b, hb, h1⟩ := hs.opd (x := x) (by rw [hl.avo (by rw [ho]; simp [Op.operands])]; exact hx)
  have h2 := hs.opd (x := y) (by rw [hl.avo (by rw [ho]; simp [Op.operands])]; exact hy)
  obtain ⟨hu, h⟩ := hs.heap g n F r hg2 hr
  rw [hF] at h hu
  obtain ⟨hT', cs, hB, hrow, hat, h4⟩ := rb_ones h hb
  have hsz := at_size hat
  have he : Ext (fun j => j = b) w (w.setRow b (seg cs i [ac.eval y])) := Ext.row_set hrow hT'
  have hv := RV.one hz h2.2
  have kf : Fwd (notOwn W s2 β) (notOwn W s2 β) W.w.heap.size W.w.heap.size s2.used β β (fun j => j = b) w (w.setRow b (seg cs i [ac.eval y])) := ⟨he, fun j hj e => hj.2 (by rw [e]; exact ⟨g, n, F, r, hg2, hr, hb⟩), fun _ h _ => h, Nat.le_refl _, fun _ _ _ => rfl⟩
  have hrun := run_storeflat hT hrow (by omega : i < cs.size) hv
  refine ⟨_, by unfold execOp; rw [ho]; simp only []; rw [h1]; simp only [Sem.run_bind, hrun]; rfl, he.mono (fun j hj => by rw [hj]; exact hb), Kept.row_set hs.kept hB _, ?_, ?_⟩
  · rw [updN_same]
    intro j hj
    by_cases e : j = i
    · rw [e, updN_same]; exact h2.1
    · rw [updN_ne _ _ e]; exact hu j hj
  rw [updN_same]
  refine ⟨hT', .inr ⟨b, _, hB, setRow_heap w b cs _ T' _ hrow, by rw [seg_size (by simp; omega)]; exact hat, fun j hj => ?_⟩⟩
  by_cases e : j = i
  · subst e
    rw [updN_same]
    exact ⟨ac.eval y, seg_in (vs := [ac.eval y]) (j := 0) (by simp; omega) (by simp), hv, h2.2.fwd kf h2.1⟩
  · rw [updN_ne _ _ e]
    obtain ⟨y0, a0, a1, a2⟩ := h4 j hj
    exact ⟨y0, (seg_out (by simp; omega) (by simp; omega)).trans a0, a1, a2.fwd kf (hu j hj)⟩
def upd3 (f : Nat → AV) (i : Nat) (q : RA) : Nat → AV := updN (updN (updN f i (.rs q)) (i + 1) (.rn q)) (i + 2) (.rd q)
theorem ok_store_ptr3 {x y : Operand} {T' : TypeId} {g r i n m : Nat} {F : Nat → Blk} {f : Nat → AV} {q : RA} (hd : o.dst = none) (ho : o.op = .store RT x y) (hx : avo s x = some (.ptr g r i)) (hy : avo s y = some (.ra q)) (hg : s.heap g = some (n, F)) (hr : r < n) (hF : F r = .ones T' m f) (hi : i + 2 < m) :
    LOK Try.prog o s ⟨none, [(g, some (n, updN F r (.ones T' m (upd3 f i q))))], [g]⟩ := by
  refine lok_turn hd hg hr (List.mem_singleton.2 rfl) (fun r' _ hne => updN_ne _ _ hne) fun s2 hl W N β w ac hs hg2 => ?_
  obtain ⟨_, b, hb, h1⟩ := hs.opd (x := x) (by rw [hl.avo (by rw [ho]; simp [Op.operands])]; exact hx)
  obtain ⟨_, sg, vn, vd, h2, h3⟩ := hs.opd (x := y) (by rw [hl.avo (by rw [ho]; simp [Op.operands])]; exact hy)
  obtain ⟨hu, h⟩ := hs.heap g n F r hg2 hr
  rw [hF] at h hu
  obtain ⟨hT', cs, hB, hrow, hat, h4⟩ := rb_ones h hb
  have hsz := at_size hat
  have hfit : i + 3 ≤ cs.size := by omega
  have he : Ext (fun j => j = b) w (w.setRow b (seg cs i [.bool sg, vn, vd])) := Ext.row_set hrow hT'
  have kf : Fwd (notOwn W s2 β) (notOwn W s2 β) W.w.heap.size W.w.heap.size s2.used β β (fun j => j = b) w (w.setRow b (seg cs i [.bool sg, vn, vd])) := ⟨he, fun j hj e => hj.2 (by rw [e]; exact ⟨g, n, F, r, hg2, hr, hb⟩), fun _ h _ => h, Nat.le_refl _, fun _ _ _ => rfl⟩
  have hrun := run_storeagg rt_sz hrow (vs := #[.bool sg, vn, vd]) rfl hfit (fun v hv => by
      simp at hv
      rcases hv with rfl | rfl | rfl
      · rfl
      · exact rn_one h3.2.1
      · exact rd_one h3.2.2)
  refine ⟨_, by unfold execOp; rw [ho]; simp only []; rw [h1, h2]; simp only [Sem.run_bind, hrun]; rfl, he.mono (fun j hj => by rw [hj]; exact hb), Kept.row_set hs.kept hB _, ?_, ?_⟩
  · rw [updN_same]
    intro j hj
    unfold upd3
    by_cases e2 : j = i + 2
    · rw [e2, updN_same]; trivial
    · rw [updN_ne _ _ e2]
      by_cases e1 : j = i + 1
      · rw [e1, updN_same]; trivial
      · rw [updN_ne _ _ e1]
        by_cases e : j = i
        · rw [e, updN_same]; trivial
        · rw [updN_ne _ _ e]; exact hu j hj
  rw [updN_same]
  refine ⟨hT', .inr ⟨b, _, hB, setRow_heap w b cs _ T' _ hrow, by rw [seg_size (by simpa using hfit)]; exact hat, fun j hj => ?_⟩⟩
  unfold upd3
  by_cases e2 : j = i + 2
  · subst e2; rw [updN_same]
    exact ⟨vd, seg_in (vs := [.bool sg, vn, vd]) (j := 2) (by simpa using hfit) (by simp), rd_one h3.2.2, rd_ext h3.2.2 he⟩
  · rw [updN_ne _ _ e2]
    by_cases e1 : j = i + 1
    · subst e1; rw [updN_same]
      exact ⟨vn, seg_in (vs := [.bool sg, vn, vd]) (j := 1) (by simpa using hfit) (by simp), rn_one h3.2.1, rn_ext h3.2.1 he⟩
    · rw [updN_ne _ _ e1]
      by_cases e : j = i
      · subst e; rw [updN_same]
        exact ⟨.bool sg, seg_in (vs := [.bool sg, vn, vd]) (j := 0) (by simpa using hfit) (by simp), rfl, congrArg Value.bool h3.1⟩
      · rw [updN_ne _ _ e]
        obtain ⟨y0, a0, a1, a2⟩ := h4 j hj
        exact ⟨y0, (seg_out (by simpa using hfit) (by simp; omega)).trans a0, a1, a2.fwd kf (hu j hj)⟩
theorem ok_store_agg {x y : Operand} {T T' : TypeId} {g r n m : Nat} {F : Nat → Blk} {f f' : Nat → AV} (hd : o.dst = none) (ho : o.op = .store T x y) (hz : szB Try.prog T m = true) (hx : avo s x = some (.ptr g r 0)) (hy : avo s y = some (.ag m f')) (hg : s.heap g = some (n, F)) (hr : r < n) (hF : F r = .ones T' m f) :
    LOK Try.prog o s ⟨none, [(g, some (n, updN F r (.ones T' m f')))], [g]⟩ := by
  refine lok_turn hd hg hr (List.mem_singleton.2 rfl) (fun r' _ hne => updN_ne _ _ hne) fun s2 hl W N β w ac hs hg2 => ?_
  obtain ⟨_, b, hb, h1⟩ := hs.opd (x := x) (by rw [hl.avo (by rw [ho]; simp [Op.operands])]; exact hx)
  obtain ⟨hok, vs, h2, h3, h5⟩ := hs.opd (x := y) (by rw [hl.avo (by rw [ho]; simp [Op.operands])]; exact hy)
  obtain ⟨hu, h⟩ := hs.heap g n F r hg2 hr
  rw [hF] at h hu
  obtain ⟨hT', cs, hB, hrow, hat, h4⟩ := rb_ones h hb
  have hsz := at_size hat
  have hfit : 0 + m ≤ cs.size := by omega
  have he : Ext (fun j => j = b) w (w.setRow b (seg cs 0 vs.toList)) := Ext.row_set hrow hT'
  have kf : Fwd (notOwn W s2 β) (notOwn W s2 β) W.w.heap.size W.w.heap.size s2.used β β (fun j => j = b) w (w.setRow b (seg cs 0 vs.toList)) := ⟨he, fun j hj e => hj.2 (by rw [e]; exact ⟨g, n, F, r, hg2, hr, hb⟩), fun _ h _ => h, Nat.le_refl _, fun _ _ _ => rfl⟩
  have hrun := run_storeagg hz hrow h3 hfit (fun v hv => by
      obtain ⟨i, hi, e⟩ := List.mem_iff_getElem.1 hv
      have hi' : i < vs.size := by simpa using hi
      obtain ⟨y, a0, a1, _⟩ := h5 i (by omega)
      rw [Array.getElem?_eq_getElem hi'] at a0
      cases a0
      have e : vs[i] = v := by simpa using e
      rw [← e]; exact a1)
  refine ⟨_, by unfold execOp; rw [ho]; simp only []; rw [h1, h2]; simp only [Sem.run_bind, hrun]; rfl, he.mono (fun j hj => by rw [hj]; exact hb), Kept.row_set hs.kept hB _, by rw [updN_same]; exact hok, ?_⟩
  rw [updN_same]
  refine ⟨hT', .inr ⟨b, _, hB, setRow_heap w b cs _ T' _ hrow, by rw [seg_size (by simp; omega)]; exact hat, fun j hj => ?_⟩⟩
  obtain ⟨y, a0, a1, a2⟩ := h5 j hj
  refine ⟨y, ?_, a1, a2.fwd kf (hok j hj)⟩
  have := seg_in (cs := cs) (o := 0) (vs := vs.toList) (by simp; omega) (j := j) (by simp; omega)
  rw [Nat.zero_add, Array.getElem?_toList] at this
  exact this.trans a0
end
end Go.Proofs.Ytpclkgjhfhhddaa.AM
/- What operations do that make memory. -/
namespace Go.Proofs.Ytpclkgjhfhhddaa.AM
open Go Go.RowKit Go.Proofs.Ytpclkgjhfhhddaa.PN Go.Proofs.Ytpclkgjhfhhddaa.V
set_option linter.unusedVariables false
set_option linter.unusedSimpArgs false
/-- What stands for a new block. -/
inductive Hd (g : Nat) (u : Value) : AV → Prop where
  | own {A : Option Addr} {n c : Nat} (h : u = .slice A n c) : Hd g u (.own g 0)
  | ownx {A : Option Addr} {n : Nat} (h : u = .slice A n n) : Hd g u (.ownx g 0)
  | ptr {k : Nat} (h : u = .pointer (some ⟨k, 0, none⟩)) : Hd g u (.ptr g 0 0)
  | rptr {k : Nat} (h : u = .pointer (some ⟨k, 0, none⟩)) : Hd g u (.rptr g 0 0)
theorem lok_newfam {P : Program} {o : Oper} {s : St} {g : Nat} (old : Option Nat) {b : Blk} {x : AV} {rd : List Nat} (hg : s.used g = false) (hgr : g ∉ rd) (hold : ∀ q, old = some q → q ∈ rd ∧ s.used q = true)
    (h : ∀ s2, Like o rd s s2 → ∀ W N β w a, Sim W N β w a s2 → ∃ u w' O, (execOp a.eval o).run P w = .ok (.value u) w' ∧ Kept W.w w' ∧ Ext O w w' ∧
      (∀ i, O i → ∃ q n F r, old = some q ∧ s2.heap q = some (n, F) ∧ r < n ∧ ub (β q r) = some i) ∧
      (∀ i, ub u = some i → w.heap.size ≤ i ∨ ∃ q n F r, old = some q ∧ s2.heap q = some (n, F) ∧ r < n ∧ ub (β q r) = some i) ∧
      (∀ S' β', Fwd (notOwn W s2 β) S' W.w.heap.size W.w.heap.size s2.used β β' O w w' → b.ok s2.used ∧ RB S' W.w.heap.size β' w' u b) ∧ Hd g u x) :
    LOK P o s ⟨some x, gone old ++ [(g, some (1, fun _ => b))], rd⟩ := by
  refine ⟨fun g' hb hn => ?_, fun s2 h1 h2 h3 h4 W N β w a hs hN K Q hK => ?_⟩
  · obtain ⟨b', hb⟩ := hb
    rcases List.mem_append.1 hb with hb | hb
    · cases old with
      | none => cases hb
      | some q =>
        simp only [gone, List.mem_singleton, Prod.mk.injEq] at hb
        exact absurd (hold q rfl).1 (by rw [← hb.1]; exact hn)
    · simp only [List.mem_singleton, Prod.mk.injEq] at hb
      rw [hb.1]; exact hg
  · obtain ⟨u, w', O, hrun, hk, he, hO, hu, hb, hx⟩ := h s2 ⟨h1, h2⟩ W N β w a hs
    have hg2 := h4 g ⟨_, List.mem_append_right _ (List.mem_singleton.2 rfl)⟩ hgr
    have hs' := hs.newfam hg2 old (fun q hq => h3 q (hold q hq).1 (hold q hq).2) u b hk he hO hu hb
    unfold Oper.wp
    rw [hrun]
    have hs'' := hs'.putv (v := u) (r := some x) hN (fun z hz _ => by
      cases hz
      have husd : (turn s2 (gone old ++ [(g, some (1, fun _ => b))])).used g = true := by
        cases old with
        | none => exact mark_same _ _
        | some q => exact mark_same _ _
      have hv : setv β g u g 0 = u := if_pos rfl
      cases hx with
      | own e => exact ⟨husd, hv.symm, _, _, _, e⟩
      | ownx e => exact ⟨husd, hv.symm, _, _, e⟩
      | ptr e => subst e; exact ⟨husd, _, by rw [hv]; rfl, rfl⟩
      | rptr e => subst e; exact ⟨husd, _, by rw [hv]; rfl, by simp⟩)
    refine hK (setv β g u) _ w' ?_
    cases hd : o.dst with
    | none => rw [hd] at hs''; exact hs''
    | some t =>
      rw [hd] at hs''
      have e : (s2.app (some t) ⟨some x, gone old ++ [(g, some (1, fun _ => b))], rd⟩) = (turn s2 (gone old ++ [(g, some (1, fun _ => b))])).app (some t) ⟨some x, [], []⟩ := by
        show setE _ _ = setE _ _
        rw [turn_env]; rfl
      rw [e]
      exact hs''
/-- A new block, and nothing else. -/
theorem lok_fresh {P : Program} {o : Oper} {s : St} {g : Nat} {b : Blk} {x : AV} {rd : List Nat} (hg : s.used g = false) (hgr : g ∉ rd)
    (h : ∀ s2, Like o rd s s2 → ∀ W N β w a, Sim W N β w a s2 → ∃ u cs T, (execOp a.eval o).run P w = .ok (.value u) (w.alloc (.cells cs T)) ∧ ub u = some w.heap.size ∧ b.ok s2.used ∧
      (∀ S' β' O, Fwd (notOwn W s2 β) S' W.w.heap.size W.w.heap.size s2.used β β' O w (w.alloc (.cells cs T)) → Row? (w.alloc (.cells cs T)) w.heap.size cs T → W.w.heap.size ≤ w.heap.size → RB S' W.w.heap.size β' (w.alloc (.cells cs T)) u b) ∧ Hd g u x) :
    LOK P o s ⟨some x, [(g, some (1, fun _ => b))], rd⟩ := by
  refine lok_newfam none hg hgr (fun q hq => by cases hq) fun s2 hl W N β w a hs => ?_
  obtain ⟨u, cs, T, hrun, hu, hok, hb, hx⟩ := h s2 hl W N β w a hs
  have hk := Kept.alloc w (.cells cs T)
  exact ⟨u, _, fun _ => False, hrun, hs.kept.then hk, Ext.of_kept hk _, fun i hi => hi.elim, fun i hi => .inl (by rw [hu] at hi; cases hi; exact Nat.le_refl _),
    fun S' β' hf => ⟨hok, hb S' β' _ hf (row_new w cs T) hs.kept.size⟩, hx⟩
/-! ### Variables -/
/-- A type's nought, cell by cell. -/
def isZero (P : Program) (T : TypeId) (l : List Value) : Prop := ∃ i z, P.info? T = some i ∧ i.zero = some z ∧ z.cells = l.toArray
theorem rt_info : (Try.prog.info? RT).map (fun i => (i.zero, i.size, i.bytes)) = some (some (.agg #[.bool false, .slice none 0 0, .slice none 0 0]), 3, 56) := by kernel_rfl
theorem zero_rat : isZero Try.prog RT [.bool false, .slice none 0 0, .slice none 0 0] := by
  obtain ⟨i0, hi, hz0, _, _⟩ := info_parts rt_info
  exact ⟨i0, _, hi, hz0, rfl⟩
theorem run_alloc {T : TypeId} {l : List Value} (h : isZero Try.prog T l) (w : World) : (Instr.alloc T true (.tuple #[])).run Try.prog w = .ok (.pointer (some ⟨w.heap.size, 0, none⟩)) (w.alloc (.cells l.toArray T)) := by
  obtain ⟨i, z, hi, hz, hc⟩ := h
  simp [Instr.alloc, zeroValue, typeInfo, hi, hz, newVar, newRow, hc]
theorem run_box (T : TypeId) (v : Value) (w : World) : (Instr.box T v).run Try.prog w = .ok (.pointer (some ⟨w.heap.size, 0, none⟩)) (w.alloc (.cells v.cells T)) := by
  simp [Instr.box, newVar, newRow]
theorem dg_nil (w : World) : Lbs w (.slice none 0 0) [] := ⟨none, 0, rfl, Nat.le_refl _, fun i hi => absurd hi (Nat.not_lt_zero _)⟩
def ra0 : RA := .raw false [] []
theorem r3_ra0 (w : World) : R3 w ra0 false (.slice none 0 0) (.slice none 0 0) := ⟨rfl, dg_nil w, dg_nil w⟩
section
variable {o : Oper} {s : St}
theorem ok_alloc_rat {g : Nat} (ho : o.op = .alloc RT) (hg : s.used g = false) : LOK Try.prog o s ⟨some (.rptr g 0 0), [(g, some (1, fun _ => .rats 1 (fun _ => ra0)))], []⟩ := by
  refine lok_fresh hg (by simp) fun s2 hl W N β w a hs => ⟨.pointer (some ⟨w.heap.size, 0, none⟩), _, RT, by unfold execOp; rw [ho]; simp only [Sem.run_bind, run_alloc zero_rat]; rfl, rfl, trivial, fun S' β' O hf hr hB => .inr ⟨_, _, hB, hr, .inl ⟨rfl, rfl⟩, fun i hi => ?_⟩, .rptr rfl⟩
  obtain rfl : i = 0 := by omega
  exact ⟨false, _, _, rfl, rfl, rfl, r3_ra0 _⟩
theorem ok_alloc_ones {T : TypeId} {g n : Nat} {l : List Value} (ho : o.op = .alloc T) (hg : s.used g = false) (hz : isZero Try.prog T l) (hT : T ≠ U32) (h1 : l.all (·.oneCell') = true) (hn : l.length = n) :
    LOK Try.prog o s ⟨some (.ptr g 0 0), [(g, some (1, fun _ => .ones T n (fun i => .v (l.getD i undef))))], []⟩ := by
  refine lok_fresh hg (by simp) fun s2 hl W N β w a hs => ⟨.pointer (some ⟨w.heap.size, 0, none⟩), _, T, by unfold execOp; rw [ho]; simp only [Sem.run_bind, run_alloc hz]; rfl, rfl, fun _ _ => trivial, fun S' β' O hf hr hB => ⟨hT, .inr ⟨_, _, hB, hr, .inl ⟨rfl, by simp [hn]⟩, fun i hi => ?_⟩⟩, .ptr rfl⟩
  have hi' : i < l.length := by omega
  refine ⟨l[i], by simp [hi'], List.all_eq_true.1 h1 _ (List.getElem_mem hi'), ?_⟩
  show l[i] = l.getD i undef
  simp [hi']
theorem ok_box_rat {x : Operand} {g : Nat} {q : RA} (ho : o.op = .box RT x) (hx : avo s x = some (.ra q)) (hg : s.used g = false) : LOK Try.prog o s ⟨some (.rptr g 0 0), [(g, some (1, fun _ => .rats 1 (fun _ => q)))], []⟩ := by
  refine lok_fresh hg (by simp) fun s2 hl W N β w a hs => ?_
  obtain ⟨_, sg, vn, vd, h1, h2⟩ := hs.opd (x := x) (by rw [hl.avo (by rw [ho]; simp [Op.operands])]; exact hx)
  refine ⟨.pointer (some ⟨w.heap.size, 0, none⟩), #[.bool sg, vn, vd], RT, by unfold execOp; rw [ho]; simp only []; rw [h1]; simp only [Sem.run_bind, run_box]; rfl, rfl, trivial, fun S' β' O hf hr hB => .inr ⟨_, _, hB, hr, .inl ⟨rfl, rfl⟩, fun i hi => ?_⟩, .rptr rfl⟩
  obtain rfl : i = 0 := by omega
  exact ⟨sg, vn, vd, rfl, rfl, rfl, r3_ext h2 hf.ext⟩
theorem ok_box_one {x : Operand} {T : TypeId} {g : Nat} {y : AV} (ho : o.op = .box T x) (hx : avo s x = some y) (hy : y.one = true) (hT : T ≠ U32) (hg : s.used g = false) : LOK Try.prog o s ⟨some (.ptr g 0 0), [(g, some (1, fun _ => .ones T 1 (fun _ => y)))], []⟩ := by
  refine lok_fresh hg (by simp) fun s2 hl W N β w a hs => ?_
  have h := hs.opd (x := x) (by rw [hl.avo (by rw [ho]; simp [Op.operands])]; exact hx)
  have hv := RV.one hy h.2
  have hc : (a.eval x).cells = #[a.eval x] := by cases e : a.eval x <;> first | rfl | (rw [e] at hv; cases hv)
  refine ⟨.pointer (some ⟨w.heap.size, 0, none⟩), _, T, by unfold execOp; rw [ho]; simp only [Sem.run_bind, run_box]; rfl, rfl, fun _ _ => h.1, fun S' β' O hf hr hB => ⟨hT, .inr ⟨_, _, hB, hr, .inl ⟨rfl, by rw [hc]; rfl⟩, fun i hi => ?_⟩⟩, .ptr rfl⟩
  obtain rfl : i = 0 := by omega
  exact ⟨a.eval x, by rw [hc]; rfl, hv, h.2.fwd hf h.1⟩
theorem ok_box_agg {x : Operand} {T : TypeId} {g n : Nat} {f : Nat → AV} (ho : o.op = .box T x) (hx : avo s x = some (.ag n f)) (hT : T ≠ U32) (hg : s.used g = false) : LOK Try.prog o s ⟨some (.ptr g 0 0), [(g, some (1, fun _ => .ones T n f))], []⟩ := by
  refine lok_fresh hg (by simp) fun s2 hl W N β w a hs => ?_
  obtain ⟨hok, cs, h1, h2, h3⟩ := hs.opd (x := x) (by rw [hl.avo (by rw [ho]; simp [Op.operands])]; exact hx)
  refine ⟨.pointer (some ⟨w.heap.size, 0, none⟩), cs, T, by unfold execOp; rw [ho]; simp only []; rw [h1]; simp only [Sem.run_bind, run_box]; rfl, rfl, hok, fun S' β' O hf hr hB => ⟨hT, .inr ⟨_, _, hB, hr, .inl ⟨rfl, by rw [h2, Nat.mul_one]⟩, fun i hi => ?_⟩⟩, .ptr rfl⟩
  obtain ⟨y, a0, a1, a2⟩ := h3 i hi
  exact ⟨y, a0, a1, a2.fwd hf (hok i hi)⟩
/-! ### Slices that are made -/
theorem wt_u : Try.prog.underlying WT = some (.slice RT) := Try.underlying24
theorem made_get {z : Array Value} {n i : Nat} (h : i < n) (hz : 0 < z.size) : (madeCells z n)[i]? = z[i % z.size]? := by
  unfold madeCells
  have hm := Nat.mod_lt i hz
  simp [h, getElem!_pos z (i % z.size) hm]
theorem made3 {x y z : Value} {n i j : Nat} (h : i < n) (hj : j < 3) : (madeCells #[x, y, z] (n * 3))[i * 3 + j]? = #[x, y, z][j]? := by
  have e : (i * 3 + j) % #[x, y, z].size = j := by
    have : #[x, y, z].size = 3 := rfl
    rw [this]; omega
  rw [made_get (by omega) (by simp), e]
theorem ok_make_rat {x y : Operand} {g : Nat} {k k' : IntKind} {l c : Int} (ho : o.op = .makeSlice WT x y) (hx : avo s x = some (.v (.int k l))) (hy : avo s y = some (.v (.int k' c))) (hg : s.used g = false) (h0 : 0 ≤ l) (hlc : l ≤ c) (hc : c ≤ 1000000000) :
    LOK Try.prog o s ⟨some (.own g 0), [(g, some (1, fun _ => .rats l.toNat (fun _ => ra0)))], []⟩ := by
  refine lok_fresh hg (by simp) fun s2 hl W N β w a hs => ?_
  have h1 : a.eval x = .int k l := hs.opv (by rw [hl.avo (by rw [ho]; simp [Op.operands])]; exact hx)
  have h2 : a.eval y = .int k' c := hs.opv (by rw [hl.avo (by rw [ho]; simp [Op.operands])]; exact hy)
  obtain ⟨i0, hi, hz0, hz1, hz2⟩ := info_parts rt_info
  have hrun := run_make (P := Try.prog) w WT RT i0 _ wt_u hi hz0 k k' l c h0 hlc (by rw [hz2]; omega) (by omega)
  rw [hz1] at hrun
  refine ⟨.slice (some ⟨w.heap.size, 0, none⟩) l.toNat c.toNat, _, RT, by unfold execOp; rw [ho]; simp only []; rw [h1, h2]; simp only [Sem.run_bind, hrun]; rfl, rfl, trivial, fun S' β' O hf hr hB => .inr ⟨_, _, hB, hr, .inr ⟨c.toNat, rfl, by omega, by unfold maxLen; omega, size_madeCells _ _⟩, fun i hi' => ?_⟩, .own rfl⟩
  have hs3 : (Value.agg #[Value.bool false, Value.slice none 0 0, Value.slice none 0 0]).cells = #[Value.bool false, Value.slice none 0 0, Value.slice none 0 0] := rfl
  rw [hs3]
  have key := fun j (hj : j < 3) => made3 (x := Value.bool false) (y := Value.slice none 0 0) (z := Value.slice none 0 0) (show i < c.toNat by omega) hj
  exact ⟨false, _, _, key 0 (by omega), key 1 (by omega), key 2 (by omega), r3_ra0 _⟩
/-- A one-cell element's slice type: its nought, its bytes. -/
structure OneEl (T E : TypeId) (z : Value) (bytes : Nat) : Prop where
  u : Try.prog.underlying T = some (.slice E)
  i : (Try.prog.info? E).map (fun i => (i.zero, i.size, i.bytes)) = some (some z, 1, bytes)
  one : z.oneCell' = true
  b : bytes ≤ 24
  ne : E ≠ U32
theorem OneEl.cells {T E : TypeId} {z : Value} {bytes : Nat} (h : OneEl T E z bytes) : z.cells = #[z] := by
  have := h.one
  cases z <;> first | rfl | cases this
theorem ok_make_one {x y : Operand} {g : Nat} {T E : TypeId} {z : Value} {bytes : Nat} {k k' : IntKind} {l c : Int} (ho : o.op = .makeSlice T x y) (he : OneEl T E z bytes) (hx : avo s x = some (.v (.int k l))) (hy : avo s y = some (.v (.int k' c))) (hg : s.used g = false) (h0 : 0 ≤ l) (hlc : l ≤ c) (hc : c ≤ 1000000000) :
    LOK Try.prog o s ⟨some (.own g 0), [(g, some (1, fun _ => .ones E l.toNat (fun _ => .v z)))], []⟩ := by
  refine lok_fresh hg (by simp) fun s2 hl W N β w a hs => ?_
  have h1 : a.eval x = .int k l := hs.opv (by rw [hl.avo (by rw [ho]; simp [Op.operands])]; exact hx)
  have h2 : a.eval y = .int k' c := hs.opv (by rw [hl.avo (by rw [ho]; simp [Op.operands])]; exact hy)
  obtain ⟨i0, hi, hz0, hz1, hz2⟩ := info_parts he.i
  have hb := he.b
  have hbc : (bytes : Int) * c ≤ 24 * c := Int.mul_le_mul_of_nonneg_right (by omega) (by omega)
  have hrun := run_make (P := Try.prog) w T E i0 _ he.u hi hz0 k k' l c h0 hlc (by rw [hz2]; omega) (by omega)
  rw [hz1, he.cells] at hrun
  refine ⟨.slice (some ⟨w.heap.size, 0, none⟩) l.toNat c.toNat, _, E, by unfold execOp; rw [ho]; simp only []; rw [h1, h2]; simp only [Sem.run_bind, hrun]; rfl, rfl, fun _ _ => trivial, fun S' β' O hf hr hB => ⟨he.ne, .inr ⟨_, _, hB, hr, .inr ⟨c.toNat, rfl, by omega, by unfold maxLen; omega, size_madeCells _ _⟩, fun i hi' => ?_⟩⟩, .own rfl⟩
  refine ⟨z, ?_, he.one, rfl⟩
  rw [made_get (by omega) (by simp)]
  simp [Nat.mod_one]
end
end Go.Proofs.Ytpclkgjhfhhddaa.AM
/- Slices that are written out; places in them; parts of them; what is laid behind them. -/
namespace Go.Proofs.Ytpclkgjhfhhddaa.AM
open Go Go.RowKit Go.Proofs.Ytpclkgjhfhhddaa.PN Go.Proofs.Ytpclkgjhfhhddaa.V
set_option linter.unusedVariables false
set_option linter.unusedSimpArgs false
/-- Parts, numbered from k on. -/
def idxs {α : Type} : Nat → List (Nat × α) → Bool
  | _, [] => true
  | k, (i, _) :: l => Nat.beq i k && idxs (k + 1) l
theorem idxs_map {α γ : Type} (f : α → γ) : ∀ (l : List (Nat × α)) (k : Nat), idxs k l = true → idxs k (l.map fun p => (p.1, f p.2)) = true
  | [], _, _ => rfl
  | (i, x) :: l, k, h => by
    simp only [idxs, Bool.and_eq_true, List.map_cons] at h ⊢
    exact ⟨h.1, idxs_map f l _ h.2⟩
theorem fill1 : ∀ (l : List (Nat × Value)) (k : Nat) (cells : Array Value), idxs k l = true → (∀ p ∈ l, p.2.cells = #[p.2]) → k + l.length ≤ cells.size →
    ∃ c', Instr.fill (fun i => some (i * 1, 1)) cells l = some c' ∧ c'.size = cells.size ∧ (∀ j, j < l.length → c'[k + j]? = (l[j]?).map (·.2)) ∧ ∀ m, m < k → c'[m]? = cells[m]?
  | [], k, cells, _, _, _ => ⟨cells, rfl, rfl, fun j hj => absurd hj (Nat.not_lt_zero _), fun _ _ => rfl⟩
  | (i, v) :: l, k, cells, h, hv, hl => by
    simp only [idxs, Bool.and_eq_true] at h
    have hi := Nat.eq_of_beq_eq_true h.1
    subst hi
    simp only [List.length_cons] at hl
    have hc : v.cells = #[v] := hv (i, v) (List.mem_cons_self ..)
    obtain ⟨c', e, hs, hx, ho⟩ := fill1 l (i + 1) (cells.setIfInBounds i v) h.2 (fun p hp => hv p (List.mem_cons_of_mem _ hp)) (by simp; omega)
    refine ⟨c', ?_, by rw [hs]; simp, fun j hj => ?_, fun m hm => by rw [ho m (by omega), Array.getElem?_setIfInBounds_ne (by omega)]⟩
    · rw [← e]
      simp [Instr.fill, hc]
      omega
    · cases j with
      | zero => rw [Nat.add_zero, ho i (by omega), Array.getElem?_setIfInBounds_self_of_lt (by omega)]; rfl
      | succ j => have := hx j (by simpa using hj); rw [show i + (j + 1) = i + 1 + j by omega, this]; rfl
theorem fill3 : ∀ (l : List (Nat × Value)) (k : Nat) (cells : Array Value), idxs k l = true → (∀ p ∈ l, ∃ x y z, p.2.cells = #[x, y, z]) → (k + l.length) * 3 ≤ cells.size →
    ∃ c', Instr.fill (fun i => some (i * 3, 3)) cells l = some c' ∧ c'.size = cells.size ∧ (∀ j, j < l.length → ∀ t, t < 3 → c'[(k + j) * 3 + t]? = (l[j]?).bind fun p => p.2.cells[t]?) ∧ ∀ m, m < k * 3 → c'[m]? = cells[m]?
  | [], k, cells, _, _, _ => ⟨cells, rfl, rfl, fun j hj => absurd hj (Nat.not_lt_zero _), fun _ _ => rfl⟩
  | (i, v) :: l, k, cells, h, hv, hl => by
    simp only [idxs, Bool.and_eq_true] at h
    have hi := Nat.eq_of_beq_eq_true h.1
    subst hi
    simp only [List.length_cons] at hl
    obtain ⟨x, y, z, hc⟩ := hv (i, v) (List.mem_cons_self ..)
    have hc : v.cells = #[x, y, z] := hc
    obtain ⟨c', e, hs, hx, ho⟩ := fill3 l (i + 1) (((cells.setIfInBounds (i * 3) x).setIfInBounds (i * 3 + 1) y).setIfInBounds (i * 3 + 2) z) h.2 (fun p hp => hv p (List.mem_cons_of_mem _ hp)) (by simp; omega)
    refine ⟨c', ?_, by rw [hs]; simp, fun j hj t ht => ?_, fun m hm => by rw [ho m (by omega), Array.getElem?_setIfInBounds_ne (by omega), Array.getElem?_setIfInBounds_ne (by omega), Array.getElem?_setIfInBounds_ne (by omega)]⟩
    · rw [← e]
      simp [Instr.fill, hc, Array.zipIdx]
      omega
    · cases j with
      | zero =>
        rw [Nat.add_zero, ho (i * 3 + t) (by omega)]
        show _ = v.cells[t]?
        rw [hc]
        match t, ht with
        | 0, _ => rw [Array.getElem?_setIfInBounds_ne (by omega), Array.getElem?_setIfInBounds_ne (by omega), Nat.add_zero, Array.getElem?_setIfInBounds_self_of_lt (by omega)]; rfl
        | 1, _ => rw [Array.getElem?_setIfInBounds_ne (by omega), Array.getElem?_setIfInBounds_self_of_lt (by simp; omega)]; rfl
        | 2, _ => rw [Array.getElem?_setIfInBounds_self_of_lt (by simp; omega)]; rfl
      | succ j => have := hx j (by simpa using hj) t ht; rw [show (i + (j + 1)) * 3 + t = (i + 1 + j) * 3 + t by omega, this]; rfl
theorem run_buildSlice {P : Program} {T E : TypeId} {n sz : Nat} {i : TypeInfo} {z : Value} {parts : Array (Nat × Value)} {c' : Array Value} (w : World) (hu : P.underlying T = some (.slice E)) (hi : P.info? E = some i) (hz : i.zero = some z) (hsz : i.size = sz)
    (hb : n * sz ≤ 16777216) (hf : Instr.fill (fun i => some (i * sz, sz)) (madeCells z.cells (n * sz)) parts.toList = some c') :
    (Instr.buildSlice T n parts).run P w = .ok (.slice (some ⟨w.heap.size, 0, none⟩) n n) (w.alloc (.cells c' E)) := by
  have hz' : (zeroValue E).run P w = .ok z w := by simp [zeroValue, typeInfo, hi, hz]
  have hs' : (sizeOf E).run P w = .ok sz w := by simp [sizeOf, typeInfo, hi, hsz]
  unfold Instr.buildSlice
  rw [Sem.run_bind, run_underlying hu w]
  simp only [Result.andThen_ok, Sem.run_bind, hs', gt_iff_lt]
  rw [if_neg (by omega)]
  by_cases h0 : n * sz = 0
  · have e : (Array.range (n * sz)).map (fun x => (#[] : Array Value)[x % (#[] : Array Value).size]!) = madeCells z.cells (n * sz) := by
      unfold madeCells; rw [h0]; simp
    rw [if_pos h0]
    simp only [Result.andThen_ok, Sem.run_bind, Sem.run_pure]
    rw [e, hf]
    simp [newRow]
  · rw [if_neg h0]
    simp only [Result.andThen_ok, Sem.run_bind, Sem.run_pure, hz']
    have e : (Array.range (n * sz)).map (fun x => z.cells[x % z.cells.size]!) = madeCells z.cells (n * sz) := rfl
    rw [e, hf]
    simp [newRow]
/-- What parts say. -/
def avos (s : St) : List (Nat × Operand) → Option (List AV)
  | [] => some []
  | (_, x) :: l => match avo s x, avos s l with
    | some y, some ys => some (y :: ys)
    | _, _ => none
theorem avos_len {s : St} : ∀ {l : List (Nat × Operand)} {ys : List AV}, avos s l = some ys → ys.length = l.length
  | [], ys, h => by cases h; rfl
  | (i, x) :: l, ys, h => by
    unfold avos at h
    split at h
    · rename_i y ys' h1 h2; cases h; simp [avos_len h2]
    · cases h
theorem avos_get {s : St} : ∀ {l : List (Nat × Operand)} {ys : List AV}, avos s l = some ys → ∀ (j : Nat) (p : Nat × Operand), l[j]? = some p → ∃ y, ys[j]? = some y ∧ avo s p.2 = some y
  | [], ys, h, j, p, hp => by cases hp
  | (i, x) :: l, ys, h, j, p, hp => by
    unfold avos at h
    split at h
    · rename_i y ys' h1 h2
      cases h
      cases j with
      | zero => cases hp; exact ⟨y, rfl, h1⟩
      | succ j => exact avos_get h2 j p hp
    · cases h
theorem Sim.opds {W : Wd} {N : Nat} {β : Nat → Nat → Value} {w : World} {a : Act} {s s2 : St} {o : Oper} {rd : List Nat} (h : Sim W N β w a s2) (hl : Like o rd s s2) {l : List (Nat × Operand)} {ys : List AV} (hy : avos s l = some ys) (hm : ∀ p ∈ l, p.2 ∈ o.op.operands) {j : Nat} {p : Nat × Operand} (hp : l[j]? = some p) :
    ∃ y, ys[j]? = some y ∧ y.ok s2.used ∧ RV (notOwn W s2 β) W.w.heap.size β w y (a.eval p.2) := by
  obtain ⟨y, h1, h2⟩ := avos_get hy j p hp
  exact ⟨y, h1, h.opd (by rw [hl.avo (hm p (List.mem_of_getElem? hp))]; exact h2)⟩
theorem build_mem {T : TypeId} {n : Nat} {parts : Array (Nat × Operand)} {o : Oper} (ho : o.op = .buildSlice T n parts) : ∀ p ∈ parts.toList, p.2 ∈ o.op.operands := by
  intro p hp
  rw [ho]
  simp only [Op.operands, List.mem_toArray]
  exact List.mem_map_of_mem hp
section
variable {o : Oper} {s : St}
theorem ok_build_one {T E : TypeId} {z : Value} {bytes n g : Nat} {parts : Array (Nat × Operand)} {ys : List AV} (ho : o.op = .buildSlice T n parts) (he : OneEl T E z bytes) (hg : s.used g = false) (hi : idxs 0 parts.toList = true) (hn : parts.toList.length = n) (hb : n ≤ 100000)
    (hy : avos s parts.toList = some ys) (h1 : ys.all (·.one) = true) : LOK Try.prog o s ⟨some (.own g 0), [(g, some (1, fun _ => .ones E n (fun i => ys.getD i (.v undef))))], []⟩ := by
  refine lok_fresh hg (by simp) fun s2 hl W N β w a hs => ?_
  obtain ⟨i0, hi0, hz0, hz1, hz2⟩ := info_parts he.i
  have hm := build_mem ho
  have hyl := avos_len hy
  have hval : ∀ j, j < n → ∃ p y, parts.toList[j]? = some p ∧ ys[j]? = some y ∧ y.ok s2.used ∧ RV (notOwn W s2 β) W.w.heap.size β w y (a.eval p.2) ∧ (a.eval p.2).oneCell' = true := by
    intro j hj
    have hp : parts.toList[j]? = some (parts.toList[j]'(by omega)) := List.getElem?_eq_getElem (by omega)
    obtain ⟨y, e1, e2, e3⟩ := hs.opds hl hy hm hp
    exact ⟨_, y, hp, e1, e2, e3, RV.one (List.all_eq_true.1 h1 y (List.mem_of_getElem? e1)) e3⟩
  have hcell : ∀ p ∈ (parts.toList.map fun p => (p.1, a.eval p.2)), p.2.cells = #[p.2] := by
    intro q hq
    obtain ⟨p, hp, rfl⟩ := List.mem_map.1 hq
    obtain ⟨j, hj, e⟩ := List.mem_iff_getElem.1 hp
    obtain ⟨p', y, e1, _, _, _, e4⟩ := hval j (by omega)
    rw [List.getElem?_eq_getElem hj, e] at e1
    cases e1
    simp only []
    cases h : a.eval p.2 <;> first | rfl | (rw [h] at e4; cases e4)
  obtain ⟨c', hf, hs', hx, _⟩ := fill1 (parts.toList.map fun p => (p.1, a.eval p.2)) 0 (madeCells #[z] n) (idxs_map _ _ _ hi) hcell (by rw [size_madeCells, List.length_map, hn]; omega)
  have hrun : (Instr.buildSlice T n (parts.map fun p => (p.1, a.eval p.2))).run Try.prog w = .ok (.slice (some ⟨w.heap.size, 0, none⟩) n n) (w.alloc (.cells c' E)) :=
    run_buildSlice w he.u hi0 hz0 hz1 (by omega) (by rw [he.cells, Nat.mul_one, Array.toList_map]; exact hf)
  rw [size_madeCells] at hs'
  refine ⟨.slice (some ⟨w.heap.size, 0, none⟩) n n, c', E, by unfold execOp; rw [ho]; simp only [Sem.run_bind, hrun]; rfl, rfl, fun i hin => ?_, fun S' β' O hfw hr hB => ⟨he.ne, .inr ⟨_, _, hB, hr, .inr ⟨n, rfl, Nat.le_refl _, by unfold maxLen; omega, by rw [hs', Nat.mul_one]⟩, fun i hin => ?_⟩⟩, .own rfl⟩
  · obtain ⟨p, y, _, e1, e2, _⟩ := hval i hin
    show (ys.getD i (.v undef)).ok _
    rw [List.getD_eq_getElem?_getD, e1]; exact e2
  · obtain ⟨p, y, e0, e1, e2, e3, e4⟩ := hval i hin
    refine ⟨a.eval p.2, ?_, e4, ?_⟩
    · have := hx i (by rw [List.length_map, hn]; exact hin)
      rw [Nat.zero_add, List.getElem?_map, e0] at this
      exact this
    · show RV _ _ _ _ (ys.getD i (.v undef)) _
      rw [List.getD_eq_getElem?_getD, e1]; exact e3.fwd hfw e2
def ras : List AV → Option (List RA)
  | [] => some []
  | .ra q :: l => match ras l with
    | some qs => some (q :: qs)
    | none => none
  | _ :: _ => none
theorem ras_get : ∀ {l : List AV} {qs : List RA}, ras l = some qs → qs.length = l.length ∧ ∀ (j : Nat) (y : AV), l[j]? = some y → ∃ q, qs[j]? = some q ∧ y = AV.ra q
  | [], qs, h => by cases h; exact ⟨rfl, fun j y hy => by cases hy⟩
  | y :: l, qs, h => by
    cases y <;> try (cases h; done)
    rename_i q
    unfold ras at h
    split at h
    · rename_i qs' h'
      cases h
      obtain ⟨e1, e2⟩ := ras_get h'
      refine ⟨by simp [e1], fun j y hy => ?_⟩
      cases j with
      | zero => cases hy; exact ⟨q, rfl, rfl⟩
      | succ j => exact e2 j y hy
    · cases h
theorem ok_build_rat {n g : Nat} {parts : Array (Nat × Operand)} {ys : List AV} {qs : List RA} (ho : o.op = .buildSlice WT n parts) (hg : s.used g = false) (hi : idxs 0 parts.toList = true) (hn : parts.toList.length = n) (hb : n ≤ 100000)
    (hy : avos s parts.toList = some ys) (h1 : ras ys = some qs) : LOK Try.prog o s ⟨some (.own g 0), [(g, some (1, fun _ => .rats n (fun i => qs.getD i ra0)))], []⟩ := by
  refine lok_fresh hg (by simp) fun s2 hl W N β w a hs => ?_
  obtain ⟨i0, hi0, hz0, hz1, hz2⟩ := info_parts rt_info
  have hm := build_mem ho
  have hyl := avos_len hy
  obtain ⟨hql, hqg⟩ := ras_get h1
  have hval : ∀ j, j < n → ∃ p q sg vn vd, parts.toList[j]? = some p ∧ qs[j]? = some q ∧ a.eval p.2 = .agg #[.bool sg, vn, vd] ∧ R3 w q sg vn vd := by
    intro j hj
    have hp : parts.toList[j]? = some (parts.toList[j]'(by omega)) := List.getElem?_eq_getElem (by omega)
    obtain ⟨y, e1, e2, e3⟩ := hs.opds hl hy hm hp
    obtain ⟨q, e4, rfl⟩ := hqg j y e1
    obtain ⟨sg, vn, vd, e5, e6⟩ := e3
    exact ⟨_, q, sg, vn, vd, hp, e4, e5, e6⟩
  have hcell : ∀ p ∈ (parts.toList.map fun p => (p.1, a.eval p.2)), ∃ x y z, p.2.cells = #[x, y, z] := by
    intro q hq
    obtain ⟨p, hp, rfl⟩ := List.mem_map.1 hq
    obtain ⟨j, hj, e⟩ := List.mem_iff_getElem.1 hp
    obtain ⟨p', q, sg, vn, vd, e1, _, e3, _⟩ := hval j (by omega)
    rw [List.getElem?_eq_getElem hj, e] at e1
    cases e1
    exact ⟨.bool sg, vn, vd, by simp only []; rw [e3]; rfl⟩
  have hzc : (Value.agg #[Value.bool false, Value.slice none 0 0, Value.slice none 0 0]).cells = #[Value.bool false, Value.slice none 0 0, Value.slice none 0 0] := rfl
  obtain ⟨c', hf, hs', hx, _⟩ := fill3 (parts.toList.map fun p => (p.1, a.eval p.2)) 0 (madeCells #[Value.bool false, Value.slice none 0 0, Value.slice none 0 0] (n * 3)) (idxs_map _ _ _ hi) hcell (by rw [size_madeCells, List.length_map, hn]; omega)
  have hrun : (Instr.buildSlice WT n (parts.map fun p => (p.1, a.eval p.2))).run Try.prog w = .ok (.slice (some ⟨w.heap.size, 0, none⟩) n n) (w.alloc (.cells c' RT)) :=
    run_buildSlice w wt_u hi0 hz0 hz1 (by omega) (by rw [hzc, Array.toList_map]; exact hf)
  rw [size_madeCells] at hs'
  refine ⟨.slice (some ⟨w.heap.size, 0, none⟩) n n, c', RT, by unfold execOp; rw [ho]; simp only [Sem.run_bind, hrun]; rfl, rfl, trivial, fun S' β' O hfw hr hB => .inr ⟨_, _, hB, hr, .inr ⟨n, rfl, Nat.le_refl _, by unfold maxLen; omega, hs'⟩, fun i hin => ?_⟩, .own rfl⟩
  obtain ⟨p, q, sg, vn, vd, e0, e1, e2, e3⟩ := hval i hin
  have key : ∀ t, t < 3 → c'[i * 3 + t]? = #[Value.bool sg, vn, vd][t]? := by
    intro t ht
    have := hx i (by rw [List.length_map, hn]; exact hin) t ht
    rw [Nat.zero_add, List.getElem?_map, e0] at this
    rw [this]
    show (a.eval p.2).cells[t]? = _
    rw [e2]; rfl
  refine ⟨sg, vn, vd, key 0 (by omega), key 1 (by omega), key 2 (by omega), ?_⟩
  show R3 _ (qs.getD i ra0) _ _ _
  rw [List.getD_eq_getElem?_getD, e1]; exact r3_ext e3 hfw.ext
def u32s : List AV → Option (List Nat)
  | [] => some []
  | .v (.int .u32 n) :: l => match u32s l with
    | some ns => some (n.toNat :: ns)
    | none => none
  | _ :: _ => none
theorem u32s_get : ∀ {l : List AV} {qs : List Nat}, u32s l = some qs → qs.length = l.length ∧ ∀ (j : Nat) (y : AV), l[j]? = some y → ∃ n : Int, qs[j]? = some n.toNat ∧ y = AV.v (.int .u32 n)
  | [], qs, h => by cases h; exact ⟨rfl, fun j y hy => by cases hy⟩
  | y :: l, qs, h => by
    unfold u32s at h
    split at h
    · rename_i e; cases e
    · rename_i n l' e
      injection e with e1 e2
      subst e1; subst e2
      split at h
      · rename_i qs' h'
        cases h
        obtain ⟨e1, e2⟩ := u32s_get h'
        refine ⟨by simp [e1], fun j y hy => ?_⟩
        cases j with
        | zero => cases hy; exact ⟨n, rfl, rfl⟩
        | succ j => exact e2 j y hy
      · cases h
    · cases h
end
end Go.Proofs.Ytpclkgjhfhhddaa.AM

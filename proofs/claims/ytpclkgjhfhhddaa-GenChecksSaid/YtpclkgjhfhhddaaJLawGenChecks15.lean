/- Joined texts, 15: AmBy AmBz AmS. -/
import Derived.Test.YtpclkgjhfhhddaaJLawGenChecks14
import Derived.Laws.Concat
import Derived.Laws.BytesString
import Derived.Laws.CopyRow
set_option linter.unusedVariables false
set_option linter.unusedSimpArgs false
/- Structs in slices, bytes, strings (printed by gen/gen_amby.py). -/
namespace Go.Proofs.Ytpclkgjhfhhddaa.AM
open Go Go.RowKit Go.Proofs.Ytpclkgjhfhhddaa.PN Go.Proofs.Ytpclkgjhfhhddaa.V
set_option linter.unusedVariables false
set_option linter.unusedSimpArgs false
theorem fold_set : ∀ (vs : List Value) (k off : Nat) (cs : Array Value), off + k + vs.length ≤ cs.size →
    ((vs.zipIdx k).foldl (fun (cs : Array Value) (p : Value × Nat) => cs.setIfInBounds (off + p.2) p.1) cs).size = cs.size ∧ (∀ t, t < vs.length → ((vs.zipIdx k).foldl (fun (cs : Array Value) (p : Value × Nat) => cs.setIfInBounds (off + p.2) p.1) cs)[off + k + t]? = vs[t]?) ∧
      ∀ q, (q < off + k ∨ off + k + vs.length ≤ q) → ((vs.zipIdx k).foldl (fun (cs : Array Value) (p : Value × Nat) => cs.setIfInBounds (off + p.2) p.1) cs)[q]? = cs[q]?
  | [], k, off, cs, _ => ⟨rfl, fun t ht => absurd ht (Nat.not_lt_zero _), fun q _ => rfl⟩
  | v :: vs, k, off, cs, h => by
    simp only [List.length_cons] at h
    obtain ⟨h1, h2, h3⟩ := fold_set vs (k + 1) off (cs.setIfInBounds (off + k) v) (by simp; omega)
    simp only [List.zipIdx_cons, List.foldl_cons]
    refine ⟨by rw [h1]; simp, fun t ht => ?_, fun q hq => ?_⟩
    · cases t with
      | zero =>
        rw [show off + k + 0 = off + k from rfl, h3 (off + k) (by omega), Array.getElem?_setIfInBounds_self_of_lt (by omega)]; rfl
      | succ t =>
        have := h2 t (by simpa using ht)
        rw [show off + k + (t + 1) = off + (k + 1) + t by omega, this]; rfl
    · simp only [List.length_cons] at hq
      rw [h3 q (by omega), Array.getElem?_setIfInBounds_ne (by omega)]
theorem fillm (m : Nat) : ∀ (l : List (Nat × Value)) (k : Nat) (cells : Array Value), idxs k l = true → (∀ p ∈ l, p.2.cells.size = m) → (k + l.length) * m ≤ cells.size →
    ∃ c', Instr.fill (fun i => some (i * m, m)) cells l = some c' ∧ c'.size = cells.size ∧ (∀ j, j < l.length → ∀ t, t < m → c'[(k + j) * m + t]? = (l[j]?).bind fun p => p.2.cells[t]?) ∧ ∀ q, q < k * m → c'[q]? = cells[q]?
  | [], k, cells, _, _, _ => ⟨cells, rfl, rfl, fun j hj => absurd hj (Nat.not_lt_zero _), fun _ _ => rfl⟩
  | (i, v) :: l, k, cells, h, hv, hl => by
    simp only [idxs, Bool.and_eq_true] at h
    have hi := Nat.eq_of_beq_eq_true h.1
    subst hi
    simp only [List.length_cons] at hl
    have hc : v.cells.size = m := hv (i, v) (List.mem_cons_self ..)
    have hle : i * m + m ≤ cells.size := by
      have : (i + 1) * m ≤ (i + (l.length + 1)) * m := Nat.mul_le_mul_right _ (by omega)
      rw [Nat.succ_mul] at this
      omega
    obtain ⟨g1, g2, g3⟩ := fold_set v.cells.toList 0 (i * m) cells (by simp; omega)
    generalize hr : (v.cells.toList.zipIdx 0).foldl (fun (cs : Array Value) (p : Value × Nat) => cs.setIfInBounds (i * m + p.2) p.1) cells = r at *
    obtain ⟨c', e, hs, hx, ho⟩ := fillm m l (i + 1) r h.2 (fun p hp => hv p (List.mem_cons_of_mem _ hp)) (by rw [g1, show i + 1 + l.length = i + (l.length + 1) by omega]; exact hl)
    refine ⟨c', ?_, by rw [hs, g1], fun j hj t ht => ?_, fun q hq => ?_⟩
    · rw [← e, ← hr]
      have key : Instr.fill (fun i => some (i * m, m)) cells ((i, v) :: l) = if (v.cells.size ≠ m || i * m + v.cells.size > cells.size) = true then none else Instr.fill (fun i => some (i * m, m)) (v.cells.zipIdx.foldl (fun cs p => cs.setIfInBounds (i * m + p.2) p.1) cells) l := rfl
      rw [key, if_neg (by simp [hc]; omega)]
      congr 1
      rw [← Array.foldl_toList, Array.toList_zipIdx]
    · cases j with
      | zero =>
        rw [Nat.add_zero, ho (i * m + t) (by rw [Nat.succ_mul]; omega)]
        have := g2 t (by simp [hc]; exact ht)
        rw [Nat.add_zero] at this
        rw [this, Array.getElem?_toList]; rfl
      | succ j =>
        have := hx j (by simpa using hj) t ht
        rw [show i + (j + 1) = i + 1 + j by omega, this]; rfl
    · rw [ho q (by rw [Nat.succ_mul]; omega), g3 q (by omega)]
/-- Slices of so many cells each. -/
structure CellsOf (T E : TypeId) (m : Nat) : Prop where
  u : Try.prog.underlying T = some (.slice E)
  i : szB Try.prog E m = true
  z : ∃ i z, Try.prog.info? E = some i ∧ i.zero = some z ∧ z.cells.size = m
def zSz (P : Program) (E : TypeId) (m : Nat) : Bool := match P.info? E with
  | some i => (match i.zero with | some z => Nat.beq z.cells.size m | none => false)
  | none => false
theorem zSz_ok {P : Program} {E : TypeId} {m : Nat} (h : zSz P E m = true) : ∃ i z, P.info? E = some i ∧ i.zero = some z ∧ z.cells.size = m := by
  unfold zSz at h
  split at h
  · rename_i i e
    split at h
    · rename_i z e2; exact ⟨i, z, e, e2, Nat.eq_of_beq_eq_true h⟩
    · cases h
  · cases h
/-- Types of slices, how many cells an element has. -/
def celL : List TypeId := [58, 36, 46]
def celT (T : TypeId) : Option Nat := bif memN T [57] then some 7 else bif memN T celL then some 1 else none
theorem cel7 : ([57] : List Nat).all (fun T => isSlice (Try.prog.underlying T) && (szB Try.prog (sliceE (Try.prog.underlying T)) 7 && zSz Try.prog (sliceE (Try.prog.underlying T)) 7)) = true := by kernel_rfl
theorem cel1 : celL.all (fun T => isSlice (Try.prog.underlying T) && (szB Try.prog (sliceE (Try.prog.underlying T)) 1 && zSz Try.prog (sliceE (Try.prog.underlying T)) 1)) = true := by kernel_rfl
theorem cells_of {T m : Nat} (h : (isSlice (Try.prog.underlying T) && (szB Try.prog (sliceE (Try.prog.underlying T)) m && zSz Try.prog (sliceE (Try.prog.underlying T)) m)) = true) : ∃ E, CellsOf T E m := by
  rw [Bool.and_eq_true, Bool.and_eq_true] at h
  obtain ⟨h1, h2, h3⟩ := h
  have key : ∀ d : Option TypeDesc, Try.prog.underlying T = d → isSlice d = true → szB Try.prog (sliceE d) m = true → zSz Try.prog (sliceE d) m = true → ∃ E, CellsOf T E m := by
    intro d e k1 k2 k3
    cases d with
    | none => cases k1
    | some d =>
      cases d with
      | slice E => exact ⟨E, e, k2, zSz_ok k3⟩
      | _ => cases k1
  exact key _ rfl h1 h2 h3
theorem cel_ok {T m : Nat} (h : celT T = some m) : ∃ E, CellsOf T E m := by
  unfold celT at h
  cases e : memN T [57] with
  | true => rw [e] at h; cases h; exact cells_of (List.all_eq_true.1 cel7 T (memN_spec e))
  | false =>
    rw [e, cond_false] at h
    cases e2 : memN T celL with
    | true => rw [e2] at h; cases h; exact cells_of (List.all_eq_true.1 cel1 T (memN_spec e2))
    | false => rw [e2] at h; cases h
/-- What the parts say, one cell behind the other. -/
def flat (m : Nat) : List AV → Option (List AV)
  | [] => some []
  | x :: l => match flat m l with
    | none => none
    | some r => match x with
      | .ag k f => bif Nat.beq k m && !Nat.beq m 1 then some ((List.range m).map f ++ r) else none
      | y => bif Nat.beq m 1 && y.one then some (y :: r) else none
theorem flat_get {m : Nat} : ∀ {l r : List AV}, flat m l = some r → r.length = l.length * m ∧ ∀ j, j < l.length → (∃ f, l[j]? = some (.ag m f) ∧ ∀ t, t < m → r[j * m + t]? = some (f t)) ∨ (m = 1 ∧ ∃ y, l[j]? = some y ∧ y.one = true ∧ r[j * m]? = some y)
  | [], r, h => by cases h; exact ⟨by simp, fun j hj => absurd hj (Nat.not_lt_zero _)⟩
  | x :: l, r, h => by
    unfold flat at h
    split at h
    · cases h
    · rename_i r0 e
      obtain ⟨h1, h2⟩ := flat_get e
      split at h
      · rename_i k f
        cases hb : Nat.beq k m && !Nat.beq m 1 with
        | false => rw [hb] at h; cases h
        | true =>
          rw [hb] at h
          rw [Bool.and_eq_true] at hb
          have hk := Nat.eq_of_beq_eq_true hb.1
          subst hk
          cases h
          refine ⟨by simp [h1, Nat.succ_mul]; omega, fun j hj => ?_⟩
          cases j with
          | zero =>
            refine .inl ⟨f, rfl, fun t ht => ?_⟩
            rw [Nat.zero_mul, Nat.zero_add, List.getElem?_append_left (by simp; exact ht), List.getElem?_map, List.getElem?_range ht]; rfl
          | succ j =>
            have hsh : ∀ t, ((List.range k).map f ++ r0)[(j + 1) * k + t]? = r0[j * k + t]? := fun t => by
              rw [Nat.succ_mul, List.getElem?_append_right (by simp; omega)]
              congr 1; simp; omega
            rcases h2 j (by simpa using hj) with ⟨g, a1, a2⟩ | ⟨a1, y, a2, a3, a4⟩
            · exact .inl ⟨g, a1, fun t ht => by rw [hsh]; exact a2 t ht⟩
            · exact .inr ⟨a1, y, a2, a3, by have := hsh 0; rw [Nat.add_zero, Nat.add_zero] at this; rw [this]; exact a4⟩
      · rename_i y hy
        cases hb : Nat.beq m 1 && x.one with
        | false => rw [hb] at h; cases h
        | true =>
          rw [hb] at h
          rw [Bool.and_eq_true] at hb
          have hm := Nat.eq_of_beq_eq_true hb.1
          subst hm
          cases h
          refine ⟨by simp [h1], fun j hj => ?_⟩
          cases j with
          | zero => exact .inr ⟨rfl, x, rfl, hb.2, rfl⟩
          | succ j =>
            rcases h2 j (by simpa using hj) with ⟨g, a1, a2⟩ | ⟨a1, y, a2, a3, a4⟩
            · exact .inl ⟨g, a1, fun t ht => by
                have ht0 : t = 0 := by omega
                have hh := a2 t ht
                subst ht0
                simpa using hh⟩
            · exact .inr ⟨a1, y, a2, a3, by simpa using a4⟩
section
variable {o : Oper} {s : St}
theorem ok_build_arr {T E : TypeId} {n m : Nat} {parts : Array (Nat × Operand)} {ys r : List AV} (ho : o.op = .buildSlice T n parts) (hT : CellsOf T E m) (hi : idxs 0 parts.toList = true) (hn : parts.toList.length = n) (hb : n * m ≤ 100000 ∧ 0 < m)
    (hy : avos s parts.toList = some ys) (h1 : flat m ys = some r) : LOK Try.prog o s ⟨some (.arr n m (fun i => r.getD i (.v undef))), [], []⟩ := by
  refine lok_kept fun s2 hl W N β w a hs K Q hK => ?_
  obtain ⟨i0, z0, hi0, hz0, hzs⟩ := hT.z
  obtain ⟨i1, hi1, hz2⟩ := sz_info hT.i
  have hz2 : i0.size = m := by rw [hi0] at hi1; cases hi1; exact hz2
  have hm := build_mem ho
  have hyl := avos_len hy
  obtain ⟨hql, hqg⟩ := flat_get h1
  have hval : ∀ j, j < n → ∃ p, parts.toList[j]? = some p ∧ (a.eval p.2).cells.size = m ∧ ∀ t, t < m → ∃ x y, r[j * m + t]? = some x ∧ (a.eval p.2).cells[t]? = some y ∧ y.oneCell' = true ∧ x.ok s2.used ∧ RV (notOwn W s2 β) W.w.heap.size β w x y := by
    intro j hj
    have hp : parts.toList[j]? = some (parts.toList[j]'(by omega)) := List.getElem?_eq_getElem (by omega)
    obtain ⟨y, e1, e2, e3⟩ := hs.opds hl hy hm hp
    refine ⟨_, hp, ?_⟩
    rcases hqg j (by omega) with ⟨f, a1, a2⟩ | ⟨hm1, y', a1, a2, a3⟩
    · rw [a1] at e1; cases e1
      obtain ⟨cs, q1, q2, q3⟩ := e3
      rw [q1]
      refine ⟨q2, fun t ht => ?_⟩
      obtain ⟨y, b1, b2, b3⟩ := q3 t ht
      exact ⟨f t, y, a2 t ht, b1, b2, e2 t ht, b3⟩
    · have e1 : y = y' := by rw [a1] at e1; cases e1; rfl
      subst e1
      subst hm1
      have h1c := RV.one a2 e3
      have hcells : (a.eval (parts.toList[j]'(by omega)).2).cells = #[a.eval (parts.toList[j]'(by omega)).2] := by
        generalize a.eval (parts.toList[j]'(by omega)).2 = v at *
        cases v <;> first | rfl | cases h1c
      rw [hcells]
      refine ⟨rfl, fun t ht => ?_⟩
      obtain rfl : t = 0 := by omega
      exact ⟨y, _, by simpa using a3, rfl, h1c, e2, e3⟩
  have hcell : ∀ p ∈ (parts.toList.map fun p => (p.1, a.eval p.2)), p.2.cells.size = m := by
    intro q hq
    obtain ⟨p, hp, rfl⟩ := List.mem_map.1 hq
    obtain ⟨j, hj, e⟩ := List.mem_iff_getElem.1 hp
    obtain ⟨p', e1, e4, _⟩ := hval j (by omega)
    rw [List.getElem?_eq_getElem hj, e] at e1
    cases e1
    exact e4
  obtain ⟨c', hf, hs', hx, _⟩ := fillm m (parts.toList.map fun p => (p.1, a.eval p.2)) 0 (madeCells z0.cells (n * m)) (idxs_map _ _ _ hi) hcell (by rw [size_madeCells, List.length_map, hn, Nat.zero_add]; exact Nat.le_refl _)
  have hrun : (Instr.buildSlice T n (parts.map fun p => (p.1, a.eval p.2))).run Try.prog w = .ok (.slice (some ⟨w.heap.size, 0, none⟩) n n) (w.alloc (.cells c' E)) :=
    run_buildSlice w hT.u hi0 hz0 hz2 (by omega) (by rw [Array.toList_map]; exact hf)
  have hop : (execOp a.eval o).run Try.prog w = .ok (.value (.slice (some ⟨w.heap.size, 0, none⟩) n n)) (w.alloc (.cells c' E)) := by
    unfold execOp; rw [ho]; simp only [Sem.run_bind, hrun]; rfl
  unfold Oper.wp
  rw [hop]
  have hk := Kept.alloc w (.cells c' E)
  refine hK _ _ hk fun x hx' => ?_
  cases hx'
  have kf : Fwd (notOwn W s2 β) (notOwn W s2 β) W.w.heap.size W.w.heap.size s2.used β β (fun _ => False) w (w.alloc (.cells c' E)) := ⟨Ext.of_kept hk _, fun _ _ h => h, fun _ h _ => h, Nat.le_refl _, fun _ _ _ => rfl⟩
  have hnew : notOwn W s2 β w.heap.size := by
    refine ⟨fun hlt => ?_, fun ho => ?_⟩
    · have := hs.fix.size; omega
    · exact absurd (own_lt hs ho).2 (Nat.lt_irrefl _)
  have hmx : n ≤ maxLen := by
    have := Nat.mul_le_mul_left n hb.2
    unfold maxLen; omega
  have hall : ∀ i, i < n * m → ∃ y, (w.alloc (.cells c' E)).cell? ⟨w.heap.size, 0 + i, none⟩ = some y ∧ y.oneCell' = true ∧ (r.getD i (.v undef)).ok s2.used ∧ RV (notOwn W s2 β) W.w.heap.size β (w.alloc (.cells c' E)) (r.getD i (.v undef)) y := by
    intro i hin
    have hm0 : 0 < m := Nat.pos_of_ne_zero fun e => by rw [e, Nat.mul_zero] at hin; exact absurd hin (Nat.not_lt_zero _)
    have hd : i = i / m * m + i % m := by have := Nat.div_add_mod i m; rw [Nat.mul_comm] at this; exact this.symm
    have hj : i / m < n := Nat.div_lt_of_lt_mul (by rw [Nat.mul_comm]; exact hin)
    have ht : i % m < m := Nat.mod_lt _ hm0
    obtain ⟨p, e0, e1, e2⟩ := hval (i / m) hj
    obtain ⟨x, y, b1, b2, b3, b4, b5⟩ := e2 (i % m) ht
    rw [← hd] at b1
    have := hx (i / m) (by rw [List.length_map, hn]; exact hj) (i % m) ht
    rw [Nat.zero_add, ← hd, List.getElem?_map, e0] at this
    refine ⟨y, ?_, b3, ?_, ?_⟩
    · rw [cell_of_row (w.alloc (.cells c' E)) w.heap.size _ c' E (0, 0) (row_new w c' E), Nat.zero_add, this]; exact b2
    · rw [List.getD_eq_getElem?_getD, b1]; exact b4
    · rw [List.getD_eq_getElem?_getD, b1]; exact b5.fwd kf b4
  refine ⟨fun i hin => (hall i hin).choose_spec.2.2.1, some ⟨w.heap.size, 0, none⟩, n, rfl, Nat.le_refl _, ?_, fun i hin => ?_⟩
  · exact hmx
  · obtain ⟨y, q1, q2, q3, q4⟩ := hall i hin
    exact ⟨w.heap.size, 0, y, rfl, hnew, q1, q2, q4⟩
theorem ok_index_one {x y : Operand} {T E : TypeId} {n : Nat} {f : Nat → AV} {k : IntKind} {z : Int} (ho : o.op = .indexAddr T x y) (hT : CellsOf T E 1) (hx : avo s x = some (.arr n 1 f)) (hy : avo s y = some (.v (.int k z))) (h0 : 0 ≤ z) (h1 : z < n) : LOK Try.prog o s ⟨some (.cp (f z.toNat)), [], []⟩ := by
  refine lok_val fun s2 hl W N β w a hs => ?_
  obtain ⟨hok, A, c, e1, _, _, e2⟩ := hs.opd (x := x) (by rw [hl.avo (by rw [ho]; simp [Op.operands])]; exact hx)
  have e3 : a.eval y = .int k z := hs.opv (by rw [hl.avo (by rw [ho]; simp [Op.operands])]; exact hy)
  obtain ⟨b, off, v, rfl, hS, hc, _, hv⟩ := e2 z.toNat (by omega)
  refine ⟨_, by unfold execOp; rw [ho]; simp only []; rw [e1, e3]; simp only [Sem.run_bind, run_index hT.u (sz_info hT.i) w _ n c k z h0 h1]; rfl, fun q hq => ?_⟩
  cases hq
  exact ⟨hok z.toNat (by omega), ⟨b, off + z.toNat, none⟩, v, by rw [add_at, Nat.mul_one], hS, hc, hv⟩
theorem ok_index_many {x y : Operand} {T E : TypeId} {n m : Nat} {f : Nat → AV} {k : IntKind} {z : Int} (ho : o.op = .indexAddr T x y) (hT : CellsOf T E m) (hm : 0 < m) (hx : avo s x = some (.arr n m f)) (hy : avo s y = some (.v (.int k z))) (h0 : 0 ≤ z) (h1 : z < n) : LOK Try.prog o s ⟨some (.pa m (fun j => f (z.toNat * m + j))), [], []⟩ := by
  refine lok_val fun s2 hl W N β w a hs => ?_
  obtain ⟨hok, A, c, e1, _, _, e2⟩ := hs.opd (x := x) (by rw [hl.avo (by rw [ho]; simp [Op.operands])]; exact hx)
  have e3 : a.eval y = .int k z := hs.opv (by rw [hl.avo (by rw [ho]; simp [Op.operands])]; exact hy)
  have hin : ∀ j, j < m → z.toNat * m + j < n * m := fun j hj => by
    have := Nat.mul_le_mul_right m (show z.toNat + 1 ≤ n by omega)
    rw [Nat.succ_mul] at this
    omega
  obtain ⟨b, off, v, rfl, hS, hc, _, hv⟩ := e2 (z.toNat * m + 0) (hin 0 hm)
  refine ⟨_, by unfold execOp; rw [ho]; simp only []; rw [e1, e3]; simp only [Sem.run_bind, run_index hT.u (sz_info hT.i) w _ n c k z h0 h1]; rfl, fun q hq => ?_⟩
  cases hq
  refine ⟨fun j hj => hok _ (hin j hj), b, off + z.toNat * m, by rw [add_at], hS, World.block_lt_of_cell? _ _ hc, fun j hj => ?_⟩
  obtain ⟨b', off', v', e, hS', hc', h1', hv'⟩ := e2 (z.toNat * m + j) (hin j hj)
  cases e
  exact ⟨v', by rw [Nat.add_assoc]; exact hc', h1', hv'⟩
theorem ok_load_pa {x : Operand} {T : TypeId} {m : Nat} {f : Nat → AV} (ho : o.op = .load T x) (ha : isAggD (Try.prog.underlying T) = true) (hz : szB Try.prog T m = true) (hx : avo s x = some (.pa m f)) : LOK Try.prog o s ⟨some (.ag m f), [], []⟩ := by
  refine lok_val fun s2 hl W N β w ac hs => ?_
  obtain ⟨hu, b, off, e1, _, _, h4⟩ := hs.opd (x := x) (by rw [hl.avo (by rw [ho]; simp [Op.operands])]; exact hx)
  let vs : List Value := (List.range m).map fun i => (w.cell? ⟨b, off + i, none⟩).getD undef
  have hlen : vs.length = m := by simp [vs]
  have hget : ∀ i, i < m → ∃ y, vs[i]? = some y ∧ w.cell? ⟨b, off + i, none⟩ = some y ∧ y.oneCell' = true ∧ RV (notOwn W s2 β) W.w.heap.size β w (f i) y := fun i hi => by
    obtain ⟨y, a0, a1, a2⟩ := h4 i hi
    refine ⟨y, ?_, a0, a1, a2⟩
    show ((List.range m).map _)[i]? = _
    rw [List.getElem?_map, List.getElem?_range hi]
    simp [a0]
  refine ⟨.agg vs.toArray, ?_, fun z hz' => ?_⟩
  · unfold execOp; rw [ho]; simp only []; rw [e1]
    have := run_loadagg ha hz (w := w) (k := b) (o := off) (vs := vs) hlen (fun j v hv => by
      have hj : j < m := by rw [← hlen]; exact (List.getElem?_eq_some_iff.1 hv).1
      obtain ⟨y, a0, a1, _⟩ := hget j hj
      rw [a0] at hv; cases hv
      exact a1)
    simp [this]
  · cases hz'
    refine ⟨hu, _, rfl, by simp [hlen], fun i hi => ?_⟩
    obtain ⟨y, a0, a1, a2, a3⟩ := hget i hi
    exact ⟨y, by rw [List.getElem?_toArray]; exact a0, a2, a3⟩
theorem ok_field_pa {x : Operand} {T : TypeId} {j m : Nat} {f : Nat → AV} (ho : o.op = .fieldAddr T x j) (hf : fieldB Try.prog T j j = true) (hj : j < m) (hx : avo s x = some (.pa m f)) : LOK Try.prog o s ⟨some (.cp (f j)), [], []⟩ := by
  refine lok_val fun s2 hl W N β w a hs => ?_
  obtain ⟨hu, b, off, e1, hS, _, h4⟩ := hs.opd (x := x) (by rw [hl.avo (by rw [ho]; simp [Op.operands])]; exact hx)
  obtain ⟨y, a0, a1, a2⟩ := h4 j hj
  exact ⟨_, by unfold execOp; rw [ho]; simp only []; rw [e1]; simp only [Sem.run_bind, run_field hf]; rfl, fun q hq => by cases hq; exact ⟨hu j hj, ⟨b, off + j, none⟩, y, by rw [add_at], hS, a0, a2⟩⟩
theorem ok_addstr {x y : Operand} {T T' : TypeId} {a b : ByteArray} (ho : o.op = .binOp .add T x y T') (hx : avo s x = some (.v (.string a))) (hy : avo s y = some (.v (.string b))) (hn : a.size + b.size ≤ 1000000) : LOK Try.prog o s ⟨some (.v (.string (a ++ b))), [], []⟩ := by
  refine lok_val fun s2 hl W N β w ac hs => ⟨.string (a ++ b), ?_, fun z hz => by cases hz; exact ⟨trivial, rfl⟩⟩
  have h1 : ac.eval x = .string a := hs.opv (by rw [hl.avo (by rw [ho]; simp [Op.operands])]; exact hx)
  have h2 : ac.eval y = .string b := hs.opv (by rw [hl.avo (by rw [ho]; simp [Op.operands])]; exact hy)
  have hb := run_string_add_sum (P := Try.prog) w a b (by omega)
  unfold execOp; rw [ho]; simp only []; rw [h1, h2]
  simp [eqGuard, binOp, hb]
theorem ok_eqstr {x y : Operand} {T T' : TypeId} {a b : ByteArray} {r : Bool} (ho : o.op = .binOp .eql T x y T') (hx : avo s x = some (.v (.string a))) (hy : avo s y = some (.v (.string b))) (hr : (a.toList == b.toList) = r) : LOK Try.prog o s ⟨some (.v (.bool r)), [], []⟩ := by
  refine lok_val fun s2 hl W N β w ac hs => ⟨.bool r, ?_, fun z hz => by cases hz; exact ⟨trivial, rfl⟩⟩
  have h1 : ac.eval x = .string a := hs.opv (by rw [hl.avo (by rw [ho]; simp [Op.operands])]; exact hx)
  have h2 : ac.eval y = .string b := hs.opv (by rw [hl.avo (by rw [ho]; simp [Op.operands])]; exact hy)
  unfold execOp; rw [ho]; simp only []; rw [h1, h2]
  simp [eqGuard, binOp, Op.stringOp, hr]
theorem slice_run1 {T E : TypeId} (hu : Try.prog.underlying T = some (.slice E)) (hsz : ∃ i, Try.prog.info? E = some i ∧ i.size = 1) {w : World} {a : Act} {s : St} {x : Operand} {lo hi mx : Option Operand} {A : Option Addr} {n c : Nat} {l h m : Int} (ho : o.op = .slice T x lo hi mx) (hv' : ∀ (y : Operand) (k : IntKind) (z : Int), y ∈ o.op.operands → avo s y = some (.v (.int k z)) → a.eval y = .int k z) (e1 : a.eval x = .slice A n c) (e2 : n ≤ c) (hl : bnd s 0 lo = some l) (hh : bnd s n hi = some h) (hm : bnd s n mx = some m) (hmh : mx.isSome = true → hi.isSome = true)
    (h0 : 0 ≤ l) (h1 : l ≤ h) (h2 : h ≤ m) (h3 : m ≤ n) : ∃ m' : Nat, h ≤ (m' : Int) ∧ m' ≤ c ∧ (execOp a.eval o).run Try.prog w = .ok (.value (.slice (if m' = l.toNat then A else A.map (·.add (l.toNat * 1))) (h.toNat - l.toNat) (m' - l.toNat))) w := by
  have val : ∀ {d z : Int} {q : Option Operand} (y : Operand), q = some y → bnd s d q = some z → y ∈ o.op.operands → ∃ k, a.eval y = .int k z := by
    intro d z q y e hb hy
    subst e
    have hb : (match avo s y with | some (.v (.int _ z)) => some z | _ => none) = some z := hb
    cases hv : avo s y with
    | none => rw [hv] at hb; cases hb
    | some v =>
      rw [hv] at hb
      cases v <;> first | (cases hb; done) | skip
      rename_i v
      cases v <;> first | (cases hb; done) | skip
      cases hb
      exact ⟨_, hv' y _ _ hy hv⟩
  have fin : ∀ m' : Nat, h ≤ (m' : Int) → m' ≤ c → (Instr.sliceAt T (.slice A n c) (lo.map a.eval) (hi.map a.eval) (mx.map a.eval)).run Try.prog w = .ok (.slice (if m' = l.toNat then A else A.map (·.add (l.toNat * 1))) (h.toNat - l.toNat) (m' - l.toNat)) w →
      ∃ m' : Nat, h ≤ (m' : Int) ∧ m' ≤ c ∧ (execOp a.eval o).run Try.prog w = .ok (.value (.slice (if m' = l.toNat then A else A.map (·.add (l.toNat * 1))) (h.toNat - l.toNat) (m' - l.toNat))) w := by
    intro m' hm1 hm2 hrun
    exact ⟨m', hm1, hm2, by unfold execOp; rw [ho]; simp only []; rw [e1]; simp only [Sem.run_bind, hrun]; rfl⟩
  obtain ⟨i', hi', hz'⟩ := hsz
  have hopl : ∀ y, lo = some y → y ∈ o.op.operands := fun y e => by rw [ho, e]; simp [Op.operands]
  have hoph : ∀ y, hi = some y → y ∈ o.op.operands := fun y e => by rw [ho, e]; simp [Op.operands]
  have hopm : ∀ y, mx = some y → y ∈ o.op.operands := fun y e => by rw [ho, e]; simp [Op.operands]
  cases hmx : mx with
  | none =>
    rw [hmx] at hm
    cases hm
    refine fin c (by omega) (Nat.le_refl _) ?_
    rw [hmx]
    cases hhi : hi with
    | none =>
      rw [hhi] at hh
      cases hh
      cases hlo : lo with
      | none =>
        rw [hlo] at hl; cases hl
        simp [Instr.sliceAt, Instr.slice, run_underlying hu, Instr.sliceBounds, sizeOf, typeInfo, hi', hz']
      | some y =>
        obtain ⟨k, ey⟩ := val y hlo hl (hopl y hlo)
        simp [Instr.sliceAt, Instr.slice, run_underlying hu, Instr.sliceBounds, Instr.sliceBound, asIntOf, sizeOf, typeInfo, hi', hz', ey, h0, h1]
    | some y' =>
      obtain ⟨k', ey'⟩ := val y' hhi hh (hoph y' hhi)
      have q1 : 0 ≤ h := by omega
      have q2 : h ≤ (c : Int) := by omega
      cases hlo : lo with
      | none =>
        rw [hlo] at hl; cases hl
        simp [Instr.sliceAt, Instr.slice, run_underlying hu, Instr.sliceBounds, Instr.sliceBound, asIntOf, sizeOf, typeInfo, hi', hz', ey', q1, q2]
      | some y =>
        obtain ⟨k, ey⟩ := val y hlo hl (hopl y hlo)
        have q3 : l ≤ ((h.toNat : Nat) : Int) := by omega
        simp [Instr.sliceAt, Instr.slice, run_underlying hu, Instr.sliceBounds, Instr.sliceBound, asIntOf, sizeOf, typeInfo, hi', hz', ey, ey', h0, q1, q2, q3]
        omega
  | some ym =>
    obtain ⟨km, em⟩ := val ym hmx hm (hopm ym hmx)
    have hhs := hmh (by rw [hmx]; rfl)
    obtain ⟨y', hhi⟩ := Option.isSome_iff_exists.1 hhs
    obtain ⟨k', ey'⟩ := val y' hhi hh (hoph y' hhi)
    refine fin m.toNat (by omega) (by omega) ?_
    rw [hmx, hhi]
    have q1 : 0 ≤ h := by omega
    have q4 : 0 ≤ m := by omega
    have q5 : m ≤ (c : Int) := by omega
    have q2 : h ≤ ((m.toNat : Nat) : Int) := by omega
    cases hlo : lo with
    | none =>
      rw [hlo] at hl; cases hl
      simp [Instr.sliceAt, Instr.slice, run_underlying hu, Instr.sliceBounds, Instr.sliceBound, asIntOf, sizeOf, typeInfo, hi', hz', em, ey', q1, q2, q4, q5]
      omega
    | some y =>
      obtain ⟨k, ey⟩ := val y hlo hl (hopl y hlo)
      have q3 : l ≤ ((h.toNat : Nat) : Int) := by omega
      simp [Instr.sliceAt, Instr.slice, run_underlying hu, Instr.sliceBounds, Instr.sliceBound, asIntOf, sizeOf, typeInfo, hi', hz', em, ey, ey', h0, q1, q2, q3, q4, q5]
      rw [if_pos (by omega), if_pos (by omega)]
/-- A part of bytes. -/
theorem ok_slice_seq {T E : TypeId} {x : Operand} {lo hi mx : Option Operand} {kd : IntKind} {q : List Int} {l h m : Int} (ho : o.op = .slice T x lo hi mx) (hu : Try.prog.underlying T = some (.slice E)) (hsz : szB Try.prog E 1 = true) (hx : avo s x = some (.seq kd q)) (hl : bnd s 0 lo = some l) (hh : bnd s q.length hi = some h) (hm : bnd s q.length mx = some m) (hmh : mx.isSome = true → hi.isSome = true)
    (h0 : 0 ≤ l) (h1 : l ≤ h) (h2 : h ≤ m) (h3 : m ≤ q.length) : LOK Try.prog o s ⟨some (.seq kd ((q.take h.toNat).drop l.toNat)), [], []⟩ := by
  refine lok_val fun s2 hlk W N β w a hs => ?_
  obtain ⟨_, A, c, e1, e2, e3, e4⟩ := hs.opd (x := x) (by rw [hlk.avo (by rw [ho]; simp [Op.operands])]; exact hx)
  have hv : ∀ (y : Operand) (k : IntKind) (z : Int), y ∈ o.op.operands → avo s y = some (.v (.int k z)) → a.eval y = .int k z := fun y k z hy hz => hs.opv (by rw [hlk.avo hy]; exact hz)
  obtain ⟨m', q1, q2, q3⟩ := slice_run1 hu (sz_info hsz) ho hv e1 e2 hl hh hm hmh h0 h1 h2 h3
  refine ⟨_, q3, fun z hz => ?_⟩
  cases hz
  have hlen : ((q.take h.toNat).drop l.toNat).length = h.toNat - l.toNat := by simp; omega
  refine ⟨trivial, _, _, by rw [hlen], by rw [hlen]; omega, by omega, fun i hi => ?_⟩
  rw [hlen] at hi
  obtain ⟨p, rfl, hS, hc⟩ := e4 (l.toNat + i) (by omega)
  have hne : m' ≠ l.toNat := by omega
  have hb : ∀ (p : Addr) (k : Nat), (p.add k).block = p.block := fun p k => by unfold Addr.add; split <;> rfl
  have hadd : ∀ (p : Addr) (j k : Nat), (p.add j).add k = p.add (j + k) := fun p j k => Addr.add_add p j k
  refine ⟨p.add (l.toNat * 1), by rw [if_neg hne]; rfl, by rw [hb]; exact hS, ?_⟩
  have e : ((q.take h.toNat).drop l.toNat).getD i 0 = q.getD (l.toNat + i) 0 := by
    rw [List.getD_eq_getElem?_getD, List.getD_eq_getElem?_getD, List.getElem?_drop, List.getElem?_take_of_lt (by omega)]
  rw [hadd, Nat.mul_one, e]
  exact hc
/-- What is left of a number in a byte. -/
theorem ok_wrap8 {T T' : TypeId} {x : Operand} {k : IntKind} {n : Int} (ho : o.op = .convert T T' x) (hx : avo s x = some (.v (.int k n))) (hu : (Try.prog.underlying T).isSome = true) (hk : Try.prog.underlying T' = some (.int .u8)) : LOK Try.prog o s ⟨some (.v (.int .u8 (n % 256))), [], []⟩ := by
  refine lok_val fun s2 hl W N β w ac hs => ⟨.int .u8 (n % 256), ?_, fun z hz => by cases hz; exact ⟨trivial, rfl⟩⟩
  have h1 : ac.eval x = .int k n := hs.opv (by rw [hl.avo (by rw [ho]; simp [Op.operands])]; exact hx)
  obtain ⟨d, hd⟩ := Option.isSome_iff_exists.1 hu
  unfold execOp; rw [ho]; simp only []; rw [h1]
  have hw : IntKind.u8.wrap n = n % 256 := rfl
  simp [convert, run_underlying hd, run_underlying hk, Conv.intToInt, hw]
/-- Bytes as a text. -/
def bts (l : List Int) : ByteArray := l.foldl (fun r n => r.push (UInt8.ofNat n.toNat)) ByteArray.empty
theorem ok_tostring {T T' E : TypeId} {x : Operand} {l : List Int} (ho : o.op = .convert T T' x) (hx : avo s x = some (.seq .u8 l)) (hu : Try.prog.underlying T = some (.slice E)) (hE : Try.prog.underlying E = some (.int .u8)) (hT : Try.prog.underlying T' = some .string) : LOK Try.prog o s ⟨some (.v (.string (bts l))), [], []⟩ := by
  refine lok_val fun s2 hl W N β w ac hs => ⟨.string (bts l), ?_, fun z hz => by cases hz; exact ⟨trivial, rfl⟩⟩
  obtain ⟨_, A, c, e1, _, _, e4⟩ := hs.opd (x := x) (by rw [hl.avo (by rw [ho]; simp [Op.operands])]; exact hx)
  unfold execOp; rw [ho]; simp only []; rw [e1]
  have key : (Conv.bytesToString (.slice A l.length c)).run Try.prog w = .ok (.string (bts l)) w := by
    cases A with
    | none =>
      have hl0 : l = [] := by
        cases l with
        | nil => rfl
        | cons x l => obtain ⟨p, e, _⟩ := e4 0 (by simp); cases e
      subst hl0
      rfl
    | some p =>
      refine run_bytesToString w p l.length c l ?_
      have := run_loadCells_list (P := Try.prog) w p (l.map (Value.int .u8)) fun j v hv => by
        have hj : j < l.length := by simpa using (List.getElem?_eq_some_iff.1 hv).1
        obtain ⟨p', e, _, hc⟩ := e4 j hj
        cases e
        rw [hc, ← hv, List.getElem?_map, List.getElem?_eq_getElem hj, List.getD_eq_getElem?_getD, List.getElem?_eq_getElem hj]; rfl
      rw [List.length_map] at this
      exact this
  simp [run_convert_bytes_string w T T' E A l.length c hu hE hT, key]
theorem ok_shr {T T' : TypeId} {x y : Operand} {k k' : IntKind} {a b : Int} (ho : o.op = .binOp .shr T x y T') (hx : avo s x = some (.v (.int k a))) (hy : avo s y = some (.v (.int k' b))) (h0 : 0 ≤ b) (h1 : b ≤ 8 ∨ b.toNat ≤ k.bits) : LOK Try.prog o s ⟨some (.v (.int k (a / 2 ^ b.toNat))), [], []⟩ := by
  refine lok_val fun s2 hl W N β w ac hs => ⟨.int k (a / 2 ^ b.toNat), ?_, fun z hz => by cases hz; exact ⟨trivial, rfl⟩⟩
  have e1 : ac.eval x = .int k a := hs.opv (by rw [hl.avo (by rw [ho]; simp [Op.operands])]; exact hx)
  have e2 : ac.eval y = .int k' b := hs.opv (by rw [hl.avo (by rw [ho]; simp [Op.operands])]; exact hy)
  have hb : b.toNat ≤ k.bits := by
    rcases h1 with h1 | h1
    · have : 8 ≤ k.bits := by cases k <;> decide
      omega
    · exact h1
  have hf : a.fdiv (2 ^ b.toNat) = a / 2 ^ b.toNat := Int.fdiv_eq_ediv_of_nonneg a (Int.le_of_lt (Int.pow_pos (by decide)))
  unfold execOp; rw [ho]; simp only []; rw [e1, e2]
  simp [eqGuard, binOp, Op.shift, Nat.min_eq_left hb, hf]
  omega
theorem ok_add8 {T T' : TypeId} {x y : Operand} {a b : Int} (ho : o.op = .binOp .add T x y T') (hx : avo s x = some (.v (.int .u8 a))) (hy : avo s y = some (.v (.int .u8 b))) : LOK Try.prog o s ⟨some (.v (.int .u8 ((a + b) % 256))), [], []⟩ := by
  refine lok_val fun s2 hl W N β w ac hs => ⟨.int .u8 ((a + b) % 256), ?_, fun z hz => by cases hz; exact ⟨trivial, rfl⟩⟩
  have h1 : ac.eval x = .int .u8 a := hs.opv (by rw [hl.avo (by rw [ho]; simp [Op.operands])]; exact hx)
  have h2 : ac.eval y = .int .u8 b := hs.opv (by rw [hl.avo (by rw [ho]; simp [Op.operands])]; exact hy)
  unfold execOp; rw [ho]; simp only []; rw [h1, h2]
  have hw : IntKind.u8.wrap (a + b) = (a + b) % 256 := rfl
  simp [eqGuard, binOp, Op.intArith, hw]
end
def u8T : List TypeId := [5]
theorem u8_all : u8T.all (fun T => isKind .u8 (Try.prog.underlying T)) = true := by kernel_rfl
def bytesT : List TypeId := [28]
theorem bytes_all : bytesT.all (fun T => isSlice (Try.prog.underlying T) && (szB Try.prog (sliceE (Try.prog.underlying T)) 1 && isKind .u8 (Try.prog.underlying (sliceE (Try.prog.underlying T))))) = true := by kernel_rfl
theorem bytes_ok {T : TypeId} (h : memN T bytesT = true) : ∃ E, Try.prog.underlying T = some (.slice E) ∧ szB Try.prog E 1 = true ∧ Try.prog.underlying E = some (.int .u8) := by
  have h := List.all_eq_true.1 bytes_all T (memN_spec h)
  rw [Bool.and_eq_true, Bool.and_eq_true] at h
  obtain ⟨h1, h2, h3⟩ := h
  have key : ∀ d : Option TypeDesc, Try.prog.underlying T = d → isSlice d = true → szB Try.prog (sliceE d) 1 = true → isKind .u8 (Try.prog.underlying (sliceE d)) = true → ∃ E, Try.prog.underlying T = some (.slice E) ∧ szB Try.prog E 1 = true ∧ Try.prog.underlying E = some (.int .u8) := by
    intro d e k1 k2 k3
    cases d with
    | none => cases k1
    | some d =>
      cases d with
      | slice E => exact ⟨E, e, k2, isKind_eq k3⟩
      | _ => cases k1
  exact key _ rfl h1 h2 h3
def strT : List TypeId := [9]
def isStr : Option TypeDesc → Bool
  | some .string => true
  | _ => false
theorem str_all : strT.all (fun T => isStr (Try.prog.underlying T)) = true := by kernel_rfl
theorem str_ok {T : TypeId} (h : memN T strT = true) : Try.prog.underlying T = some .string := by
  have h := List.all_eq_true.1 str_all T (memN_spec h)
  generalize Try.prog.underlying T = d at *
  cases d with
  | none => cases h
  | some d => cases d <;> first | rfl | cases h
def errT : List TypeId := [46]
theorem err_all : errT.all (fun T => isSlice (Try.prog.underlying T) && szB Try.prog (sliceE (Try.prog.underlying T)) 1) = true := by kernel_rfl
theorem err_el : ∀ T, memN T errT = true → ∃ E, Try.prog.underlying T = some (.slice E) ∧ szB Try.prog E 1 = true := by
  intro T h
  have h := List.all_eq_true.1 err_all T (memN_spec h)
  rw [Bool.and_eq_true] at h
  obtain ⟨h1, h2⟩ := h
  generalize Try.prog.underlying T = d at *
  cases d with
  | none => cases h1
  | some d =>
    cases d with
    | slice E => exact ⟨E, rfl, h2⟩
    | _ => cases h1
/-- Bytes that are laid in a row. -/
def u8s : List AV → Option (List Int)
  | [] => some []
  | .v (.int .u8 n) :: l => match u8s l with
    | some ns => some (n :: ns)
    | none => none
  | _ :: _ => none
theorem u8s_get : ∀ {l : List AV} {qs : List Int}, u8s l = some qs → qs.length = l.length ∧ ∀ (j : Nat), j < l.length → l.getD j (.v undef) = AV.v (.int .u8 (qs.getD j 0))
  | [], qs, h => by cases h; exact ⟨rfl, fun j hj => absurd hj (Nat.not_lt_zero _)⟩
  | .v (.int .u8 n) :: l, qs, h => by
    unfold u8s at h
    split at h
    · rename_i ns e
      cases h
      obtain ⟨h1, h2⟩ := u8s_get e
      refine ⟨by simp [h1], fun j hj => ?_⟩
      cases j with
      | zero => rfl
      | succ j => exact h2 j (by simpa using hj)
    · cases h
/-- Further steps. -/
def ev3 (o : Oper) (s : St) : Ev :=
  match o.op with
  | .buildSlice T n parts => (match celT T with
    | some m => (match avos s parts.toList with
      | some ys => (match flat m ys with
        | some r => out (.arr n m (fun i => r.getD i (.v undef))) (idxs 0 parts.toList = true ∧ parts.toList.length = n ∧ n * m ≤ 100000 ∧ 0 < m) []
        | none => none)
      | none => none)
    | none => bif memN T bytesT then (match avos s parts.toList, o.dst with
      | some (y :: ys), some _ => (match u8s (y :: ys), elT T with
        | some qs, some _ => outP s o.dst (.seq .u8 qs) (idxs 0 parts.toList = true ∧ parts.toList.length = n ∧ n ≤ 100000 ∧ (y :: ys).all (·.one) = true)
        | _, _ => none)
      | _, _ => none) else none)
  | .indexAddr T x y => (match avo s x, avo s y with
    | some (.arr n m f), some (.v (.int _ z)) => (match celT T with
      | some m' => bif Nat.beq m' m then (bif Nat.beq m 1 then out (.cp (f z.toNat)) (0 ≤ z ∧ z < n) [] else out (.pa m (fun j => f (z.toNat * m + j))) (0 < m ∧ 0 ≤ z ∧ z < n) []) else none
      | none => none)
    | some (.seq k l), some (.v (.int _ z)) => bif memN T errT then out (.cp (.v (.int k (l.getD z.toNat 0)))) (0 ≤ z ∧ z < l.length) [] else none
    | _, _ => none)
  | .load T x => (match avo s x with
    | some (.pa m f) => out (.ag m f) (isAggD (Try.prog.underlying T) = true ∧ szB Try.prog T m = true) []
    | _ => none)
  | .fieldAddr T x j => (match avo s x with
    | some (.pa m f) => out (.cp (f j)) (fieldB Try.prog T j j = true ∧ j < m) []
    | _ => none)
  | .binOp .add T x y _ => (match avo s x, avo s y with
    | some (.v (.string a)), some (.v (.string b)) => out (.v (.string (a ++ b))) (a.size + b.size ≤ 1000000) []
    | some (.v (.int .u8 a)), some (.v (.int .u8 b)) => out (.v (.int .u8 ((a + b) % 256))) True []
    | _, _ => none)
  | .binOp .eql T x y _ => (match avo s x, avo s y with
    | some (.v (.string a)), some (.v (.string b)) => out (.v (.bool (a.toList == b.toList))) True []
    | _, _ => none)
  | .binOp .shr T x y _ => (match avo s x, avo s y with
    | some (.v (.int k a)), some (.v (.int _ b)) => out (.v (.int k (a / 2 ^ b.toNat))) (0 ≤ b ∧ (b ≤ 8 ∨ b.toNat ≤ k.bits)) []
    | _, _ => none)
  | .slice T x lo hi mx => bif memN T bytesT then (match avo s x with
    | some (.seq k q) => (match bnd s 0 lo, bnd s q.length hi, bnd s q.length mx with
      | some l, some h, some m => out (.seq k ((q.take h.toNat).drop l.toNat)) ((mx.isSome = true → hi.isSome = true) ∧ 0 ≤ l ∧ l ≤ h ∧ h ≤ m ∧ m ≤ q.length) []
      | _, _, _ => none)
    | _ => none) else none
  | .convert T T' x => (match avo s x with
    | some (.v (.int _ n)) => bif memN T' u8T then (match kindOf T with
      | some _ => out (.v (.int .u8 (n % 256))) True []
      | none => none) else none
    | some (.seq .u8 l) => bif memN T bytesT && memN T' strT then out (.v (.string (bts l))) True [] else none
    | _ => none)
  | _ => none
theorem ev3_ok {o : Oper} {s : St} {D : Dsc} {c : Prop} (h : ev3 o s = some (D, c)) (hc : c) : LOK Try.prog o s D := by
  unfold ev3 at h
  split at h
  · rename_i T n parts ho
    split at h
    · rename_i m e
      obtain ⟨E, hT⟩ := cel_ok e
      split at h
      · rename_i ys e1
        split at h
        · rename_i r e2
          obtain ⟨rfl, rfl⟩ := out_inj h
          exact ok_build_arr ho hT hc.1 hc.2.1 hc.2.2 e1 e2
        · cases h
      · cases h
    · cases eb : memN T bytesT with
      | false => rw [eb] at h; cases h
      | true =>
        rw [eb, cond_true] at h
        split at h
        · rename_i y ys d e1 e0
          split at h
          · rename_i qs p e2 e3
            obtain ⟨E, z⟩ := p
            obtain ⟨bytes, he⟩ := el_ok e3
            obtain ⟨hu, rfl, rfl⟩ := outP_inj h
            obtain ⟨hq1, hq2⟩ := u8s_get e2
            have hlen := avos_len e1
            rw [e0] at hu ⊢
            exact lok_pub (ok_build_one ho he hu hc.1 hc.2.1 hc.2.2.1 e1 hc.2.2.2) e0 fun s' h1 h2 => imp_seq d qs h1 h2 rfl (by rw [hq1, hlen, hc.2.1]) fun i hi => hq2 i (by rw [hlen, hc.2.1]; exact hi)
          · cases h
        · cases h
  · rename_i T x y ho
    split at h
    · rename_i n m f k z e1 e2
      split at h
      · rename_i m' e
        cases hm : Nat.beq m' m with
        | false => rw [hm] at h; cases h
        | true =>
          have hm := Nat.eq_of_beq_eq_true hm
          subst hm
          obtain ⟨E, hT⟩ := cel_ok e
          rw [Nat.beq_refl, cond_true] at h
          cases h1 : Nat.beq m' 1 with
          | true =>
            rw [h1, cond_true] at h
            have h1 := Nat.eq_of_beq_eq_true h1
            subst h1
            obtain ⟨rfl, rfl⟩ := out_inj h
            exact ok_index_one ho hT e1 e2 hc.1 hc.2
          | false =>
            rw [h1, cond_false] at h
            obtain ⟨rfl, rfl⟩ := out_inj h
            exact ok_index_many ho hT hc.1 e1 e2 hc.2.1 hc.2.2
      · cases h
    · rename_i k l k' z e1 e2
      cases e : memN T errT with
      | false => rw [e] at h; cases h
      | true =>
        rw [e, cond_true] at h
        obtain ⟨E, hu, hz⟩ := err_el T e
        obtain ⟨rfl, rfl⟩ := out_inj h
        exact ok_index_seq ho hu hz e1 e2 hc.1 hc.2
    · cases h
  · rename_i T x ho
    split at h
    · rename_i e1; obtain ⟨rfl, rfl⟩ := out_inj h; exact ok_load_pa ho hc.1 hc.2 e1
    · cases h
  · rename_i T x j ho
    split at h
    · rename_i e1; obtain ⟨rfl, rfl⟩ := out_inj h; exact ok_field_pa ho hc.1 hc.2 e1
    · cases h
  · rename_i T x y T' ho
    split at h
    · rename_i e1 e2; obtain ⟨rfl, rfl⟩ := out_inj h; exact ok_addstr ho e1 e2 hc
    · rename_i e1 e2; obtain ⟨rfl, rfl⟩ := out_inj h; exact ok_add8 ho e1 e2
    · cases h
  · rename_i T x y T' ho
    split at h
    · rename_i e1 e2; obtain ⟨rfl, rfl⟩ := out_inj h; exact ok_eqstr ho e1 e2 rfl
    · cases h
  · rename_i T x y T' ho
    split at h
    · rename_i e1 e2; obtain ⟨rfl, rfl⟩ := out_inj h; exact ok_shr ho e1 e2 hc.1 hc.2
    · cases h
  · rename_i T x lo hi mx ho
    cases e : memN T bytesT with
    | false => rw [e] at h; cases h
    | true =>
      rw [e, cond_true] at h
      obtain ⟨E, hu, hz, _⟩ := bytes_ok e
      split at h
      · rename_i e1
        split at h
        · rename_i a1 a2 a3; obtain ⟨rfl, rfl⟩ := out_inj h; exact ok_slice_seq ho hu hz e1 a1 a2 a3 hc.1 hc.2.1 hc.2.2.1 hc.2.2.2.1 hc.2.2.2.2
        · cases h
      · cases h
  · rename_i T T' x ho
    split at h
    · rename_i k n e1
      cases e : memN T' u8T with
      | false => rw [e] at h; cases h
      | true =>
        rw [e, cond_true] at h
        split at h
        · rename_i k' e2
          obtain ⟨rfl, rfl⟩ := out_inj h
          exact ok_wrap8 ho e1 (by rw [kind_ok e2]; rfl) (isKind_eq (List.all_eq_true.1 u8_all T' (memN_spec e)))
        · cases h
    · rename_i l e1
      cases e : memN T bytesT && memN T' strT with
      | false => rw [e] at h; cases h
      | true =>
        rw [e, cond_true] at h
        rw [Bool.and_eq_true] at e
        obtain ⟨E, hu, _, hE⟩ := bytes_ok e.1
        obtain ⟨rfl, rfl⟩ := out_inj h
        exact ok_tostring ho e1 hu hE (str_ok e.2)
    · cases h
  · cases h
end Go.Proofs.Ytpclkgjhfhhddaa.AM
/- Limbs that are read, bits of limbs, a number's limbs laid in place. -/
namespace Go.Proofs.Ytpclkgjhfhhddaa.AM
open Go Go.RowKit Go.Proofs.Ytpclkgjhfhhddaa.PN Go.Proofs.Ytpclkgjhfhhddaa.V
set_option linter.unusedVariables false
set_option linter.unusedSimpArgs false
def limT : List TypeId := [41]
theorem lim_all : limT.all (fun T => isSlice (Try.prog.underlying T) && szB Try.prog (sliceE (Try.prog.underlying T)) 1) = true := by kernel_rfl
theorem lim_ok {T : TypeId} (h : memN T limT = true) : ∃ E, Try.prog.underlying T = some (.slice E) ∧ szB Try.prog E 1 = true := by
  have h := List.all_eq_true.1 lim_all T (memN_spec h)
  rw [Bool.and_eq_true] at h
  obtain ⟨h1, h2⟩ := h
  have key : ∀ d : Option TypeDesc, Try.prog.underlying T = d → isSlice d = true → szB Try.prog (sliceE d) 1 = true → ∃ E, Try.prog.underlying T = some (.slice E) ∧ szB Try.prog E 1 = true := by
    intro d e k1 k2
    cases d with
    | none => cases k1
    | some d =>
      cases d with
      | slice E => exact ⟨E, e, k2⟩
      | _ => cases k1
  exact key _ rfl h1 h2
def shlN (a b : Int) : Int := a * 2 ^ b.toNat % 4294967296
def borN (a b : Int) : Int := ((BitVec.ofInt 32 a ||| BitVec.ofInt 32 b).toNat : Int)
section
variable {o : Oper} {s : St}
theorem ok_index_lb {x y : Operand} {T E : TypeId} {l : List Nat} {k : IntKind} {z : Int} (ho : o.op = .indexAddr T x y) (hu : Try.prog.underlying T = some (.slice E)) (hz : szB Try.prog E 1 = true) (hx : avo s x = some (.lb l)) (hy : avo s y = some (.v (.int k z))) (h0 : 0 ≤ z) (h1 : z < l.length) : LOK Try.prog o s ⟨some (.lp (.int .u32 (l.getD z.toNat 0 : Nat))), [], []⟩ := by
  refine lok_val fun s2 hl W N β w a hs => ?_
  obtain ⟨_, A, c, e1, _, e2⟩ := hs.opd (x := x) (by rw [hl.avo (by rw [ho]; simp [Op.operands])]; exact hx)
  have e3 : a.eval y = .int k z := hs.opv (by rw [hl.avo (by rw [ho]; simp [Op.operands])]; exact hy)
  obtain ⟨b, off, cs, rfl, hr, hc⟩ := e2 z.toNat (by omega)
  refine ⟨_, by unfold execOp; rw [ho]; simp only []; rw [e1, e3]; simp only [Sem.run_bind, run_index hu (sz_info hz) w _ l.length c k z h0 h1]; rfl, fun q hq => ?_⟩
  cases hq
  exact ⟨trivial, b, off + z.toNat, cs, by rw [Nat.mul_one, add_at], hr, hc⟩
theorem ok_load_lp {x : Operand} {T : TypeId} {y : Value} (ho : o.op = .load T x) (hT : memN T flatT = true) (hx : avo s x = some (.lp y)) : LOK Try.prog o s ⟨some (.v y), [], []⟩ := by
  refine lok_val fun s2 hl W N β w ac hs => ?_
  obtain ⟨_, b, off, cs, h1, hr, hc⟩ := hs.opd (x := x) (by rw [hl.avo (by rw [ho]; simp [Op.operands])]; exact hx)
  exact ⟨y, by unfold execOp; rw [ho]; simp only []; rw [h1]; simp [run_loadflat hT (show w.cell? ⟨b, off, none⟩ = some y by rw [cell_of_row w b _ cs U32 (0, 0) hr]; exact hc)], fun z hz => by cases hz; exact ⟨trivial, rfl⟩⟩
theorem ok_shl {T T' : TypeId} {x y : Operand} {k' : IntKind} {a b : Int} (ho : o.op = .binOp .shl T x y T') (hx : avo s x = some (.v (.int .u32 a))) (hy : avo s y = some (.v (.int k' b))) (h0 : 0 ≤ b) (h1 : b ≤ 32) : LOK Try.prog o s ⟨some (.v (.int .u32 (shlN a b))), [], []⟩ := by
  refine lok_val fun s2 hl W N β w ac hs => ⟨.int .u32 (shlN a b), ?_, fun z hz => by cases hz; exact ⟨trivial, rfl⟩⟩
  have e1 : ac.eval x = .int .u32 a := hs.opv (by rw [hl.avo (by rw [ho]; simp [Op.operands])]; exact hx)
  have e2 : ac.eval y = .int k' b := hs.opv (by rw [hl.avo (by rw [ho]; simp [Op.operands])]; exact hy)
  have hb : b.toNat ≤ IntKind.u32.bits := by show b.toNat ≤ 32; omega
  have hw : ∀ n : Int, IntKind.u32.wrap n = n % 4294967296 := fun n => rfl
  unfold execOp; rw [ho]; simp only []; rw [e1, e2]
  simp [eqGuard, binOp, Op.shift, Nat.min_eq_left hb, hw, shlN]
  try omega
theorem ok_bor {T T' : TypeId} {x y : Operand} {a b : Int} (ho : o.op = .binOp .or T x y T') (hx : avo s x = some (.v (.int .u32 a))) (hy : avo s y = some (.v (.int .u32 b))) : LOK Try.prog o s ⟨some (.v (.int .u32 (borN a b))), [], []⟩ := by
  refine lok_val fun s2 hl W N β w ac hs => ⟨.int .u32 (borN a b), ?_, fun z hz => by cases hz; exact ⟨trivial, rfl⟩⟩
  have e1 : ac.eval x = .int .u32 a := hs.opv (by rw [hl.avo (by rw [ho]; simp [Op.operands])]; exact hx)
  have e2 : ac.eval y = .int .u32 b := hs.opv (by rw [hl.avo (by rw [ho]; simp [Op.operands])]; exact hy)
  have hw : IntKind.u32.wrap ((BitVec.ofInt 32 a ||| BitVec.ofInt 32 b).toNat : Int) = borN a b := by
    have h1 : IntKind.u32.wrap ((BitVec.ofInt 32 a ||| BitVec.ofInt 32 b).toNat : Int) = ((BitVec.ofInt 32 a ||| BitVec.ofInt 32 b).toNat : Int) % 4294967296 := rfl
    have h2 := (BitVec.ofInt 32 a ||| BitVec.ofInt 32 b).isLt
    rw [h1]
    unfold borN
    omega
  have hop : (Op.intBits .or .u32 a b).run Try.prog = fun w => .ok (.int .u32 (borN a b)) w := by
    funext w
    show Result.ok (Value.int .u32 (IntKind.u32.wrap ((BitVec.ofInt 32 a ||| BitVec.ofInt 32 b).toNat : Int))) w = _
    rw [hw]
  unfold execOp; rw [ho]; simp only []; rw [e1, e2]
  simp [eqGuard, binOp, hop]
def rawSet (j : Nat) (l : List Nat) : RA → RA
  | .raw s n d => bif Nat.beq j 1 then .raw s l d else .raw s n l
  | .q p => .q p
theorem ok_store_fld {x y : Operand} {T : TypeId} {g r i j n m : Nat} {F : Nat → Blk} {f : Nat → RA} {l a b : List Nat} {sg : Bool} (hd : o.dst = none) (ho : o.op = .store T x y) (hT : memN T flatT = true) (hx : avo s x = some (.fld g r i j)) (hy : avo s y = some (.lb l)) (hg : s.heap g = some (n, F)) (hr : r < n) (hF : F r = .rats m f) (hi : i < m) (hf : f i = .raw sg a b) (hj : j = 1 ∨ j = 2) :
    LOK Try.prog o s ⟨none, [(g, some (n, updN F r (.rats m (updN f i (bif Nat.beq j 1 then .raw sg l b else .raw sg a l)))))], [g]⟩ := by
  refine lok_turn hd hg hr (List.mem_singleton.2 rfl) (fun r' _ hne => updN_ne _ _ hne) fun s2 hl W N β w ac hs hg2 => ?_
  obtain ⟨_, k, hb, h1⟩ := hs.opd (x := x) (by rw [hl.avo (by rw [ho]; simp [Op.operands])]; exact hx)
  obtain ⟨_, h2⟩ := hs.opd (x := y) (by rw [hl.avo (by rw [ho]; simp [Op.operands])]; exact hy)
  have h2 : Lbs w (ac.eval y) l := h2
  have h := (hs.heap g n F r hg2 hr).2
  rw [hF] at h
  obtain ⟨cs, hB, hrow, hat, h4⟩ := rb_rats h hb
  have hsz := at_size hat
  have hfit : i * 3 + 3 ≤ cs.size := by have := Nat.mul_le_mul_right 3 (show i + 1 ≤ m by omega); omega
  have he : Ext (fun q => q = k) w (w.setRow k (seg cs (i * 3 + j) [ac.eval y])) := Ext.row_set hrow (by decide)
  have hv : (ac.eval y).oneCell' = true := by obtain ⟨A, c, e, _⟩ := h2; rw [e]; rfl
  have hrun := run_storeflat hT hrow (by omega : i * 3 + j < cs.size) hv
  refine ⟨_, by unfold execOp; rw [ho]; simp only []; rw [h1]; simp only [Sem.run_bind, hrun]; rfl, he.mono (fun q hq => by rw [hq]; exact hb), Kept.row_set hs.kept hB _, by rw [updN_same]; trivial, ?_⟩
  rw [updN_same]
  refine .inr ⟨k, _, hB, setRow_heap w k cs _ RT _ hrow, by rw [seg_size (by simp; omega)]; exact hat, fun t ht => ?_⟩
  obtain ⟨s0, n0, d0, a0, a1, a2, a3⟩ := h4 t ht
  have hin : (seg cs (i * 3 + j) [ac.eval y])[i * 3 + j]? = some (ac.eval y) := by
    have := seg_in (cs := cs) (o := i * 3 + j) (vs := [ac.eval y]) (j := 0) (by simp; omega) (by simp)
    simpa using this
  have hout : ∀ q, q ≠ i * 3 + j → (seg cs (i * 3 + j) [ac.eval y])[q]? = cs[q]? := fun q hq => seg_out (by simp; omega) (by simp; omega)
  by_cases e : t = i
  · subst e
    rw [updN_same]
    rw [hf] at a3
    obtain ⟨b0, b1, b2⟩ := a3
    rcases hj with rfl | rfl
    · exact ⟨s0, ac.eval y, d0, (hout _ (by omega)).trans a0, hin, (hout _ (by omega)).trans a2, b0, lbs_ext h2 he, lbs_ext b2 he⟩
    · exact ⟨s0, n0, ac.eval y, (hout _ (by omega)).trans a0, (hout _ (by omega)).trans a1, hin, b0, lbs_ext b1 he, lbs_ext h2 he⟩
  · rw [updN_ne _ _ e]
    exact ⟨s0, n0, d0, (hout _ (by omega)).trans a0, (hout _ (by omega)).trans a1, (hout _ (by omega)).trans a2, r3_ext a3 he⟩
end
def ev4 (o : Oper) (s : St) : Ev :=
  match o.op with
  | .indexAddr T x y => bif memN T limT then (match avo s x, avo s y with
    | some (.lb l), some (.v (.int _ z)) => out (.lp (.int .u32 (l.getD z.toNat 0 : Nat))) (0 ≤ z ∧ z < l.length) []
    | _, _ => none) else none
  | .load T x => bif memN T flatT then (match avo s x with
    | some (.lp y) => out (.v y) True []
    | _ => none) else none
  | .binOp .shl T x y _ => (match avo s x, avo s y with
    | some (.v (.int .u32 a)), some (.v (.int _ b)) => out (.v (.int .u32 (shlN a b))) (0 ≤ b ∧ b ≤ 32) []
    | _, _ => none)
  | .binOp .or T x y _ => (match avo s x, avo s y with
    | some (.v (.int .u32 a)), some (.v (.int .u32 b)) => out (.v (.int .u32 (borN a b))) True []
    | _, _ => none)
  | .store T x y => (match o.dst with
    | some _ => none
    | none => bif memN T flatT then (match avo s x, avo s y with
      | some (.fld g r i j), some (.lb l) => (match s.heap g with
        | some (n, F) => (match F r with
          | .rats m f => (match f i with
            | .raw sg a b => outS g n (updN F r (.rats m (updN f i (bif Nat.beq j 1 then .raw sg l b else .raw sg a l)))) (r < n ∧ i < m ∧ (j = 1 ∨ j = 2))
            | _ => none)
          | _ => none)
        | none => none)
      | _, _ => none) else none)
  | _ => none
theorem ev4_ok {o : Oper} {s : St} {D : Dsc} {c : Prop} (h : ev4 o s = some (D, c)) (hc : c) : LOK Try.prog o s D := by
  unfold ev4 at h
  split at h
  · rename_i T x y ho
    cases e : memN T limT with
    | false => rw [e] at h; cases h
    | true =>
      rw [e, cond_true] at h
      obtain ⟨E, hu, hz⟩ := lim_ok e
      split at h
      · rename_i e1 e2; obtain ⟨rfl, rfl⟩ := out_inj h; exact ok_index_lb ho hu hz e1 e2 hc.1 hc.2
      · cases h
  · rename_i T x ho
    cases e : memN T flatT with
    | false => rw [e] at h; cases h
    | true =>
      rw [e, cond_true] at h
      split at h
      · rename_i e1; obtain ⟨rfl, rfl⟩ := out_inj h; exact ok_load_lp ho e e1
      · cases h
  · rename_i T x y T' ho
    split at h
    · rename_i e1 e2; obtain ⟨rfl, rfl⟩ := out_inj h; exact ok_shl ho e1 e2 hc.1 hc.2
    · cases h
  · rename_i T x y T' ho
    split at h
    · rename_i e1 e2; obtain ⟨rfl, rfl⟩ := out_inj h; exact ok_bor ho e1 e2
    · cases h
  · rename_i T x y ho
    split at h
    · cases h
    · rename_i hd
      cases e : memN T flatT with
      | false => rw [e] at h; cases h
      | true =>
        rw [e, cond_true] at h
        split at h
        · rename_i g r i j l e1 e2
          split at h
          · rename_i n F e3
            split at h
            · rename_i m f e4
              split at h
              · rename_i sg a b e5
                obtain ⟨rfl, rfl⟩ := outS_inj h
                exact ok_store_fld hd ho e e1 e2 e3 hc.1 e4 hc.2.1 e5 hc.2.2
              · cases h
            · cases h
          · cases h
        · cases h
  · cases h
end Go.Proofs.Ytpclkgjhfhhddaa.AM
/- Parts of an own slice that is written no more. -/
namespace Go.Proofs.Ytpclkgjhfhhddaa.AM
open Go Go.RowKit Go.Proofs.Ytpclkgjhfhhddaa.PN Go.Proofs.Ytpclkgjhfhhddaa.V
set_option linter.unusedVariables false
set_option linter.unusedSimpArgs false
theorem sl_row {S S' : Nat → Prop} {B : Nat} {β : Nat → Nat → Value} {w : World} {g r off k n : Nat} {v : Value} {f : Nat → RA} (hv : RV S B β w (.sl g r off k) v) (hb : RB S B β w (β g r) (.rats n f)) (hk : off + k ≤ n) (h2 : ∀ b, ub (β g r) = some b → S' b) : RowV S' B w true k (fun i => f (off + i)) v := by
  obtain ⟨A, c, e1, e2, e3, e4⟩ := hv
  refine ⟨A, c, e1, e2, e3, fun i hi => ?_⟩
  obtain ⟨b, q1, q2⟩ := e4 (by omega)
  obtain ⟨cs, hB, hr, hat, hx⟩ := rb_rats hb q1
  obtain ⟨s, vn, vd, a0, a1, a2, a3⟩ := hx (off + i) (by omega)
  refine ⟨b, off * 3, q2, h2 b q1, fun _ => hB, cs, s, vn, vd, hr, ?_, ?_, ?_, a3⟩
  · rw [← Nat.add_mul]; exact a0
  · rw [← Nat.add_mul]; exact a1
  · rw [← Nat.add_mul]; exact a2
/-- What a part becomes. -/
def Pubd (g n : Nat) (q : Nat → RA) (x y : AV) : Prop := x = y ∨ ∃ off k, x = .sl g 0 off k ∧ off + k ≤ n ∧ y = .row true k (fun i => q (off + i))
theorem imp_pubsl {s : St} (g g' : Nat) {n m : Nat} {T : TypeId} {F F' : Nat → Blk} {f f' : Nat → AV} {q : Nat → RA} (hg : s.heap g = some (1, F)) (hF : F 0 = .rats n q) (hg' : s.heap g' = some (1, F')) (hF' : F' 0 = .ones T m f) (hf : ∀ i, i < m → Pubd g n q (f i) (f' i)) (hne : g ≠ g') :
    Imp s ⟨s.env, put (put s.heap g none) g' (some (1, fun _ => .ones T m f')), s.used⟩ := by
  intro W N β w a hs
  have hheap : ∀ h n1 F1 r, put (put s.heap g none) g' (some (1, fun _ => .ones T m f')) h = some (n1, F1) → r < n1 → ∃ n2 F2, s.heap h = some (n2, F2) ∧ r < n2 ∧ h ≠ g ∧ (h = g' → F1 r = .ones T m f' ∧ r = 0) ∧ (h ≠ g' → F1 = F2) := by
    intro h n1 F1 r e1 e2
    by_cases c1 : h = g'
    · subst c1
      rw [put_same] at e1; cases e1
      obtain rfl : r = 0 := by omega
      exact ⟨1, F', hg', by decide, fun e => hne e.symm, fun _ => ⟨rfl, rfl⟩, fun e => absurd rfl e⟩
    · rw [put_ne _ _ c1] at e1
      by_cases c2 : h = g
      · subst c2; rw [put_same] at e1; cases e1
      · rw [put_ne _ _ c2] at e1
        exact ⟨n1, F1, e1, e2, c2, fun e => absurd e c1, fun _ => rfl⟩
  generalize hs' : (⟨s.env, put (put s.heap g none) g' (some (1, fun _ => .ones T m f')), s.used⟩ : St) = s'
  have hown : ∀ k, Own s' β k → Own s β k ∧ ub (β g 0) ≠ some k := by
    rintro k ⟨h, n1, F1, r, h1, h2, h3⟩
    subst hs'
    obtain ⟨n2, F2, a1, a2, a3, _⟩ := hheap h n1 F1 r h1 h2
    exact ⟨⟨h, n2, F2, r, a1, a2, h3⟩, fun e => a3 (hs.inj _ _ _ _ _ _ _ _ k a1 a2 hg (by decide) h3 e).1⟩
  have kf : Fwd (notOwn W s β) (notOwn W s' β) W.w.heap.size W.w.heap.size s.used β β (fun _ => False) w w :=
    ⟨Ext.refl _ _, fun _ _ h => h, fun b hb _ => ⟨hb.1, fun ho => hb.2 (hown b ho).1⟩, Nat.le_refl _, fun _ _ _ => rfl⟩
  have hpub : ∀ b, ub (β g 0) = some b → notOwn W s' β b := fun b hb => ⟨fun hlt => W.law b (own_lt hs ⟨g, 1, F, 0, hg, by decide, hb⟩).1 hlt (hs.pin b ⟨g, 1, F, 0, hg, by decide, hb⟩), fun ho => (hown b ho).2 hb⟩
  refine ⟨β, hs.kept, hs.nodef, hs.size, fun t z hz => ?_, fun h n1 F1 r h1 h2 => ?_, fun h n1 F1 h1 => ?_, fun g1 n1 F1 r1 g2 n2 F2 r2 k h1 h2 h3 h4 h5 h6 => ?_, hs.fix, fun i ho => hs.pin i (hown i ho).1, by subst hs'; exact hs.fixd, by subst hs'; exact hs.keep⟩
  · subst hs'
    exact ⟨(hs.env t z hz).1, (hs.env t z hz).2.fwd kf (hs.env t z hz).1⟩
  · have h1' : put (put s.heap g none) g' (some (1, fun _ => .ones T m f')) h = some (n1, F1) := by subst hs'; exact h1
    have hu : s'.used = s.used := by subst hs'; rfl
    rw [hu]
    obtain ⟨n2, F2, a1, a2, a3, a4, a5⟩ := hheap h n1 F1 r h1' h2
    obtain ⟨q1, q2⟩ := hs.heap h n2 F2 r a1 a2
    by_cases c1 : h = g'
    · obtain ⟨e1, rfl⟩ := a4 c1
      subst c1
      rw [hg'] at a1; cases a1
      rw [hF'] at q1 q2
      have q3 := RB.fwd kf q1 (fun _ _ h => h) q2
      have hb := (hs.heap g 1 F 0 hg (by decide)).2
      rw [hF] at hb
      rw [e1]
      refine ⟨fun j hj => ?_, q3.1, ?_⟩
      · rcases hf j hj with e | ⟨off, k, e2, e3, e4⟩
        · rw [← e]; exact q1 j hj
        · rw [e4]; exact True.intro
      · rcases q3.2 with e | ⟨k, cs, hB, hr, hat, hx⟩
        · exact .inl e
        · refine .inr ⟨k, cs, hB, hr, hat, fun j hj => ?_⟩
          obtain ⟨y, b1, b2, b3⟩ := hx j hj
          rcases hf j hj with e | ⟨off, k', e2, e3, e4⟩
          · exact ⟨y, b1, b2, by rw [← e]; exact b3⟩
          · rw [e2] at b3
            refine ⟨y, b1, b2, ?_⟩
            rw [e4]
            exact sl_row (g := g) (r := 0) (S := notOwn W s' β) b3 (RB.fwd (b := .rats n q) kf True.intro (fun _ _ h => h) hb) e3 hpub
    · rw [a5 c1]
      exact ⟨q1, RB.fwd kf q1 (fun _ _ h => h) q2⟩
  · subst hs'
    by_cases c1 : h = g'
    · subst c1; exact hs.live _ _ _ hg'
    · have h1 : put (put s.heap g none) g' _ h = _ := h1
      rw [put_ne _ _ c1] at h1
      by_cases c2 : h = g
      · subst c2; rw [put_same] at h1; cases h1
      · rw [put_ne _ _ c2] at h1; exact hs.live _ _ _ h1
  · subst hs'
    obtain ⟨m1, G1, a1, a2, _⟩ := hheap g1 n1 F1 r1 h1 h2
    obtain ⟨m2, G2, b1, b2, _⟩ := hheap g2 n2 F2 r2 h3 h4
    exact hs.inj _ _ _ _ _ _ _ _ k a1 a2 b1 b2 h5 h6
end Go.Proofs.Ytpclkgjhfhhddaa.AM

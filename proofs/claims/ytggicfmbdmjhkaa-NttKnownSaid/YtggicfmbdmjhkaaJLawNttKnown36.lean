/- Joined texts, 36: AmO RatC RatD RatE RatF RatG RefA RefB RefC RefD RefE RefF RefG RefH PBit RefI SRatA SRatB SRatC SRatD SRatE SRatF SRatG AmP LDet. -/
import Derived.Test.YtggicfmbdmjhkaaJLawNttKnown35
import Derived.Test.YtggicfmbdmjhkaaJLawNttKnown30
set_option linter.unusedVariables false
set_option linter.unusedSimpArgs false
/- Structs that are written out. -/
namespace Go.Proofs.Ytggicfmbdmjhkaa.AM
open Go Go.RowKit Go.Proofs.Ytggicfmbdmjhkaa.PN Go.Proofs.Ytggicfmbdmjhkaa.V
set_option linter.unusedVariables false
set_option linter.unusedSimpArgs false
def setAll {α : Type} (l : List α) (off : Nat) : List α → List α
  | [] => l
  | y :: ys => setAll (l.set off y) (off + 1) ys
/-- A part's cells. -/
def AV.cells : AV → List AV
  | .ra q => [.rs q, .rn q, .rd q]
  | .ag n f => (List.range n).map f
  | y => [y]
def fillA (pl : List (Nat × Nat)) (cells : List AV) : List (Nat × AV) → Option (List AV)
  | [] => some cells
  | (i, y) :: rest => match pl[i]? with
    | some (off, sz) => bif Nat.beq y.cells.length sz && Nat.ble (off + sz) cells.length then fillA pl (setAll cells off y.cells) rest else none
    | none => none
def CellsRV (S : Nat → Prop) (B : Nat) (β : Nat → Nat → Value) (w : World) (U : Nat → Bool) (cs : List Value) (l : List AV) : Prop :=
  cs.length = l.length ∧ ∀ (i : Nat) (y : AV) (v : Value), l[i]? = some y → cs[i]? = some v → y.ok U ∧ v.oneCell' = true ∧ RV S B β w y v
theorem cells_set {S : Nat → Prop} {B : Nat} {β : Nat → Nat → Value} {w : World} {U : Nat → Bool} {cs : List Value} {l : List AV} (h : CellsRV S B β w U cs l) {y : AV} {v : Value} (hy : y.ok U ∧ v.oneCell' = true ∧ RV S B β w y v) (off : Nat) : CellsRV S B β w U (cs.set off v) (l.set off y) := by
  refine ⟨by simp [h.1], fun i z u hz hu => ?_⟩
  by_cases e : off = i
  · subst e
    have hlt : off < l.length := by
      rcases Nat.lt_or_ge off l.length with hlt | hge
      · exact hlt
      · rw [List.getElem?_eq_none (by simpa using hge)] at hz; cases hz
    rw [List.getElem?_set_self hlt] at hz
    rw [List.getElem?_set_self (by rw [h.1]; exact hlt)] at hu
    cases hz; cases hu; exact hy
  · rw [List.getElem?_set_ne e] at hz hu
    exact h.2 i z u hz hu
theorem cells_setAll {S : Nat → Prop} {B : Nat} {β : Nat → Nat → Value} {w : World} {U : Nat → Bool} : ∀ (vs : List Value) (ys : List AV) (cs : List Value) (l : List AV) (off : Nat), CellsRV S B β w U cs l → CellsRV S B β w U vs ys → CellsRV S B β w U (setAll cs off vs) (setAll l off ys)
  | [], [], cs, l, off, h, _ => h
  | v :: vs, y :: ys, cs, l, off, h, k => cells_setAll vs ys _ _ (off + 1) (cells_set h (k.2 0 y v rfl rfl) off) ⟨by have := k.1; simpa using this, fun i z u hz hu => k.2 (i + 1) z u hz hu⟩
  | [], y :: ys, _, _, _, _, k => by have := k.1; simp at this
  | v :: vs, [], _, _, _, _, k => by have := k.1; simp at this
def partOK (y : AV) : Bool := match y with | .ra _ | .ag _ _ => true | y => y.one
theorem av_cells {S : Nat → Prop} {B : Nat} {β : Nat → Nat → Value} {w : World} {U : Nat → Bool} {y : AV} {v : Value} (hu : y.ok U) (h : RV S B β w y v) (ho : partOK y = true) : CellsRV S B β w U v.cells.toList y.cells := by
  have one : y.one = true → y.cells = [y] → CellsRV S B β w U v.cells.toList y.cells := by
    intro h1 e
    have hv := RV.one h1 h
    have hc : v.cells = #[v] := by cases v <;> first | rfl | cases hv
    rw [e, hc]
    refine ⟨rfl, fun i z u hz huu => ?_⟩
    cases i with
    | zero => cases hz; cases huu; exact ⟨hu, hv, h⟩
    | succ i => cases hz
  cases y <;> first | (exact one ho rfl) | (cases ho; done) | skip
  · rename_i q
    obtain ⟨sg, vn, vd, rfl, h1, h2, h3⟩ := h
    refine ⟨rfl, fun i z u hz huu => ?_⟩
    match i with
    | 0 => cases hz; cases huu; exact ⟨trivial, rfl, congrArg Value.bool h1⟩
    | 1 => cases hz; cases huu; exact ⟨trivial, rn_one h2, h2⟩
    | 2 => cases hz; cases huu; exact ⟨trivial, rd_one h3, h3⟩
    | i + 3 => cases hz
  · rename_i n f
    obtain ⟨cs, rfl, h1, h2⟩ := h
    refine ⟨by show cs.toList.length = _; simp [AV.cells, h1], fun i z u hz huu => ?_⟩
    have hz : ((List.range n).map f)[i]? = some z := hz
    have huu : cs.toList[i]? = some u := huu
    rw [List.getElem?_map] at hz
    have hin : i < n := by
      rcases Nat.lt_or_ge i n with h | h
      · exact h
      · rw [List.getElem?_eq_none (by simpa using h)] at hz; cases hz
    rw [List.getElem?_range hin] at hz
    cases hz
    obtain ⟨y, a0, a1, a2⟩ := h2 i hin
    rw [Array.getElem?_toList, a0] at huu
    cases huu
    exact ⟨hu i hin, a1, a2⟩
theorem foldl_set (vs : List Value) : ∀ (off k : Nat) (cs : Array Value), ((vs.zipIdx k).foldl (fun (cs : Array Value) (p : Value × Nat) => cs.setIfInBounds (off + p.2) p.1) cs).toList = setAll cs.toList (off + k) vs := by
  induction vs with
  | nil => intro off k cs; rfl
  | cons v vs ih =>
    intro off k cs
    rw [List.zipIdx_cons, List.foldl_cons, ih]
    show setAll (cs.setIfInBounds (off + k) v).toList (off + (k + 1)) vs = setAll (cs.toList.set (off + k) v) (off + k + 1) vs
    rw [Array.toList_setIfInBounds]; rfl
theorem fill_sound {S : Nat → Prop} {B : Nat} {β : Nat → Nat → Value} {w : World} {U : Nat → Bool} {pf : Nat → Option (Nat × Nat)} {pl : List (Nat × Nat)} (hp : ∀ (i : Nat) (p : Nat × Nat), pl[i]? = some p → pf i = some p) :
    ∀ (parts : List (Nat × AV)) (vals : List (Nat × Value)) (cs : Array Value) (l r : List AV), parts.length = vals.length → (∀ (j : Nat) (p : Nat × AV) (q : Nat × Value), parts[j]? = some p → vals[j]? = some q → p.1 = q.1 ∧ CellsRV S B β w U q.2.cells.toList p.2.cells) →
      CellsRV S B β w U cs.toList l → fillA pl l parts = some r → ∃ c', Instr.fill pf cs vals = some c' ∧ CellsRV S B β w U c'.toList r
  | [], [], cs, l, r, _, _, hc, h => by cases h; exact ⟨cs, rfl, hc⟩
  | [], q :: vals, _, _, _, hl, _, _, _ => by simp at hl
  | p :: parts, [], _, _, _, hl, _, _, _ => by simp at hl
  | (i, y) :: parts, (i', v) :: vals, cs, l, r, hl, hv, hc, h => by
    obtain ⟨e, hcv⟩ := hv 0 _ _ rfl rfl
    have e : i = i' := e
    subst e
    unfold fillA at h
    cases hpl : pl[i]? with
    | none => rw [hpl] at h; cases h
    | some p =>
      obtain ⟨off, sz⟩ := p
      rw [hpl] at h
      simp only [] at h
      cases hb : (Nat.beq y.cells.length sz && Nat.ble (off + sz) l.length) with
      | false => rw [hb] at h; cases h
      | true =>
        rw [hb] at h
        rw [Bool.and_eq_true] at hb
        have h1 := Nat.eq_of_beq_eq_true hb.1
        have h2 := Nat.le_of_ble_eq_true hb.2
        have hcl : v.cells.size = sz := by have := hcv.1; simpa [h1] using this
        have hsz : cs.size = l.length := by have := hc.1; simpa using this
        have hc' : CellsRV S B β w U (v.cells.zipIdx.foldl (fun (cs : Array Value) (p : Value × Nat) => cs.setIfInBounds (off + p.2) p.1) cs).toList (setAll l off y.cells) := by
          have e : (v.cells.zipIdx.foldl (fun (cs : Array Value) (p : Value × Nat) => cs.setIfInBounds (off + p.2) p.1) cs).toList = setAll cs.toList off v.cells.toList := by
            rw [← Array.foldl_toList, Array.toList_zipIdx]
            exact foldl_set v.cells.toList off 0 cs
          rw [e]
          exact cells_setAll _ _ _ _ _ hc hcv
        obtain ⟨c', hf, hr⟩ := fill_sound hp parts vals _ _ r (by simpa using hl) (fun j p q hp' hq => hv (j + 1) p q hp' hq) hc' h
        refine ⟨c', ?_, hr⟩
        unfold Instr.fill
        rw [hp i _ hpl]
        simp only []
        rw [if_neg (by rw [hcl]; simp; omega)]
        exact hf
/-- How a struct, or an array, is laid out. -/
structure Lay (T : TypeId) (pl : List (Nat × Nat)) (z : List Value) : Prop where
  f : ∃ pf : Nat → Option (Nat × Nat), (∀ (i : Nat) (p : Nat × Nat), pl[i]? = some p → pf i = some p) ∧ ∀ parts, Try.prog.built T parts = Instr.fill pf z.toArray parts
  one : z.all (·.oneCell') = true
def partsA (s : St) : List (Nat × Operand) → Option (List (Nat × AV))
  | [] => some []
  | (i, x) :: l => match avo s x, partsA s l with
    | some y, some ys => some ((i, y) :: ys)
    | _, _ => none
theorem partsA_get {s : St} : ∀ {l : List (Nat × Operand)} {ys : List (Nat × AV)}, partsA s l = some ys → ys.length = l.length ∧ ∀ (j : Nat) (p : Nat × AV), ys[j]? = some p → ∃ q, l[j]? = some q ∧ q.1 = p.1 ∧ avo s q.2 = some p.2
  | [], ys, h => by cases h; exact ⟨rfl, fun j p hp => by cases hp⟩
  | (i, x) :: l, ys, h => by
    unfold partsA at h
    split at h
    · rename_i y ys' h1 h2
      cases h
      obtain ⟨e1, e2⟩ := partsA_get h2
      refine ⟨by simp [e1], fun j p hp => ?_⟩
      cases j with
      | zero => cases hp; exact ⟨(i, x), rfl, rfl, h1⟩
      | succ j => exact e2 j p hp
    · cases h
theorem build_lay {o : Oper} {s s2 : St} {rd : List Nat} {T : TypeId} {pl : List (Nat × Nat)} {z : List Value} {parts : Array (Nat × Operand)} {ys : List (Nat × AV)} {r : List AV} (ho : o.op = .build T parts) (hl : Lay T pl z) (hp : partsA s parts.toList = some ys) (hok : (ys.all fun p => partOK p.2) = true) (hf : fillA pl (z.map .v) ys = some r)
    (hk : Like o rd s s2) {W : Wd} {N : Nat} {β : Nat → Nat → Value} {w : World} {a : Act} (hs : Sim W N β w a s2) :
    ∃ c' : Array Value, (execOp a.eval o).run Try.prog w = .ok (.value (.agg c')) w ∧ CellsRV (notOwn W s2 β) W.w.heap.size β w s2.used c'.toList r := by
  obtain ⟨⟨pf, hpf, hb⟩, hz⟩ := hl
  obtain ⟨e1, e2⟩ := partsA_get hp
  have hmem : ∀ p ∈ parts.toList, p.2 ∈ o.op.operands := by
    intro p hp
    rw [ho]
    simp only [Op.operands, List.mem_toArray]
    exact List.mem_map_of_mem hp
  obtain ⟨c', hf', hr⟩ := fill_sound (S := notOwn W s2 β) (B := W.w.heap.size) (β := β) (w := w) (U := s2.used) hpf ys (parts.toList.map fun p => (p.1, a.eval p.2)) z.toArray (z.map .v) r (by simp [e1]) (fun j p q hp' hq => by
      obtain ⟨x, h1, h2, h3⟩ := e2 j p hp'
      rw [List.getElem?_map, h1] at hq
      cases hq
      have h4 := hs.opd (x := x.2) (by rw [hk.avo (hmem x (List.mem_of_getElem? h1))]; exact h3)
      exact ⟨h2.symm, av_cells h4.1 h4.2 (List.all_eq_true.1 hok p (List.mem_of_getElem? hp'))⟩)
    ⟨by simp, fun i y v hy hv => by
      rw [List.getElem?_map] at hy
      cases e : z[i]? with
      | none => rw [e] at hy; cases hy
      | some u =>
        rw [e] at hy
        cases hy
        have hv : z[i]? = some v := hv
        rw [e] at hv
        cases hv
        exact ⟨trivial, List.all_eq_true.1 hz _ (List.mem_of_getElem? e), rfl⟩⟩ hf
  refine ⟨c', ?_, hr⟩
  have hrun := run_build (P := Try.prog) w T (parts.map fun p => (p.1, a.eval p.2)) c' (by rw [Array.toList_map, hb]; exact hf')
  unfold execOp; rw [ho]; simp only [Sem.run_bind, hrun]; rfl
section
variable {o : Oper} {s : St}
theorem ok_build_ag {T : TypeId} {pl : List (Nat × Nat)} {z : List Value} {parts : Array (Nat × Operand)} {ys : List (Nat × AV)} {r : List AV} (ho : o.op = .build T parts) (hl : Lay T pl z) (hp : partsA s parts.toList = some ys) (hok : (ys.all fun p => partOK p.2) = true) (hf : fillA pl (z.map .v) ys = some r) :
    LOK Try.prog o s ⟨some (.ag r.length (fun i => r.getD i (.v undef))), [], []⟩ := by
  refine lok_val fun s2 hk W N β w a hs => ?_
  obtain ⟨c', hrun, hc⟩ := build_lay ho hl hp hok hf hk hs
  refine ⟨_, hrun, fun x hx => ?_⟩
  cases hx
  have get : ∀ i, i < r.length → ∃ y v, r[i]? = some y ∧ c'[i]? = some v ∧ y.ok s2.used ∧ v.oneCell' = true ∧ RV (notOwn W s2 β) W.w.heap.size β w y v := by
    intro i hi
    have h1 : r[i]? = some r[i] := List.getElem?_eq_getElem hi
    have h2 : c'.toList[i]? = some (c'.toList[i]'(by rw [hc.1]; exact hi)) := List.getElem?_eq_getElem _
    have h3 := hc.2 i _ _ h1 h2
    exact ⟨_, _, h1, by rw [← Array.getElem?_toList]; exact h2, h3⟩
  refine ⟨fun i hi => ?_, c', rfl, by have := hc.1; simpa using this, fun i hi => ?_⟩
  · obtain ⟨y, v, h1, _, h3, _⟩ := get i hi
    show (r.getD i (.v undef)).ok _
    rw [List.getD_eq_getElem?_getD, h1]; exact h3
  · obtain ⟨y, v, h1, h2, _, h4, h5⟩ := get i hi
    refine ⟨v, h2, h4, ?_⟩
    show RV _ _ _ _ (r.getD i (.v undef)) v
    rw [List.getD_eq_getElem?_getD, h1]; exact h5
def limbs? : AV → Option (List Nat)
  | .lb l => some l
  | .v (.slice none 0 0) => some []
  | _ => none
theorem limbs_rv {S : Nat → Prop} {B : Nat} {β : Nat → Nat → Value} {w : World} {y : AV} {l : List Nat} {v : Value} (h : limbs? y = some l) (hv : RV S B β w y v) : Lbs w v l := by
  unfold limbs? at h
  split at h
  · cases h; exact hv
  · cases h; have hv : v = .slice none 0 0 := hv; rw [hv]; exact dg_nil w
  · cases h
def raOf : List AV → Option RA
  | [.v (.bool b), x, y] => match limbs? x, limbs? y with
    | some n, some d => some (.raw b n d)
    | _, _ => none
  | _ => none
theorem lay_rt : Lay RT [(0, 1), (1, 1), (2, 1)] [.bool false, .slice none 0 0, .slice none 0 0] :=
  ⟨⟨fun i => ([(0, 1), (1, 1), (2, 1)] : List (Nat × Nat)).toArray[i]?, fun i p h => by simpa using h, fun parts => by kernel_rfl⟩, rfl⟩
theorem ok_build_rt {parts : Array (Nat × Operand)} {ys : List (Nat × AV)} {r : List AV} {q : RA} (ho : o.op = .build RT parts) (hp : partsA s parts.toList = some ys) (hok : (ys.all fun p => partOK p.2) = true) (hf : fillA [(0, 1), (1, 1), (2, 1)] [.v (.bool false), .v (.slice none 0 0), .v (.slice none 0 0)] ys = some r) (hq : raOf r = some q) :
    LOK Try.prog o s ⟨some (.ra q), [], []⟩ := by
  refine lok_val fun s2 hk W N β w a hs => ?_
  obtain ⟨c', hrun, hc⟩ := build_lay ho lay_rt hp hok hf hk hs
  refine ⟨_, hrun, fun x hx => ?_⟩
  cases hx
  unfold raOf at hq
  split at hq
  · rename_i b x y
    split at hq
    · rename_i n d h1 h2
      cases hq
      obtain ⟨c'⟩ := c'
      have hl : c'.length = 3 := hc.1
      match c', hl with
      | [v0, v1, v2], _ =>
        have a0 := (hc.2 0 _ _ rfl rfl).2.2
        have a1 := (hc.2 1 _ _ rfl rfl).2.2
        have a2 := (hc.2 2 _ _ rfl rfl).2.2
        have a0 : v0 = .bool b := a0
        subst a0
        exact ⟨trivial, b, v1, v2, rfl, rfl, limbs_rv h1 a1, limbs_rv h2 a2⟩
    · cases hq
  · cases hq
end
/-- Layouts. -/
def layT1 (T : TypeId) : Option (List (Nat × Nat) × List Value) :=
  bif memN T [46] then some ([(0, 1), (1, 1), (2, 1), (3, 1), (4, 1), (5, 1), (6, 1)], [.int .i64 0, .int .i64 0, .int .i64 0, .slice none 0 0, .slice none 0 0, .slice none 0 0, .slice none 0 0]) else
  bif memN T [] then some ([(0, 1), (1, 3)], [.slice none 0 0, .bool false, .slice none 0 0, .slice none 0 0]) else
  bif memN T [] then some ([(0, 1), (1, 1)], [.int .i64 0, .int .i64 0]) else none
theorem lay_ok1 {T : TypeId} {pl : List (Nat × Nat)} {z : List Value} (h : layT1 T = some (pl, z)) : Lay T pl z := by
  unfold layT1 at h
  cases e1 : memN T [46] with
  | true =>
    first | (cases e1; done) | skip
    all_goals (
      rw [e1, cond_true] at h; cases h
      have hT := memN_spec e1
      simp only [List.mem_cons, List.not_mem_nil, or_false] at hT <;>
      first
        | exact hT.elim
        | (subst hT; exact ⟨⟨fun i => ([(0, 1), (1, 1), (2, 1), (3, 1), (4, 1), (5, 1), (6, 1)] : List (Nat × Nat)).toArray[i]?, fun i p h => by simpa using h, fun parts => by kernel_rfl⟩, rfl⟩))
  | false =>
    (try rw [e1] at h); (try simp only [cond_false] at h)
    cases e2 : memN T [] with
    | true =>
      first | (cases e2; done) | skip
      all_goals (
        rw [e2, cond_true] at h; cases h
        have hT := memN_spec e2
        simp only [List.mem_cons, List.not_mem_nil, or_false] at hT <;>
        first
          | exact hT.elim
          | (subst hT; exact ⟨⟨fun i => ([(0, 1), (1, 3)] : List (Nat × Nat)).toArray[i]?, fun i p h => by simpa using h, fun parts => by kernel_rfl⟩, rfl⟩))
    | false =>
      (try rw [e2] at h); (try simp only [cond_false] at h)
      cases e3 : memN T [] with
      | true =>
        first | (cases e3; done) | skip
        all_goals (
          rw [e3, cond_true] at h; cases h
          have hT := memN_spec e3
          have two : ∀ (i : Nat) (p : Nat × Nat), ([(0, 1), (1, 1)] : List (Nat × Nat))[i]? = some p → (fun i => some (i * 1, 1)) i = some p := by
            intro i p h
            match i with
            | 0 => cases h; rfl
            | 1 => cases h; rfl
            | i + 2 => cases h
          simp only [List.mem_cons, List.not_mem_nil, or_false] at hT <;>
          first
            | exact hT.elim
            | (rcases hT with rfl | rfl <;> exact ⟨⟨fun i => some (i * 1, 1), two, fun parts => by kernel_rfl⟩, rfl⟩)
            | (subst hT; exact ⟨⟨fun i => some (i * 1, 1), two, fun parts => by kernel_rfl⟩, rfl⟩))
      | false => ((try rw [e3] at h); (try simp only [cond_false] at h); cases h)
def layT2 (T : TypeId) : Option (List (Nat × Nat) × List Value) :=
  bif memN T [74] then some ([(0, 1), (1, 1), (2, 1), (3, 1)], [.slice none 0 0, .slice none 0 0, .slice none 0 0, .slice none 0 0]) else
  bif memN T [78] then some ([(0, 1), (1, 1), (2, 1)], [.int .i64 0, .int .i64 0, .int .i64 0]) else
  bif memN T [80] then some ([(0, 1), (1, 1)], [.int .i64 0, .int .i64 0]) else none
theorem lay_ok2 {T : TypeId} {pl : List (Nat × Nat)} {z : List Value} (h : layT2 T = some (pl, z)) : Lay T pl z := by
  unfold layT2 at h
  cases e1 : memN T [74] with
  | true =>
    first | (cases e1; done) | skip
    all_goals (
      rw [e1, cond_true] at h; cases h
      have hT := memN_spec e1
      have four : ∀ (i : Nat) (p : Nat × Nat), ([(0, 1), (1, 1), (2, 1), (3, 1)] : List (Nat × Nat))[i]? = some p → (fun i => some (i * 1, 1)) i = some p := by
        intro i p h
        match i with
        | 0 => cases h; rfl
        | 1 => cases h; rfl
        | 2 => cases h; rfl
        | 3 => cases h; rfl
        | i + 4 => cases h
      simp only [List.mem_cons, List.not_mem_nil, or_false] at hT <;>
      first
        | exact hT.elim
        | (subst hT; exact ⟨⟨fun i => some (i * 1, 1), four, fun parts => by kernel_rfl⟩, rfl⟩))
  | false =>
    (try rw [e1] at h); (try simp only [cond_false] at h)
    cases e2 : memN T [78] with
    | true =>
      first | (cases e2; done) | skip
      all_goals (
        rw [e2, cond_true] at h; cases h
        have hT := memN_spec e2
        have three : ∀ (i : Nat) (p : Nat × Nat), ([(0, 1), (1, 1), (2, 1)] : List (Nat × Nat))[i]? = some p → (fun i => some (i * 1, 1)) i = some p := by
          intro i p h
          match i with
          | 0 => cases h; rfl
          | 1 => cases h; rfl
          | 2 => cases h; rfl
          | i + 3 => cases h
        simp only [List.mem_cons, List.not_mem_nil, or_false] at hT <;>
        first
          | exact hT.elim
          | (subst hT; exact ⟨⟨fun i => some (i * 1, 1), three, fun parts => by kernel_rfl⟩, rfl⟩))
    | false =>
      (try rw [e2] at h); (try simp only [cond_false] at h)
      cases e3 : memN T [80] with
      | true =>
        first | (cases e3; done) | skip
        all_goals (
          rw [e3, cond_true] at h; cases h
          have hT := memN_spec e3
          simp only [List.mem_cons, List.not_mem_nil, or_false] at hT <;>
          first
            | exact hT.elim
            | (rcases hT with rfl | rfl | rfl <;> exact ⟨⟨fun i => ([(0, 1), (1, 1)] : List (Nat × Nat)).toArray[i]?, fun i p h => by simpa using h, fun parts => by kernel_rfl⟩, rfl⟩)
            | (rcases hT with rfl | rfl <;> exact ⟨⟨fun i => ([(0, 1), (1, 1)] : List (Nat × Nat)).toArray[i]?, fun i p h => by simpa using h, fun parts => by kernel_rfl⟩, rfl⟩)
            | (subst hT; exact ⟨⟨fun i => ([(0, 1), (1, 1)] : List (Nat × Nat)).toArray[i]?, fun i p h => by simpa using h, fun parts => by kernel_rfl⟩, rfl⟩))
      | false => ((try rw [e3] at h); (try simp only [cond_false] at h); cases h)
def layT3 (T : TypeId) : Option (List (Nat × Nat) × List Value) :=
  bif memN T [] then some ([(0, 7), (7, 1)], [.int .i64 0, .int .i64 0, .int .i64 0, .slice none 0 0, .slice none 0 0, .slice none 0 0, .slice none 0 0, .slice none 0 0]) else
  bif memN T [] then some ([(0, 1), (1, 1), (2, 1)], [.slice none 0 0, .slice none 0 0, .slice none 0 0]) else
  bif memN T [] then some ([(0, 1), (1, 1)], [.slice none 0 0, .int .i64 0]) else
  bif memN T [] then some ([(0, 1), (1, 1), (2, 1)], [.slice none 0 0, .int .i64 0, .int .i64 0]) else
  bif memN T [] then some ([(0, 1), (1, 1), (2, 1), (3, 1)], [.int .i64 0, .int .i64 0, .int .i64 0, .int .i64 0]) else none
theorem lay_ok3 {T : TypeId} {pl : List (Nat × Nat)} {z : List Value} (h : layT3 T = some (pl, z)) : Lay T pl z := by
  unfold layT3 at h
  cases e1 : memN T [] with
  | true =>
    first | (cases e1; done) | skip
    all_goals (
      rw [e1, cond_true] at h; cases h
      have hT := memN_spec e1
      simp only [List.mem_cons, List.not_mem_nil, or_false] at hT <;>
      first
        | exact hT.elim
        | (subst hT; exact ⟨⟨fun i => ([(0, 7), (7, 1)] : List (Nat × Nat)).toArray[i]?, fun i p h => by simpa using h, fun parts => by kernel_rfl⟩, rfl⟩))
  | false =>
    (try rw [e1] at h); (try simp only [cond_false] at h)
    cases e2 : memN T [] with
    | true =>
      first | (cases e2; done) | skip
      all_goals (
        rw [e2, cond_true] at h; cases h
        have hT := memN_spec e2
        simp only [List.mem_cons, List.not_mem_nil, or_false] at hT <;>
        first
          | exact hT.elim
          | (subst hT; exact ⟨⟨fun i => ([(0, 1), (1, 1), (2, 1)] : List (Nat × Nat)).toArray[i]?, fun i p h => by simpa using h, fun parts => by kernel_rfl⟩, rfl⟩))
    | false =>
      (try rw [e2] at h); (try simp only [cond_false] at h)
      cases e3 : memN T [] with
      | true =>
        first | (cases e3; done) | skip
        all_goals (
          rw [e3, cond_true] at h; cases h
          have hT := memN_spec e3
          simp only [List.mem_cons, List.not_mem_nil, or_false] at hT <;>
          first
            | exact hT.elim
            | (subst hT; exact ⟨⟨fun i => ([(0, 1), (1, 1)] : List (Nat × Nat)).toArray[i]?, fun i p h => by simpa using h, fun parts => by kernel_rfl⟩, rfl⟩))
      | false =>
        (try rw [e3] at h); (try simp only [cond_false] at h)
        cases e4 : memN T [] with
        | true =>
          first | (cases e4; done) | skip
          all_goals (
            rw [e4, cond_true] at h; cases h
            have hT := memN_spec e4
            simp only [List.mem_cons, List.not_mem_nil, or_false] at hT <;>
            first
              | exact hT.elim
              | (subst hT; exact ⟨⟨fun i => ([(0, 1), (1, 1), (2, 1)] : List (Nat × Nat)).toArray[i]?, fun i p h => by simpa using h, fun parts => by kernel_rfl⟩, rfl⟩))
        | false =>
          (try rw [e4] at h); (try simp only [cond_false] at h)
          cases e5 : memN T [] with
          | true =>
            first | (cases e5; done) | skip
            all_goals (
              rw [e5, cond_true] at h; cases h
              have hT := memN_spec e5
              have four : ∀ (i : Nat) (p : Nat × Nat), ([(0, 1), (1, 1), (2, 1), (3, 1)] : List (Nat × Nat))[i]? = some p → (fun i => some (i * 1, 1)) i = some p := by
                intro i p h
                match i with
                | 0 => cases h; rfl
                | 1 => cases h; rfl
                | 2 => cases h; rfl
                | 3 => cases h; rfl
                | i + 4 => cases h
              simp only [List.mem_cons, List.not_mem_nil, or_false] at hT <;>
              first
                | exact hT.elim
                | (subst hT; exact ⟨⟨fun i => some (i * 1, 1), four, fun parts => by kernel_rfl⟩, rfl⟩))
          | false => ((try rw [e5] at h); (try simp only [cond_false] at h); cases h)
def layT (T : TypeId) : Option (List (Nat × Nat) × List Value) := match layT1 T with
  | some p => some p
  | none => (match layT2 T with | some p => some p | none => layT3 T)
theorem lay_ok {T : TypeId} {pl : List (Nat × Nat)} {z : List Value} (h : layT T = some (pl, z)) : Lay T pl z := by
  unfold layT at h
  split at h
  · rename_i e; cases h; exact lay_ok1 e
  · split at h
    · rename_i e; cases h; exact lay_ok2 e
    · exact lay_ok3 h
def evBuild (s : St) (T : TypeId) (l : List (Nat × Operand)) : Ev :=
  match partsA s l with
  | some ys => bif Nat.beq T RT then (match fillA [(0, 1), (1, 1), (2, 1)] [.v (.bool false), .v (.slice none 0 0), .v (.slice none 0 0)] ys with
      | some r => (match raOf r with | some q => out (.ra q) ((ys.all fun p => partOK p.2) = true) [] | none => none)
      | none => none) else
    (match layT T with
      | some (pl, z) => (match fillA pl (z.map .v) ys with
        | some r => out (.ag r.length (fun i => r.getD i (.v undef))) ((ys.all fun p => partOK p.2) = true) []
        | none => none)
      | none => none)
  | none => none
theorem evBuild_ok {o : Oper} {s : St} {D : Dsc} {c : Prop} {T : TypeId} {parts : Array (Nat × Operand)} (ho : o.op = .build T parts) (h : evBuild s T parts.toList = some (D, c)) (hc : c) : LOK Try.prog o s D := by
  unfold evBuild at h
  split at h
  · rename_i e1
    cases e : Nat.beq T RT with
    | true =>
      rw [e, cond_true] at h; have hT := Nat.eq_of_beq_eq_true e; subst hT
      split at h
      · rename_i e2
        split at h
        · rename_i e3; obtain ⟨rfl, rfl⟩ := out_inj h; exact ok_build_rt ho e1 hc e2 e3
        · cases h
      · cases h
    | false =>
      rw [e, cond_false] at h
      split at h
      · rename_i e2
        split at h
        · rename_i e3; obtain ⟨rfl, rfl⟩ := out_inj h; exact ok_build_ag ho (lay_ok e2) e1 hc e3
        · cases h
      · cases h
  · cases h
theorem st_build {ops : Array Oper} {l : List Oper} {s : St} {acc : List Fp} {K : St → List Fp → Prop} {c : Prop} {d : Option Tmp} {r : Option AV} {upd : List (Nat × Option Fam)} {rd : List Nat} {ty : TypeId} {ps : String} {aft : Array Edge} {T : TypeId} {parts : Array (Nat × Operand)} (h : evBuild s T parts.toList = some (⟨r, upd, rd⟩, c)) (hc : c) (k : AOps Try.prog ops l (nxt s d r upd) ((rd, upd.map (·.1)) :: acc) K) : AOps Try.prog ops (⟨d, .build T parts, ty, ps, aft, none⟩ :: l) s acc K :=
  st_lok (evBuild_ok rfl h hc) k
end Go.Proofs.Ytggicfmbdmjhkaa.AM
/- Rational numbers: walks: quotients. -/
namespace Go.Proofs.Ytggicfmbdmjhkaa.V
open Go Go.RowKit Go.Proofs.Ytggicfmbdmjhkaa.PN
set_option linter.unusedVariables false
set_option linter.unusedSimpArgs false
end Go.Proofs.Ytggicfmbdmjhkaa.V
/- Rational numbers: walks: sums. -/
namespace Go.Proofs.Ytggicfmbdmjhkaa.V
open Go Go.RowKit Go.Proofs.Ytggicfmbdmjhkaa.PN
set_option linter.unusedVariables false
set_option linter.unusedSimpArgs false
end Go.Proofs.Ytggicfmbdmjhkaa.V
/- Rational numbers: walks: a number of its own, the other sign. -/
namespace Go.Proofs.Ytggicfmbdmjhkaa.V
open Go Go.RowKit Go.Proofs.Ytggicfmbdmjhkaa.PN
set_option linter.unusedVariables false
set_option linter.unusedSimpArgs false
theorem Row?.far {w : World} {k g : Nat} {cs : Array Value} {T : TypeId} (h : Row? w k cs T) (hne : k ≠ g) (o : Nat) (u : Value) : Row? (w.setCell ⟨g, o, none⟩ u) k cs T := (Below.heap_setCell w ⟨g, o, none⟩ u k hne).trans h
end Go.Proofs.Ytggicfmbdmjhkaa.V
/- Rational numbers: walks: the other sign, differences, a right number. -/
namespace Go.Proofs.Ytggicfmbdmjhkaa.V
open Go Go.RowKit Go.Proofs.Ytggicfmbdmjhkaa.PN
set_option linter.unusedVariables false
set_option linter.unusedSimpArgs false
end Go.Proofs.Ytggicfmbdmjhkaa.V
/- Rational numbers: walks: what is a right number. -/
namespace Go.Proofs.Ytggicfmbdmjhkaa.V
open Go Go.RowKit Go.Proofs.Ytggicfmbdmjhkaa.PN
set_option linter.unusedVariables false
set_option linter.unusedSimpArgs false
end Go.Proofs.Ytggicfmbdmjhkaa.V
/- The document's natural numbers: walks: trim, Of, at, Right. -/
namespace Go.Proofs.Ytggicfmbdmjhkaa.V
open Go Go.RowKit Go.Proofs.Ytggicfmbdmjhkaa.PN
set_option linter.unusedVariables false
set_option linter.unusedSimpArgs false
theorem Dg.zero (w : World) (S : Nat → Prop) (A : Option Addr) (c s : Nat) : Dg w S (.slice A 0 c) s 0 := ⟨A, c, rfl, Nat.zero_le _, fun _ hi => absurd hi (Nat.not_lt_zero _)⟩
end Go.Proofs.Ytggicfmbdmjhkaa.V
/- The document's natural numbers: walks: sums. -/
namespace Go.Proofs.Ytggicfmbdmjhkaa.V
open Go Go.RowKit Go.Proofs.Ytggicfmbdmjhkaa.PN
set_option linter.unusedVariables false
set_option linter.unusedSimpArgs false
end Go.Proofs.Ytggicfmbdmjhkaa.V
/- The document's natural numbers: walks: comparison. -/
namespace Go.Proofs.Ytggicfmbdmjhkaa.V
open Go Go.RowKit Go.Proofs.Ytggicfmbdmjhkaa.PN
set_option linter.unusedVariables false
set_option linter.unusedSimpArgs false
end Go.Proofs.Ytggicfmbdmjhkaa.V
/- The document's natural numbers: walks: differences. -/
namespace Go.Proofs.Ytggicfmbdmjhkaa.V
open Go Go.RowKit Go.Proofs.Ytggicfmbdmjhkaa.PN
set_option linter.unusedVariables false
set_option linter.unusedSimpArgs false
end Go.Proofs.Ytggicfmbdmjhkaa.V
/- The document's natural numbers: walks: products. -/
namespace Go.Proofs.Ytggicfmbdmjhkaa.V
open Go Go.RowKit Go.Proofs.Ytggicfmbdmjhkaa.PN
set_option linter.unusedVariables false
set_option linter.unusedSimpArgs false
end Go.Proofs.Ytggicfmbdmjhkaa.V
/- The document's natural numbers: walks: Sub, Bits. -/
namespace Go.Proofs.Ytggicfmbdmjhkaa.V
open Go Go.RowKit Go.Proofs.Ytggicfmbdmjhkaa.PN
set_option linter.unusedVariables false
set_option linter.unusedSimpArgs false
/-- How many binary digits. -/
def IsBits (a L : Nat) : Prop := a < 2 ^ L ∧ (a ≠ 0 → 2 ^ L ≤ 2 * a) ∧ L ≤ 32 * size a
end Go.Proofs.Ytggicfmbdmjhkaa.V
/- The document's natural numbers: walks: shifts. -/
namespace Go.Proofs.Ytggicfmbdmjhkaa.V
open Go Go.RowKit Go.Proofs.Ytggicfmbdmjhkaa.PN
set_option linter.unusedVariables false
set_option linter.unusedSimpArgs false
/-- What has been shifted so far: i limbs. -/
def ShlAt (a s w n i : Nat) (xs : List Nat) : Prop :=
  xs.length = n + w + 1 ∧ (∀ j, j < w → xs.getD j 0 = 0) ∧ (∀ j, j < i → xs.getD (w + j) 0 = dig (a * 2 ^ s) j) ∧ xs.getD (w + i) 0 = (if i = 0 then 0 else dig a (i - 1) * 2 ^ s / B)
theorem ShlAt.step {a s w n i r h : Nat} {xs : List Nat} (H : ShlAt a s w n i xs) (hi : i < n) (hr : r = dig (a * 2 ^ s) i) (hh : h = dig a i * 2 ^ s / B) : ShlAt a s w n (i + 1) ((xs.set (i + w) r).set (i + w + 1) h) := by
  obtain ⟨h1, h2, h3, h4⟩ := H
  refine ⟨by simp [h1], fun j hj => ?_, fun j hj => ?_, ?_⟩
  · rw [getD_set_other (by omega), getD_set_other (by omega)]; exact h2 j hj
  · rw [getD_set_other (by omega)]
    by_cases e : j = i
    · subst e
      rw [show w + j = j + w by omega, getD_set_self (by omega), hr]
    · rw [getD_set_other (by omega)]; exact h3 j (by omega)
  · rw [show w + (i + 1) = i + w + 1 by omega, getD_set_self (by rw [List.length_set]; omega), if_neg (by omega), hh, Nat.add_sub_cancel]
theorem ShlAt.last {a s w n : Nat} {xs : List Nat} (H : ShlAt a s w n n xs) (hs : s ≤ 32) (ha : a < B ^ n) : ∀ j, j < n + w + 1 → xs.getD j 0 = dig (a * 2 ^ s * B ^ w) j := by
  obtain ⟨h1, h2, h3, h4⟩ := H
  intro j hj
  rcases Nat.lt_or_ge j w with h | h
  · rw [h2 j h]
    have := dig_low (s := 0) (t := a * 2 ^ s) h
    rw [Nat.zero_add, Nat.mul_comm] at this
    rw [this, dig_of_zero]
  · obtain ⟨t, rfl⟩ : ∃ t, j = w + t := ⟨j - w, by omega⟩
    have e : dig (a * 2 ^ s * B ^ w) (w + t) = dig (a * 2 ^ s) t := by
      have := dig_shift (s := 0) (t := a * 2 ^ s) (m := w) (j := t) (Nat.pow_pos (by decide))
      rw [Nat.zero_add, Nat.mul_comm] at this
      exact this
    rw [e]
    by_cases ht : t = n
    · subst ht
      rw [h4, dig_shl a s t hs, dig_over ha (Nat.le_refl _), Nat.zero_mul, Nat.zero_mod, Nat.zero_add]
    · exact h3 t (by omega)
end Go.Proofs.Ytggicfmbdmjhkaa.V
/- The document's natural numbers: walks: half of a number. -/
namespace Go.Proofs.Ytggicfmbdmjhkaa.V
open Go Go.RowKit Go.Proofs.Ytggicfmbdmjhkaa.PN
set_option linter.unusedVariables false
set_option linter.unusedSimpArgs false
end Go.Proofs.Ytggicfmbdmjhkaa.V
/- Quotients by shifting and taking away. -/
namespace Go.Proofs.Ytggicfmbdmjhkaa.PN
open Go
/-- The numbers of the division, where y binary places are still to be done. -/
structure DivStep (a b k y R Q : Nat) : Prop where
  all : a = Q * b + R
  low : R < b * 2 ^ y
  mul : ∃ m, Q = 2 ^ y * m
  fit : Q < 2 ^ (k + 1)
theorem DivStep.start {a b k : Nat} (h : a < b * 2 ^ (k + 1)) : DivStep a b k (k + 1) a 0 := ⟨by omega, h, ⟨0, by omega⟩, Nat.pow_pos (by decide)⟩
theorem DivStep.less {a b k i R Q : Nat} (h : DivStep a b k (i + 1) R Q) (hR : R < b * 2 ^ i) : DivStep a b k i R Q := by
  obtain ⟨m, hm⟩ := h.mul
  exact ⟨h.all, hR, ⟨2 * m, by rw [hm, Nat.pow_succ, Nat.mul_assoc]⟩, h.fit⟩
theorem DivStep.more {a b k i R Q : Nat} (h : DivStep a b k (i + 1) R Q) (hR : b * 2 ^ i ≤ R) (hb : 0 < b) (ha : a < b * 2 ^ (k + 1)) : DivStep a b k i (R - b * 2 ^ i) (Q + 2 ^ i) := by
  obtain ⟨m, hm⟩ := h.mul
  have h1 := h.all
  have h2 := h.low
  have h3 : b * 2 ^ (i + 1) = b * 2 ^ i + b * 2 ^ i := by rw [Nat.pow_succ, ← Nat.mul_assoc, Nat.mul_two]
  have h4 : (Q + 2 ^ i) * b = Q * b + b * 2 ^ i := by rw [Nat.add_mul, Nat.mul_comm (2 ^ i)]
  refine ⟨by rw [h4]; omega, by omega, ⟨2 * m + 1, by rw [hm, Nat.pow_succ, Nat.mul_add, Nat.mul_one, Nat.mul_assoc]⟩, ?_⟩
  have h5 : (Q + 2 ^ i) * b < 2 ^ (k + 1) * b := by rw [h4, Nat.mul_comm (2 ^ (k + 1))]; omega
  exact Nat.lt_of_mul_lt_mul_right h5
theorem DivStep.last {a b k R Q : Nat} (h : DivStep a b k 0 R Q) (hb : 0 < b) : Q = a / b ∧ R = a % b := by
  have h1 := h.all
  have h2 := h.low
  rw [Nat.pow_zero, Nat.mul_one] at h2
  rw [Nat.mul_comm] at h1
  subst h1
  rw [Nat.mul_add_div hb, Nat.div_eq_of_lt h2, Nat.mul_add_mod, Nat.mod_eq_of_lt h2]
  exact ⟨by omega, rfl⟩
end Go.Proofs.Ytggicfmbdmjhkaa.PN
/- The document's natural numbers: walks: Div. -/
namespace Go.Proofs.Ytggicfmbdmjhkaa.V
open Go Go.RowKit Go.Proofs.Ytggicfmbdmjhkaa.PN
set_option linter.unusedVariables false
set_option linter.unusedSimpArgs false
/-- Quotient and rest are handed back. -/
def MadeDivR (w : World) (a b : Nat) (e : Ending) (w' : World) : Prop :=
  ∃ vq vr, e = .returned (.tuple #[vq, vr, .int .i64 0]) ∧ NatS w' (fun _ => True) vq (a / b) ∧ NatS w' (fun _ => True) vr (a % b) ∧ Kept w w'
end Go.Proofs.Ytggicfmbdmjhkaa.V
/- The document's rational numbers: walks: one, Zero, size, Make, Of. -/
namespace Go.Proofs.Ytggicfmbdmjhkaa.V
open Go Go.RowKit Go.Proofs.Ytggicfmbdmjhkaa.PN
set_option linter.unusedVariables false
set_option linter.unusedSimpArgs false
end Go.Proofs.Ytggicfmbdmjhkaa.V
/- The document's rational numbers: walks: Make. -/
namespace Go.Proofs.Ytggicfmbdmjhkaa.V
open Go Go.RowKit Go.Proofs.Ytggicfmbdmjhkaa.PN
set_option linter.unusedVariables false
set_option linter.unusedSimpArgs false
end Go.Proofs.Ytggicfmbdmjhkaa.V
/- The document's rational numbers: walks: Of, Int, made. -/
namespace Go.Proofs.Ytggicfmbdmjhkaa.V
open Go Go.RowKit Go.Proofs.Ytggicfmbdmjhkaa.PN
set_option linter.unusedVariables false
set_option linter.unusedSimpArgs false
end Go.Proofs.Ytggicfmbdmjhkaa.V
/- The document's rational numbers: walks: products, nought. -/
namespace Go.Proofs.Ytggicfmbdmjhkaa.V
open Go Go.RowKit Go.Proofs.Ytggicfmbdmjhkaa.PN
set_option linter.unusedVariables false
set_option linter.unusedSimpArgs false
end Go.Proofs.Ytggicfmbdmjhkaa.V
/- The document's rational numbers: walks: the same. -/
namespace Go.Proofs.Ytggicfmbdmjhkaa.V
open Go Go.RowKit Go.Proofs.Ytggicfmbdmjhkaa.PN
set_option linter.unusedVariables false
set_option linter.unusedSimpArgs false
end Go.Proofs.Ytggicfmbdmjhkaa.V
/- The document's rational numbers: walks: quotients. -/
namespace Go.Proofs.Ytggicfmbdmjhkaa.V
open Go Go.RowKit Go.Proofs.Ytggicfmbdmjhkaa.PN
set_option linter.unusedVariables false
set_option linter.unusedSimpArgs false
end Go.Proofs.Ytggicfmbdmjhkaa.V
/- The document's rational numbers: walks: sums. -/
namespace Go.Proofs.Ytggicfmbdmjhkaa.V
open Go Go.RowKit Go.Proofs.Ytggicfmbdmjhkaa.PN
set_option linter.unusedVariables false
set_option linter.unusedSimpArgs false
end Go.Proofs.Ytggicfmbdmjhkaa.V
/- The contracts of rational numbers, in the abstract state's words. -/
namespace Go.Proofs.Ytggicfmbdmjhkaa.AM
open Go Go.RowKit Go.Proofs.Ytggicfmbdmjhkaa.PN Go.Proofs.Ytggicfmbdmjhkaa.V
set_option linter.unusedVariables false
set_option linter.unusedSimpArgs false
/-- A number, as a value. -/
abbrev AV.q (p : Rat) : AV := .ra (.q p)
/-- An integer, as a value. -/
abbrev AV.i (n : Int) : AV := .v (.int .i64 n)
abbrev AV.b (b : Bool) : AV := .v (.bool b)
theorem rvs2 {S : Nat → Prop} {B : Nat} {β : Nat → Nat → Value} {w : World} {x y : AV} {vs : List Value} (h : RVs S B β w [x, y] vs) : ∃ v u, vs = [v, u] ∧ RV S B β w x v ∧ RV S B β w y u := by
  match vs, h with
  | [v, u], h => exact ⟨v, u, rfl, h.2 0 x v rfl rfl, h.2 1 y u rfl rfl⟩
  | [], h => exact absurd h.1 (by simp)
  | [_], h => exact absurd h.1 (by simp)
  | _ :: _ :: _ :: _, h => exact absurd h.1 (by simp)
end Go.Proofs.Ytggicfmbdmjhkaa.AM
/- Determinants of matrices of rational numbers, by the first column; what row steps do to them. -/
namespace Go.Proofs.Ytggicfmbdmjhkaa.LA
abbrev Mt := Nat → Nat → Rat
def S : Nat → (Nat → Rat) → Rat
  | 0, _ => 0
  | n + 1, f => S n f + f n
theorem S_zero (f : Nat → Rat) : S 0 f = 0 := rfl
theorem S_succ (n : Nat) (f : Nat → Rat) : S (n + 1) f = S n f + f n := rfl
theorem S_congr {n : Nat} {f g : Nat → Rat} (h : ∀ i, i < n → f i = g i) : S n f = S n g := by
  induction n with
  | zero => rfl
  | succ n ih => rw [S_succ, S_succ, ih (fun i hi => h i (by omega)), h n (by omega)]
theorem S_nought (n : Nat) : S n (fun _ => 0) = 0 := by
  induction n with
  | zero => rfl
  | succ n ih => rw [S_succ, ih]; grind
theorem S_null {n : Nat} {f : Nat → Rat} (h : ∀ i, i < n → f i = 0) : S n f = 0 := by rw [S_congr (g := fun _ => 0) h, S_nought]
theorem S_add (n : Nat) (f g : Nat → Rat) : S n (fun i => f i + g i) = S n f + S n g := by
  induction n with
  | zero => simp only [S_zero]; grind
  | succ n ih => simp only [S_succ, ih]; grind
theorem S_mul (n : Nat) (c : Rat) (f : Nat → Rat) : S n (fun i => c * f i) = c * S n f := by
  induction n with
  | zero => simp only [S_zero]; grind
  | succ n ih => simp only [S_succ, ih]; grind
theorem S_mulr (n : Nat) (c : Rat) (f : Nat → Rat) : S n (fun i => f i * c) = S n f * c := by
  induction n with
  | zero => simp only [S_zero]; grind
  | succ n ih => simp only [S_succ, ih]; grind
theorem S_swap (n m : Nat) (f : Nat → Nat → Rat) : S n (fun i => S m (fun j => f i j)) = S m (fun j => S n (fun i => f i j)) := by
  induction n with
  | zero => simp only [S_zero]; rw [S_nought]
  | succ n ih => simp only [S_succ, ih]; rw [S_add]
theorem S_append (m n : Nat) (f : Nat → Rat) : S (m + n) f = S m f + S n (fun i => f (m + i)) := by
  induction n with
  | zero => simp only [S_zero, Nat.add_zero]; grind
  | succ n ih => rw [← Nat.add_assoc, S_succ, S_succ, ih]; grind
theorem S_single {n k : Nat} (hk : k < n) {f : Nat → Rat} (h : ∀ i, i < n → i ≠ k → f i = 0) : S n f = f k := by
  induction n with
  | zero => omega
  | succ n ih =>
    rw [S_succ]
    by_cases e : k = n
    · subst e
      rw [S_null (fun i hi => h i (by omega) (by omega))]; grind
    · rw [ih (by omega) (fun i hi hne => h i (by omega) hne), h n (by omega) (by omega)]; grind
theorem S_pair {n k l : Nat} (hkl : k < l) (hl : l < n) {f : Nat → Rat} (h : ∀ i, i < n → i ≠ k → i ≠ l → f i = 0) : S n f = f k + f l := by
  obtain ⟨d, rfl⟩ : ∃ d, n = l + d := ⟨n - l, by omega⟩
  rw [S_append, S_single hkl (fun i hi hne => h i (by omega) hne (by omega)), S_single (k := 0) (by omega) (fun i hi hne => h (l + i) (by omega) (by omega) (by omega))]
  rfl
theorem S_cut {m n : Nat} (hmn : m ≤ n) {f : Nat → Rat} (h : ∀ i, m ≤ i → i < n → f i = 0) : S n f = S m f := by
  obtain ⟨d, rfl⟩ : ∃ d, n = m + d := ⟨n - m, by omega⟩
  rw [S_append, S_null (fun i hi => h (m + i) (by omega) (by omega))]; grind
def sg (i : Nat) : Rat := if i % 2 = 0 then 1 else -1
theorem sg_succ (i : Nat) : sg (i + 1) = - sg i := by
  unfold sg
  by_cases e : i % 2 = 0
  · rw [if_pos e, if_neg (by omega)]
  · rw [if_neg e, if_pos (by omega)]; rfl
def skip (i r : Nat) : Nat := if r < i then r else r + 1
def del (i : Nat) (A : Mt) : Mt := fun r c => A (skip i r) (c + 1)
def det : Nat → Mt → Rat
  | 0, _ => 1
  | n + 1, A => S (n + 1) (fun i => sg i * A i 0 * det n (del i A))
def upd (A : Mt) (a : Nat) (v : Nat → Rat) : Mt := fun i j => if i = a then v j else A i j
theorem upd_at (A : Mt) (a : Nat) (v : Nat → Rat) (j : Nat) : upd A a v a j = v j := by unfold upd; rw [if_pos rfl]
theorem upd_ne (A : Mt) {a i : Nat} (v : Nat → Rat) (j : Nat) (h : i ≠ a) : upd A a v i j = A i j := by unfold upd; rw [if_neg h]
theorem det_congr {n : Nat} : ∀ {A B : Mt}, (∀ i j, i < n → j < n → A i j = B i j) → det n A = det n B := by
  induction n with
  | zero => intro A B _; rfl
  | succ n ih =>
    intro A B h
    unfold det
    refine S_congr fun i hi => ?_
    rw [h i 0 hi (by omega), ih (A := del i A) (B := del i B)]
    intro r c hr hc
    unfold del skip
    split <;> exact h _ _ (by omega) (by omega)
theorem del_upd_ne (A : Mt) (a : Nat) (v : Nat → Rat) {i : Nat} (h : i ≠ a) : del i (upd A a v) = upd (del i A) (if a < i then a else a - 1) (fun j => v (j + 1)) := by
  funext r c
  show (if skip i r = a then v (c + 1) else A (skip i r) (c + 1)) = (if r = (if a < i then a else a - 1) then v (c + 1) else A (skip i r) (c + 1))
  have : (skip i r = a) ↔ (r = (if a < i then a else a - 1)) := by unfold skip; split <;> split <;> omega
  simp only [this]
theorem del_upd_at (A : Mt) (a : Nat) (v : Nat → Rat) : del a (upd A a v) = del a A := by
  funext r c
  unfold del upd skip
  by_cases h2 : r < a
  · rw [if_pos h2, if_neg (by omega)]
  · rw [if_neg h2, if_neg (by omega)]
theorem det_lin (n : Nat) : ∀ (A : Mt) (a : Nat), a < n → ∀ (f g : Rat) (u v : Nat → Rat), det n (upd A a (fun j => f * u j + g * v j)) = f * det n (upd A a u) + g * det n (upd A a v) := by
  induction n with
  | zero => intro A a h; omega
  | succ n ih =>
    intro A a ha f g u v
    unfold det
    rw [← S_mul, ← S_mul, ← S_add]
    refine S_congr fun i hi => ?_
    by_cases e : i = a
    · subst e
      rw [del_upd_at, del_upd_at, del_upd_at, upd_at, upd_at, upd_at]; grind
    · rw [del_upd_ne A a _ e, del_upd_ne A a _ e, del_upd_ne A a _ e, upd_ne A _ _ e, upd_ne A _ _ e, upd_ne A _ _ e]
      have ha' : (if a < i then a else a - 1) < n := by split <;> omega
      rw [ih (del i A) _ ha' f g (fun j => u (j + 1)) (fun j => v (j + 1))]; grind
theorem det_adj (n : Nat) : ∀ (A : Mt) (a : Nat), a + 1 < n → (∀ j, j < n → A a j = A (a + 1) j) → det n A = 0 := by
  induction n with
  | zero => intro A a h; omega
  | succ n ih =>
    intro A a ha heq
    unfold det
    rw [S_pair (k := a) (l := a + 1) (by omega) ha]
    · have hd : det n (del a A) = det n (del (a + 1) A) := by
        refine det_congr fun r c hr hc => ?_
        unfold del skip
        by_cases h1 : r < a
        · rw [if_pos h1, if_pos (by omega)]
        · rw [if_neg h1]
          by_cases h2 : r = a
          · subst h2; rw [if_pos (by omega)]; exact (heq (c + 1) (by omega)).symm
          · rw [if_neg (by omega)]
      rw [sg_succ, hd, heq 0 (by omega)]; grind
    · intro i hi h1 h2
      have : det n (del i A) = 0 := by
        by_cases h3 : i < a
        · refine ih (del i A) (a - 1) (by omega) fun j hj => ?_
          unfold del skip
          rw [if_neg (by omega), if_neg (by omega), show a - 1 + 1 = a from by omega]
          exact heq (j + 1) (by omega)
        · refine ih (del i A) a (by omega) fun j hj => ?_
          unfold del skip
          rw [if_pos (by omega), if_pos (by omega)]
          exact heq (j + 1) (by omega)
      rw [this]; grind
theorem upd_self (A : Mt) (a : Nat) : upd A a (A a) = A := by
  funext i j; unfold upd; split
  · next h => rw [h]
  · rfl
theorem det_upd_add {n : Nat} (A : Mt) {a : Nat} (ha : a < n) (u v : Nat → Rat) : det n (upd A a (fun j => u j + v j)) = det n (upd A a u) + det n (upd A a v) := by
  have h := det_lin n A a ha 1 1 u v
  rw [det_congr (B := upd A a (fun j => 1 * u j + 1 * v j)) (fun i j _ _ => by unfold upd; split <;> grind), h]; grind
theorem det_upd_mul {n : Nat} (A : Mt) {a : Nat} (ha : a < n) (f : Rat) (u : Nat → Rat) : det n (upd A a (fun j => f * u j)) = f * det n (upd A a u) := by
  have h := det_lin n A a ha f 0 u u
  rw [det_congr (B := upd A a (fun j => f * u j + 0 * u j)) (fun i j _ _ => by unfold upd; split <;> grind), h]; grind
def swp (A : Mt) (a b : Nat) : Mt := fun i j => if i = a then A b j else if i = b then A a j else A i j
theorem det_swp_adj {n : Nat} (A : Mt) {a : Nat} (ha : a + 1 < n) : det n (swp A a (a + 1)) = - det n A := by
  have two : ∀ u v : Nat → Rat, det n (upd (upd A a u) (a + 1) v) = - det n (upd (upd A a v) (a + 1) u) := by
    intro u v
    have e : ∀ w : Nat → Rat, det n (upd (upd A a w) (a + 1) w) = 0 := fun w => by
      refine det_adj n _ a ha fun j _ => ?_
      rw [upd_at, upd_ne _ _ _ (by omega), upd_at]
    have c : ∀ p q r : Nat → Rat, det n (upd (upd A a (fun j => p j + q j)) (a + 1) r) = det n (upd (upd A a p) (a + 1) r) + det n (upd (upd A a q) (a + 1) r) := by
      intro p q r
      have cm : ∀ p : Nat → Rat, upd (upd A a p) (a + 1) r = upd (upd A (a + 1) r) a p := fun p => by
        funext i j; unfold upd
        by_cases h1 : i = a
        · rw [if_neg (by omega), if_pos h1, if_pos h1]
        · rw [if_neg h1, if_neg h1]
      rw [cm, cm, cm]; exact det_upd_add _ (by omega) p q
    have h := e (fun j => u j + v j)
    rw [c, det_upd_add _ ha, det_upd_add _ ha, e u, e v] at h
    grind
  have h1 : swp A a (a + 1) = upd (upd A a (A (a + 1))) (a + 1) (A a) := by
    funext i j; unfold swp upd
    by_cases h : i = a
    · rw [if_pos h, if_neg (by omega), if_pos h]
    · rw [if_neg h, if_neg h]
  have h2 : upd (upd A a (A a)) (a + 1) (A (a + 1)) = A := by rw [upd_self, upd_self]
  rw [h1, two, h2]
theorem det_eq_rows {n : Nat} : ∀ (d : Nat) (A : Mt) (a : Nat), a + d + 1 < n → (∀ j, j < n → A a j = A (a + d + 1) j) → det n A = 0 := by
  intro d
  induction d with
  | zero => intro A a h he; exact det_adj n A a h he
  | succ d ih =>
    intro A a h he
    have hs := det_swp_adj A (a := a + d + 1) (n := n) (by omega)
    have h0 := ih (swp A (a + d + 1) (a + d + 1 + 1)) a (by omega) (fun j hj => by
      have hj2 := he j hj
      unfold swp
      rw [if_neg (by omega), if_neg (by omega), if_pos rfl, hj2]; rfl)
    rw [h0] at hs; grind
theorem det_same {n : Nat} (A : Mt) {a b : Nat} (ha : a < n) (hb : b < n) (hab : a ≠ b) (he : ∀ j, j < n → A a j = A b j) : det n A = 0 := by
  rcases Nat.lt_or_gt_of_ne hab with h | h
  · exact det_eq_rows (b - a - 1) A a (by omega) (fun j hj => by rw [show a + (b - a - 1) + 1 = b from by omega]; exact he j hj)
  · exact det_eq_rows (a - b - 1) A b (by omega) (fun j hj => by rw [show b + (a - b - 1) + 1 = a from by omega]; exact (he j hj).symm)
/-- A row's multiple added to another one. -/
def addr (A : Mt) (a b : Nat) (f : Rat) : Mt := upd A a (fun j => A a j + f * A b j)
/-- A row, times a number. -/
def scl (A : Mt) (a : Nat) (f : Rat) : Mt := upd A a (fun j => f * A a j)
theorem det_addr {n : Nat} (A : Mt) {a b : Nat} (ha : a < n) (hb : b < n) (hab : a ≠ b) (f : Rat) : det n (addr A a b f) = det n A := by
  unfold addr
  rw [det_upd_add A ha, det_upd_mul A ha, upd_self, det_same (upd A a (A b)) ha hb hab (fun j _ => by rw [upd_at, upd_ne _ _ _ (Ne.symm hab)])]; grind
theorem det_scl {n : Nat} (A : Mt) {a : Nat} (ha : a < n) (f : Rat) : det n (scl A a f) = f * det n A := by
  unfold scl; rw [det_upd_mul A ha, upd_self]
theorem det_zero_row {n : Nat} (A : Mt) {a : Nat} (ha : a < n) (h : ∀ j, j < n → A a j = 0) : det n A = 0 := by
  have := det_scl A ha 0
  rw [det_congr (B := A) (fun i j _ hj => by
    unfold scl upd
    by_cases e : i = a
    · subst e; rw [if_pos rfl, h j hj]; grind
    · rw [if_neg e])] at this
  rw [this]; grind
def one : Mt := fun i j => if i = j then 1 else 0
theorem det_one (n : Nat) : det n one = 1 := by
  induction n with
  | zero => rfl
  | succ n ih =>
    unfold det
    rw [S_single (k := 0) (by omega) (fun i hi hne => by unfold one; rw [if_neg hne]; grind)]
    have : det n (del 0 one) = det n one := det_congr fun i j _ _ => by
      have hs : skip 0 i = i + 1 := by unfold skip; rw [if_neg (by omega)]
      show (if skip 0 i = j + 1 then (1 : Rat) else 0) = (if i = j then 1 else 0)
      rw [hs]
      by_cases e : i = j
      · rw [if_pos e, if_pos (by omega)]
      · rw [if_neg e, if_neg (by omega)]
    rw [this, ih]
    have e1 : sg 0 = 1 := rfl
    have e2 : one 0 0 = 1 := rfl
    rw [e1, e2]; grind
end Go.Proofs.Ytggicfmbdmjhkaa.LA

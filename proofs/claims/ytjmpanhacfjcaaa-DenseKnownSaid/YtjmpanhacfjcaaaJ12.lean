/- Joined texts, 12: AmU AmV AmX DnA DnB DnC DnD DnE DnF. -/
import Derived.Test.YtjmpanhacfjcaaaJ11
set_option linter.unusedVariables false
set_option linter.unusedSimpArgs false
/- Own slices that are handed to a call that only reads them. -/
namespace Go.Proofs.Ytjmpanhacfjcaaa.AM
open Go Go.RowKit Go.Proofs.Ytjmpanhacfjcaaa.PN Go.Proofs.Ytjmpanhacfjcaaa.V
set_option linter.unusedVariables false
set_option linter.unusedSimpArgs false
/-- A row, as it is or own. -/
inductive RView (s : St) (rd : List Nat) : AV → Nat → (Nat → RA) → Prop where
  | row {fr : Bool} {n : Nat} {f : Nat → RA} : RView s rd (.row fr n f) n f
  | own {g r n m : Nat} {F : Nat → Blk} {f f0 : Nat → RA} (hg : s.heap g = some (n, F)) (hr : r < n) (hF : F r = .rats m f0) (hrd : g ∈ rd) (he : ∀ i, i < m → f0 i = f i) : RView s rd (.own g r) m f
/-- What a reader may take a value for. -/
inductive View (s : St) (rd : List Nat) : AV → AV → Prop where
  | old {x y : AV} (h : x.old = y) : View s rd x y
  | row {x : AV} {n : Nat} {f : Nat → RA} (h : RView s rd x n f) : View s rd x (.row false n f)
  | mat {g r n n' : Nat} {F : Nat → Blk} {f : Nat → AV} {m : Nat → Nat} {G : Nat → Nat → RA} (hg : s.heap g = some (n', F)) (hr : r < n') (hF : F r = .ones WT n f) (hrd : g ∈ rd) (h : ∀ i, i < n → RView s rd (f i) (m i) (G i)) : View s rd (.own g r) (.mat false n m G)
def safe : AV → Bool
  | .v _ | .nat _ | .lb _ | .ra _ | .rs _ | .rn _ | .rd _ => true
  | .row fr _ _ => fr
  | .mat fr _ _ _ => fr
  | .tup a b => safe a && safe b
  | .tup3 a b c => safe a && (safe b && safe c)
  | _ => false
theorem safe_rv {S S' : Nat → Prop} {B B' : Nat} {β β' : Nat → Nat → Value} {w : World} (hS : ∀ b, B ≤ b → S' b) (hB : B' ≤ B) : ∀ {r : AV} {v : Value}, safe r = true → RV S B β w r v → RV S' B' β' w r v := by
  have row : ∀ {n : Nat} {f : Nat → RA} {v : Value}, RowV S B w true n f v → RowV S' B' w true n f v := by
    rintro n f v ⟨A, c, e1, e2, e3, e4⟩
    refine ⟨A, c, e1, e2, e3, fun i hi => ?_⟩
    obtain ⟨b, off, a1, a2, a3, a4⟩ := e4 i hi
    exact ⟨b, off, a1, hS b (a3 rfl), fun _ => Nat.le_trans hB (a3 rfl), a4⟩
  intro r
  induction r with
  | v x => exact fun _ h => h
  | nat n => exact fun _ h => h
  | lb l => exact fun _ h => h
  | ra r => exact fun _ h => h
  | rs r => exact fun _ h => h
  | rn r => exact fun _ h => h
  | rd r => exact fun _ h => h
  | row fr n f => intro v hs h; cases hs; exact row h
  | mat fr n m F =>
    intro v hs h
    cases hs
    obtain ⟨A, c, e1, e2, e3, e4⟩ := h
    refine ⟨A, c, e1, e2, e3, fun i hi => ?_⟩
    obtain ⟨b, off, cs, x, a1, a2, a3, a4, a5, a6⟩ := e4 i hi
    exact ⟨b, off, cs, x, a1, hS b (a3 rfl), fun _ => Nat.le_trans hB (a3 rfl), a4, a5, row a6⟩
  | tup a b iha ihb =>
    intro v hs h
    unfold safe at hs
    rw [Bool.and_eq_true] at hs
    obtain ⟨x, y, e, h1, h2⟩ := h
    exact ⟨x, y, e, iha hs.1 h1, ihb hs.2 h2⟩
  | tup3 a b c iha ihb ihc =>
    intro v hs h
    unfold safe at hs
    rw [Bool.and_eq_true, Bool.and_eq_true] at hs
    obtain ⟨x, y, z, e, h1, h2, h3⟩ := h
    exact ⟨x, y, z, e, iha hs.1 h1, ihb hs.2.1 h2, ihc hs.2.2 h3⟩
  | _ => intro v hs; cases hs
theorem ok_true : ∀ x : AV, x.ok (fun _ => true) := by
  intro x
  induction x with
  | own g r => rfl
  | ptr g r i => rfl
  | rptr g r i => rfl
  | fld g r i j => rfl
  | cp x ih => exact ih
  | ag n f ih => exact fun i _ => ih i
  | tup a b iha ihb => exact ⟨iha, ihb⟩
  | tup3 a b c iha ihb ihc => exact ⟨iha, ihb, ihc⟩
  | clo f n c ih => exact fun i _ => ih i
  | _ => trivial
theorem rv_all {S : Nat → Prop} {B B' : Nat} {β : Nat → Nat → Value} {w : World} {x : AV} {v : Value} (h : RV S B β w x v) : RV (fun _ => True) B' β w x.old v := by
  have h1 : RV S B' β w x.old v := rv_old h
  exact RV.fwd (U := fun _ => true) (O := fun _ => False) ⟨Ext.refl _ _, fun _ _ h => h, fun _ _ _ => trivial, Nat.le_refl _, fun _ _ _ => rfl⟩ (ok_true _) h1
theorem row_congr {S : Nat → Prop} {B : Nat} {w : World} {fr : Bool} {n : Nat} {f g : Nat → RA} {v : Value} (he : ∀ i, i < n → f i = g i) (h : RowV S B w fr n f v) : RowV S B w fr n g v := by
  obtain ⟨A, c, e1, e2, e3, e4⟩ := h
  refine ⟨A, c, e1, e2, e3, fun i hi => ?_⟩
  obtain ⟨b, off, a1, a2, a3, a4⟩ := e4 i hi
  exact ⟨b, off, a1, a2, a3, by rw [← he i hi]; exact a4⟩
theorem rview_rv {W : Wd} {N : Nat} {β : Nat → Nat → Value} {w : World} {a : Act} {s : St} (hs : Sim W N β w a s) {rd : List Nat} {x : AV} {n B' : Nat} {f : Nat → RA} {v : Value} (h : RView s rd x n f) (hv : RV (notOwn W s β) W.w.heap.size β w x v) : RowV (fun _ => True) B' w false n f v := by
  cases h with
  | row => exact rv_all (x := .row _ n f) hv
  | own hg hr hF hrd he =>
    have hb := (hs.heap _ _ _ _ hg hr).2
    rw [hF] at hb
    exact row_congr he (row_old (own_row (S' := fun _ => True) hv hb fun _ _ => trivial))
theorem view_rv {W : Wd} {N : Nat} {β : Nat → Nat → Value} {w : World} {a : Act} {s : St} (hs : Sim W N β w a s) {rd : List Nat} {x y : AV} {B' : Nat} {v : Value} (h : View s rd x y) (hv : RV (notOwn W s β) W.w.heap.size β w x v) : RV (fun _ => True) B' β w y v := by
  cases h with
  | old h => subst h; exact rv_all hv
  | row h => exact rview_rv hs h hv
  | mat hg hr hF hrd h =>
    have hb := (hs.heap _ _ _ _ hg hr).2
    rw [hF] at hb
    obtain ⟨e0, A, n', c, e⟩ := hv
    rcases hb.2 with ⟨e', rfl⟩ | ⟨k, cs, hB, hr, hat, hx⟩
    · exact ⟨none, 0, e0.trans e', Nat.le_refl _, Nat.zero_le _, fun i hi => absurd hi (Nat.not_lt_zero _)⟩
    · rcases hat with ⟨e', _⟩ | ⟨cap, e', h3, h4, _⟩
      · rw [← e0, e] at e'; cases e'
      · refine ⟨_, cap, e0.trans e', h3, h4, fun i hi => ?_⟩
        obtain ⟨y, a0, a1, a2⟩ := hx i hi
        exact ⟨k, 0, cs, y, rfl, trivial, fun h => (by cases h), hr, by rw [Nat.zero_add]; exact a0, rview_rv hs (h i hi) a2⟩
theorem RView.like {s s2 : St} {rd : List Nat} (hl : ∀ g ∈ rd, s2.heap g = s.heap g) {x : AV} {n : Nat} {f : Nat → RA} (h : RView s rd x n f) : RView s2 rd x n f := by
  cases h with
  | row => exact .row
  | own hg hr hF hrd he => exact .own ((hl _ hrd).trans hg) hr hF hrd he
theorem View.like {s s2 : St} {rd : List Nat} (hl : ∀ g ∈ rd, s2.heap g = s.heap g) {x y : AV} (h : View s rd x y) : View s2 rd x y := by
  cases h with
  | old h => exact .old h
  | row h => exact .row (h.like hl)
  | mat hg hr hF hrd h => exact .mat ((hl _ hrd).trans hg) hr hF hrd fun i hi => (h i hi).like hl
inductive Views (s : St) (rd : List Nat) : List AV → List AV → Prop where
  | nil : Views s rd [] []
  | cons {x y : AV} {xs ys : List AV} (h : View s rd x y) (k : Views s rd xs ys) : Views s rd (x :: xs) (y :: ys)
theorem Views.get {s : St} {rd : List Nat} : ∀ {xs ys : List AV}, Views s rd xs ys → xs.length = ys.length ∧ ∀ (i : Nat) (y : AV), ys[i]? = some y → ∃ x, xs[i]? = some x ∧ View s rd x y
  | _, _, .nil => ⟨rfl, fun i y h => by cases h⟩
  | _, _, .cons h k => by
    obtain ⟨h1, h2⟩ := k.get
    refine ⟨by simp [h1], fun i y hy => ?_⟩
    cases i with
    | zero => cases hy; exact ⟨_, rfl, h⟩
    | succ i => exact h2 i y (by simpa using hy)
theorem ok_callO {P : Program} {o : Oper} {s : St} {fo : Operand} {args : Array Operand} {Ts : Array TypeId} {F r : AV} {f : FuncId} {caps xs ys : List AV} {rd : List Nat} (ho : o.op = .call { callee := .value fo, args := args, argTypes := Ts })
    (hF : avo s fo = some F) (hc : callee F = some (f, caps)) (ha : avl s args.toList = some xs) (hvs : Views s rd (xs ++ caps) ys) (h : Has P f ys r) (hsafe : safe r = true) : LOK P o s ⟨some r, [], rd⟩ := by
  refine lok_kept fun s2 hl W N β w a hs K Q hK => ?_
  have hfo : avo s2 fo = some F := by rw [hl.avo (by rw [ho]; simp [Op.operands, Call.operands])]; exact hF
  obtain ⟨hok0, hFv⟩ := hs.opd hfo
  obtain ⟨hal, hag⟩ := avl_get ha
  -- the function and what it has captured
  obtain ⟨cap, hfv, hcl, hcv⟩ : ∃ cap : Array Value, a.eval fo = .func (.func f) #[] cap ∧ caps.length = cap.toList.length ∧ ∀ (i : Nat) (x : AV) (v : Value), caps[i]? = some x → cap.toList[i]? = some v → RV (notOwn W s2 β) W.w.heap.size β w x v := by
    unfold callee at hc
    split at hc
    · rename_i f' fs cs
      cases hb : (Nat.beq fs.size 0 && Nat.beq cs.size 0) with
      | false => rw [hb] at hc; cases hc
      | true =>
        rw [hb] at hc
        cases hc
        rw [Bool.and_eq_true] at hb
        have e1 : fs = #[] := Array.eq_empty_of_size_eq_zero (Nat.eq_of_beq_eq_true hb.1)
        have e2 : cs = #[] := Array.eq_empty_of_size_eq_zero (Nat.eq_of_beq_eq_true hb.2)
        subst e1; subst e2
        exact ⟨#[], hFv, rfl, fun i x v hx => by cases hx⟩
    · rename_i f' n c
      cases hc
      obtain ⟨cap, h1, h2, h3⟩ := hFv
      refine ⟨cap, h1, by simp [h2], fun i x v hx hv => ?_⟩
      rw [List.getElem?_map] at hx
      have hin : i < n := by
        rcases Nat.lt_or_ge i n with h | h
        · exact h
        · rw [List.getElem?_eq_none (by simpa using h)] at hx; cases hx
      rw [List.getElem?_range hin] at hx
      cases hx
      obtain ⟨y, a0, a2⟩ := h3 i hin
      rw [Array.getElem?_toList, a0] at hv
      cases hv
      exact a2
    · cases hc
  have hrun : (execOp a.eval o).run P w = .ok (.enter f (args.map a.eval ++ cap)) w := by
    unfold execOp; rw [ho]; simp only [resolve]; rw [hfv]
    simp [Deferred.ofValue, invoke, run_enter h.b]
  have hR0 : ∀ (i : Nat) (x : AV) (v : Value), (xs ++ caps)[i]? = some x → (args.map a.eval ++ cap).toList[i]? = some v → RV (notOwn W s2 β) W.w.heap.size β w x v := by
    intro i x v hx hv
    rw [Array.toList_append] at hv
    have hla : (args.map a.eval).toList.length = xs.length := by simp [hal]
    rw [List.getElem?_append] at hx hv
    rw [hla] at hv
    split at hx
    · rename_i hi
      rw [if_pos hi] at hv
      obtain ⟨q, e1, e2⟩ := hag i x hx
      rw [Array.toList_map, List.getElem?_map, e1] at hv
      cases hv
      refine (hs.opd ?_).2
      rw [hl.avo (by rw [ho]; simp only [Op.operands, Call.operands]; exact Array.mem_append.2 (.inr (Array.mem_toList_iff.1 (List.mem_of_getElem? e1))))]
      exact e2
    · rename_i hi
      rw [if_neg hi] at hv
      exact hcv _ x v hx hv
  have hlen : (xs ++ caps).length = (args.map a.eval ++ cap).toList.length := by simp [hal]; simpa using hcl
  obtain ⟨hvl, hvg⟩ := hvs.get
  have hR : RVs (fun _ => True) w.heap.size β w ys (args.map a.eval ++ cap).toList := by
    refine ⟨hvl.symm.trans hlen, fun i y v hy hv => ?_⟩
    obtain ⟨x, hx, hxy⟩ := hvg i y hy
    exact view_rv hs (hxy.like hl.heap) (hR0 i x v hx hv)
  have hcall := h.run w (fun _ => True) β (args.map a.eval ++ cap).toList hR
  unfold Oper.wp
  rw [hrun]
  show Calls P f _ w _
  rw [Array.toArray_toList] at hcall
  refine hcall.mono fun e w' he => ?_
  obtain ⟨v, rfl, hk, hv⟩ := he
  refine hK v w' hk fun x hx => ?_
  cases hx
  exact ⟨ok_none h.ok, safe_rv (fun b hb => ⟨fun hlt => absurd (Nat.lt_of_lt_of_le hlt hs.fix.size) (by omega), fun ho => by have := (own_lt hs ho).2; omega⟩) hs.kept.size hsafe hv⟩
theorem st_callO {ops : Array Oper} {l : List Oper} {s : St} {acc : List Fp} {K : St → List Fp → Prop} {d : Option Tmp} {ty : TypeId} {ps : String} {aft : Array Edge} {fo : Operand} {args : Array Operand} {Ts : Array TypeId} {F r : AV} {f : FuncId} {caps xs ys : List AV} (rd : List Nat)
    (hF : avo s fo = some F) (hc : callee F = some (f, caps)) (ha : avl s args.toList = some xs) (hvs : Views s rd (xs ++ caps) ys) (h : Has Try.prog f ys r) (hsafe : safe r = true)
    (k : AOps Try.prog ops l (nxt s d (some r) []) ((rd, []) :: acc) K) : AOps Try.prog ops (⟨d, .call ⟨.value fo, args, Ts⟩, ty, ps, aft, none⟩ :: l) s acc K :=
  .cons _ (.inl ⟨.none rfl, ok_callO rfl hF hc ha hvs h hsafe⟩) k
end Go.Proofs.Ytjmpanhacfjcaaa.AM
/- Limbs behind none: new limbs. -/
namespace Go.Proofs.Ytjmpanhacfjcaaa.AM
open Go Go.RowKit Go.Proofs.Ytjmpanhacfjcaaa.PN Go.Proofs.Ytjmpanhacfjcaaa.V
set_option linter.unusedVariables false
set_option linter.unusedSimpArgs false
theorem ok_build0 {o : Oper} {s : St} (ho : o.op = .buildSlice 27 0 #[]) : LOK Try.prog o s ⟨some .e0, [], []⟩ := by
  refine lok_kept fun s2 hl W N β w a hs K Q hK => ?_
  obtain ⟨i0, hi, hz0, hz1, hz2⟩ := info_parts info_u32
  have hrun : (Instr.buildSlice 27 0 (#[] : Array (Nat × Value))).run Try.prog w = .ok (.slice (some ⟨w.heap.size, 0, none⟩) 0 0) (w.alloc (.cells #[] U32)) :=
    run_buildSlice w Try.underlying27 hi hz0 hz1 (by omega) (by simp [Instr.fill, madeCells])
  unfold Oper.wp
  have he : (execOp a.eval o).run Try.prog w = .ok (.value (.slice (some ⟨w.heap.size, 0, none⟩) 0 0)) (w.alloc (.cells #[] U32)) := by
    unfold execOp; rw [ho]; simp only [Sem.run_bind]
    rw [show ((#[] : Array (Nat × Operand)).map fun p => (p.1, a.eval p.2)) = #[] from by simp, hrun]
    rfl
  rw [he]
  exact hK _ _ (Kept.alloc _ _) fun x hx => by cases hx; exact ⟨trivial, _, rfl, row_new w #[] U32⟩
theorem run_app0 {w : World} {g : Nat} {v : Value} {n : Nat} (hr : Row? w g #[] U32) (hn : NatS w (fun _ => True) v n) (hs : size n ≤ 1000000000000) (ty : TypeId) :
    ∃ v' w', (Builtin.append_ #[27, 27] ty #[.slice (some ⟨g, 0, none⟩) 0 0, v]).run Try.prog w = .ok v' w' ∧ Kept w w' ∧ NatS w' (fun _ => True) v' n := by
  obtain ⟨i0, hi, hz0, hz1, hz2⟩ := info_parts info_u32
  obtain ⟨A, c, rfl, hc, hx⟩ := hn
  by_cases h0 : size n = 0
  · refine ⟨.slice (some ⟨g, 0, none⟩) 0 0, w, ?_, Below.refl _ _, ?_⟩
    · rw [h0]
      cases A with
      | none => simp [Builtin.append_, run_underlying Try.underlying27, sizeOf, typeInfo, hi, Builtin.lenOf, Builtin.firstCells, storeCells]
      | some a => simp [Builtin.append_, run_underlying Try.underlying27, sizeOf, typeInfo, hi, Builtin.lenOf, Builtin.firstCells, storeCells, loadCells, loadCellsFrom, World.setCells]
    · show Dg w _ _ n (size n)
      rw [h0]
      exact ⟨_, _, rfl, Nat.le_refl _, fun i hi => absurd hi (Nat.not_lt_zero _)⟩
  · obtain ⟨A', c', e, _, hat⟩ := Dg.at (s := n) (⟨A, c, rfl, hc, hx⟩ : Dg w (fun _ => True) (.slice A (size n) c) n (size n))
    cases e
    obtain ⟨b, off, e1, _⟩ := hat 0 (by omega)
    subst e1
    obtain ⟨v', w', h1, h2, h3⟩ := run_append_arg_grows (P := Try.prog) w 27 ty U32 i0 (.int .u32 0) 1 4 Try.underlying27 hi hz0 hz1 hz2 rfl (by decide) ⟨g, 0, none⟩ 0 0 [] rfl (by simp) ⟨b, off, none⟩ (size n) c (lim n (size n)) (by rw [lim_length, Nat.mul_one]) (hat.cells_any) (by omega) (by unfold maxLen; omega) (by omega)
    refine ⟨v', w', h1, Kept.grown (Below.refl _ _) h3 (fun k hk => by cases hk), ?_⟩
    have h4 := Dg.of_own (s := n) (n := size n) h2 (by omega) rfl
    obtain ⟨A2, c2, q1, q2, q3⟩ := h4
    exact ⟨A2, c2, q1, q2, fun i hi => by obtain ⟨b, off, cs, a1, a2, a3, a4⟩ := q3 i hi; exact ⟨b, off, cs, a1, trivial, a3, a4⟩⟩
/-- The whole number whose limbs a value is. -/
def numA : AV → Option Nat
  | .nat n => some n
  | .rn (.q p) => some (nm p)
  | .rd (.q p) => some p.den
  | _ => none
theorem numA_rv {y : AV} {n : Nat} (h : numA y = some n) {S : Nat → Prop} {B : Nat} {β : Nat → Nat → Value} {w : World} {v : Value} : RV S B β w y v ↔ NatS w (fun _ => True) v n := by
  unfold numA at h
  split at h <;> cases h <;> exact Iff.rfl
theorem numA_ok {y : AV} {n : Nat} (h : numA y = some n) (U : Nat → Bool) : y.ok U := by
  unfold numA at h
  split at h <;> cases h <;> trivial
theorem ok_app0 {o : Oper} {s : St} {x y : Operand} {Y : AV} {n : Nat} (ho : o.op = .call { callee := .builtin .append, args := #[x, y], argTypes := #[27, 27] }) (hx : avo s x = some .e0) (hy : avo s y = some Y) (hn : numA Y = some n) (hs : size n ≤ 1000000000000) : LOK Try.prog o s ⟨some Y, [], []⟩ := by
  refine lok_kept fun s2 hl W N β w a hsim K Q hK => ?_
  obtain ⟨_, g, h1, hr⟩ := hsim.opd (x := x) (by rw [hl.avo (by rw [ho]; simp [Op.operands, Call.operands])]; exact hx)
  obtain ⟨_, h2⟩ := hsim.opd (x := y) (by rw [hl.avo (by rw [ho]; simp [Op.operands, Call.operands])]; exact hy)
  obtain ⟨v', w', hrun, hk, hv⟩ := run_app0 hr ((numA_rv hn).1 h2) hs o.type
  have he : (execOp a.eval o).run Try.prog w = .ok (.value v') w' := by
    unfold execOp; rw [ho]; simp only [resolve, List.map_toArray, List.map_cons, List.map_nil]; rw [h1]
    simp only [Sem.run_bind, Sem.run_pure, Result.andThen_ok, invoke, builtin, hrun]
  unfold Oper.wp
  rw [he]
  exact hK _ _ hk fun x hx => by cases hx; exact ⟨numA_ok hn _, (numA_rv hn).2 hv⟩
section
variable {ops : Array Oper} {l : List Oper} {s : St} {acc : List Fp} {K : St → List Fp → Prop} {d : Option Tmp} {ty : TypeId} {ps : String} {aft : Array Edge}
theorem st_build0 (k : AOps Try.prog ops l (nxt s d (some .e0) []) (([], []) :: acc) K) : AOps Try.prog ops (⟨d, .buildSlice 27 0 #[], ty, ps, aft, none⟩ :: l) s acc K := st_lok (ok_build0 rfl) k
theorem st_app0 {x y : Operand} {Y : AV} {n : Nat} (hx : avo s x = some .e0) (hy : avo s y = some Y) (hn : numA Y = some n) (hs : size n ≤ 1000000000000) (k : AOps Try.prog ops l (nxt s d (some Y) []) (([], []) :: acc) K) : AOps Try.prog ops (⟨d, .call ⟨.builtin .append, #[x, y], #[27, 27]⟩, ty, ps, aft, none⟩ :: l) s acc K := st_lok (ok_app0 rfl hx hy hn hs) k
end
theorem ok_build_num {o : Oper} {s : St} {parts : Array (Nat × Operand)} {ys : List (Nat × AV)} {b : Bool} {Y1 Y2 : AV} {n m : Nat} (q : Rat) (ho : o.op = .build RT parts) (hp : partsA s parts.toList = some ys) (hok : (ys.all fun p => partOK p.2) = true) (hf : fillA [(0, 1), (1, 1), (2, 1)] [.v (.bool false), .v (.slice none 0 0), .v (.slice none 0 0)] ys = some [.v (.bool b), Y1, Y2]) (h1 : numA Y1 = some n) (h2 : numA Y2 = some m) (hb : b = ng q) (hn : n = nm q) (hm : m = q.den) :
    LOK Try.prog o s ⟨some (.ra (.q q)), [], []⟩ := by
  refine lok_val fun s2 hk W N β w a hs => ?_
  obtain ⟨c', hrun, hc⟩ := build_lay ho lay_rt hp hok hf hk hs
  refine ⟨_, hrun, fun x hx => ?_⟩
  cases hx
  obtain ⟨c'⟩ := c'
  have hl : c'.length = 3 := hc.1
  match c', hl with
  | [v0, v1, v2], _ =>
    have a0 := (hc.2 0 _ _ rfl rfl).2.2
    have a1 := (hc.2 1 _ _ rfl rfl).2.2
    have a2 := (hc.2 2 _ _ rfl rfl).2.2
    have a0 : v0 = .bool b := a0
    subst a0; subst hn; subst hm
    exact ⟨trivial, b, v1, v2, rfl, hb, (numA_rv h1).1 a1, (numA_rv h2).1 a2⟩
theorem k_neg {p : Rat} (hs : wt p ≤ 1000000) : Has Try.prog 34 [.q p] (.q (-p)) := by
  refine has_of Try.func34 (by kernel_rfl) rfl Try.ntmps34 Try.results34 rfl rfl rfl ?_
  have b1 := wt_num p
  have b2 := wt_den p
  cases hg : ng p with
  | true =>
    have hA : ((!(ng p)) == true) = false := by rw [hg]; rfl
    have hB : (!(ng p)) = false := by rw [hg]; rfl
    have hq : (false : Bool) = ng (-p) := by rw [neg_ng, hg]; rfl
    refine run0 ?_
    with_reducible apply st_lok
    · exact ok_build_num (-p) rfl rfl rfl rfl rfl rfl hq (neg_nm p).symm (neg_den p).symm
    refine run0 ?_
    refine ⟨.inr rfl, _, Imp.refl _, ?_⟩
    exact .one (.rat rfl rfl (by decide) rfl (by decide) rfl)
  | false =>
    have hA : ((!(ng p)) == true) = true := by rw [hg]; rfl
    have hB : (!(ng p)) = true := by rw [hg]; rfl
    have hq : decide ((0 : Int) < (size (nm p) : Int)) = ng (-p) := by
      rw [neg_ng, hg]
      show _ = (true && decide (0 < nm p))
      rw [Bool.true_and]
      have h1 := size_eq_zero (s := nm p)
      exact decide_eq_decide.2 (by omega)
    refine run0 ?_
    with_reducible apply st_lok
    · exact ok_build_num (-p) rfl rfl rfl rfl rfl rfl hq (neg_nm p).symm (neg_den p).symm
    refine run0 ?_
    refine ⟨.inr rfl, _, Imp.refl _, ?_⟩
    exact .one (.rat rfl rfl (by decide) rfl (by decide) rfl)
theorem k_copy {p : Rat} (hs : wt p ≤ 1000000) : Has Try.prog 44 [.q p] (.q p) := by
  have h2 := k_neg (p := -p) (by rw [wt_neg]; exact hs)
  rw [Rat.neg_neg] at h2
  refine has_of Try.func44 (by kernel_rfl) rfl Try.ntmps44 Try.results44 rfl rfl rfl ?_
  repeat(first|refine run1 ?_|((with_reducible apply st_call);exact rfl;exact rfl;exact rfl;first|(exact k_neg hs)|(exact h2))|((with_reducible apply st_callg);exact rfl;exact rfl;(first|exact rfl|assumption);exact rfl;exact rfl;exact rfl;first|(exact k_neg hs)|(exact h2)))
  refine ⟨.inr rfl, _, Imp.refl _, ?_⟩
  exact .one (.rat rfl rfl (by decide) rfl (by decide) rfl)
theorem k_sub {p q : Rat} (hs : wt p ≤ 15000) (hs' : wt q ≤ 15000) : Has Try.prog 60 [.q p, .q q] (.q (p - q)) := by
  have h2 := hs_add (p := p) (q := -q) hs (by rw [wt_neg]; exact hs')
  rw [← Rat.sub_eq_add_neg] at h2
  refine has_of Try.func60 (by kernel_rfl) rfl Try.ntmps60 Try.results60 rfl rfl rfl ?_
  repeat(first|refine run1 ?_|((with_reducible apply st_call);exact rfl;exact rfl;exact rfl;first|(exact k_neg (by omega))|(exact h2))|((with_reducible apply st_callg);exact rfl;exact rfl;(first|exact rfl|assumption);exact rfl;exact rfl;exact rfl;first|(exact k_neg (by omega))|(exact h2)))
  refine ⟨.inr rfl, _, Imp.refl _, ?_⟩
  exact .one (.rat rfl rfl (by decide) rfl (by decide) rfl)
end Go.Proofs.Ytjmpanhacfjcaaa.AM
/- A matrix of own rows that is written no more. -/
namespace Go.Proofs.Ytjmpanhacfjcaaa.AM
open Go Go.RowKit Go.Proofs.Ytjmpanhacfjcaaa.PN Go.Proofs.Ytjmpanhacfjcaaa.V
set_option linter.unusedVariables false
set_option linter.unusedSimpArgs false
theorem imp_mat2 {s : St} (t : Nat) {g g2 n : Nat} {F F2 : Nat → Blk} {f : Nat → AV} (m : Nat → Nat) (G : Nat → Nat → RA) (hx : s.env t = some (.own g 0)) (hg : s.heap g = some (1, F)) (hF : F 0 = .ones WT n f) (hf : ∀ i, i < n → f i = .own g2 i) (hg2 : s.heap g2 = some (n, F2)) (hF2 : ∀ i, i < n → F2 i = .rats (m i) (G i)) (hne : g ≠ g2) :
    Imp s ⟨put s.env t (some (.mat true n m G)), put (put s.heap g none) g2 none, s.used⟩ := by
  intro W N β w a hs
  have hheap : ∀ h n1 F1, put (put s.heap g none) g2 none h = some (n1, F1) → s.heap h = some (n1, F1) ∧ h ≠ g ∧ h ≠ g2 := by
    intro h n1 F1 e
    by_cases c2 : h = g2
    · subst c2; rw [put_same] at e; cases e
    · rw [put_ne _ _ c2] at e
      by_cases c1 : h = g
      · subst c1; rw [put_same] at e; cases e
      · rw [put_ne _ _ c1] at e; exact ⟨e, c1, c2⟩
  generalize hs' : (⟨put s.env t (some (.mat true n m G)), put (put s.heap g none) g2 none, s.used⟩ : St) = s'
  have hown : ∀ i, Own s' β i → Own s β i ∧ ub (β g 0) ≠ some i ∧ ∀ r, r < n → ub (β g2 r) ≠ some i := by
    rintro i ⟨h, n1, F1, r, h1, h2, h3⟩
    subst hs'
    obtain ⟨a1, a2, a3⟩ := hheap h n1 F1 h1
    exact ⟨⟨h, n1, F1, r, a1, h2, h3⟩, fun e => a2 (hs.inj _ _ _ _ _ _ _ _ i a1 h2 hg (by decide) h3 e).1, fun r' hr' e => a3 (hs.inj _ _ _ _ _ _ _ _ i a1 h2 hg2 hr' h3 e).1⟩
  have kf : Fwd (notOwn W s β) (notOwn W s' β) W.w.heap.size W.w.heap.size s.used β β (fun _ => False) w w :=
    ⟨Ext.refl _ _, fun _ _ h => h, fun b hb _ => ⟨hb.1, fun ho => hb.2 (hown b ho).1⟩, Nat.le_refl _, fun _ _ _ => rfl⟩
  have hpub : ∀ b, Own s β b → ¬ Own s' β b → notOwn W s' β b := fun b ho hn => ⟨fun hlt => W.law b (own_lt hs ho).1 hlt (hs.pin b ho), hn⟩
  refine ⟨β, hs.kept, hs.nodef, hs.size, fun t' z hz => ?_, fun h n1 F1 r h1 h2 => ?_, fun h n1 F1 h1 => ?_, fun g1 n1 F1 r1 g3 n3 F3 r3 k h1 h2 h3 h4 h5 h6 => ?_, hs.fix, fun i ho => hs.pin i (hown i ho).1, by subst hs'; exact hs.fixd, by subst hs'; exact hs.keep⟩
  · have hu : s'.used = s.used := by subst hs'; rfl
    have hz : put s.env t (some (.mat true n m G)) t' = some z := by subst hs'; exact hz
    rw [hu]
    by_cases e : t' = t
    · subst e
      rw [put_same] at hz
      cases hz
      refine ⟨trivial, ?_⟩
      obtain ⟨e0, A, n', c, e⟩ := (hs.env t' _ hx).2
      have hb := (hs.heap g 1 F 0 hg (by decide)).2
      rw [hF] at hb
      rcases hb.2 with ⟨e', rfl⟩ | ⟨k, cs, hB, hr, hat, hxx⟩
      · exact ⟨none, 0, e0.trans e', Nat.le_refl _, Nat.zero_le _, fun i hi => absurd hi (Nat.not_lt_zero _)⟩
      · have hub := ub_at hat
        rcases hat with ⟨e', _⟩ | ⟨cap, e', h3, h4, _⟩
        · rw [← e0, e] at e'; cases e'
        · refine ⟨_, cap, e0.trans e', h3, h4, fun i hi => ?_⟩
          obtain ⟨y, a0, a1, a2⟩ := hxx i hi
          rw [hf i hi] at a2
          have hb2 := (hs.heap g2 n F2 i hg2 hi).2
          rw [hF2 i hi] at hb2
          refine ⟨k, 0, cs, y, rfl, hpub k ⟨g, 1, F, 0, hg, by decide, hub⟩ (fun ho => (hown k ho).2.1 hub), fun _ => hB, hr, by rw [Nat.zero_add]; exact a0, ?_⟩
          exact own_row a2 hb2 fun b hb => hpub b ⟨g2, n, F2, i, hg2, hi, hb⟩ (fun ho => (hown b ho).2.2 i hi hb)
    · rw [put_ne _ _ e] at hz
      exact ⟨(hs.env t' z hz).1, (hs.env t' z hz).2.fwd kf (hs.env t' z hz).1⟩
  · have hu : s'.used = s.used := by subst hs'; rfl
    have h1 : put (put s.heap g none) g2 none h = some (n1, F1) := by subst hs'; exact h1
    rw [hu]
    obtain ⟨a1, a2, a3⟩ := hheap h n1 F1 h1
    obtain ⟨q1, q2⟩ := hs.heap h n1 F1 r a1 h2
    exact ⟨q1, RB.fwd kf q1 (fun _ _ h => h) q2⟩
  · subst hs'
    exact hs.live _ _ _ (hheap h n1 F1 h1).1
  · subst hs'
    exact hs.inj _ _ _ _ _ _ _ _ k (hheap g1 n1 F1 h1).1 h2 (hheap g3 n3 F3 h3).1 h4 h5 h6
end Go.Proofs.Ytjmpanhacfjcaaa.AM
/- Dense matrices: walks: numbers, sums of products. -/
namespace Go.Proofs.Ytjmpanhacfjcaaa.AM
open Go Go.RowKit Go.Proofs.Ytjmpanhacfjcaaa.PN Go.Proofs.Ytjmpanhacfjcaaa.V
open Go.Proofs.Ytjmpanhacfjcaaa.LA (S S_succ S_zero S_congr)
set_option linter.unusedVariables false
set_option linter.unusedSimpArgs false
theorem lb_one {w : World} {v : Value} {S : Nat → Prop} (hS : ∀ b, S b) (h : Lbs w v [1]) : NatS w S v 1 := by
  obtain ⟨A, c, rfl, hc, hx⟩ := h
  refine ⟨A, c, rfl, hc, fun i hi => ?_⟩
  obtain ⟨b, off, cs, e1, e2, e3⟩ := hx i hi
  have hi : i < 1 := hi
  obtain rfl : i = 0 := by omega
  exact ⟨b, off, cs, e1, hS b, e2, by rw [e3]; congr 2⟩
theorem rv_zero {S : Nat → Prop} {B : Nat} {β : Nat → Nat → Value} {w : World} {v : Value} (h : RV S B β w (.ra (.raw false [] [1])) v) : RV S B β w (.q 0) v := by
  obtain ⟨s, vn, vd, rfl, h1, h2, h3⟩ := h
  refine ⟨s, vn, vd, rfl, h1, ?_, lb_one (fun _ => trivial) h3⟩
  obtain ⟨A, c, rfl, hc, hx⟩ := h2
  exact ⟨A, c, rfl, hc, fun i hi => absurd hi (Nat.not_lt_zero _)⟩
theorem rv_one {S : Nat → Prop} {B : Nat} {β : Nat → Nat → Value} {w : World} {v : Value} (h : RV S B β w (.ra (.raw false [1] [1])) v) : RV S B β w (.q 1) v := by
  obtain ⟨s, vn, vd, rfl, h1, h2, h3⟩ := h
  exact ⟨s, vn, vd, rfl, h1, lb_one (fun _ => trivial) h2, lb_one (fun _ => trivial) h3⟩
theorem Has.imp {f : FuncId} {xs : List AV} {r r' : AV} (h : Has Try.prog f xs r) (hc : r'.closed = true) (k : ∀ S B β w v, RV S B β w r v → RV S B β w r' v) : Has Try.prog f xs r' :=
  ⟨h.b, closed_ok hc, fun w S β vs hv => (h.run w S β vs hv).mono fun e w' ⟨v, he, hk, hr⟩ => ⟨v, he, hk, k _ _ _ _ _ hr⟩⟩
theorem d_zero : Has Try.prog 73 [] (.q 0) := by
  refine Has.imp (r := .ra (.raw false [] [1])) ?_ rfl (fun S B β w v => rv_zero)
  refine has_of Try.func73 (by kernel_rfl) rfl Try.ntmps73 Try.results73 rfl rfl rfl ?_
  refine run0 ?_
  refine ⟨.inr rfl, _, Imp.refl _, ?_⟩
  exact .one (.rat rfl rfl (by decide) rfl (by decide) rfl)
theorem d_one : Has Try.prog 80 [] (.q 1) := by
  refine Has.imp (r := .ra (.raw false [1] [1])) ?_ rfl (fun S B β w v => rv_one)
  refine has_of Try.func80 (by kernel_rfl) rfl Try.ntmps80 Try.results80 rfl rfl rfl ?_
  refine run0 ?_
  refine ⟨.inr rfl, _, Imp.refl _, ?_⟩
  exact .one (.rat rfl rfl (by decide) rfl (by decide) rfl)
theorem d_dot {n K : Nat} {f g : Nat → Rat} [hf : ∀ i, Wt (f i) K] [hg : ∀ i, Wt (g i) K] (hn : n ≤ 8) (hK : K ≤ 1000000000) : Has Try.prog 70 [.row false n (fun i => .q (f i)), .row false n (fun i => .q (g i))] (.q (S n fun i => f i * g i)) := by
  refine has_of Try.func70 (by kernel_rfl) rfl Try.ntmps70 Try.results70 rfl rfl rfl ?_
  repeat(first|refine run1 ?_|((with_reducible apply st_call);exact rfl;exact rfl;exact rfl;first|(exact d_zero))|((with_reducible apply st_callg);exact rfl;exact rfl;(first|exact rfl|assumption);exact rfl;exact rfl;exact rfl;first|(exact d_zero)))
  refine awp_loop (fun m s => ∃ k, k ≤ n ∧ m = n - k ∧ s = stl [(0, .row false n (fun i => .q (f i))), (1, .row false n (fun i => .q (g i))), (4, .rptr 4 0 0), (5, .rptr 5 0 0), (12, .i (min (n : Int) n)), (13, .i (k : Int))] [(4, (1, fun _ => .rats 1 (fun _ => ra0))), (5, (1, fun _ => .rats 1 (fun _ => .q (S k fun i => f i * g i))))]) n _ (imp_id ?_ ?_) ⟨0, Nat.zero_le _, rfl, rfl⟩ ?_
  · repeat (first | exact True.intro | refine alle rfl (Le.id rfl) (by first | exact True.intro | rfl) ?_)
  · repeat (first | exact True.intro | refine allh rfl (by decide) (ble1 rfl) True.intro ?_)
  · rintro m s ⟨k, hk, rfl, rfl⟩
    have w1 : Wt (S k fun i => f i * g i) (8 * (K + K + 1) + 1) := Wt.sum (by omega) fun i _ => inferInstance
    refine run0 ?_
    refine awp_if rfl (fun h => ?_) (fun h => ?_)
    · have h : k < n := by omega
      repeat(first|refine run1 ?_|((with_reducible apply st_call);exact rfl;exact rfl;exact rfl;first|(exact c_mul ⟨by omega, by omega⟩)|(exact c_add ⟨by omega, by omega⟩))|((with_reducible apply st_callg);exact rfl;exact rfl;(first|exact rfl|assumption);exact rfl;exact rfl;exact rfl;first|(exact c_mul ⟨by omega, by omega⟩)|(exact c_add ⟨by omega, by omega⟩)))
      refine q_loop (m' := n - (k + 1)) (by omega) (imp_id (e := [(0, .row false n (fun i => .q (f i))), (1, .row false n (fun i => .q (g i))), (4, .rptr 4 0 0), (5, .rptr 5 0 0), (12, .i (min (n : Int) n)), (13, .i ((k + 1 : Nat) : Int))]) (h := [(4, (1, fun _ => .rats 1 (fun _ => ra0))), (5, (1, fun _ => .rats 1 (fun _ => .q (S (k + 1) fun i => f i * g i))))]) ?_ ?_) ⟨k + 1, by omega, rfl, rfl⟩
      · repeat (first | exact True.intro | refine alle rfl (Le.id rfl) (by first | exact True.intro | rfl) ?_)
      · repeat (first | exact True.intro | refine allh rfl (by decide) (ble1 rfl) True.intro ?_)
    · obtain rfl : k = n := by omega
      refine run0 ?_
      refine ⟨.inr rfl, _, Imp.refl _, ?_⟩
      exact .one (.rat rfl rfl (by decide) rfl (by decide) rfl)
end Go.Proofs.Ytjmpanhacfjcaaa.AM
/- Dense matrices: walks: right rows, square matrices, products with vectors. -/
namespace Go.Proofs.Ytjmpanhacfjcaaa.AM
open Go Go.RowKit Go.Proofs.Ytjmpanhacfjcaaa.PN Go.Proofs.Ytjmpanhacfjcaaa.V
open Go.Proofs.Ytjmpanhacfjcaaa.LA (S S_succ S_zero S_congr)
set_option linter.unusedVariables false
set_option linter.unusedSimpArgs false
theorem shape_u : Try.prog.underlying 96 = some (.array 2 3) := by kernel_rfl
theorem int_u : Try.prog.underlying 3 = some (.int .i64) := by kernel_rfl
theorem int_info : (Try.prog.info? 3).map (fun i => (i.zero, i.size, i.bytes)) = some (some (.int .i64 0), 1, 8) := by kernel_rfl
theorem run_eq_shape (w : World) (a b c d : Int) : (Op.equal 96 (.agg #[.int .i64 a, .int .i64 b]) (.agg #[.int .i64 c, .int .i64 d])).run Try.prog w = .ok (decide (a = c) && decide (b = d)) w := by
  obtain ⟨i0, hi, hz0, hz1, hz2⟩ := info_parts int_info
  have hint : ∀ (n : Nat) (x y : Int), (Op.equalIn (n + 1) 3 (.int .i64 x) (.int .i64 y)).run Try.prog w = .ok (decide (x = y)) w := by
    intro n x y
    simp [Op.equalIn, run_underlying int_u, beq_dec]
  have hp : ∀ (xs : Array Value) (o : Nat) (v : Value), xs[o]? = some v → (part 3 xs o).run Try.prog w = .ok v w := by
    intro xs o v h
    simp [part, isAgg, run_underlying int_u, h]
  have hp0 : ∀ x y : Int, (part 3 #[.int .i64 x, .int .i64 y] 0).run Try.prog w = .ok (.int .i64 x) w := fun x y => hp _ 0 _ rfl
  have hp1 : ∀ x y : Int, (part 3 #[.int .i64 x, .int .i64 y] 1).run Try.prog w = .ok (.int .i64 y) w := fun x y => hp _ 1 _ rfl
  unfold Op.equal
  rw [show Op.maxDepth = 9998 + 1 + 1 from rfl]
  unfold Op.equalIn
  rw [Sem.run_bind, run_underlying shape_u w]
  by_cases h1 : a = c <;> by_cases h2 : b = d <;>
  simp [sizeOf, typeInfo, hi, hz1, hint, hp0, hp1, h1, h2, Std.Legacy.Range.forIn_eq_forIn_range', List.range'_succ]
theorem pair_vals {S : Nat → Prop} {B : Nat} {β : Nat → Nat → Value} {w : World} {f : Nat → AV} {v : Value} {a b : Int} (h : RV S B β w (.ag 2 f) v) (h0 : f 0 = .i a) (h1 : f 1 = .i b) : v = .agg #[.int .i64 a, .int .i64 b] := by
  obtain ⟨cs, rfl, h2, h3⟩ := h
  obtain ⟨y0, e0, _, r0⟩ := h3 0 (by decide)
  obtain ⟨y1, e1, _, r1⟩ := h3 1 (by decide)
  rw [h0] at r0; rw [h1] at r1
  have r0 : y0 = .int .i64 a := r0
  have r1 : y1 = .int .i64 b := r1
  subst r0; subst r1
  obtain ⟨cs⟩ := cs
  match cs, h2 with
  | [x, y], _ => cases e0; cases e1; rfl
theorem ok_neq_shape {o : Oper} {s : St} {x y : Operand} {T' : TypeId} {f g : Nat → AV} {a b c d : Int} (ho : o.op = .binOp .neq 96 x y T') (hx : avo s x = some (.ag 2 f)) (hy : avo s y = some (.ag 2 g)) (h0 : f 0 = .i a) (h1 : f 1 = .i b) (h2 : g 0 = .i c) (h3 : g 1 = .i d) :
    LOK Try.prog o s ⟨some (.b (!(decide (a = c) && decide (b = d)))), [], []⟩ := by
  refine lok_val fun s2 hl W N β w ac hs => ⟨.bool (!(decide (a = c) && decide (b = d))), ?_, fun z hz => by cases hz; exact ⟨trivial, rfl⟩⟩
  have e1 := pair_vals (hs.opd (x := x) (by rw [hl.avo (by rw [ho]; simp [Op.operands])]; exact hx)).2 h0 h1
  have e2 := pair_vals (hs.opd (x := y) (by rw [hl.avo (by rw [ho]; simp [Op.operands])]; exact hy)).2 h2 h3
  have hg : (Try.prog.eqGuardType Try.prog.depth 96) = false := by kernel_rfl
  unfold execOp; rw [ho]; simp only []; rw [e1, e2]
  simp [eqGuard, binOp, program, Sem.run, hg, run_eq_shape]
theorem d_right {n K : Nat} {f : Nat → Rat} [hf : ∀ i, Wt (f i) K] (hK : K ≤ 1000000000000) (hn : n ≤ 1000000) : Has Try.prog 57 [.row false n (fun i => .q (f i))] (.b true) := by
  refine has_of Try.func57 (by kernel_rfl) rfl Try.ntmps57 Try.results57 rfl rfl rfl ?_
  refine run0 ?_
  refine awp_loop (fun m s => ∃ k, k ≤ n ∧ m = n - k ∧ s = stl [(0, .row false n (fun i => .q (f i))), (5, .row false n (fun i => .q (f i))), (6, .i (n : Int)), (7, .i (k : Int))] []) n _ (imp_id ?_ ?_) ⟨0, Nat.zero_le _, rfl, rfl⟩ ?_
  · exact eA
  · exact hA
  · rintro m s ⟨k, hk, rfl, rfl⟩
    refine run0 ?_
    refine awp_if rfl (fun h => ?_) (fun h => ?_)
    · have h : k < n := by omega
      repeat(first|refine run1 ?_|((with_reducible apply st_call);exact rfl;exact rfl;exact rfl;first|(exact c_right hK))|((with_reducible apply st_callg);exact rfl;exact rfl;(first|exact rfl|assumption);exact rfl;exact rfl;exact rfl;first|(exact c_right hK)))
      refine awp_no rfl rfl ?_
      refine run0 ?_
      refine q_loop ?_ (imp_id ?_ ?_) ⟨k + 1, ?_, rfl, rfl⟩
      · omega
      · exact eA
      · exact hA
      · omega
    · refine run0 ?_
      refine ⟨.inr rfl, _, Imp.refl _, ?_⟩
      exact .one (.tmp rfl)
end Go.Proofs.Ytjmpanhacfjcaaa.AM
/- Dense matrices: walks: square matrices, products with vectors. -/
namespace Go.Proofs.Ytjmpanhacfjcaaa.AM
open Go Go.RowKit Go.Proofs.Ytjmpanhacfjcaaa.PN Go.Proofs.Ytjmpanhacfjcaaa.V
open Go.Proofs.Ytjmpanhacfjcaaa.LA (S S_succ S_zero S_congr)
set_option linter.unusedVariables false
set_option linter.unusedSimpArgs false
theorem d_square {n K : Nat} {F : Nat → Nat → Rat} [hf : ∀ i j, Wt (F i j) K] (hK : K ≤ 1000000000000) (h0 : 0 < n) (hn : n ≤ 1000000) : Has Try.prog 46 [.mat false n (fun _ => n) (fun i j => .q (F i j))] (.b true) := by
  refine has_of Try.func46 (by kernel_rfl) rfl Try.ntmps46 Try.results46 rfl rfl rfl ?_
  refine run0 ?_
  refine awp_loop (fun m s => ∃ k, k ≤ n ∧ m = n - k ∧ s = stl [(0, .mat false n (fun _ => n) (fun i j => .q (F i j))), (3, .i (n : Int)), (8, .mat false n (fun _ => n) (fun i j => .q (F i j))), (9, .i (n : Int)), (10, .i (k : Int))] []) n _ (imp_id ?_ ?_) ⟨0, Nat.zero_le _, rfl, rfl⟩ ?_
  · exact eA
  · exact hA
  · rintro m s ⟨k, hk, rfl, rfl⟩
    refine run0 ?_
    refine awp_if rfl (fun h => ?_) (fun h => ?_)
    · have h : k < n := by omega
      refine run0 ?_
      with_reducible apply st_lok
      · exact ok_neq_shape (a := n) (b := n) (c := n) (d := n) rfl rfl rfl rfl rfl rfl rfl
      have e1 : (!(decide ((n : Int) = n) && decide ((n : Int) = n))) = false := by simp
      rw [e1]
      repeat(first|refine run1 ?_|((with_reducible apply st_call);exact rfl;exact rfl;exact rfl;first|(exact d_right hK hn))|((with_reducible apply st_callg);exact rfl;exact rfl;(first|exact rfl|assumption);exact rfl;exact rfl;exact rfl;first|(exact d_right hK hn)))
      refine awp_no rfl rfl ?_
      refine run0 ?_
      refine q_loop ?_ (imp_id ?_ ?_) ⟨k + 1, ?_, rfl, rfl⟩
      · omega
      · exact eA
      · exact hA
      · omega
    · refine run0 ?_
      refine ⟨.inr rfl, _, Imp.refl _, ?_⟩
      have e : (some (AV.b (decide (0 < (n : Int))))) = some (.b true) := by congr 2; simp; omega
      exact .one (.tmp e)
theorem d_apply {n K L : Nat} {F : Nat → Nat → Rat} {v : Nat → Rat} [hf : ∀ i j, Wt (F i j) K] [hv : ∀ i, Wt (v i) L] (hK : K ≤ 1000000000) (hL : L ≤ K) (h0 : 0 < n) (hn : n ≤ 8) : Has Try.prog 38 [.mat false n (fun _ => n) (fun i j => .q (F i j)), .row false n (fun i => .q (v i))] (.row true n (fun i => .q (S n fun j => F i j * v j))) := by
  have hv' : ∀ i, Wt (v i) K := fun i => (hv i).mono hL
  refine has_of Try.func38 (by kernel_rfl) rfl Try.ntmps38 Try.results38 rfl rfl rfl ?_
  repeat(first|refine run1 ?_|((with_reducible apply st_call);exact rfl;exact rfl;exact rfl;first|(exact d_square (by omega) h0 (by omega))|(exact d_right (hf := hv) (by omega) (by omega)))|((with_reducible apply st_callg);exact rfl;exact rfl;(first|exact rfl|assumption);exact rfl;exact rfl;exact rfl;first|(exact d_square (by omega) h0 (by omega))|(exact d_right (hf := hv) (by omega) (by omega))))
  rw [show decide ((n : Int) ≠ n) = false by simp]
  repeat(first|refine run1 ?_|((with_reducible apply st_call);exact rfl;exact rfl;exact rfl;first|(exact d_square (by omega) h0 (by omega))|(exact d_right (hf := hv) (by omega) (by omega)))|((with_reducible apply st_callg);exact rfl;exact rfl;(first|exact rfl|assumption);exact rfl;exact rfl;exact rfl;first|(exact d_square (by omega) h0 (by omega))|(exact d_right (hf := hv) (by omega) (by omega))))
  refine awp_no rfl rfl ?_
  refine run0 ?_
  refine awp_loop (fun m s => ∃ k, k ≤ n ∧ m = n - k ∧ s = stl [(0, .mat false n (fun _ => n) (fun i j => .q (F i j))), (1, .row false n (fun i => .q (v i))), (5, .own 25 0), (26, .mat false n (fun _ => n) (fun i j => .q (F i j))), (27, .i (n : Int)), (28, .i (k : Int))] [(25, (1, fun _ => .rats n (grow (fun i => .q (S n fun j => F i j * v j)) ra0 k)))]) n _ (imp_id ?_ ?_) ⟨0, Nat.zero_le _, rfl, rfl⟩ ?_
  · exact eA
  · exact hA
  · rintro m s ⟨k, hk, rfl, rfl⟩
    refine run0 ?_
    refine awp_if rfl (fun h => ?_) (fun h => ?_)
    · have h : k < n := by omega
      repeat(first|refine run1 ?_|((with_reducible apply st_call);exact rfl;exact rfl;exact rfl;first|(exact d_dot hn hK))|((with_reducible apply st_callg);exact rfl;exact rfl;(first|exact rfl|assumption);exact rfl;exact rfl;exact rfl;first|(exact d_dot hn hK)))
      refine q_loop ?_ (imp_id ?_ ?_) ⟨k + 1, ?_, rfl, rfl⟩
      · omega
      · exact eA
      · refine allh rfl (by decide) (blen rfl fun i hi => grow_step _ _ k i) True.intro True.intro
      · omega
    · obtain rfl : k = n := by omega
      refine run0 ?_
      refine ⟨.inr rfl, _, imp_rowv 4 (fun i => .q (S k fun j => F i j * v j)) rfl rfl rfl (fun i hi => grow_full _ _ hi), ?_⟩
      exact .one (.tmp rfl)
end Go.Proofs.Ytjmpanhacfjcaaa.AM
/- Dense matrices: walks: made, Turn, Mul. -/
namespace Go.Proofs.Ytjmpanhacfjcaaa.AM
open Go Go.RowKit Go.Proofs.Ytjmpanhacfjcaaa.PN Go.Proofs.Ytjmpanhacfjcaaa.V
open Go.Proofs.Ytjmpanhacfjcaaa.LA (S S_succ S_zero S_congr)
set_option linter.unusedVariables false
set_option linter.unusedSimpArgs false
theorem grow_ok {U : Nat → Bool} {v : Nat → AV} {z : AV} {k : Nat} (hv : ∀ i, (v i).ok U) (hz : z.ok U) : ∀ i, (grow v z k i).ok U := fun i => by
  unfold grow; cases Nat.ble (i + 1) k
  · exact hz
  · exact hv i
theorem d_made {n m : Nat} {g : FuncId} {c : Nat → AV} {F : Nat → Nat → Rat} (hn : n ≤ 8) (hc : (AV.clo g m c).closed = true) (H : ∀ i j, i < n → j < n → Has Try.prog g (([AV.i i, AV.i j] ++ (List.range m).map c).map AV.old) (.q (F i j))) : Has Try.prog 68 [.i n, .clo g m c] (.mat true n (fun _ => n) (fun i j => .q (F i j))) := by
  refine has_of Try.func68 (by kernel_rfl) rfl Try.ntmps68 Try.results68 (by simp only [List.all, hc]; rfl) rfl rfl ?_
  have hco : ∀ U, (AV.clo g m c).ok U := fun U => ok_none (closed_ok hc)
  refine run0 ?_
  refine awp_loop (fun m' s => ∃ k, k ≤ n ∧ m' = n - k ∧ s = stl [(0, .i n), (1, .clo g m c), (5, .own 9 0), (10, .i n), (11, .i (k : Int))] [(9, (1, fun _ => .ones WT n (grow (fun i => .row true n (fun j => .q (F i j))) (.v (.slice none 0 0)) k)))]) n _ (imp_id ?_ ?_) ⟨0, Nat.zero_le _, rfl, rfl⟩ ?_
  · refine alle rfl (Le.id rfl) True.intro (alle rfl (Le.id rfl) (hco _) ?_)
    exact eA
  · refine allh rfl (by decide) (bleo rfl fun i hi => Le.id rfl) ?_ True.intro
    intro i hi; exact True.intro
  · rintro m' s ⟨k, hk, rfl, rfl⟩
    refine run0 ?_
    refine awp_if rfl (fun h => ?_) (fun h => ?_)
    · have h : k < n := by omega
      refine run0 ?_
      refine awp_loop (fun m' s => ∃ j, j ≤ n ∧ m' = n - j ∧ s = stl [(0, .i n), (1, .clo g m c), (5, .own 9 0), (6, .i (k : Int)), (10, .i n), (11, .i (k : Int)), (19, .i n), (20, .i (j : Int))] [(9, (1, fun _ => .ones WT n (updN (grow (fun i => .row true n (fun j => .q (F i j))) (.v (.slice none 0 0)) k) k (.own 17 0)))), (17, (1, fun _ => .rats n (grow (fun j => .q (F k j)) ra0 j)))]) n _ (imp_id ?_ ?_) ⟨0, Nat.zero_le _, rfl, rfl⟩ ?_
      · refine alle rfl (Le.id rfl) True.intro (alle rfl (Le.id rfl) (hco _) ?_)
        exact eA
      · refine allh rfl (by decide) (bleo rfl fun i hi => Le.id rfl) ?_ (allh rfl (by decide) (blen rfl fun i hi => rfl) True.intro True.intro)
        intro i hi
        by_cases e : i = k
        · subst e; rw [updN_same]; rfl
        · rw [updN_ne _ _ e]; exact grow_ok (v := fun i => AV.row true n (fun j => RA.q (F i j))) (z := .v (.slice none 0 0)) (fun _ => True.intro) True.intro i
      · rintro m' s ⟨j, hj, rfl, rfl⟩
        refine run0 ?_
        refine awp_if rfl (fun h' => ?_) (fun h' => ?_)
        · have h' : j < n := by omega
          repeat(first|refine run1 ?_|((with_reducible apply st_call);exact rfl;exact rfl;exact rfl;first|(exact H k j h h'))|((with_reducible apply st_callg);exact rfl;exact rfl;(first|exact rfl|assumption);exact rfl;exact rfl;exact rfl;first|(exact H k j h h')))
          rw [show updN (grow (fun i => AV.row true n (fun j => .q (F i j))) (.v (.slice none 0 0)) k) k (.own 17 0) ((k : Int)).toNat = .own 17 0 from updN_same _ _ _]
          repeat(first|refine run1 ?_|((with_reducible apply st_call);exact rfl;exact rfl;exact rfl;first|(exact H k j h h'))|((with_reducible apply st_callg);exact rfl;exact rfl;(first|exact rfl|assumption);exact rfl;exact rfl;exact rfl;first|(exact H k j h h')))
          refine q_loop ?_ (imp_id ?_ ?_) ⟨j + 1, ?_, rfl, rfl⟩
          · omega
          · refine alle rfl (Le.id rfl) True.intro (alle rfl (Le.id rfl) (hco _) ?_)
            exact eA
          · refine allh rfl (by decide) (bleo rfl fun i hi => Le.id rfl) ?_ (allh rfl (by decide) (blen rfl fun i hi => grow_step _ _ j i) True.intro True.intro)
            intro i hi
            by_cases e : i = k
            · subst e; rw [updN_same]; rfl
            · rw [updN_ne _ _ e]; exact grow_ok (v := fun i => AV.row true n (fun j => RA.q (F i j))) (z := .v (.slice none 0 0)) (fun _ => True.intro) True.intro i
          · omega
        · obtain rfl : j = n := by omega
          refine run0 ?_
          refine q_loop ?_ ((imp_pub 9 k rfl rfl h (updN_same _ _ _) rfl rfl (by decide)).trans (imp_id ?_ ?_)) ⟨k + 1, ?_, rfl, rfl⟩
          · omega
          · refine alle rfl (Le.id rfl) True.intro (alle rfl (Le.id rfl) (hco _) ?_)
            exact eA
          · refine allh rfl (by decide) (bleo rfl fun i hi => ?_) ?_ True.intro
            · by_cases e : i = k
              · subst e
                rw [updN_same, grow_full _ _ (Nat.lt_succ_self i)]
                exact Le.row rfl (fun j hj => grow_full _ _ hj) fun h => h
              · rw [updN_ne _ _ e, updN_ne _ _ e, ← grow_step, updN_ne _ _ e]
                exact Le.id rfl
            · intro i hi; exact grow_ok (v := fun i => AV.row true j (fun j => RA.q (F i j))) (z := .v (.slice none 0 0)) (fun _ => True.intro) True.intro i
          · omega
    · obtain rfl : k = n := by omega
      refine run0 ?_
      refine ⟨.inr rfl, _, imp_mat 4 (fun _ => k) (fun i j => .q (F i j)) rfl rfl rfl (fun i hi => grow_full _ _ hi), ?_⟩
      exact .one (.tmp rfl)
theorem d_turn {n K : Nat} {F : Nat → Nat → Rat} [hf : ∀ i j, Wt (F i j) K] (hK : K ≤ 1000000000) (h0 : 0 < n) (hn : n ≤ 8) : Has Try.prog 33 [.mat false n (fun _ => n) (fun i j => .q (F i j))] (.mat true n (fun _ => n) (fun i j => .q (F j i))) := by
  have H : ∀ i j, i < n → j < n → Has Try.prog 71 [.i i, .i j, .cp (.mat false n (fun _ => n) (fun i j => .q (F i j)))] (.q (F j i)) := by
    intro i j hi hj
    rw [← Rat.add_zero (F j i)]
    refine has_of Try.func71 (by kernel_rfl) rfl Try.ntmps71 Try.results71 rfl rfl rfl ?_
    repeat(first|refine run1 ?_|((with_reducible apply st_call);exact rfl;exact rfl;exact rfl;first|(exact d_zero)|(exact c_add ⟨by omega, by omega⟩))|((with_reducible apply st_callg);exact rfl;exact rfl;(first|exact rfl|assumption);exact rfl;exact rfl;exact rfl;first|(exact d_zero)|(exact c_add ⟨by omega, by omega⟩)))
    refine ⟨.inr rfl, _, Imp.refl _, ?_⟩
    exact .one (.rat rfl rfl (by decide) rfl (by decide) rfl)
  refine has_of Try.func33 (by kernel_rfl) rfl Try.ntmps33 Try.results33 rfl rfl rfl ?_
  repeat(first|refine run1 ?_|((with_reducible apply st_call);exact rfl;exact rfl;exact rfl;first|(exact d_square (by omega) h0 (by omega)))|((with_reducible apply st_callg);exact rfl;exact rfl;(first|exact rfl|assumption);exact rfl;exact rfl;exact rfl;first|(exact d_square (by omega) h0 (by omega))))
  refine awp_no rfl rfl ?_
  refine awp_imp (imp_cell 1 rfl rfl rfl rfl) ?_
  repeat(first|refine run1 ?_|((with_reducible apply st_call);exact rfl;exact rfl;exact rfl;first|(exact d_made (F := fun i j => F j i) hn rfl H))|((with_reducible apply st_callg);exact rfl;exact rfl;(first|exact rfl|assumption);exact rfl;exact rfl;exact rfl;first|(exact d_made (F := fun i j => F j i) hn rfl H)))
  refine ⟨.inr rfl, _, Imp.refl _, ?_⟩
  exact .one (.tmp rfl)
theorem d_mul {n K L : Nat} {F G : Nat → Nat → Rat} [hf : ∀ i j, Wt (F i j) K] [hg : ∀ i j, Wt (G i j) L] (hK : K ≤ 500000000) (hL : L ≤ 500000000) (h0 : 0 < n) (hn : n ≤ 8) : Has Try.prog 32 [.mat false n (fun _ => n) (fun i j => .q (F i j)), .mat false n (fun _ => n) (fun i j => .q (G i j))] (.mat true n (fun _ => n) (fun i j => .q (S n fun k => F i k * G k j))) := by
  have H : ∀ i j, i < n → j < n → Has Try.prog 69 [.i i, .i j, .cp (.mat false n (fun _ => n) (fun i j => .q (F i j))), .cp (.mat false n (fun _ => n) (fun i j => .q (G j i)))] (.q (S n fun k => F i k * G k j)) := by
    intro i j hi hj
    have f1 : ∀ k, Wt (F i k) (K + L) := fun k => (hf i k).mono (by omega)
    have f2 : ∀ k, Wt (G k j) (K + L) := fun k => (hg k j).mono (by omega)
    refine has_of Try.func69 (by kernel_rfl) rfl Try.ntmps69 Try.results69 rfl rfl rfl ?_
    repeat(first|refine run1 ?_|((with_reducible apply st_call);exact rfl;exact rfl;exact rfl;first|(exact d_dot (hf := f1) (hg := f2) hn (by omega)))|((with_reducible apply st_callg);exact rfl;exact rfl;(first|exact rfl|assumption);exact rfl;exact rfl;exact rfl;first|(exact d_dot (hf := f1) (hg := f2) hn (by omega))))
    refine ⟨.inr rfl, _, Imp.refl _, ?_⟩
    exact .one (.rat rfl rfl (by decide) rfl (by decide) rfl)
  refine has_of Try.func32 (by kernel_rfl) rfl Try.ntmps32 Try.results32 rfl rfl rfl ?_
  repeat(first|refine run1 ?_|((with_reducible apply st_call);exact rfl;exact rfl;exact rfl;first|(exact d_square (by omega) h0 (by omega)))|((with_reducible apply st_callg);exact rfl;exact rfl;(first|exact rfl|assumption);exact rfl;exact rfl;exact rfl;first|(exact d_square (by omega) h0 (by omega))))
  refine awp_no rfl (by simp) ?_
  refine awp_imp (imp_cell 2 rfl rfl rfl rfl) ?_
  refine run3 ?_
  repeat(first|refine run4 ?_|((with_reducible apply st_call);exact rfl;exact rfl;exact rfl;first|(exact d_turn (by omega) h0 hn))|((with_reducible apply st_callg);exact rfl;exact rfl;(first|exact rfl|assumption);exact rfl;exact rfl;exact rfl;first|(exact d_turn (by omega) h0 hn)))
  refine awp_imp (imp_cell 5 rfl rfl rfl rfl) ?_
  repeat(first|refine run1 ?_|((with_reducible apply st_call);exact rfl;exact rfl;exact rfl;first|(exact d_made hn rfl H))|((with_reducible apply st_callg);exact rfl;exact rfl;(first|exact rfl|assumption);exact rfl;exact rfl;exact rfl;first|(exact d_made hn rfl H)))
  refine ⟨.inr rfl, _, Imp.refl _, ?_⟩
  exact .one (.tmp rfl)
end Go.Proofs.Ytjmpanhacfjcaaa.AM
/- Dense matrices: walks: the steps on rows. -/
namespace Go.Proofs.Ytjmpanhacfjcaaa.AM
open Go Go.RowKit Go.Proofs.Ytjmpanhacfjcaaa.PN Go.Proofs.Ytjmpanhacfjcaaa.V
open Go.Proofs.Ytjmpanhacfjcaaa.LA (S S_succ S_zero S_congr)
set_option linter.unusedVariables false
set_option linter.unusedSimpArgs false
set_option maxRecDepth 4000
set_option maxHeartbeats 2000000
theorem d_nought {p : Rat} : Has Try.prog 95 [.q p] (.b (decide (p = 0))) := by
  refine has_of Try.func95 (by kernel_rfl) rfl Try.ntmps95 Try.results95 rfl rfl rfl ?_
  refine run0 ?_
  refine ⟨.inr rfl, _, Imp.refl _, ?_⟩
  have e : decide ((size (nm p) : Int) = 0) = decide (p = 0) := by simp [size_eq_zero, nm_eq_zero]
  refine .one (.tmp ?_)
  exact congrArg (fun b => some (AV.b b)) e
theorem d_nothing {i : Int} : Has Try.prog 54 [.i i] (.row false 0 fun _ => ra0) := by
  refine has_of Try.func54 (by kernel_rfl) rfl Try.ntmps54 Try.results54 rfl rfl rfl ?_
  refine run0 ?_
  refine ⟨.inr rfl, _, imp_slot (y := .row false 0 fun _ => ra0) 2 rfl True.intro Le.nilrow, ?_⟩
  exact .one (.tmp rfl)
/-- The variable that bears rows, and a determinant. -/
def wk (d : Rat) : Nat → AV := fun i => match i with
  | 0 => .own 61 0
  | 1 => .rs (.q d)
  | 2 => .rn (.q d)
  | _ => .rd (.q d)
abbrev WH (n m : Nat) (d : Rat) (π : Nat → Nat) (A : Nat → Nat → Rat) : List (Nat × Fam) :=
  [(60, (1, fun _ => .ones 81 4 (wk d))), (61, (1, fun _ => .ones WT n (fun i => .own 62 (π i)))), (62, (n, fun r => .rats m (fun j => .q (A r j))))]
theorem wk_upd {d d' : Rat} : ∀ i, i < 4 → upd3 (wk d) 1 (.q d') i = wk d' i := fun i hi => by
  match i, hi with
  | 0, _ => rfl
  | 1, _ => rfl
  | 2, _ => rfl
  | 3, _ => rfl
theorem wk_ok {U : Nat → Bool} (hU : U 61 = true) (d : Rat) : ∀ i, (wk d i).ok U := fun i => by
  match i with
  | 0 => exact hU
  | 1 => trivial
  | 2 => trivial
  | _ + 3 => trivial
theorem imp_WH {s : St} {e : List (Nat × AV)} {n m : Nat} {d : Rat} {π : Nat → Nat} {A : Nat → Nat → Rat} {F0 F1 F2 : Nat → Blk} {f0 f1 : Nat → AV} (h0 : s.heap 60 = some (1, F0)) (e0 : F0 0 = .ones 81 4 f0) (g0 : ∀ i, i < 4 → f0 i = wk d i)
    (h1 : s.heap 61 = some (1, F1)) (e1 : F1 0 = .ones WT n f1) (g1 : ∀ i, i < n → f1 i = .own 62 (π i)) (h2 : s.heap 62 = some (n, F2)) (g2 : ∀ r, r < n → BLe idR (F2 r) (.rats m fun j => .q (A r j)))
    (he : AllE s idR (fun g => memN g [60, 61, 62]) e) : Imp s (stl e (WH n m d π A)) := by
  refine imp_id (h := WH n m d π A) he ⟨fun r hr => ?_, fun r hr => ?_, fun r hr => ?_, trivial⟩ (by cases s.used 60 <;> rfl)
  · obtain rfl : r = 0 := by omega
    refine ⟨1, F0, h0, by decide, ?_, fun i hi => wk_ok rfl d i⟩
    show BLe idR (F0 0) _
    rw [e0]; exact bleo rfl fun i hi => Le.id (g0 i hi)
  · obtain rfl : r = 0 := by omega
    refine ⟨1, F1, h1, by decide, ?_, fun i hi => rfl⟩
    show BLe idR (F1 0) _
    rw [e1]; exact bleo rfl fun i hi => Le.id (g1 i hi)
  · exact ⟨n, F2, h2, hr, g2 r hr, trivial⟩
theorem d_pivot_no {n m at' col : Nat} {d : Rat} {π : Nat → Nat} {A : Nat → Nat → Rat} (hn : n ≤ 8) (hm : m ≤ 9) (hc : col < m) (hπ : ∀ i, i < n → π i < n) (ha : at' ≤ n) (h0 : ∀ i, at' ≤ i → i < n → A (π i) col = 0) :
    HasH Try.prog 81 (WH n m d π A) [.ptr 60 0 0, .i at', .i col] (.b false) (WH n m d π A) := by
  refine hasH_of Try.func81 (by kernel_rfl) rfl Try.ntmps81 Try.results81 True.intro rfl rfl ?_
  refine run0 ?_
  refine awp_loop (fun m' s => ∃ k, at' ≤ k ∧ k ≤ n ∧ m' = n - k ∧ s = stl [(0, .ptr 60 0 0), (1, .i at'), (2, .i col), (7, .i (k : Int))] (WH n m d π A)) (n - at') _ (imp_WH rfl rfl (fun _ _ => rfl) rfl rfl (fun _ _ => rfl) rfl (fun r hr => blen rfl fun _ _ => rfl) ?_) ⟨at', Nat.le_refl _, ha, rfl, rfl⟩ ?_
  · exact eA
  · rintro m' s ⟨k, hk1, hk, rfl, rfl⟩
    refine run0 ?_
    refine awp_if rfl (fun h => ?_) (fun h => ?_)
    · have h' : (k : Int) < n := h
      have h : k < n := by omega
      have hp := hπ k h
      repeat(first|refine run1 ?_|((with_reducible apply st_call);exact rfl;exact rfl;exact rfl;first|(exact d_nought))|((with_reducible apply st_callg);exact rfl;exact rfl;(first|exact rfl|assumption);exact rfl;exact rfl;exact rfl;first|(exact d_nought)))
      refine awp_yes rfl ?_ ?_
      · exact decide_eq_true (h0 k hk1 h)
      refine run0 ?_
      refine q_loop ?_ (imp_WH rfl rfl (fun _ _ => rfl) rfl rfl (fun _ _ => rfl) rfl (fun r hr => blen rfl fun _ _ => rfl) ?_) ⟨k + 1, ?_, ?_, rfl, rfl⟩
      · omega
      · exact eA
      · omega
      · omega
    · refine run0 ?_
      refine ⟨.inr rfl, [(6, .b false)], imp_WH rfl rfl (fun _ _ => rfl) rfl rfl (fun _ _ => rfl) rfl (fun r hr => blen rfl fun _ _ => rfl) ?_, .one (.tmp rfl)⟩
      exact eA
def swp (π : Nat → Nat) (i j : Nat) : Nat → Nat := updN (updN π i (π j)) j (π i)
theorem swp_own {π : Nat → Nat} {i j g : Nat} (k : Nat) : updN (updN (fun i => AV.own g (π i)) i (.own g (π j))) j (.own g (π i)) k = .own g (swp π i j k) := by
  unfold swp updN
  by_cases h1 : k = j
  · rw [if_pos h1, if_pos h1]
  · rw [if_neg h1, if_neg h1]
    by_cases h2 : k = i
    · rw [if_pos h2, if_pos h2]
    · rw [if_neg h2, if_neg h2]
theorem swp_self (π : Nat → Nat) (i k : Nat) : swp π i i k = π k := by
  unfold swp updN
  by_cases h : k = i
  · rw [if_pos h, h]
  · rw [if_neg h, if_neg h]
theorem swp_at (π : Nat → Nat) (i j : Nat) : swp π i j j = π i := updN_same _ _ _
def det1 (d : Rat) (i at' : Nat) : Rat := if i = at' then d else -d
theorem d_pivot_yes {n m at' col K L i : Nat} {d : Rat} {π : Nat → Nat} {A : Nat → Nat → Rat} [hA : ∀ i j, Wt (A i j) K] [hd : Wt d L] (hK : K ≤ 1000000000) (hL : L ≤ 1000000000) (hn : n ≤ 8) (hm : m ≤ 9) (hc : col < m) (hπ : ∀ i, i < n → π i < n) (ha : at' ≤ i) (hi : i < n) (h0 : ∀ j, at' ≤ j → j < i → A (π j) col = 0) (h1 : A (π i) col ≠ 0) :
    HasH Try.prog 81 (WH n m d π A) [.ptr 60 0 0, .i at', .i col] (.b true) (WH n m (det1 d i at' * A (π i) col) (swp π i at') A) := by
  refine hasH_of Try.func81 (by kernel_rfl) rfl Try.ntmps81 Try.results81 True.intro rfl rfl ?_
  refine run0 ?_
  refine awp_loop (fun m' s => ∃ k, at' ≤ k ∧ k ≤ i ∧ m' = n - k ∧ s = stl [(0, .ptr 60 0 0), (1, .i at'), (2, .i col), (7, .i (k : Int))] (WH n m d π A)) (n - at') _ (imp_WH rfl rfl (fun _ _ => rfl) rfl rfl (fun _ _ => rfl) rfl (fun r hr => blen rfl fun _ _ => rfl) ?_) ⟨at', Nat.le_refl _, ha, rfl, rfl⟩ ?_
  · exact eA
  · rintro m' s ⟨k, hk1, hk, rfl, rfl⟩
    refine run0 ?_
    refine awp_if rfl (fun h => ?_) (fun h => ?_)
    · have hp := hπ k (by omega)
      repeat(first|refine run1 ?_|((with_reducible apply st_call);exact rfl;exact rfl;exact rfl;first|(exact d_nought))|((with_reducible apply st_callg);exact rfl;exact rfl;(first|exact rfl|assumption);exact rfl;exact rfl;exact rfl;first|(exact d_nought)))
      by_cases hki : k = i
      · subst hki
        refine awp_no rfl ?_ ?_
        · exact decide_eq_false h1
        refine run0 ?_
        have hpa := hπ at' (by omega)
        have hps : swp π k at' at' < n := by rw [swp_at]; exact hp
        refine awp_if rfl (fun h => ?_) (fun h => ?_)
        · have e1 : det1 d k at' = -d := if_neg (by omega)
          rw [e1, ← swp_at π k at']
          refine run2 ?_
          refine run3 ?_
          repeat(first|refine run4 ?_|((with_reducible apply st_call);exact rfl;exact rfl;exact rfl;first|(exact c_neg (by omega)))|((with_reducible apply st_callg);exact rfl;exact rfl;(first|exact rfl|assumption);exact rfl;exact rfl;exact rfl;first|(exact c_neg (by omega))))
          refine awp_imp (imp_WH (n := n) (m := m) (d := -d) (π := swp π k at') (A := A) (e := [(0, .ptr 60 0 0), (1, .i at'), (2, .i col)]) rfl rfl wk_upd rfl rfl (fun _ _ => swp_own _) rfl (fun r hr => blen rfl fun _ _ => rfl) ?_) ?_
          · exact eA
          repeat(first|refine run1 ?_|((with_reducible apply st_call);exact rfl;exact rfl;exact rfl;first|(exact c_mul ⟨by omega, by omega⟩))|((with_reducible apply st_callg);exact rfl;exact rfl;(first|exact rfl|assumption);exact rfl;exact rfl;exact rfl;first|(exact c_mul ⟨by omega, by omega⟩)))
          refine ⟨.inr rfl, [(6, .b true)], imp_WH rfl rfl wk_upd rfl rfl (fun _ _ => rfl) rfl (fun r hr => blen rfl fun _ _ => rfl) ?_, .one (.tmp rfl)⟩
          exact eA
        · obtain rfl : k = at' := by omega
          have e1 : det1 d k k = d := if_pos rfl
          rw [e1]
          repeat(first|refine run1 ?_|((with_reducible apply st_call);exact rfl;exact rfl;exact rfl;first|(exact c_mul ⟨by omega, by omega⟩))|((with_reducible apply st_callg);exact rfl;exact rfl;(first|exact rfl|assumption);exact rfl;exact rfl;exact rfl;first|(exact c_mul ⟨by omega, by omega⟩)))
          refine ⟨.inr rfl, [(6, .b true)], imp_WH rfl rfl wk_upd rfl rfl (fun _ _ => congrArg _ (swp_self _ _ _).symm) rfl (fun r hr => blen rfl fun _ _ => rfl) ?_, .one (.tmp rfl)⟩
          exact eA
      · have hlt : k < i := by omega
        refine awp_yes rfl ?_ ?_
        · exact decide_eq_true (h0 k hk1 hlt)
        refine run0 ?_
        refine q_loop ?_ (imp_WH rfl rfl (fun _ _ => rfl) rfl rfl (fun _ _ => rfl) rfl (fun r hr => blen rfl fun _ _ => rfl) ?_) ⟨k + 1, ?_, ?_, rfl, rfl⟩
        · omega
        · exact eA
        · omega
        · omega
    · exact absurd (show (k : Int) < n by omega) h
end Go.Proofs.Ytjmpanhacfjcaaa.AM
/- Dense matrices: walks: a row is taken away from another one. -/
namespace Go.Proofs.Ytjmpanhacfjcaaa.AM
open Go Go.RowKit Go.Proofs.Ytjmpanhacfjcaaa.PN Go.Proofs.Ytjmpanhacfjcaaa.V
open Go.Proofs.Ytjmpanhacfjcaaa.LA (S S_succ S_zero S_congr)
set_option linter.unusedVariables false
set_option linter.unusedSimpArgs false
set_option maxRecDepth 4000
set_option maxHeartbeats 2000000
theorem imp_WHt {s : St} {e : List (Nat × AV)} {t : List (Nat × Fam)} {n m : Nat} {d : Rat} {π : Nat → Nat} {A : Nat → Nat → Rat} {F0 F1 F2 : Nat → Blk} {f0 f1 : Nat → AV} (h0 : s.heap 60 = some (1, F0)) (e0 : F0 0 = .ones 81 4 f0) (g0 : ∀ i, i < 4 → f0 i = wk d i)
    (h1 : s.heap 61 = some (1, F1)) (e1 : F1 0 = .ones WT n f1) (g1 : ∀ i, i < n → f1 i = .own 62 (π i)) (h2 : s.heap 62 = some (n, F2)) (g2 : ∀ r, r < n → BLe idR (F2 r) (.rats m fun j => .q (A r j)))
    (he : AllE s idR (fun g => memN g (60 :: 61 :: 62 :: keys t)) e) (ht : AllH s idR (fun g => memN g (60 :: 61 :: 62 :: keys t)) t) : Imp s (stl e (WH n m d π A ++ t)) := by
  refine imp_id (h := WH n m d π A ++ t) he ⟨fun r hr => ?_, fun r hr => ?_, fun r hr => ?_, ht⟩ (by cases s.used 60 <;> rfl)
  · obtain rfl : r = 0 := by omega
    refine ⟨1, F0, h0, by decide, ?_, fun i hi => wk_ok rfl d i⟩
    show BLe idR (F0 0) _
    rw [e0]; exact bleo rfl fun i hi => Le.id (g0 i hi)
  · obtain rfl : r = 0 := by omega
    refine ⟨1, F1, h1, by decide, ?_, fun i hi => rfl⟩
    show BLe idR (F1 0) _
    rw [e1]; exact bleo rfl fun i hi => Le.id (g1 i hi)
  · exact ⟨n, F2, h2, hr, g2 r hr, trivial⟩
/-- A row, less a multiple of another one from a column on, up to k. -/
def clr (A : Nat → Nat → Rat) (q : Rat) (a b col k : Nat) : Nat → Nat → Rat := fun r j => if r = a ∧ col ≤ j ∧ j < k then A a j - q * A b j else A r j
theorem clr_wt {A : Nat → Nat → Rat} {q : Rat} {a b col k K : Nat} [hA : ∀ i j, Wt (A i j) K] [hq : Wt q (K + K)] (r j : Nat) : Wt (clr A q a b col k r j) (4 * K + 1) := by
  unfold clr
  split
  · exact (inferInstance : Wt (A a j - q * A b j) (K + (K + K + K) + 1)).mono (by omega)
  · exact (hA r j).mono (by omega)
theorem clr_step {A : Nat → Nat → Rat} {q : Rat} {a b col k : Nat} (hab : a ≠ b) (hk : col ≤ k) (r j : Nat) : (if r = a ∧ j = k then clr A q a b col k a k - q * clr A q a b col k b k else clr A q a b col k r j) = clr A q a b col (k + 1) r j := by
  unfold clr
  by_cases h1 : r = a
  · subst h1
    by_cases h2 : j = k
    · subst h2
      rw [if_pos ⟨rfl, rfl⟩, if_neg (by omega), if_neg (fun h => hab h.1.symm), if_pos ⟨rfl, hk, by omega⟩]
    · rw [if_neg (by omega)]
      by_cases h3 : col ≤ j ∧ j < k
      · rw [if_pos ⟨rfl, h3⟩, if_pos ⟨rfl, by omega, by omega⟩]
      · rw [if_neg (fun h => h3 h.2), if_neg (by omega)]
  · rw [if_neg (fun h => h1 h.1), if_neg (fun h => h1 h.1), if_neg (fun h => h1 h.1)]
theorem clr_none {A : Nat → Nat → Rat} {q : Rat} {a b col r j : Nat} : clr A q a b col col r j = A r j := by
  unfold clr; rw [if_neg (by omega)]
theorem clr_zero {A : Nat → Nat → Rat} {q : Rat} {a b col k r j : Nat} (h : q = 0) : clr A q a b col k r j = A r j := by
  unfold clr
  split
  · rename_i h1; rw [h, h1.1, Rat.zero_mul]; exact by rw [Rat.sub_eq_add_neg, Rat.neg_zero, Rat.add_zero]
  · rfl
theorem clr_blk {C C' : Nat → Nat → Rat} {m a k : Nat} {x : Rat} (h : ∀ r j, (if r = a ∧ j = k then x else C r j) = C' r j) (r : Nat) : BLe idR (updN (fun r => Blk.rats m fun j => .q (C r j)) a (.rats m (updN (fun j => .q (C a j)) k (.q x))) r) (.rats m fun j => .q (C' r j)) := by
  by_cases e : r = a
  · subst e
    rw [updN_same]
    refine blen rfl fun j hj => ?_
    rw [← h r j]
    unfold updN
    by_cases e2 : j = k
    · rw [if_pos e2, if_pos ⟨rfl, e2⟩]
    · rw [if_neg e2, if_neg (fun h => e2 h.2)]
  · rw [updN_ne _ _ e]
    refine blen rfl fun j hj => ?_
    rw [← h r j, if_neg (fun h => e h.1)]
theorem d_clean {n m i at' col K : Nat} {d : Rat} {π : Nat → Nat} {A : Nat → Nat → Rat} [hA : ∀ i j, Wt (A i j) K] (hK : K ≤ 1000000000) (hn : n ≤ 8) (hm : m ≤ 9) (hc : col < m) (hi : i < n) (ha : at' < n) (hpi : π i < n) (hpa : π at' < n) (hne : π i ≠ π at') (h0 : A (π at') col ≠ 0) :
    HasH Try.prog 82 (WH n m d π A) [.ptr 60 0 0, .i i, .i at', .i col] (.v (.tuple #[])) (WH n m d π (clr A (A (π i) col / A (π at') col) (π i) (π at') col m)) := by
  refine hasH_of Try.func82 (by kernel_rfl) rfl Try.ntmps82 Try.results82 True.intro rfl rfl ?_
  repeat(first|refine run1 ?_|((with_reducible apply st_call);exact rfl;exact rfl;exact rfl;first|(exact c_quo ⟨by omega, by omega⟩ h0)|(exact d_nought))|((with_reducible apply st_callg);exact rfl;exact rfl;(first|exact rfl|assumption);exact rfl;exact rfl;exact rfl;first|(exact c_quo ⟨by omega, by omega⟩ h0)|(exact d_nought)))
  have wq : Wt (A (π i) col / A (π at') col) (K + K) := inferInstance
  refine awp_if rfl (fun h => ?_) (fun h => ?_)
  · refine run0 ?_
    refine ⟨.inr rfl, [], imp_WH rfl rfl (fun _ _ => rfl) rfl rfl (fun _ _ => rfl) rfl (fun r hr => blen rfl fun _ _ => congrArg RA.q (clr_zero h).symm) ?_, .none⟩
    exact eA
  · refine run0 ?_
    generalize hq : A (π i) col / A (π at') col = q at *
    have w : ∀ k r j, Wt (clr A q (π i) (π at') col k r j) (4 * K + 1) := fun k r j => clr_wt r j
    refine awp_loop (fun m' s => ∃ k, col ≤ k ∧ k ≤ m ∧ m' = m - k ∧ s = stl [(0, .ptr 60 0 0), (1, .i i), (2, .i at'), (3, .i col), (8, .rptr 8 0 0), (10, .i (k : Int))] (WH n m d π (clr A q (π i) (π at') col k) ++ [(8, (1, fun _ => .rats 1 fun _ => .q q))])) (m - col) _ (imp_WHt rfl rfl (fun _ _ => rfl) rfl rfl (fun _ _ => rfl) rfl (fun r hr => blen rfl fun _ _ => congrArg RA.q clr_none.symm) ?_ ?_) ⟨col, Nat.le_refl _, by omega, rfl, rfl⟩ ?_
    · exact eA
    · refine allh rfl (by decide) (ble1 (congrArg RA.q hq)) True.intro True.intro
    · rintro m' s ⟨k, hk1, hk, rfl, rfl⟩
      have hwk := w k
      refine run0 ?_
      refine awp_if rfl (fun h => ?_) (fun h => ?_)
      · have h' : (k : Int) < m := h
        have h : k < m := by omega
        repeat(first|refine run1 ?_|((with_reducible apply st_call);exact rfl;exact rfl;exact rfl;first|(exact c_mul ⟨by omega, by omega⟩)|(exact c_sub ⟨by omega, by omega⟩))|((with_reducible apply st_callg);exact rfl;exact rfl;(first|exact rfl|assumption);exact rfl;exact rfl;exact rfl;first|(exact c_mul ⟨by omega, by omega⟩)|(exact c_sub ⟨by omega, by omega⟩)))
        refine q_loop ?_ (imp_WHt rfl rfl (fun _ _ => rfl) rfl rfl (fun _ _ => rfl) rfl (fun r hr => clr_blk (clr_step hne hk1) r) ?_ ?_) ⟨k + 1, ?_, ?_, rfl, rfl⟩
        · omega
        · exact eA
        · refine allh rfl (by decide) (ble1 rfl) True.intro True.intro
        · omega
        · omega
      · have h' : ¬ (k : Int) < m := h
        obtain rfl : k = m := by omega
        refine run0 ?_
        refine ⟨.inl rfl, [], imp_WH rfl rfl (fun _ _ => rfl) rfl rfl (fun _ _ => rfl) rfl (fun r hr => blen rfl fun _ _ => rfl) ?_, .none⟩
        exact eA
end Go.Proofs.Ytjmpanhacfjcaaa.AM

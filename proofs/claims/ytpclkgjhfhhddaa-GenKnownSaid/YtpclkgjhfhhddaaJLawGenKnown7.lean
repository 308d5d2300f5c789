/- Joined texts, 7: AmK AmL. -/
import Derived.Test.YtpclkgjhfhhddaaJLawGenKnown6
set_option linter.unusedVariables false
set_option linter.unusedSimpArgs false
/- Calls; code; a function's contract. -/
namespace Go.Proofs.Ytpclkgjhfhhddaa.AM
open Go Go.RowKit Go.Proofs.Ytpclkgjhfhhddaa.PN Go.Proofs.Ytpclkgjhfhhddaa.V
set_option linter.unusedVariables false
set_option linter.unusedSimpArgs false
/-- The same, for one who came later. -/
def AV.old : AV → AV
  | .row _ n f => .row false n f
  | .mat _ n m F => .mat false n m F
  | .cp x => .cp x.old
  | .ag n f => .ag n (fun i => (f i).old)
  | .tup a b => .tup a.old b.old
  | .tup3 a b c => .tup3 a.old b.old c.old
  | .clo f n c => .clo f n (fun i => (c i).old)
  | .bnd f x => .bnd f x.old
  | .mf ks f => .mf ks (fun i => (f i).old)
  | .arr n m f => .arr n m (fun i => (f i).old)
  | .pa m f => .pa m (fun i => (f i).old)
  | x => x
theorem row_old {S : Nat → Prop} {B B' : Nat} {w : World} {fr : Bool} {n : Nat} {f : Nat → RA} {v : Value} (h : RowV S B w fr n f v) : RowV S B' w false n f v := by
  obtain ⟨A, c, hv, hc, hm, hx⟩ := h
  exact ⟨A, c, hv, hc, hm, fun i hi => by obtain ⟨b, off, h1, h2, _, h4⟩ := hx i hi; exact ⟨b, off, h1, h2, (fun e => by cases e), h4⟩⟩
theorem rv_old {S : Nat → Prop} {B B' : Nat} {β : Nat → Nat → Value} {w : World} : ∀ {x : AV} {v : Value}, RV S B β w x v → RV S B' β w x.old v := by
  intro x
  induction x with
  | row fr n f => intro v h; exact row_old h
  | rowx n f => intro v h; exact ⟨h.1, row_old h.2⟩
  | mat fr n m F =>
    rintro v ⟨A, c, hv, hc, hm, hx⟩
    exact ⟨A, c, hv, hc, hm, fun i hi => by obtain ⟨b, off, cs, x, h1, h2, _, h4, h5, h6⟩ := hx i hi; exact ⟨b, off, cs, x, h1, h2, (fun e => by cases e), h4, h5, row_old h6⟩⟩
  | cp x ih => rintro v ⟨p, y, h1, h2, h3, h4⟩; exact ⟨p, y, h1, h2, h3, ih h4⟩
  | ag n f ih => rintro v ⟨cs, h1, h2, h3⟩; exact ⟨cs, h1, h2, fun i hi => by obtain ⟨y, a0, a1, a2⟩ := h3 i hi; exact ⟨y, a0, a1, ih i a2⟩⟩
  | tup a b iha ihb => rintro v ⟨x, y, h1, h2, h3⟩; exact ⟨x, y, h1, iha h2, ihb h3⟩
  | tup3 a b c iha ihb ihc => rintro v ⟨x, y, z, h1, h2, h3, h4⟩; exact ⟨x, y, z, h1, iha h2, ihb h3, ihc h4⟩
  | clo f n c ih => rintro v ⟨cs, h1, h2, h3⟩; exact ⟨cs, h1, h2, fun i hi => by obtain ⟨y, a0, a2⟩ := h3 i hi; exact ⟨y, a0, ih i a2⟩⟩
  | bnd f x ih => rintro v ⟨u, h1, h2⟩; exact ⟨u, h1, ih h2⟩
  | mf ks f ih => rintro v ⟨r, es, ck, h1, h2, h3, h4, h5⟩; exact ⟨r, es, ck, h1, h2, h3, fun e he => by obtain ⟨i, hi, e1, e2⟩ := h4 e he; exact ⟨i, hi, e1, ih i e2⟩, h5⟩
  | arr n m f ih => rintro v ⟨A, c, hv, hc, hm, hx⟩; exact ⟨A, c, hv, hc, hm, fun i hi => by obtain ⟨b, off, y, a0, a1, a2, a3, a4⟩ := hx i hi; exact ⟨b, off, y, a0, a1, a2, a3, ih i a4⟩⟩
  | pa m f ih => rintro v ⟨b, o, hv, hS, hb, hx⟩; exact ⟨b, o, hv, hS, hb, fun i hi => by obtain ⟨y, a2, a3, a4⟩ := hx i hi; exact ⟨y, a2, a3, ih i a4⟩⟩
  | _ => intro v h; exact h
def RVs (S : Nat → Prop) (B : Nat) (β : Nat → Nat → Value) (w : World) (xs : List AV) (vs : List Value) : Prop :=
  xs.length = vs.length ∧ ∀ (i : Nat) (x : AV) (v : Value), xs[i]? = some x → vs[i]? = some v → RV S B β w x v
def callB (P : Program) (f : FuncId) : Bool := match P.funcs[f]? with
  | some fn => fn.name != "runtime.NumGoroutine" && fn.body.isSome
  | none => false
/-- A function's contract: of such arguments such a result, and nothing that was there has turned. -/
structure Has (P : Program) (f : FuncId) (xs : List AV) (r : AV) : Prop where
  b : callB P f = true
  ok : r.ok (fun _ => false)
  run : ∀ (w : World) (S : Nat → Prop) (β : Nat → Nat → Value) (vs : List Value), RVs S w.heap.size β w xs vs →
    Calls P f vs.toArray w fun e w' => ∃ v, e = .returned v ∧ Kept w w' ∧ RV (fun b => b < w.heap.size → S b) w.heap.size β w' r v
theorem ok_none {U : Nat → Bool} {x : AV} (h : x.ok (fun _ => false)) : x.ok U := AV.ok_mono (fun _ h => by cases h) h
theorem own_lt {W : Wd} {N : Nat} {β : Nat → Nat → Value} {w : World} {a : Act} {s : St} (h : Sim W N β w a s) {i : Nat} (ho : Own s β i) : W.w.heap.size ≤ i ∧ i < w.heap.size := by
  obtain ⟨g, n, F, r, h1, h2, h3⟩ := ho
  have hb := (h.heap g n F r h1 h2).2
  cases hF : F r with
  | rats n f => rw [hF] at hb; obtain ⟨cs, h4, h5, _⟩ := rb_rats hb h3; exact ⟨h4, h5.lt⟩
  | ones T n f => rw [hF] at hb; obtain ⟨_, cs, h4, h5, _⟩ := rb_ones hb h3; exact ⟨h4, h5.lt⟩
/-- What is called, what it gets ahead, and what it has captured. -/
def callee : AV → Option (FuncId × List AV × List AV)
  | .v (.func (.func f) fs cs) => bif Nat.beq fs.size 0 && Nat.beq cs.size 0 then some (f, [], []) else none
  | .clo f n c => some (f, [], (List.range n).map c)
  | .bnd f x => some (f, [x], [])
  | _ => none
theorem RVs.append {S : Nat → Prop} {B : Nat} {β : Nat → Nat → Value} {w : World} {xs ys : List AV} {vs us : List Value} (h : RVs S B β w xs vs) (k : RVs S B β w ys us) : RVs S B β w (xs ++ ys) (vs ++ us) := by
  refine ⟨by simp [h.1, k.1], fun i x v hx hv => ?_⟩
  rw [List.getElem?_append] at hx hv
  rw [← h.1] at hv
  split at hx
  · rename_i hi; rw [if_pos hi] at hv; exact h.2 i x v hx hv
  · rename_i hi; rw [if_neg hi] at hv; exact k.2 _ x v hx hv
theorem callee_rv {S : Nat → Prop} {B : Nat} {β : Nat → Nat → Value} {w : World} {F : AV} {f : FuncId} {pre caps : List AV} {v : Value} (hc : callee F = some (f, pre, caps)) (hFv : RV S B β w F v) :
    ∃ pv cap : Array Value, v = .func (.func f) pv cap ∧ RVs S B β w pre pv.toList ∧ RVs S B β w caps cap.toList := by
  have nil : RVs S B β w [] (#[] : Array Value).toList := ⟨rfl, fun i x v hx => by cases hx⟩
  unfold callee at hc
  split at hc
  · rename_i f' fs cs
    cases hb : (Nat.beq fs.size 0 && Nat.beq cs.size 0) with
    | false => rw [hb] at hc; cases hc
    | true =>
      rw [hb] at hc
      cases hc
      rw [Bool.and_eq_true] at hb
      have e1 : fs = #[] := Array.eq_empty_of_size_eq_zero (Nat.eq_of_beq_eq_true hb.1)
      have e2 : cs = #[] := Array.eq_empty_of_size_eq_zero (Nat.eq_of_beq_eq_true hb.2)
      subst e1; subst e2
      exact ⟨#[], #[], hFv, nil, nil⟩
  · rename_i f' n c
    cases hc
    obtain ⟨cap, h1, h2, h3⟩ := hFv
    refine ⟨#[], cap, h1, nil, by simp [h2], fun i x v hx hv => ?_⟩
    rw [List.getElem?_map] at hx
    have hin : i < n := by
      rcases Nat.lt_or_ge i n with h | h
      · exact h
      · rw [List.getElem?_eq_none (by simpa using h)] at hx; cases hx
    rw [List.getElem?_range hin] at hx
    cases hx
    obtain ⟨y, a0, a2⟩ := h3 i hin
    rw [Array.getElem?_toList, a0] at hv
    cases hv
    exact a2
  · rename_i f' y
    cases hc
    obtain ⟨u, h1, h2⟩ := hFv
    refine ⟨#[u], #[], h1, ⟨rfl, fun i x v hx hv => ?_⟩, nil⟩
    cases i with
    | zero => cases hx; cases hv; exact h2
    | succ i => cases hx
  · cases hc
theorem run_enter {P : Program} {f : FuncId} (h : callB P f = true) (args : Array Value) (w : World) : (callFunc f args).run P w = .ok (.enter f args) w := by
  unfold callB at h
  cases hf : P.funcs[f]? with
  | none => rw [hf] at h; cases h
  | some fn =>
    rw [hf] at h
    simp only [Bool.and_eq_true, bne_iff_ne, ne_eq] at h
    obtain ⟨c, hc⟩ := Option.isSome_iff_exists.1 h.2
    simp [callFunc, hf, h.1, hc]
def AV.closed : AV → Bool
  | .own _ _ | .ownx _ _ | .ptr _ _ _ | .rptr _ _ _ | .fld _ _ _ _ | .sl _ _ _ _ => false
  | .cp x => x.closed
  | .ag n f => (List.range n).all fun i => (f i).closed
  | .tup a b => a.closed && b.closed
  | .tup3 a b c => a.closed && b.closed && c.closed
  | .clo _ n c => (List.range n).all fun i => (c i).closed
  | .bnd _ x => x.closed
  | .mf ks f => (List.range ks.length).all fun i => (f i).closed
  | .arr n m f => (List.range (n * m)).all fun i => (f i).closed
  | .pa m f => (List.range m).all fun i => (f i).closed
  | _ => true
theorem closed_ok : ∀ {x : AV}, x.closed = true → x.ok (fun _ => false) := by
  intro x
  induction x with
  | cp x ih => exact ih
  | ag n f ih => exact fun h i hi => ih i (List.all_eq_true.1 h i (List.mem_range.2 hi))
  | clo f n c ih => exact fun h i hi => ih i (List.all_eq_true.1 h i (List.mem_range.2 hi))
  | bnd f x ih => exact ih
  | mf ks f ih => exact fun h i hi => ih i (List.all_eq_true.1 h i (List.mem_range.2 hi))
  | arr n m f ih => exact fun h i hi => ih i (List.all_eq_true.1 h i (List.mem_range.2 hi))
  | pa m f ih => exact fun h i hi => ih i (List.all_eq_true.1 h i (List.mem_range.2 hi))
  | tup a b iha ihb => intro h; rw [AV.closed, Bool.and_eq_true] at h; exact ⟨iha h.1, ihb h.2⟩
  | tup3 a b c iha ihb ihc => intro h; rw [AV.closed, Bool.and_eq_true, Bool.and_eq_true] at h; exact ⟨iha h.1.1, ihb h.1.2, ihc h.2⟩
  | own g r => intro h; cases h
  | ownx g r => intro h; cases h
  | ptr g r i => intro h; cases h
  | rptr g r i => intro h; cases h
  | fld g r i j => intro h; cases h
  | sl g r off n => intro h; cases h
  | _ => exact fun _ => trivial
/-- What arguments say. -/
def avl (s : St) : List Operand → Option (List AV)
  | [] => some []
  | x :: l => match avo s x, avl s l with
    | some y, some ys => some (y :: ys)
    | _, _ => none
theorem avl_get {s : St} : ∀ {l : List Operand} {ys : List AV}, avl s l = some ys → ys.length = l.length ∧ ∀ (j : Nat) (y : AV), ys[j]? = some y → ∃ x, l[j]? = some x ∧ avo s x = some y
  | [], ys, h => by cases h; exact ⟨rfl, fun j y hy => by cases hy⟩
  | x :: l, ys, h => by
    unfold avl at h
    split at h
    · rename_i y ys' h1 h2
      cases h
      obtain ⟨e1, e2⟩ := avl_get h2
      refine ⟨by simp [e1], fun j z hz => ?_⟩
      cases j with
      | zero => cases hz; exact ⟨x, rfl, h1⟩
      | succ j => exact e2 j z hz
    · cases h
theorem rvs_old {S : Nat → Prop} {B B' : Nat} {β : Nat → Nat → Value} {w : World} {xs : List AV} {vs : List Value} (hl : xs.length = vs.length) (h : ∀ (i : Nat) (x : AV) (v : Value), xs[i]? = some x → vs[i]? = some v → RV S B β w x v) : RVs S B' β w (xs.map AV.old) vs := by
  refine ⟨by simp [hl], fun i x v hx hv => ?_⟩
  rw [List.getElem?_map] at hx
  cases e : xs[i]? with
  | none => rw [e] at hx; cases hx
  | some y => rw [e] at hx; cases hx; exact rv_old (h i y v e hv)
/-- What a call is handed. -/
theorem call_args {P : Program} {o : Oper} {s s2 : St} {rd : List Nat} {fo : Operand} {args : Array Operand} {Ts : Array TypeId} {F : AV} {f : FuncId} {pre caps xs : List AV} (ho : o.op = .call { callee := .value fo, args := args, argTypes := Ts })
    (hF : avo s fo = some F) (hc : callee F = some (f, pre, caps)) (ha : avl s args.toList = some xs) (hb : callB P f = true) (hl : Like o rd s s2) {W : Wd} {N : Nat} {β : Nat → Nat → Value} {w : World} {a : Act} (hs : Sim W N β w a s2) :
    ∃ vs : Array Value, (execOp a.eval o).run P w = .ok (.enter f vs) w ∧ RVs (notOwn W s2 β) W.w.heap.size β w (pre ++ xs ++ caps) vs.toList := by
  have hfo : avo s2 fo = some F := by rw [hl.avo (by rw [ho]; simp [Op.operands, Call.operands])]; exact hF
  obtain ⟨hok0, hFv⟩ := hs.opd hfo
  obtain ⟨hal, hag⟩ := avl_get ha
  obtain ⟨pv, cap, hfv, hp, hcap⟩ := callee_rv hc hFv
  refine ⟨pv ++ args.map a.eval ++ cap, ?_, ?_⟩
  · unfold execOp; rw [ho]; simp only [resolve]; rw [hfv]
    simp [Deferred.ofValue, invoke, run_enter hb]
  · rw [Array.toList_append, Array.toList_append]
    refine (hp.append ⟨by simp [hal], fun i x v hx hv => ?_⟩).append hcap
    obtain ⟨q, e1, e2⟩ := hag i x hx
    rw [Array.toList_map, List.getElem?_map, e1] at hv
    cases hv
    refine (hs.opd ?_).2
    rw [hl.avo (by rw [ho]; simp only [Op.operands, Call.operands]; exact Array.mem_append.2 (.inr (Array.mem_toList_iff.1 (List.mem_of_getElem? e1))))]
    exact e2
theorem ok_call {P : Program} {o : Oper} {s : St} {fo : Operand} {args : Array Operand} {Ts : Array TypeId} {F r : AV} {f : FuncId} {pre caps xs : List AV} (ho : o.op = .call { callee := .value fo, args := args, argTypes := Ts })
    (hF : avo s fo = some F) (hc : callee F = some (f, pre, caps)) (ha : avl s args.toList = some xs) (h : Has P f ((pre ++ xs ++ caps).map AV.old) r) : LOK P o s ⟨some r, [], []⟩ := by
  refine lok_kept fun s2 hl W N β w a hs K Q hK => ?_
  obtain ⟨vs, hrun, hR0⟩ := call_args ho hF hc ha h.b hl hs
  have hR : RVs (notOwn W s2 β) w.heap.size β w ((pre ++ xs ++ caps).map AV.old) vs.toList := rvs_old (B := W.w.heap.size) hR0.1 hR0.2
  have hcall := h.run w (notOwn W s2 β) β vs.toList hR
  unfold Oper.wp
  rw [hrun]
  show Calls P f _ w _
  rw [Array.toArray_toList] at hcall
  refine hcall.mono fun e w' he => ?_
  obtain ⟨v, rfl, hk, hv⟩ := he
  refine hK v w' hk fun x hx => ?_
  cases hx
  refine ⟨ok_none h.ok, ?_⟩
  have kf : Fwd (fun b => b < w.heap.size → notOwn W s2 β b) (notOwn W s2 β) w.heap.size W.w.heap.size (fun _ => false) β β (fun _ => False) w' w' := by
    refine ⟨Ext.refl _ _, fun _ _ h => h, fun b hb _ => ?_, hs.kept.size, fun _ _ h => by cases h⟩
    rcases Nat.lt_or_ge b w.heap.size with hlt | hge
    · exact hb hlt
    · exact ⟨fun hlt => absurd (Nat.lt_of_lt_of_le hlt hs.fix.size) (by omega), fun ho => by have := (own_lt hs ho).2; omega⟩
  exact hv.fwd kf h.ok
/-! ### Code -/
def thenQ (P : Program) (N : Nat) (y : Code) (Q : Exit → St → Prop) : Exit → St → Prop
  | .normal, s => AWP P N y Q s
  | e, s => Q e s
def blockQ (id : Nat) (Q : Exit → St → Prop) : Exit → St → Prop
  | .exit i, s => bif Nat.beq i id then Q .normal s else Q (.exit i) s
  | e, s => Q e s
section
variable {P : Program} {N : Nat} {Q : Exit → St → Prop} {s : St}
theorem awp_skip (h : Q .normal s) : AWP P N .skip Q s := ⟨fun W β w a hs => wp_skip ⟨β, s, hs, h⟩⟩
theorem awp_ret (h : Q .ret s) : AWP P N .ret Q s := ⟨fun W β w a hs => wp_ret ⟨β, s, hs, h⟩⟩
theorem awp_exit {id : Nat} (h : Q (.exit id) s) : AWP P N (.exit id) Q s := ⟨fun W β w a hs => wp_exit ⟨β, s, hs, h⟩⟩
theorem awp_seq {x y : Code} (h : AWP P N x (thenQ P N y Q) s) : AWP P N (.seq x y) Q s := by
  refine ⟨fun W β w a hs => ?_⟩
  refine wp_seq (wp_mono (h.out W β w a hs) ?_)
  rintro e a' w' ⟨β', s', h1, h2⟩
  cases e with
  | normal => exact h2.out W β' w' a' h1
  | _ => exact ⟨β', s', h1, h2⟩
theorem awp_block {id : Nat} {c : Code} (h : AWP P N c (blockQ id Q) s) : AWP P N (.block id c) Q s := by
  refine ⟨fun W β w a hs => ?_⟩
  refine wp_block (wp_mono (h.out W β w a hs) ?_)
  rintro e a' w' ⟨β', s', h1, h2⟩
  cases e with
  | exit i =>
    show if i = id then _ else _
    have h2 : bif Nat.beq i id then Q .normal s' else Q (.exit i) s' := h2
    by_cases e : i = id
    · subst e; rw [Nat.beq_refl] at h2; rw [if_pos rfl]; exact ⟨β', s', h1, h2⟩
    · rw [if_neg e]
      have hb : Nat.beq i id = false := by cases hb : Nat.beq i id with | false => rfl | true => exact absurd (Nat.eq_of_beq_eq_true hb) e
      rw [hb] at h2
      exact ⟨β', s', h1, h2⟩
  | _ => exact ⟨β', s', h1, h2⟩
theorem awp_cond {c : Operand} {x y : Code} {b : Bool} (hc : avo s c = some (.v (.bool b))) (ht : b = true → AWP P N x Q s) (hf : b = false → AWP P N y Q s) : AWP P N (.cond c x y) Q s := by
  refine ⟨fun W β w a hs => ?_⟩
  have hv : a.eval c = .bool b := hs.opv hc
  exact wp_cond_split hv (fun e => (ht e).out W β w a hs) (fun e => (hf e).out W β w a hs)
/-- What is told of s' is true where s is. -/
def Imp (s s' : St) : Prop := ∀ W N β w a, Sim W N β w a s → ∃ β', Sim W N β' w a s'
theorem Imp.refl (s : St) : Imp s s := fun W N β w a h => ⟨β, h⟩
theorem Imp.trans {a b c : St} (h : Imp a b) (k : Imp b c) : Imp a c := fun W N β w x hs => by
  obtain ⟨β', hs'⟩ := h W N β w x hs
  exact k W N β' w x hs'
theorem awp_imp {c : Code} {s' : St} (hi : Imp s s') (h : AWP P N c Q s') : AWP P N c Q s := ⟨fun W β w a hs => by
  obtain ⟨β', hs'⟩ := hi W N β w a hs
  exact h.out W β' w a hs'⟩
def loopQ (I : Nat → St → Prop) (m : Nat) (Q : Exit → St → Prop) : Exit → St → Prop
  | .normal, s => ∃ m' s', Imp s s' ∧ I m' s' ∧ m' < m
  | e, s => Q e s
open Classical in
theorem awp_loop {c : Code} (I : Nat → St → Prop) (m0 : Nat) (s0 : St) (hi : Imp s s0) (h0 : I m0 s0) (round : ∀ m s, I m s → AWP P N c (loopQ I m Q) s) : AWP P N (.loop c) Q s := by
  refine ⟨fun W β w a hs => ?_⟩
  let J : Nat → Act → World → Prop := fun m a w => ∃ β s, I m s ∧ Sim W N β w a s
  have hmin : ∀ m a w, J m a w → ∃ n, J n a w ∧ ∀ k, J k a w → n ≤ k := by
    intro m a w h
    induction m using Nat.strongRecOn with
    | _ m ih =>
      by_cases hex : ∃ k, k < m ∧ J k a w
      · obtain ⟨k, hk, hJ⟩ := hex; exact ih k hk hJ
      · exact ⟨m, h, fun k hk => by rcases Nat.lt_or_ge k m with hlt | hge; exact absurd ⟨k, hlt, hk⟩ hex; exact hge⟩
  let μ : Act → World → Nat := fun a w => if h : ∃ n, J n a w ∧ ∀ k, J k a w → n ≤ k then Classical.choose h else 0
  have hμ : ∀ m a w, J m a w → J (μ a w) a w ∧ μ a w ≤ m := by
    intro m a w h
    have hex := hmin m a w h
    have hsp := Classical.choose_spec hex
    have : μ a w = Classical.choose hex := dif_pos hex
    rw [this]
    exact ⟨hsp.1, hsp.2 m h⟩
  refine wp_loop (fun a w => ∃ m, J m a w) μ ?_ (fun a w hJ => ?_)
  · obtain ⟨β', hs'⟩ := hi W N β w a hs
    exact ⟨m0, β', s0, h0, hs'⟩
  · obtain ⟨m, hm⟩ := hJ
    obtain ⟨⟨β1, s1, hI, hs1⟩, _⟩ := hμ m a w hm
    refine wp_mono ((round _ s1 hI).out W β1 w a hs1) ?_
    rintro e a' w' ⟨β', s', h1, h2⟩
    cases e with
    | normal =>
      obtain ⟨m', s'', hi', hI', hlt⟩ := h2
      obtain ⟨β'', hs''⟩ := hi' W N β' w' a' h1
      have hJ' : J m' a' w' := ⟨β'', s'', hI', hs''⟩
      exact ⟨⟨m', hJ'⟩, Nat.lt_of_le_of_lt (hμ m' a' w' hJ').2 hlt⟩
    | _ => exact ⟨β', s', h1, h2⟩
end
/-! ### A function's contract -/
def lk (l : List AV) : Nat → Option AV := fun t => match l, t with
  | [], _ => none
  | x :: _, 0 => some x
  | _ :: l, t + 1 => lk l t
theorem lk_get : ∀ (l : List AV) (t : Nat), lk l t = l[t]?
  | [], t => by unfold lk; rfl
  | x :: l, 0 => by unfold lk; rfl
  | x :: l, t + 1 => by unfold lk; exact lk_get l t
/-- The state in which a call begins. -/
def ent (xs : List AV) : St := ⟨lk xs, fun _ => none, fun _ => false⟩
/-- One result. -/
inductive Comp (s : St) : ResultVar → AV → Prop where
  | tmp {t : Tmp} {x : AV} (h : s.env t = some x) : Comp s (.tmp t) x
  | rat {p : Tmp} {g r i n m : Nat} {F : Nat → Blk} {f : Nat → RA} (h : s.env p = some (.rptr g r i)) (hg : s.heap g = some (n, F)) (hr : r < n) (hF : F r = .rats m f) (hi : i < m) {q : RA} (e : f i = q) : Comp s (.cell p RT) (.ra q)
  | agg {p : Tmp} {T T' : TypeId} {g r n m : Nat} {F : Nat → Blk} {f : Nat → AV} (ha : isAggD (Try.prog.underlying T) = true) (hz : szB Try.prog T m = true) (h : s.env p = some (.ptr g r 0)) (hg : s.heap g = some (n, F)) (hr : r < n) (hF : F r = .ones T' m f) {y : AV} (e : AV.ag m f = y) : Comp s (.cell p T) y
  | one {p : Tmp} {T T' : TypeId} {g r i n m : Nat} {F : Nat → Blk} {f : Nat → AV} (hT : memN T flatT = true) (h : s.env p = some (.ptr g r i)) (hg : s.heap g = some (n, F)) (hr : r < n) (hF : F r = .ones T' m f) (hi : i < m) {y : AV} (e : f i = y) : Comp s (.cell p T) y
def compRun (tmps : Array Value) : ResultVar → Sem Value
  | .tmp t => pure (tmps.getD t undef)
  | .cell a t => do loadVar t (← asAddr (tmps.getD a undef))
theorem run_var {T : TypeId} {p : Addr} {v : Value} {w : World} (h : (Instr.loadAt T (.pointer (some p))).run Try.prog w = .ok v w) {tmps : Array Value} {t : Tmp} (ht : tmps.getD t undef = .pointer (some p)) : (compRun tmps (.cell t T)).run Try.prog w = .ok v w := by
  have h' : (loadVar T p).run Try.prog w = .ok v w := by simpa [Instr.loadAt, Instr.sureAddr] using h
  simp only [compRun, ht, asAddr, Sem.run_bind, Sem.run_pure, Result.andThen_ok, h']
theorem comp_run {s : St} {rv : ResultVar} {x : AV} (h : Comp s rv x) {W : Wd} {N : Nat} {β : Nat → Nat → Value} {w : World} {a : Act} (hs : Sim W N β w a s) : ∃ v, (compRun a.tmps rv).run Try.prog w = .ok v w ∧ x.ok s.used ∧ RV (notOwn W s β) W.w.heap.size β w x v := by
  cases h with
  | tmp h => exact ⟨_, rfl, hs.env _ _ h⟩
  | rat h hg hr hF hi e =>
    subst e
    obtain ⟨_, b, hb, e1⟩ := hs.env _ _ h
    have hh := (hs.heap _ _ _ _ hg hr).2
    rw [hF] at hh
    obtain ⟨cs, _, hrow, _, h4⟩ := rb_rats hh hb
    obtain ⟨sg, vn, vd, a0, a1, a2, a3⟩ := h4 _ hi
    exact ⟨_, run_var (run_loadrat hrow a0 a1 a2) e1, trivial, _, _, _, rfl, a3⟩
  | one hT h hg hr hF hi e =>
    subst e
    obtain ⟨_, b, hb, e1⟩ := hs.env _ _ h
    obtain ⟨hu, hh⟩ := hs.heap _ _ _ _ hg hr
    rw [hF] at hh hu
    obtain ⟨_, cs, _, hrow, _, h4⟩ := rb_ones hh hb
    obtain ⟨y, a0, a1, a2⟩ := h4 _ hi
    exact ⟨y, run_var (run_loadflat hT ((cell_of_row w b _ cs _ (0, 0) hrow).trans a0)) e1, hu _ hi, a2⟩
  | agg ha hz h hg hr hF e =>
    subst e
    rename_i T T' g r n m F f
    obtain ⟨_, b, hb, e1⟩ := hs.env _ _ h
    obtain ⟨hu, hh⟩ := hs.heap _ _ _ _ hg hr
    rw [hF] at hh hu
    obtain ⟨_, cs, _, hrow, hat, h4⟩ := rb_ones hh hb
    have hm : m ≤ cs.size := by have := at_size hat; omega
    have hrun := run_loadagg ha hz (w := w) (k := b) (o := 0) (vs := cs.toList.take m) (by simp; omega) (fun j v hv => by
      rw [Nat.zero_add, cell_of_row w b j cs _ (0, 0) hrow]
      rw [List.getElem?_take] at hv
      split at hv
      · rw [← hv, Array.getElem?_toList]
      · cases hv)
    refine ⟨_, run_var hrun e1, hu, _, rfl, by simp; omega, fun i hi => ?_⟩
    obtain ⟨y, a0, a1, a2⟩ := h4 i hi
    exact ⟨y, by rw [List.getElem?_toArray, List.getElem?_take_of_lt hi, Array.getElem?_toList]; exact a0, a1, a2⟩
theorem results_comps (fn : Func) (tmps : Array Value) : results fn tmps = (do let vs ← fn.results.mapM (compRun tmps); pure (if h : vs.size = 1 then vs[0] else .tuple vs)) := by
  unfold results
  congr 1
/-- What comes back. -/
inductive Back (s : St) : Array ResultVar → AV → Prop where
  | none : Back s #[] (.v (.tuple #[]))
  | one {a : ResultVar} {x : AV} (h : Comp s a x) : Back s #[a] x
  | two {a b : ResultVar} {x y : AV} (h : Comp s a x) (k : Comp s b y) : Back s #[a, b] (.tup x y)
  | three {a b c : ResultVar} {x y z : AV} (h : Comp s a x) (k : Comp s b y) (l : Comp s c z) : Back s #[a, b, c] (.tup3 x y z)
theorem back_run {s : St} {fn : Func} {x : AV} (h : Back s fn.results x) {W : Wd} {N : Nat} {β : Nat → Nat → Value} {w : World} {a : Act} (hs : Sim W N β w a s) : ∃ v, (results fn a.tmps).run Try.prog w = .ok v w ∧ RV (notOwn W s β) W.w.heap.size β w x v := by
  rw [results_comps]
  generalize fn.results = rs at h
  cases h with
  | none => exact ⟨.tuple #[], by simp, rfl⟩
  | one h =>
    obtain ⟨v, h1, _, h2⟩ := comp_run h hs
    exact ⟨v, by simp [h1], h2⟩
  | two h k =>
    obtain ⟨v, h1, _, h2⟩ := comp_run h hs
    obtain ⟨u, k1, _, k2⟩ := comp_run k hs
    exact ⟨.tuple #[v, u], by simp [h1, k1], v, u, rfl, h2, k2⟩
  | three h k l =>
    obtain ⟨v, h1, _, h2⟩ := comp_run h hs
    obtain ⟨u, k1, _, k2⟩ := comp_run k hs
    obtain ⟨t, l1, _, l2⟩ := comp_run l hs
    exact ⟨.tuple #[v, u, t], by simp [h1, k1, l1], v, u, t, rfl, h2, k2, l2⟩
def Fin (rs : Array ResultVar) (r : AV) (e : Exit) (s : St) : Prop := (e = .normal ∨ e = .ret) ∧ ∃ s', Imp s s' ∧ Back s' rs r
theorem has_of {f : FuncId} {fn : Func} {c : Code} {N : Nat} {rs : Array ResultVar} {xs : List AV} {r : AV} (hf : Try.prog.funcs[f]? = some fn) (hB : callB Try.prog f = true) (hb : fn.body = some c) (hn : fn.ntmps = N) (hr : fn.results = rs) (hxs : xs.all AV.closed = true) (hrc : r.closed = true) (hlen : Nat.ble xs.length N = true)
    (h : AWP Try.prog N c (Fin rs r) (ent xs)) : Has Try.prog f xs r := by
  subst hn; subst hr
  refine ⟨hB, closed_ok hrc, fun w S β vs hR => ?_⟩
  have hle : vs.length ≤ fn.ntmps := by rw [← hR.1]; exact Nat.le_of_ble_eq_true hlen
  refine calls_of_wp hf hb ?_
  have hs : Sim (Wd.of w S) fn.ntmps β w { tmps := vs.toArray ++ Array.replicate (fn.ntmps - vs.toArray.size) undef, defers := [] } (ent xs) := by
    refine ⟨Below.refl _ _, rfl, by simp; omega, fun t x hx => ?_, fun g n F r h => (by cases h), fun g n F h => (by cases h), fun g n F r g' n' F' r' k h => (by cases h), Ext.refl _ _, fun _ _ h => h, fun _ h => (by cases h), fun _ h => (by cases h)⟩
    have hx : lk xs t = some x := hx
    rw [lk_get] at hx
    have hlt : t < xs.length := (List.getElem?_eq_some_iff.1 hx).1
    have hv : vs[t]? = some (vs[t]'(by rw [← hR.1]; exact hlt)) := List.getElem?_eq_getElem _
    have hc := closed_ok (List.all_eq_true.1 hxs x (List.mem_of_getElem? hx))
    refine ⟨ok_none hc, ?_⟩
    have hg : (vs.toArray ++ Array.replicate (fn.ntmps - vs.toArray.size) undef).getD t undef = vs[t]'(by rw [← hR.1]; exact hlt) := by
      have hlt' : t < vs.length := by rw [← hR.1]; exact hlt
      rw [Array.getD_eq_getD_getElem?, Array.getElem?_append_left (by simpa using hlt')]
      simp [hv]
    rw [hg]
    have kf : Fwd S (notOwn (Wd.of w S) (ent xs) β) w.heap.size w.heap.size (fun _ => false) β β (fun _ => False) w w :=
      ⟨Ext.refl _ _, fun _ _ h => h, fun b hb _ => ⟨fun _ => hb, fun ⟨g, n, F, r, h, _⟩ => by cases h⟩, Nat.le_refl _, fun _ _ h => by cases h⟩
    exact (hR.2 t x _ hx hv).fwd kf hc
  refine wp_mono (h.out (Wd.of w S) β w _ hs) ?_
  rintro e a' w' ⟨β', s', hs', he, s'', hi, hback⟩
  obtain ⟨β'', hs''⟩ := hi _ _ _ _ _ hs'
  obtain ⟨v, hrun, hv⟩ := back_run hback hs''
  have hc := closed_ok hrc
  have kf : Fwd (notOwn (Wd.of w S) s'' β'') (fun b => b < w.heap.size → S b) w.heap.size w.heap.size (fun _ => false) β'' β (fun _ => False) w' w' :=
    ⟨Ext.refl _ _, fun _ _ h => h, fun b hb _ => hb.1, Nat.le_refl _, fun _ _ h => by cases h⟩
  have hfin : (∃ v, Ending.returned v = .returned v ∧ Kept w w' ∧ RV (fun b => b < w.heap.size → S b) w.heap.size β w' r v) := ⟨v, rfl, hs''.kept, hv.fwd kf hc⟩
  rcases he with rfl | rfl
  · exact ⟨hs''.nodef, v, hrun, v, rfl, hs''.kept, hv.fwd kf hc⟩
  · exact ⟨hs''.nodef, v, hrun, v, rfl, hs''.kept, hv.fwd kf hc⟩
end Go.Proofs.Ytpclkgjhfhhddaa.AM
/- What an operation does, reckoned. -/
namespace Go.Proofs.Ytpclkgjhfhhddaa.AM
open Go Go.RowKit Go.Proofs.Ytpclkgjhfhhddaa.PN Go.Proofs.Ytpclkgjhfhhddaa.V
set_option linter.unusedVariables false
set_option linter.unusedSimpArgs false
abbrev Ev := Option (Dsc × Prop)
def out (r : AV) (c : Prop) (rd : List Nat) : Ev := some (⟨some r, [], rd⟩, c)
def evInt (op : BinOp) (k k' : IntKind) (a b : Int) : Ev :=
  match op with
  | .add => out (.v (.int k (a + b))) (k = k' ∧ Fits k (a + b)) []
  | .sub => out (.v (.int k (a - b))) (k = k' ∧ Fits k (a - b)) []
  | .mul => out (.v (.int k (a * b))) (k = k' ∧ Fits k (a * b)) []
  | .quo => out (.v (.int k (a.tdiv b))) (k = k' ∧ b ≠ 0 ∧ Fits k (a.tdiv b)) []
  | .rem => out (.v (.int k (a.tmod b))) (k = k' ∧ b ≠ 0) []
  | .eql => out (.v (.bool (decide (a = b)))) (k = k') []
  | .neq => out (.v (.bool (decide (a ≠ b)))) (k = k') []
  | .lss => out (.v (.bool (decide (a < b)))) (k = k') []
  | .leq => out (.v (.bool (decide (a ≤ b)))) (k = k') []
  | .gtr => out (.v (.bool (decide (b < a)))) (k = k') []
  | .geq => out (.v (.bool (decide (b ≤ a)))) (k = k') []
  | _ => none
section
variable {o : Oper} {s : St} {D : Dsc} {c : Prop}
theorem out_inj {r : AV} {c' : Prop} {rd : List Nat} (h : out r c' rd = some (D, c)) : D = ⟨some r, [], rd⟩ ∧ c = c' := by cases h; exact ⟨rfl, rfl⟩
theorem evInt_ok {op : BinOp} {T T' : TypeId} {x y : Operand} {k k' : IntKind} {a b : Int} (ho : o.op = .binOp op T x y T') (hx : avo s x = some (.v (.int k a))) (hy : avo s y = some (.v (.int k' b))) (h : evInt op k k' a b = some (D, c)) (hc : c) : LOK Try.prog o s D := by
  unfold evInt at h
  cases op <;> first
    | (cases h; done)
    | (obtain ⟨rfl, rfl⟩ := out_inj h; first
        | exact ok_arith ho hx hy hc.1 rfl hc.2
        | exact ok_quo ho hx hy hc.1 hc.2.1 hc.2.2
        | exact ok_rem ho hx hy hc.1 hc.2
        | exact ok_cmp ho hx hy hc rfl)
end
def evBin (op : BinOp) (T : TypeId) : Option AV → Option AV → Ev
  | some (.v (.int k a)), some (.v (.int k' b)) => evInt op k k' a b
  | some (.v (.bool a)), some (.v (.bool b)) => bif memN T [4] then (match cmpBB op a b with | some r => out (.v (.bool r)) True [] | none => none) else none
  | _, _ => none
theorem evBin_ok {o : Oper} {s : St} {D : Dsc} {c : Prop} {op : BinOp} {T T' : TypeId} {x y : Operand} (ho : o.op = .binOp op T x y T') (h : evBin op T (avo s x) (avo s y) = some (D, c)) (hc : c) : LOK Try.prog o s D := by
  unfold evBin at h
  split at h
  · rename_i e1 e2; exact evInt_ok ho e1 e2 h hc
  · rename_i e1 e2
    cases hT : memN T [4] with
    | false => rw [hT] at h; cases h
    | true =>
      rw [hT] at h
      simp only [cond_true] at h
      split at h
      · rename_i e3; obtain ⟨rfl, rfl⟩ := out_inj h; exact ok_cmpb ho hT e1 e2 e3
      · cases h
  · cases h
theorem kind_i64 : ([3, 2]).all (fun T => isKind .i64 (Try.prog.underlying T)) = true := by kernel_rfl
theorem kind_u64 : ([85, 111]).all (fun T => isKind .u64 (Try.prog.underlying T)) = true := by kernel_rfl
theorem kind_u32 : ([53]).all (fun T => isKind .u32 (Try.prog.underlying T)) = true := by kernel_rfl
theorem kind_u8 : ([5]).all (fun T => isKind .u8 (Try.prog.underlying T)) = true := by kernel_rfl
theorem kind_i32 : ([21]).all (fun T => isKind .i32 (Try.prog.underlying T)) = true := by kernel_rfl
theorem kind_err : ([30]).all (fun T => isKind .i64 (Try.prog.underlying T)) = true := by kernel_rfl
theorem isKind_eq {k : IntKind} {d : Option TypeDesc} (h : isKind k d = true) : d = some (.int k) := by
  cases d with
  | none => cases h
  | some d =>
    cases d <;> first | (cases h; done) | skip
    have h := eq_of_beq h
    rw [h]
theorem kind_ok {T : TypeId} {k : IntKind} (h : kindOf T = some k) : Try.prog.underlying T = some (.int k) := by
  unfold kindOf at h
  cases e1 : memN T [3, 2] with
  | true => rw [e1] at h; cases h; exact isKind_eq (List.all_eq_true.1 kind_i64 T (memN_spec e1))
  | false =>
    rw [e1] at h
    cases e2 : memN T [85, 111] with
    | true => rw [e2] at h; cases h; exact isKind_eq (List.all_eq_true.1 kind_u64 T (memN_spec e2))
    | false =>
      rw [e2] at h
      cases e3 : memN T [53] with
      | true => rw [e3] at h; cases h; exact isKind_eq (List.all_eq_true.1 kind_u32 T (memN_spec e3))
      | false =>
        rw [e3] at h
        cases e4 : memN T [5] with
        | true => rw [e4] at h; cases h; exact isKind_eq (List.all_eq_true.1 kind_u8 T (memN_spec e4))
        | false =>
          rw [e4] at h
          cases e5 : memN T [30] with
          | true => rw [e5] at h; cases h; exact isKind_eq (List.all_eq_true.1 kind_err T (memN_spec e5))
          | false =>
            rw [e5] at h
            cases e6 : memN T [21] with
            | true => rw [e6] at h; cases h; exact isKind_eq (List.all_eq_true.1 kind_i32 T (memN_spec e6))
            | false => rw [e6] at h; cases h
def evConv (T T' : TypeId) : Option AV → Ev
  | some (.v (.int _ n)) => match kindOf T, kindOf T' with
    | some _, some k' => out (.v (.int k' n)) (Fits k' n) []
    | _, _ => none
  | _ => none
theorem evConv_ok {o : Oper} {s : St} {D : Dsc} {c : Prop} {T T' : TypeId} {x : Operand} (ho : o.op = .convert T T' x) (h : evConv T T' (avo s x) = some (D, c)) (hc : c) : LOK Try.prog o s D := by
  unfold evConv at h
  split at h
  · rename_i e1
    split at h
    · rename_i e2 e3
      obtain ⟨rfl, rfl⟩ := out_inj h
      exact ok_convert ho e1 (by rw [kind_ok e2]; rfl) (kind_ok e3) hc
    · cases h
  · cases h
def evExtract (i : Nat) : Option AV → Ev
  | some (.tup y z) => out (sel2 i y z) (i < 2) []
  | some (.tup3 y z u) => out (sel3 i y z u) (i < 3) []
  | _ => none
theorem evExtract_ok {o : Oper} {s : St} {D : Dsc} {c : Prop} {i : Nat} {x : Operand} (ho : o.op = .extract x i) (h : evExtract i (avo s x) = some (D, c)) (hc : c) : LOK Try.prog o s D := by
  unfold evExtract at h
  split at h
  · rename_i e1; obtain ⟨rfl, rfl⟩ := out_inj h; exact ok_extract2 ho e1 hc
  · rename_i e1; obtain ⟨rfl, rfl⟩ := out_inj h; exact ok_extract3 ho e1 hc
  · cases h
/-! ### Loads, stores -/
def evLoad (s : St) (T : TypeId) : Option AV → Ev
  | some (.rp r) => bif Nat.beq T RT then out (.ra r) True [] else none
  | some (.cp y) => bif memN T flatT then out y True [] else none
  | some (.pp sg n d) => bif Nat.beq T RT then out (.ag 3 (pag sg n d)) True [] else none
  | some (.rptr g r i) => match s.heap g with
    | some (n, F) => match F r with
      | .rats m f => bif Nat.beq T RT then out (.ra (f i)) (r < n ∧ i < m) [g] else none
      | _ => none
    | none => none
  | some (.ptr g r i) => match s.heap g with
    | some (n, F) => match F r with
      | .ones _ m f => bif memN T flatT then out (f i) (r < n ∧ i < m) [g] else
        bif Nat.beq T RT then (match f i with | .rs q => out (.ra q) (r < n ∧ i + 2 < m ∧ f (i + 1) = .rn q ∧ f (i + 2) = .rd q) [g] | _ => bif Nat.beq i 0 then out (.ag m f) (r < n ∧ isAggD (Try.prog.underlying T) = true ∧ szB Try.prog T m = true) [g] else none) else
        bif Nat.beq i 0 then out (.ag m f) (r < n ∧ isAggD (Try.prog.underlying T) = true ∧ szB Try.prog T m = true) [g] else none
      | _ => none
    | none => none
  | some (.fld g r i j) => match s.heap g with
    | some (n, F) => match F r with
      | .rats m f => bif memN T flatT then out ((f i).field j) (r < n ∧ i < m ∧ j < 3) [g] else none
      | _ => none
    | none => none
  | _ => none
theorem evLoad_ok {o : Oper} {s : St} {D : Dsc} {c : Prop} {T : TypeId} {x : Operand} (ho : o.op = .load T x) (h : evLoad s T (avo s x) = some (D, c)) (hc : c) : LOK Try.prog o s D := by
  unfold evLoad at h
  split at h
  · rename_i e1
    cases hT : Nat.beq T RT with
    | false => rw [hT] at h; cases h
    | true => rw [hT] at h; obtain ⟨rfl, rfl⟩ := out_inj h; have hT := Nat.eq_of_beq_eq_true hT; subst hT; exact ok_load_rp ho e1
  · rename_i e1
    cases hT : memN T flatT with
    | false => rw [hT] at h; cases h
    | true => rw [hT] at h; obtain ⟨rfl, rfl⟩ := out_inj h; exact ok_load_cp ho hT e1
  · rename_i e1
    cases hT : Nat.beq T RT with
    | false => rw [hT] at h; cases h
    | true => rw [hT] at h; obtain ⟨rfl, rfl⟩ := out_inj h; have hT := Nat.eq_of_beq_eq_true hT; subst hT; exact ok_load_pp ho e1
  · rename_i e1
    split at h
    · rename_i e2
      split at h
      · rename_i e3
        cases hT : Nat.beq T RT with
        | false => rw [hT] at h; cases h
        | true => rw [hT] at h; obtain ⟨rfl, rfl⟩ := out_inj h; have hT := Nat.eq_of_beq_eq_true hT; subst hT; exact ok_load_rptr ho e1 e2 hc.1 e3 hc.2
      · cases h
    · cases h
  · rename_i g r i e1
    split at h
    · rename_i e2
      split at h
      · rename_i e3
        cases hT : memN T flatT with
        | true => rw [hT] at h; obtain ⟨rfl, rfl⟩ := out_inj h; exact ok_load_ptr ho hT e1 e2 hc.1 e3 hc.2
        | false =>
          rw [hT] at h
          simp only [cond_false] at h
          cases hT2 : Nat.beq T RT with
          | true =>
            rw [hT2] at h
            simp only [cond_true] at h
            split at h
            · rename_i e4
              obtain ⟨rfl, rfl⟩ := out_inj h
              have hT := Nat.eq_of_beq_eq_true hT2; subst hT
              exact ok_load_ptr3 ho e1 e2 hc.1 e3 hc.2.1 e4 hc.2.2.1 hc.2.2.2
            · cases hi : Nat.beq i 0 with
              | false => rw [hi] at h; cases h
              | true => rw [hi] at h; obtain ⟨rfl, rfl⟩ := out_inj h; have hi := Nat.eq_of_beq_eq_true hi; subst hi; exact ok_load_agg ho hc.2.1 hc.2.2 e1 e2 hc.1 e3
          | false =>
            rw [hT2] at h
            simp only [cond_false] at h
            cases hi : Nat.beq i 0 with
            | false => rw [hi] at h; cases h
            | true => rw [hi] at h; obtain ⟨rfl, rfl⟩ := out_inj h; have hi := Nat.eq_of_beq_eq_true hi; subst hi; exact ok_load_agg ho hc.2.1 hc.2.2 e1 e2 hc.1 e3
      · cases h
    · cases h
  · rename_i e1
    split at h
    · rename_i e2
      split at h
      · rename_i e3
        cases hT : memN T flatT with
        | false => rw [hT] at h; cases h
        | true => rw [hT] at h; obtain ⟨rfl, rfl⟩ := out_inj h; exact ok_load_fld ho hT e1 e2 hc.1 e3 hc.2.1 hc.2.2
      · cases h
    · cases h
  · cases h
def outS (g n : Nat) (F : Nat → Blk) (c : Prop) : Ev := some (⟨none, [(g, some (n, F))], [g]⟩, c)
theorem outS_inj {g n : Nat} {F : Nat → Blk} {D : Dsc} {c c' : Prop} (h : outS g n F c' = some (D, c)) : D = ⟨none, [(g, some (n, F))], [g]⟩ ∧ c = c' := by cases h; exact ⟨rfl, rfl⟩
def evStore (s : St) (T : TypeId) : Option AV → Option AV → Ev
  | some (.rptr g r i), some (.ra q) => match s.heap g with
    | some (n, F) => match F r with
      | .rats m f => bif Nat.beq T RT then outS g n (updN F r (.rats m (updN f i q))) (r < n ∧ i < m) else none
      | _ => none
    | none => none
  | some (.ptr g r i), some z => match s.heap g with
    | some (n, F) => match F r with
      | .ones T' m f => bif memN T flatT then outS g n (updN F r (.ones T' m (updN f i z))) (z.one = true ∧ r < n ∧ i < m) else
        (match z with
        | .ra q => bif Nat.beq T RT then outS g n (updN F r (.ones T' m (upd3 f i q))) (r < n ∧ i + 2 < m) else none
        | .ag m' f' => bif Nat.beq i 0 then outS g n (updN F r (.ones T' m f')) (m' = m ∧ r < n ∧ szB Try.prog T m = true) else none
        | _ => none)
      | _ => none
    | none => none
  | _, _ => none
theorem evStore_ok {o : Oper} {s : St} {D : Dsc} {c : Prop} {T : TypeId} {x y : Operand} (hd : o.dst = none) (ho : o.op = .store T x y) (h : evStore s T (avo s x) (avo s y) = some (D, c)) (hc : c) : LOK Try.prog o s D := by
  unfold evStore at h
  split at h
  · rename_i e1 e0
    split at h
    · rename_i e2
      split at h
      · rename_i e3
        cases hT : Nat.beq T RT with
        | false => rw [hT] at h; cases h
        | true => rw [hT] at h; obtain ⟨rfl, rfl⟩ := outS_inj h; have hT := Nat.eq_of_beq_eq_true hT; subst hT; exact ok_store_rptr hd ho e1 e0 e2 hc.1 e3 hc.2
      · cases h
    · cases h
  · rename_i g r i z e1 e0
    split at h
    · rename_i e2
      split at h
      · rename_i e3
        cases hT : memN T flatT with
        | true => rw [hT] at h; obtain ⟨rfl, rfl⟩ := outS_inj h; exact ok_store_ptr hd ho hT e1 e0 hc.1 e2 hc.2.1 e3 hc.2.2
        | false =>
          rw [hT] at h
          simp only [cond_false] at h
          split at h
          · cases hT2 : Nat.beq T RT with
            | false => rw [hT2] at h; cases h
            | true => rw [hT2] at h; obtain ⟨rfl, rfl⟩ := outS_inj h; have hT := Nat.eq_of_beq_eq_true hT2; subst hT; exact ok_store_ptr3 hd ho e1 e0 e2 hc.1 e3 hc.2
          · cases hi : Nat.beq i 0 with
            | false => rw [hi] at h; cases h
            | true => rw [hi] at h; obtain ⟨rfl, rfl⟩ := outS_inj h; have hi := Nat.eq_of_beq_eq_true hi; subst hi; obtain ⟨rfl, h1, h2⟩ := hc; exact ok_store_agg hd ho h2 e1 e0 e2 h1 e3
          · cases h
      · cases h
    · cases h
  · cases h
end Go.Proofs.Ytpclkgjhfhhddaa.AM

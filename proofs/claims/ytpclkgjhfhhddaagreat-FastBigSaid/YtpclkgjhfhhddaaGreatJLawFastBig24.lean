/- Joined texts, 24: AmMf PFa FsA AmNl DnA DnB DnC FsB. -/
import Derived.Test.YtpclkgjhfhhddaaGreatJLawFastBig19
import Derived.Test.YtpclkgjhfhhddaaGreatJLawFastBig20
import Derived.Test.YtpclkgjhfhhddaaGreatJLawFastBig13
import Derived.Test.YtpclkgjhfhhddaaGreatJLawFastBig21
import Derived.Test.YtpclkgjhfhhddaaGreatJLawFastBig14
import Derived.Test.YtpclkgjhfhhddaaGreatJLawFastBig15
set_option linter.unusedVariables false
set_option linter.unusedSimpArgs false
/- Maps from whole numbers to functions. -/
namespace Go.Proofs.YtpclkgjhfhhddaaGreat.AM
open Go Go.RowKit Go.Proofs.YtpclkgjhfhhddaaGreat.PN Go.Proofs.YtpclkgjhfhhddaaGreat.V
set_option linter.unusedVariables false
set_option linter.unusedSimpArgs false
theorem find_int (k : Int) : ∀ (es : List MapEntry) (i : Nat), (∀ e ∈ es, ∃ c : Int, e.key = .int .i64 c) →
    ∃ r, Instr.findNow (.int .i64) (.int .i64 k) es i = some r ∧ (∀ j v, r = some (j, v) → ∃ e ∈ es, e.key = .int .i64 k ∧ e.val = v) ∧ (r = none → ∀ e ∈ es, e.key ≠ .int .i64 k)
  | [], i, _ => ⟨none, rfl, fun _ _ h => (by cases h), fun _ e he => (by cases he)⟩
  | e :: es, i, h => by
    obtain ⟨c, hk⟩ := h e (List.mem_cons_self ..)
    obtain ⟨r, h1, h2, h3⟩ := find_int k es (i + 1) fun e he => h e (List.mem_cons_of_mem _ he)
    by_cases hc : k = c
    · subst hc
      refine ⟨some (i, e.val), ?_, fun j v hv => ?_, fun hn => (by cases hn)⟩
      · unfold Instr.findNow
        rw [hk]
        simp [Instr.sameNow]
      · cases hv; exact ⟨e, List.mem_cons_self .., hk, rfl⟩
    · refine ⟨r, ?_, fun j v hv => ?_, fun hn e' he' => ?_⟩
      · unfold Instr.findNow
        rw [hk]
        simp only [Instr.sameNow, if_pos]
        rw [beq_dec, decide_eq_false hc]
        exact h1
      · obtain ⟨e', he', q⟩ := h2 j v hv; exact ⟨e', List.mem_cons_of_mem _ he', q⟩
      · rcases List.mem_cons.1 he' with rfl | he'
        · rw [hk]; intro e; cases e; exact hc rfl
        · exact h3 hn e' he'
theorem run_findInt (w : World) (k : Int) (es : List MapEntry) (h : ∀ e ∈ es, ∃ c : Int, e.key = .int .i64 c) :
    ∃ r, (Instr.findKey INT (.int .i64 k) es).run Tryz.prog w = .ok r w ∧ (∀ j v, r = some (j, v) → ∃ e ∈ es, e.key = .int .i64 k ∧ e.val = v) ∧ (r = none → ∀ e ∈ es, e.key ≠ .int .i64 k) := by
  obtain ⟨r, h1, h2, h3⟩ := find_int k es 0 h
  refine ⟨r, ?_, h2, h3⟩
  unfold Instr.findKey
  rw [Sem.run_bind, run_underlying int_und w]
  simp only [Result.andThen_ok, h1, Sem.run_pure]
theorem run_checkInt (w : World) (em : Bool) (k : Int) : (Instr.checkKey em 10000 INT (.int .i64 k)).run Tryz.prog w = .ok () w := by
  have key : ∀ n, (Instr.checkKey em (n + 1) INT (.int .i64 k)).run Tryz.prog w = .ok () w := by
    intro n
    simp [Instr.checkKey, run_underlying int_und]
  exact key 9999
theorem ok_lookupf {o : Oper} {s : St} {x y : Operand} {M E : TypeId} {ks : List Int} {f : Nat → AV} {z : Int} {i : Nat} (ho : o.op = .lookup M x y false) (hM : Tryz.prog.underlying M = some (.map INT E)) (hx : avo s x = some (.mf ks f)) (hy : avo s y = some (.v (.int .i64 z)))
    (hi : i < ks.length) (hz : ks.getD i 0 = z) (hone : ∀ j, j < ks.length → ks.getD j 0 = z → j = i) : LOK Tryz.prog o s ⟨some (f i), [], []⟩ := by
  refine lok_val fun s2 hl W N β w ac hs => ?_
  obtain ⟨hu, r, es, ck, e1, _, e2, e3, e4⟩ := hs.opd (x := x) (by rw [hl.avo (by rw [ho]; simp [Op.operands])]; exact hx)
  have e5 : ac.eval y = .int .i64 z := hs.opv (by rw [hl.avo (by rw [ho]; simp [Op.operands])]; exact hy)
  obtain ⟨q, q1, q2, q3⟩ := run_findInt w z es.toList fun e he => by obtain ⟨i, _, h, _⟩ := e3 e he; exact ⟨_, h⟩
  obtain ⟨e0, he0, hk0⟩ := e4 i hi
  cases q with
  | none => exact absurd (hk0.trans (by rw [hz])) (q3 rfl e0 he0)
  | some jv =>
    obtain ⟨j, v⟩ := jv
    obtain ⟨e, he, hk, hv⟩ := q2 j v rfl
    obtain ⟨i', hi', hk', hrv⟩ := e3 e he
    rw [hk] at hk'
    have hz' : ks.getD i' 0 = z := by cases hk'; rfl
    obtain rfl := hone i' hi' hz'
    refine ⟨v, ?_, fun u hu' => ?_⟩
    · unfold execOp; rw [ho]; simp only []; rw [e1, e5]
      simp [Instr.lookup, run_underlying hM, run_getObj e2, run_checkInt, q1]
    · cases hu'
      exact ⟨hu i' hi', hv ▸ hrv⟩
/-- Operations that write out a map of functions bound to one struct, one behind the other. -/
structure MfOps (ops : Array Oper) (M T : TypeId) (tab : List (Int × FuncId)) (n : Nat) : Prop where
  size : ops.size = 3 * n + 3
  make : ∃ o, ops[0]? = some o ∧ o.op = .makeMap M none ∧ o.dst = some 3 ∧ o.guard = none
  load : ∀ j, j < n → ∃ o, ops[3 * j + 1]? = some o ∧ o.op = .load T (.tmp 1) ∧ o.dst = some (2 * j + 4) ∧ o.guard = none
  func : ∀ j, j < n → ∃ o, ops[3 * j + 2]? = some o ∧ o.op = .makeFunc (.func (tab.getD j (0, 0)).2) #[.tmp (2 * j + 4)] #[] ∧ o.dst = some (2 * j + 5) ∧ o.guard = none
  ins : ∀ j, j < n → ∃ o, ops[3 * j + 3]? = some o ∧ o.op = .insert M (.tmp 3) (.const (.int .i64 (tab.getD j (0, 0)).1)) (.tmp (2 * j + 5)) ∧ o.dst = none ∧ o.guard = none
  mv : ∃ o, ops[3 * n + 1]? = some o ∧ o.op = .move (.tmp 3) ∧ o.dst = some (2 * n + 4) ∧ o.guard = none
  asg : ∃ o, ops[3 * n + 2]? = some o ∧ o.op = .assign (.tmp (2 * n + 4)) ∧ o.dst = some 2 ∧ o.guard = none
structure MfJ (w0 : World) (p u : Value) (tab : List (Int × FuncId)) (N j : Nat) (a : Act) (w : World) : Prop where
  nodef : a.defers = []
  size : a.tmps.size = N
  kept : Kept w0 w
  ptr : a.tmps.getD 1 undef = p
  mp : ∃ m es ck, a.tmps.getD 3 undef = .map (some m) ∧ w0.heap.size ≤ m ∧ w.heap[m]? = some (.map es ck) ∧
    (∀ e ∈ es.toList, ∃ i, i < j ∧ e.key = .int .i64 (tab.getD i (0, 0)).1 ∧ e.val = .func (.func (tab.getD i (0, 0)).2) #[u] #[]) ∧ ∀ i, i < j → ∃ e ∈ es.toList, e.key = .int .i64 (tab.getD i (0, 0)).1
theorem getD_put_ne {a : Act} {d t : Nat} {v : Value} (h : t ≠ d) : (a.put (some d) v).tmps.getD t undef = a.tmps.getD t undef := getD_set_ne' (by omega)
theorem getD_put_same {a : Act} {d : Nat} {v : Value} (h : d < a.tmps.size) : (a.put (some d) v).tmps.getD d undef = v := getD_set_same' h
theorem size_put {a : Act} {d : Nat} {v : Value} : (a.put (some d) v).tmps.size = a.tmps.size := by show (a.tmps.setIfInBounds d v).size = _; rw [Array.size_setIfInBounds]
section
variable {w0 : World} {p u : Value} {tab : List (Int × FuncId)} {n N : Nat} {ops : Array Oper} {M T E : TypeId} {Q : Exit → Act → World → Prop}
theorem mf_step {j : Nat} {a : Act} {w : World} {K : Act → World → Prop} (ho : MfOps ops M T tab n) (hM : Tryz.prog.underlying M = some (.map INT E)) (hN : N = 2 * n + 5) (hone : ∀ i j, i < n → j < n → (tab.getD i (0, 0)).1 = (tab.getD j (0, 0)).1 → i = j)
    (hload : ∀ w, Kept w0 w → (Instr.loadAt T p).run Tryz.prog w = .ok u w) (hj : j < n) (h : MfJ w0 p u tab N j a w)
    (hK : ∀ a' w', MfJ w0 p u tab N (j + 1) a' w' → K a' w') : wpOp Tryz.prog ops Q (3 * j + 1) (fun a w => wpOp Tryz.prog ops Q (3 * j + 2) (fun a w => wpOp Tryz.prog ops Q (3 * j + 3) K a w) a w) a w := by
  obtain ⟨o1, a1, a2, a3, a4⟩ := ho.load j hj
  obtain ⟨o2, b1, b2, b3, b4⟩ := ho.func j hj
  obtain ⟨o3, c1, c2, c3, c4⟩ := ho.ins j hj
  obtain ⟨m, es, ck, d1, d2, d3, d4, d5⟩ := h.mp
  have hsz := h.size
  have hone := fun i hi => hone j i hj hi
  generalize hkj : tab.getD j (0, 0) = kj at *
  refine wpOp_val a1 a4 (v := u) (w' := w) ?_ ?_
  · unfold execOp; rw [a2]; simp only [Sem.run_bind]
    rw [show a.eval (.tmp 1) = p from h.ptr, hload w h.kept]; rfl
  rw [a3]
  refine wpOp_val b1 b4 (v := .func (.func kj.2) #[u] #[]) (w' := w) ?_ ?_
  · unfold execOp; rw [b2]
    have : (a.put (some (2 * j + 4)) u).eval (.tmp (2 * j + 4)) = u := getD_put_same (by omega)
    simp [Instr.makeFunc, this]
  rw [b3]
  have e1 : ((a.put (some (2 * j + 4)) u).put (some (2 * j + 5)) (.func (.func kj.2) #[u] #[])).eval (.tmp 3) = .map (some m) := by
    show Array.getD _ 3 undef = _
    rw [getD_put_ne (by omega), getD_put_ne (by omega)]; exact d1
  have e2 : ((a.put (some (2 * j + 4)) u).put (some (2 * j + 5)) (.func (.func kj.2) #[u] #[])).eval (.tmp (2 * j + 5)) = .func (.func kj.2) #[u] #[] := getD_put_same (by rw [size_put]; omega)
  have e3 : ((a.put (some (2 * j + 4)) u).put (some (2 * j + 5)) (.func (.func kj.2) #[u] #[])).eval (.const (.int .i64 kj.1)) = .int .i64 kj.1 := rfl
  obtain ⟨q, q1, q2, q3⟩ := run_findInt w kj.1 es.toList fun e he => by
    obtain ⟨i, i1, i2, _⟩ := d4 e he
    exact ⟨_, i2⟩
  have hq : q = none := by
    cases q with
    | none => rfl
    | some jv =>
      obtain ⟨i, v⟩ := jv
      obtain ⟨e, he, hk, _⟩ := q2 i v rfl
      obtain ⟨i', i1, i2, _⟩ := d4 e he
      rw [hk] at i2
      have := hone i' (by omega) (Value.int.inj i2).2
      omega
  subst hq
  refine wpOp_skip c1 c4 (w' := { w with heap := w.heap.setIfInBounds m (.map (es.push { key := .int .i64 kj.1, val := .func (.func kj.2) #[u] #[], born := ck }) (ck + 1)) }) ?_ (hK _ _ ?_)
  · unfold execOp; rw [c2]
    simp only [Sem.run_bind, e1, e2, e3]
    simp [Instr.mapUpdate, run_underlying hM, MapKept.run_getObj_map d3, run_checkInt, q1, MapKept.run_setObj_map _ d3]
  · rw [c3]
    have hset := MapKept.heap_set d3 (o' := .map (es.push { key := .int .i64 kj.1, val := .func (.func kj.2) #[u] #[], born := ck }) (ck + 1))
    refine ⟨h.nodef, (size_put).trans (size_put.trans hsz), Kept.block_set h.kept d2 _, (getD_put_ne (by omega)).trans ((getD_put_ne (by omega)).trans h.ptr), m, _, _, e1, d2, hset.1, fun e he => ?_, fun i hi => ?_⟩
    · rw [Array.toList_push, List.mem_append, List.mem_singleton] at he
      rcases he with he | rfl
      · obtain ⟨i, i1, i2⟩ := d4 e he; exact ⟨i, by omega, i2⟩
      · exact ⟨j, by omega, by rw [hkj], by rw [hkj]⟩
    · by_cases e : i = j
      · subst e; exact ⟨_, by rw [Array.toList_push, List.mem_append, List.mem_singleton]; exact .inr rfl, by rw [hkj]⟩
      · obtain ⟨x, x1, x2⟩ := d5 i (by omega)
        exact ⟨x, by rw [Array.toList_push, List.mem_append]; exact .inl x1, x2⟩
theorem mf_steps (ho : MfOps ops M T tab n) (hM : Tryz.prog.underlying M = some (.map INT E)) (hN : N = 2 * n + 5) (hone : ∀ i j, i < n → j < n → (tab.getD i (0, 0)).1 = (tab.getD j (0, 0)).1 → i = j)
    (hload : ∀ w, Kept w0 w → (Instr.loadAt T p).run Tryz.prog w = .ok u w) (hQ : ∀ a w, MfJ w0 p u tab N n a w → a.tmps.getD 2 undef = a.tmps.getD 3 undef → Q .normal a w) :
    ∀ (k j : Nat), j + k = n → ∀ a w, MfJ w0 p u tab N j a w → wpOps Tryz.prog ops Q (List.range' (3 * j + 1) (3 * k + 2)) a w := by
  intro k
  induction k with
  | zero =>
    intro j hj a w h
    obtain rfl : j = n := by omega
    obtain ⟨o1, a1, a2, a3, a4⟩ := ho.mv
    obtain ⟨o2, b1, b2, b3, b4⟩ := ho.asg
    show wpOps Tryz.prog ops Q [3 * j + 1, 3 * j + 1 + 1] a w
    have hsz := h.size
    rw [wpOps_cons]
    refine wpOp_val a1 a4 (v := a.tmps.getD 3 undef) (w' := w) (by unfold execOp; rw [a2]; rfl) ?_
    rw [a3, wpOps_cons]
    have e1 : (a.put (some (2 * j + 4)) (a.tmps.getD 3 undef)).tmps.getD (2 * j + 4) undef = a.tmps.getD 3 undef := getD_put_same (by omega)
    refine wpOp_val b1 b4 (v := a.tmps.getD 3 undef) (w' := w) (by unfold execOp; rw [b2]; show Result.ok (Next.value (Array.getD _ (2 * j + 4) undef)) w = _; rw [e1]) ?_
    rw [b3]
    have e3 : ((a.put (some (2 * j + 4)) (a.tmps.getD 3 undef)).put (some 2) (a.tmps.getD 3 undef)).tmps.getD 3 undef = a.tmps.getD 3 undef := by rw [getD_put_ne (by omega), getD_put_ne (by omega)]
    refine hQ _ _ ⟨h.nodef, size_put.trans (size_put.trans hsz), h.kept, (getD_put_ne (by omega)).trans ((getD_put_ne (by omega)).trans h.ptr), ?_⟩ ?_
    · rw [e3]; exact h.mp
    · rw [e3]; exact getD_put_same (by rw [size_put]; omega)
  | succ k ih =>
    intro j hj a w h
    show wpOps Tryz.prog ops Q ((3 * j + 1) :: (3 * j + 1 + 1) :: (3 * j + 1 + 1 + 1) :: List.range' (3 * j + 1 + 1 + 1 + 1) (3 * k + 2)) a w
    rw [wpOps_cons]
    refine mf_step (K := fun a w => wpOps Tryz.prog ops Q (List.range' (3 * (j + 1) + 1) (3 * k + 2)) a w) ho hM hN hone hload (by omega) h fun a' w' h' => ih (j + 1) (by omega) a' w' h'
end
theorem awp_mf {N id n g m : Nat} {ops : Array Oper} {M T E T' : TypeId} {tab : List (Int × FuncId)} {Q : Exit → St → Prop} {s : St} {F : Nat → Blk} {f : Nat → AV} (ho : MfOps ops M T tab n) (hM : Tryz.prog.underlying M = some (.map INT E)) (hN : N = 2 * n + 5)
    (hone : ∀ i j, i < n → j < n → (tab.getD i (0, 0)).1 = (tab.getD j (0, 0)).1 → i = j) (ha : isAggD (Tryz.prog.underlying T) = true) (hz : szB Tryz.prog T m = true) (h1 : s.env 1 = some (.ptr g 0 0)) (hg : s.heap g = some (1, F)) (hF : F 0 = .ones T' m f)
    (ks : List Int) (fs : Nat → FuncId) (hks : ∀ i, i < n → ∃ j, j < ks.length ∧ ks.getD j 0 = (tab.getD i (0, 0)).1 ∧ fs j = (tab.getD i (0, 0)).2) (hks2 : ∀ j, j < ks.length → ∃ i, i < n ∧ ks.getD j 0 = (tab.getD i (0, 0)).1)
    (hQ : Q .normal ⟨put (fun _ => none) 2 (some (.mf ks fun i => .bnd (fs i) (.ag m f))), s.heap, s.used⟩) : AWP Tryz.prog N (.region id ops false) Q s := by
  refine ⟨fun W β w a hs => wp_region ?_⟩
  obtain ⟨_, b, hb, e1⟩ := hs.env 1 _ h1
  obtain ⟨hu, h⟩ := hs.heap g 1 F 0 hg (by decide)
  rw [hF] at h hu
  obtain ⟨_, cs, _, hrow, hat, h4⟩ := rb_ones h hb
  have hm : m ≤ cs.size := by have := at_size hat; omega
  have hload : ∀ w', Kept w w' → (Instr.loadAt T (.pointer (some ⟨b, 0, none⟩))).run Tryz.prog w' = .ok (.agg (cs.toList.take m).toArray) w' := fun w' hk => by
    have hrow' : Row? w' b cs T' := (hk.block b hrow.lt).trans hrow
    exact run_loadagg ha hz (w := w') (k := b) (o := 0) (vs := cs.toList.take m) (by simp; omega) (fun j v hv => by
      rw [Nat.zero_add, cell_of_row w' b j cs T' (0, 0) hrow']
      rw [List.getElem?_take] at hv
      split at hv
      · rw [← hv, Array.getElem?_toList]
      · cases hv)
  have hrv : RV (notOwn W s β) W.w.heap.size β w (.ag m f) (.agg (cs.toList.take m).toArray) := by
    refine ⟨_, rfl, by simp; omega, fun i hi => ?_⟩
    obtain ⟨y, a0, a1, a2⟩ := h4 i hi
    exact ⟨y, by rw [List.getElem?_toArray, List.getElem?_take_of_lt hi, Array.getElem?_toList]; exact a0, a1, a2⟩
  rw [show List.range ops.size = 0 :: List.range' (3 * 0 + 1) (3 * n + 2) by rw [ho.size, List.range_eq_range']; rfl, wpOps_cons]
  obtain ⟨o, o1, o2, o3, o4⟩ := ho.make
  refine wpOp_val o1 o4 (v := .map (some w.heap.size)) (w' := w.alloc (.map #[] 0)) (by unfold execOp; rw [o2]; rfl) ?_
  rw [o3]
  refine mf_steps (w0 := w) (p := .pointer (some ⟨b, 0, none⟩)) (u := .agg (cs.toList.take m).toArray) (N := N) ho hM hN hone hload (fun a' w' hj hm' => ?_) n 0 (by omega) _ _ ⟨hs.nodef, size_put.trans hs.size, Kept.alloc w _, (getD_put_ne (by omega)).trans e1, w.heap.size, #[], 0, getD_put_same (by rw [hs.size]; omega), Nat.le_refl _, (MapKept.heap_alloc w _).1, fun e he => (by cases he), fun i hi => absurd hi (Nat.not_lt_zero _)⟩
  obtain ⟨mm, es, ck, b1, b2, b3, b4, b5⟩ := hj.mp
  have hs' := hs.later hj.kept
  have kf : Fwd (notOwn W s β) (notOwn W s β) W.w.heap.size W.w.heap.size s.used β β (fun _ => False) w w' := ⟨Ext.of_kept hj.kept _, fun _ _ h => h, fun _ h _ => h, Nat.le_refl _, fun _ _ _ => rfl⟩
  have hrv' := RV.fwd kf (x := .ag m f) hu hrv
  refine ⟨β, ⟨put (fun _ => none) 2 (some (.mf ks fun i => .bnd (fs i) (.ag m f))), s.heap, s.used⟩, ⟨hs'.kept, hj.nodef, hj.size, fun t x hx => ?_, hs'.heap, hs'.live, hs'.inj, hs'.fix, hs'.pin, hs'.fixd, hs'.keep⟩, hQ⟩
  by_cases e : t = 2
  · subst e
    have hx : put (fun _ => none) 2 (some (AV.mf ks fun i => .bnd (fs i) (.ag m f))) 2 = some x := hx
    rw [put_same] at hx
    cases hx
    refine ⟨fun i _ => hu, mm, es, ck, hm'.trans b1, ⟨fun hlt => absurd (Nat.lt_of_lt_of_le hlt hs.fix.size) (by omega), fun hown => by have := (own_lt hs hown).2; omega⟩, b3, fun e he => ?_, fun j hj' => ?_⟩
    · obtain ⟨i, i1, i2, i3⟩ := b4 e he
      obtain ⟨j, j1, j2, j3⟩ := hks i i1
      exact ⟨j, j1, by rw [i2, j2], _, by rw [i3, j3], hrv'⟩
    · obtain ⟨i, i1, i2⟩ := hks2 j hj'
      obtain ⟨e, he, hk⟩ := b5 i i1
      exact ⟨e, he, by rw [hk, i2]⟩
  · have hx : put (fun _ => none) 2 (some (AV.mf ks fun i => .bnd (fs i) (.ag m f))) t = some x := hx
    rw [put_ne _ _ e] at hx; cases hx
end Go.Proofs.YtpclkgjhfhhddaaGreat.AM
/- Displaced matrices. -/
namespace Go.Proofs.YtpclkgjhfhhddaaGreat.AM
open Go.Proofs.YtpclkgjhfhhddaaGreat.PN
open Go.Proofs.YtpclkgjhfhhddaaGreat.LA (S S_succ S_zero S_congr S_first S_null Mt HasRank rank_le)
set_option linter.unusedVariables false
set_option linter.unusedSimpArgs false
set_option maxRecDepth 8000
set_option maxHeartbeats 8000000
/-- An entry; nought outside. -/
def gat (g : GD) (a b : Int) : Rat := if a < 0 ∨ b < 0 ∨ (g.n : Int) ≤ a ∨ (g.n : Int) ≤ b then 0 else gent g a.toNat b.toNat
/-- The displaced matrix. -/
def gdis (g : GD) (i j : Nat) : Rat :=
  match g.k with
  | 2 => gat g ((i : Int) - 1) j - gat g i ((j : Int) - 1)
  | 4 => g.A i * gat g i j - gat g i ((j : Int) + 1)
  | 5 => (g.A i - g.B j) * gat g i j
  | 7 => (g.A i - g.B j) * gat g i j
  | _ => gat g i j - gat g ((i : Int) - 1) ((j : Int) - 1)
theorem gat_out {g : GD} {a b : Int} (h : a < 0 ∨ b < 0 ∨ (g.n : Int) ≤ a ∨ (g.n : Int) ≤ b) : gat g a b = 0 := if_pos h
/-- .. as a whole matrix. -/
def gdc (g : GD) (i j : Nat) : Rat := if i < g.n ∧ j < g.n then gdis g i j else 0
end Go.Proofs.YtpclkgjhfhhddaaGreat.AM
/- Package fast: entries, displaced. -/
namespace Go.Proofs.YtpclkgjhfhhddaaGreat.AM
open Go Go.RowKit Go.Proofs.YtpclkgjhfhhddaaGreat.PN Go.Proofs.YtpclkgjhfhhddaaGreat.V
open Go.Proofs.YtpclkgjhfhhddaaGreat.LA (S S_succ S_zero S_congr)
set_option linter.unusedVariables false
set_option linter.unusedSimpArgs false
set_option maxRecDepth 8000
set_option maxHeartbeats 8000000
/-- A system, and its matrix. -/
def GD.bd (g : GD) (i : Nat) : AV := [AV.i g.k, .i g.n, .i g.r, .row false g.la (fun i => .q (g.A i)), .row false g.lb (fun i => .q (g.B i)), .row false g.lg (fun i => .q (g.G i)), .row false g.lh (fun i => .q (g.H i)), .mat false g.n (fun _ => g.n) (fun i j => .q (gent g i j))].getD i (.v undef)
def GD.bv (g : GD) : AV := .ag 8 g.bd
theorem GD.bdok (g : GD) (U : Nat → Bool) : ∀ i, (g.bd i).ok U
  | 0 | 1 | 2 | 3 | 4 | 5 | 6 | 7 => trivial
  | _ + 8 => trivial
theorem g8 {f f' : Nat → AV} (h0 : f 0 = f' 0) (h1 : f 1 = f' 1) (h2 : f 2 = f' 2) (h3 : f 3 = f' 3) (h4 : f 4 = f' 4) (h5 : f 5 = f' 5) (h6 : f 6 = f' 6) (h7 : f 7 = f' 7) : ∀ i, i < 8 → f i = f' i := fun i hi => by
  match i, hi with
  | 0, _ => exact h0
  | 1, _ => exact h1
  | 2, _ => exact h2
  | 3, _ => exact h3
  | 4, _ => exact h4
  | 5, _ => exact h5
  | 6, _ => exact h6
  | 7, _ => exact h7
theorem gat_wt {g : GD} (h : g.OK) (a b : Int) : wt (gat g a b) ≤ 300 := by
  unfold gat
  split
  · have : wt 0 ≤ 1 := by decide
    omega
  · exact gent_wt h (by omega) (by omega)
theorem fs_zero : Has Tryz.prog 99 [] (.q 0) := by
  refine Has.imp (r := .ra (.raw false [] [1])) ?_ rfl (fun S B β w v => rv_zero)
  refine has_of Tryz.func99 (by kernel_rfl) rfl Tryz.ntmps99 Tryz.results99 rfl rfl rfl ?_
  refine run0 ?_
  refine ⟨.inr rfl, _, Imp.refl _, ?_⟩
  exact .one (.rat rfl rfl (by decide) rfl (by decide) rfl)
theorem fs_at {g : GD} (h : g.OK) {a b : Int} (ha : -1 ≤ a) (hb : -1 ≤ b) : Has Tryz.prog 84 [g.bv, .i a, .i b] (.q (gat g a b)) := by
  refine has_of Tryz.func84 (by kernel_rfl) rfl Tryz.ntmps84 Tryz.results84 rfl rfl rfl ?_
  by_cases a0 : a < 0
  · have e0 : decide (a < 0) = true := decide_eq_true a0
    have e1 : (decide (a < 0) == false) = false := by rw [e0]; rfl
    refine run0 ?_
    refine awp_yes rfl rfl ?_
    rw [gat_out (.inl a0)]
    repeat(first|refine run1 ?_|((with_reducible apply st_call);exact rfl;exact rfl;exact rfl;first|(exact fs_zero))|((with_reducible apply st_callg);exact rfl;exact rfl;(first|exact rfl|assumption);exact rfl;exact rfl;exact rfl;first|(exact fs_zero)))
    exact ⟨.inr rfl, _, Imp.refl _, .one (.rat rfl rfl (by decide) rfl (by decide) rfl)⟩
  have e0 : decide (a < 0) = false := decide_eq_false a0
  have e1 : (decide (a < 0) == false) = true := by rw [e0]; rfl
  by_cases b0 : b < 0
  · have f0 : decide (b < 0) = true := decide_eq_true b0
    have f1 : (decide (b < 0) == false) = false := by rw [f0]; rfl
    refine run0 ?_
    refine awp_yes rfl rfl ?_
    rw [gat_out (.inr (.inl b0))]
    repeat(first|refine run1 ?_|((with_reducible apply st_call);exact rfl;exact rfl;exact rfl;first|(exact fs_zero))|((with_reducible apply st_callg);exact rfl;exact rfl;(first|exact rfl|assumption);exact rfl;exact rfl;exact rfl;first|(exact fs_zero)))
    exact ⟨.inr rfl, _, Imp.refl _, .one (.rat rfl rfl (by decide) rfl (by decide) rfl)⟩
  have f0 : decide (b < 0) = false := decide_eq_false b0
  have f1 : (decide (b < 0) == false) = true := by rw [f0]; rfl
  by_cases a1 : (g.n : Int) ≤ a
  · have g0 : decide ((g.n : Int) ≤ a) = true := decide_eq_true a1
    have g1 : (decide ((g.n : Int) ≤ a) == false) = false := by rw [g0]; rfl
    refine run0 ?_
    refine awp_yes rfl rfl ?_
    rw [gat_out (.inr (.inr (.inl a1)))]
    repeat(first|refine run1 ?_|((with_reducible apply st_call);exact rfl;exact rfl;exact rfl;first|(exact fs_zero))|((with_reducible apply st_callg);exact rfl;exact rfl;(first|exact rfl|assumption);exact rfl;exact rfl;exact rfl;first|(exact fs_zero)))
    exact ⟨.inr rfl, _, Imp.refl _, .one (.rat rfl rfl (by decide) rfl (by decide) rfl)⟩
  have g0 : decide ((g.n : Int) ≤ a) = false := decide_eq_false a1
  have g1 : (decide ((g.n : Int) ≤ a) == false) = true := by rw [g0]; rfl
  by_cases b1 : (g.n : Int) ≤ b
  · have h0 : decide ((g.n : Int) ≤ b) = true := decide_eq_true b1
    refine run0 ?_
    refine awp_yes rfl h0 ?_
    rw [gat_out (.inr (.inr (.inr b1)))]
    repeat(first|refine run1 ?_|((with_reducible apply st_call);exact rfl;exact rfl;exact rfl;first|(exact fs_zero))|((with_reducible apply st_callg);exact rfl;exact rfl;(first|exact rfl|assumption);exact rfl;exact rfl;exact rfl;first|(exact fs_zero)))
    exact ⟨.inr rfl, _, Imp.refl _, .one (.rat rfl rfl (by decide) rfl (by decide) rfl)⟩
  have h0 : decide ((g.n : Int) ≤ b) = false := decide_eq_false b1
  refine run0 ?_
  refine awp_no rfl h0 ?_
  rw [show gat g a b = gent g a.toNat b.toNat by unfold gat; rw [if_neg (by omega)]]
  refine run0 ?_
  exact ⟨.inr rfl, _, Imp.refl _, .one (.rat rfl rfl (by decide) rfl (by decide) rfl)⟩
theorem fs_slant {g : GD} (h : g.OK) {i j : Nat} (hi : i < g.n) (hj : j < g.n) : Has Tryz.prog 51 [g.bv, .i i, .i j] (.q (gat g i j - gat g ((i : Int) - 1) ((j : Int) - 1))) := by
  have n8 := h.n8
  have w1 := gat_wt h i j; have w2 := gat_wt h ((i : Int) - 1) ((j : Int) - 1)
  refine has_of Tryz.func51 (by kernel_rfl) rfl Tryz.ntmps51 Tryz.results51 rfl rfl rfl ?_
  repeat(first|refine run1 ?_|((with_reducible apply st_call);exact rfl;exact rfl;exact rfl;first|(exact Has.ag (g8 rfl rfl rfl rfl rfl rfl rfl rfl) (fs_at h (by omega) (by omega)))|(exact h_sub (by omega) (by omega)))|((with_reducible apply st_callg);exact rfl;exact rfl;(first|exact rfl|assumption);exact rfl;exact rfl;exact rfl;first|(exact Has.ag (g8 rfl rfl rfl rfl rfl rfl rfl rfl) (fs_at h (by omega) (by omega)))|(exact h_sub (by omega) (by omega))))
  exact ⟨.inr rfl, _, Imp.refl _, .one (.rat rfl rfl (by decide) rfl (by decide) rfl)⟩
theorem fs_across {g : GD} (h : g.OK) {i j : Nat} (hi : i < g.n) (hj : j < g.n) : Has Tryz.prog 52 [g.bv, .i i, .i j] (.q (gat g ((i : Int) - 1) j - gat g i ((j : Int) - 1))) := by
  have n8 := h.n8
  have w1 := gat_wt h ((i : Int) - 1) j; have w2 := gat_wt h i ((j : Int) - 1)
  refine has_of Tryz.func52 (by kernel_rfl) rfl Tryz.ntmps52 Tryz.results52 rfl rfl rfl ?_
  repeat(first|refine run1 ?_|((with_reducible apply st_call);exact rfl;exact rfl;exact rfl;first|(exact Has.ag (g8 rfl rfl rfl rfl rfl rfl rfl rfl) (fs_at h (by omega) (by omega)))|(exact h_sub (by omega) (by omega)))|((with_reducible apply st_callg);exact rfl;exact rfl;(first|exact rfl|assumption);exact rfl;exact rfl;exact rfl;first|(exact Has.ag (g8 rfl rfl rfl rfl rfl rfl rfl rfl) (fs_at h (by omega) (by omega)))|(exact h_sub (by omega) (by omega))))
  exact ⟨.inr rfl, _, Imp.refl _, .one (.rat rfl rfl (by decide) rfl (by decide) rfl)⟩
theorem fs_nodes {g : GD} (h : g.OK) (hk : g.k = 4) {i j : Nat} (hi : i < g.n) (hj : j < g.n) : Has Tryz.prog 53 [g.bv, .i i, .i j] (.q (g.A i * gat g i j - gat g i ((j : Int) + 1))) := by
  have n8 := h.n8
  obtain ⟨m1, m2, m3, m4⟩ := ok_lens h
  have hl : i < g.la := by omega
  have w1 := gat_wt h i j; have w2 := gat_wt h i ((j : Int) + 1); have w3 := h.sm.A i hl
  have w4 := wt_mul (g.A i) (gat g i j)
  refine has_of Tryz.func53 (by kernel_rfl) rfl Tryz.ntmps53 Tryz.results53 rfl rfl rfl ?_
  repeat(first|refine run1 ?_|((with_reducible apply st_call);exact rfl;exact rfl;exact rfl;first|(exact Has.ag (g8 rfl rfl rfl rfl rfl rfl rfl rfl) (fs_at h (by omega) (by omega)))|(exact h_sub (p := g.A i * gat g i j) (by omega) (by omega))|(exact h_mul (p := g.A i) (by omega) (by omega)))|((with_reducible apply st_callg);exact rfl;exact rfl;(first|exact rfl|assumption);exact rfl;exact rfl;exact rfl;first|(exact Has.ag (g8 rfl rfl rfl rfl rfl rfl rfl rfl) (fs_at h (by omega) (by omega)))|(exact h_sub (p := g.A i * gat g i j) (by omega) (by omega))|(exact h_mul (p := g.A i) (by omega) (by omega))))
  exact ⟨.inr rfl, _, Imp.refl _, .one (.rat rfl rfl (by decide) rfl (by decide) rfl)⟩
theorem fs_apart {g : GD} (h : g.OK) (hk : g.k = 5 ∨ g.k = 7) {i j : Nat} (hi : i < g.n) (hj : j < g.n) : Has Tryz.prog 54 [g.bv, .i i, .i j] (.q ((g.A i - g.B j) * gat g i j)) := by
  have n8 := h.n8
  obtain ⟨m1, m2, m3, m4⟩ := ok_lens h
  have hl : i < g.la := by omega
  have hl2 : j < g.lb := by omega
  have w1 := gat_wt h i j; have w2 := h.sm.A i hl; have w3 := h.sm.B j hl2
  have w4 := wt_sub (g.A i) (g.B j)
  refine has_of Tryz.func54 (by kernel_rfl) rfl Tryz.ntmps54 Tryz.results54 rfl rfl rfl ?_
  repeat(first|refine run1 ?_|((with_reducible apply st_call);exact rfl;exact rfl;exact rfl;first|(exact Has.ag (g8 rfl rfl rfl rfl rfl rfl rfl rfl) (fs_at h (by omega) (by omega)))|(exact h_sub (p := g.A i) (q := g.B j) (by omega) (by omega))|(exact h_mul (p := g.A i - g.B j) (by omega) (by omega)))|((with_reducible apply st_callg);exact rfl;exact rfl;(first|exact rfl|assumption);exact rfl;exact rfl;exact rfl;first|(exact Has.ag (g8 rfl rfl rfl rfl rfl rfl rfl rfl) (fs_at h (by omega) (by omega)))|(exact h_sub (p := g.A i) (q := g.B j) (by omega) (by omega))|(exact h_mul (p := g.A i - g.B j) (by omega) (by omega))))
  exact ⟨.inr rfl, _, Imp.refl _, .one (.rat rfl rfl (by decide) rfl (by decide) rfl)⟩
/-- How a kind is displaced. -/
def wayF (i : Nat) : FuncId := match i with
  | 1 => 52
  | 3 => 53
  | 4 => 54
  | 6 => 54
  | _ => 51
def wayT : List (Int × FuncId) := [(1, 51), (3, 51), (6, 51), (2, 52), (4, 53), (5, 54), (7, 54)]
theorem fs_way {g : GD} (h : g.OK) {i j : Nat} (hi : i < g.n) (hj : j < g.n) : Has Tryz.prog (wayF (g.k - 1)) [g.bv, .i i, .i j] (.q (gdis g i j)) := by
  have h1 := h.k1; have h7 := h.k7
  have hk : g.k = 1 ∨ g.k = 2 ∨ g.k = 3 ∨ g.k = 4 ∨ g.k = 5 ∨ g.k = 6 ∨ g.k = 7 := by omega
  have eS : g.k = 1 ∨ g.k = 3 ∨ g.k = 6 → Has Tryz.prog (wayF (g.k - 1)) [g.bv, .i i, .i j] (.q (gdis g i j)) := fun hk => by
    have e : gdis g i j = gat g i j - gat g ((i : Int) - 1) ((j : Int) - 1) := by
      unfold gdis
      rcases hk with hk | hk | hk <;> (rw [hk]; rfl)
    have e2 : wayF (g.k - 1) = 51 := by rcases hk with hk | hk | hk <;> (rw [hk]; rfl)
    rw [e, e2]
    exact fs_slant h hi hj
  have eA : g.k = 5 ∨ g.k = 7 → Has Tryz.prog (wayF (g.k - 1)) [g.bv, .i i, .i j] (.q (gdis g i j)) := fun hk => by
    have e : gdis g i j = (g.A i - g.B j) * gat g i j := by
      unfold gdis
      rcases hk with hk | hk <;> (rw [hk]; rfl)
    have e2 : wayF (g.k - 1) = 54 := by rcases hk with hk | hk <;> (rw [hk]; rfl)
    rw [e, e2]
    exact fs_apart h hk hi hj
  rcases hk with hk | hk | hk | hk | hk | hk | hk
  · exact eS (.inl hk)
  · have e : gdis g i j = gat g ((i : Int) - 1) j - gat g i ((j : Int) - 1) := by unfold gdis; rw [hk]; rfl
    have e2 : wayF (g.k - 1) = 52 := by rw [hk]; rfl
    rw [e, e2]
    exact fs_across h hi hj
  · exact eS (.inr (.inl hk))
  · have e : gdis g i j = g.A i * gat g i j - gat g i ((j : Int) + 1) := by unfold gdis; rw [hk]; rfl
    have e2 : wayF (g.k - 1) = 53 := by rw [hk]; rfl
    rw [e, e2]
    exact fs_nodes h hk hi hj
  · exact eA (.inl hk)
  · exact eS (.inr (.inr hk))
  · exact eA (.inr hk)
theorem way_ty : ∃ E, Tryz.prog.underlying 58 = some (.map INT E) := ⟨57, by kernel_rfl⟩
theorem fs_ways (g : GD) : Has Tryz.prog 30 [g.bv] (.mf [1, 2, 3, 4, 5, 6, 7] fun i => .bnd (wayF i) (.ag 8 g.bd)) := by
  obtain ⟨E, hE⟩ := way_ty
  refine has_of Tryz.func30 (by kernel_rfl) rfl Tryz.ntmps30 Tryz.results30 rfl rfl rfl ?_
  refine run2 ?_
  refine (awp_mf (N := 19) (n := 7) (g := 1) (m := 8) (f := g.bd) (tab := wayT) (T := 60) (M := 58) ?_ hE rfl ?_ rfl rfl rfl rfl rfl [1, 2, 3, 4, 5, 6, 7] wayF ?_ ?_ ?_)
  · refine ⟨rfl, ⟨_, rfl, rfl, rfl, rfl⟩, fun j hj => ?_, fun j hj => ?_, fun j hj => ?_, ?_, ?_⟩
    · match j, hj with
      | 0, _ | 1, _ | 2, _ | 3, _ | 4, _ | 5, _ | 6, _ => exact ⟨_, rfl, rfl, rfl, rfl⟩
    · match j, hj with
      | 0, _ | 1, _ | 2, _ | 3, _ | 4, _ | 5, _ | 6, _ => exact ⟨_, rfl, rfl, rfl, rfl⟩
    · match j, hj with
      | 0, _ | 1, _ | 2, _ | 3, _ | 4, _ | 5, _ | 6, _ => exact ⟨_, rfl, rfl, rfl, rfl⟩
    · exact ⟨_, rfl, rfl, rfl, rfl⟩
    · exact ⟨_, rfl, rfl, rfl, rfl⟩
  · intro i j hi hj e
    have key : ∀ i, i < 7 → ∀ j, j < 7 → (wayT.getD i (0, 0)).1 = (wayT.getD j (0, 0)).1 → i = j := by decide
    exact key i hi j hj e
  · intro i hi
    match i, hi with
    | 0, _ => exact ⟨0, by decide, rfl, rfl⟩
    | 1, _ => exact ⟨2, by decide, rfl, rfl⟩
    | 2, _ => exact ⟨5, by decide, rfl, rfl⟩
    | 3, _ => exact ⟨1, by decide, rfl, rfl⟩
    | 4, _ => exact ⟨3, by decide, rfl, rfl⟩
    | 5, _ => exact ⟨4, by decide, rfl, rfl⟩
    | 6, _ => exact ⟨6, by decide, rfl, rfl⟩
  · intro j hj
    match j, hj with
    | 0, _ => exact ⟨0, by decide, rfl⟩
    | 1, _ => exact ⟨3, by decide, rfl⟩
    | 2, _ => exact ⟨1, by decide, rfl⟩
    | 3, _ => exact ⟨4, by decide, rfl⟩
    | 4, _ => exact ⟨5, by decide, rfl⟩
    | 5, _ => exact ⟨2, by decide, rfl⟩
    | 6, _ => exact ⟨6, by decide, rfl⟩
  · refine awp_ret ⟨.inr rfl, _, Imp.refl _, ?_⟩
    exact .one (.tmp rfl)
end Go.Proofs.YtpclkgjhfhhddaaGreat.AM
/- A slice beside nil. -/
namespace Go.Proofs.YtpclkgjhfhhddaaGreat.AM
open Go Go.RowKit Go.Proofs.YtpclkgjhfhhddaaGreat.PN Go.Proofs.YtpclkgjhfhhddaaGreat.V
set_option linter.unusedVariables false
set_option linter.unusedSimpArgs false
theorem rv_mat {S : Nat → Prop} {B : Nat} {β : Nat → Nat → Value} {w : World} {fr : Bool} {n m : Nat} {F G : Nat → Nat → RA} (h : ∀ i, i < n → ∀ j, j < m → F i j = G i j) (v : Value) (hv : RV S B β w (.mat fr n (fun _ => m) F) v) : RV S B β w (.mat fr n (fun _ => m) G) v := by
  obtain ⟨A, c, e1, e2, e3, e4⟩ := hv
  refine ⟨A, c, e1, e2, e3, fun i hi => ?_⟩
  obtain ⟨b, off, cs, x, a1, a2, a3, a4, a5, a6⟩ := e4 i hi
  exact ⟨b, off, cs, x, a1, a2, a3, a4, a5, row_congr (fun j hj => h i hi j hj) a6⟩
/-- Whether a slice is none. -/
def nilOf : AV → Option (Bool × Prop)
  | .mat _ n _ _ => some (false, 0 < n)
  | .row _ n _ => some (false, 0 < n)
  | .seq _ l => some (false, 0 < l.length)
  | .v (.slice none 0 0) => some (true, True)
  | _ => none
theorem nilOf_ok {S : Nat → Prop} {B : Nat} {β : Nat → Nat → Value} {w : World} {x : AV} {v : Value} {b : Bool} {c : Prop} (h : RV S B β w x v) (hn : nilOf x = some (b, c)) (hc : c) : ∃ A n k, v = .slice A n k ∧ A.isNone = b := by
  unfold nilOf at hn
  split at hn
  · cases hn
    obtain ⟨A, k, e, _, _, hx⟩ := h
    obtain ⟨b, off, cs, x, hA, _⟩ := hx 0 hc
    exact ⟨A, _, k, e, by rw [hA]; rfl⟩
  · cases hn
    obtain ⟨A, k, e, _, _, hx⟩ := h
    obtain ⟨b, off, hA, _⟩ := hx 0 hc
    exact ⟨A, _, k, e, by rw [hA]; rfl⟩
  · cases hn
    obtain ⟨A, k, e, _, _, hx⟩ := h
    obtain ⟨p, hA, _⟩ := hx 0 hc
    exact ⟨A, _, k, e, by rw [hA]; rfl⟩
  · cases hn; exact ⟨none, 0, 0, h, rfl⟩
  · cases hn
theorem run_eq_slice {T E : TypeId} (h : Tryz.prog.underlying T = some (.slice E)) (A : Option Addr) (n k : Nat) (w : World) : (Op.equal T (.slice A n k) (.slice none 0 0)).run Tryz.prog w = .ok A.isNone w := by
  have key : ∀ d, (Op.equalIn (d + 1) T (.slice A n k) (.slice none 0 0)).run Tryz.prog w = .ok A.isNone w := by
    intro d
    cases A <;> simp [Op.equalIn, run_underlying h]
  exact key 9999
theorem ok_eqnil {o : Oper} {s : St} {x : Operand} {T T' : TypeId} {y : AV} {b : Bool} {c : Prop} (ho : o.op = .binOp .eql T x (.const (.slice none 0 0)) T') (hT : memN T sliceT = true) (hx : avo s x = some y) (hn : nilOf y = some (b, c)) (hc : c) : LOK Tryz.prog o s ⟨some (.v (.bool b)), [], []⟩ := by
  refine lok_val fun s2 hl W N β w ac hs => ⟨.bool b, ?_, fun z hz => by cases hz; exact ⟨trivial, rfl⟩⟩
  obtain ⟨A, n, k, e, hb⟩ := nilOf_ok (hs.opd (x := x) (by rw [hl.avo (by rw [ho]; simp [Op.operands])]; exact hx)).2 hn hc
  obtain ⟨E, hE⟩ := slice_ok hT
  have h2 : ac.eval (.const (.slice none 0 0)) = .slice none 0 0 := rfl
  unfold execOp; rw [ho]; simp only []; rw [e, h2]
  have hg : (eqGuard .eql T x (.const (.slice none 0 0)) (.slice A n k) (.slice none 0 0)).run Tryz.prog w = .ok () w := by simp [eqGuard]
  have hb2 : (binOp .eql T (.slice A n k) (.slice none 0 0)).run Tryz.prog w = .ok (.bool b) w := by
    simp only [binOp, Sem.run_bind, run_eq_slice hE]
    rw [← hb]; rfl
  simp only [Sem.run_bind, hg, Result.andThen_ok, hb2]; rfl
section
variable {ops : Array Oper} {l : List Oper} {s : St} {acc : List Fp} {K : St → List Fp → Prop} {d : Option Tmp} {ty : TypeId} {ps : String} {aft : Array Edge}
theorem st_eqnil {x : Operand} {T T' : TypeId} {y : AV} {b : Bool} {c : Prop} (hx : avo s x = some y) (hn : nilOf y = some (b, c)) (hT : memN T sliceT = true) (hc : c) (k : AOps Tryz.prog ops l (nxt s d (some (.v (.bool b))) []) (([], []) :: acc) K) : AOps Tryz.prog ops (⟨d, .binOp .eql T x (.const (.slice none 0 0)) T', ty, ps, aft, none⟩ :: l) s acc K :=
  st_lok (ok_eqnil rfl hT hx hn hc) k
end
end Go.Proofs.YtpclkgjhfhhddaaGreat.AM
/- Dense matrices: walks: zero, one, dot. -/
namespace Go.Proofs.YtpclkgjhfhhddaaGreat.AM
open Go Go.RowKit Go.Proofs.YtpclkgjhfhhddaaGreat.PN Go.Proofs.YtpclkgjhfhhddaaGreat.V
open Go.Proofs.YtpclkgjhfhhddaaGreat.LA (S S_succ S_zero S_congr)
set_option linter.unusedVariables false
set_option linter.unusedSimpArgs false
theorem d_zero : Has Tryz.prog 77 [] (.q 0) := by
  refine Has.imp (r := .ra (.raw false [] [1])) ?_ rfl (fun S B β w v => rv_zero)
  refine has_of Tryz.func77 (by kernel_rfl) rfl Tryz.ntmps77 Tryz.results77 rfl rfl rfl ?_
  refine run0 ?_
  refine ⟨.inr rfl, _, Imp.refl _, ?_⟩
  exact .one (.rat rfl rfl (by decide) rfl (by decide) rfl)
theorem d_dot {n K : Nat} {f g : Nat → Rat} [hf : ∀ i, Wt (f i) K] [hg : ∀ i, Wt (g i) K] (hn : n ≤ 8) (hK : K ≤ 1000000000) : Has Tryz.prog 46 [.row false n (fun i => .q (f i)), .row false n (fun i => .q (g i))] (.q (S n fun i => f i * g i)) := by
  refine has_of Tryz.func46 (by kernel_rfl) rfl Tryz.ntmps46 Tryz.results46 rfl rfl rfl ?_
  repeat(first|refine run1 ?_|((with_reducible apply st_call);exact rfl;exact rfl;exact rfl;first|(exact d_zero))|((with_reducible apply st_callg);exact rfl;exact rfl;(first|exact rfl|assumption);exact rfl;exact rfl;exact rfl;first|(exact d_zero)))
  refine awp_loop (fun m s => ∃ k, k ≤ n ∧ m = n - k ∧ s = stl [(0, .row false n (fun i => .q (f i))), (1, .row false n (fun i => .q (g i))), (4, .rptr 4 0 0), (5, .rptr 5 0 0), (12, .i (min (n : Int) n)), (13, .i (k : Int))] [(4, (1, fun _ => .rats 1 (fun _ => ra0))), (5, (1, fun _ => .rats 1 (fun _ => .q (S k fun i => f i * g i))))]) n _ (imp_id ?_ ?_) ⟨0, Nat.zero_le _, rfl, rfl⟩ ?_
  · repeat (first | exact True.intro | refine alle rfl (Le.id rfl) (by first | exact True.intro | rfl) ?_)
  · repeat (first | exact True.intro | refine allh rfl (by decide) (ble1 rfl) True.intro ?_)
  · rintro m s ⟨k, hk, rfl, rfl⟩
    have w1 : Wt (S k fun i => f i * g i) (8 * (K + K + 1) + 1) := Wt.sum (by omega) fun i _ => inferInstance
    refine run0 ?_
    refine awp_if rfl (fun h => ?_) (fun h => ?_)
    · have h : k < n := by omega
      repeat(first|refine run1 ?_|((with_reducible apply st_call);exact rfl;exact rfl;exact rfl;first|(exact c_mul ⟨by omega, by omega⟩)|(exact c_add ⟨by omega, by omega⟩))|((with_reducible apply st_callg);exact rfl;exact rfl;(first|exact rfl|assumption);exact rfl;exact rfl;exact rfl;first|(exact c_mul ⟨by omega, by omega⟩)|(exact c_add ⟨by omega, by omega⟩)))
      refine q_loop (m' := n - (k + 1)) (by omega) (imp_id (e := [(0, .row false n (fun i => .q (f i))), (1, .row false n (fun i => .q (g i))), (4, .rptr 4 0 0), (5, .rptr 5 0 0), (12, .i (min (n : Int) n)), (13, .i ((k + 1 : Nat) : Int))]) (h := [(4, (1, fun _ => .rats 1 (fun _ => ra0))), (5, (1, fun _ => .rats 1 (fun _ => .q (S (k + 1) fun i => f i * g i))))]) ?_ ?_) ⟨k + 1, by omega, rfl, rfl⟩
      · repeat (first | exact True.intro | refine alle rfl (Le.id rfl) (by first | exact True.intro | rfl) ?_)
      · repeat (first | exact True.intro | refine allh rfl (by decide) (ble1 rfl) True.intro ?_)
    · obtain rfl : k = n := by omega
      refine run0 ?_
      refine ⟨.inr rfl, _, Imp.refl _, ?_⟩
      exact .one (.rat rfl rfl (by decide) rfl (by decide) rfl)
end Go.Proofs.YtpclkgjhfhhddaaGreat.AM
/- Dense matrices: walks: right rows, square matrices, products with vectors. -/
namespace Go.Proofs.YtpclkgjhfhhddaaGreat.AM
open Go Go.RowKit Go.Proofs.YtpclkgjhfhhddaaGreat.PN Go.Proofs.YtpclkgjhfhhddaaGreat.V
open Go.Proofs.YtpclkgjhfhhddaaGreat.LA (S S_succ S_zero S_congr)
set_option linter.unusedVariables false
set_option linter.unusedSimpArgs false
theorem shape_u : Tryz.prog.underlying 96 = some (.array 2 3) := by kernel_rfl
theorem int_u : Tryz.prog.underlying 3 = some (.int .i64) := by kernel_rfl
theorem int_info : (Tryz.prog.info? 3).map (fun i => (i.zero, i.size, i.bytes)) = some (some (.int .i64 0), 1, 8) := by kernel_rfl
theorem run_eq_shape (w : World) (a b c d : Int) : (Op.equal 96 (.agg #[.int .i64 a, .int .i64 b]) (.agg #[.int .i64 c, .int .i64 d])).run Tryz.prog w = .ok (decide (a = c) && decide (b = d)) w := by
  obtain ⟨i0, hi, hz0, hz1, hz2⟩ := info_parts int_info
  have hint : ∀ (n : Nat) (x y : Int), (Op.equalIn (n + 1) 3 (.int .i64 x) (.int .i64 y)).run Tryz.prog w = .ok (decide (x = y)) w := by
    intro n x y
    simp [Op.equalIn, run_underlying int_u, beq_dec]
  have hp : ∀ (xs : Array Value) (o : Nat) (v : Value), xs[o]? = some v → (part 3 xs o).run Tryz.prog w = .ok v w := by
    intro xs o v h
    simp [part, isAgg, run_underlying int_u, h]
  have hp0 : ∀ x y : Int, (part 3 #[.int .i64 x, .int .i64 y] 0).run Tryz.prog w = .ok (.int .i64 x) w := fun x y => hp _ 0 _ rfl
  have hp1 : ∀ x y : Int, (part 3 #[.int .i64 x, .int .i64 y] 1).run Tryz.prog w = .ok (.int .i64 y) w := fun x y => hp _ 1 _ rfl
  unfold Op.equal
  rw [show Op.maxDepth = 9998 + 1 + 1 from rfl]
  unfold Op.equalIn
  rw [Sem.run_bind, run_underlying shape_u w]
  by_cases h1 : a = c <;> by_cases h2 : b = d <;>
  simp [sizeOf, typeInfo, hi, hz1, hint, hp0, hp1, h1, h2, Std.Legacy.Range.forIn_eq_forIn_range', List.range'_succ]
theorem pair_vals {S : Nat → Prop} {B : Nat} {β : Nat → Nat → Value} {w : World} {f : Nat → AV} {v : Value} {a b : Int} (h : RV S B β w (.ag 2 f) v) (h0 : f 0 = .i a) (h1 : f 1 = .i b) : v = .agg #[.int .i64 a, .int .i64 b] := by
  obtain ⟨cs, rfl, h2, h3⟩ := h
  obtain ⟨y0, e0, _, r0⟩ := h3 0 (by decide)
  obtain ⟨y1, e1, _, r1⟩ := h3 1 (by decide)
  rw [h0] at r0; rw [h1] at r1
  have r0 : y0 = .int .i64 a := r0
  have r1 : y1 = .int .i64 b := r1
  subst r0; subst r1
  obtain ⟨cs⟩ := cs
  match cs, h2 with
  | [x, y], _ => cases e0; cases e1; rfl
theorem ok_neq_shape {o : Oper} {s : St} {x y : Operand} {T' : TypeId} {f g : Nat → AV} {a b c d : Int} (ho : o.op = .binOp .neq 96 x y T') (hx : avo s x = some (.ag 2 f)) (hy : avo s y = some (.ag 2 g)) (h0 : f 0 = .i a) (h1 : f 1 = .i b) (h2 : g 0 = .i c) (h3 : g 1 = .i d) :
    LOK Tryz.prog o s ⟨some (.b (!(decide (a = c) && decide (b = d)))), [], []⟩ := by
  refine lok_val fun s2 hl W N β w ac hs => ⟨.bool (!(decide (a = c) && decide (b = d))), ?_, fun z hz => by cases hz; exact ⟨trivial, rfl⟩⟩
  have e1 := pair_vals (hs.opd (x := x) (by rw [hl.avo (by rw [ho]; simp [Op.operands])]; exact hx)).2 h0 h1
  have e2 := pair_vals (hs.opd (x := y) (by rw [hl.avo (by rw [ho]; simp [Op.operands])]; exact hy)).2 h2 h3
  have hg : (Tryz.prog.eqGuardType Tryz.prog.depth 96) = false := by kernel_rfl
  unfold execOp; rw [ho]; simp only []; rw [e1, e2]
  simp [eqGuard, binOp, program, Sem.run, hg, run_eq_shape]
theorem d_right {n K : Nat} {f : Nat → Rat} [hf : ∀ i, Wt (f i) K] (hK : K ≤ 1000000000000) (hn : n ≤ 1000000) : Has Tryz.prog 45 [.row false n (fun i => .q (f i))] (.b true) := by
  refine has_of Tryz.func45 (by kernel_rfl) rfl Tryz.ntmps45 Tryz.results45 rfl rfl rfl ?_
  refine run0 ?_
  refine awp_loop (fun m s => ∃ k, k ≤ n ∧ m = n - k ∧ s = stl [(0, .row false n (fun i => .q (f i))), (5, .row false n (fun i => .q (f i))), (6, .i (n : Int)), (7, .i (k : Int))] []) n _ (imp_id ?_ ?_) ⟨0, Nat.zero_le _, rfl, rfl⟩ ?_
  · exact eA
  · exact hA
  · rintro m s ⟨k, hk, rfl, rfl⟩
    refine run0 ?_
    refine awp_if rfl (fun h => ?_) (fun h => ?_)
    · have h : k < n := by omega
      repeat(first|refine run1 ?_|((with_reducible apply st_call);exact rfl;exact rfl;exact rfl;first|(exact c_right hK))|((with_reducible apply st_callg);exact rfl;exact rfl;(first|exact rfl|assumption);exact rfl;exact rfl;exact rfl;first|(exact c_right hK)))
      refine awp_no rfl rfl ?_
      refine run0 ?_
      refine q_loop ?_ (imp_id ?_ ?_) ⟨k + 1, ?_, rfl, rfl⟩
      · omega
      · exact eA
      · exact hA
      · omega
    · refine run0 ?_
      refine ⟨.inr rfl, _, Imp.refl _, ?_⟩
      exact .one (.tmp rfl)
end Go.Proofs.YtpclkgjhfhhddaaGreat.AM
/- Dense matrices: walks: square matrices, products with vectors. -/
namespace Go.Proofs.YtpclkgjhfhhddaaGreat.AM
open Go Go.RowKit Go.Proofs.YtpclkgjhfhhddaaGreat.PN Go.Proofs.YtpclkgjhfhhddaaGreat.V
open Go.Proofs.YtpclkgjhfhhddaaGreat.LA (S S_succ S_zero S_congr)
set_option linter.unusedVariables false
set_option linter.unusedSimpArgs false
theorem d_square {n K : Nat} {F : Nat → Nat → Rat} [hf : ∀ i j, Wt (F i j) K] (hK : K ≤ 1000000000000) (h0 : 0 < n) (hn : n ≤ 1000000) : Has Tryz.prog 44 [.mat false n (fun _ => n) (fun i j => .q (F i j))] (.b true) := by
  refine has_of Tryz.func44 (by kernel_rfl) rfl Tryz.ntmps44 Tryz.results44 rfl rfl rfl ?_
  refine run0 ?_
  refine awp_loop (fun m s => ∃ k, k ≤ n ∧ m = n - k ∧ s = stl [(0, .mat false n (fun _ => n) (fun i j => .q (F i j))), (3, .i (n : Int)), (8, .mat false n (fun _ => n) (fun i j => .q (F i j))), (9, .i (n : Int)), (10, .i (k : Int))] []) n _ (imp_id ?_ ?_) ⟨0, Nat.zero_le _, rfl, rfl⟩ ?_
  · exact eA
  · exact hA
  · rintro m s ⟨k, hk, rfl, rfl⟩
    refine run0 ?_
    refine awp_if rfl (fun h => ?_) (fun h => ?_)
    · have h : k < n := by omega
      refine run0 ?_
      with_reducible apply st_lok
      · exact ok_neq_shape (a := n) (b := n) (c := n) (d := n) rfl rfl rfl rfl rfl rfl rfl
      have e1 : (!(decide ((n : Int) = n) && decide ((n : Int) = n))) = false := by simp
      rw [e1]
      repeat(first|refine run1 ?_|((with_reducible apply st_call);exact rfl;exact rfl;exact rfl;first|(exact d_right hK hn))|((with_reducible apply st_callg);exact rfl;exact rfl;(first|exact rfl|assumption);exact rfl;exact rfl;exact rfl;first|(exact d_right hK hn)))
      refine awp_no rfl rfl ?_
      refine run0 ?_
      refine q_loop ?_ (imp_id ?_ ?_) ⟨k + 1, ?_, rfl, rfl⟩
      · omega
      · exact eA
      · exact hA
      · omega
    · refine run0 ?_
      refine ⟨.inr rfl, _, Imp.refl _, ?_⟩
      have e : (some (AV.b (decide (0 < (n : Int))))) = some (.b true) := by congr 2; simp; omega
      exact .one (.tmp e)
theorem d_apply {n K L : Nat} {F : Nat → Nat → Rat} {v : Nat → Rat} [hf : ∀ i j, Wt (F i j) K] [hv : ∀ i, Wt (v i) L] (hK : K ≤ 1000000000) (hL : L ≤ K) (h0 : 0 < n) (hn : n ≤ 8) : Has Tryz.prog 26 [.mat false n (fun _ => n) (fun i j => .q (F i j)), .row false n (fun i => .q (v i))] (.row true n (fun i => .q (S n fun j => F i j * v j))) := by
  have hv' : ∀ i, Wt (v i) K := fun i => (hv i).mono hL
  refine has_of Tryz.func26 (by kernel_rfl) rfl Tryz.ntmps26 Tryz.results26 rfl rfl rfl ?_
  repeat(first|refine run1 ?_|((with_reducible apply st_call);exact rfl;exact rfl;exact rfl;first|(exact d_square (by omega) h0 (by omega))|(exact d_right (hf := hv) (by omega) (by omega)))|((with_reducible apply st_callg);exact rfl;exact rfl;(first|exact rfl|assumption);exact rfl;exact rfl;exact rfl;first|(exact d_square (by omega) h0 (by omega))|(exact d_right (hf := hv) (by omega) (by omega))))
  rw [show decide ((n : Int) ≠ n) = false by simp]
  repeat(first|refine run1 ?_|((with_reducible apply st_call);exact rfl;exact rfl;exact rfl;first|(exact d_square (by omega) h0 (by omega))|(exact d_right (hf := hv) (by omega) (by omega)))|((with_reducible apply st_callg);exact rfl;exact rfl;(first|exact rfl|assumption);exact rfl;exact rfl;exact rfl;first|(exact d_square (by omega) h0 (by omega))|(exact d_right (hf := hv) (by omega) (by omega))))
  refine awp_no rfl rfl ?_
  refine run0 ?_
  refine awp_loop (fun m s => ∃ k, k ≤ n ∧ m = n - k ∧ s = stl [(0, .mat false n (fun _ => n) (fun i j => .q (F i j))), (1, .row false n (fun i => .q (v i))), (5, .own 25 0), (26, .mat false n (fun _ => n) (fun i j => .q (F i j))), (27, .i (n : Int)), (28, .i (k : Int))] [(25, (1, fun _ => .rats n (grow (fun i => .q (S n fun j => F i j * v j)) ra0 k)))]) n _ (imp_id ?_ ?_) ⟨0, Nat.zero_le _, rfl, rfl⟩ ?_
  · exact eA
  · exact hA
  · rintro m s ⟨k, hk, rfl, rfl⟩
    refine run0 ?_
    refine awp_if rfl (fun h => ?_) (fun h => ?_)
    · have h : k < n := by omega
      repeat(first|refine run1 ?_|((with_reducible apply st_call);exact rfl;exact rfl;exact rfl;first|(exact d_dot hn hK))|((with_reducible apply st_callg);exact rfl;exact rfl;(first|exact rfl|assumption);exact rfl;exact rfl;exact rfl;first|(exact d_dot hn hK)))
      refine q_loop ?_ (imp_id ?_ ?_) ⟨k + 1, ?_, rfl, rfl⟩
      · omega
      · exact eA
      · refine allh rfl (by decide) (blen rfl fun i hi => grow_step _ _ k i) True.intro True.intro
      · omega
    · obtain rfl : k = n := by omega
      refine run0 ?_
      refine ⟨.inr rfl, _, imp_rowv 4 (fun i => .q (S k fun j => F i j * v j)) rfl rfl rfl (fun i hi => grow_full _ _ hi), ?_⟩
      exact .one (.tmp rfl)
end Go.Proofs.YtpclkgjhfhhddaaGreat.AM
/- Package fast: displaced matrices, applied ones. -/
namespace Go.Proofs.YtpclkgjhfhhddaaGreat.AM
open Go Go.RowKit Go.Proofs.YtpclkgjhfhhddaaGreat.PN Go.Proofs.YtpclkgjhfhhddaaGreat.V
open Go.Proofs.YtpclkgjhfhhddaaGreat.LA (S S_succ S_zero S_congr)
set_option linter.unusedVariables false
set_option linter.unusedSimpArgs false
set_option maxRecDepth 8000
set_option maxHeartbeats 8000000
theorem fs_disp {g : GD} (h : g.OK) : Has Tryz.prog 14 [g.v] (.mat true g.n (fun _ => g.n) (fun i j => .q (gdis g i j))) := by
  have n8 := h.n8; have n1 := h.n1; have k1 := h.k1; have k7 := h.k7
  obtain ⟨E, hE⟩ := way_ty
  have hks : ([1, 2, 3, 4, 5, 6, 7] : List Int).getD (g.k - 1) 0 = (g.k : Int) := by
    have hk : g.k = 1 ∨ g.k = 2 ∨ g.k = 3 ∨ g.k = 4 ∨ g.k = 5 ∨ g.k = 6 ∨ g.k = 7 := by omega
    rcases hk with hk | hk | hk | hk | hk | hk | hk <;> rw [hk] <;> rfl
  have hone : ∀ j, j < ([1, 2, 3, 4, 5, 6, 7] : List Int).length → ([1, 2, 3, 4, 5, 6, 7] : List Int).getD j 0 = (g.k : Int) → j = g.k - 1 := fun j hj e => by
    match j, hj with
    | 0, _ | 1, _ | 2, _ | 3, _ | 4, _ | 5, _ | 6, _ => simp at e; omega
  have hrow : ∀ (k : Nat) (U : Nat → Bool) (i : Nat), (grow (fun i => AV.row true g.n (fun j => .q (gdis g i j))) (.v (.slice none 0 0)) k i).ok U := fun k U i =>
    grow_ok (v := fun i => AV.row true g.n (fun j => RA.q (gdis g i j))) (z := .v (.slice none 0 0)) (fun _ => True.intro) True.intro i
  refine has_of Tryz.func14 (by kernel_rfl) rfl Tryz.ntmps14 Tryz.results14 rfl rfl rfl ?_
  repeat(first|refine run1 ?_|((with_reducible apply st_call);exact rfl;exact rfl;exact rfl;first|(exact Has.ag (g7 rfl rfl rfl rfl rfl rfl rfl) (ge_expand h)))|((with_reducible apply st_callg);exact rfl;exact rfl;(first|exact rfl|assumption);exact rfl;exact rfl;exact rfl;first|(exact Has.ag (g7 rfl rfl rfl rfl rfl rfl rfl) (ge_expand h))))
  refine st_eqnil rfl rfl rfl n1 ?_
  refine run0 ?_
  refine awp_no rfl rfl ?_
  repeat(first|refine run1 ?_|((with_reducible apply st_call);exact rfl;exact rfl;exact rfl;first|(exact Has.ag (g8 rfl rfl rfl rfl rfl rfl rfl rfl) (fs_ways g)))|((with_reducible apply st_callg);exact rfl;exact rfl;(first|exact rfl|assumption);exact rfl;exact rfl;exact rfl;first|(exact Has.ag (g8 rfl rfl rfl rfl rfl rfl rfl rfl) (fs_ways g))))
  refine st_lok (ok_lookupf (i := g.k - 1) rfl hE rfl rfl (by show g.k - 1 < 7; omega) hks hone) ?_
  refine run0 ?_
  refine awp_loop (fun m' s => ∃ k, k ≤ g.n ∧ m' = g.n - k ∧ s = stl [(1, .ptr 1 0 0), (4, .bnd (wayF (g.k - 1)) (.ag 8 g.bd)), (5, .own 21 0), (23, .i g.n), (24, .i (k : Int))] [(1, (1, fun _ => .ones 29 7 g.f)), (21, (1, fun _ => .ones WT g.n (grow (fun i => .row true g.n (fun j => .q (gdis g i j))) (.v (.slice none 0 0)) k)))]) g.n _ (imp_id ?_ ?_) ⟨0, Nat.zero_le _, rfl, rfl⟩ ?_
  · exact alle rfl (Le.id rfl) rfl (alle rfl (Le.id rfl) (fun i _ => g.bdok _ i) (by exact eA))
  · refine allh rfl (by decide) (bleo rfl fun _ _ => Le.id rfl) (fun i _ => g.fok _ i) (allh rfl (by decide) (bleo rfl fun i hi => Le.id rfl) ?_ True.intro)
    intro i hi; exact True.intro
  · rintro m' s ⟨k, hk, rfl, rfl⟩
    refine run0 ?_
    refine awp_if rfl (fun h' => ?_) (fun h' => ?_)
    · have hkn : k < g.n := by omega
      refine run0 ?_
      rw [updN_same]
      refine run0 ?_
      refine awp_loop (fun m' s => ∃ j, j ≤ g.n ∧ m' = g.n - j ∧ s = stl [(1, .ptr 1 0 0), (4, .bnd (wayF (g.k - 1)) (.ag 8 g.bd)), (5, .own 21 0), (6, .i (k : Int)), (23, .i g.n), (24, .i (k : Int)), (37, .i g.n), (38, .i (j : Int))] [(1, (1, fun _ => .ones 29 7 g.f)), (21, (1, fun _ => .ones WT g.n (updN (grow (fun i => .row true g.n (fun j => .q (gdis g i j))) (.v (.slice none 0 0)) k) k (.own 31 0)))), (31, (1, fun _ => .rats g.n (grow (fun j => .q (gdis g k j)) ra0 j)))]) g.n _ (imp_id ?_ ?_) ⟨0, Nat.zero_le _, rfl, rfl⟩ ?_
      · exact alle rfl (Le.id rfl) rfl (alle rfl (Le.id rfl) (fun i _ => g.bdok _ i) (by exact eA))
      · refine allh rfl (by decide) (bleo rfl fun _ _ => Le.id rfl) (fun i _ => g.fok _ i) (allh rfl (by decide) (bleo rfl fun i hi => Le.id rfl) ?_ (allh rfl (by decide) (blen rfl fun i hi => rfl) True.intro True.intro))
        intro i hi
        by_cases e : i = k
        · subst e; rw [updN_same]; rfl
        · rw [updN_ne _ _ e]; exact hrow _ _ i
      · rintro m' s ⟨j, hj, rfl, rfl⟩
        refine run0 ?_
        refine awp_if rfl (fun h1 => ?_) (fun h1 => ?_)
        · have hjn : j < g.n := by omega
          refine run0 ?_
          rw [show updN (grow (fun i => AV.row true g.n (fun j => .q (gdis g i j))) (.v (.slice none 0 0)) k) k (.own 31 0) ((k : Int)).toNat = .own 31 0 from updN_same _ _ _]
          repeat(first|refine run1 ?_|((with_reducible apply st_call);exact rfl;exact rfl;exact rfl;first|(exact Has.ag (g8 rfl rfl rfl rfl rfl rfl rfl rfl) (fs_way h hkn hjn)))|((with_reducible apply st_callg);exact rfl;exact rfl;(first|exact rfl|assumption);exact rfl;exact rfl;exact rfl;first|(exact Has.ag (g8 rfl rfl rfl rfl rfl rfl rfl rfl) (fs_way h hkn hjn))))
          refine q_loop ?_ (imp_id ?_ ?_) ⟨j + 1, ?_, rfl, rfl⟩
          · omega
          · exact alle rfl (Le.id rfl) rfl (alle rfl (Le.id rfl) (fun i _ => g.bdok _ i) (by exact eA))
          · refine allh rfl (by decide) (bleo rfl fun _ _ => Le.id rfl) (fun i _ => g.fok _ i) (allh rfl (by decide) (bleo rfl fun i hi => Le.id rfl) ?_ (allh rfl (by decide) (blen rfl fun i hi => grow_step _ _ j i) True.intro True.intro))
            intro i hi
            by_cases e : i = k
            · subst e; rw [updN_same]; rfl
            · rw [updN_ne _ _ e]; exact hrow _ _ i
          · omega
        · have ej : j = g.n := by omega
          subst ej
          refine run0 ?_
          refine q_loop ?_ ((imp_pub 21 k rfl rfl hkn (updN_same _ _ _) rfl rfl (by decide)).trans (imp_id ?_ ?_)) ⟨k + 1, ?_, rfl, rfl⟩
          · omega
          · exact alle rfl (Le.id rfl) rfl (alle rfl (Le.id rfl) (fun i _ => g.bdok _ i) (by exact eA))
          · refine allh rfl (by decide) (bleo rfl fun _ _ => Le.id rfl) (fun i _ => g.fok _ i) (allh rfl (by decide) (bleo rfl fun i hi => ?_) (fun i _ => hrow _ _ i) True.intro)
            by_cases e : i = k
            · subst e
              rw [updN_same, grow_full _ _ (Nat.lt_succ_self i)]
              exact Le.row rfl (fun j hj => grow_full _ _ hj) fun h => h
            · rw [updN_ne _ _ e, updN_ne _ _ e, ← grow_step, updN_ne _ _ e]
              exact Le.id rfl
          · omega
    · have ek : k = g.n := by omega
      subst ek
      refine run0 ?_
      refine ⟨.inr rfl, _, imp_mat 2 (fun _ => g.n) (fun i j => .q (gdis g i j)) rfl rfl rfl (fun i hi => grow_full _ _ hi), ?_⟩
      exact .one (.tmp rfl)
/-- The matrix; nought outside. -/
def gec (g : GD) (i j : Nat) : Rat := if i < g.n ∧ j < g.n then gent g i j else 0
theorem gec_in {g : GD} {i j : Nat} (hi : i < g.n) (hj : j < g.n) : gec g i j = gent g i j := if_pos ⟨hi, hj⟩
theorem gec_wt {g : GD} (h : g.OK) (i j : Nat) : Wt (gec g i j) 300 := by
  unfold gec
  split
  · exact ⟨gent_wt h (by omega) (by omega)⟩
  · exact ⟨by decide⟩
theorem Has.gec {P : Program} {f : FuncId} {g : GD} {xs : List AV} {r : AV} (H : Has P f (.mat false g.n (fun _ => g.n) (fun i j => .q (gec g i j)) :: xs) r) : Has P f (.mat false g.n (fun _ => g.n) (fun i j => .q (gent g i j)) :: xs) r :=
  Has.args H fun S B β w vs hv => rvs_cons (rv_mat fun i hi j hj => by rw [gec_in hi hj]) rvs_same hv
theorem fs_apply {g : GD} {v : Nat → Rat} {n : Nat} (h : g.OK) (hv : ∀ i, Wt (v i) 200) (hn : n ≤ 1000) : Has Tryz.prog 10 [g.v, .row false n (fun i => .q (v i))] (if n = g.n then .tup (.row true g.n fun i => .q (S g.n fun j => gec g i j * v j)) (.i 0) else .tup (.v (.slice none 0 0)) (.i 3)) := by
  have n8 := h.n8; have n1 := h.n1
  have he := gec_wt h
  by_cases hl : n = g.n
  · rw [if_pos hl]
    subst hl
    refine has_of Tryz.func10 (by kernel_rfl) rfl Tryz.ntmps10 Tryz.results10 rfl rfl rfl ?_
    refine run0 ?_
    refine awp_no rfl (decide_eq_false fun e => e rfl) ?_
    repeat(first|refine run1 ?_|((with_reducible apply st_call);exact rfl;exact rfl;exact rfl;first|(exact Has.ag (g7 rfl rfl rfl rfl rfl rfl rfl) (ge_expand h)))|((with_reducible apply st_callg);exact rfl;exact rfl;(first|exact rfl|assumption);exact rfl;exact rfl;exact rfl;first|(exact Has.ag (g7 rfl rfl rfl rfl rfl rfl rfl) (ge_expand h))))
    refine st_eqnil rfl rfl rfl n1 ?_
    refine run0 ?_
    refine awp_no rfl rfl ?_
    repeat(first|refine run1 ?_|((with_reducible apply st_call);exact rfl;exact rfl;exact rfl;first|(exact Has.gec (d_apply (hf := he) (hv := hv) (by decide) (by decide) n1 n8)))|((with_reducible apply st_callg);exact rfl;exact rfl;(first|exact rfl|assumption);exact rfl;exact rfl;exact rfl;first|(exact Has.gec (d_apply (hf := he) (hv := hv) (by decide) (by decide) n1 n8))))
    exact ⟨.inr rfl, _, Imp.refl _, .two (.tmp rfl) (.tmp rfl)⟩
  · rw [if_neg hl]
    refine has_of Tryz.func10 (by kernel_rfl) rfl Tryz.ntmps10 Tryz.results10 rfl rfl rfl ?_
    refine run0 ?_
    refine awp_yes rfl (decide_eq_true fun e => hl (by omega)) ?_
    refine run0 ?_
    exact ⟨.inr rfl, _, Imp.refl _, .two (.tmp rfl) (.tmp rfl)⟩
end Go.Proofs.YtpclkgjhfhhddaaGreat.AM

/- Joined texts, 24: GenJ LawCa LawCb CdV CdY AmHd Wthn LawCc LawCd. -/
import Derived.Test.YtpclkgjhfhhddaaJLawCodeReads23
import Derived.Test.YtpclkgjhfhhddaaJLawCodeReads20
import Derived.Test.YtpclkgjhfhhddaaJLawCodeReads21
import Derived.Test.YtpclkgjhfhhddaaJLawCodeReads16
set_option linter.unusedVariables false
set_option linter.unusedSimpArgs false
/- The document: two systems are alike, or not. -/
namespace Go.Proofs.Ytpclkgjhfhhddaa.AM
open Go Go.RowKit Go.Proofs.Ytpclkgjhfhhddaa.PN Go.Proofs.Ytpclkgjhfhhddaa.V
open Go.Proofs.Ytpclkgjhfhhddaa.LA (S S_succ S_zero S_congr)
set_option linter.unusedVariables false
set_option linter.unusedSimpArgs false
set_option maxRecDepth 8000
set_option maxHeartbeats 8000000
theorem r5_sameb {g h : GD} (t : Shp g h) : Has Try.prog 16 [g.v, h.v] (.b (sameB g h)) := by
  obtain ⟨k, n, r, la, lb, lg, lh, A, B, G, H⟩ := h
  obtain ⟨rfl, rfl, rfl, rfl, rfl, rfl, rfl, le, s, s'⟩ := t
  have gK : decide ((g.k : Int) = g.k) = true := decide_eq_true rfl
  have gK2 : (decide ((g.k : Int) = g.k) == true) = true := by rw [gK]; rfl
  have gN : decide ((g.n : Int) = g.n) = true := decide_eq_true rfl
  have gN2 : (decide ((g.n : Int) = g.n) == true) = true := by rw [gN]; rfl
  have gR : decide ((g.r : Int) = g.r) = true := decide_eq_true rfl
  have gR2 : (decide ((g.r : Int) = g.r) == true) = true := by rw [gR]; rfl
  have cA := k_rowsd (n := g.la) (f := g.A) (g := A) (fun i hi => Nat.le_trans (s.A i hi) (by decide)) (fun i hi => Nat.le_trans (s'.A i hi) (by decide)) le.1
  have cB := k_rowsd (n := g.lb) (f := g.B) (g := B) (fun i hi => Nat.le_trans (s.B i hi) (by decide)) (fun i hi => Nat.le_trans (s'.B i hi) (by decide)) le.2.1
  have cG := k_rowsd (n := g.lg) (f := g.G) (g := G) (fun i hi => Nat.le_trans (s.G i hi) (by decide)) (fun i hi => Nat.le_trans (s'.G i hi) (by decide)) le.2.2.1
  have cH := k_rowsd (n := g.lh) (f := g.H) (g := H) (fun i hi => Nat.le_trans (s.H i hi) (by decide)) (fun i hi => Nat.le_trans (s'.H i hi) (by decide)) le.2.2.2
  show Has Try.prog _ _ (.b (alld g.la g.A A && (alld g.lb g.B B && (alld g.lg g.G G && alld g.lh g.H H))))
  generalize alld g.la g.A A = bA at *
  generalize alld g.lb g.B B = bB at *
  generalize alld g.lg g.G G = bG at *
  generalize alld g.lh g.H H = bH at *
  refine has_of Try.func16 (by kernel_rfl) rfl Try.ntmps16 Try.results16 rfl rfl rfl ?_
  cases bA with
  | false =>
    repeat(first|refine run1p ?_|((with_reducible apply st_call);exact rfl;exact rfl;exact rfl;first|(exact cA)|(exact cB)|(exact cG)|(exact cH))|((with_reducible apply st_callg);exact rfl;exact rfl;(first|exact rfl|assumption);exact rfl;exact rfl;exact rfl;first|(exact cA)|(exact cB)|(exact cG)|(exact cH)))
    exact ⟨.inr rfl, _, Imp.refl _, .one (.tmp rfl)⟩
  | true =>
    cases bB with
    | false =>
      repeat(first|refine run1p ?_|((with_reducible apply st_call);exact rfl;exact rfl;exact rfl;first|(exact cA)|(exact cB)|(exact cG)|(exact cH))|((with_reducible apply st_callg);exact rfl;exact rfl;(first|exact rfl|assumption);exact rfl;exact rfl;exact rfl;first|(exact cA)|(exact cB)|(exact cG)|(exact cH)))
      exact ⟨.inr rfl, _, Imp.refl _, .one (.tmp rfl)⟩
    | true =>
      cases bG with
      | false =>
        repeat(first|refine run1p ?_|((with_reducible apply st_call);exact rfl;exact rfl;exact rfl;first|(exact cA)|(exact cB)|(exact cG)|(exact cH))|((with_reducible apply st_callg);exact rfl;exact rfl;(first|exact rfl|assumption);exact rfl;exact rfl;exact rfl;first|(exact cA)|(exact cB)|(exact cG)|(exact cH)))
        exact ⟨.inr rfl, _, Imp.refl _, .one (.tmp rfl)⟩
      | true =>
        cases bH with
        | false =>
          repeat(first|refine run1p ?_|((with_reducible apply st_call);exact rfl;exact rfl;exact rfl;first|(exact cA)|(exact cB)|(exact cG)|(exact cH))|((with_reducible apply st_callg);exact rfl;exact rfl;(first|exact rfl|assumption);exact rfl;exact rfl;exact rfl;first|(exact cA)|(exact cB)|(exact cG)|(exact cH)))
          exact ⟨.inr rfl, _, Imp.refl _, .one (.tmp rfl)⟩
        | true =>
          repeat(first|refine run1p ?_|((with_reducible apply st_call);exact rfl;exact rfl;exact rfl;first|(exact cA)|(exact cB)|(exact cG)|(exact cH))|((with_reducible apply st_callg);exact rfl;exact rfl;(first|exact rfl|assumption);exact rfl;exact rfl;exact rfl;first|(exact cA)|(exact cB)|(exact cG)|(exact cH)))
          exact ⟨.inr rfl, _, Imp.refl _, .one (.tmp rfl)⟩
theorem alld_self {n : Nat} {f : Nat → Rat} : alld n f f = true := decide_eq_true fun _ _ => rfl
theorem sameB_self {g : GD} : sameB g g = true := by unfold sameB; rw [alld_self, alld_self, alld_self, alld_self]; rfl
theorem shp_self {g : GD} (h : g.Sm) (le : g.la ≤ 1000 ∧ g.lb ≤ 1000 ∧ g.lg ≤ 1000 ∧ g.lh ≤ 1000) : Shp g g := ⟨rfl, rfl, rfl, rfl, rfl, rfl, rfl, le, h, h⟩
/-- One number turned. -/
def gX (a : GD) (p : Bool) (w : Nat) : GD := ⟨a.k, a.n, a.r, a.la, a.lb, a.lg, a.lh, fun i => if p = true ∧ i = w then 777 else a.A i, a.B, fun i => if p = false ∧ i = w then 777 else a.G i, a.H⟩
end Go.Proofs.Ytpclkgjhfhhddaa.AM
/- Chapter 6: what is laid is taken as it was. -/
namespace Go.Proofs.Ytpclkgjhfhhddaa.AM
open Go Go.RowKit Go.Proofs.Ytpclkgjhfhhddaa.PN Go.Proofs.Ytpclkgjhfhhddaa.V
set_option linter.unusedVariables false
set_option linter.unusedSimpArgs false
set_option maxRecDepth 8000
set_option maxHeartbeats 8000000
theorem Has.to {P : Program} {f : FuncId} {xs : List AV} {r r' : AV} (H : Has P f xs r) (hc : r'.ok (fun _ => false)) (h : ∀ S B β w v, RV S B β w r v → RV S B β w r' v) : Has P f xs r' :=
  ⟨H.b, hc, fun w S β vs hv => (H.run w S β vs hv).mono fun e w' ⟨v, h1, h2, h3⟩ => ⟨v, h1, h2, h _ _ _ _ _ h3⟩⟩
/-- Bytes, all of them. -/
def AllB (l : List Int) : Prop := ∀ x ∈ l, 0 ≤ x ∧ x ≤ 255
theorem AllB.by {l : List Int} (h : AllB l) : By l := fun i => by
  rw [List.getD_eq_getElem?_getD]
  cases e : l[i]? with
  | none => exact ⟨Int.le_refl 0, (by show (0 : Int) ≤ 255; decide)⟩
  | some x => exact h x (List.mem_of_getElem? e)
theorem AllB.app {a b : List Int} (h : AllB a) (k : AllB b) : AllB (a ++ b) := fun x hx => (List.mem_append.1 hx).elim (h x) (k x)
theorem allb_mod (x : Int) : 0 ≤ x % 256 ∧ x % 256 ≤ 255 := by omega
theorem allb_L (l : List Nat) : AllB (encL l) := by
  intro x hx
  rcases List.mem_cons.1 hx with rfl | hx
  · exact allb_mod _
  · obtain ⟨y, _, hy⟩ := List.mem_flatMap.1 hx
    simp only [encW, List.mem_cons, List.not_mem_nil, or_false] at hy
    rcases hy with rfl | rfl | rfl | rfl <;> exact allb_mod _
theorem allb_R (r : RA) : AllB (encR r) := by
  intro x hx
  rcases List.mem_cons.1 hx with rfl | hx
  · unfold sgB; split <;> decide
  · exact (allb_L _).app (allb_L _) x hx
theorem allb_G (k n r : Int) (m : Nat → Nat) (F : Nat → Nat → RA) : AllB (encG k n r m F) := by
  refine AllB.app ?_ ?_
  · intro x hx
    simp only [encH, List.mem_cons, List.not_mem_nil, or_false] at hx
    rcases hx with rfl | rfl | rfl <;> exact allb_mod _
  · intro x hx
    obtain ⟨i, _, hi⟩ := List.mem_flatMap.1 hx
    obtain ⟨j, _, hj⟩ := List.mem_flatMap.1 hi
    exact allb_R _ x hj
/-- A system's bytes. -/
def encD (g : GD) : List Int := encG g.k g.n g.r g.m g.F
theorem gd_cn {g : GD} (o : g.OK) : g.m 0 = cnA g.k g.n ∧ g.m 1 = cnB g.k g.n ∧ g.m 2 = cnH g.k g.n g.r ∧ g.m 3 = cnH g.k g.n g.r := by
  obtain ⟨c0, c1, c2, c3⟩ := cnt_eq (r := g.r) o.k1 o.k7 o.n1
  have h0 := o.len 0 (by decide)
  have h1 := o.len 1 (by decide)
  have h2 := o.len 2 (by decide)
  have h3 := o.len 3 (by decide)
  exact ⟨Int.ofNat_inj.1 (h0.trans c0), Int.ofNat_inj.1 (h1.trans c1), Int.ofNat_inj.1 (h2.trans c2), Int.ofNat_inj.1 (h3.trans c3)⟩
theorem gd_m {g : GD} (o : g.OK) (i : Nat) : g.m i ≤ 100 := by
  obtain ⟨e0, e1, e2, e3⟩ := gd_cn o
  have n8 := o.n8
  have r3 := o.r3
  obtain ⟨a, b, c⟩ := cn_le2 (k := g.k) n8 r3
  match i with
  | 0 => rw [e0]; exact a
  | 1 => rw [e1]; exact b
  | 2 => rw [e2]; exact c
  | 3 => rw [e3]; exact c
  | i + 4 => exact Nat.zero_le _
theorem gd_F {g : GD} (o : g.OK) (i j : Nat) : (raN (g.F i j)).length ≤ 1000 ∧ (raD (g.F i j)).length ≤ 1000 := by
  have h := g.encF o i j
  exact ⟨by have := h.2.1; omega, by have := h.2.2; omega⟩
theorem encD_by {g : GD} : By (encD g) := (allb_G _ _ _ _ _).by
theorem encD_len {g : GD} (o : g.OK) : (encD g).length ≤ 30000 := by
  have key : ∀ i n, (encRow n (g.F i)).length ≤ 35 * n := by
    intro i n
    induction n with
    | zero => exact Nat.le_refl _
    | succ n ih =>
      have h := g.encF o i n
      have h1 := h.2.1
      have h2 := h.2.2
      rw [encRow_succ, List.length_append, encR_len]
      omega
  have k2 : ∀ k, (encRows k g.m g.F).length ≤ 3500 * k := by
    intro k
    induction k with
    | zero => exact Nat.le_refl _
    | succ k ih =>
      have h := key k (g.m k)
      have hm := gd_m o k
      rw [encRows_succ, List.length_append]
      omega
  have := k2 4
  show (encH _ _ _ ++ _).length ≤ _
  rw [List.length_append]
  show 3 + _ ≤ _
  omega
theorem rv_gF {g : GD} {S : Nat → Prop} {B : Nat} {β : Nat → Nat → Value} {w : World} (v : Value) (hv : RV S B β w g.v v) : RV S B β w (.ag 7 (gF g.k g.n g.r g.m g.F)) v := by
  refine rv_agv (fun i hi v hv => ?_) v hv
  match i, hi with
  | 0, _ => exact hv
  | 1, _ => exact hv
  | 2, _ => exact hv
  | 3, _ => exact rv_row (fun j hj => congrArg RA.q (if_pos (show j < g.la from hj)).symm) v hv
  | 4, _ => exact rv_row (fun j hj => congrArg RA.q (if_pos (show j < g.lb from hj)).symm) v hv
  | 5, _ => exact rv_row (fun j hj => congrArg RA.q (if_pos (show j < g.lg from hj)).symm) v hv
  | 6, _ => exact rv_row (fun j hj => congrArg RA.q (if_pos (show j < g.lh from hj)).symm) v hv
theorem ps_gd {g : GD} (o : g.OK) : psE (encD g) = 0 ∧ psk (encD g) = g.k ∧ psn (encD g) = g.n ∧ psr (encD g) = g.r ∧ ∀ i, i < 4 → psM (encD g) i = g.m i ∧ ∀ j, j < g.m i → psF (encD g) i j = rawOf (g.F i j) := by
  have k7 := o.k7
  have n8 := o.n8
  have r3 := o.r3
  have hk : g.k ≤ 255 := by omega
  have hn : g.n ≤ 255 := by omega
  have hr : g.r ≤ 255 := by omega
  obtain ⟨e1, e2, e3⟩ := ps_hd (m := g.m) (F := g.F) hk hn hr
  have hrow := fun i (hi : i < 4) => ps_row (F := g.F) hk hn hr (g.encF o) (gd_cn o) (i := i) hi
  refine ⟨?_, e1, e2, e3, hrow⟩
  have h := ps_enc (F := g.F) hk hn hr (g.encF o) (gd_cn o) (head_gd o)
  show psE (encG g.k g.n g.r g.m g.F) = 0
  rw [h]
  unfold psG
  rw [e1, e2, e3]
  have q : ∀ i, i < 4 → PR.Eq (prR (psM (encG g.k g.n g.r g.m g.F) i) (psF (encG g.k g.n g.r g.m g.F) i)) (prR (g.m i) (g.F i)) := fun i hi =>
    ⟨(hrow i hi).1, fun j hj => by
      have hj : j < psM (encG g.k g.n g.r g.m g.F) i := hj
      rw [(hrow i hi).1] at hj
      show (psF (encG g.k g.n g.r g.m g.F) i j).sgn = _ ∧ raN (psF (encG g.k g.n g.r g.m g.F) i j) = _ ∧ raD (psF (encG g.k g.n g.r g.m g.F) i j) = _
      rw [(hrow i hi).2 j hj]
      exact ⟨rfl, rfl, rfl⟩⟩
  have q2 : ∀ {m : Nat} {f : Nat → RA} {h : Nat → Rat}, (∀ j, j < m → f j = .q (h j)) → PR.Eq (prR m f) (prR m fun j => .q (h j)) := fun hf => ⟨rfl, fun j hj => by
    show (_ : RA).sgn = _ ∧ raN _ = _ ∧ raD _ = _
    rw [hf j hj]; exact ⟨rfl, rfl, rfl⟩⟩
  have tr : ∀ {a b c : PR}, a.Eq b → b.Eq c → a.Eq c := fun h k => ⟨h.m.trans k.m, fun i hi => by
    obtain ⟨a1, a2, a3⟩ := h.e i hi
    obtain ⟨b1, b2, b3⟩ := k.e i (by rw [← h.m]; exact hi)
    exact ⟨a1.trans b1, a2.trans b2, a3.trans b3⟩⟩
  refine (chk_congr (tr (q 0 (by decide)) (q2 (h := g.A) fun j hj => ?_)) (tr (q 1 (by decide)) (q2 (h := g.B) fun j hj => ?_)) (tr (q 2 (by decide)) (q2 (h := g.G) fun j hj => ?_)) (tr (q 3 (by decide)) (q2 (h := g.H) fun j hj => ?_))).trans (chk_gd o)
  · exact congrArg RA.q (if_pos (show j < g.la from hj))
  · exact congrArg RA.q (if_pos (show j < g.lb from hj))
  · exact congrArg RA.q (if_pos (show j < g.lg from hj))
  · exact congrArg RA.q (if_pos (show j < g.lh from hj))
theorem k_bytesx {g : GD} (o : g.OK) : Has Try.prog 15 [g.v] (.seq .u8 (encD g)) :=
  (x_bytes (gd_F o) (gd_m o)).args fun S B β w vs hv => rvs_cons rv_gF rvs_same hv
theorem rv_ps {g : GD} (o : g.OK) {S : Nat → Prop} {B : Nat} {β : Nat → Nat → Value} {w : World} (x : Value) (hx : RV S B β w (.ag 7 (psU (encD g) 0)) x) : RV S B β w g.v x := by
  obtain ⟨h0, e1, e2, e3, hrow⟩ := ps_gd o
  refine rv_agv (fun i hi v hv => ?_) x hx
  match i, hi with
  | 0, _ => have hv : v = .int .i64 (psk (encD g)) := hv; rw [e1] at hv; exact hv
  | 1, _ => have hv : v = .int .i64 (psn (encD g)) := hv; rw [e2] at hv; exact hv
  | 2, _ => have hv : v = .int .i64 (psr (encD g)) := hv; rw [e3] at hv; exact hv
  | 3, _ => exact raw_row (fr := false) (n := psM (encD g) 0) (hrow 0 (by decide)).1 (fun j hj => by
      rw [(hrow 0 (by decide)).1] at hj
      rw [(hrow 0 (by decide)).2 j hj]
      exact congrArg (fun z => rawOf (.q z)) (if_pos (show j < g.la from hj))) hv
  | 4, _ => exact raw_row (fr := false) (n := psM (encD g) 1) (hrow 1 (by decide)).1 (fun j hj => by
      rw [(hrow 1 (by decide)).1] at hj
      rw [(hrow 1 (by decide)).2 j hj]
      exact congrArg (fun z => rawOf (.q z)) (if_pos (show j < g.lb from hj))) hv
  | 5, _ => exact raw_row (fr := false) (n := psM (encD g) 2) (hrow 2 (by decide)).1 (fun j hj => by
      rw [(hrow 2 (by decide)).1] at hj
      rw [(hrow 2 (by decide)).2 j hj]
      exact congrArg (fun z => rawOf (.q z)) (if_pos (show j < g.lg from hj))) hv
  | 6, _ => exact raw_row (fr := false) (n := psM (encD g) 3) (hrow 3 (by decide)).1 (fun j hj => by
      rw [(hrow 3 (by decide)).1] at hj
      rw [(hrow 3 (by decide)).2 j hj]
      exact congrArg (fun z => rawOf (.q z)) (if_pos (show j < g.lh from hj))) hv
theorem k_parse {g : GD} (o : g.OK) : Has Try.prog 14 [.seq .u8 (encD g)] (.tup g.v (.i 0)) := by
  have hl := encD_len o
  have c := c_parse (l := encD g) encD_by (by omega)
  have h0 := (ps_gd o).1
  refine c.to ⟨fun i _ => g.fok _ i, trivial⟩ ?_
  unfold psV
  rw [h0]
  rintro S B β w v ⟨x, y, e, hx, hy⟩
  exact ⟨x, y, e, rv_ps o x hx, hy⟩
end Go.Proofs.Ytpclkgjhfhhddaa.AM
/- CodeBack, walked. -/
namespace Go.Proofs.Ytpclkgjhfhhddaa.AM
open Go Go.RowKit Go.Proofs.Ytpclkgjhfhhddaa.PN Go.Proofs.Ytpclkgjhfhhddaa.V
set_option linter.unusedVariables false
set_option linter.unusedSimpArgs false
set_option maxRecDepth 8000
set_option maxHeartbeats 8000000
theorem ok_litrow {o : Oper} {s : St} {n d : Nat} {parts : Array (Nat × Operand)} {ys : List AV} {qs : List RA} (g : Nat) (ho : o.op = .buildSlice WT n parts) (hd : o.dst = some d) (hg : s.used g = false) (hi : idxs 0 parts.toList = true) (hn : parts.toList.length = n) (hb : n ≤ 100000) (hy : avos s parts.toList = some ys) (hq : ras ys = some qs) :
    LOK Try.prog o s ⟨some (.row true n fun i => qs.getD i ra0), [(g, none)], []⟩ :=
  lok_pub (ok_build_rat ho hg hi hn hb hy hq) hd fun s' h1 h2 => imp_row d h1 h2 rfl
section
variable {ops : Array Oper} {l : List Oper} {s : St} {acc : List Fp} {K : St → List Fp → Prop} {d : Tmp} {ty : TypeId} {ps : String} {aft : Array Edge} {n : Nat} {parts : Array (Nat × Operand)} {ys : List AV} {qs : List RA}
theorem st_litrowg (g : Nat) {j : Nat} {want b : Bool} {t : Tmp} (ht : (ops[j]?).bind (·.dst) = some t) (he : s.env t = some (.v (.bool b))) (hbw : (b == want) = true) (hg : s.used g = false) (hi : idxs 0 parts.toList = true) (hn : parts.toList.length = n) (hb : n ≤ 100000) (hy : avos s parts.toList = some ys) (hq : ras ys = some qs)
    (k : AOps Try.prog ops l (nxt s (some d) (some (.row true n fun i => qs.getD i ra0)) [(g, none)]) (([], [g]) :: acc) K) : AOps Try.prog ops (⟨some d, .buildSlice WT n parts, ty, ps, aft, some (j, want)⟩ :: l) s acc K :=
  .cons _ (.inl ⟨hbw ▸ .some j want t b rfl ht he, ok_litrow g rfl rfl hg hi hn hb hy hq⟩) k
end
theorem rv_nilseq {S : Nat → Prop} {B : Nat} {β : Nat → Nat → Value} {w : World} (v : Value) (hv : RV S B β w (.v (.slice none 0 0)) v) : RV S B β w (.seq .u8 []) v := by
  have hv : v = .slice none 0 0 := hv
  subst hv
  exact ⟨none, 0, rfl, Nat.le_refl _, Nat.zero_le _, fun i hi => absurd hi (Nat.not_lt_zero _)⟩
def kn6 : Nat → RA := fun i => [RA.raw false [] [1]].getD i ra0
theorem rv_kn {u : Nat → AV} (h0 : u 0 = .i 3) (h1 : u 1 = .i 1) (h2 : u 2 = .i 0) (h3 : u 3 = .row false 1 kn6) (h4 : u 4 = .v (.slice none 0 0)) (h5 : u 5 = .v (.slice none 0 0)) (h6 : u 6 = .v (.slice none 0 0)) {S : Nat → Prop} {B : Nat} {β : Nat → Nat → Value} {w : World} (v : Value) (hv : RV S B β w (.ag 7 u) v) :
    RV S B β w (.ag 7 (gF 3 1 0 (fun i => [1, 0, 0, 0].getD i 0) (fun _ => kn6))) v := by
  refine rv_agv (fun i hi v hv => ?_) v hv
  match i, hi with
  | 0, _ => rw [h0] at hv; exact hv
  | 1, _ => rw [h1] at hv; exact hv
  | 2, _ => rw [h2] at hv; exact hv
  | 3, _ => rw [h3] at hv; exact hv
  | 4, _ => rw [h4] at hv; exact (le_nil (σ := idR)) S B β w v hv
  | 5, _ => rw [h5] at hv; exact (le_nil (σ := idR)) S B β w v hv
  | 6, _ => rw [h6] at hv; exact (le_nil (σ := idR)) S B β w v hv
theorem k_known6 : Has Try.prog 11 [] (.b true) := by
  have c1 : Has Try.prog 14 [.v (.slice none 0 0)] (.tup (.ag 7 (psV [])) (.i 6)) :=
    (c_parse (l := []) (fun i => ⟨Int.le_refl 0, (by show (0 : Int) ≤ 255; decide)⟩) (Nat.zero_le _)).args fun S B β w vs hv => rvs_cons rv_nilseq rvs_same hv
  have c2 : Has Try.prog 13 [.ag 7 (gF 3 1 0 (fun i => [1, 0, 0, 0].getD i 0) (fun _ => kn6))] (.seq .u8 (encG 3 1 0 (fun i => [1, 0, 0, 0].getD i 0) (fun _ => kn6))) :=
    w_bytes (fun i j => by
      show (raN (kn6 j)).length ≤ 1000 ∧ (raD (kn6 j)).length ≤ 1000
      match j with
      | 0 => decide
      | j + 1 => show (raN ra0).length ≤ 1000 ∧ (raD ra0).length ≤ 1000; decide) (fun i => by
      match i with
      | 0 => decide
      | 1 => decide
      | 2 => decide
      | 3 => decide
      | i + 4 => exact Nat.zero_le _)
  have hlen : decide ((((encG 3 1 0 (fun i => [1, 0, 0, 0].getD i 0) (fun _ => kn6)).length : Nat) : Int) = 10) = true := by decide
  refine has_of Try.func11 (by kernel_rfl) rfl Try.ntmps11 Try.results11 rfl rfl rfl ?_
  repeat(first|refine run1p ?_|((with_reducible apply st_call);exact rfl;exact rfl;exact rfl;first|(exact c1))|((with_reducible apply st_callg);exact rfl;exact rfl;(first|exact rfl|assumption);exact rfl;exact rfl;exact rfl;first|(exact c1)))
  refine st_buildg rfl rfl rfl rfl (by rfl) ?_
  refine st_litrowg (ys := [.ra (.raw false [] [1])]) (qs := [.raw false [] [1]]) 40 rfl rfl rfl rfl rfl rfl (Nat.le_of_ble_eq_true rfl) rfl rfl ?_
  refine run0p ?_
  refine st_buildg rfl rfl rfl rfl (by rfl) ?_
  repeat(first|refine run1p ?_|((with_reducible apply st_call);exact rfl;exact rfl;exact rfl;first|(exact c2.args fun S B β w vs hv => rvs_cons (rv_kn rfl rfl rfl rfl rfl rfl rfl) rvs_same hv))|((with_reducible apply st_callg);exact rfl;exact rfl;(first|exact rfl|assumption);exact rfl;exact rfl;exact rfl;first|(exact c2.args fun S B β w vs hv => rvs_cons (rv_kn rfl rfl rfl rfl rfl rfl rfl) rvs_same hv)))
  exact ⟨.inr rfl, _, Imp.refl _, .one (.tmp (congrArg (fun z => some (AV.b z)) hlen))⟩
end Go.Proofs.Ytpclkgjhfhhddaa.AM
/- What is taken without an error is a system that may be. -/
namespace Go.Proofs.Ytpclkgjhfhhddaa.AM
open Go Go.RowKit Go.Proofs.Ytpclkgjhfhhddaa.PN Go.Proofs.Ytpclkgjhfhhddaa.V
set_option linter.unusedVariables false
set_option linter.unusedSimpArgs false
theorem isp_raw {n d : List Nat} {p : Rat} (h : IsP n d p) : RA.raw (ng p) n d = rawOf (.q p) := by
  have e1 : n = limbsOf (nm p) := lval_inj h.hn (limbsOf_lf _) h.tn (trim_limbsOf _) (by rw [h.en, lval_limbsOf])
  have e2 : d = limbsOf p.den := lval_inj h.hd (limbsOf_lf _) h.td (trim_limbsOf _) (by rw [h.ed, lval_limbsOf])
  show RA.raw (ng p) n d = .raw (ng p) (limbsOf (nm p)) (limbsOf p.den)
  rw [← e1, ← e2]
/-- A raw number. -/
def RA.isRaw : RA → Prop
  | .raw _ _ _ => True
  | .q _ => False
theorem raw_self {r : RA} (h : r.isRaw) : r = .raw r.sgn (raN r) (raD r) := by
  cases r with
  | q p => exact h.elim
  | raw s n d => rfl
theorem rwF_raw {l : List Int} {e : Int} {n i : Nat} : (rwF l e n i).isRaw := by
  have key : ∀ n, ∀ q ∈ (rwI l e n).1, q.isRaw := by
    intro n
    induction n with
    | zero => intro q hq; cases hq
    | succ n ih =>
      intro q hq
      rcases List.mem_append.1 hq with hq | hq
      · exact ih q hq
      · rw [List.mem_singleton.1 hq]; exact True.intro
  unfold rwF
  rw [List.getD_eq_getElem?_getD]
  cases h : (rwI l e n).1[i]? with
  | none => exact True.intro
  | some q => exact key _ q (List.mem_of_getElem? h)
/-- A row of right numbers. -/
theorem sm_row {m : Nat} {f : Nat → RA} (hf : ∀ i, RAf (f i)) (hr : ∀ i, (f i).isRaw) (h : (prR m f).sm = true) : ∃ A : Nat → Rat, ∀ i, i < m → f i = rawOf (.q (A i)) ∧ wt (A i) ≤ 4 ∧ ng (A i) = (f i).sgn ∧ IsP (raN (f i)) (raD (f i)) (A i) := by
  have h := of_decide_eq_true h
  have key : ∀ i, ∃ p : Rat, i < m → f i = rawOf (.q p) ∧ wt p ≤ 4 ∧ ng p = (f i).sgn ∧ IsP (raN (f i)) (raD (f i)) p := by
    intro i
    by_cases hi : i < m
    · have hs := h i hi
      have hs : smB (f i).sgn (raN (f i)) (raD (f i)) = true := hs
      have hs0 := hs
      unfold smB at hs
      rw [Bool.and_eq_true, Bool.and_eq_true] at hs
      have l1 := of_decide_eq_true hs.1.1
      have l2 := of_decide_eq_true hs.1.2
      obtain ⟨p, e1, e2⟩ := rgt_isp hs.2 (hf i).1 (hf i).2 (by omega) (by omega)
      refine ⟨p, fun _ => ⟨?_, ?_, e1, e2⟩⟩
      · rw [raw_self (hr i), ← e1]; exact isp_raw e2
      · have s1 := trim_len e2.tn
        have s2 := trim_len e2.td
        rw [e2.en] at s1
        rw [e2.ed] at s2
        show max (size (nm p)) (size p.den) ≤ 4
        omega
    · exact ⟨0, fun c => absurd c hi⟩
  exact ⟨fun i => (key i).choose, fun i hi => (key i).choose_spec hi⟩
theorem chkV_0 {b0 b1 b2 b3 s0 s1 s2 s3 e : Bool} (h : chkV b0 b1 b2 b3 s0 s1 s2 s3 e = 0) : (b0 = true ∧ b1 = true ∧ b2 = true ∧ b3 = true) ∧ (s0 = true ∧ s1 = true ∧ s2 = true ∧ s3 = true) ∧ e = false := by
  revert h
  unfold chkV
  cases b0 <;> cases b1 <;> cases b2 <;> cases b3 <;> cases s0 <;> cases s1 <;> cases s2 <;> cases s3 <;> cases e <;> decide
/-- What is taken without an error. -/
theorem gd_of {l : List Int} (hb : By l) (h : psE l = 0) : ∃ g : GD, g.OK ∧ psk l = g.k ∧ psn l = g.n ∧ psr l = g.r ∧ ∀ i, i < 4 → psM l i = g.m i ∧ ∀ j, j < g.m i → psF l i j = rawOf (g.F i j) := by
  unfold psE at h
  by_cases c0 : (tkP 3 l 0).2.2 = 0
  · have n0 : ¬ (tkP 3 l 0).2.2 ≠ 0 := fun c => c c0
    rw [if_neg n0] at h
    by_cases c1 : headV (psk l) (psn l) (psr l) = 0
    · have n1 : ¬ headV (psk l) (psn l) (psr l) ≠ 0 := fun c => c c1
      rw [if_neg n1] at h
      by_cases c2 : (psS l 4).2 = 0
      · have n2 : ¬ (psS l 4).2 ≠ 0 := fun c => c c2
        rw [if_neg n2] at h
        by_cases c3 : 0 < (psS l 4).1.length
        · rw [if_pos c3] at h; cases h
        · rw [if_neg c3] at h
          have hby := (tk_by (n := 3) (e := 0) hb).1
          obtain ⟨⟨k1, k7⟩, ⟨n1', n8⟩, r0, r3⟩ := head_ok c1 hby
          have hK : psk l = (((psk l).toNat : Nat) : Int) := (Int.toNat_of_nonneg (by omega)).symm
          have hN : psn l = (((psn l).toNat : Nat) : Int) := (Int.toNat_of_nonneg (by omega)).symm
          have hR : psr l = (((psr l).toNat : Nat) : Int) := (Int.toNat_of_nonneg (by omega)).symm
          unfold headV at c1
          unfold chk at h
          have hkb : kindB (psk l) = false := by
            cases e : kindB (psk l) with
            | false => rfl
            | true => rw [e] at c1; cases c1
          rw [hkb, cond_false] at c1
          have hsb : sizedB (psk l) (psn l) (psr l) = true := by
            cases e : sizedB (psk l) (psn l) (psr l) with
            | true => rfl
            | false => rw [e] at c1; cases c1
          have h : (bif kindB (psk l) then (2 : Int) else bif sizedB (psk l) (psn l) (psr l) then chkR (psG l) else 1) = 0 := h
          rw [hkb, hsb, cond_false, cond_true] at h
          unfold chkR at h
          obtain ⟨⟨b0, b1, b2, b3⟩, ⟨s0, s1, s2, s3⟩, me⟩ := chkV_0 h
          obtain ⟨A, hA⟩ := sm_row (m := psM l 0) (f := psF l 0) (fun i => rwF_fin) (fun i => rwF_raw) s0
          obtain ⟨B, hB⟩ := sm_row (m := psM l 1) (f := psF l 1) (fun i => rwF_fin) (fun i => rwF_raw) s1
          obtain ⟨G, hG⟩ := sm_row (m := psM l 2) (f := psF l 2) (fun i => rwF_fin) (fun i => rwF_raw) s2
          obtain ⟨H, hH⟩ := sm_row (m := psM l 3) (f := psF l 3) (fun i => rwF_fin) (fun i => rwF_raw) s3
          have b0 := of_decide_eq_true b0
          have b1 := of_decide_eq_true b1
          have b2 := of_decide_eq_true b2
          have b3 := of_decide_eq_true b3
          have b0 : ((psM l 0 : Nat) : Int) = cnt (psk l) (psn l) (psr l) 0 := b0
          have b1 : ((psM l 1 : Nat) : Int) = cnt (psk l) (psn l) (psr l) 1 := b1
          have b2 : ((psM l 2 : Nat) : Int) = cnt (psk l) (psn l) (psr l) 2 := b2
          have b3 : ((psM l 3 : Nat) : Int) = cnt (psk l) (psn l) (psr l) 3 := b3
          unfold sizedB at hsb
          rw [Bool.and_eq_true] at hsb
          have hlk := hsb.2
          rw [hK, likeZ_nat] at hlk
          refine ⟨⟨(psk l).toNat, (psn l).toNat, (psr l).toNat, psM l 0, psM l 1, psM l 2, psM l 3, A, B, G, H⟩, ⟨by show 1 ≤ (psk l).toNat; omega, by show (psk l).toNat ≤ 7; omega, by show 1 ≤ (psn l).toNat; omega, by show (psn l).toNat ≤ 8; omega, by show (psr l).toNat ≤ 3; omega, fun e => ?_, fun e => ?_, fun i hi => ?_, ⟨fun i hi => (hA i hi).2.1, fun i hi => (hB i hi).2.1, fun i hi => (hG i hi).2.1, fun i hi => (hH i hi).2.1⟩, fun i hi j hj => ?_⟩, hK, hN, hR, fun i hi => ?_⟩
          · have e : likeB (psk l).toNat = true := e
            rw [e, cond_true, Bool.and_eq_true, decide_eq_true_eq] at hlk
            show 1 ≤ (psr l).toNat
            omega
          · have e : likeB (psk l).toNat = false := e
            rw [e, cond_false, decide_eq_true_eq] at hlk
            show (psr l).toNat = 0
            omega
          · rw [hK, hN, hR] at b0 b1 b2 b3
            match i, hi with
            | 0, _ => exact b0
            | 1, _ => exact b1
            | 2, _ => exact b2
            | 3, _ => exact b3
          · intro e
            have me : (!decide (∀ i, i < psM l 0 → (prR (psM l 1) (psF l 1)).has (psF l 0 i).sgn (raN (psF l 0 i)) (raD (psF l 0 i)) = false)) = false := me
            have me : decide (∀ i, i < psM l 0 → (prR (psM l 1) (psF l 1)).has (psF l 0 i).sgn (raN (psF l 0 i)) (raD (psF l 0 i)) = false) = true := by
              cases e : decide (∀ i, i < psM l 0 → (prR (psM l 1) (psF l 1)).has (psF l 0 i).sgn (raN (psF l 0 i)) (raD (psF l 0 i)) = false) with
              | true => rfl
              | false => rw [e] at me; cases me
            have m1 := of_decide_eq_true me i hi
            unfold PR.has at m1
            have m1 : decide (∀ j, j < psM l 1 → eqB (psF l 0 i).sgn (raN (psF l 0 i)) (raD (psF l 0 i)) (psF l 1 j).sgn (raN (psF l 1 j)) (raD (psF l 1 j)) = false) = true := by
              cases e : decide (∀ j, j < psM l 1 → eqB (psF l 0 i).sgn (raN (psF l 0 i)) (raD (psF l 0 i)) (psF l 1 j).sgn (raN (psF l 1 j)) (raD (psF l 1 j)) = false) with
              | true => rfl
              | false =>
                have m1 : (!decide (∀ j, j < psM l 1 → eqB (psF l 0 i).sgn (raN (psF l 0 i)) (raD (psF l 0 i)) (psF l 1 j).sgn (raN (psF l 1 j)) (raD (psF l 1 j)) = false)) = false := m1
                rw [e] at m1; cases m1
            have m2 := of_decide_eq_true m1 j hj
            rw [← (hA i hi).2.2.1, ← (hB j hj).2.2.1, isp_eq (hA i hi).2.2.2 (hB j hj).2.2.2] at m2
            exact of_decide_eq_false m2 e
          · match i, hi with
            | 0, _ => exact ⟨rfl, fun j hj => (hA j hj).1.trans (congrArg (fun z => rawOf (.q z)) (if_pos (show j < psM l 0 from hj)).symm)⟩
            | 1, _ => exact ⟨rfl, fun j hj => (hB j hj).1.trans (congrArg (fun z => rawOf (.q z)) (if_pos (show j < psM l 1 from hj)).symm)⟩
            | 2, _ => exact ⟨rfl, fun j hj => (hG j hj).1.trans (congrArg (fun z => rawOf (.q z)) (if_pos (show j < psM l 2 from hj)).symm)⟩
            | 3, _ => exact ⟨rfl, fun j hj => (hH j hj).1.trans (congrArg (fun z => rawOf (.q z)) (if_pos (show j < psM l 3 from hj)).symm)⟩
      · rw [if_pos c2] at h; exact absurd h c2
    · rw [if_pos c1] at h; exact absurd h c1
  · rw [if_pos c0] at h; exact absurd h c0
end Go.Proofs.Ytpclkgjhfhhddaa.AM
/- What was taken is laid as it was. -/
namespace Go.Proofs.Ytpclkgjhfhhddaa.AM
open Go Go.RowKit Go.Proofs.Ytpclkgjhfhhddaa.PN Go.Proofs.Ytpclkgjhfhhddaa.V
set_option linter.unusedVariables false
set_option linter.unusedSimpArgs false
theorem w4_inv {c : List Int} (hl : c.length = 4) (hb : By c) : encW (w4 c) = c := by
  match c, hl with
  | [c0, c1, c2, c3], _ =>
    have h0 : 0 ≤ c0 ∧ c0 ≤ 255 := hb 0
    have h1 : 0 ≤ c1 ∧ c1 ≤ 255 := hb 1
    have h2 : 0 ≤ c2 ∧ c2 ≤ 255 := hb 2
    have h3 : 0 ≤ c3 ∧ c3 ≤ 255 := hb 3
    obtain ⟨a0, rfl⟩ : ∃ a : Nat, c0 = a := ⟨c0.toNat, by omega⟩
    obtain ⟨a1, rfl⟩ : ∃ a : Nat, c1 = a := ⟨c1.toNat, by omega⟩
    obtain ⟨a2, rfl⟩ : ∃ a : Nat, c2 = a := ⟨c2.toNat, by omega⟩
    obtain ⟨a3, rfl⟩ : ∃ a : Nat, c3 = a := ⟨c3.toNat, by omega⟩
    have e : w4 [(a0 : Int), a1, a2, a3] = a0 + a1 * 2 ^ 8 + a2 * 2 ^ 16 + a3 * 2 ^ 24 := by
      show (borN (borN (borN (a0 : Int) (shlN a1 ((8 : Nat) : Int))) (shlN a2 ((16 : Nat) : Int))) (shlN a3 ((24 : Nat) : Int))).toNat = _
      rw [bor_add (by omega) (by decide) (by omega), bor_add (by omega) (by decide) (by omega), bor_add (by omega) (by decide) (by omega), Int.toNat_natCast]
    rw [e]
    unfold encW
    have f0 : ((a0 + a1 * 2 ^ 8 + a2 * 2 ^ 16 + a3 * 2 ^ 24 : Nat) : Int) % 256 = a0 := by omega
    have f1 : ((a0 + a1 * 2 ^ 8 + a2 * 2 ^ 16 + a3 * 2 ^ 24 : Nat) : Int) / 2 ^ 8 % 256 = a1 := by omega
    have f2 : ((a0 + a1 * 2 ^ 8 + a2 * 2 ^ 16 + a3 * 2 ^ 24 : Nat) : Int) / 2 ^ 16 % 256 = a2 := by omega
    have f3 : ((a0 + a1 * 2 ^ 8 + a2 * 2 ^ 16 + a3 * 2 ^ 24 : Nat) : Int) / 2 ^ 24 % 256 = a3 := by omega
    rw [f0, f1, f2, f3]
theorem tk_inv {n : Nat} {l : List Int} {e : Int} (h : (tkP n l e).2.2 = 0) : e = 0 ∧ l = (tkP n l e).1 ++ (tkP n l e).2.1 := by
  by_cases h0 : e = 0
  · subst h0
    unfold tkP at h ⊢
    rw [if_pos rfl] at h ⊢
    by_cases c : l.length < n
    · rw [if_pos c] at h; cases h
    · rw [if_neg c]; exact ⟨rfl, (List.take_append_drop n l).symm⟩
  · rw [tk_err h0] at h; exact absurd h h0
theorem sm_inv {m : Int} {l : List Int} {e : Int} (hb : By l) (h : (smP m l e).2.2 = 0) : e = 0 ∧ l = (smP m l e).1 :: (smP m l e).2.1 ∧ 0 ≤ (smP m l e).1 ∧ (smP m l e).1 ≤ m := by
  have hl := tk_len 1 l e
  have hby := (tk_by (n := 1) (e := e) hb).1 0
  unfold smP at h ⊢
  by_cases c : (tkP 1 l e).2.2 = 0
  · rw [if_pos c] at h ⊢
    obtain ⟨e0, e1⟩ := tk_inv c
    by_cases d : m < (tkP 1 l e).1.getD 0 0
    · rw [if_pos d] at h; cases h
    · rw [if_neg d]
      refine ⟨e0, ?_, hby.1, by omega⟩
      have : ∀ q : List Int, q.length = 1 → q = [q.getD 0 0] := fun q hq => by
        match q, hq with
        | [x], _ => rfl
      have h2 := this _ hl
      show l = (tkP 1 l e).1.getD 0 0 :: (tkP 1 l e).2.1
      rw [← List.singleton_append, ← h2]
      exact e1
  · rw [if_neg c] at h; exact absurd h c
theorem lmI_inv {l : List Int} {e : Int} (hb : By l) : ∀ i, (lmI l e i).2.2 = 0 → e = 0 ∧ l = (lmI l e i).1.flatMap encW ++ (lmI l e i).2.1
  | 0, h => ⟨h, rfl⟩
  | i + 1, h => by
    have h : (tkP 4 (lmI l e i).2.1 (lmI l e i).2.2).2.2 = 0 := h
    obtain ⟨e0, e1⟩ := tk_inv h
    obtain ⟨f0, f1⟩ := lmI_inv hb i e0
    refine ⟨f0, ?_⟩
    show l = ((lmI l e i).1 ++ [w4 (tkP 4 (lmI l e i).2.1 (lmI l e i).2.2).1]).flatMap encW ++ (tkP 4 (lmI l e i).2.1 (lmI l e i).2.2).2.1
    have hw := w4_inv (tk_len 4 (lmI l e i).2.1 (lmI l e i).2.2) (tk_by (n := 4) (e := (lmI l e i).2.2) (lmI_by hb i).1).1
    rw [List.flatMap_append, List.flatMap_cons, List.flatMap_nil, List.append_nil, hw, List.append_assoc, ← e1]
    exact f1
theorem lm_inv {l : List Int} {e : Int} (hb : By l) (h : (lmP l e).2.2 = 0) : e = 0 ∧ l = encL (lmP l e).1 ++ (lmP l e).2.1 := by
  unfold lmP at h ⊢
  have hby := (sm_by (m := 4) (e := e) hb).1
  obtain ⟨c, f1⟩ := lmI_inv hby _ h
  obtain ⟨e0, e1, e2, e3⟩ := sm_inv hb c
  have hlen := (lmI_by (e := (smP 4 l e).2.2) hby (smP 4 l e).1.toNat).2.2
  refine ⟨e0, ?_⟩
  unfold encL
  rw [List.cons_append, ← f1, hlen]
  have : (((smP 4 l e).1.toNat : Nat) : Int) % 256 = (smP 4 l e).1 := by omega
  rw [this]
  exact e1
theorem nm_inv {l : List Int} {e : Int} (hb : By l) (h : (nmP l e).2.2 = 0) : e = 0 ∧ l = encR (nmP l e).1 ++ (nmP l e).2.1 := by
  have b1 := (sm_by (m := 1) (e := e) hb).1
  have b2 := (lm_by (e := (smP 1 l e).2.2) b1).1
  unfold nmP at h ⊢
  obtain ⟨c2, f2⟩ := lm_inv b2 h
  obtain ⟨c1, f1⟩ := lm_inv b1 c2
  obtain ⟨e0, e1, e2, e3⟩ := sm_inv hb c1
  refine ⟨e0, ?_⟩
  show l = (sgB (decide ((smP 1 l e).1 = 1)) :: (encL (lmP (smP 1 l e).2.1 (smP 1 l e).2.2).1 ++ encL (lmP (lmP (smP 1 l e).2.1 (smP 1 l e).2.2).2.1 (lmP (smP 1 l e).2.1 (smP 1 l e).2.2).2.2).1)) ++ (lmP (lmP (smP 1 l e).2.1 (smP 1 l e).2.2).2.1 (lmP (smP 1 l e).2.1 (smP 1 l e).2.2).2.2).2.1
  have hs : sgB (decide ((smP 1 l e).1 = 1)) = (smP 1 l e).1 := by
    by_cases d : (smP 1 l e).1 = 1
    · rw [decide_eq_true d, d]; rfl
    · rw [decide_eq_false d]; show (0 : Int) = _; omega
  rw [hs, List.cons_append, List.append_assoc, ← f2, ← f1]
  exact e1
theorem rw_inv {l : List Int} {e : Int} (hb : By l) : ∀ n, (rwI l e n).2.2 = 0 → e = 0 ∧ l = (rwI l e n).1.flatMap encR ++ (rwI l e n).2.1
  | 0, h => ⟨h, rfl⟩
  | n + 1, h => by
    have h : (nmP (rwI l e n).2.1 (rwI l e n).2.2).2.2 = 0 := h
    obtain ⟨e0, e1⟩ := nm_inv (rw_by hb n).1 h
    obtain ⟨f0, f1⟩ := rw_inv hb n e0
    refine ⟨f0, ?_⟩
    show l = ((rwI l e n).1 ++ [(nmP (rwI l e n).2.1 (rwI l e n).2.2).1]).flatMap encR ++ (nmP (rwI l e n).2.1 (rwI l e n).2.2).2.1
    rw [List.flatMap_append, List.flatMap_cons, List.flatMap_nil, List.append_nil, List.append_assoc, ← e1]
    exact f1
theorem list_fn {q : List RA} {n : Nat} (h : q.length = n) : q.flatMap encR = encRow n fun i => q.getD i ra0 := by
  subst h
  unfold encRow
  have : q = (List.range q.length).map fun i => q.getD i ra0 := by
    refine List.ext_getElem? fun i => ?_
    rw [List.getElem?_map]
    by_cases hi : i < q.length
    · rw [List.getElem?_range hi, List.getElem?_eq_getElem hi, Option.map_some, List.getD_eq_getElem?_getD, List.getElem?_eq_getElem hi]; rfl
    · rw [List.getElem?_eq_none (by omega), List.getElem?_eq_none (by simpa using Nat.le_of_not_lt hi)]; rfl
  conv => lhs; rw [this]
  rw [List.flatMap_map]
theorem ps_by {l : List Int} (hb : By l) : ∀ i, By (psS l i).1
  | 0 => (tk_by (n := 3) (e := 0) hb).2
  | i + 1 => (rw_by (e := (psS l i).2) (ps_by hb i) (psC l i)).1
/-- Bytes that are read are a system's. -/
theorem ps_inv {l : List Int} (hb : By l) (h : psE l = 0) : ∃ g : GD, g.OK ∧ l = encD g := by
  obtain ⟨g, o, hk, hn, hr, hrow⟩ := gd_of hb h
  refine ⟨g, o, ?_⟩
  unfold psE at h
  by_cases c0 : (tkP 3 l 0).2.2 = 0
  · have n0 : ¬ (tkP 3 l 0).2.2 ≠ 0 := fun c => c c0
    rw [if_neg n0] at h
    by_cases c1 : headV (psk l) (psn l) (psr l) = 0
    · have n1 : ¬ headV (psk l) (psn l) (psr l) ≠ 0 := fun c => c c1
      rw [if_neg n1] at h
      by_cases c2 : (psS l 4).2 = 0
      · have n2 : ¬ (psS l 4).2 ≠ 0 := fun c => c c2
        rw [if_neg n2] at h
        by_cases c3 : 0 < (psS l 4).1.length
        · rw [if_pos c3] at h; cases h
        · have hnil : (psS l 4).1 = [] := List.eq_nil_of_length_eq_zero (by omega)
          have z3 := ps_zero c2
          have z2 := ps_zero z3
          have z1 := ps_zero z2
          have z0 := ps_zero z1
          have step : ∀ i, i < 4 → (psS l (i + 1)).2 = 0 → (psS l i).1 = encRow (g.m i) (g.F i) ++ (psS l (i + 1)).1 := by
            intro i hi hz
            have hz : (rwI (psS l i).1 (psS l i).2 (psC l i)).2.2 = 0 := hz
            obtain ⟨_, e1⟩ := rw_inv (ps_by hb i) (psC l i) hz
            have hlen := (rw_by (e := (psS l i).2) (ps_by hb i) (psC l i)).2.2
            obtain ⟨m1, m2⟩ := hrow i hi
            have hN : psM l i = psC l i := if_pos fun j hj => Classical.byContradiction fun d => by
              have := rw_err d (psC l i - j)
              rw [show j + (psC l i - j) = psC l i by omega] at this
              rw [this] at hz
              exact d hz
            have hm : psC l i = g.m i := hN.symm.trans m1
            have e2 : (rwI (psS l i).1 (psS l i).2 (psC l i)).1.flatMap encR = encRow (g.m i) (g.F i) := by
              rw [list_fn hlen, hm]
              unfold encRow
              have key : ∀ k, k ≤ g.m i → ((List.range k).flatMap fun j => encR ((rwI (psS l i).1 (psS l i).2 (g.m i)).1.getD j ra0)) = (List.range k).flatMap fun j => encR (g.F i j) := by
                intro k
                induction k with
                | zero => intro _; rfl
                | succ k ih =>
                  intro hk
                  rw [List.range_succ, List.flatMap_append, List.flatMap_append, ih (by omega)]
                  have : (rwI (psS l i).1 (psS l i).2 (g.m i)).1.getD k ra0 = rawOf (g.F i k) := by
                    have := m2 k (by omega)
                    unfold psF rwF at this
                    rwa [hm] at this
                  simp only [List.flatMap_cons, List.flatMap_nil, this]
                  rfl
              exact key _ (Nat.le_refl _)
            rw [e2] at e1
            exact e1
          have s3 := step 3 (by decide) c2
          have s2 := step 2 (by decide) z3
          have s1 := step 1 (by decide) z2
          have s0 := step 0 (by decide) z1
          obtain ⟨_, hd⟩ := tk_inv c0
          have hhd : (tkP 3 l 0).1 = encH g.k g.n g.r := by
            have hlen := tk_len 3 l 0
            have hby := (tk_by (n := 3) (e := 0) hb).1
            have k1 : (tkP 3 l 0).1.getD 0 0 = g.k := hk
            have k2 : (tkP 3 l 0).1.getD 1 0 = g.n := hn
            have k3 : (tkP 3 l 0).1.getD 2 0 = g.r := hr
            have hk7 := o.k7
            have hn8 := o.n8
            have hr3 := o.r3
            generalize (tkP 3 l 0).1 = q at *
            match q, hlen with
            | [x, y, z], _ =>
              have k1 : x = g.k := k1
              have k2 : y = g.n := k2
              have k3 : z = g.r := k3
              subst k1; subst k2; subst k3
              unfold encH
              rw [show ((g.k : Nat) : Int) % 256 = g.k by omega, show ((g.n : Nat) : Int) % 256 = g.n by omega, show ((g.r : Nat) : Int) % 256 = g.r by omega]
          have hrest : (tkP 3 l 0).2.1 = (psS l 0).1 := rfl
          rw [hhd, hrest, s0, s1, s2, s3, hnil, List.append_nil] at hd
          rw [hd]
          show _ = encH g.k g.n g.r ++ encRows 4 g.m g.F
          rw [encRows_succ, encRows_succ, encRows_succ, encRows_succ]
          simp [encRows]
      · rw [if_pos c2] at h; exact absurd h c2
    · rw [if_pos c1] at h; exact absurd h c1
  · rw [if_pos c0] at h; exact absurd h c0
end Go.Proofs.Ytpclkgjhfhhddaa.AM
/- Bytes that are laid behind others and written no more. -/
namespace Go.Proofs.Ytpclkgjhfhhddaa.AM
open Go Go.RowKit Go.Proofs.Ytpclkgjhfhhddaa.PN Go.Proofs.Ytpclkgjhfhhddaa.V
set_option linter.unusedVariables false
set_option linter.unusedSimpArgs false
theorem lok_pubo {P : Program} {o : Oper} {s : St} {g d : Nat} {F : Nat → Blk} {rd : List Nat} {y : AV} (old : Option Nat) (h : LOK P o s ⟨some (.own g 0), gone old ++ [(g, some (1, F))], rd⟩) (hd : o.dst = some d)
    (hp : ∀ s' : St, s'.env d = some (.own g 0) → s'.heap g = some (1, F) → Imp s' ⟨put s'.env d (some y), put s'.heap g none, s'.used⟩) : LOK P o s ⟨some y, gone old ++ [(g, none)], rd⟩ := by
  have mem : ∀ {q : Nat} {b b2 c : Option Fam}, (q, b) ∈ gone old ++ [(g, c)] → ∃ b', (q, b') ∈ gone old ++ [(g, b2)] := by
    intro q b b2 c hm
    rcases List.mem_append.1 hm with hm | hm
    · exact ⟨b, List.mem_append_left _ hm⟩
    · simp only [List.mem_singleton, Prod.mk.injEq] at hm
      exact ⟨b2, List.mem_append_right _ (by rw [hm.1]; exact List.mem_singleton.2 rfl)⟩
  refine ⟨fun g' hg' hr => h.1 g' (by obtain ⟨b, hb⟩ := hg'; exact mem hb) hr, fun s2 e1 e2 e3 e4 => ?_⟩
  have h2 := h.2 s2 e1 e2 e3 (fun g' hg' hr => e4 g' (by obtain ⟨b, hb⟩ := hg'; exact mem hb) hr)
  intro W N β w a hs hdN K Q hK
  refine h2 W N β w a hs hdN K Q fun β' a' w' hs' => ?_
  rw [hd] at hs'
  have hheap : (s2.app (some d) ⟨some (.own g 0), gone old ++ [(g, some (1, F))], rd⟩).heap g = some (1, F) := by
    cases old with
    | none => exact put_same _ _ _
    | some q => exact put_same _ _ _
  obtain ⟨β'', hs''⟩ := hp (s2.app (some d) ⟨some (.own g 0), gone old ++ [(g, some (1, F))], rd⟩) (put_same _ _ _) hheap W N β' w' a' hs'
  refine hK β'' a' w' ?_
  rw [hd]
  have e : s2.app (some d) ⟨some y, gone old ++ [(g, none)], rd⟩ = ⟨put (s2.app (some d) ⟨some (.own g 0), gone old ++ [(g, some (1, F))], rd⟩).env d (some y), put (s2.app (some d) ⟨some (.own g 0), gone old ++ [(g, some (1, F))], rd⟩).heap g none, (s2.app (some d) ⟨some (.own g 0), gone old ++ [(g, some (1, F))], rd⟩).used⟩ := by
    cases old with
    | none =>
      show (⟨put s2.env d (some y), put s2.heap g none, mark s2.used g⟩ : St) = ⟨put (put s2.env d _) d (some y), put (put s2.heap g _) g none, mark s2.used g⟩
      rw [put_put, put_put]
    | some q =>
      show (⟨put s2.env d (some y), put (put s2.heap q none) g none, mark (mark s2.used q) g⟩ : St) = ⟨put (put s2.env d _) d (some y), put (put (put s2.heap q none) g _) g none, mark (mark s2.used q) g⟩
      rw [put_put, put_put]
  rw [e]; exact hs''
theorem st_apppub {ops : Array Oper} {k : List Oper} {s : St} {acc : List Fp} {K : St → List Fp → Prop} {d : Tmp} {ty : TypeId} {ps : String} {aft : Array Edge} {x y : Operand} {g : Nat} {l q : List Int} {Fb : Nat → Blk} (g' : Nat)
    (hx : avo s x = some (.own g 0)) (hy : avo s y = some (.seq .u8 q)) (hg : s.heap g = some (1, Fb)) (hFb : Fb 0 = bb l) (hug : s.used g = true) (hg' : s.used g' = false) (hgg : Nat.beq g' g = false) (hn : l.length + q.length ≤ 1000000000)
    (h : AOps Try.prog ops k (nxt s (some d) (some (.seq .u8 (l ++ q))) [(g, none), (g', none)]) (([g], [g, g']) :: acc) K) : AOps Try.prog ops (⟨some d, .call ⟨.builtin .append, #[x, y], #[28, 28]⟩, ty, ps, aft, none⟩ :: k) s acc K := by
  obtain ⟨bytes, he⟩ := el_ok (T := 28) (E := U8T) rfl
  have hne : g' ≠ g := fun e => by rw [e, Nat.beq_refl] at hgg; cases hgg
  have hX : dstOne s U8T (.own g 0) = some (l.length, (fun i => .v (.int .u8 (l.getD i 0))), some g) := by
    unfold dstOne
    simp only [hg, hFb, bb]
    rfl
  have h2 := ok_append_one (o := ⟨some d, .call ⟨.builtin .append, #[x, y], #[28, 28]⟩, ty, ps, aft, none⟩) (s := s) (g := g') rfl he hx hy hX rfl hg' (by simp) (fun r hr => by cases hr; exact ⟨hne, hug⟩) hn
  rw [bb_glue] at h2
  have h3 := lok_pubo (y := .seq .u8 (l ++ q)) (some g) h2 rfl fun s' k1 k2 => imp_seq d (l ++ q) k1 k2 rfl rfl fun i hi => rfl
  exact .cons _ (.inl ⟨.none rfl, h3⟩) h
end Go.Proofs.Ytpclkgjhfhhddaa.AM
/- Numbers from 0 to n - 1, in each package of laws. -/
namespace Go.Proofs.Ytpclkgjhfhhddaa.AM
open Go Go.RowKit Go.Proofs.Ytpclkgjhfhhddaa.PN Go.Proofs.Ytpclkgjhfhhddaa.V
set_option linter.unusedVariables false
set_option linter.unusedSimpArgs false
theorem k_within6 {a n : Int} (hn : 0 < n) (hn' : n < 1000000000) : Has Try.prog 17 [.i a, .i n] (.i (wthn a n)) := by
  refine has_of Try.func17 (by kernel_rfl) rfl Try.ntmps17 Try.results17 rfl rfl rfl ?_
  have h1 := Int.tmod_lt_of_pos a hn
  have h2 : -n < a.tmod n := Int.lt_tmod_of_pos a hn
  refine run0 ?_
  refine awp_if rfl (fun h => ?_) (fun h => ?_)
  · have e : wthn a n = a.tmod n + n := if_pos h
    rw [e]
    refine run0 ?_
    refine ⟨.inr rfl, _, Imp.refl _, ?_⟩
    exact .one (.tmp rfl)
  · have e : wthn a n = a.tmod n := if_neg h
    rw [e]
    refine run0 ?_
    refine ⟨.inr rfl, _, Imp.refl _, ?_⟩
    exact .one (.tmp rfl)
end Go.Proofs.Ytpclkgjhfhhddaa.AM
/- CodeReads: whatever the bytes, both tell the same. -/
namespace Go.Proofs.Ytpclkgjhfhhddaa.AM
open Go Go.RowKit Go.Proofs.Ytpclkgjhfhhddaa.PN Go.Proofs.Ytpclkgjhfhhddaa.V
set_option linter.unusedVariables false
set_option linter.unusedSimpArgs false
set_option maxRecDepth 8000
set_option maxHeartbeats 8000000
theorem wf_u8 {n : Int} (h : (Lit.int .u8 n).wf = true) : 0 ≤ n ∧ n ≤ 255 := by
  unfold Lit.wf at h
  rw [Bool.and_eq_true] at h
  exact ⟨of_decide_eq_true h.1, of_decide_eq_true h.2⟩
theorem row_seq8 {W : World} {a : Option Addr} {len cap : Nat} {zs : List Int} (h : IsRow .u8 W a len cap zs) (B : Nat) (β : Nat → Nat → Value) : ∃ l, By l ∧ RV (fun _ => True) B β W (.seq .u8 l) (.slice a len cap) := by
  rcases h with ⟨rfl, rfl, rfl, rfl⟩ | ⟨x, rfl, h1, h2, h3, h4, h5⟩
  · exact ⟨[], fun i => ⟨Int.le_refl 0, (by show (0 : Int) ≤ 255; decide)⟩, none, 0, rfl, Nat.le_refl _, Nat.zero_le _, fun i hi => absurd hi (Nat.not_lt_zero _)⟩
  · have hl : (zs.take len).length = len := by simp; omega
    have hg : ∀ i, i < len → (zs.take len).getD i 0 = zs.getD i 0 := fun i hi => by
      rw [List.getD_eq_getElem?_getD, List.getD_eq_getElem?_getD, List.getElem?_take, if_pos hi]
    refine ⟨zs.take len, fun i => ?_, some x, cap, by rw [hl], by rw [hl]; exact h1, h2, fun i hi => ?_⟩
    · by_cases hi : i < len
      · rw [hg i hi]
        apply wf_u8
        apply h5
        rw [List.getD_eq_getElem?_getD, List.getElem?_eq_getElem (by omega)]
        exact List.getElem_mem _
      · rw [List.getD_eq_getElem?_getD, List.getElem?_eq_none (by rw [hl]; omega)]
        exact ⟨Int.le_refl 0, (by show (0 : Int) ≤ 255; decide)⟩
    · rw [hl] at hi
      exact ⟨x, rfl, trivial, by rw [hg i hi]; exact h4 i (by omega)⟩
/-- No system. -/
def gd0 : GD := ⟨0, 0, 0, 0, 0, 0, 0, fun _ => 0, fun _ => 0, fun _ => 0, fun _ => 0⟩
theorem rv_err {g : Int} {e k n r : Int} {m : Nat → Nat} {F : Nat → Nat → RA} (he : e ≠ 0) {S : Nat → Prop} {B : Nat} {β : Nat → Nat → Value} {w : World} (v : Value) (hv : RV S B β w (.ag 7 (gF (ifz e k) (ifz e n) (ifz e r) (fun i => ifn e (m i)) F)) v) : RV S B β w gd0.v v := by
  refine rv_agv (fun i hi v hv => ?_) v hv
  match i, hi with
  | 0, _ => have hv : v = .int .i64 (ifz e k) := hv; rw [ifz_ne he] at hv; exact hv
  | 1, _ => have hv : v = .int .i64 (ifz e n) := hv; rw [ifz_ne he] at hv; exact hv
  | 2, _ => have hv : v = .int .i64 (ifz e r) := hv; rw [ifz_ne he] at hv; exact hv
  | 3, _ => have hv : RV S B β w (.row false (ifn e (m 0)) (F 0)) v := hv; rw [ifn_ne he] at hv; exact rv_row (fun i hi => absurd hi (Nat.not_lt_zero _)) v hv
  | 4, _ => have hv : RV S B β w (.row false (ifn e (m 1)) (F 1)) v := hv; rw [ifn_ne he] at hv; exact rv_row (fun i hi => absurd hi (Nat.not_lt_zero _)) v hv
  | 5, _ => have hv : RV S B β w (.row false (ifn e (m 2)) (F 2)) v := hv; rw [ifn_ne he] at hv; exact rv_row (fun i hi => absurd hi (Nat.not_lt_zero _)) v hv
  | 6, _ => have hv : RV S B β w (.row false (ifn e (m 3)) (F 3)) v := hv; rw [ifn_ne he] at hv; exact rv_row (fun i hi => absurd hi (Nat.not_lt_zero _)) v hv
theorem qU_eq {b : List Int} (hb : By b) (h : psE b = 0) : ∀ i, i < 7 → qU b 0 i = psU b 0 i := by
  obtain ⟨_, k⟩ := parse_eq hb
  obtain ⟨e1, e2, e3, hr⟩ := k h
  intro i hi
  match i, hi with
  | 0, _ => show AV.i (ifz 0 (q1 b).1) = .i (ifz 0 (psk b)); rw [e1]
  | 1, _ => show AV.i (ifz 0 (q2 b).1) = .i (ifz 0 (psn b)); rw [e2]
  | 2, _ => show AV.i (ifz 0 (q3 b).1) = .i (ifz 0 (psr b)); rw [e3]
  | 3, _ => show AV.row false (ifn 0 (qM b 0)) (qF b 0) = .row false (ifn 0 (psM b 0)) (psF b 0); rw [(hr 0 (by decide)).1, (hr 0 (by decide)).2.1]
  | 4, _ => show AV.row false (ifn 0 (qM b 1)) (qF b 1) = .row false (ifn 0 (psM b 1)) (psF b 1); rw [(hr 1 (by decide)).1, (hr 1 (by decide)).2.1]
  | 5, _ => show AV.row false (ifn 0 (qM b 2)) (qF b 2) = .row false (ifn 0 (psM b 2)) (psF b 2); rw [(hr 2 (by decide)).1, (hr 2 (by decide)).2.1]
  | 6, _ => show AV.row false (ifn 0 (qM b 3)) (qF b 3) = .row false (ifn 0 (psM b 3)) (psF b 3); rw [(hr 3 (by decide)).1, (hr 3 (by decide)).2.1]
/-- Whatever the bytes. -/
theorem k_any {l : List Int} (hb : By l) (hl : l.length ≤ 1000000) : ∃ g : GD, Shp g g ∧ Has Try.prog 14 [.seq .u8 l] (.tup g.v (.i (psE l))) ∧ Has Try.prog 18 [.seq .u8 l] (.tup g.v (.i (psE l))) := by
  have c := c_parse hb hl
  have d := d_parse hb hl
  have hE := (parse_eq hb).1
  by_cases h : psE l = 0
  · obtain ⟨g, o, rfl⟩ := ps_inv hb h
    have hm := fun i => gd_m o i
    refine ⟨g, shp_self o.sm ⟨by have := hm 0; have e : g.m 0 = g.la := rfl; omega, by have := hm 1; have e : g.m 1 = g.lb := rfl; omega, by have := hm 2; have e : g.m 2 = g.lg := rfl; omega, by have := hm 3; have e : g.m 3 = g.lh := rfl; omega⟩, by rw [h]; exact k_parse o, ?_⟩
    rw [h]
    refine d.to ⟨fun i _ => g.fok _ i, trivial⟩ ?_
    unfold qV
    rw [← hE, h]
    rintro S B β w v ⟨x, y, e, hx, hy⟩
    have hx := rv_ag (qU_eq hb h) x hx
    refine ⟨x, y, e, rv_ps o x ?_, hy⟩
    exact hx
  · refine ⟨gd0, shp_self ⟨fun i hi => absurd hi (Nat.not_lt_zero _), fun i hi => absurd hi (Nat.not_lt_zero _), fun i hi => absurd hi (Nat.not_lt_zero _), fun i hi => absurd hi (Nat.not_lt_zero _)⟩ (by decide), ?_, ?_⟩
    · refine c.to ⟨fun i _ => gd0.fok _ i, trivial⟩ ?_
      rintro S B β w v ⟨x, y, e, hx, hy⟩
      exact ⟨x, y, e, rv_err (g := 0) h x hx, hy⟩
    · refine d.to ⟨fun i _ => gd0.fok _ i, trivial⟩ ?_
      rw [← hE]
      rintro S B β w v ⟨x, y, e, hx, hy⟩
      unfold qV at hx
      rw [← hE] at hx
      exact ⟨x, y, e, rv_err (g := 0) h x hx, hy⟩
end Go.Proofs.Ytpclkgjhfhhddaa.AM
/- CodeOnly, walked. -/
namespace Go.Proofs.Ytpclkgjhfhhddaa.AM
open Go Go.RowKit Go.Proofs.Ytpclkgjhfhhddaa.PN Go.Proofs.Ytpclkgjhfhhddaa.V
set_option linter.unusedVariables false
set_option linter.unusedSimpArgs false
set_option maxRecDepth 8000
set_option maxHeartbeats 8000000
theorem bb_set {σ : Ren} {c : List Int} {k : Nat} {x : Int} : BLe σ (.ones U8T c.length (updN (fun i => .v (.int .u8 (c.getD i 0))) k (.v (.int .u8 x)))) (bb (c.set k x)) := by
  unfold bb
  rw [List.length_set]
  refine bleo rfl fun i hi => ?_
  have e : updN (fun i => AV.v (.int .u8 (c.getD i 0))) k (.v (.int .u8 x)) i = .v (.int .u8 ((c.set k x).getD i 0)) := by
    unfold updN
    rw [List.getD_eq_getElem?_getD (l := c.set k x), List.getElem?_set]
    by_cases h : i = k
    · subst h
      rw [if_pos rfl, if_pos rfl, if_pos hi]; rfl
    · rw [if_neg h, if_neg (Ne.symm h), ← List.getD_eq_getElem?_getD]
  rw [e]
  exact Le.eq rfl rfl
theorem By.set {c : List Int} (h : By c) {k : Nat} {x : Int} (hx : 0 ≤ x ∧ x ≤ 255) : By (c.set k x) := fun i => by
  rw [List.getD_eq_getElem?_getD, List.getElem?_set]
  split
  · split
    · exact hx
    · exact ⟨Int.le_refl 0, (by show (0 : Int) ≤ 255; decide)⟩
  · rw [← List.getD_eq_getElem?_getD]; exact h i
theorem By.app {a b : List Int} (h : By a) (k : By b) : By (a ++ b) := fun i => by
  rw [List.getD_eq_getElem?_getD]
  by_cases c : i < a.length
  · rw [List.getElem?_append_left c, ← List.getD_eq_getElem?_getD]; exact h i
  · rw [List.getElem?_append_right (by omega), ← List.getD_eq_getElem?_getD]; exact k _
theorem encD_pos {g : GD} (o : g.OK) : 6 ≤ (encD g).length := by
  obtain ⟨e0, e1, e2, e3⟩ := gd_cn o
  have hc := (cn_le (k := g.k) (n := g.n) (r := g.r) o.k1 o.k7 o.n1 o.n8 o.r3 o.rk).2.2.2
  have row : ∀ i n, 3 * n ≤ (encRow n (g.F i)).length := by
    intro i n
    induction n with
    | zero => exact Nat.le_refl _
    | succ n ih => rw [encRow_succ, List.length_append, encR_len]; omega
  have r0 := row 0 (g.m 0)
  have r1 := row 1 (g.m 1)
  have r2 := row 2 (g.m 2)
  have r3 := row 3 (g.m 3)
  show 6 ≤ (encH _ _ _ ++ encRows 4 g.m g.F).length
  rw [List.length_append, encRows_succ, encRows_succ, encRows_succ, encRows_succ, List.length_append, List.length_append, List.length_append, List.length_append]
  show 6 ≤ 3 + (0 + _ + _ + _ + _)
  omega
end Go.Proofs.Ytpclkgjhfhhddaa.AM

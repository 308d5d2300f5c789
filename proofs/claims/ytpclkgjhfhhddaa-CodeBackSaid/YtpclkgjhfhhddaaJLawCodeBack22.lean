/- Joined texts, 22: GenI GenJ LawCa LawCb. -/
import Derived.Test.YtpclkgjhfhhddaaJLawCodeBack21
import Derived.Test.YtpclkgjhfhhddaaJLawCodeBack19
set_option linter.unusedVariables false
set_option linter.unusedSimpArgs false
/- Two systems are alike, or not. -/
namespace Go.Proofs.Ytpclkgjhfhhddaa.AM
open Go Go.RowKit Go.Proofs.Ytpclkgjhfhhddaa.PN Go.Proofs.Ytpclkgjhfhhddaa.V
open Go.Proofs.Ytpclkgjhfhhddaa.LA (S S_succ S_zero S_congr)
set_option linter.unusedVariables false
set_option linter.unusedSimpArgs false
set_option maxRecDepth 8000
set_option maxHeartbeats 8000000
/-- Two rows are alike. -/
def alld (n : Nat) (f g : Nat → Rat) : Bool := decide (∀ i, i < n → f i = g i)
theorem first_ne {f g : Nat → Rat} : ∀ n, (∃ i, i < n ∧ f i ≠ g i) → ∃ k, k < n ∧ f k ≠ g k ∧ ∀ i, i < k → f i = g i
  | 0, h => by obtain ⟨i, hi, _⟩ := h; exact absurd hi (Nat.not_lt_zero _)
  | n + 1, h => by
    by_cases e : ∃ i, i < n ∧ f i ≠ g i
    · obtain ⟨k, h1, h2, h3⟩ := first_ne n e
      exact ⟨k, by omega, h2, h3⟩
    · obtain ⟨i, hi, hne⟩ := h
      have hin : i = n := by
        by_cases e2 : i < n
        · exact absurd ⟨i, e2, hne⟩ e
        · omega
      subst hin
      exact ⟨i, hi, hne, fun j hj => Classical.byContradiction fun h' => e ⟨j, hj, h'⟩⟩
theorem not_alld {n : Nat} {f g : Nat → Rat} (h : ¬ ∀ i, i < n → f i = g i) : ∃ k, k < n ∧ f k ≠ g k ∧ ∀ i, i < k → f i = g i :=
  first_ne n (Classical.byContradiction fun h' => h fun i hi => Classical.byContradiction fun h2 => h' ⟨i, hi, h2⟩)
theorem k_rowsd {n : Nat} {f g : Nat → Rat} (hf : ∀ i, i < n → wt (f i) ≤ 1000000) (hg : ∀ i, i < n → wt (g i) ≤ 1000000) (hn : n ≤ 1000) : Has Try.prog 41 [.row false n (fun i => .q (f i)), .row false n (fun i => .q (g i))] (.b (alld n f g)) := by
  by_cases hall : ∀ i, i < n → f i = g i
  · rw [show alld n f g = true from decide_eq_true hall]
    exact k_rowsb (K := 1000000) (fun i hi => ⟨hf i hi⟩) (by decide) (by decide) hn hall
  rw [show alld n f g = false from decide_eq_false hall]
  obtain ⟨k0, hk0, hne, hlt⟩ := not_alld hall
  refine has_of Try.func41 (by kernel_rfl) rfl Try.ntmps41 Try.results41 rfl rfl rfl ?_
  refine run0 ?_
  refine awp_no rfl (decide_eq_false (fun h => h rfl)) ?_
  refine run0 ?_
  refine awp_loop (fun m s => ∃ k, k ≤ k0 ∧ m = n - k ∧ s = stl [(0, .row false n (fun i => .q (f i))), (1, .row false n (fun i => .q (g i))), (5, .i (k : Int))] []) n _ (imp_id ?_ ?_) ⟨0, Nat.zero_le _, rfl, rfl⟩ ?_
  · exact eA
  · exact hA
  · rintro m s ⟨k, hk, rfl, rfl⟩
    have h' : k < n := by omega
    have c := hs_same (p := f k) (q := g k) (Nat.le_trans (hf k h') (by decide)) (Nat.le_trans (hg k h') (by decide))
    refine run0 ?_
    refine awp_yes rfl (decide_eq_true (by omega)) ?_
    by_cases e : k = k0
    · subst e
      rw [decide_eq_false hne] at c
      repeat(first|refine run1 ?_|((with_reducible apply st_call);exact rfl;exact rfl;exact rfl;first|(exact c))|((with_reducible apply st_callg);exact rfl;exact rfl;(first|exact rfl|assumption);exact rfl;exact rfl;exact rfl;first|(exact c)))
      refine awp_yes rfl rfl ?_
      refine run0 ?_
      exact ⟨.inr rfl, _, Imp.refl _, .one (.tmp rfl)⟩
    · rw [decide_eq_true (hlt k (by omega))] at c
      repeat(first|refine run1 ?_|((with_reducible apply st_call);exact rfl;exact rfl;exact rfl;first|(exact c))|((with_reducible apply st_callg);exact rfl;exact rfl;(first|exact rfl|assumption);exact rfl;exact rfl;exact rfl;first|(exact c)))
      refine awp_no rfl rfl ?_
      refine run0 ?_
      refine q_loop ?_ (imp_id ?_ ?_) ⟨k + 1, ?_, rfl, rfl⟩
      · omega
      · exact eA
      · exact hA
      · omega
/-- Two systems of one shape. -/
structure Shp (g h : GD) : Prop where
  k : h.k = g.k
  n : h.n = g.n
  r : h.r = g.r
  la : h.la = g.la
  lb : h.lb = g.lb
  lg : h.lg = g.lg
  lh : h.lh = g.lh
  le : g.la ≤ 1000 ∧ g.lb ≤ 1000 ∧ g.lg ≤ 1000 ∧ g.lh ≤ 1000
  s : g.Sm
  s' : h.Sm
def sameB (g h : GD) : Bool := alld g.la g.A h.A && (alld g.lb g.B h.B && (alld g.lg g.G h.G && alld g.lh g.H h.H))
end Go.Proofs.Ytpclkgjhfhhddaa.AM
/- The document: two systems are alike, or not. -/
namespace Go.Proofs.Ytpclkgjhfhhddaa.AM
open Go Go.RowKit Go.Proofs.Ytpclkgjhfhhddaa.PN Go.Proofs.Ytpclkgjhfhhddaa.V
open Go.Proofs.Ytpclkgjhfhhddaa.LA (S S_succ S_zero S_congr)
set_option linter.unusedVariables false
set_option linter.unusedSimpArgs false
set_option maxRecDepth 8000
set_option maxHeartbeats 8000000
theorem r5_sameb {g h : GD} (t : Shp g h) : Has Try.prog 16 [g.v, h.v] (.b (sameB g h)) := by
  obtain ⟨k, n, r, la, lb, lg, lh, A, B, G, H⟩ := h
  obtain ⟨rfl, rfl, rfl, rfl, rfl, rfl, rfl, le, s, s'⟩ := t
  have gK : decide ((g.k : Int) = g.k) = true := decide_eq_true rfl
  have gK2 : (decide ((g.k : Int) = g.k) == true) = true := by rw [gK]; rfl
  have gN : decide ((g.n : Int) = g.n) = true := decide_eq_true rfl
  have gN2 : (decide ((g.n : Int) = g.n) == true) = true := by rw [gN]; rfl
  have gR : decide ((g.r : Int) = g.r) = true := decide_eq_true rfl
  have gR2 : (decide ((g.r : Int) = g.r) == true) = true := by rw [gR]; rfl
  have cA := k_rowsd (n := g.la) (f := g.A) (g := A) (fun i hi => Nat.le_trans (s.A i hi) (by decide)) (fun i hi => Nat.le_trans (s'.A i hi) (by decide)) le.1
  have cB := k_rowsd (n := g.lb) (f := g.B) (g := B) (fun i hi => Nat.le_trans (s.B i hi) (by decide)) (fun i hi => Nat.le_trans (s'.B i hi) (by decide)) le.2.1
  have cG := k_rowsd (n := g.lg) (f := g.G) (g := G) (fun i hi => Nat.le_trans (s.G i hi) (by decide)) (fun i hi => Nat.le_trans (s'.G i hi) (by decide)) le.2.2.1
  have cH := k_rowsd (n := g.lh) (f := g.H) (g := H) (fun i hi => Nat.le_trans (s.H i hi) (by decide)) (fun i hi => Nat.le_trans (s'.H i hi) (by decide)) le.2.2.2
  show Has Try.prog _ _ (.b (alld g.la g.A A && (alld g.lb g.B B && (alld g.lg g.G G && alld g.lh g.H H))))
  generalize alld g.la g.A A = bA at *
  generalize alld g.lb g.B B = bB at *
  generalize alld g.lg g.G G = bG at *
  generalize alld g.lh g.H H = bH at *
  refine has_of Try.func16 (by kernel_rfl) rfl Try.ntmps16 Try.results16 rfl rfl rfl ?_
  cases bA with
  | false =>
    repeat(first|refine run1p ?_|((with_reducible apply st_call);exact rfl;exact rfl;exact rfl;first|(exact cA)|(exact cB)|(exact cG)|(exact cH))|((with_reducible apply st_callg);exact rfl;exact rfl;(first|exact rfl|assumption);exact rfl;exact rfl;exact rfl;first|(exact cA)|(exact cB)|(exact cG)|(exact cH)))
    exact ⟨.inr rfl, _, Imp.refl _, .one (.tmp rfl)⟩
  | true =>
    cases bB with
    | false =>
      repeat(first|refine run1p ?_|((with_reducible apply st_call);exact rfl;exact rfl;exact rfl;first|(exact cA)|(exact cB)|(exact cG)|(exact cH))|((with_reducible apply st_callg);exact rfl;exact rfl;(first|exact rfl|assumption);exact rfl;exact rfl;exact rfl;first|(exact cA)|(exact cB)|(exact cG)|(exact cH)))
      exact ⟨.inr rfl, _, Imp.refl _, .one (.tmp rfl)⟩
    | true =>
      cases bG with
      | false =>
        repeat(first|refine run1p ?_|((with_reducible apply st_call);exact rfl;exact rfl;exact rfl;first|(exact cA)|(exact cB)|(exact cG)|(exact cH))|((with_reducible apply st_callg);exact rfl;exact rfl;(first|exact rfl|assumption);exact rfl;exact rfl;exact rfl;first|(exact cA)|(exact cB)|(exact cG)|(exact cH)))
        exact ⟨.inr rfl, _, Imp.refl _, .one (.tmp rfl)⟩
      | true =>
        cases bH with
        | false =>
          repeat(first|refine run1p ?_|((with_reducible apply st_call);exact rfl;exact rfl;exact rfl;first|(exact cA)|(exact cB)|(exact cG)|(exact cH))|((with_reducible apply st_callg);exact rfl;exact rfl;(first|exact rfl|assumption);exact rfl;exact rfl;exact rfl;first|(exact cA)|(exact cB)|(exact cG)|(exact cH)))
          exact ⟨.inr rfl, _, Imp.refl _, .one (.tmp rfl)⟩
        | true =>
          repeat(first|refine run1p ?_|((with_reducible apply st_call);exact rfl;exact rfl;exact rfl;first|(exact cA)|(exact cB)|(exact cG)|(exact cH))|((with_reducible apply st_callg);exact rfl;exact rfl;(first|exact rfl|assumption);exact rfl;exact rfl;exact rfl;first|(exact cA)|(exact cB)|(exact cG)|(exact cH)))
          exact ⟨.inr rfl, _, Imp.refl _, .one (.tmp rfl)⟩
theorem alld_self {n : Nat} {f : Nat → Rat} : alld n f f = true := decide_eq_true fun _ _ => rfl
theorem sameB_self {g : GD} : sameB g g = true := by unfold sameB; rw [alld_self, alld_self, alld_self, alld_self]; rfl
theorem shp_self {g : GD} (h : g.Sm) (le : g.la ≤ 1000 ∧ g.lb ≤ 1000 ∧ g.lg ≤ 1000 ∧ g.lh ≤ 1000) : Shp g g := ⟨rfl, rfl, rfl, rfl, rfl, rfl, rfl, le, h, h⟩
/-- One number turned. -/
def gX (a : GD) (p : Bool) (w : Nat) : GD := ⟨a.k, a.n, a.r, a.la, a.lb, a.lg, a.lh, fun i => if p = true ∧ i = w then 777 else a.A i, a.B, fun i => if p = false ∧ i = w then 777 else a.G i, a.H⟩
end Go.Proofs.Ytpclkgjhfhhddaa.AM
/- Chapter 6: what is laid is taken as it was. -/
namespace Go.Proofs.Ytpclkgjhfhhddaa.AM
open Go Go.RowKit Go.Proofs.Ytpclkgjhfhhddaa.PN Go.Proofs.Ytpclkgjhfhhddaa.V
set_option linter.unusedVariables false
set_option linter.unusedSimpArgs false
set_option maxRecDepth 8000
set_option maxHeartbeats 8000000
theorem Has.to {P : Program} {f : FuncId} {xs : List AV} {r r' : AV} (H : Has P f xs r) (hc : r'.ok (fun _ => false)) (h : ∀ S B β w v, RV S B β w r v → RV S B β w r' v) : Has P f xs r' :=
  ⟨H.b, hc, fun w S β vs hv => (H.run w S β vs hv).mono fun e w' ⟨v, h1, h2, h3⟩ => ⟨v, h1, h2, h _ _ _ _ _ h3⟩⟩
/-- Bytes, all of them. -/
def AllB (l : List Int) : Prop := ∀ x ∈ l, 0 ≤ x ∧ x ≤ 255
theorem AllB.by {l : List Int} (h : AllB l) : By l := fun i => by
  rw [List.getD_eq_getElem?_getD]
  cases e : l[i]? with
  | none => exact ⟨Int.le_refl 0, (by show (0 : Int) ≤ 255; decide)⟩
  | some x => exact h x (List.mem_of_getElem? e)
theorem AllB.app {a b : List Int} (h : AllB a) (k : AllB b) : AllB (a ++ b) := fun x hx => (List.mem_append.1 hx).elim (h x) (k x)
theorem allb_mod (x : Int) : 0 ≤ x % 256 ∧ x % 256 ≤ 255 := by omega
theorem allb_L (l : List Nat) : AllB (encL l) := by
  intro x hx
  rcases List.mem_cons.1 hx with rfl | hx
  · exact allb_mod _
  · obtain ⟨y, _, hy⟩ := List.mem_flatMap.1 hx
    simp only [encW, List.mem_cons, List.not_mem_nil, or_false] at hy
    rcases hy with rfl | rfl | rfl | rfl <;> exact allb_mod _
theorem allb_R (r : RA) : AllB (encR r) := by
  intro x hx
  rcases List.mem_cons.1 hx with rfl | hx
  · unfold sgB; split <;> decide
  · exact (allb_L _).app (allb_L _) x hx
theorem allb_G (k n r : Int) (m : Nat → Nat) (F : Nat → Nat → RA) : AllB (encG k n r m F) := by
  refine AllB.app ?_ ?_
  · intro x hx
    simp only [encH, List.mem_cons, List.not_mem_nil, or_false] at hx
    rcases hx with rfl | rfl | rfl <;> exact allb_mod _
  · intro x hx
    obtain ⟨i, _, hi⟩ := List.mem_flatMap.1 hx
    obtain ⟨j, _, hj⟩ := List.mem_flatMap.1 hi
    exact allb_R _ x hj
/-- A system's bytes. -/
def encD (g : GD) : List Int := encG g.k g.n g.r g.m g.F
theorem gd_cn {g : GD} (o : g.OK) : g.m 0 = cnA g.k g.n ∧ g.m 1 = cnB g.k g.n ∧ g.m 2 = cnH g.k g.n g.r ∧ g.m 3 = cnH g.k g.n g.r := by
  obtain ⟨c0, c1, c2, c3⟩ := cnt_eq (r := g.r) o.k1 o.k7 o.n1
  have h0 := o.len 0 (by decide)
  have h1 := o.len 1 (by decide)
  have h2 := o.len 2 (by decide)
  have h3 := o.len 3 (by decide)
  exact ⟨Int.ofNat_inj.1 (h0.trans c0), Int.ofNat_inj.1 (h1.trans c1), Int.ofNat_inj.1 (h2.trans c2), Int.ofNat_inj.1 (h3.trans c3)⟩
theorem gd_m {g : GD} (o : g.OK) (i : Nat) : g.m i ≤ 100 := by
  obtain ⟨e0, e1, e2, e3⟩ := gd_cn o
  have n8 := o.n8
  have r3 := o.r3
  obtain ⟨a, b, c⟩ := cn_le2 (k := g.k) n8 r3
  match i with
  | 0 => rw [e0]; exact a
  | 1 => rw [e1]; exact b
  | 2 => rw [e2]; exact c
  | 3 => rw [e3]; exact c
  | i + 4 => exact Nat.zero_le _
theorem gd_F {g : GD} (o : g.OK) (i j : Nat) : (raN (g.F i j)).length ≤ 1000 ∧ (raD (g.F i j)).length ≤ 1000 := by
  have h := g.encF o i j
  exact ⟨by have := h.2.1; omega, by have := h.2.2; omega⟩
theorem encD_by {g : GD} : By (encD g) := (allb_G _ _ _ _ _).by
theorem encD_len {g : GD} (o : g.OK) : (encD g).length ≤ 30000 := by
  have key : ∀ i n, (encRow n (g.F i)).length ≤ 35 * n := by
    intro i n
    induction n with
    | zero => exact Nat.le_refl _
    | succ n ih =>
      have h := g.encF o i n
      have h1 := h.2.1
      have h2 := h.2.2
      rw [encRow_succ, List.length_append, encR_len]
      omega
  have k2 : ∀ k, (encRows k g.m g.F).length ≤ 3500 * k := by
    intro k
    induction k with
    | zero => exact Nat.le_refl _
    | succ k ih =>
      have h := key k (g.m k)
      have hm := gd_m o k
      rw [encRows_succ, List.length_append]
      omega
  have := k2 4
  show (encH _ _ _ ++ _).length ≤ _
  rw [List.length_append]
  show 3 + _ ≤ _
  omega
theorem rv_gF {g : GD} {S : Nat → Prop} {B : Nat} {β : Nat → Nat → Value} {w : World} (v : Value) (hv : RV S B β w g.v v) : RV S B β w (.ag 7 (gF g.k g.n g.r g.m g.F)) v := by
  refine rv_agv (fun i hi v hv => ?_) v hv
  match i, hi with
  | 0, _ => exact hv
  | 1, _ => exact hv
  | 2, _ => exact hv
  | 3, _ => exact rv_row (fun j hj => congrArg RA.q (if_pos (show j < g.la from hj)).symm) v hv
  | 4, _ => exact rv_row (fun j hj => congrArg RA.q (if_pos (show j < g.lb from hj)).symm) v hv
  | 5, _ => exact rv_row (fun j hj => congrArg RA.q (if_pos (show j < g.lg from hj)).symm) v hv
  | 6, _ => exact rv_row (fun j hj => congrArg RA.q (if_pos (show j < g.lh from hj)).symm) v hv
theorem ps_gd {g : GD} (o : g.OK) : psE (encD g) = 0 ∧ psk (encD g) = g.k ∧ psn (encD g) = g.n ∧ psr (encD g) = g.r ∧ ∀ i, i < 4 → psM (encD g) i = g.m i ∧ ∀ j, j < g.m i → psF (encD g) i j = rawOf (g.F i j) := by
  have k7 := o.k7
  have n8 := o.n8
  have r3 := o.r3
  have hk : g.k ≤ 255 := by omega
  have hn : g.n ≤ 255 := by omega
  have hr : g.r ≤ 255 := by omega
  obtain ⟨e1, e2, e3⟩ := ps_hd (m := g.m) (F := g.F) hk hn hr
  have hrow := fun i (hi : i < 4) => ps_row (F := g.F) hk hn hr (g.encF o) (gd_cn o) (i := i) hi
  refine ⟨?_, e1, e2, e3, hrow⟩
  have h := ps_enc (F := g.F) hk hn hr (g.encF o) (gd_cn o) (head_gd o)
  show psE (encG g.k g.n g.r g.m g.F) = 0
  rw [h]
  unfold psG
  rw [e1, e2, e3]
  have q : ∀ i, i < 4 → PR.Eq (prR (psM (encG g.k g.n g.r g.m g.F) i) (psF (encG g.k g.n g.r g.m g.F) i)) (prR (g.m i) (g.F i)) := fun i hi =>
    ⟨(hrow i hi).1, fun j hj => by
      have hj : j < psM (encG g.k g.n g.r g.m g.F) i := hj
      rw [(hrow i hi).1] at hj
      show (psF (encG g.k g.n g.r g.m g.F) i j).sgn = _ ∧ raN (psF (encG g.k g.n g.r g.m g.F) i j) = _ ∧ raD (psF (encG g.k g.n g.r g.m g.F) i j) = _
      rw [(hrow i hi).2 j hj]
      exact ⟨rfl, rfl, rfl⟩⟩
  have q2 : ∀ {m : Nat} {f : Nat → RA} {h : Nat → Rat}, (∀ j, j < m → f j = .q (h j)) → PR.Eq (prR m f) (prR m fun j => .q (h j)) := fun hf => ⟨rfl, fun j hj => by
    show (_ : RA).sgn = _ ∧ raN _ = _ ∧ raD _ = _
    rw [hf j hj]; exact ⟨rfl, rfl, rfl⟩⟩
  have tr : ∀ {a b c : PR}, a.Eq b → b.Eq c → a.Eq c := fun h k => ⟨h.m.trans k.m, fun i hi => by
    obtain ⟨a1, a2, a3⟩ := h.e i hi
    obtain ⟨b1, b2, b3⟩ := k.e i (by rw [← h.m]; exact hi)
    exact ⟨a1.trans b1, a2.trans b2, a3.trans b3⟩⟩
  refine (chk_congr (tr (q 0 (by decide)) (q2 (h := g.A) fun j hj => ?_)) (tr (q 1 (by decide)) (q2 (h := g.B) fun j hj => ?_)) (tr (q 2 (by decide)) (q2 (h := g.G) fun j hj => ?_)) (tr (q 3 (by decide)) (q2 (h := g.H) fun j hj => ?_))).trans (chk_gd o)
  · exact congrArg RA.q (if_pos (show j < g.la from hj))
  · exact congrArg RA.q (if_pos (show j < g.lb from hj))
  · exact congrArg RA.q (if_pos (show j < g.lg from hj))
  · exact congrArg RA.q (if_pos (show j < g.lh from hj))
theorem k_bytes {g : GD} (o : g.OK) : Has Try.prog 13 [g.v] (.seq .u8 (encD g)) :=
  (w_bytes (gd_F o) (gd_m o)).args fun S B β w vs hv => rvs_cons rv_gF rvs_same hv
theorem k_bytesx {g : GD} (o : g.OK) : Has Try.prog 15 [g.v] (.seq .u8 (encD g)) :=
  (x_bytes (gd_F o) (gd_m o)).args fun S B β w vs hv => rvs_cons rv_gF rvs_same hv
theorem k_parse {g : GD} (o : g.OK) : Has Try.prog 14 [.seq .u8 (encD g)] (.tup g.v (.i 0)) := by
  have hl := encD_len o
  have c := c_parse (l := encD g) encD_by (by omega)
  obtain ⟨h0, e1, e2, e3, hrow⟩ := ps_gd o
  refine c.to ⟨fun i _ => g.fok _ i, trivial⟩ ?_
  unfold psV
  rw [h0]
  rintro S B β w v ⟨x, y, e, hx, hy⟩
  refine ⟨x, y, e, rv_agv (fun i hi v hv => ?_) x hx, hy⟩
  match i, hi with
  | 0, _ => have hv : v = .int .i64 (psk (encD g)) := hv; rw [e1] at hv; exact hv
  | 1, _ => have hv : v = .int .i64 (psn (encD g)) := hv; rw [e2] at hv; exact hv
  | 2, _ => have hv : v = .int .i64 (psr (encD g)) := hv; rw [e3] at hv; exact hv
  | 3, _ => exact raw_row (fr := false) (n := psM (encD g) 0) (hrow 0 (by decide)).1 (fun j hj => by
      rw [(hrow 0 (by decide)).1] at hj
      rw [(hrow 0 (by decide)).2 j hj]
      exact congrArg (fun z => rawOf (.q z)) (if_pos (show j < g.la from hj))) hv
  | 4, _ => exact raw_row (fr := false) (n := psM (encD g) 1) (hrow 1 (by decide)).1 (fun j hj => by
      rw [(hrow 1 (by decide)).1] at hj
      rw [(hrow 1 (by decide)).2 j hj]
      exact congrArg (fun z => rawOf (.q z)) (if_pos (show j < g.lb from hj))) hv
  | 5, _ => exact raw_row (fr := false) (n := psM (encD g) 2) (hrow 2 (by decide)).1 (fun j hj => by
      rw [(hrow 2 (by decide)).1] at hj
      rw [(hrow 2 (by decide)).2 j hj]
      exact congrArg (fun z => rawOf (.q z)) (if_pos (show j < g.lg from hj))) hv
  | 6, _ => exact raw_row (fr := false) (n := psM (encD g) 3) (hrow 3 (by decide)).1 (fun j hj => by
      rw [(hrow 3 (by decide)).1] at hj
      rw [(hrow 3 (by decide)).2 j hj]
      exact congrArg (fun z => rawOf (.q z)) (if_pos (show j < g.lh from hj))) hv
end Go.Proofs.Ytpclkgjhfhhddaa.AM
/- CodeBack, walked. -/
namespace Go.Proofs.Ytpclkgjhfhhddaa.AM
open Go Go.RowKit Go.Proofs.Ytpclkgjhfhhddaa.PN Go.Proofs.Ytpclkgjhfhhddaa.V
set_option linter.unusedVariables false
set_option linter.unusedSimpArgs false
set_option maxRecDepth 8000
set_option maxHeartbeats 8000000
theorem ok_litrow {o : Oper} {s : St} {n d : Nat} {parts : Array (Nat × Operand)} {ys : List AV} {qs : List RA} (g : Nat) (ho : o.op = .buildSlice WT n parts) (hd : o.dst = some d) (hg : s.used g = false) (hi : idxs 0 parts.toList = true) (hn : parts.toList.length = n) (hb : n ≤ 100000) (hy : avos s parts.toList = some ys) (hq : ras ys = some qs) :
    LOK Try.prog o s ⟨some (.row true n fun i => qs.getD i ra0), [(g, none)], []⟩ :=
  lok_pub (ok_build_rat ho hg hi hn hb hy hq) hd fun s' h1 h2 => imp_row d h1 h2 rfl
section
variable {ops : Array Oper} {l : List Oper} {s : St} {acc : List Fp} {K : St → List Fp → Prop} {d : Tmp} {ty : TypeId} {ps : String} {aft : Array Edge} {n : Nat} {parts : Array (Nat × Operand)} {ys : List AV} {qs : List RA}
theorem st_litrowg (g : Nat) {j : Nat} {want b : Bool} {t : Tmp} (ht : (ops[j]?).bind (·.dst) = some t) (he : s.env t = some (.v (.bool b))) (hbw : (b == want) = true) (hg : s.used g = false) (hi : idxs 0 parts.toList = true) (hn : parts.toList.length = n) (hb : n ≤ 100000) (hy : avos s parts.toList = some ys) (hq : ras ys = some qs)
    (k : AOps Try.prog ops l (nxt s (some d) (some (.row true n fun i => qs.getD i ra0)) [(g, none)]) (([], [g]) :: acc) K) : AOps Try.prog ops (⟨some d, .buildSlice WT n parts, ty, ps, aft, some (j, want)⟩ :: l) s acc K :=
  .cons _ (.inl ⟨hbw ▸ .some j want t b rfl ht he, ok_litrow g rfl rfl hg hi hn hb hy hq⟩) k
end
theorem rv_nilseq {S : Nat → Prop} {B : Nat} {β : Nat → Nat → Value} {w : World} (v : Value) (hv : RV S B β w (.v (.slice none 0 0)) v) : RV S B β w (.seq .u8 []) v := by
  have hv : v = .slice none 0 0 := hv
  subst hv
  exact ⟨none, 0, rfl, Nat.le_refl _, Nat.zero_le _, fun i hi => absurd hi (Nat.not_lt_zero _)⟩
def kn6 : Nat → RA := fun i => [RA.raw false [] [1]].getD i ra0
theorem rv_kn {u : Nat → AV} (h0 : u 0 = .i 3) (h1 : u 1 = .i 1) (h2 : u 2 = .i 0) (h3 : u 3 = .row false 1 kn6) (h4 : u 4 = .v (.slice none 0 0)) (h5 : u 5 = .v (.slice none 0 0)) (h6 : u 6 = .v (.slice none 0 0)) {S : Nat → Prop} {B : Nat} {β : Nat → Nat → Value} {w : World} (v : Value) (hv : RV S B β w (.ag 7 u) v) :
    RV S B β w (.ag 7 (gF 3 1 0 (fun i => [1, 0, 0, 0].getD i 0) (fun _ => kn6))) v := by
  refine rv_agv (fun i hi v hv => ?_) v hv
  match i, hi with
  | 0, _ => rw [h0] at hv; exact hv
  | 1, _ => rw [h1] at hv; exact hv
  | 2, _ => rw [h2] at hv; exact hv
  | 3, _ => rw [h3] at hv; exact hv
  | 4, _ => rw [h4] at hv; exact (le_nil (σ := idR)) S B β w v hv
  | 5, _ => rw [h5] at hv; exact (le_nil (σ := idR)) S B β w v hv
  | 6, _ => rw [h6] at hv; exact (le_nil (σ := idR)) S B β w v hv
theorem k_known6 : Has Try.prog 11 [] (.b true) := by
  have c1 : Has Try.prog 14 [.v (.slice none 0 0)] (.tup (.ag 7 (psV [])) (.i 6)) :=
    (c_parse (l := []) (fun i => ⟨Int.le_refl 0, (by show (0 : Int) ≤ 255; decide)⟩) (Nat.zero_le _)).args fun S B β w vs hv => rvs_cons rv_nilseq rvs_same hv
  have c2 : Has Try.prog 13 [.ag 7 (gF 3 1 0 (fun i => [1, 0, 0, 0].getD i 0) (fun _ => kn6))] (.seq .u8 (encG 3 1 0 (fun i => [1, 0, 0, 0].getD i 0) (fun _ => kn6))) :=
    w_bytes (fun i j => by
      show (raN (kn6 j)).length ≤ 1000 ∧ (raD (kn6 j)).length ≤ 1000
      match j with
      | 0 => decide
      | j + 1 => show (raN ra0).length ≤ 1000 ∧ (raD ra0).length ≤ 1000; decide) (fun i => by
      match i with
      | 0 => decide
      | 1 => decide
      | 2 => decide
      | 3 => decide
      | i + 4 => exact Nat.zero_le _)
  have hlen : decide ((((encG 3 1 0 (fun i => [1, 0, 0, 0].getD i 0) (fun _ => kn6)).length : Nat) : Int) = 10) = true := by decide
  refine has_of Try.func11 (by kernel_rfl) rfl Try.ntmps11 Try.results11 rfl rfl rfl ?_
  repeat(first|refine run1p ?_|((with_reducible apply st_call);exact rfl;exact rfl;exact rfl;first|(exact c1))|((with_reducible apply st_callg);exact rfl;exact rfl;(first|exact rfl|assumption);exact rfl;exact rfl;exact rfl;first|(exact c1)))
  refine st_buildg rfl rfl rfl rfl (by rfl) ?_
  refine st_litrowg (ys := [.ra (.raw false [] [1])]) (qs := [.raw false [] [1]]) 40 rfl rfl rfl rfl rfl rfl (Nat.le_of_ble_eq_true rfl) rfl rfl ?_
  refine run0p ?_
  refine st_buildg rfl rfl rfl rfl (by rfl) ?_
  repeat(first|refine run1p ?_|((with_reducible apply st_call);exact rfl;exact rfl;exact rfl;first|(exact c2.args fun S B β w vs hv => rvs_cons (rv_kn rfl rfl rfl rfl rfl rfl rfl) rvs_same hv))|((with_reducible apply st_callg);exact rfl;exact rfl;(first|exact rfl|assumption);exact rfl;exact rfl;exact rfl;first|(exact c2.args fun S B β w vs hv => rvs_cons (rv_kn rfl rfl rfl rfl rfl rfl rfl) rvs_same hv)))
  exact ⟨.inr rfl, _, Imp.refl _, .one (.tmp (congrArg (fun z => some (AV.b z)) hlen))⟩
theorem k_back {kind n : Int} {zs : List Int} (hk : Fits .i64 kind) (hn : Fits .i64 n) (hz : AllFit zs) : Has Try.prog 3 [.i kind, .i n, .seq .i64 zs] (.b true) := by
  have c1 := k_mk (kind := kind) (n := n) (most := 8) (zs := zs) hk hn hz (by decide) (by decide)
  have o := mkg_ok (kind := kind) (n := n) (zs := zs) (most := 8) (by decide) (by decide)
  generalize mkg kind n zs 8 = g at *
  have c2 := k_bytes o
  have c3 := k_parse o
  have c4 := k_bytesx o
  have c5 := r5_sameb (shp_self o.sm (by have h0 := gd_m o 0; have h1 := gd_m o 1; have h2 := gd_m o 2; have h3 := gd_m o 3; have e0 : g.m 0 = g.la := rfl; have e1 : g.m 1 = g.lb := rfl; have e2 : g.m 2 = g.lg := rfl; have e3 : g.m 3 = g.lh := rfl; omega))
  rw [sameB_self] at c5
  have c6 : ∀ {u u' : Nat → AV}, (∀ i, i < 7 → u i = g.f i) → (∀ i, i < 7 → u' i = g.f i) → Has Try.prog 16 [.ag 7 u, .ag 7 u'] (.b true) := fun h1 h2 => c5.args fun S B β w vs hv => rvs_cons (rv_ag h1) (fun us h => rvs_cons (rv_ag h2) rvs_same h) hv
  have hs1 : ((bts (encD g)).toList == (bts (encD g)).toList) = true := beq_self_eq_true _
  have hs2 : (((bts (encD g)).toList == (bts (encD g)).toList) == true) = true := by rw [hs1]; rfl
  refine has_of Try.func3 (by kernel_rfl) rfl Try.ntmps3 Try.results3 rfl rfl rfl ?_
  repeat(first|refine run1p ?_|((with_reducible apply st_call);exact rfl;exact rfl;exact rfl;first|(exact k_known6))|((with_reducible apply st_callg);exact rfl;exact rfl;(first|exact rfl|assumption);exact rfl;exact rfl;exact rfl;first|(exact k_known6)))
  refine awp_no rfl rfl ?_
  repeat(first|refine run1p ?_|((with_reducible apply st_call);exact rfl;exact rfl;exact rfl;first|(exact c1)|(exact Has.ag (u' := g.f) (g7 rfl rfl rfl rfl rfl rfl rfl) c2)|(exact c3))|((with_reducible apply st_callg);exact rfl;exact rfl;(first|exact rfl|assumption);exact rfl;exact rfl;exact rfl;first|(exact c1)|(exact Has.ag (u' := g.f) (g7 rfl rfl rfl rfl rfl rfl rfl) c2)|(exact c3)))
  repeat(first|refine run1p ?_|((with_reducible apply st_call);exact rfl;exact rfl;exact rfl;first|(exact Has.ag (u' := g.f) (g7 rfl rfl rfl rfl rfl rfl rfl) c4)|(exact c6 (g7 rfl rfl rfl rfl rfl rfl rfl) (g7 rfl rfl rfl rfl rfl rfl rfl)))|((with_reducible apply st_callg);exact rfl;exact rfl;(first|exact rfl|assumption);exact rfl;exact rfl;exact rfl;first|(exact Has.ag (u' := g.f) (g7 rfl rfl rfl rfl rfl rfl rfl) c4)|(exact c6 (g7 rfl rfl rfl rfl rfl rfl rfl) (g7 rfl rfl rfl rfl rfl rfl rfl))))
  exact ⟨.inr rfl, _, Imp.refl _, .one (.tmp rfl)⟩
end Go.Proofs.Ytpclkgjhfhhddaa.AM

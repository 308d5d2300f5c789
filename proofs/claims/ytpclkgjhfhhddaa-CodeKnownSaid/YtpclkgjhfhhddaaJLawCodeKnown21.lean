/- Joined texts, 21: LawCa LawCb CdV CdY AmHd Wthn LawCc LawCd LawCg. -/
import Derived.Test.YtpclkgjhfhhddaaJLawCodeKnown20
import Derived.Test.YtpclkgjhfhhddaaJLawCodeKnown18
import Derived.Test.YtpclkgjhfhhddaaJLawCodeKnown19
import Derived.Test.YtpclkgjhfhhddaaJLawCodeKnown16
set_option linter.unusedVariables false
set_option linter.unusedSimpArgs false
/- Chapter 6: what is laid is taken as it was. -/
namespace Go.Proofs.Ytpclkgjhfhhddaa.AM
open Go Go.RowKit Go.Proofs.Ytpclkgjhfhhddaa.PN Go.Proofs.Ytpclkgjhfhhddaa.V
set_option linter.unusedVariables false
set_option linter.unusedSimpArgs false
set_option maxRecDepth 8000
set_option maxHeartbeats 8000000
theorem Has.to {P : Program} {f : FuncId} {xs : List AV} {r r' : AV} (H : Has P f xs r) (hc : r'.ok (fun _ => false)) (h : ∀ S B β w v, RV S B β w r v → RV S B β w r' v) : Has P f xs r' :=
  ⟨H.b, hc, fun w S β vs hv => (H.run w S β vs hv).mono fun e w' ⟨v, h1, h2, h3⟩ => ⟨v, h1, h2, h _ _ _ _ _ h3⟩⟩
/-- Bytes, all of them. -/
def AllB (l : List Int) : Prop := ∀ x ∈ l, 0 ≤ x ∧ x ≤ 255
theorem AllB.by {l : List Int} (h : AllB l) : By l := fun i => by
  rw [List.getD_eq_getElem?_getD]
  cases e : l[i]? with
  | none => exact ⟨Int.le_refl 0, (by show (0 : Int) ≤ 255; decide)⟩
  | some x => exact h x (List.mem_of_getElem? e)
theorem AllB.app {a b : List Int} (h : AllB a) (k : AllB b) : AllB (a ++ b) := fun x hx => (List.mem_append.1 hx).elim (h x) (k x)
theorem allb_mod (x : Int) : 0 ≤ x % 256 ∧ x % 256 ≤ 255 := by omega
theorem allb_L (l : List Nat) : AllB (encL l) := by
  intro x hx
  rcases List.mem_cons.1 hx with rfl | hx
  · exact allb_mod _
  · obtain ⟨y, _, hy⟩ := List.mem_flatMap.1 hx
    simp only [encW, List.mem_cons, List.not_mem_nil, or_false] at hy
    rcases hy with rfl | rfl | rfl | rfl <;> exact allb_mod _
theorem allb_R (r : RA) : AllB (encR r) := by
  intro x hx
  rcases List.mem_cons.1 hx with rfl | hx
  · unfold sgB; split <;> decide
  · exact (allb_L _).app (allb_L _) x hx
theorem allb_G (k n r : Int) (m : Nat → Nat) (F : Nat → Nat → RA) : AllB (encG k n r m F) := by
  refine AllB.app ?_ ?_
  · intro x hx
    simp only [encH, List.mem_cons, List.not_mem_nil, or_false] at hx
    rcases hx with rfl | rfl | rfl <;> exact allb_mod _
  · intro x hx
    obtain ⟨i, _, hi⟩ := List.mem_flatMap.1 hx
    obtain ⟨j, _, hj⟩ := List.mem_flatMap.1 hi
    exact allb_R _ x hj
/-- A system's bytes. -/
def encD (g : GD) : List Int := encG g.k g.n g.r g.m g.F
theorem gd_cn {g : GD} (o : g.OK) : g.m 0 = cnA g.k g.n ∧ g.m 1 = cnB g.k g.n ∧ g.m 2 = cnH g.k g.n g.r ∧ g.m 3 = cnH g.k g.n g.r := by
  obtain ⟨c0, c1, c2, c3⟩ := cnt_eq (r := g.r) o.k1 o.k7 o.n1
  have h0 := o.len 0 (by decide)
  have h1 := o.len 1 (by decide)
  have h2 := o.len 2 (by decide)
  have h3 := o.len 3 (by decide)
  exact ⟨Int.ofNat_inj.1 (h0.trans c0), Int.ofNat_inj.1 (h1.trans c1), Int.ofNat_inj.1 (h2.trans c2), Int.ofNat_inj.1 (h3.trans c3)⟩
theorem gd_m {g : GD} (o : g.OK) (i : Nat) : g.m i ≤ 100 := by
  obtain ⟨e0, e1, e2, e3⟩ := gd_cn o
  have n8 := o.n8
  have r3 := o.r3
  obtain ⟨a, b, c⟩ := cn_le2 (k := g.k) n8 r3
  match i with
  | 0 => rw [e0]; exact a
  | 1 => rw [e1]; exact b
  | 2 => rw [e2]; exact c
  | 3 => rw [e3]; exact c
  | i + 4 => exact Nat.zero_le _
theorem gd_F {g : GD} (o : g.OK) (i j : Nat) : (raN (g.F i j)).length ≤ 1000 ∧ (raD (g.F i j)).length ≤ 1000 := by
  have h := g.encF o i j
  exact ⟨by have := h.2.1; omega, by have := h.2.2; omega⟩
theorem encD_by {g : GD} : By (encD g) := (allb_G _ _ _ _ _).by
theorem encD_len {g : GD} (o : g.OK) : (encD g).length ≤ 30000 := by
  have key : ∀ i n, (encRow n (g.F i)).length ≤ 35 * n := by
    intro i n
    induction n with
    | zero => exact Nat.le_refl _
    | succ n ih =>
      have h := g.encF o i n
      have h1 := h.2.1
      have h2 := h.2.2
      rw [encRow_succ, List.length_append, encR_len]
      omega
  have k2 : ∀ k, (encRows k g.m g.F).length ≤ 3500 * k := by
    intro k
    induction k with
    | zero => exact Nat.le_refl _
    | succ k ih =>
      have h := key k (g.m k)
      have hm := gd_m o k
      rw [encRows_succ, List.length_append]
      omega
  have := k2 4
  show (encH _ _ _ ++ _).length ≤ _
  rw [List.length_append]
  show 3 + _ ≤ _
  omega
theorem rv_gF {g : GD} {S : Nat → Prop} {B : Nat} {β : Nat → Nat → Value} {w : World} (v : Value) (hv : RV S B β w g.v v) : RV S B β w (.ag 7 (gF g.k g.n g.r g.m g.F)) v := by
  refine rv_agv (fun i hi v hv => ?_) v hv
  match i, hi with
  | 0, _ => exact hv
  | 1, _ => exact hv
  | 2, _ => exact hv
  | 3, _ => exact rv_row (fun j hj => congrArg RA.q (if_pos (show j < g.la from hj)).symm) v hv
  | 4, _ => exact rv_row (fun j hj => congrArg RA.q (if_pos (show j < g.lb from hj)).symm) v hv
  | 5, _ => exact rv_row (fun j hj => congrArg RA.q (if_pos (show j < g.lg from hj)).symm) v hv
  | 6, _ => exact rv_row (fun j hj => congrArg RA.q (if_pos (show j < g.lh from hj)).symm) v hv
theorem ps_gd {g : GD} (o : g.OK) : psE (encD g) = 0 ∧ psk (encD g) = g.k ∧ psn (encD g) = g.n ∧ psr (encD g) = g.r ∧ ∀ i, i < 4 → psM (encD g) i = g.m i ∧ ∀ j, j < g.m i → psF (encD g) i j = rawOf (g.F i j) := by
  have k7 := o.k7
  have n8 := o.n8
  have r3 := o.r3
  have hk : g.k ≤ 255 := by omega
  have hn : g.n ≤ 255 := by omega
  have hr : g.r ≤ 255 := by omega
  obtain ⟨e1, e2, e3⟩ := ps_hd (m := g.m) (F := g.F) hk hn hr
  have hrow := fun i (hi : i < 4) => ps_row (F := g.F) hk hn hr (g.encF o) (gd_cn o) (i := i) hi
  refine ⟨?_, e1, e2, e3, hrow⟩
  have h := ps_enc (F := g.F) hk hn hr (g.encF o) (gd_cn o) (head_gd o)
  show psE (encG g.k g.n g.r g.m g.F) = 0
  rw [h]
  unfold psG
  rw [e1, e2, e3]
  have q : ∀ i, i < 4 → PR.Eq (prR (psM (encG g.k g.n g.r g.m g.F) i) (psF (encG g.k g.n g.r g.m g.F) i)) (prR (g.m i) (g.F i)) := fun i hi =>
    ⟨(hrow i hi).1, fun j hj => by
      have hj : j < psM (encG g.k g.n g.r g.m g.F) i := hj
      rw [(hrow i hi).1] at hj
      show (psF (encG g.k g.n g.r g.m g.F) i j).sgn = _ ∧ raN (psF (encG g.k g.n g.r g.m g.F) i j) = _ ∧ raD (psF (encG g.k g.n g.r g.m g.F) i j) = _
      rw [(hrow i hi).2 j hj]
      exact ⟨rfl, rfl, rfl⟩⟩
  have q2 : ∀ {m : Nat} {f : Nat → RA} {h : Nat → Rat}, (∀ j, j < m → f j = .q (h j)) → PR.Eq (prR m f) (prR m fun j => .q (h j)) := fun hf => ⟨rfl, fun j hj => by
    show (_ : RA).sgn = _ ∧ raN _ = _ ∧ raD _ = _
    rw [hf j hj]; exact ⟨rfl, rfl, rfl⟩⟩
  have tr : ∀ {a b c : PR}, a.Eq b → b.Eq c → a.Eq c := fun h k => ⟨h.m.trans k.m, fun i hi => by
    obtain ⟨a1, a2, a3⟩ := h.e i hi
    obtain ⟨b1, b2, b3⟩ := k.e i (by rw [← h.m]; exact hi)
    exact ⟨a1.trans b1, a2.trans b2, a3.trans b3⟩⟩
  refine (chk_congr (tr (q 0 (by decide)) (q2 (h := g.A) fun j hj => ?_)) (tr (q 1 (by decide)) (q2 (h := g.B) fun j hj => ?_)) (tr (q 2 (by decide)) (q2 (h := g.G) fun j hj => ?_)) (tr (q 3 (by decide)) (q2 (h := g.H) fun j hj => ?_))).trans (chk_gd o)
  · exact congrArg RA.q (if_pos (show j < g.la from hj))
  · exact congrArg RA.q (if_pos (show j < g.lb from hj))
  · exact congrArg RA.q (if_pos (show j < g.lg from hj))
  · exact congrArg RA.q (if_pos (show j < g.lh from hj))
theorem k_bytes {g : GD} (o : g.OK) : Has Try.prog 13 [g.v] (.seq .u8 (encD g)) :=
  (w_bytes (gd_F o) (gd_m o)).args fun S B β w vs hv => rvs_cons rv_gF rvs_same hv
theorem rv_ps {g : GD} (o : g.OK) {S : Nat → Prop} {B : Nat} {β : Nat → Nat → Value} {w : World} (x : Value) (hx : RV S B β w (.ag 7 (psU (encD g) 0)) x) : RV S B β w g.v x := by
  obtain ⟨h0, e1, e2, e3, hrow⟩ := ps_gd o
  refine rv_agv (fun i hi v hv => ?_) x hx
  match i, hi with
  | 0, _ => have hv : v = .int .i64 (psk (encD g)) := hv; rw [e1] at hv; exact hv
  | 1, _ => have hv : v = .int .i64 (psn (encD g)) := hv; rw [e2] at hv; exact hv
  | 2, _ => have hv : v = .int .i64 (psr (encD g)) := hv; rw [e3] at hv; exact hv
  | 3, _ => exact raw_row (fr := false) (n := psM (encD g) 0) (hrow 0 (by decide)).1 (fun j hj => by
      rw [(hrow 0 (by decide)).1] at hj
      rw [(hrow 0 (by decide)).2 j hj]
      exact congrArg (fun z => rawOf (.q z)) (if_pos (show j < g.la from hj))) hv
  | 4, _ => exact raw_row (fr := false) (n := psM (encD g) 1) (hrow 1 (by decide)).1 (fun j hj => by
      rw [(hrow 1 (by decide)).1] at hj
      rw [(hrow 1 (by decide)).2 j hj]
      exact congrArg (fun z => rawOf (.q z)) (if_pos (show j < g.lb from hj))) hv
  | 5, _ => exact raw_row (fr := false) (n := psM (encD g) 2) (hrow 2 (by decide)).1 (fun j hj => by
      rw [(hrow 2 (by decide)).1] at hj
      rw [(hrow 2 (by decide)).2 j hj]
      exact congrArg (fun z => rawOf (.q z)) (if_pos (show j < g.lg from hj))) hv
  | 6, _ => exact raw_row (fr := false) (n := psM (encD g) 3) (hrow 3 (by decide)).1 (fun j hj => by
      rw [(hrow 3 (by decide)).1] at hj
      rw [(hrow 3 (by decide)).2 j hj]
      exact congrArg (fun z => rawOf (.q z)) (if_pos (show j < g.lh from hj))) hv
theorem k_parse {g : GD} (o : g.OK) : Has Try.prog 14 [.seq .u8 (encD g)] (.tup g.v (.i 0)) := by
  have hl := encD_len o
  have c := c_parse (l := encD g) encD_by (by omega)
  have h0 := (ps_gd o).1
  refine c.to ⟨fun i _ => g.fok _ i, trivial⟩ ?_
  unfold psV
  rw [h0]
  rintro S B β w v ⟨x, y, e, hx, hy⟩
  exact ⟨x, y, e, rv_ps o x hx, hy⟩
end Go.Proofs.Ytpclkgjhfhhddaa.AM
/- CodeBack, walked. -/
namespace Go.Proofs.Ytpclkgjhfhhddaa.AM
open Go Go.RowKit Go.Proofs.Ytpclkgjhfhhddaa.PN Go.Proofs.Ytpclkgjhfhhddaa.V
set_option linter.unusedVariables false
set_option linter.unusedSimpArgs false
set_option maxRecDepth 8000
set_option maxHeartbeats 8000000
theorem ok_litrow {o : Oper} {s : St} {n d : Nat} {parts : Array (Nat × Operand)} {ys : List AV} {qs : List RA} (g : Nat) (ho : o.op = .buildSlice WT n parts) (hd : o.dst = some d) (hg : s.used g = false) (hi : idxs 0 parts.toList = true) (hn : parts.toList.length = n) (hb : n ≤ 100000) (hy : avos s parts.toList = some ys) (hq : ras ys = some qs) :
    LOK Try.prog o s ⟨some (.row true n fun i => qs.getD i ra0), [(g, none)], []⟩ :=
  lok_pub (ok_build_rat ho hg hi hn hb hy hq) hd fun s' h1 h2 => imp_row d h1 h2 rfl
section
variable {ops : Array Oper} {l : List Oper} {s : St} {acc : List Fp} {K : St → List Fp → Prop} {d : Tmp} {ty : TypeId} {ps : String} {aft : Array Edge} {n : Nat} {parts : Array (Nat × Operand)} {ys : List AV} {qs : List RA}
theorem st_litrowg (g : Nat) {j : Nat} {want b : Bool} {t : Tmp} (ht : (ops[j]?).bind (·.dst) = some t) (he : s.env t = some (.v (.bool b))) (hbw : (b == want) = true) (hg : s.used g = false) (hi : idxs 0 parts.toList = true) (hn : parts.toList.length = n) (hb : n ≤ 100000) (hy : avos s parts.toList = some ys) (hq : ras ys = some qs)
    (k : AOps Try.prog ops l (nxt s (some d) (some (.row true n fun i => qs.getD i ra0)) [(g, none)]) (([], [g]) :: acc) K) : AOps Try.prog ops (⟨some d, .buildSlice WT n parts, ty, ps, aft, some (j, want)⟩ :: l) s acc K :=
  .cons _ (.inl ⟨hbw ▸ .some j want t b rfl ht he, ok_litrow g rfl rfl hg hi hn hb hy hq⟩) k
end
theorem rv_nilseq {S : Nat → Prop} {B : Nat} {β : Nat → Nat → Value} {w : World} (v : Value) (hv : RV S B β w (.v (.slice none 0 0)) v) : RV S B β w (.seq .u8 []) v := by
  have hv : v = .slice none 0 0 := hv
  subst hv
  exact ⟨none, 0, rfl, Nat.le_refl _, Nat.zero_le _, fun i hi => absurd hi (Nat.not_lt_zero _)⟩
def kn6 : Nat → RA := fun i => [RA.raw false [] [1]].getD i ra0
theorem rv_kn {u : Nat → AV} (h0 : u 0 = .i 3) (h1 : u 1 = .i 1) (h2 : u 2 = .i 0) (h3 : u 3 = .row false 1 kn6) (h4 : u 4 = .v (.slice none 0 0)) (h5 : u 5 = .v (.slice none 0 0)) (h6 : u 6 = .v (.slice none 0 0)) {S : Nat → Prop} {B : Nat} {β : Nat → Nat → Value} {w : World} (v : Value) (hv : RV S B β w (.ag 7 u) v) :
    RV S B β w (.ag 7 (gF 3 1 0 (fun i => [1, 0, 0, 0].getD i 0) (fun _ => kn6))) v := by
  refine rv_agv (fun i hi v hv => ?_) v hv
  match i, hi with
  | 0, _ => rw [h0] at hv; exact hv
  | 1, _ => rw [h1] at hv; exact hv
  | 2, _ => rw [h2] at hv; exact hv
  | 3, _ => rw [h3] at hv; exact hv
  | 4, _ => rw [h4] at hv; exact (le_nil (σ := idR)) S B β w v hv
  | 5, _ => rw [h5] at hv; exact (le_nil (σ := idR)) S B β w v hv
  | 6, _ => rw [h6] at hv; exact (le_nil (σ := idR)) S B β w v hv
theorem k_known6 : Has Try.prog 11 [] (.b true) := by
  have c1 : Has Try.prog 14 [.v (.slice none 0 0)] (.tup (.ag 7 (psV [])) (.i 6)) :=
    (c_parse (l := []) (fun i => ⟨Int.le_refl 0, (by show (0 : Int) ≤ 255; decide)⟩) (Nat.zero_le _)).args fun S B β w vs hv => rvs_cons rv_nilseq rvs_same hv
  have c2 : Has Try.prog 13 [.ag 7 (gF 3 1 0 (fun i => [1, 0, 0, 0].getD i 0) (fun _ => kn6))] (.seq .u8 (encG 3 1 0 (fun i => [1, 0, 0, 0].getD i 0) (fun _ => kn6))) :=
    w_bytes (fun i j => by
      show (raN (kn6 j)).length ≤ 1000 ∧ (raD (kn6 j)).length ≤ 1000
      match j with
      | 0 => decide
      | j + 1 => show (raN ra0).length ≤ 1000 ∧ (raD ra0).length ≤ 1000; decide) (fun i => by
      match i with
      | 0 => decide
      | 1 => decide
      | 2 => decide
      | 3 => decide
      | i + 4 => exact Nat.zero_le _)
  have hlen : decide ((((encG 3 1 0 (fun i => [1, 0, 0, 0].getD i 0) (fun _ => kn6)).length : Nat) : Int) = 10) = true := by decide
  refine has_of Try.func11 (by kernel_rfl) rfl Try.ntmps11 Try.results11 rfl rfl rfl ?_
  repeat(first|refine run1p ?_|((with_reducible apply st_call);exact rfl;exact rfl;exact rfl;first|(exact c1))|((with_reducible apply st_callg);exact rfl;exact rfl;(first|exact rfl|assumption);exact rfl;exact rfl;exact rfl;first|(exact c1)))
  refine st_buildg rfl rfl rfl rfl (by rfl) ?_
  refine st_litrowg (ys := [.ra (.raw false [] [1])]) (qs := [.raw false [] [1]]) 40 rfl rfl rfl rfl rfl rfl (Nat.le_of_ble_eq_true rfl) rfl rfl ?_
  refine run0p ?_
  refine st_buildg rfl rfl rfl rfl (by rfl) ?_
  repeat(first|refine run1p ?_|((with_reducible apply st_call);exact rfl;exact rfl;exact rfl;first|(exact c2.args fun S B β w vs hv => rvs_cons (rv_kn rfl rfl rfl rfl rfl rfl rfl) rvs_same hv))|((with_reducible apply st_callg);exact rfl;exact rfl;(first|exact rfl|assumption);exact rfl;exact rfl;exact rfl;first|(exact c2.args fun S B β w vs hv => rvs_cons (rv_kn rfl rfl rfl rfl rfl rfl rfl) rvs_same hv)))
  exact ⟨.inr rfl, _, Imp.refl _, .one (.tmp (congrArg (fun z => some (AV.b z)) hlen))⟩
end Go.Proofs.Ytpclkgjhfhhddaa.AM
/- What is taken without an error is a system that may be. -/
namespace Go.Proofs.Ytpclkgjhfhhddaa.AM
open Go Go.RowKit Go.Proofs.Ytpclkgjhfhhddaa.PN Go.Proofs.Ytpclkgjhfhhddaa.V
set_option linter.unusedVariables false
set_option linter.unusedSimpArgs false
/-- A raw number. -/
def RA.isRaw : RA → Prop
  | .raw _ _ _ => True
  | .q _ => False
end Go.Proofs.Ytpclkgjhfhhddaa.AM
/- What was taken is laid as it was. -/
namespace Go.Proofs.Ytpclkgjhfhhddaa.AM
open Go Go.RowKit Go.Proofs.Ytpclkgjhfhhddaa.PN Go.Proofs.Ytpclkgjhfhhddaa.V
set_option linter.unusedVariables false
set_option linter.unusedSimpArgs false
end Go.Proofs.Ytpclkgjhfhhddaa.AM
/- Bytes that are laid behind others and written no more. -/
namespace Go.Proofs.Ytpclkgjhfhhddaa.AM
open Go Go.RowKit Go.Proofs.Ytpclkgjhfhhddaa.PN Go.Proofs.Ytpclkgjhfhhddaa.V
set_option linter.unusedVariables false
set_option linter.unusedSimpArgs false
theorem lok_pubo {P : Program} {o : Oper} {s : St} {g d : Nat} {F : Nat → Blk} {rd : List Nat} {y : AV} (old : Option Nat) (h : LOK P o s ⟨some (.own g 0), gone old ++ [(g, some (1, F))], rd⟩) (hd : o.dst = some d)
    (hp : ∀ s' : St, s'.env d = some (.own g 0) → s'.heap g = some (1, F) → Imp s' ⟨put s'.env d (some y), put s'.heap g none, s'.used⟩) : LOK P o s ⟨some y, gone old ++ [(g, none)], rd⟩ := by
  have mem : ∀ {q : Nat} {b b2 c : Option Fam}, (q, b) ∈ gone old ++ [(g, c)] → ∃ b', (q, b') ∈ gone old ++ [(g, b2)] := by
    intro q b b2 c hm
    rcases List.mem_append.1 hm with hm | hm
    · exact ⟨b, List.mem_append_left _ hm⟩
    · simp only [List.mem_singleton, Prod.mk.injEq] at hm
      exact ⟨b2, List.mem_append_right _ (by rw [hm.1]; exact List.mem_singleton.2 rfl)⟩
  refine ⟨fun g' hg' hr => h.1 g' (by obtain ⟨b, hb⟩ := hg'; exact mem hb) hr, fun s2 e1 e2 e3 e4 => ?_⟩
  have h2 := h.2 s2 e1 e2 e3 (fun g' hg' hr => e4 g' (by obtain ⟨b, hb⟩ := hg'; exact mem hb) hr)
  intro W N β w a hs hdN K Q hK
  refine h2 W N β w a hs hdN K Q fun β' a' w' hs' => ?_
  rw [hd] at hs'
  have hheap : (s2.app (some d) ⟨some (.own g 0), gone old ++ [(g, some (1, F))], rd⟩).heap g = some (1, F) := by
    cases old with
    | none => exact put_same _ _ _
    | some q => exact put_same _ _ _
  obtain ⟨β'', hs''⟩ := hp (s2.app (some d) ⟨some (.own g 0), gone old ++ [(g, some (1, F))], rd⟩) (put_same _ _ _) hheap W N β' w' a' hs'
  refine hK β'' a' w' ?_
  rw [hd]
  have e : s2.app (some d) ⟨some y, gone old ++ [(g, none)], rd⟩ = ⟨put (s2.app (some d) ⟨some (.own g 0), gone old ++ [(g, some (1, F))], rd⟩).env d (some y), put (s2.app (some d) ⟨some (.own g 0), gone old ++ [(g, some (1, F))], rd⟩).heap g none, (s2.app (some d) ⟨some (.own g 0), gone old ++ [(g, some (1, F))], rd⟩).used⟩ := by
    cases old with
    | none =>
      show (⟨put s2.env d (some y), put s2.heap g none, mark s2.used g⟩ : St) = ⟨put (put s2.env d _) d (some y), put (put s2.heap g _) g none, mark s2.used g⟩
      rw [put_put, put_put]
    | some q =>
      show (⟨put s2.env d (some y), put (put s2.heap q none) g none, mark (mark s2.used q) g⟩ : St) = ⟨put (put s2.env d _) d (some y), put (put (put s2.heap q none) g _) g none, mark (mark s2.used q) g⟩
      rw [put_put, put_put]
  rw [e]; exact hs''
theorem st_apppub {ops : Array Oper} {k : List Oper} {s : St} {acc : List Fp} {K : St → List Fp → Prop} {d : Tmp} {ty : TypeId} {ps : String} {aft : Array Edge} {x y : Operand} {g : Nat} {l q : List Int} {Fb : Nat → Blk} (g' : Nat)
    (hx : avo s x = some (.own g 0)) (hy : avo s y = some (.seq .u8 q)) (hg : s.heap g = some (1, Fb)) (hFb : Fb 0 = bb l) (hug : s.used g = true) (hg' : s.used g' = false) (hgg : Nat.beq g' g = false) (hn : l.length + q.length ≤ 1000000000)
    (h : AOps Try.prog ops k (nxt s (some d) (some (.seq .u8 (l ++ q))) [(g, none), (g', none)]) (([g], [g, g']) :: acc) K) : AOps Try.prog ops (⟨some d, .call ⟨.builtin .append, #[x, y], #[28, 28]⟩, ty, ps, aft, none⟩ :: k) s acc K := by
  obtain ⟨bytes, he⟩ := el_ok (T := 28) (E := U8T) rfl
  have hne : g' ≠ g := fun e => by rw [e, Nat.beq_refl] at hgg; cases hgg
  have hX : dstOne s U8T (.own g 0) = some (l.length, (fun i => .v (.int .u8 (l.getD i 0))), some g) := by
    unfold dstOne
    simp only [hg, hFb, bb]
    rfl
  have h2 := ok_append_one (o := ⟨some d, .call ⟨.builtin .append, #[x, y], #[28, 28]⟩, ty, ps, aft, none⟩) (s := s) (g := g') rfl he hx hy hX rfl hg' (by simp) (fun r hr => by cases hr; exact ⟨hne, hug⟩) hn
  rw [bb_glue] at h2
  have h3 := lok_pubo (y := .seq .u8 (l ++ q)) (some g) h2 rfl fun s' k1 k2 => imp_seq d (l ++ q) k1 k2 rfl rfl fun i hi => rfl
  exact .cons _ (.inl ⟨.none rfl, h3⟩) h
end Go.Proofs.Ytpclkgjhfhhddaa.AM
/- Numbers from 0 to n - 1, in each package of laws. -/
namespace Go.Proofs.Ytpclkgjhfhhddaa.AM
open Go Go.RowKit Go.Proofs.Ytpclkgjhfhhddaa.PN Go.Proofs.Ytpclkgjhfhhddaa.V
set_option linter.unusedVariables false
set_option linter.unusedSimpArgs false
theorem k_within6 {a n : Int} (hn : 0 < n) (hn' : n < 1000000000) : Has Try.prog 17 [.i a, .i n] (.i (wthn a n)) := by
  refine has_of Try.func17 (by kernel_rfl) rfl Try.ntmps17 Try.results17 rfl rfl rfl ?_
  have h1 := Int.tmod_lt_of_pos a hn
  have h2 : -n < a.tmod n := Int.lt_tmod_of_pos a hn
  refine run0 ?_
  refine awp_if rfl (fun h => ?_) (fun h => ?_)
  · have e : wthn a n = a.tmod n + n := if_pos h
    rw [e]
    refine run0 ?_
    refine ⟨.inr rfl, _, Imp.refl _, ?_⟩
    exact .one (.tmp rfl)
  · have e : wthn a n = a.tmod n := if_neg h
    rw [e]
    refine run0 ?_
    refine ⟨.inr rfl, _, Imp.refl _, ?_⟩
    exact .one (.tmp rfl)
end Go.Proofs.Ytpclkgjhfhhddaa.AM
/- CodeReads: whatever the bytes, both tell the same. -/
namespace Go.Proofs.Ytpclkgjhfhhddaa.AM
open Go Go.RowKit Go.Proofs.Ytpclkgjhfhhddaa.PN Go.Proofs.Ytpclkgjhfhhddaa.V
set_option linter.unusedVariables false
set_option linter.unusedSimpArgs false
set_option maxRecDepth 8000
set_option maxHeartbeats 8000000
/-- No system. -/
def gd0 : GD := ⟨0, 0, 0, 0, 0, 0, 0, fun _ => 0, fun _ => 0, fun _ => 0, fun _ => 0⟩
theorem rv_err {g : Int} {e k n r : Int} {m : Nat → Nat} {F : Nat → Nat → RA} (he : e ≠ 0) {S : Nat → Prop} {B : Nat} {β : Nat → Nat → Value} {w : World} (v : Value) (hv : RV S B β w (.ag 7 (gF (ifz e k) (ifz e n) (ifz e r) (fun i => ifn e (m i)) F)) v) : RV S B β w gd0.v v := by
  refine rv_agv (fun i hi v hv => ?_) v hv
  match i, hi with
  | 0, _ => have hv : v = .int .i64 (ifz e k) := hv; rw [ifz_ne he] at hv; exact hv
  | 1, _ => have hv : v = .int .i64 (ifz e n) := hv; rw [ifz_ne he] at hv; exact hv
  | 2, _ => have hv : v = .int .i64 (ifz e r) := hv; rw [ifz_ne he] at hv; exact hv
  | 3, _ => have hv : RV S B β w (.row false (ifn e (m 0)) (F 0)) v := hv; rw [ifn_ne he] at hv; exact rv_row (fun i hi => absurd hi (Nat.not_lt_zero _)) v hv
  | 4, _ => have hv : RV S B β w (.row false (ifn e (m 1)) (F 1)) v := hv; rw [ifn_ne he] at hv; exact rv_row (fun i hi => absurd hi (Nat.not_lt_zero _)) v hv
  | 5, _ => have hv : RV S B β w (.row false (ifn e (m 2)) (F 2)) v := hv; rw [ifn_ne he] at hv; exact rv_row (fun i hi => absurd hi (Nat.not_lt_zero _)) v hv
  | 6, _ => have hv : RV S B β w (.row false (ifn e (m 3)) (F 3)) v := hv; rw [ifn_ne he] at hv; exact rv_row (fun i hi => absurd hi (Nat.not_lt_zero _)) v hv
end Go.Proofs.Ytpclkgjhfhhddaa.AM
/- CodeOnly, walked. -/
namespace Go.Proofs.Ytpclkgjhfhhddaa.AM
open Go Go.RowKit Go.Proofs.Ytpclkgjhfhhddaa.PN Go.Proofs.Ytpclkgjhfhhddaa.V
set_option linter.unusedVariables false
set_option linter.unusedSimpArgs false
set_option maxRecDepth 8000
set_option maxHeartbeats 8000000
theorem By.set {c : List Int} (h : By c) {k : Nat} {x : Int} (hx : 0 ≤ x ∧ x ≤ 255) : By (c.set k x) := fun i => by
  rw [List.getD_eq_getElem?_getD, List.getElem?_set]
  split
  · split
    · exact hx
    · exact ⟨Int.le_refl 0, (by show (0 : Int) ≤ 255; decide)⟩
  · rw [← List.getD_eq_getElem?_getD]; exact h i
theorem By.app {a b : List Int} (h : By a) (k : By b) : By (a ++ b) := fun i => by
  rw [List.getD_eq_getElem?_getD]
  by_cases c : i < a.length
  · rw [List.getElem?_append_left c, ← List.getD_eq_getElem?_getD]; exact h i
  · rw [List.getElem?_append_right (by omega), ← List.getD_eq_getElem?_getD]; exact k _
end Go.Proofs.Ytpclkgjhfhhddaa.AM
/- CodeKnown, walked. -/
namespace Go.Proofs.Ytpclkgjhfhhddaa.AM
open Go Go.RowKit Go.Proofs.Ytpclkgjhfhhddaa.PN Go.Proofs.Ytpclkgjhfhhddaa.V
set_option linter.unusedVariables false
set_option linter.unusedSimpArgs false
set_option maxRecDepth 8000
set_option maxHeartbeats 8000000
section
variable {o : Oper} {s : St}
theorem ok_nestr {x y : Operand} {T T' : TypeId} {a b : ByteArray} {r : Bool} (ho : o.op = .binOp .neq T x y T') (hx : avo s x = some (.v (.string a))) (hy : avo s y = some (.v (.string b))) (hr : (a.toList == b.toList) = r) : LOK Try.prog o s ⟨some (.v (.bool (!r))), [], []⟩ := by
  refine lok_val fun s2 hl W N β w ac hs => ⟨.bool (!r), ?_, fun z hz => by cases hz; exact ⟨trivial, rfl⟩⟩
  have h1 : ac.eval x = .string a := hs.opv (by rw [hl.avo (by rw [ho]; simp [Op.operands])]; exact hx)
  have h2 : ac.eval y = .string b := hs.opv (by rw [hl.avo (by rw [ho]; simp [Op.operands])]; exact hy)
  unfold execOp; rw [ho]; simp only []; rw [h1, h2]
  subst hr
  simp [eqGuard, binOp, Op.stringOp]
end
theorem st_nestrg {ops : Array Oper} {l : List Oper} {s : St} {acc : List Fp} {K : St → List Fp → Prop} {d : Option Tmp} {ty T T' : TypeId} {ps : String} {aft : Array Edge} {x y : Operand} {a b : ByteArray} {r : Bool} {j : Nat} {want q : Bool} {t : Tmp} (ht : (ops[j]?).bind (·.dst) = some t) (he : s.env t = some (.v (.bool q))) (hb : (q == want) = true)
    (hx : avo s x = some (.v (.string a))) (hy : avo s y = some (.v (.string b))) (hr : (a.toList == b.toList) = r)
    (k : AOps Try.prog ops l (nxt s d (some (.v (.bool (!r)))) []) (([], []) :: acc) K) : AOps Try.prog ops (⟨d, .binOp .neq T x y T', ty, ps, aft, some (j, want)⟩ :: l) s acc K :=
  .cons _ (.inl ⟨hb ▸ .some j want t q rfl ht he, ok_nestr rfl hx hy hr⟩) k
/-- The system of the law. -/
def gk : GD := ⟨3, 1, 0, 1, 0, 0, 0, fun _ => ((-5 : Int) : Rat) / ((2 : Int) : Rat), fun _ => 0, fun _ => 0, fun _ => 0⟩
theorem gk_ok : gk.OK where
  k1 := by decide
  k7 := by decide
  n1 := by decide
  n8 := by decide
  r3 := by decide
  rk := fun h => by cases h
  r0 := fun _ => rfl
  len := fun i hi => by
    match i, hi with
    | 0, _ => decide
    | 1, _ => decide
    | 2, _ => decide
    | 3, _ => decide
  sm := ⟨fun i _ => by show wt (((-5 : Int) : Rat) / ((2 : Int) : Rat)) ≤ 4; decide +kernel, fun i h => absurd h (Nat.not_lt_zero _), fun i h => absurd h (Nat.not_lt_zero _), fun i h => absurd h (Nat.not_lt_zero _)⟩
  ne := fun i _ j h => absurd h (Nat.not_lt_zero _)
theorem gk_enc : encD gk = [3, 1, 0, 1, 1, 5, 0, 0, 0, 1, 2, 0, 0, 0] := by decide +kernel
/-- Bytes that are refused. -/
def ckL : List (List Int) := [[3, 1], [0, 1, 0], [8, 1, 0], [3, 0, 0], [3, 9, 0], [3, 1, 1], [6, 1, 0], [3, 1, 0, 2], [3, 1, 0, 1, 5], [3, 1, 0, 1, 1, 5, 0, 0], [3, 1, 0, 1, 1, 5, 0, 0, 0, 1, 2, 0, 0, 0, 0], [3, 1, 0, 1, 1, 6, 0, 0, 0, 1, 2, 0, 0, 0], [3, 1, 0, 1, 0, 1, 1, 0, 0, 0], [3, 1, 0, 0, 1, 0, 0, 0, 0, 1, 1, 0, 0, 0], [3, 1, 0, 0, 0, 0], [5, 1, 0, 0, 0, 1, 1, 0, 0, 0, 0, 0, 1, 1, 0, 0, 0]]
def ckW : List Int := [6, 2, 2, 1, 1, 1, 1, 1, 1, 6, 7, 1, 1, 1, 1, 5]
theorem ck_err : ∀ i, i < 16 → psE (ckL.getD i []) = ckW.getD i 0 := by decide +kernel
theorem ck_by : ∀ i, i < 16 → (ckL.getD i []).all (fun x => decide (0 ≤ x ∧ x ≤ 255)) = true := by decide +kernel
theorem ck_len : ∀ i, i < 16 → (ckL.getD i []).length ≤ 100 := by decide +kernel
theorem ck_ne : ∀ i, i < 16 → ckW.getD i 0 ≠ 0 := by decide +kernel
theorem Le.arr16 {σ : Ren} {n m : Nat} {f f' : Nat → AV} (h : ∀ i, i < n * m → Le σ (f i) (f' i)) : Le σ (.arr n m f) (.arr n m f') := by
  rintro S B β w v ⟨A, c, hv, hc, hm, hx⟩
  exact ⟨A, c, hv, hc, hm, fun i hi => by obtain ⟨b, off, y, a0, a1, a2, a3, a4⟩ := hx i hi; exact ⟨b, off, y, a0, a1, a2, a3, h i hi S B β w y a4⟩⟩
theorem ck_l16 (i : Nat) (hi : i < 16) : (ckL.map (AV.seq .u8)).getD i (.v undef) = .seq .u8 (ckL.getD i []) := by
  rw [List.getD_eq_getElem?_getD, List.getD_eq_getElem?_getD, List.getElem?_map]
  rw [List.getElem?_eq_getElem (show i < ckL.length from hi)]; rfl
theorem rv_gk {u : Nat → AV} {ff : Nat → RA} (h0 : u 0 = .i 3) (h1 : u 1 = .i 1) (h2 : u 2 = .i 0) (h3 : u 3 = .row false 1 ff) (h3' : ff 0 = RA.q (((-5 : Int) : Rat) / ((2 : Int) : Rat))) (h4 : u 4 = .v (.slice none 0 0)) (h5 : u 5 = .v (.slice none 0 0)) (h6 : u 6 = .v (.slice none 0 0)) {S : Nat → Prop} {B : Nat} {β : Nat → Nat → Value} {w : World} (v : Value) (hv : RV S B β w (.ag 7 u) v) :
    RV S B β w (.ag 7 gk.f) v := by
  refine rv_agv (fun i hi v hv => ?_) v hv
  match i, hi with
  | 0, _ => rw [h0] at hv; exact hv
  | 1, _ => rw [h1] at hv; exact hv
  | 2, _ => rw [h2] at hv; exact hv
  | 3, _ =>
    rw [h3] at hv
    obtain ⟨A, c, hv, hc, hm, hx⟩ := hv
    refine ⟨A, c, hv, hc, hm, fun i hi => ?_⟩
    obtain ⟨b, off, e1, e2, _, e4⟩ := hx i hi
    refine ⟨b, off, e1, e2, (fun e => by cases e), ?_⟩
    match i, hi with
    | 0, _ => rw [h3'] at e4; exact e4
  | 4, _ => rw [h4] at hv; exact (le_nil (σ := idR)) S B β w v hv
  | 5, _ => rw [h5] at hv; exact (le_nil (σ := idR)) S B β w v hv
  | 6, _ => rw [h6] at hv; exact (le_nil (σ := idR)) S B β w v hv
theorem k_known6b {which : Int} (hw : Fits .i64 which) : Has Try.prog 6 [.i which] (.b true) := by
  have c2 := k_bytes gk_ok
  have c3 := k_parse gk_ok
  have c5 := r5_sameb (shp_self gk_ok.sm (by decide))
  rw [sameB_self] at c5
  rw [gk_enc] at c2 c3
  have c6 : ∀ {u u' : Nat → AV}, (∀ i, i < 7 → u i = gk.f i) → (∀ i, i < 7 → u' i = gk.f i) → Has Try.prog 16 [.ag 7 u, .ag 7 u'] (.b true) := fun h1 h2 => c5.args fun S B β w vs hv => rvs_cons (rv_ag h1) (fun us h => rvs_cons (rv_ag h2) rvs_same h) hv
  have c6b : ∀ {u u' : Nat → AV} {ff : Nat → RA}, (∀ i, i < 7 → u i = gk.f i) → u' 0 = .i 3 → u' 1 = .i 1 → u' 2 = .i 0 → u' 3 = .row false 1 ff → ff 0 = RA.q (((-5 : Int) : Rat) / ((2 : Int) : Rat)) → u' 4 = .v (.slice none 0 0) → u' 5 = .v (.slice none 0 0) → u' 6 = .v (.slice none 0 0) → Has Try.prog 16 [.ag 7 u, .ag 7 u'] (.b true) :=
    fun h a0 a1 a2 a3 a3' a4 a5 a6 => c5.args fun S B β w vs hv => rvs_cons (rv_ag h) (fun us h => rvs_cons (rv_gk a0 a1 a2 a3 a3' a4 a5 a6) rvs_same h) hv
  have c7 := hs_of (-5) 2 (by decide) (by decide) (by decide) (by decide)
  obtain ⟨w1, w2⟩ := wthn_lt (a := which) (n := 16) (by decide)
  have hk6 := k_within6 (a := which) (n := 16) (by decide) (by decide)
  refine has_of Try.func6 (by kernel_rfl) rfl Try.ntmps6 Try.results6 rfl rfl rfl ?_
  repeat(first|refine run1p ?_|((with_reducible apply st_call);exact rfl;exact rfl;exact rfl;first|(exact k_known6))|((with_reducible apply st_callg);exact rfl;exact rfl;(first|exact rfl|assumption);exact rfl;exact rfl;exact rfl;first|(exact k_known6)))
  refine awp_no rfl rfl ?_
  have hs1 : ((bts [3, 1, 0, 1, 1, 5, 0, 0, 0, 1, 2, 0, 0, 0]).toList == (bts [3, 1, 0, 1, 1, 5, 0, 0, 0, 1, 2, 0, 0, 0]).toList) = true := beq_self_eq_true _
  repeat(first|refine run1p ?_|((with_reducible apply st_call);exact rfl;exact rfl;exact rfl;first|(exact c3)|(exact c7))|((with_reducible apply st_callg);exact rfl;exact rfl;(first|exact rfl|assumption);exact rfl;exact rfl;exact rfl;first|(exact c3)|(exact c7)))
  refine st_buildg rfl rfl rfl rfl (by rfl) ?_
  repeat(first|refine run1p ?_|((with_reducible apply st_call);exact rfl;exact rfl;exact rfl;first|(exact c6b (g7 rfl rfl rfl rfl rfl rfl rfl) rfl rfl rfl rfl rfl rfl rfl rfl)|(exact Has.ag (u' := gk.f) (g7 rfl rfl rfl rfl rfl rfl rfl) c2))|((with_reducible apply st_callg);exact rfl;exact rfl;(first|exact rfl|assumption);exact rfl;exact rfl;exact rfl;first|(exact c6b (g7 rfl rfl rfl rfl rfl rfl rfl) rfl rfl rfl rfl rfl rfl rfl rfl)|(exact Has.ag (u' := gk.f) (g7 rfl rfl rfl rfl rfl rfl rfl) c2)))
  refine st_nestrg rfl rfl rfl rfl rfl hs1 ?_
  refine run0p ?_
  refine awp_no rfl rfl ?_
  refine run3 ?_
  iterate 10 (try (with_reducible apply st_ap)); ((with_reducible apply st_ev2);(exact rfl);(first|exact True.intro|((repeat' apply And.intro)<;>first|exact True.intro|with_reducible rfl|(simp only[Fits];omega)|omega|assumption|decide|(simp;done)|exact rfl)))
  refine st_litbb 201 rfl rfl (Nat.zero_le _) rfl rfl rfl rfl ?_
  refine st_ev rfl True.intro ?_
  refine st_appbb 202 rfl rfl rfl rfl rfl rfl rfl (by decide) ?_
  rw [List.nil_append]
  with_reducible apply st_ev2
  exact rfl
  repeat' apply And.intro
  all_goals first | with_reducible rfl | decide | skip
  refine st_apppub 203 rfl rfl rfl rfl rfl rfl rfl (by decide) ?_
  refine run4p ?_
  refine run3 ?_
  repeat(first|refine run4p ?_)
  refine awp_imp (s' := stl [(0, .i which), (8, .arr 16 1 (fun i => .seq .u8 (ckL.getD i []))), (9, .seq .i64 ckW)] []) (imp_id ?_ ?_) ?_
  rotate_left 1
  · exact True.intro
  rotate_left 1
  · exact alle rfl (Le.id rfl) True.intro (alle rfl (Le.arr16 fun i hi => Le.id (ck_l16 i hi)) (fun i hi => True.intro) (alle rfl (Le.id rfl) True.intro True.intro))
  generalize hkk : wthn which 16 = k at *
  obtain ⟨j, rfl⟩ : ∃ j : Nat, k = (j : Int) := ⟨k.toNat, by omega⟩
  have hj : j < 16 := by omega
  have hE := ck_err j hj
  have hne := ck_ne j hj
  have hby : By (ckL.getD j []) := AllB.by fun x hx => of_decide_eq_true (List.all_eq_true.1 (ck_by j hj) x hx)
  have c8 := c_parse hby (by have := ck_len j hj; omega)
  rw [hE] at c8
  have c9 : Has Try.prog 14 [.seq .u8 (ckL.getD j [])] (.tup gd0.v (.i (ckW.getD j 0))) := by
    refine c8.to ⟨fun i _ => gd0.fok _ i, trivial⟩ ?_
    rintro S B β w v ⟨x, y, e, hx, hy⟩
    unfold psV at hx
    rw [hE] at hx
    exact ⟨x, y, e, rv_err (g := 0) hne x hx, hy⟩
  clear hE hne hby c8
  have hj2 : (j : Int) < 16 := by omega
  have dd : decide (ckW.getD j 0 = ckW.getD j 0) = true := decide_eq_true rfl
  have dd2 : (decide (ckW.getD j 0 = ckW.getD j 0) == true) = true := by rw [dd]; rfl
  have hwl : ckW.length = 16 := rfl
  repeat(first|refine run1p ?_|((with_reducible apply st_call);exact rfl;exact rfl;exact rfl;first|(exact hk6)|(exact c9))|((with_reducible apply st_callg);exact rfl;exact rfl;(first|exact rfl|assumption);exact rfl;exact rfl;exact rfl;first|(exact hk6)|(exact c9)))
  exact ⟨.inr rfl, _, Imp.refl _, .one (.tmp rfl)⟩
end Go.Proofs.Ytpclkgjhfhhddaa.AM

/- Joined texts, 22: LawCa LawCb CdV CdY AmHd Wthn LawCc LawCd CdZ LawCe. -/
import Derived.Test.YtpclkgjhfhhddaaJLawCodeCut21
import Derived.Test.YtpclkgjhfhhddaaJLawCodeCut19
import Derived.Test.YtpclkgjhfhhddaaJLawCodeCut20
import Derived.Test.YtpclkgjhfhhddaaJLawCodeCut16
set_option linter.unusedVariables false
set_option linter.unusedSimpArgs false
/- Chapter 6: what is laid is taken as it was. -/
namespace Go.Proofs.Ytpclkgjhfhhddaa.AM
open Go Go.RowKit Go.Proofs.Ytpclkgjhfhhddaa.PN Go.Proofs.Ytpclkgjhfhhddaa.V
set_option linter.unusedVariables false
set_option linter.unusedSimpArgs false
set_option maxRecDepth 8000
set_option maxHeartbeats 8000000
theorem Has.to {P : Program} {f : FuncId} {xs : List AV} {r r' : AV} (H : Has P f xs r) (hc : r'.ok (fun _ => false)) (h : ∀ S B β w v, RV S B β w r v → RV S B β w r' v) : Has P f xs r' :=
  ⟨H.b, hc, fun w S β vs hv => (H.run w S β vs hv).mono fun e w' ⟨v, h1, h2, h3⟩ => ⟨v, h1, h2, h _ _ _ _ _ h3⟩⟩
/-- Bytes, all of them. -/
def AllB (l : List Int) : Prop := ∀ x ∈ l, 0 ≤ x ∧ x ≤ 255
theorem AllB.by {l : List Int} (h : AllB l) : By l := fun i => by
  rw [List.getD_eq_getElem?_getD]
  cases e : l[i]? with
  | none => exact ⟨Int.le_refl 0, (by show (0 : Int) ≤ 255; decide)⟩
  | some x => exact h x (List.mem_of_getElem? e)
theorem AllB.app {a b : List Int} (h : AllB a) (k : AllB b) : AllB (a ++ b) := fun x hx => (List.mem_append.1 hx).elim (h x) (k x)
theorem allb_mod (x : Int) : 0 ≤ x % 256 ∧ x % 256 ≤ 255 := by omega
theorem allb_L (l : List Nat) : AllB (encL l) := by
  intro x hx
  rcases List.mem_cons.1 hx with rfl | hx
  · exact allb_mod _
  · obtain ⟨y, _, hy⟩ := List.mem_flatMap.1 hx
    simp only [encW, List.mem_cons, List.not_mem_nil, or_false] at hy
    rcases hy with rfl | rfl | rfl | rfl <;> exact allb_mod _
theorem allb_R (r : RA) : AllB (encR r) := by
  intro x hx
  rcases List.mem_cons.1 hx with rfl | hx
  · unfold sgB; split <;> decide
  · exact (allb_L _).app (allb_L _) x hx
theorem allb_G (k n r : Int) (m : Nat → Nat) (F : Nat → Nat → RA) : AllB (encG k n r m F) := by
  refine AllB.app ?_ ?_
  · intro x hx
    simp only [encH, List.mem_cons, List.not_mem_nil, or_false] at hx
    rcases hx with rfl | rfl | rfl <;> exact allb_mod _
  · intro x hx
    obtain ⟨i, _, hi⟩ := List.mem_flatMap.1 hx
    obtain ⟨j, _, hj⟩ := List.mem_flatMap.1 hi
    exact allb_R _ x hj
/-- A system's bytes. -/
def encD (g : GD) : List Int := encG g.k g.n g.r g.m g.F
theorem gd_cn {g : GD} (o : g.OK) : g.m 0 = cnA g.k g.n ∧ g.m 1 = cnB g.k g.n ∧ g.m 2 = cnH g.k g.n g.r ∧ g.m 3 = cnH g.k g.n g.r := by
  obtain ⟨c0, c1, c2, c3⟩ := cnt_eq (r := g.r) o.k1 o.k7 o.n1
  have h0 := o.len 0 (by decide)
  have h1 := o.len 1 (by decide)
  have h2 := o.len 2 (by decide)
  have h3 := o.len 3 (by decide)
  exact ⟨Int.ofNat_inj.1 (h0.trans c0), Int.ofNat_inj.1 (h1.trans c1), Int.ofNat_inj.1 (h2.trans c2), Int.ofNat_inj.1 (h3.trans c3)⟩
theorem gd_m {g : GD} (o : g.OK) (i : Nat) : g.m i ≤ 100 := by
  obtain ⟨e0, e1, e2, e3⟩ := gd_cn o
  have n8 := o.n8
  have r3 := o.r3
  obtain ⟨a, b, c⟩ := cn_le2 (k := g.k) n8 r3
  match i with
  | 0 => rw [e0]; exact a
  | 1 => rw [e1]; exact b
  | 2 => rw [e2]; exact c
  | 3 => rw [e3]; exact c
  | i + 4 => exact Nat.zero_le _
theorem gd_F {g : GD} (o : g.OK) (i j : Nat) : (raN (g.F i j)).length ≤ 1000 ∧ (raD (g.F i j)).length ≤ 1000 := by
  have h := g.encF o i j
  exact ⟨by have := h.2.1; omega, by have := h.2.2; omega⟩
theorem encD_by {g : GD} : By (encD g) := (allb_G _ _ _ _ _).by
theorem encD_len {g : GD} (o : g.OK) : (encD g).length ≤ 30000 := by
  have key : ∀ i n, (encRow n (g.F i)).length ≤ 35 * n := by
    intro i n
    induction n with
    | zero => exact Nat.le_refl _
    | succ n ih =>
      have h := g.encF o i n
      have h1 := h.2.1
      have h2 := h.2.2
      rw [encRow_succ, List.length_append, encR_len]
      omega
  have k2 : ∀ k, (encRows k g.m g.F).length ≤ 3500 * k := by
    intro k
    induction k with
    | zero => exact Nat.le_refl _
    | succ k ih =>
      have h := key k (g.m k)
      have hm := gd_m o k
      rw [encRows_succ, List.length_append]
      omega
  have := k2 4
  show (encH _ _ _ ++ _).length ≤ _
  rw [List.length_append]
  show 3 + _ ≤ _
  omega
theorem rv_gF {g : GD} {S : Nat → Prop} {B : Nat} {β : Nat → Nat → Value} {w : World} (v : Value) (hv : RV S B β w g.v v) : RV S B β w (.ag 7 (gF g.k g.n g.r g.m g.F)) v := by
  refine rv_agv (fun i hi v hv => ?_) v hv
  match i, hi with
  | 0, _ => exact hv
  | 1, _ => exact hv
  | 2, _ => exact hv
  | 3, _ => exact rv_row (fun j hj => congrArg RA.q (if_pos (show j < g.la from hj)).symm) v hv
  | 4, _ => exact rv_row (fun j hj => congrArg RA.q (if_pos (show j < g.lb from hj)).symm) v hv
  | 5, _ => exact rv_row (fun j hj => congrArg RA.q (if_pos (show j < g.lg from hj)).symm) v hv
  | 6, _ => exact rv_row (fun j hj => congrArg RA.q (if_pos (show j < g.lh from hj)).symm) v hv
theorem ps_gd {g : GD} (o : g.OK) : psE (encD g) = 0 ∧ psk (encD g) = g.k ∧ psn (encD g) = g.n ∧ psr (encD g) = g.r ∧ ∀ i, i < 4 → psM (encD g) i = g.m i ∧ ∀ j, j < g.m i → psF (encD g) i j = rawOf (g.F i j) := by
  have k7 := o.k7
  have n8 := o.n8
  have r3 := o.r3
  have hk : g.k ≤ 255 := by omega
  have hn : g.n ≤ 255 := by omega
  have hr : g.r ≤ 255 := by omega
  obtain ⟨e1, e2, e3⟩ := ps_hd (m := g.m) (F := g.F) hk hn hr
  have hrow := fun i (hi : i < 4) => ps_row (F := g.F) hk hn hr (g.encF o) (gd_cn o) (i := i) hi
  refine ⟨?_, e1, e2, e3, hrow⟩
  have h := ps_enc (F := g.F) hk hn hr (g.encF o) (gd_cn o) (head_gd o)
  show psE (encG g.k g.n g.r g.m g.F) = 0
  rw [h]
  unfold psG
  rw [e1, e2, e3]
  have q : ∀ i, i < 4 → PR.Eq (prR (psM (encG g.k g.n g.r g.m g.F) i) (psF (encG g.k g.n g.r g.m g.F) i)) (prR (g.m i) (g.F i)) := fun i hi =>
    ⟨(hrow i hi).1, fun j hj => by
      have hj : j < psM (encG g.k g.n g.r g.m g.F) i := hj
      rw [(hrow i hi).1] at hj
      show (psF (encG g.k g.n g.r g.m g.F) i j).sgn = _ ∧ raN (psF (encG g.k g.n g.r g.m g.F) i j) = _ ∧ raD (psF (encG g.k g.n g.r g.m g.F) i j) = _
      rw [(hrow i hi).2 j hj]
      exact ⟨rfl, rfl, rfl⟩⟩
  have q2 : ∀ {m : Nat} {f : Nat → RA} {h : Nat → Rat}, (∀ j, j < m → f j = .q (h j)) → PR.Eq (prR m f) (prR m fun j => .q (h j)) := fun hf => ⟨rfl, fun j hj => by
    show (_ : RA).sgn = _ ∧ raN _ = _ ∧ raD _ = _
    rw [hf j hj]; exact ⟨rfl, rfl, rfl⟩⟩
  have tr : ∀ {a b c : PR}, a.Eq b → b.Eq c → a.Eq c := fun h k => ⟨h.m.trans k.m, fun i hi => by
    obtain ⟨a1, a2, a3⟩ := h.e i hi
    obtain ⟨b1, b2, b3⟩ := k.e i (by rw [← h.m]; exact hi)
    exact ⟨a1.trans b1, a2.trans b2, a3.trans b3⟩⟩
  refine (chk_congr (tr (q 0 (by decide)) (q2 (h := g.A) fun j hj => ?_)) (tr (q 1 (by decide)) (q2 (h := g.B) fun j hj => ?_)) (tr (q 2 (by decide)) (q2 (h := g.G) fun j hj => ?_)) (tr (q 3 (by decide)) (q2 (h := g.H) fun j hj => ?_))).trans (chk_gd o)
  · exact congrArg RA.q (if_pos (show j < g.la from hj))
  · exact congrArg RA.q (if_pos (show j < g.lb from hj))
  · exact congrArg RA.q (if_pos (show j < g.lg from hj))
  · exact congrArg RA.q (if_pos (show j < g.lh from hj))
theorem k_bytes {g : GD} (o : g.OK) : Has Try.prog 13 [g.v] (.seq .u8 (encD g)) :=
  (w_bytes (gd_F o) (gd_m o)).args fun S B β w vs hv => rvs_cons rv_gF rvs_same hv
theorem k_bytesx {g : GD} (o : g.OK) : Has Try.prog 15 [g.v] (.seq .u8 (encD g)) :=
  (x_bytes (gd_F o) (gd_m o)).args fun S B β w vs hv => rvs_cons rv_gF rvs_same hv
end Go.Proofs.Ytpclkgjhfhhddaa.AM
/- CodeBack, walked. -/
namespace Go.Proofs.Ytpclkgjhfhhddaa.AM
open Go Go.RowKit Go.Proofs.Ytpclkgjhfhhddaa.PN Go.Proofs.Ytpclkgjhfhhddaa.V
set_option linter.unusedVariables false
set_option linter.unusedSimpArgs false
set_option maxRecDepth 8000
set_option maxHeartbeats 8000000
theorem ok_litrow {o : Oper} {s : St} {n d : Nat} {parts : Array (Nat × Operand)} {ys : List AV} {qs : List RA} (g : Nat) (ho : o.op = .buildSlice WT n parts) (hd : o.dst = some d) (hg : s.used g = false) (hi : idxs 0 parts.toList = true) (hn : parts.toList.length = n) (hb : n ≤ 100000) (hy : avos s parts.toList = some ys) (hq : ras ys = some qs) :
    LOK Try.prog o s ⟨some (.row true n fun i => qs.getD i ra0), [(g, none)], []⟩ :=
  lok_pub (ok_build_rat ho hg hi hn hb hy hq) hd fun s' h1 h2 => imp_row d h1 h2 rfl
section
variable {ops : Array Oper} {l : List Oper} {s : St} {acc : List Fp} {K : St → List Fp → Prop} {d : Tmp} {ty : TypeId} {ps : String} {aft : Array Edge} {n : Nat} {parts : Array (Nat × Operand)} {ys : List AV} {qs : List RA}
theorem st_litrowg (g : Nat) {j : Nat} {want b : Bool} {t : Tmp} (ht : (ops[j]?).bind (·.dst) = some t) (he : s.env t = some (.v (.bool b))) (hbw : (b == want) = true) (hg : s.used g = false) (hi : idxs 0 parts.toList = true) (hn : parts.toList.length = n) (hb : n ≤ 100000) (hy : avos s parts.toList = some ys) (hq : ras ys = some qs)
    (k : AOps Try.prog ops l (nxt s (some d) (some (.row true n fun i => qs.getD i ra0)) [(g, none)]) (([], [g]) :: acc) K) : AOps Try.prog ops (⟨some d, .buildSlice WT n parts, ty, ps, aft, some (j, want)⟩ :: l) s acc K :=
  .cons _ (.inl ⟨hbw ▸ .some j want t b rfl ht he, ok_litrow g rfl rfl hg hi hn hb hy hq⟩) k
end
theorem rv_nilseq {S : Nat → Prop} {B : Nat} {β : Nat → Nat → Value} {w : World} (v : Value) (hv : RV S B β w (.v (.slice none 0 0)) v) : RV S B β w (.seq .u8 []) v := by
  have hv : v = .slice none 0 0 := hv
  subst hv
  exact ⟨none, 0, rfl, Nat.le_refl _, Nat.zero_le _, fun i hi => absurd hi (Nat.not_lt_zero _)⟩
def kn6 : Nat → RA := fun i => [RA.raw false [] [1]].getD i ra0
theorem rv_kn {u : Nat → AV} (h0 : u 0 = .i 3) (h1 : u 1 = .i 1) (h2 : u 2 = .i 0) (h3 : u 3 = .row false 1 kn6) (h4 : u 4 = .v (.slice none 0 0)) (h5 : u 5 = .v (.slice none 0 0)) (h6 : u 6 = .v (.slice none 0 0)) {S : Nat → Prop} {B : Nat} {β : Nat → Nat → Value} {w : World} (v : Value) (hv : RV S B β w (.ag 7 u) v) :
    RV S B β w (.ag 7 (gF 3 1 0 (fun i => [1, 0, 0, 0].getD i 0) (fun _ => kn6))) v := by
  refine rv_agv (fun i hi v hv => ?_) v hv
  match i, hi with
  | 0, _ => rw [h0] at hv; exact hv
  | 1, _ => rw [h1] at hv; exact hv
  | 2, _ => rw [h2] at hv; exact hv
  | 3, _ => rw [h3] at hv; exact hv
  | 4, _ => rw [h4] at hv; exact (le_nil (σ := idR)) S B β w v hv
  | 5, _ => rw [h5] at hv; exact (le_nil (σ := idR)) S B β w v hv
  | 6, _ => rw [h6] at hv; exact (le_nil (σ := idR)) S B β w v hv
theorem k_known6 : Has Try.prog 11 [] (.b true) := by
  have c1 : Has Try.prog 14 [.v (.slice none 0 0)] (.tup (.ag 7 (psV [])) (.i 6)) :=
    (c_parse (l := []) (fun i => ⟨Int.le_refl 0, (by show (0 : Int) ≤ 255; decide)⟩) (Nat.zero_le _)).args fun S B β w vs hv => rvs_cons rv_nilseq rvs_same hv
  have c2 : Has Try.prog 13 [.ag 7 (gF 3 1 0 (fun i => [1, 0, 0, 0].getD i 0) (fun _ => kn6))] (.seq .u8 (encG 3 1 0 (fun i => [1, 0, 0, 0].getD i 0) (fun _ => kn6))) :=
    w_bytes (fun i j => by
      show (raN (kn6 j)).length ≤ 1000 ∧ (raD (kn6 j)).length ≤ 1000
      match j with
      | 0 => decide
      | j + 1 => show (raN ra0).length ≤ 1000 ∧ (raD ra0).length ≤ 1000; decide) (fun i => by
      match i with
      | 0 => decide
      | 1 => decide
      | 2 => decide
      | 3 => decide
      | i + 4 => exact Nat.zero_le _)
  have hlen : decide ((((encG 3 1 0 (fun i => [1, 0, 0, 0].getD i 0) (fun _ => kn6)).length : Nat) : Int) = 10) = true := by decide
  refine has_of Try.func11 (by kernel_rfl) rfl Try.ntmps11 Try.results11 rfl rfl rfl ?_
  repeat(first|refine run1p ?_|((with_reducible apply st_call);exact rfl;exact rfl;exact rfl;first|(exact c1))|((with_reducible apply st_callg);exact rfl;exact rfl;(first|exact rfl|assumption);exact rfl;exact rfl;exact rfl;first|(exact c1)))
  refine st_buildg rfl rfl rfl rfl (by rfl) ?_
  refine st_litrowg (ys := [.ra (.raw false [] [1])]) (qs := [.raw false [] [1]]) 40 rfl rfl rfl rfl rfl rfl (Nat.le_of_ble_eq_true rfl) rfl rfl ?_
  refine run0p ?_
  refine st_buildg rfl rfl rfl rfl (by rfl) ?_
  repeat(first|refine run1p ?_|((with_reducible apply st_call);exact rfl;exact rfl;exact rfl;first|(exact c2.args fun S B β w vs hv => rvs_cons (rv_kn rfl rfl rfl rfl rfl rfl rfl) rvs_same hv))|((with_reducible apply st_callg);exact rfl;exact rfl;(first|exact rfl|assumption);exact rfl;exact rfl;exact rfl;first|(exact c2.args fun S B β w vs hv => rvs_cons (rv_kn rfl rfl rfl rfl rfl rfl rfl) rvs_same hv)))
  exact ⟨.inr rfl, _, Imp.refl _, .one (.tmp (congrArg (fun z => some (AV.b z)) hlen))⟩
end Go.Proofs.Ytpclkgjhfhhddaa.AM
/- What is taken without an error is a system that may be. -/
namespace Go.Proofs.Ytpclkgjhfhhddaa.AM
open Go Go.RowKit Go.Proofs.Ytpclkgjhfhhddaa.PN Go.Proofs.Ytpclkgjhfhhddaa.V
set_option linter.unusedVariables false
set_option linter.unusedSimpArgs false
/-- A raw number. -/
def RA.isRaw : RA → Prop
  | .raw _ _ _ => True
  | .q _ => False
end Go.Proofs.Ytpclkgjhfhhddaa.AM
/- What was taken is laid as it was. -/
namespace Go.Proofs.Ytpclkgjhfhhddaa.AM
open Go Go.RowKit Go.Proofs.Ytpclkgjhfhhddaa.PN Go.Proofs.Ytpclkgjhfhhddaa.V
set_option linter.unusedVariables false
set_option linter.unusedSimpArgs false
theorem w4_inv {c : List Int} (hl : c.length = 4) (hb : By c) : encW (w4 c) = c := by
  match c, hl with
  | [c0, c1, c2, c3], _ =>
    have h0 : 0 ≤ c0 ∧ c0 ≤ 255 := hb 0
    have h1 : 0 ≤ c1 ∧ c1 ≤ 255 := hb 1
    have h2 : 0 ≤ c2 ∧ c2 ≤ 255 := hb 2
    have h3 : 0 ≤ c3 ∧ c3 ≤ 255 := hb 3
    obtain ⟨a0, rfl⟩ : ∃ a : Nat, c0 = a := ⟨c0.toNat, by omega⟩
    obtain ⟨a1, rfl⟩ : ∃ a : Nat, c1 = a := ⟨c1.toNat, by omega⟩
    obtain ⟨a2, rfl⟩ : ∃ a : Nat, c2 = a := ⟨c2.toNat, by omega⟩
    obtain ⟨a3, rfl⟩ : ∃ a : Nat, c3 = a := ⟨c3.toNat, by omega⟩
    have e : w4 [(a0 : Int), a1, a2, a3] = a0 + a1 * 2 ^ 8 + a2 * 2 ^ 16 + a3 * 2 ^ 24 := by
      show (borN (borN (borN (a0 : Int) (shlN a1 ((8 : Nat) : Int))) (shlN a2 ((16 : Nat) : Int))) (shlN a3 ((24 : Nat) : Int))).toNat = _
      rw [bor_add (by omega) (by decide) (by omega), bor_add (by omega) (by decide) (by omega), bor_add (by omega) (by decide) (by omega), Int.toNat_natCast]
    rw [e]
    unfold encW
    have f0 : ((a0 + a1 * 2 ^ 8 + a2 * 2 ^ 16 + a3 * 2 ^ 24 : Nat) : Int) % 256 = a0 := by omega
    have f1 : ((a0 + a1 * 2 ^ 8 + a2 * 2 ^ 16 + a3 * 2 ^ 24 : Nat) : Int) / 2 ^ 8 % 256 = a1 := by omega
    have f2 : ((a0 + a1 * 2 ^ 8 + a2 * 2 ^ 16 + a3 * 2 ^ 24 : Nat) : Int) / 2 ^ 16 % 256 = a2 := by omega
    have f3 : ((a0 + a1 * 2 ^ 8 + a2 * 2 ^ 16 + a3 * 2 ^ 24 : Nat) : Int) / 2 ^ 24 % 256 = a3 := by omega
    rw [f0, f1, f2, f3]
theorem tk_inv {n : Nat} {l : List Int} {e : Int} (h : (tkP n l e).2.2 = 0) : e = 0 ∧ l = (tkP n l e).1 ++ (tkP n l e).2.1 := by
  by_cases h0 : e = 0
  · subst h0
    unfold tkP at h ⊢
    rw [if_pos rfl] at h ⊢
    by_cases c : l.length < n
    · rw [if_pos c] at h; cases h
    · rw [if_neg c]; exact ⟨rfl, (List.take_append_drop n l).symm⟩
  · rw [tk_err h0] at h; exact absurd h h0
theorem sm_inv {m : Int} {l : List Int} {e : Int} (hb : By l) (h : (smP m l e).2.2 = 0) : e = 0 ∧ l = (smP m l e).1 :: (smP m l e).2.1 ∧ 0 ≤ (smP m l e).1 ∧ (smP m l e).1 ≤ m := by
  have hl := tk_len 1 l e
  have hby := (tk_by (n := 1) (e := e) hb).1 0
  unfold smP at h ⊢
  by_cases c : (tkP 1 l e).2.2 = 0
  · rw [if_pos c] at h ⊢
    obtain ⟨e0, e1⟩ := tk_inv c
    by_cases d : m < (tkP 1 l e).1.getD 0 0
    · rw [if_pos d] at h; cases h
    · rw [if_neg d]
      refine ⟨e0, ?_, hby.1, by omega⟩
      have : ∀ q : List Int, q.length = 1 → q = [q.getD 0 0] := fun q hq => by
        match q, hq with
        | [x], _ => rfl
      have h2 := this _ hl
      show l = (tkP 1 l e).1.getD 0 0 :: (tkP 1 l e).2.1
      rw [← List.singleton_append, ← h2]
      exact e1
  · rw [if_neg c] at h; exact absurd h c
theorem lmI_inv {l : List Int} {e : Int} (hb : By l) : ∀ i, (lmI l e i).2.2 = 0 → e = 0 ∧ l = (lmI l e i).1.flatMap encW ++ (lmI l e i).2.1
  | 0, h => ⟨h, rfl⟩
  | i + 1, h => by
    have h : (tkP 4 (lmI l e i).2.1 (lmI l e i).2.2).2.2 = 0 := h
    obtain ⟨e0, e1⟩ := tk_inv h
    obtain ⟨f0, f1⟩ := lmI_inv hb i e0
    refine ⟨f0, ?_⟩
    show l = ((lmI l e i).1 ++ [w4 (tkP 4 (lmI l e i).2.1 (lmI l e i).2.2).1]).flatMap encW ++ (tkP 4 (lmI l e i).2.1 (lmI l e i).2.2).2.1
    have hw := w4_inv (tk_len 4 (lmI l e i).2.1 (lmI l e i).2.2) (tk_by (n := 4) (e := (lmI l e i).2.2) (lmI_by hb i).1).1
    rw [List.flatMap_append, List.flatMap_cons, List.flatMap_nil, List.append_nil, hw, List.append_assoc, ← e1]
    exact f1
theorem lm_inv {l : List Int} {e : Int} (hb : By l) (h : (lmP l e).2.2 = 0) : e = 0 ∧ l = encL (lmP l e).1 ++ (lmP l e).2.1 := by
  unfold lmP at h ⊢
  have hby := (sm_by (m := 4) (e := e) hb).1
  obtain ⟨c, f1⟩ := lmI_inv hby _ h
  obtain ⟨e0, e1, e2, e3⟩ := sm_inv hb c
  have hlen := (lmI_by (e := (smP 4 l e).2.2) hby (smP 4 l e).1.toNat).2.2
  refine ⟨e0, ?_⟩
  unfold encL
  rw [List.cons_append, ← f1, hlen]
  have : (((smP 4 l e).1.toNat : Nat) : Int) % 256 = (smP 4 l e).1 := by omega
  rw [this]
  exact e1
theorem nm_inv {l : List Int} {e : Int} (hb : By l) (h : (nmP l e).2.2 = 0) : e = 0 ∧ l = encR (nmP l e).1 ++ (nmP l e).2.1 := by
  have b1 := (sm_by (m := 1) (e := e) hb).1
  have b2 := (lm_by (e := (smP 1 l e).2.2) b1).1
  unfold nmP at h ⊢
  obtain ⟨c2, f2⟩ := lm_inv b2 h
  obtain ⟨c1, f1⟩ := lm_inv b1 c2
  obtain ⟨e0, e1, e2, e3⟩ := sm_inv hb c1
  refine ⟨e0, ?_⟩
  show l = (sgB (decide ((smP 1 l e).1 = 1)) :: (encL (lmP (smP 1 l e).2.1 (smP 1 l e).2.2).1 ++ encL (lmP (lmP (smP 1 l e).2.1 (smP 1 l e).2.2).2.1 (lmP (smP 1 l e).2.1 (smP 1 l e).2.2).2.2).1)) ++ (lmP (lmP (smP 1 l e).2.1 (smP 1 l e).2.2).2.1 (lmP (smP 1 l e).2.1 (smP 1 l e).2.2).2.2).2.1
  have hs : sgB (decide ((smP 1 l e).1 = 1)) = (smP 1 l e).1 := by
    by_cases d : (smP 1 l e).1 = 1
    · rw [decide_eq_true d, d]; rfl
    · rw [decide_eq_false d]; show (0 : Int) = _; omega
  rw [hs, List.cons_append, List.append_assoc, ← f2, ← f1]
  exact e1
theorem ps_by {l : List Int} (hb : By l) : ∀ i, By (psS l i).1
  | 0 => (tk_by (n := 3) (e := 0) hb).2
  | i + 1 => (rw_by (e := (psS l i).2) (ps_by hb i) (psC l i)).1
end Go.Proofs.Ytpclkgjhfhhddaa.AM
/- Bytes that are laid behind others and written no more. -/
namespace Go.Proofs.Ytpclkgjhfhhddaa.AM
open Go Go.RowKit Go.Proofs.Ytpclkgjhfhhddaa.PN Go.Proofs.Ytpclkgjhfhhddaa.V
set_option linter.unusedVariables false
set_option linter.unusedSimpArgs false
theorem lok_pubo {P : Program} {o : Oper} {s : St} {g d : Nat} {F : Nat → Blk} {rd : List Nat} {y : AV} (old : Option Nat) (h : LOK P o s ⟨some (.own g 0), gone old ++ [(g, some (1, F))], rd⟩) (hd : o.dst = some d)
    (hp : ∀ s' : St, s'.env d = some (.own g 0) → s'.heap g = some (1, F) → Imp s' ⟨put s'.env d (some y), put s'.heap g none, s'.used⟩) : LOK P o s ⟨some y, gone old ++ [(g, none)], rd⟩ := by
  have mem : ∀ {q : Nat} {b b2 c : Option Fam}, (q, b) ∈ gone old ++ [(g, c)] → ∃ b', (q, b') ∈ gone old ++ [(g, b2)] := by
    intro q b b2 c hm
    rcases List.mem_append.1 hm with hm | hm
    · exact ⟨b, List.mem_append_left _ hm⟩
    · simp only [List.mem_singleton, Prod.mk.injEq] at hm
      exact ⟨b2, List.mem_append_right _ (by rw [hm.1]; exact List.mem_singleton.2 rfl)⟩
  refine ⟨fun g' hg' hr => h.1 g' (by obtain ⟨b, hb⟩ := hg'; exact mem hb) hr, fun s2 e1 e2 e3 e4 => ?_⟩
  have h2 := h.2 s2 e1 e2 e3 (fun g' hg' hr => e4 g' (by obtain ⟨b, hb⟩ := hg'; exact mem hb) hr)
  intro W N β w a hs hdN K Q hK
  refine h2 W N β w a hs hdN K Q fun β' a' w' hs' => ?_
  rw [hd] at hs'
  have hheap : (s2.app (some d) ⟨some (.own g 0), gone old ++ [(g, some (1, F))], rd⟩).heap g = some (1, F) := by
    cases old with
    | none => exact put_same _ _ _
    | some q => exact put_same _ _ _
  obtain ⟨β'', hs''⟩ := hp (s2.app (some d) ⟨some (.own g 0), gone old ++ [(g, some (1, F))], rd⟩) (put_same _ _ _) hheap W N β' w' a' hs'
  refine hK β'' a' w' ?_
  rw [hd]
  have e : s2.app (some d) ⟨some y, gone old ++ [(g, none)], rd⟩ = ⟨put (s2.app (some d) ⟨some (.own g 0), gone old ++ [(g, some (1, F))], rd⟩).env d (some y), put (s2.app (some d) ⟨some (.own g 0), gone old ++ [(g, some (1, F))], rd⟩).heap g none, (s2.app (some d) ⟨some (.own g 0), gone old ++ [(g, some (1, F))], rd⟩).used⟩ := by
    cases old with
    | none =>
      show (⟨put s2.env d (some y), put s2.heap g none, mark s2.used g⟩ : St) = ⟨put (put s2.env d _) d (some y), put (put s2.heap g _) g none, mark s2.used g⟩
      rw [put_put, put_put]
    | some q =>
      show (⟨put s2.env d (some y), put (put s2.heap q none) g none, mark (mark s2.used q) g⟩ : St) = ⟨put (put s2.env d _) d (some y), put (put (put s2.heap q none) g _) g none, mark (mark s2.used q) g⟩
      rw [put_put, put_put]
  rw [e]; exact hs''
theorem st_apppub {ops : Array Oper} {k : List Oper} {s : St} {acc : List Fp} {K : St → List Fp → Prop} {d : Tmp} {ty : TypeId} {ps : String} {aft : Array Edge} {x y : Operand} {g : Nat} {l q : List Int} {Fb : Nat → Blk} (g' : Nat)
    (hx : avo s x = some (.own g 0)) (hy : avo s y = some (.seq .u8 q)) (hg : s.heap g = some (1, Fb)) (hFb : Fb 0 = bb l) (hug : s.used g = true) (hg' : s.used g' = false) (hgg : Nat.beq g' g = false) (hn : l.length + q.length ≤ 1000000000)
    (h : AOps Try.prog ops k (nxt s (some d) (some (.seq .u8 (l ++ q))) [(g, none), (g', none)]) (([g], [g, g']) :: acc) K) : AOps Try.prog ops (⟨some d, .call ⟨.builtin .append, #[x, y], #[28, 28]⟩, ty, ps, aft, none⟩ :: k) s acc K := by
  obtain ⟨bytes, he⟩ := el_ok (T := 28) (E := U8T) rfl
  have hne : g' ≠ g := fun e => by rw [e, Nat.beq_refl] at hgg; cases hgg
  have hX : dstOne s U8T (.own g 0) = some (l.length, (fun i => .v (.int .u8 (l.getD i 0))), some g) := by
    unfold dstOne
    simp only [hg, hFb, bb]
    rfl
  have h2 := ok_append_one (o := ⟨some d, .call ⟨.builtin .append, #[x, y], #[28, 28]⟩, ty, ps, aft, none⟩) (s := s) (g := g') rfl he hx hy hX rfl hg' (by simp) (fun r hr => by cases hr; exact ⟨hne, hug⟩) hn
  rw [bb_glue] at h2
  have h3 := lok_pubo (y := .seq .u8 (l ++ q)) (some g) h2 rfl fun s' k1 k2 => imp_seq d (l ++ q) k1 k2 rfl rfl fun i hi => rfl
  exact .cons _ (.inl ⟨.none rfl, h3⟩) h
end Go.Proofs.Ytpclkgjhfhhddaa.AM
/- Numbers from 0 to n - 1, in each package of laws. -/
namespace Go.Proofs.Ytpclkgjhfhhddaa.AM
open Go Go.RowKit Go.Proofs.Ytpclkgjhfhhddaa.PN Go.Proofs.Ytpclkgjhfhhddaa.V
set_option linter.unusedVariables false
set_option linter.unusedSimpArgs false
theorem k_within6 {a n : Int} (hn : 0 < n) (hn' : n < 1000000000) : Has Try.prog 17 [.i a, .i n] (.i (wthn a n)) := by
  refine has_of Try.func17 (by kernel_rfl) rfl Try.ntmps17 Try.results17 rfl rfl rfl ?_
  have h1 := Int.tmod_lt_of_pos a hn
  have h2 : -n < a.tmod n := Int.lt_tmod_of_pos a hn
  refine run0 ?_
  refine awp_if rfl (fun h => ?_) (fun h => ?_)
  · have e : wthn a n = a.tmod n + n := if_pos h
    rw [e]
    refine run0 ?_
    refine ⟨.inr rfl, _, Imp.refl _, ?_⟩
    exact .one (.tmp rfl)
  · have e : wthn a n = a.tmod n := if_neg h
    rw [e]
    refine run0 ?_
    refine ⟨.inr rfl, _, Imp.refl _, ?_⟩
    exact .one (.tmp rfl)
end Go.Proofs.Ytpclkgjhfhhddaa.AM
/- CodeReads: whatever the bytes, both tell the same. -/
namespace Go.Proofs.Ytpclkgjhfhhddaa.AM
open Go Go.RowKit Go.Proofs.Ytpclkgjhfhhddaa.PN Go.Proofs.Ytpclkgjhfhhddaa.V
set_option linter.unusedVariables false
set_option linter.unusedSimpArgs false
set_option maxRecDepth 8000
set_option maxHeartbeats 8000000
theorem wf_u8 {n : Int} (h : (Lit.int .u8 n).wf = true) : 0 ≤ n ∧ n ≤ 255 := by
  unfold Lit.wf at h
  rw [Bool.and_eq_true] at h
  exact ⟨of_decide_eq_true h.1, of_decide_eq_true h.2⟩
/-- No system. -/
def gd0 : GD := ⟨0, 0, 0, 0, 0, 0, 0, fun _ => 0, fun _ => 0, fun _ => 0, fun _ => 0⟩
end Go.Proofs.Ytpclkgjhfhhddaa.AM
/- CodeOnly, walked. -/
namespace Go.Proofs.Ytpclkgjhfhhddaa.AM
open Go Go.RowKit Go.Proofs.Ytpclkgjhfhhddaa.PN Go.Proofs.Ytpclkgjhfhhddaa.V
set_option linter.unusedVariables false
set_option linter.unusedSimpArgs false
set_option maxRecDepth 8000
set_option maxHeartbeats 8000000
theorem By.set {c : List Int} (h : By c) {k : Nat} {x : Int} (hx : 0 ≤ x ∧ x ≤ 255) : By (c.set k x) := fun i => by
  rw [List.getD_eq_getElem?_getD, List.getElem?_set]
  split
  · split
    · exact hx
    · exact ⟨Int.le_refl 0, (by show (0 : Int) ≤ 255; decide)⟩
  · rw [← List.getD_eq_getElem?_getD]; exact h i
theorem By.app {a b : List Int} (h : By a) (k : By b) : By (a ++ b) := fun i => by
  rw [List.getD_eq_getElem?_getD]
  by_cases c : i < a.length
  · rw [List.getElem?_append_left c, ← List.getD_eq_getElem?_getD]; exact h i
  · rw [List.getElem?_append_right (by omega), ← List.getD_eq_getElem?_getD]; exact k _
theorem encD_pos {g : GD} (o : g.OK) : 6 ≤ (encD g).length := by
  obtain ⟨e0, e1, e2, e3⟩ := gd_cn o
  have hc := (cn_le (k := g.k) (n := g.n) (r := g.r) o.k1 o.k7 o.n1 o.n8 o.r3 o.rk).2.2.2
  have row : ∀ i n, 3 * n ≤ (encRow n (g.F i)).length := by
    intro i n
    induction n with
    | zero => exact Nat.le_refl _
    | succ n ih => rw [encRow_succ, List.length_append, encR_len]; omega
  have r0 := row 0 (g.m 0)
  have r1 := row 1 (g.m 1)
  have r2 := row 2 (g.m 2)
  have r3 := row 3 (g.m 3)
  show 6 ≤ (encH _ _ _ ++ encRows 4 g.m g.F).length
  rw [List.length_append, encRows_succ, encRows_succ, encRows_succ, encRows_succ, List.length_append, List.length_append, List.length_append, List.length_append]
  show 6 ≤ 3 + (0 + _ + _ + _ + _)
  omega
end Go.Proofs.Ytpclkgjhfhhddaa.AM
/- Bytes that are cut off, and bytes with more behind. -/
namespace Go.Proofs.Ytpclkgjhfhhddaa.AM
open Go Go.RowKit Go.Proofs.Ytpclkgjhfhhddaa.PN Go.Proofs.Ytpclkgjhfhhddaa.V
set_option linter.unusedVariables false
set_option linter.unusedSimpArgs false
/-- The same, with t behind; or it was cut. -/
def CR (t : List Int) (x y : List Int × Int) : Prop := (x.2 = 0 ∧ y.2 = 0 ∧ x.1 = y.1 ++ t) ∨ y.2 = 6
theorem cr_tk {t l l' : List Int} {e e' : Int} (n : Nat) (h : CR t (l, e) (l', e')) : CR t (tkP n l e).2 (tkP n l' e').2 ∧ ((tkP n l' e').2.2 = 0 → (tkP n l' e').1 = (tkP n l e).1) := by
  rcases h with ⟨h1, h2, h3⟩ | h
  · have h1 : e = 0 := h1
    have h2 : e' = 0 := h2
    have h3 : l = l' ++ t := h3
    subst h1; subst h2; subst h3
    by_cases c : l'.length < n
    · have e1 : tkP n l' 0 = (zs n, l', 6) := by unfold tkP; rw [if_pos rfl, if_pos c]
      rw [e1]
      exact ⟨.inr rfl, fun z => by cases z⟩
    · have e1 : tkP n l' 0 = (l'.take n, l'.drop n, 0) := by unfold tkP; rw [if_pos rfl, if_neg c]
      have e2 : tkP n (l' ++ t) 0 = (l'.take n, l'.drop n ++ t, 0) := by
        unfold tkP
        rw [if_pos rfl, if_neg (by rw [List.length_append]; omega), List.take_append_of_le_length (by omega), List.drop_append_of_le_length (by omega)]
      rw [e1, e2]
      exact ⟨.inl ⟨rfl, rfl, rfl⟩, fun _ => rfl⟩
  · have h : e' = 6 := h
    subst h
    rw [tk_err (e := 6) (l := l') (by decide)]
    exact ⟨.inr rfl, fun z => by cases z⟩
theorem cr_sm {t l l' : List Int} {e e' m : Int} (h : CR t (l, e) (l', e')) (hz : (smP m l e).2.2 = 0) : CR t (smP m l e).2 (smP m l' e').2 ∧ ((smP m l' e').2.2 = 0 → (smP m l' e').1 = (smP m l e).1) := by
  obtain ⟨h1, h2⟩ := cr_tk 1 h
  unfold smP at hz ⊢
  by_cases c : (tkP 1 l e).2.2 = 0
  · rw [if_pos c] at hz ⊢
    by_cases d : m < (tkP 1 l e).1.getD 0 0
    · rw [if_pos d] at hz; cases hz
    · rw [if_neg d]
      rcases h1 with ⟨k1, k2, k3⟩ | k
      · rw [if_pos k2, h2 k2, if_neg d]
        exact ⟨.inl ⟨rfl, rfl, k3⟩, fun _ => rfl⟩
      · rw [if_neg (fun z => by rw [k] at z; cases z)]
        exact ⟨.inr k, fun z => by have z : (tkP 1 l' e').2.2 = 0 := z; rw [k] at z; cases z⟩
  · rw [if_neg c] at hz; exact absurd hz c
theorem cr_lmI {t l l' : List Int} {e e' : Int} (h : CR t (l, e) (l', e')) : ∀ i, CR t (lmI l e i).2 (lmI l' e' i).2
  | 0 => h
  | i + 1 => (cr_tk 4 (cr_lmI h i)).1
theorem cr_lm {t l l' : List Int} {e e' : Int} (h : CR t (l, e) (l', e')) (hb : By l) (hz : (lmP l e).2.2 = 0) : CR t (lmP l e).2 (lmP l' e').2 := by
  unfold lmP at hz ⊢
  have c := (lmI_inv (sm_by (m := 4) (e := e) hb).1 _ hz).1
  obtain ⟨h1, h2⟩ := cr_sm h c
  rcases h1 with k | k
  · have hn := h2 k.2.1
    rw [hn]
    exact cr_lmI (.inl k) _
  · refine .inr ?_
    have key : ∀ i, (lmI (smP 4 l' e').2.1 (smP 4 l' e').2.2 i).2.2 = 6 := by
      intro i
      induction i with
      | zero => exact k
      | succ i ih =>
        show (tkP 4 _ (lmI (smP 4 l' e').2.1 (smP 4 l' e').2.2 i).2.2).2.2 = 6
        rw [ih, tk_err (e := 6) (by decide)]
    exact key _
theorem cr_nm {t l l' : List Int} {e e' : Int} (h : CR t (l, e) (l', e')) (hb : By l) (hz : (nmP l e).2.2 = 0) : CR t (nmP l e).2 (nmP l' e').2 := by
  have b1 := (sm_by (m := 1) (e := e) hb).1
  have b2 := (lm_by (e := (smP 1 l e).2.2) b1).1
  unfold nmP at hz ⊢
  obtain ⟨c2, _⟩ := lm_inv b2 hz
  obtain ⟨c1, _⟩ := lm_inv b1 c2
  exact cr_lm (cr_lm (cr_sm h c1).1 b1 c2) b2 hz
theorem cr_rw {t l l' : List Int} {e e' : Int} (h : CR t (l, e) (l', e')) (hb : By l) : ∀ n, (rwI l e n).2.2 = 0 → CR t (rwI l e n).2 (rwI l' e' n).2
  | 0, _ => h
  | n + 1, hz => by
    have hz : (nmP (rwI l e n).2.1 (rwI l e n).2.2).2.2 = 0 := hz
    have e0 := (nm_inv (rw_by hb n).1 hz).1
    exact cr_nm (cr_rw h hb n e0) (rw_by hb n).1 hz
/-- Of bytes that are read no front is. -/
theorem ps_cut {l t : List Int} (hb : By (l ++ t)) (ht : t ≠ []) (h : psE (l ++ t) = 0) : psE l = 6 := by
  obtain ⟨h1, h2⟩ := cr_tk 3 (show CR t (l ++ t, 0) (l, 0) from .inl ⟨rfl, rfl, rfl⟩)
  unfold psE at h
  by_cases c0 : (tkP 3 (l ++ t) 0).2.2 = 0
  · have n0 : ¬ (tkP 3 (l ++ t) 0).2.2 ≠ 0 := fun c => c c0
    rw [if_neg n0] at h
    by_cases c1 : headV (psk (l ++ t)) (psn (l ++ t)) (psr (l ++ t)) = 0
    · have n1 : ¬ headV (psk (l ++ t)) (psn (l ++ t)) (psr (l ++ t)) ≠ 0 := fun c => c c1
      rw [if_neg n1] at h
      by_cases c2 : (psS (l ++ t) 4).2 = 0
      · have n2 : ¬ (psS (l ++ t) 4).2 ≠ 0 := fun c => c c2
        rw [if_neg n2] at h
        by_cases c3 : 0 < (psS (l ++ t) 4).1.length
        · rw [if_pos c3] at h; cases h
        · have hnil : (psS (l ++ t) 4).1 = [] := List.eq_nil_of_length_eq_zero (by omega)
          rcases h1 with ⟨k1, k2, k3⟩ | k
          · have hv := h2 k2
            have ek : psk l = psk (l ++ t) := by unfold psk; rw [hv]
            have en : psn l = psn (l ++ t) := by unfold psn; rw [hv]
            have er : psr l = psr (l ++ t) := by unfold psr; rw [hv]
            have ec : ∀ i, psC l i = psC (l ++ t) i := fun i => by unfold psC; rw [ek, en, er]
            have z3 := ps_zero c2
            have z2 := ps_zero z3
            have z1 := ps_zero z2
            have s0 : CR t (psS (l ++ t) 0) (psS l 0) := .inl ⟨rfl, rfl, k3⟩
            have step : ∀ i, (psS (l ++ t) (i + 1)).2 = 0 → CR t (psS (l ++ t) i) (psS l i) → CR t (psS (l ++ t) (i + 1)) (psS l (i + 1)) := fun i hz hc => by
              show CR t (rwI (psS (l ++ t) i).1 (psS (l ++ t) i).2 (psC (l ++ t) i)).2 (rwI (psS l i).1 (psS l i).2 (psC l i)).2
              rw [ec i]
              exact cr_rw hc (ps_by hb i) _ hz
            have s4 := step 3 c2 (step 2 z3 (step 1 z2 (step 0 z1 s0)))
            rcases s4 with ⟨_, _, j3⟩ | j
            · rw [hnil] at j3
              exact absurd (List.append_eq_nil_iff.1 j3.symm).2 ht
            · unfold psE
              have m0 : ¬ (tkP 3 l 0).2.2 ≠ 0 := fun c => c k2
              have m1 : ¬ headV (psk l) (psn l) (psr l) ≠ 0 := fun c => c (by rw [ek, en, er]; exact c1)
              have m2 : (psS l 4).2 ≠ 0 := by rw [j]; decide
              rw [if_neg m0, if_neg m1, if_pos m2]
              exact j
          · unfold psE
            have m0 : (tkP 3 l 0).2.2 ≠ 0 := by rw [k]; decide
            rw [if_pos m0]
            exact k
      · rw [if_pos c2] at h; exact absurd h c2
    · rw [if_pos c1] at h; exact absurd h c1
  · rw [if_pos c0] at h; exact absurd h c0
theorem ap_tk {t l : List Int} {e : Int} {n : Nat} (h : (tkP n l e).2.2 = 0) : tkP n (l ++ t) e = ((tkP n l e).1, (tkP n l e).2.1 ++ t, 0) := by
  have he := (tk_inv h).1
  subst he
  unfold tkP at h ⊢
  rw [if_pos rfl] at h ⊢
  by_cases c : l.length < n
  · rw [if_pos c] at h; cases h
  · rw [if_pos rfl, if_neg c, if_neg (by rw [List.length_append]; omega), List.take_append_of_le_length (by omega), List.drop_append_of_le_length (by omega)]
theorem ap_sm {t l : List Int} {e m : Int} (h : (smP m l e).2.2 = 0) : smP m (l ++ t) e = ((smP m l e).1, (smP m l e).2.1 ++ t, 0) := by
  unfold smP at h ⊢
  by_cases c : (tkP 1 l e).2.2 = 0
  · rw [if_pos c] at h ⊢
    rw [ap_tk (t := t) c]
    by_cases d : m < (tkP 1 l e).1.getD 0 0
    · rw [if_pos d] at h; cases h
    · rw [if_neg d, if_pos rfl, if_neg d]
  · rw [if_neg c] at h; exact absurd h c
theorem ap_lmI {t l : List Int} {e : Int} (hb : By l) : ∀ i, (lmI l e i).2.2 = 0 → lmI (l ++ t) e i = ((lmI l e i).1, (lmI l e i).2.1 ++ t, 0)
  | 0, h => by have h : e = 0 := h; subst h; rfl
  | i + 1, h => by
    have h : (tkP 4 (lmI l e i).2.1 (lmI l e i).2.2).2.2 = 0 := h
    have e0 := (tk_inv h).1
    show ((lmI (l ++ t) e i).1 ++ [w4 (tkP 4 (lmI (l ++ t) e i).2.1 (lmI (l ++ t) e i).2.2).1], (tkP 4 (lmI (l ++ t) e i).2.1 (lmI (l ++ t) e i).2.2).2) = ((lmI l e i).1 ++ [w4 (tkP 4 (lmI l e i).2.1 (lmI l e i).2.2).1], (tkP 4 (lmI l e i).2.1 (lmI l e i).2.2).2.1 ++ t, 0)
    rw [ap_lmI hb i e0]
    rw [e0] at h ⊢
    show (_ ++ [w4 (tkP 4 ((lmI l e i).2.1 ++ t) 0).1], (tkP 4 ((lmI l e i).2.1 ++ t) 0).2) = _
    rw [ap_tk h]
theorem ap_lm {t l : List Int} {e : Int} (hb : By l) (h : (lmP l e).2.2 = 0) : lmP (l ++ t) e = ((lmP l e).1, (lmP l e).2.1 ++ t, 0) := by
  unfold lmP at h ⊢
  have hb1 := (sm_by (m := 4) (e := e) hb).1
  have c := (lmI_inv hb1 _ h).1
  rw [ap_sm (t := t) c]
  rw [c] at h ⊢
  exact ap_lmI hb1 _ h
theorem ap_nm {t l : List Int} {e : Int} (hb : By l) (h : (nmP l e).2.2 = 0) : nmP (l ++ t) e = ((nmP l e).1, (nmP l e).2.1 ++ t, 0) := by
  have b1 := (sm_by (m := 1) (e := e) hb).1
  have b2 := (lm_by (e := (smP 1 l e).2.2) b1).1
  unfold nmP at h ⊢
  obtain ⟨c2, _⟩ := lm_inv b2 h
  obtain ⟨c1, _⟩ := lm_inv b1 c2
  rw [ap_sm (t := t) c1]
  rw [c1] at c2 h b2 ⊢
  simp only []
  rw [ap_lm (t := t) b1 c2]
  rw [c2] at h ⊢
  simp only []
  rw [ap_lm (t := t) b2 h]
theorem ap_rw {t l : List Int} {e : Int} (hb : By l) : ∀ n, (rwI l e n).2.2 = 0 → rwI (l ++ t) e n = ((rwI l e n).1, (rwI l e n).2.1 ++ t, 0)
  | 0, h => by have h : e = 0 := h; subst h; rfl
  | n + 1, h => by
    have h : (nmP (rwI l e n).2.1 (rwI l e n).2.2).2.2 = 0 := h
    have e0 := (nm_inv (rw_by hb n).1 h).1
    show ((rwI (l ++ t) e n).1 ++ [(nmP (rwI (l ++ t) e n).2.1 (rwI (l ++ t) e n).2.2).1], (nmP (rwI (l ++ t) e n).2.1 (rwI (l ++ t) e n).2.2).2) = ((rwI l e n).1 ++ [(nmP (rwI l e n).2.1 (rwI l e n).2.2).1], (nmP (rwI l e n).2.1 (rwI l e n).2.2).2.1 ++ t, 0)
    rw [ap_rw hb n e0]
    rw [e0] at h ⊢
    show (_ ++ [(nmP ((rwI l e n).2.1 ++ t) 0).1], (nmP ((rwI l e n).2.1 ++ t) 0).2) = _
    rw [ap_nm (rw_by hb n).1 h]
/-- .. nor with more behind. -/
theorem ps_more {l t : List Int} (hb : By l) (ht : t ≠ []) (h : psE l = 0) : psE (l ++ t) = 7 := by
  unfold psE at h
  by_cases c0 : (tkP 3 l 0).2.2 = 0
  · have n0 : ¬ (tkP 3 l 0).2.2 ≠ 0 := fun c => c c0
    rw [if_neg n0] at h
    have a0 := ap_tk (t := t) c0
    by_cases c1 : headV (psk l) (psn l) (psr l) = 0
    · have n1 : ¬ headV (psk l) (psn l) (psr l) ≠ 0 := fun c => c c1
      rw [if_neg n1] at h
      by_cases c2 : (psS l 4).2 = 0
      · have n2 : ¬ (psS l 4).2 ≠ 0 := fun c => c c2
        rw [if_neg n2] at h
        by_cases c3 : 0 < (psS l 4).1.length
        · rw [if_pos c3] at h; cases h
        · have hnil : (psS l 4).1 = [] := List.eq_nil_of_length_eq_zero (by omega)
          have ek : psk (l ++ t) = psk l := by unfold psk; rw [a0]
          have en : psn (l ++ t) = psn l := by unfold psn; rw [a0]
          have er : psr (l ++ t) = psr l := by unfold psr; rw [a0]
          have ec : ∀ i, psC (l ++ t) i = psC l i := fun i => by unfold psC; rw [ek, en, er]
          have z3 := ps_zero c2
          have z2 := ps_zero z3
          have z1 := ps_zero z2
          have z0 := ps_zero z1
          have s0 : psS (l ++ t) 0 = ((psS l 0).1 ++ t, 0) := by
            show ((tkP 3 (l ++ t) 0).2.1, (0 : Int)) = _
            rw [a0]
            rfl
          have step : ∀ i, (psS l i).2 = 0 → (psS l (i + 1)).2 = 0 → psS (l ++ t) i = ((psS l i).1 ++ t, 0) → psS (l ++ t) (i + 1) = ((psS l (i + 1)).1 ++ t, 0) := fun i hz hz2 hc => by
            show (rwI (psS (l ++ t) i).1 (psS (l ++ t) i).2 (psC (l ++ t) i)).2 = ((rwI (psS l i).1 (psS l i).2 (psC l i)).2.1 ++ t, 0)
            have hz2 : (rwI (psS l i).1 (psS l i).2 (psC l i)).2.2 = 0 := hz2
            rw [ec i, hc]
            rw [hz] at hz2 ⊢
            show (rwI ((psS l i).1 ++ t) 0 (psC l i)).2 = _
            rw [ap_rw (ps_by hb i) _ hz2]
          have s4 := step 3 z3 c2 (step 2 z2 z3 (step 1 z1 z2 (step 0 z0 z1 s0)))
          rw [hnil, List.nil_append] at s4
          have m0 : ¬ (tkP 3 (l ++ t) 0).2.2 ≠ 0 := fun c => c (by rw [a0])
          have m1 : ¬ headV (psk (l ++ t)) (psn (l ++ t)) (psr (l ++ t)) ≠ 0 := fun c => c (by rw [ek, en, er]; exact c1)
          have m2 : ¬ (psS (l ++ t) 4).2 ≠ 0 := fun c => c (by rw [s4])
          have m3 : 0 < (psS (l ++ t) 4).1.length := by rw [s4]; exact List.length_pos_iff.2 ht
          unfold psE
          rw [if_neg m0, if_neg m1, if_neg m2, if_pos m3]
      · rw [if_pos c2] at h; exact absurd h c2
    · rw [if_pos c1] at h; exact absurd h c1
  · rw [if_pos c0] at h; exact absurd h c0
end Go.Proofs.Ytpclkgjhfhhddaa.AM
/- CodeCut, walked. -/
namespace Go.Proofs.Ytpclkgjhfhhddaa.AM
open Go Go.RowKit Go.Proofs.Ytpclkgjhfhhddaa.PN Go.Proofs.Ytpclkgjhfhhddaa.V
set_option linter.unusedVariables false
set_option linter.unusedSimpArgs false
set_option maxRecDepth 8000
set_option maxHeartbeats 8000000
theorem k_cut {kind n cut more : Int} {zs : List Int} (hk : Fits .i64 kind) (hn : Fits .i64 n) (hz : AllFit zs) (hc : Fits .i64 cut) (hmo : (Lit.int .u8 more).wf = true) : Has Try.prog 7 [.i kind, .i n, .seq .i64 zs, .i cut, .v (.int .u8 more)] (.b true) := by
  have c1 := k_mk (kind := kind) (n := n) (most := 5) (zs := zs) hk hn hz (by decide) (by decide)
  have o := mkg_ok (kind := kind) (n := n) (zs := zs) (most := 5) (by decide) (by decide)
  generalize mkg kind n zs 5 = g at *
  have c2 := k_bytes o
  have c4 := k_bytesx o
  have hl := encD_len o
  have hl3 := encD_pos o
  have hbg := encD_by (g := g)
  have hm8 := wf_u8 hmo
  have h0 := (ps_gd o).1
  obtain ⟨w1, w2⟩ := wthn_lt (a := cut) (n := ((encD g).length : Nat)) (by omega)
  have hk6 := k_within6 (a := cut) (n := ((encD g).length : Nat)) (by omega) (by omega)
  have hfr : psE (((encD g).take (wthn cut ((encD g).length : Nat)).toNat).drop (0 : Int).toNat) = 6 := by
    rw [show (0 : Int).toNat = 0 from rfl, List.drop_zero]
    refine ps_cut (t := (encD g).drop (wthn cut ((encD g).length : Nat)).toNat) (by rw [List.take_append_drop]; exact hbg) (fun e => ?_) (by rw [List.take_append_drop]; exact h0)
    have := congrArg List.length e
    rw [List.length_drop, List.length_nil] at this
    omega
  have hmr : psE (encD g ++ [more]) = 7 := ps_more hbg (fun e => by cases e) h0
  have hbf : By (((encD g).take (wthn cut ((encD g).length : Nat)).toNat).drop (0 : Int).toNat) := (hbg.take _).drop _
  have hbm : By (encD g ++ [more]) := hbg.app fun i => by
    match i with
    | 0 => exact hm8
    | i + 1 => exact ⟨Int.le_refl 0, (by show (0 : Int) ≤ 255; decide)⟩
  have c5 := c_parse hbf (by rw [List.length_drop, List.length_take]; omega)
  have c6 := c_parse hbm (by rw [List.length_append]; show _ + 1 ≤ _; omega)
  rw [hfr] at c5
  rw [hmr] at c6
  have dl : decide ((((encD g).length : Nat) : Int) < 4) = false := decide_eq_false (by omega)
  have hs1 : ((bts (encD g)).toList == (bts (encD g)).toList) = true := beq_self_eq_true _
  refine has_of Try.func7 (by kernel_rfl) rfl Try.ntmps7 Try.results7 rfl rfl rfl ?_
  repeat(first|refine run1p ?_|((with_reducible apply st_call);exact rfl;exact rfl;exact rfl;first|(exact k_known6))|((with_reducible apply st_callg);exact rfl;exact rfl;(first|exact rfl|assumption);exact rfl;exact rfl;exact rfl;first|(exact k_known6)))
  refine awp_no rfl rfl ?_
  repeat(first|refine run1p ?_|((with_reducible apply st_call);exact rfl;exact rfl;exact rfl;first|(exact c1)|(exact Has.ag (u' := g.f) (g7 rfl rfl rfl rfl rfl rfl rfl) c2))|((with_reducible apply st_callg);exact rfl;exact rfl;(first|exact rfl|assumption);exact rfl;exact rfl;exact rfl;first|(exact c1)|(exact Has.ag (u' := g.f) (g7 rfl rfl rfl rfl rfl rfl rfl) c2)))
  refine awp_no rfl dl ?_
  refine run3 ?_
  repeat(first|refine run4p ?_|((with_reducible apply st_call);exact rfl;exact rfl;exact rfl;first|(exact hk6)|(exact c5))|((with_reducible apply st_callg);exact rfl;exact rfl;(first|exact rfl|assumption);exact rfl;exact rfl;exact rfl;first|(exact hk6)|(exact c5)))
  refine run3 ?_
  refine st_litbb 70 rfl rfl (Nat.zero_le _) rfl rfl rfl rfl ?_
  refine run4p ?_
  refine st_appbb 71 rfl rfl rfl rfl rfl rfl rfl (by rw [List.length_nil]; omega) ?_
  rw [List.nil_append]
  refine run4p ?_
  refine st_apppub 72 rfl rfl rfl rfl rfl rfl rfl (by show _ + 1 ≤ _; omega) ?_
  repeat(first|refine run1p ?_|((with_reducible apply st_call);exact rfl;exact rfl;exact rfl;first|(exact c6)|(exact c1)|(exact Has.ag (u' := g.f) (g7 rfl rfl rfl rfl rfl rfl rfl) c4))|((with_reducible apply st_callg);exact rfl;exact rfl;(first|exact rfl|assumption);exact rfl;exact rfl;exact rfl;first|(exact c6)|(exact c1)|(exact Has.ag (u' := g.f) (g7 rfl rfl rfl rfl rfl rfl rfl) c4)))
  exact ⟨.inr rfl, _, Imp.refl _, .one (.tmp (congrArg (fun z => some (AV.b z)) hs1))⟩
end Go.Proofs.Ytpclkgjhfhhddaa.AM

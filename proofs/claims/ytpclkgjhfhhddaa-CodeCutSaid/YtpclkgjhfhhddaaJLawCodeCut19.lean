/- Joined texts, 19: CdA CdB CdC CdP CdQ MkD LawVa CdD. -/
import Derived.Test.YtpclkgjhfhhddaaJLawCodeCut18
import Derived.Test.YtpclkgjhfhhddaaJLawCodeCut17
set_option linter.unusedVariables false
set_option linter.unusedSimpArgs false
/- Package code: bytes are taken. -/
namespace Go.Proofs.Ytpclkgjhfhhddaa.AM
open Go Go.RowKit Go.Proofs.Ytpclkgjhfhhddaa.PN Go.Proofs.Ytpclkgjhfhhddaa.V
set_option linter.unusedVariables false
set_option linter.unusedSimpArgs false
set_option linter.unusedSectionVars false
set_option maxRecDepth 8000
set_option maxHeartbeats 8000000
/-- A reader: what is left, and its error. -/
def rdF (l : List Int) (e : Int) (i : Nat) : AV := [AV.seq .u8 l, .i e].getD i (.v undef)
theorem rdF_ok (l : List Int) (e : Int) (U : Nat → Bool) : ∀ i, (rdF l e i).ok U
  | 0 | 1 => trivial
  | _ + 2 => trivial
abbrev RDT : TypeId := 72
def RdS (l : List Int) (e : Int) : List (Nat × Fam) := [(60, (1, fun _ => .ones RDT 2 (rdF l e))), (61, (0, fun _ => .rats 0 fun _ => ra0)), (62, (0, fun _ => .rats 0 fun _ => ra0))]
theorem rd_le {σ : Ren} {l : List Int} {e : Int} {f : Nat → AV} (h0 : f 0 = .seq .u8 l) (h1 : f 1 = .i e) : BLe σ (.ones RDT 2 f) (.ones RDT 2 (rdF l e)) :=
  bleo rfl fun i hi => by
    match i, hi with
    | 0, _ => rw [h0]; exact Le.eq rfl rfl
    | 1, _ => rw [h1]; exact Le.eq rfl rfl
theorem okf_rd {U : Nat → Bool} {l : List Int} {e : Int} : okf U (RdS l e) :=
  ⟨fun r _ i _ => rdF_ok l e U i, fun r hr => absurd hr (Nat.not_lt_zero _), fun r hr => absurd hr (Nat.not_lt_zero _), trivial⟩
theorem all0 {s : St} {σ : Ren} {U : Nat → Bool} {g : Nat} {F : Nat → Blk} {l : List (Nat × Fam)} (k : AllH s σ U l) : AllH s σ U ((g, (0, F)) :: l) := ⟨fun r hr => absurd hr (Nat.not_lt_zero _), k⟩
def zs (n : Nat) : List Int := List.replicate n 0
theorem zs_get (n i : Nat) : (zs n).getD i 0 = 0 := by
  unfold zs
  rw [List.getD_eq_getElem?_getD, List.getElem?_replicate]
  split <;> rfl
/-- Enough is left. -/
theorem c_take {l : List Int} {n : Nat} (hn : n ≤ l.length) (hl : l.length ≤ 1000000000) : HasH Try.prog 36 (RdS l 0) [.ptr 60 0 0, .i n] (.seq .u8 (l.take n)) (RdS (l.drop n) 0) := by
  refine hasH_of Try.func36 (by kernel_rfl) rfl Try.ntmps36 Try.results36 True.intro rfl rfl ?_
  have e0 : decide (((l.length : Nat) : Int) < n) = false := decide_eq_false (by omega)
  refine run0p ?_
  refine awp_no rfl e0 ?_
  refine run0p ?_
  refine awp_no rfl rfl ?_
  refine run0p ?_
  have f1 : (l.take ((n : Nat) : Int).toNat).drop (0 : Int).toNat = l.take n := by simp
  have f2 : (l.take ((l.length : Nat) : Int).toNat).drop ((n : Nat) : Int).toNat = l.drop n := by simp
  refine ⟨.inr rfl, [(4, .seq .u8 (l.take n))], imp_id ?_ ?_, .one (.tmp rfl)⟩
  · exact alle rfl (Le.eq (by rw [f1]) rfl) True.intro True.intro
  · exact allh rfl (by decide) (rd_le (by show AV.seq _ _ = _; rw [f2]) rfl) (fun i _ => rdF_ok _ _ _ i) (all0 (all0 True.intro))
/-- Too little is left. -/
theorem c_take_cut {l : List Int} {n : Nat} (hn : l.length < n) (hl : n ≤ 1000000) : HasH Try.prog 36 (RdS l 0) [.ptr 60 0 0, .i n] (.seq .u8 (zs n)) (RdS l 6) := by
  refine hasH_of Try.func36 (by kernel_rfl) rfl Try.ntmps36 Try.results36 True.intro rfl rfl ?_
  have e0 : decide (((l.length : Nat) : Int) < n) = true := decide_eq_true (by omega)
  refine run0p ?_
  refine awp_yes rfl e0 ?_
  refine run0p ?_
  refine awp_yes rfl rfl ?_
  refine run0p ?_
  refine ⟨.inr rfl, [(4, .seq .u8 (zs n))], (imp_seq 4 (zs n) rfl rfl rfl (by unfold zs; simp) fun i hi => by rw [zs_get]).trans (imp_id ?_ ?_), .one (.tmp rfl)⟩
  · exact eA
  · exact allh rfl (by decide) (rd_le rfl rfl) (fun i _ => rdF_ok _ _ _ i) (all0 (all0 True.intro))
/-- An error stays. -/
theorem c_take_err {l : List Int} {n : Nat} {e : Int} (he : e ≠ 0) (hl : n ≤ 1000000) : HasH Try.prog 36 (RdS l e) [.ptr 60 0 0, .i n] (.seq .u8 (zs n)) (RdS l e) := by
  refine hasH_of Try.func36 (by kernel_rfl) rfl Try.ntmps36 Try.results36 True.intro rfl rfl ?_
  have e0 : decide (e = 0) = false := decide_eq_false he
  have e1 : (decide (e = 0) == true) = false := by rw [e0]; rfl
  have e2 : decide (e ≠ 0) = true := decide_eq_true he
  refine run0p ?_
  refine awp_no rfl rfl ?_
  refine run0p ?_
  refine awp_yes rfl e2 ?_
  refine run0p ?_
  refine ⟨.inr rfl, [(4, .seq .u8 (zs n))], (imp_seq 4 (zs n) rfl rfl rfl (by unfold zs; simp) fun i hi => by rw [zs_get]).trans (imp_id ?_ ?_), .one (.tmp rfl)⟩
  · exact eA
  · exact allh rfl (by decide) (rd_le rfl rfl) (fun i _ => rdF_ok _ _ _ i) (all0 (all0 True.intro))
/-- So many bytes are taken. -/
def tkP (n : Nat) (l : List Int) (e : Int) : List Int × List Int × Int := if e = 0 then (if l.length < n then (zs n, l, 6) else (l.take n, l.drop n, 0)) else (zs n, l, e)
theorem c_tk {l : List Int} {e : Int} {n : Nat} (hn : n ≤ 1000000) (hl : l.length ≤ 1000000000) : HasH Try.prog 36 (RdS l e) [.ptr 60 0 0, .i n] (.seq .u8 (tkP n l e).1) (RdS (tkP n l e).2.1 (tkP n l e).2.2) := by
  unfold tkP
  by_cases h0 : e = 0
  · subst h0
    rw [if_pos rfl]
    by_cases h1 : l.length < n
    · rw [if_pos h1]; exact c_take_cut h1 hn
    · rw [if_neg h1]; exact c_take (by omega) hl
  · rw [if_neg h0]; exact c_take_err h0 hn
section
variable {l l1 q : List Int} {e e1 m : Int} (c : HasH Try.prog 36 (RdS l e) [.ptr 60 0 0, .i ((1 : Nat) : Int)] (.seq .u8 q) (RdS l1 e1)) (hq : q.length = 1) (hb : 0 ≤ q.getD 0 0 ∧ q.getD 0 0 ≤ 255) (hm : m ≤ 255)
include c hq hb hm
theorem c_small_ok (he : e1 = 0) (hbm : q.getD 0 0 ≤ m) : HasH Try.prog 67 (RdS l e) [.ptr 60 0 0, .v (.int .u8 m)] (.i (q.getD 0 0)) (RdS l1 0) := by
  subst he
  have e0 : decide (m < q.getD 0 0) = false := decide_eq_false (by omega)
  have b1 : -9223372036854775808 ≤ q.getD 0 0 := by omega
  have b2 : q.getD 0 0 ≤ 9223372036854775807 := by omega
  refine hasH_of Try.func67 (by kernel_rfl) rfl Try.ntmps67 Try.results67 True.intro rfl rfl ?_
  refine run0p ?_
  ((with_reducible apply st_callH); exact rfl; exact rfl; exact rfl; exact (c); (first | exact True.intro | exact ⟨rfl, rfl, rfl, True.intro⟩); exact rfl; exact rfl; exact rfl; exact rfl; (focus (repeat (first | exact True.intro | refine ⟨(by first | exact True.intro | rfl | exact ok_none (closed_ok rfl)), ?_⟩))); (first | exact True.intro | exact okf_WH | exact okf_pf (by exact True.intro) (by exact True.intro) | exact okf_rd | exact okf_pr))
  refine run0p ?_
  refine awp_no rfl e0 ?_
  refine run0p ?_
  refine awp_no rfl rfl ?_
  refine run0p ?_
  refine ⟨.inr rfl, [(4, .i (q.getD 0 0))], imp_id ?_ ?_, .one (.tmp rfl)⟩
  · exact eA
  · exact allh rfl (by decide) (rd_le rfl rfl) (fun i _ => rdF_ok _ _ _ i) (all0 (all0 True.intro))
theorem c_small_gt (he : e1 = 0) (hbm : m < q.getD 0 0) : HasH Try.prog 67 (RdS l e) [.ptr 60 0 0, .v (.int .u8 m)] (.i 0) (RdS l1 1) := by
  subst he
  have e0 : decide (m < q.getD 0 0) = true := decide_eq_true (by omega)
  refine hasH_of Try.func67 (by kernel_rfl) rfl Try.ntmps67 Try.results67 True.intro rfl rfl ?_
  refine run0p ?_
  ((with_reducible apply st_callH); exact rfl; exact rfl; exact rfl; exact (c); (first | exact True.intro | exact ⟨rfl, rfl, rfl, True.intro⟩); exact rfl; exact rfl; exact rfl; exact rfl; (focus (repeat (first | exact True.intro | refine ⟨(by first | exact True.intro | rfl | exact ok_none (closed_ok rfl)), ?_⟩))); (first | exact True.intro | exact okf_WH | exact okf_pf (by exact True.intro) (by exact True.intro) | exact okf_rd | exact okf_pr))
  refine run0p ?_
  refine awp_yes rfl e0 ?_
  refine run0p ?_
  refine awp_yes rfl rfl ?_
  refine run0p ?_
  refine ⟨.inr rfl, [(4, .i 0)], imp_id ?_ ?_, .one (.tmp rfl)⟩
  · exact eA
  · exact allh rfl (by decide) (rd_le rfl rfl) (fun i _ => rdF_ok _ _ _ i) (all0 (all0 True.intro))
theorem c_small_err (he : e1 ≠ 0) : HasH Try.prog 67 (RdS l e) [.ptr 60 0 0, .v (.int .u8 m)] (.i 0) (RdS l1 e1) := by
  have e0 : decide (e1 = 0) = false := decide_eq_false he
  have e3 : (decide (e1 = 0) == true) = false := by rw [e0]; rfl
  have e2 : decide (e1 ≠ 0) = true := decide_eq_true he
  refine hasH_of Try.func67 (by kernel_rfl) rfl Try.ntmps67 Try.results67 True.intro rfl rfl ?_
  refine run0p ?_
  ((with_reducible apply st_callH); exact rfl; exact rfl; exact rfl; exact (c); (first | exact True.intro | exact ⟨rfl, rfl, rfl, True.intro⟩); exact rfl; exact rfl; exact rfl; exact rfl; (focus (repeat (first | exact True.intro | refine ⟨(by first | exact True.intro | rfl | exact ok_none (closed_ok rfl)), ?_⟩))); (first | exact True.intro | exact okf_WH | exact okf_pf (by exact True.intro) (by exact True.intro) | exact okf_rd | exact okf_pr))
  refine run0p ?_
  refine awp_no rfl rfl ?_
  refine run0p ?_
  refine awp_yes rfl e2 ?_
  refine run0p ?_
  refine ⟨.inr rfl, [(4, .i 0)], imp_id ?_ ?_, .one (.tmp rfl)⟩
  · exact eA
  · exact allh rfl (by decide) (rd_le rfl rfl) (fun i _ => rdF_ok _ _ _ i) (all0 (all0 True.intro))
end
/-- Bytes. -/
def By (l : List Int) : Prop := ∀ i, 0 ≤ l.getD i 0 ∧ l.getD i 0 ≤ 255
theorem by_zs (n : Nat) : By (zs n) := fun i => by rw [zs_get]; omega
theorem By.take {l : List Int} (h : By l) (n : Nat) : By (l.take n) := fun i => by
  rw [List.getD_eq_getElem?_getD, List.getElem?_take]
  split
  · rw [← List.getD_eq_getElem?_getD]; exact h i
  · exact ⟨Int.le_refl 0, by decide⟩
theorem By.drop {l : List Int} (h : By l) (n : Nat) : By (l.drop n) := fun i => by
  rw [List.getD_eq_getElem?_getD, List.getElem?_drop, ← List.getD_eq_getElem?_getD]; exact h (n + i)
theorem tk_len (n : Nat) (l : List Int) (e : Int) : (tkP n l e).1.length = n := by
  unfold tkP zs
  by_cases h0 : e = 0 <;> by_cases h1 : l.length < n <;> simp [h0, h1] <;> omega
theorem tk_by {n : Nat} {l : List Int} {e : Int} (h : By l) : By (tkP n l e).1 ∧ By (tkP n l e).2.1 := by
  unfold tkP
  by_cases h0 : e = 0
  · rw [if_pos h0]
    by_cases h1 : l.length < n
    · rw [if_pos h1]; exact ⟨by_zs n, h⟩
    · rw [if_neg h1]; exact ⟨h.take n, h.drop n⟩
  · rw [if_neg h0]; exact ⟨by_zs n, h⟩
theorem tk_le (n : Nat) (l : List Int) (e : Int) : (tkP n l e).2.1.length ≤ l.length := by
  unfold tkP
  by_cases h0 : e = 0 <;> by_cases h1 : l.length < n <;> simp [h0, h1]
/-- A byte that is no greater than a number. -/
def smP (m : Int) (l : List Int) (e : Int) : Int × List Int × Int := if (tkP 1 l e).2.2 = 0 then (if m < (tkP 1 l e).1.getD 0 0 then (0, (tkP 1 l e).2.1, 1) else ((tkP 1 l e).1.getD 0 0, (tkP 1 l e).2.1, 0)) else (0, (tkP 1 l e).2.1, (tkP 1 l e).2.2)
theorem sm_by {m : Int} {l : List Int} {e : Int} (h : By l) : By (smP m l e).2.1 ∧ (smP m l e).2.1.length ≤ l.length := by
  have h1 := (tk_by (n := 1) (e := e) h).2
  have h2 := tk_le 1 l e
  unfold smP
  split
  · split <;> exact ⟨h1, h2⟩
  · exact ⟨h1, h2⟩
theorem sm_le {m : Int} {l : List Int} {e : Int} (hm : 0 ≤ m) (h : By l) : 0 ≤ (smP m l e).1 ∧ (smP m l e).1 ≤ m := by
  have h1 := (tk_by (n := 1) (e := e) h).1 0
  unfold smP
  split
  · split
    · exact ⟨Int.le_refl 0, hm⟩
    · exact ⟨h1.1, by omega⟩
  · exact ⟨Int.le_refl 0, hm⟩
theorem c_sm {m : Int} {l : List Int} {e : Int} (hm : m ≤ 255) (hb : By l) (hl : l.length ≤ 1000000000) : HasH Try.prog 67 (RdS l e) [.ptr 60 0 0, .v (.int .u8 m)] (.i (smP m l e).1) (RdS (smP m l e).2.1 (smP m l e).2.2) := by
  have c := c_tk (n := 1) (e := e) (by decide) hl
  have h1 := tk_len 1 l e
  have h2 := (tk_by (n := 1) (e := e) hb).1 0
  unfold smP
  by_cases h0 : (tkP 1 l e).2.2 = 0
  · rw [if_pos h0]
    by_cases h3 : m < (tkP 1 l e).1.getD 0 0
    · rw [if_pos h3]; exact c_small_gt c h1 h2 hm h0 h3
    · rw [if_neg h3]; exact c_small_ok c h1 h2 hm h0 (by omega)
  · rw [if_neg h0]; exact c_small_err c h1 h2 hm h0
end Go.Proofs.Ytpclkgjhfhhddaa.AM
/- Package code: limbs are taken. -/
namespace Go.Proofs.Ytpclkgjhfhhddaa.AM
open Go Go.RowKit Go.Proofs.Ytpclkgjhfhhddaa.PN Go.Proofs.Ytpclkgjhfhhddaa.V
set_option linter.unusedVariables false
set_option linter.unusedSimpArgs false
set_option maxRecDepth 8000
set_option maxHeartbeats 8000000
section
variable {ops : Array Oper} {s : St} {acc : List Fp} {K : St → List Fp → Prop} {d t : Tmp} {ty ty2 : TypeId} {ps ps2 : String} {aft aft2 : Array Edge} {x y : Operand}
theorem xok_assign {d t : Tmp} {s : St} {v : AV} (h : s.env d = some v) : XOK Try.prog ⟨some t, .assign (.tmp d), ty2, ps2, aft2, none⟩ s (nxt s (some t) (some v) []) :=
  xok_lok (o := ⟨some t, .assign (.tmp d), ty2, ps2, aft2, none⟩) (D := ⟨some v, [], []⟩) (ev_ok (c := True) (by unfold ev avo; simp only [h]; rfl) True.intro) (fun g hb _ => by obtain ⟨b, hb⟩ := hb; cases hb)
theorem suf_make {k k' : IntKind} {l c : Int} (hb : sufB ops (ops.size - 2) = true) (hx : avo s x = some (.v (.int k l))) (hy : avo s y = some (.v (.int k' c))) (hg : s.used 80 = false) (h77 : s.used 77 = true) (h0 : 0 ≤ l) (hlc : l ≤ c) (hc : c ≤ 1000000000)
    (hK : K (nxt ⟨put s.env d (some (.own 80 0)), put s.heap 80 (some (1, fun _ => .lims l.toNat (fun _ => 0))), mark s.used 80⟩ (some t) (some (.own 80 0)) []) (([], []) :: ([], []) :: acc)) :
    AOps Try.prog ops [⟨some d, .makeSlice 41 x y, ty, ps, aft, none⟩, ⟨some t, .assign (.tmp d), ty2, ps2, aft2, none⟩] s acc K :=
  .suf hb ⟨rfl, _, xok_make rfl rfl hx hy hg h77 h0 hlc hc, rfl, _, xok_assign (put_same _ _ _), rfl⟩ hK
theorem suf_append {n z : Nat} {f : Nat → Nat} {e0 e : List (Nat × AV)} {h : List (Nat × Fam)} (hb : sufB ops (ops.size - 2) = true) (hi : Imp s (stl e0 ((80, (1, fun _ => .lims n f)) :: h))) (hx : avo (stl e0 ((80, (1, fun _ => .lims n f)) :: h)) x = some (.own 80 0)) (hy : avo (stl e0 ((80, (1, fun _ => .lims n f)) :: h)) y = some (.lb [z]))
    (he : SubE 80 e0 e) (hde : memN d (keys e) = false) (hh : FreeH 80 h) (hn : n ≤ 1000000)
    (hK : K (nxt (stl ((d, .own 80 0) :: e) ((80, (1, fun _ => .lims (n + 1) (glue n f fun _ => z))) :: h)) (some t) (some (.own 80 0)) []) (([], []) :: ([], []) :: acc)) :
    AOps Try.prog ops [⟨some d, .call ⟨.builtin .append, #[x, y], #[41, 41]⟩, ty, ps, aft, none⟩, ⟨some t, .assign (.tmp d), ty2, ps2, aft2, none⟩] s acc K :=
  .suf hb ⟨rfl, _, xok_imp hi (xok_append rfl rfl hx hy he hde hh rfl hn), rfl, _, xok_assign (by show lkp _ _ = _; rw [lkp_if, if_pos rfl]), rfl⟩ hK
end
theorem lm_same {σ : Ren} {n n' : Nat} {f f' : Nat → Nat} (hn : n = n') (h : ∀ i, i < n → f i = f' i) : BLe σ (.lims n f) (.lims n' f') := ⟨hn, h⟩
/-- A limb of four bytes. -/
def w4 (c : List Int) : Nat := (borN (borN (borN (c.getD 0 0) (shlN (c.getD 1 0) 8)) (shlN (c.getD 2 0) 16)) (shlN (c.getD 3 0) 24)).toNat
theorem bor_nn (a b : Int) : 0 ≤ borN a b := Int.natCast_nonneg _
/-- So many limbs are taken. -/
def lmI (l : List Int) (e : Int) : Nat → List Nat × List Int × Int
  | 0 => ([], l, e)
  | i + 1 => ((lmI l e i).1 ++ [w4 (tkP 4 (lmI l e i).2.1 (lmI l e i).2.2).1], (tkP 4 (lmI l e i).2.1 (lmI l e i).2.2).2)
theorem lmI_by {l : List Int} {e : Int} (hb : By l) : ∀ i, By (lmI l e i).2.1 ∧ (lmI l e i).2.1.length ≤ l.length ∧ (lmI l e i).1.length = i
  | 0 => ⟨hb, Nat.le_refl _, rfl⟩
  | i + 1 => by
    obtain ⟨h1, h2, h3⟩ := lmI_by hb i
    exact ⟨(tk_by h1).2, Nat.le_trans (tk_le _ _ _) h2, by show (_ ++ [_]).length = _; rw [List.length_append, h3]; rfl⟩
def lmP (l : List Int) (e : Int) : List Nat × List Int × Int := lmI (smP 4 l e).2.1 (smP 4 l e).2.2 (smP 4 l e).1.toNat
/-- Own limbs, and that there are such. -/
def Lm (q : List Nat) : Nat × Fam := (80, (1, fun _ => .lims q.length (fun i => q.getD i 0)))
abbrev Mk : Nat × Fam := (77, (0, fun _ => .rats 0 fun _ => ra0))
theorem glue_getD {q : List Nat} {z j : Nat} (hj : j < q.length + 1) : glue q.length (fun j => q.getD j 0) (fun _ => z) j = (q ++ [z]).getD j 0 := by
  show (if j < q.length then q.getD j 0 else z) = _
  by_cases h : j < q.length
  · rw [if_pos h, List.getD_eq_getElem?_getD, List.getD_eq_getElem?_getD, List.getElem?_append_left h]
  · rw [if_neg h, List.getD_eq_getElem?_getD, List.getElem?_append_right (by omega), show j - q.length = 0 by omega]; rfl
theorem rd_free {l : List Int} {e : Int} : FreeH 80 (Mk :: RdS l e) :=
  ⟨⟨by decide, fun r hr => absurd hr (Nat.not_lt_zero _)⟩, ⟨by decide, fun r hr => ⟨_, _, _, rfl, fun i hi => by
    match i, hi with
    | 0, _ => rfl
    | 1, _ => rfl⟩⟩, ⟨by decide, fun r hr => absurd hr (Nat.not_lt_zero _)⟩, ⟨by decide, fun r hr => absurd hr (Nat.not_lt_zero _)⟩, True.intro⟩
theorem c_limbs {l : List Int} {e : Int} (hb : By l) (hl : l.length ≤ 100000000) : HasH Try.prog 68 (RdS l e) [.ptr 60 0 0] (.lb (lmP l e).1) (RdS (lmP l e).2.1 (lmP l e).2.2) := by
  have c1 := c_sm (m := 4) (e := e) (by decide) hb (by omega)
  have hk := sm_le (m := 4) (e := e) (by decide) hb
  have hby := sm_by (m := 4) (e := e) hb
  unfold lmP
  generalize smP 4 l e = q at *
  obtain ⟨v, l1, e1⟩ := q
  obtain ⟨k, rfl⟩ : ∃ k : Nat, v = k := ⟨v.toNat, by have := hk.1; simp only [] at this; omega⟩
  simp only [Int.toNat_natCast] at c1 hk hby ⊢
  refine hasH_of Try.func68 (by kernel_rfl) rfl Try.ntmps68 Try.results68 True.intro rfl rfl ?_
  refine awp_imp (imp_mark _ 77) ?_
  refine run0p ?_
  ((with_reducible apply st_callH); exact rfl; exact rfl; exact rfl; exact (c1); (first | exact True.intro | exact ⟨rfl, rfl, rfl, True.intro⟩); exact rfl; exact rfl; exact rfl; exact rfl; (focus (repeat (first | exact True.intro | refine ⟨(by first | exact True.intro | rfl | exact ok_none (closed_ok rfl)), ?_⟩))); (first | exact True.intro | exact okf_WH | exact okf_pf (by exact True.intro) (by exact True.intro) | exact okf_rd | exact okf_pr))
  refine run0p ?_
  refine suf_make rfl rfl rfl rfl rfl (by decide) (by omega) (by omega) ⟨.inr rfl, ?_⟩
  refine run0p ?_
  refine awp_loop (fun m' s => ∃ i, i ≤ k ∧ m' = k - i ∧ s = stl [(0, .ptr 60 0 0), (4, .own 80 0), (10, .i (k : Int)), (11, .i (i : Int))] (Lm (lmI l1 e1 i).1 :: Mk :: RdS (lmI l1 e1 i).2.1 (lmI l1 e1 i).2.2)) k _ ?_ ⟨0, by omega, rfl, rfl⟩ ?_
  · refine imp_id ?_ ?_
    · exact alle rfl (Le.id rfl) rfl (alle rfl (Le.id rfl) rfl (alle rfl (Le.id rfl) True.intro (alle rfl (Le.id rfl) True.intro True.intro)))
    · exact allh rfl (by decide) (lm_same rfl fun i hi => absurd hi (Nat.not_lt_zero _)) rfl (all0 (allh rfl (by decide) (rd_le rfl rfl) (fun i _ => rdF_ok _ _ _ i) (all0 (all0 True.intro))))
  rintro m' s ⟨i, hi, rfl, rfl⟩
  have hi' : (i : Int) ≤ 4 := by omega
  refine run0p ?_
  refine awp_if rfl (fun h => ?_) (fun h => ?_)
  · have h : (i : Int) < (k : Int) := h
    obtain ⟨a1, a2, a3⟩ := lmI_by (e := e1) hby.1 i
    have c2 := c_tk (n := 4) (l := (lmI l1 e1 i).2.1) (e := (lmI l1 e1 i).2.2) (by decide) (by omega)
    have hlen := tk_len 4 (lmI l1 e1 i).2.1 (lmI l1 e1 i).2.2
    have hbs := (tk_by (n := 4) (e := (lmI l1 e1 i).2.2) a1).1
    have hnx : lmI l1 e1 (i + 1) = ((lmI l1 e1 i).1 ++ [w4 (tkP 4 (lmI l1 e1 i).2.1 (lmI l1 e1 i).2.2).1], (tkP 4 (lmI l1 e1 i).2.1 (lmI l1 e1 i).2.2).2) := rfl
    generalize tkP 4 (lmI l1 e1 i).2.1 (lmI l1 e1 i).2.2 = r at *
    generalize lmI l1 e1 i = st at *
    obtain ⟨q, l2, e2⟩ := st
    obtain ⟨cc, l3, e3⟩ := r
    simp only [] at *
    have b0 : 0 ≤ cc.getD (Int.toNat 0) 0 ∧ cc.getD (Int.toNat 0) 0 ≤ 255 := hbs 0
    have b1 : 0 ≤ cc.getD (Int.toNat 1) 0 ∧ cc.getD (Int.toNat 1) 0 ≤ 255 := hbs 1
    have b2 : 0 ≤ cc.getD (Int.toNat 2) 0 ∧ cc.getD (Int.toNat 2) 0 ≤ 255 := hbs 2
    have b3 : 0 ≤ cc.getD (Int.toNat 3) 0 ∧ cc.getD (Int.toNat 3) 0 ≤ 255 := hbs 3
    refine run0p ?_
    ((with_reducible apply st_callH); exact rfl; exact rfl; exact rfl; exact (c2); (first | exact True.intro | exact ⟨rfl, rfl, rfl, True.intro⟩); exact rfl; exact rfl; exact rfl; exact rfl; (focus (repeat (first | exact True.intro | refine ⟨(by first | exact True.intro | rfl | exact ok_none (closed_ok rfl)), ?_⟩))); (first | exact True.intro | exact okf_WH | exact okf_pf (by exact True.intro) (by exact True.intro) | exact okf_rd | exact okf_pr))
    refine run0p ?_
    refine st_ev rfl ⟨rfl, rfl, by decide, fun z hz => by
      have hz : AV.v (.int .u32 z) ∈ [AV.v (.int .u32 (borN (borN (borN (cc.getD 0 0) (shlN (cc.getD 1 0) 8)) (shlN (cc.getD 2 0) 16)) (shlN (cc.getD 3 0) 24)))] := hz
      have hz := List.mem_singleton.1 hz
      cases hz
      exact bor_nn _ _⟩ ?_
    refine suf_append (e0 := [(0, .ptr 60 0 0), (10, .i (k : Int)), (11, .i (i : Int)), (15, .own 80 0), (38, .lb [w4 cc])]) (e := [(0, .ptr 60 0 0), (10, .i (k : Int)), (11, .i (i : Int))]) (n := q.length) (f := fun j => q.getD j 0) (h := Mk :: RdS l3 e3) (z := w4 cc) rfl (imp_id ?_ ?_) rfl rfl ⟨⟨rfl, rfl⟩, ⟨rfl, rfl⟩, ⟨rfl, rfl⟩, True.intro⟩ rfl ?_ (by omega) ⟨.inr rfl, ?_⟩
    · exact alle rfl (Le.id rfl) rfl (alle rfl (Le.id rfl) True.intro (alle rfl (Le.id rfl) True.intro (alle rfl (Le.id rfl) rfl (alle rfl (Le.id rfl) True.intro True.intro))))
    · exact allh rfl (by decide) (lm_same rfl fun i hi => rfl) rfl (all0 (allh rfl (by decide) (rd_le rfl rfl) (fun i _ => rdF_ok _ _ _ i) (all0 (all0 True.intro))))
    · exact rd_free
    refine run0p ?_
    refine q_loop (m' := k - (i + 1)) (by omega) ?_ ⟨i + 1, by omega, rfl, rfl⟩
    rw [hnx]
    refine imp_id ?_ ?_
    · exact alle rfl (Le.id rfl) rfl (alle rfl (Le.id rfl) rfl (alle rfl (Le.id rfl) True.intro (alle rfl (Le.id rfl) True.intro True.intro)))
    · exact allh rfl (by decide) (lm_same (by simp) fun j hj => glue_getD hj) rfl (all0 (allh rfl (by decide) (rd_le rfl rfl) (fun i _ => rdF_ok _ _ _ i) (all0 (all0 True.intro))))
  · have h : ¬ (i : Int) < (k : Int) := h
    have e : i = k := by omega
    subst e
    obtain ⟨a1, a2, a3⟩ := lmI_by (e := e1) hby.1 i
    refine run0p ?_
    refine ⟨.inr rfl, [(2, .lb (lmI l1 e1 i).1)], (imp_lims 2 (lmI l1 e1 i).1 rfl rfl rfl rfl fun j hj => rfl).trans (imp_id ?_ ?_), .one (.tmp rfl)⟩
    · exact alle rfl (Le.id rfl) True.intro True.intro
    · exact allh rfl (by decide) (rd_le rfl rfl) (fun i _ => rdF_ok _ _ _ i) (all0 (all0 True.intro))
end Go.Proofs.Ytpclkgjhfhhddaa.AM
/- Package code: numbers are taken. -/
namespace Go.Proofs.Ytpclkgjhfhhddaa.AM
open Go Go.RowKit Go.Proofs.Ytpclkgjhfhhddaa.PN Go.Proofs.Ytpclkgjhfhhddaa.V
set_option linter.unusedVariables false
set_option linter.unusedSimpArgs false
set_option maxRecDepth 8000
set_option maxHeartbeats 8000000
theorem own_next {s : St} {t a : Nat} {b b' : Blk} {F : Nat → Blk} {e : List (Nat × AV)} {l : List (Nat × Fam)} (hx : fx3 t = false) (ha : s.heap a = some (1, F)) (hF : F 0 = b') (hb : BLe (s1 t a) b' b) (hok : b.ok (fun g => memN g (t :: keys l))) (hn : notIn t a (keys l) = true) (h6 : (memN 60 (keys l) && memN 61 (keys l) && memN 62 (keys l)) = true)
    (he : AllE s (s1 t a) (fun g => memN g (t :: keys l)) e) (hl : AllH s (s1 t a) (fun g => memN g (t :: keys l)) l) : Imp s (stl e ((t, (1, fun _ => b)) :: l)) := by
  refine imp_stl (h := (t, (1, fun _ => b)) :: l) (s1 t a) (fun _ g hg r => s1_ne fun e => by rw [e, hx] at hg; cases hg) (s1_injl hn) he ⟨fun r hr => ?_, hl⟩ ?_
  · obtain rfl : r = 0 := by omega
    rw [s1_t]
    exact ⟨1, F, ha, Nat.zero_lt_one, by rw [hF]; exact hb, hok⟩
  · rw [Bool.or_eq_true]; right
    rw [Bool.and_eq_true, Bool.and_eq_true] at h6
    have up : ∀ x, memN x (keys l) = true → memN x (keys ((t, ((1, fun _ => b) : Fam)) :: l)) = true := fun x hx => by
      show memN x (t :: keys l) = true
      rw [memN_cons]; cases Nat.beq x t
      · exact hx
      · rfl
    rw [up _ h6.1.1, up _ h6.1.2, up _ h6.2]; rfl
theorem le_nil {σ : Ren} {fr : Bool} {f : Nat → RA} : Le σ (.v (.slice none 0 0)) (.row fr 0 f) := by
  intro S B β w v hv
  have hv : v = .slice none 0 0 := hv
  subst hv
  exact ⟨none, 0, rfl, Nat.le_refl _, Nat.zero_le _, fun i hi => absurd hi (Nat.not_lt_zero _)⟩
theorem tk_err {n : Nat} {l : List Int} {e : Int} (h : e ≠ 0) : tkP n l e = (zs n, l, e) := by unfold tkP; rw [if_neg h]
theorem sm_err {m : Int} {l : List Int} {e : Int} (h : e ≠ 0) : smP m l e = (0, l, e) := by unfold smP; rw [tk_err h]; simp [h]
theorem lm_err {l : List Int} {e : Int} (h : e ≠ 0) : lmP l e = ([], l, e) := by unfold lmP; rw [sm_err h]; rfl
/-- A number is taken. -/
def nmP (l : List Int) (e : Int) : RA × List Int × Int :=
  (.raw (decide ((smP 1 l e).1 = 1)) (lmP (smP 1 l e).2.1 (smP 1 l e).2.2).1 (lmP (lmP (smP 1 l e).2.1 (smP 1 l e).2.2).2.1 (lmP (smP 1 l e).2.1 (smP 1 l e).2.2).2.2).1,
    (lmP (lmP (smP 1 l e).2.1 (smP 1 l e).2.2).2.1 (lmP (smP 1 l e).2.1 (smP 1 l e).2.2).2.2).2)
theorem nm_err {l : List Int} {e : Int} (h : e ≠ 0) : nmP l e = (.raw false [] [], l, e) := by unfold nmP; rw [sm_err h, lm_err h, lm_err h]; rfl
theorem lm_by {l : List Int} {e : Int} (hb : By l) : By (lmP l e).2.1 ∧ (lmP l e).2.1.length ≤ l.length := by
  have h := sm_by (m := 4) (e := e) hb
  have h2 := lmI_by (e := (smP 4 l e).2.2) h.1 (smP 4 l e).1.toNat
  exact ⟨h2.1, Nat.le_trans h2.2.1 h.2⟩
theorem nm_by {l : List Int} {e : Int} (hb : By l) : By (nmP l e).2.1 ∧ (nmP l e).2.1.length ≤ l.length := by
  have h := sm_by (m := 1) (e := e) hb
  have h1 := lm_by (e := (smP 1 l e).2.2) h.1
  have h2 := lm_by (e := (lmP (smP 1 l e).2.1 (smP 1 l e).2.2).2.2) h1.1
  exact ⟨h2.1, Nat.le_trans h2.2 (Nat.le_trans h1.2 h.2)⟩
/-- So many numbers are taken. -/
def rwI (l : List Int) (e : Int) : Nat → List RA × List Int × Int
  | 0 => ([], l, e)
  | i + 1 => ((rwI l e i).1 ++ [(nmP (rwI l e i).2.1 (rwI l e i).2.2).1], (nmP (rwI l e i).2.1 (rwI l e i).2.2).2)
theorem rw_by {l : List Int} {e : Int} (hb : By l) : ∀ i, By (rwI l e i).2.1 ∧ (rwI l e i).2.1.length ≤ l.length ∧ (rwI l e i).1.length = i
  | 0 => ⟨hb, Nat.le_refl _, rfl⟩
  | i + 1 => by
    obtain ⟨h1, h2, h3⟩ := rw_by hb i
    have h4 := nm_by (e := (rwI l e i).2.2) h1
    exact ⟨h4.1, Nat.le_trans h4.2 h2, by show (_ ++ [_]).length = _; rw [List.length_append, h3]; rfl⟩
theorem rw_err {l : List Int} {e : Int} {i : Nat} (h : (rwI l e i).2.2 ≠ 0) : ∀ k, (rwI l e (i + k)).2 = (rwI l e i).2
  | 0 => rfl
  | k + 1 => by
    have ih := rw_err h k
    show (nmP (rwI l e (i + k)).2.1 (rwI l e (i + k)).2.2).2 = _
    rw [ih, nm_err h]
theorem glue_raw {q : List RA} {x : RA} {f' : Nat → RA} {i j : Nat} (hq : q.length = i) (hf : f' 0 = x) (hj : j < i + 1) : glue i (fun j => q.getD j ra0) f' j = (q ++ [x]).getD j ra0 := by
  subst hq
  show (if j < q.length then q.getD j ra0 else f' (j - q.length)) = _
  by_cases h : j < q.length
  · rw [if_pos h, List.getD_eq_getElem?_getD, List.getD_eq_getElem?_getD, List.getElem?_append_left h]
  · rw [if_neg h, List.getD_eq_getElem?_getD, List.getElem?_append_right (by omega), show j - q.length = 0 by omega, hf]; rfl
/-- How many numbers a row has. -/
def rwN (l : List Int) (e : Int) (n : Nat) : Nat := if ∀ j, j < n → (rwI l e j).2.2 = 0 then n else 0
def rwF (l : List Int) (e : Int) (n : Nat) (i : Nat) : RA := (rwI l e n).1.getD i ra0
theorem c_row {l : List Int} {e : Int} {n : Nat} (hb : By l) (hl : l.length ≤ 100000000) (hn : n ≤ 100) : HasH Try.prog 39 (RdS l e) [.ptr 60 0 0, .i n] (.row false (rwN l e n) (rwF l e n)) (RdS (rwI l e n).2.1 (rwI l e n).2.2) := by
  have hn' : (n : Int) ≤ 100 := by omega
  refine hasH_of Try.func39 (by kernel_rfl) rfl Try.ntmps39 Try.results39 True.intro rfl rfl ?_
  refine run0p ?_
  refine awp_loop (fun m' s => ∃ i, i ≤ n ∧ (∀ j, j < i → (rwI l e j).2.2 = 0) ∧ m' = n - i ∧ s = stl [(0, .ptr 60 0 0), (5, .own 20 0), (9, .i (n : Int)), (10, .i (i : Int))] ((20, (1, fun _ => .rats i (fun j => (rwI l e i).1.getD j ra0))) :: RdS (rwI l e i).2.1 (rwI l e i).2.2)) n _ ?_ ⟨0, by omega, (fun j hj => absurd hj (Nat.not_lt_zero _)), rfl, rfl⟩ ?_
  · refine own_next (t := 20) (a := 8) rfl rfl rfl (blen rfl fun i hi => absurd hi (Nat.not_lt_zero _)) True.intro rfl rfl ?_ ?_
    · exact alle rfl (Le.ptr rfl) rfl (alle rfl (Le.own s1_t) rfl (alle rfl (Le.eq rfl rfl) True.intro (alle rfl (Le.eq rfl rfl) True.intro True.intro)))
    · exact allh rfl (by decide) (rd_le rfl rfl) (fun i _ => rdF_ok _ _ _ i) (all0 (all0 True.intro))
  rintro m' s ⟨i, hi, hz, rfl, rfl⟩
  have hi' : (i : Int) ≤ 100 := by omega
  obtain ⟨a1, a2, a3⟩ := rw_by (e := e) hb i
  refine run0p ?_
  refine awp_if rfl (fun h => ?_) (fun h => ?_)
  · have h : (i : Int) < (n : Int) := h
    refine run0p ?_
    by_cases h0 : (rwI l e i).2.2 = 0
    · have d0 : decide ((rwI l e i).2.2 ≠ 0) = false := decide_eq_false (fun c => c h0)
      have c1 := c_sm (m := 1) (e := (rwI l e i).2.2) (by decide) a1 (by omega)
      have k1 := sm_by (m := 1) (e := (rwI l e i).2.2) a1
      have c2 := c_limbs (e := (smP 1 (rwI l e i).2.1 (rwI l e i).2.2).2.2) k1.1 (by omega)
      have k2 := lm_by (e := (smP 1 (rwI l e i).2.1 (rwI l e i).2.2).2.2) k1.1
      have c3 := c_limbs (e := (lmP (smP 1 (rwI l e i).2.1 (rwI l e i).2.2).2.1 (smP 1 (rwI l e i).2.1 (rwI l e i).2.2).2.2).2.2) k2.1 (by omega)
      have hnx : rwI l e (i + 1) = ((rwI l e i).1 ++ [(nmP (rwI l e i).2.1 (rwI l e i).2.2).1], (nmP (rwI l e i).2.1 (rwI l e i).2.2).2) := rfl
      refine awp_no rfl d0 ?_
      refine run0p ?_
      ((with_reducible apply st_callH); exact rfl; exact rfl; exact rfl; exact (c1); (first | exact True.intro | exact ⟨rfl, rfl, rfl, True.intro⟩); exact rfl; exact rfl; exact rfl; exact rfl; (focus (repeat (first | exact True.intro | refine ⟨(by first | exact True.intro | rfl | exact ok_none (closed_ok rfl)), ?_⟩))); (first | exact True.intro | exact okf_WH | exact okf_pf (by exact True.intro) (by exact True.intro) | exact okf_rd | exact okf_pr))
      refine run0p ?_
      ((with_reducible apply st_callH); exact rfl; exact rfl; exact rfl; exact (c2); (first | exact True.intro | exact ⟨rfl, rfl, rfl, True.intro⟩); exact rfl; exact rfl; exact rfl; exact rfl; (focus (repeat (first | exact True.intro | refine ⟨(by first | exact True.intro | rfl | exact ok_none (closed_ok rfl)), ?_⟩))); (first | exact True.intro | exact okf_WH | exact okf_pf (by exact True.intro) (by exact True.intro) | exact okf_rd | exact okf_pr))
      refine run0p ?_
      ((with_reducible apply st_callH); exact rfl; exact rfl; exact rfl; exact (c3); (first | exact True.intro | exact ⟨rfl, rfl, rfl, True.intro⟩); exact rfl; exact rfl; exact rfl; exact rfl; (focus (repeat (first | exact True.intro | refine ⟨(by first | exact True.intro | rfl | exact ok_none (closed_ok rfl)), ?_⟩))); (first | exact True.intro | exact okf_WH | exact okf_pf (by exact True.intro) (by exact True.intro) | exact okf_rd | exact okf_pr))
      refine run0p ?_
      refine q_loop (m' := n - (i + 1)) (by omega) ?_ ⟨i + 1, by omega, fun j hj => (if c : j < i then hz j c else by rw [show j = i by omega]; exact h0), rfl, rfl⟩
      rw [hnx]
      refine own_next (t := 20) (a := 30) rfl rfl rfl (blen rfl fun j hj => glue_raw a3 rfl hj) True.intro rfl rfl ?_ ?_
      · exact alle rfl (Le.ptr rfl) rfl (alle rfl (Le.own s1_t) rfl (alle rfl (Le.eq rfl rfl) True.intro (alle rfl (Le.eq rfl rfl) True.intro True.intro)))
      · exact allh rfl (by decide) (rd_le rfl rfl) (fun i _ => rdF_ok _ _ _ i) (all0 (all0 True.intro))
    · have d0 : decide ((rwI l e i).2.2 ≠ 0) = true := decide_eq_true h0
      refine awp_yes rfl d0 ?_
      refine run0p ?_
      have e1 : rwN l e n = 0 := if_neg fun c => h0 (c i (by omega))
      have e2 : (rwI l e n).2 = (rwI l e i).2 := by
        have := rw_err h0 (n - i)
        rwa [show i + (n - i) = n by omega] at this
      rw [e1, e2]
      refine ⟨.inr rfl, [(4, .row false 0 (rwF l e n))], imp_id ?_ ?_, .one (.tmp rfl)⟩
      · exact alle rfl le_nil True.intro True.intro
      · exact allh rfl (by decide) (rd_le rfl rfl) (fun i _ => rdF_ok _ _ _ i) (all0 (all0 True.intro))
  · have h : ¬ (i : Int) < (n : Int) := h
    have e : i = n := by omega
    subst e
    have e1 : rwN l e i = i := if_pos hz
    refine run0p ?_
    rw [e1]
    refine ⟨.inr rfl, [(4, .row false i (rwF l e i))], (imp_rowv 4 (rwF l e i) rfl rfl rfl fun j _ => rfl).trans (imp_id ?_ ?_), .one (.tmp rfl)⟩
    · exact alle rfl (Le.row rfl (fun _ _ => rfl) (fun h => by cases h)) True.intro True.intro
    · exact allh rfl (by decide) (rd_le rfl rfl) (fun i _ => rdF_ok _ _ _ i) (all0 (all0 True.intro))
end Go.Proofs.Ytpclkgjhfhhddaa.AM
/- ref6: bytes are taken. -/
namespace Go.Proofs.Ytpclkgjhfhhddaa.AM
open Go Go.RowKit Go.Proofs.Ytpclkgjhfhhddaa.PN Go.Proofs.Ytpclkgjhfhhddaa.V
set_option linter.unusedVariables false
set_option linter.unusedSimpArgs false
set_option maxRecDepth 8000
set_option maxHeartbeats 8000000
/-- A parser: its bytes, its place, its error. -/
def prF (b : List Int) (p : Nat) (e : Int) (i : Nat) : AV := [AV.seq .u8 b, .i p, .i e].getD i (.v undef)
theorem prF_ok (b : List Int) (p : Nat) (e : Int) (U : Nat → Bool) : ∀ i, (prF b p e i).ok U
  | 0 | 1 | 2 => trivial
  | _ + 3 => trivial
abbrev PST : TypeId := 81
def PrS (b : List Int) (p : Nat) (e : Int) : List (Nat × Fam) := [(60, (1, fun _ => .ones PST 3 (prF b p e))), (61, (0, fun _ => .rats 0 fun _ => ra0)), (62, (0, fun _ => .rats 0 fun _ => ra0))]
theorem okf_pr {U : Nat → Bool} {b : List Int} {p : Nat} {e : Int} : okf U (PrS b p e) :=
  ⟨fun r _ i _ => prF_ok b p e U i, fun r hr => absurd hr (Nat.not_lt_zero _), fun r hr => absurd hr (Nat.not_lt_zero _), trivial⟩
/-- A byte is taken. -/
def byP (b : List Int) (p : Nat) (e : Int) : Int × Nat × Int := if e = 0 then (if b.length ≤ p then (0, p, 6) else (b.getD p 0, p + 1, 0)) else (0, p, e)
/-- One that is not above a bound. -/
def blP (m : Int) (b : List Int) (p : Nat) (e : Int) : Int × Nat × Int := if (byP b p e).2.2 = 0 ∧ m < (byP b p e).1 then ((byP b p e).1, (byP b p e).2.1, 1) else byP b p e
end Go.Proofs.Ytpclkgjhfhhddaa.AM
/- ref6: limbs, numbers are taken. -/
namespace Go.Proofs.Ytpclkgjhfhhddaa.AM
open Go Go.RowKit Go.Proofs.Ytpclkgjhfhhddaa.PN Go.Proofs.Ytpclkgjhfhhddaa.V
set_option linter.unusedVariables false
set_option linter.unusedSimpArgs false
set_option maxRecDepth 8000
set_option maxHeartbeats 8000000
/-- The bytes of a limb. -/
def xbI (b : List Int) (p : Nat) (e : Int) : Nat → Int × Nat × Int
  | 0 => (0, p, e)
  | k + 1 => (borN (xbI b p e k).1 (shlN (byP b (xbI b p e k).2.1 (xbI b p e k).2.2).1 (8 * (k : Int))), (byP b (xbI b p e k).2.1 (xbI b p e k).2.2).2)
/-- Limbs. -/
def lbI (b : List Int) (p : Nat) (e : Int) : Nat → List Nat × Nat × Int
  | 0 => ([], p, e)
  | i + 1 => ((lbI b p e i).1 ++ [(xbI b (lbI b p e i).2.1 (lbI b p e i).2.2 4).1.toNat], (xbI b (lbI b p e i).2.1 (lbI b p e i).2.2 4).2)
/-- How many are taken: until there is an error. -/
def cutN (f : Nat → Int) : Nat → Nat
  | 0 => 0
  | n + 1 => if cutN f n = n ∧ f n = 0 then n + 1 else cutN f n
def lbP (b : List Int) (p : Nat) (e : Int) : List Nat × Nat × Int :=
  lbI b (blP 4 b p e).2.1 (blP 4 b p e).2.2 (cutN (fun i => (lbI b (blP 4 b p e).2.1 (blP 4 b p e).2.2 i).2.2) (blP 4 b p e).1.toNat)
/-- A number. -/
def nbP (b : List Int) (p : Nat) (e : Int) : RA × Nat × Int :=
  (.raw (decide ((blP 1 b p e).1 = 1)) (lbP b (blP 1 b p e).2.1 (blP 1 b p e).2.2).1 (lbP b (lbP b (blP 1 b p e).2.1 (blP 1 b p e).2.2).2.1 (lbP b (blP 1 b p e).2.1 (blP 1 b p e).2.2).2.2).1,
    (lbP b (lbP b (blP 1 b p e).2.1 (blP 1 b p e).2.2).2.1 (lbP b (blP 1 b p e).2.1 (blP 1 b p e).2.2).2.2).2)
/-- So many numbers. -/
def rbI (b : List Int) (p : Nat) (e : Int) : Nat → List RA × Nat × Int
  | 0 => ([], p, e)
  | i + 1 => ((rbI b p e i).1 ++ [(nbP b (rbI b p e i).2.1 (rbI b p e i).2.2).1], (nbP b (rbI b p e i).2.1 (rbI b p e i).2.2).2)
/-- How many numbers a row has. -/
def rbN (b : List Int) (p : Nat) (e : Int) (n : Nat) : Nat := cutN (fun i => (rbI b p e i).2.2) n
def rbF (b : List Int) (p : Nat) (e : Int) (n : Nat) (i : Nat) : RA := (rbI b p e (rbN b p e n)).1.getD i ra0
end Go.Proofs.Ytpclkgjhfhhddaa.AM
/- Laws of systems: what is known. -/
namespace Go.Proofs.Ytpclkgjhfhhddaa.AM
open Go Go.RowKit Go.Proofs.Ytpclkgjhfhhddaa.PN Go.Proofs.Ytpclkgjhfhhddaa.V
open Go.Proofs.Ytpclkgjhfhhddaa.LA (S S_succ S_zero S_congr)
set_option linter.unusedVariables false
set_option linter.unusedSimpArgs false
set_option maxRecDepth 8000
set_option maxHeartbeats 8000000
theorem rv_agv {S : Nat → Prop} {B : Nat} {β : Nat → Nat → Value} {w : World} {n : Nat} {f f' : Nat → AV} (h : ∀ i, i < n → ∀ v, RV S B β w (f i) v → RV S B β w (f' i) v) (v : Value) (hv : RV S B β w (.ag n f) v) : RV S B β w (.ag n f') v := by
  obtain ⟨cs, e1, e2, e3⟩ := hv
  refine ⟨cs, e1, e2, fun i hi => ?_⟩
  obtain ⟨y, a0, a1, a2⟩ := e3 i hi
  exact ⟨y, a0, a1, h i hi y a2⟩
def kg : GD := ⟨3, 1, 0, 1, 0, 0, 0, fun _ => 5, fun _ => 0, fun _ => 0, fun _ => 0⟩
end Go.Proofs.Ytpclkgjhfhhddaa.AM
/- These systems are refused as they must. -/
namespace Go.Proofs.Ytpclkgjhfhhddaa.AM
open Go Go.RowKit Go.Proofs.Ytpclkgjhfhhddaa.PN Go.Proofs.Ytpclkgjhfhhddaa.V
set_option linter.unusedVariables false
set_option linter.unusedSimpArgs false
set_option maxRecDepth 8000
set_option maxHeartbeats 8000000
/-- A row, whatever it is. -/
def prOf : AV → Option PR
  | .row _ n f => some ⟨n, fun i => (f i).sgn, fun i => raN (f i), fun i => raD (f i)⟩
  | .v (.slice none 0 0) => some ⟨0, fun _ => false, fun _ => [], fun _ => []⟩
  | .prow n s f g => some ⟨n, s, f, g⟩
  | _ => none
theorem prOf_rv {S : Nat → Prop} {B : Nat} {β : Nat → Nat → Value} {w : World} {x : AV} {r : PR} {v : Value} (h : prOf x = some r) (hv : RV S B β w x v) : RV S B β w r.v v := by
  unfold prOf at h
  split at h
  · cases h; exact rv_prow v hv
  · cases h
    have hv : v = .slice none 0 0 := hv
    subst hv
    exact ⟨none, 0, rfl, Nat.le_refl _, Nat.zero_le _, fun i hi => absurd hi (Nat.not_lt_zero _)⟩
  · cases h; exact hv
  · cases h
def intOf : AV → Option Int
  | .v (.int .i64 k) => some k
  | _ => none
theorem intOf_eq {x : AV} {k : Int} (h : intOf x = some k) : x = .i k := by
  unfold intOf at h
  split at h
  · cases h; rfl
  · cases h
/-- A system, whatever it is. -/
def grOf (u : Nat → AV) : Option GR := match intOf (u 0), intOf (u 1), intOf (u 2), prOf (u 3), prOf (u 4), prOf (u 5), prOf (u 6) with
  | some k, some n, some r, some A, some B, some G, some H => some ⟨k, n, r, A, B, G, H⟩
  | _, _, _, _, _, _, _ => none
theorem grOf_rv {S : Nat → Prop} {B : Nat} {β : Nat → Nat → Value} {w : World} {u : Nat → AV} {g : GR} (h : grOf u = some g) (v : Value) (hv : RV S B β w (.ag 7 u) v) : RV S B β w g.v v := by
  unfold grOf at h
  split at h
  · rename_i e0 e1 e2 e3 e4 e5 e6
    cases h
    obtain ⟨cs, c1, c2, c3⟩ := hv
    refine ⟨cs, c1, c2, fun i hi => ?_⟩
    obtain ⟨y, a0, a1, a2⟩ := c3 i hi
    refine ⟨y, a0, a1, ?_⟩
    match i, hi with
    | 0, _ => rw [intOf_eq e0] at a2; exact a2
    | 1, _ => rw [intOf_eq e1] at a2; exact a2
    | 2, _ => rw [intOf_eq e2] at a2; exact a2
    | 3, _ => exact prOf_rv e3 a2
    | 4, _ => exact prOf_rv e4 a2
    | 5, _ => exact prOf_rv e5 a2
    | 6, _ => exact prOf_rv e6 a2
  · cases h
theorem Has.gr {P : Program} {f : FuncId} {u : Nat → AV} {g : GR} {xs : List AV} {r : AV} (h : grOf u = some g) (H : Has P f (g.v :: xs) r) : Has P f (.ag 7 u :: xs) r :=
  Has.args H fun S B β w vs hv => rvs_cons (grOf_rv h) rvs_same hv
instance (l : List Nat) : Decidable (LF l) := inferInstanceAs (Decidable (∀ x ∈ l, x < B))
def PR.finB (r : PR) : Bool := decide (∀ i, i < r.m → LF (r.f i)) && decide (∀ i, i < r.m → LF (r.g i))
def GR.finB (g : GR) : Bool := g.A.finB && g.B.finB && g.G.finB && g.H.finB
/-- Whole numbers in a row. -/
def zq (l : List Int) (i : Nat) : Rat := ((l.getD i 0 : Int) : Rat)
/-- The systems that are refused. -/
def nilA : AV := .v (.slice none 0 0)
def oneA : AV := .row false 1 fun i => .q (zq [1] i)
def rawA (s : Bool) (n d : List Nat) : AV := .row false 1 fun i => [RA.raw s n d].getD i ra0
def erL : List (List AV) := [
  [.i 0, .i 0, .i 0, nilA, nilA, nilA, nilA], [.i 8, .i 1, .i 0, nilA, nilA, nilA, nilA], [.i 1, .i 0, .i 0, nilA, nilA, nilA, nilA], [.i 1, .i 9, .i 0, nilA, nilA, nilA, nilA],
  [.i 3, .i 1, .i 1, oneA, nilA, nilA, nilA], [.i 6, .i 1, .i 0, nilA, nilA, oneA, oneA], [.i 7, .i 1, .i 4, nilA, nilA, nilA, nilA], [.i 1, .i 2, .i 0, oneA, nilA, nilA, nilA],
  [.i 3, .i 1, .i 0, oneA, oneA, nilA, nilA], [.i 5, .i 1, .i 0, oneA, oneA, nilA, nilA], [.i 5, .i 2, .i 0, .row false 2 fun i => .q (zq [1, 2] i), .row false 2 fun i => .q (zq [3, 2] i), nilA, nilA],
  [.i 3, .i 1, .i 0, rawA false [] [], nilA, nilA, nilA], [.i 3, .i 1, .i 0, rawA false [0, 0, 0, 0, 1] [1], nilA, nilA, nilA], [.i 3, .i 1, .i 0, rawA false [2] [4], nilA, nilA, nilA],
  [.i 6, .i 1, .i 1, nilA, nilA, oneA, rawA true [] [1]]]
def erW : List Int := [2, 2, 1, 1, 1, 1, 1, 3, 3, 5, 5, 1, 1, 1, 1]
def erU (i j : Nat) : AV := (erL.getD i []).getD j (.v undef)
def erG (i : Nat) : GR := (grOf (erU i)).getD ⟨0, 0, 0, ⟨0, fun _ => false, fun _ => [], fun _ => []⟩, ⟨0, fun _ => false, fun _ => [], fun _ => []⟩, ⟨0, fun _ => false, fun _ => [], fun _ => []⟩, ⟨0, fun _ => false, fun _ => [], fun _ => []⟩⟩
end Go.Proofs.Ytpclkgjhfhhddaa.AM
/- Package code: a system is taken. -/
namespace Go.Proofs.Ytpclkgjhfhhddaa.AM
open Go Go.RowKit Go.Proofs.Ytpclkgjhfhhddaa.PN Go.Proofs.Ytpclkgjhfhhddaa.V
set_option linter.unusedVariables false
set_option linter.unusedSimpArgs false
set_option maxRecDepth 8000
set_option maxHeartbeats 8000000
/-- How many numbers each row has. -/
def cnF (k n r : Nat) (i : Nat) : AV := [AV.i (cnA k n), .i (cnB k n), .i (cnH k n r), .i (cnH k n r)].getD i (.v undef)
theorem c_counts {k n r : Nat} (h1 : 1 ≤ k) (h7 : k ≤ 7) (n1 : 1 ≤ n) (n8 : n ≤ 8) (r3 : r ≤ 3) : Has Try.prog 38 [.ag 7 (hdf k n r)] (.ag 4 (cnF k n r)) := by
  have hk : k = 1 ∨ k = 2 ∨ k = 3 ∨ k = 4 ∨ k = 5 ∨ k = 6 ∨ k = 7 := by omega
  have em : (n : Int) * (r : Int) = ((n * r : Nat) : Int) := (Int.natCast_mul n r).symm
  have hnr : n * r ≤ 8 * 3 := Nat.mul_le_mul n8 r3
  have q1 : -9223372036854775808 ≤ (n : Int) * (r : Int) := by rw [em]; omega
  have q2 : (n : Int) * (r : Int) ≤ 9223372036854775807 := by rw [em]; omega
  refine has_of Try.func38 (by kernel_rfl) rfl Try.ntmps38 Try.results38 rfl rfl rfl ?_
  refine run0p ?_
  rcases hk with rfl | rfl | rfl | rfl | rfl | rfl | rfl
  · skip
    refine awp_yes rfl rfl ?_
    refine run0p ?_
    refine awp_yes rfl rfl ?_
    refine run0p ?_
    rw [show (2 : Int) * n - 1 = ((cnA 1 n : Nat) : Int) from by show (2 : Int) * n - 1 = ((2 * n - 1 : Nat) : Int); omega]
    exact ⟨.inr rfl, _, Imp.refl _, .one (.agg rfl rfl rfl rfl (by decide) rfl rfl)⟩
  · skip
    refine awp_no rfl rfl ?_
    refine run0p ?_
    refine awp_yes rfl rfl ?_
    refine run0p ?_
    rw [show (2 : Int) * n - 1 = ((cnA 2 n : Nat) : Int) from by show (2 : Int) * n - 1 = ((2 * n - 1 : Nat) : Int); omega]
    exact ⟨.inr rfl, _, Imp.refl _, .one (.agg rfl rfl rfl rfl (by decide) rfl rfl)⟩
  · skip
    refine awp_no rfl rfl ?_
    refine run0p ?_
    refine awp_no rfl rfl ?_
    refine run0p ?_
    refine awp_yes rfl rfl ?_
    refine run0p ?_
    refine awp_yes rfl rfl ?_
    refine run0p ?_
    exact ⟨.inr rfl, _, Imp.refl _, .one (.agg rfl rfl rfl rfl (by decide) rfl rfl)⟩
  · skip
    refine awp_no rfl rfl ?_
    refine run0p ?_
    refine awp_no rfl rfl ?_
    refine run0p ?_
    refine awp_no rfl rfl ?_
    refine run0p ?_
    refine awp_yes rfl rfl ?_
    refine run0p ?_
    exact ⟨.inr rfl, _, Imp.refl _, .one (.agg rfl rfl rfl rfl (by decide) rfl rfl)⟩
  · skip
    refine awp_no rfl rfl ?_
    refine run0p ?_
    refine awp_no rfl rfl ?_
    refine run0p ?_
    refine awp_no rfl rfl ?_
    refine run0p ?_
    refine awp_no rfl rfl ?_
    refine run0p ?_
    refine awp_yes rfl rfl ?_
    refine run0p ?_
    exact ⟨.inr rfl, _, Imp.refl _, .one (.agg rfl rfl rfl rfl (by decide) rfl rfl)⟩
  · skip
    refine awp_no rfl rfl ?_
    refine run0p ?_
    refine awp_no rfl rfl ?_
    refine run0p ?_
    refine awp_no rfl rfl ?_
    refine run0p ?_
    refine awp_no rfl rfl ?_
    refine run0p ?_
    refine awp_no rfl rfl ?_
    refine run0p ?_
    refine awp_yes rfl rfl ?_
    refine run0p ?_
    rw [em]
    exact ⟨.inr rfl, _, Imp.refl _, .one (.agg rfl rfl rfl rfl (by decide) rfl rfl)⟩
  · skip
    refine awp_no rfl rfl ?_
    refine run0p ?_
    refine awp_no rfl rfl ?_
    refine run0p ?_
    refine awp_no rfl rfl ?_
    refine run0p ?_
    refine awp_no rfl rfl ?_
    refine run0p ?_
    refine awp_no rfl rfl ?_
    refine run0p ?_
    refine awp_no rfl rfl ?_
    refine run0p ?_
    rw [em]
    exact ⟨.inr rfl, _, Imp.refl _, .one (.agg rfl rfl rfl rfl (by decide) rfl rfl)⟩
/-- The rows of a system of which only three numbers are known. -/
def pr0 : PR := ⟨0, fun _ => false, fun _ => [], fun _ => []⟩
theorem hd_chk {k n r : Int} : chk ⟨k, n, r, pr0, pr0, pr0, pr0⟩ = (if headV k n r = 0 then chkR ⟨k, n, r, pr0, pr0, pr0, pr0⟩ else headV k n r) := by
  unfold chk headV
  simp only []
  cases kindB k <;> cases sizedB k n r <;> rfl
theorem hd_chkR {k n r : Int} : chkR ⟨k, n, r, pr0, pr0, pr0, pr0⟩ ≠ 1 ∧ chkR ⟨k, n, r, pr0, pr0, pr0, pr0⟩ ≠ 2 := by
  have e : pr0.sm = true := by decide
  unfold chkR
  simp only [e]
  generalize pr0.len (cnt k n r 0) = a
  generalize pr0.len (cnt k n r 1) = b
  generalize pr0.len (cnt k n r 2) = c
  generalize pr0.len (cnt k n r 3) = d
  generalize pr0.meets pr0 = f
  cases a <;> cases b <;> cases c <;> cases d <;> cases f <;> decide
/-- A system of which only three numbers are known. -/
def hdz (k n r : Int) (i : Nat) : AV := [AV.i k, .i n, .i r, .v (.slice none 0 0), .v (.slice none 0 0), .v (.slice none 0 0), .v (.slice none 0 0)].getD i (.v undef)
theorem c_head {k n r : Int} : Has Try.prog 37 [.ag 7 (hdz k n r)] (.i (headV k n r)) := by
  have c := Has.gr (u := fun i => (hdz k n r i).old) rfl (g_checkr (g := ⟨k, n, r, pr0, pr0, pr0, pr0⟩) ⟨⟨fun i hi => absurd hi (Nat.not_lt_zero _), fun i hi => absurd hi (Nat.not_lt_zero _)⟩, ⟨fun i hi => absurd hi (Nat.not_lt_zero _), fun i hi => absurd hi (Nat.not_lt_zero _)⟩, ⟨fun i hi => absurd hi (Nat.not_lt_zero _), fun i hi => absurd hi (Nat.not_lt_zero _)⟩, ⟨fun i hi => absurd hi (Nat.not_lt_zero _), fun i hi => absurd hi (Nat.not_lt_zero _)⟩⟩)
  have h3 := hd_chkR (k := k) (n := n) (r := r)
  have h4 := hd_chk (k := k) (n := n) (r := r)
  have h5 : headV k n r = 0 ∨ headV k n r = 1 ∨ headV k n r = 2 := by
    unfold headV
    cases kindB k <;> cases sizedB k n r <;> simp
  generalize chk ⟨k, n, r, pr0, pr0, pr0, pr0⟩ = e at *
  generalize headV k n r = v at *
  generalize chkR ⟨k, n, r, pr0, pr0, pr0, pr0⟩ = x at *
  refine has_of Try.func37 (by kernel_rfl) rfl Try.ntmps37 Try.results37 rfl rfl rfl ?_
  repeat(first|refine run1p ?_|((with_reducible apply st_call);exact rfl;exact rfl;exact rfl;first|(exact c))|((with_reducible apply st_callg);exact rfl;exact rfl;(first|exact rfl|assumption);exact rfl;exact rfl;exact rfl;first|(exact c)))
  by_cases h2 : e = 2
  · have hv : v = 2 := by
      rcases h5 with rfl | rfl | rfl
      · rw [if_pos rfl] at h4; omega
      · rw [if_neg (by decide)] at h4; omega
      · rfl
    subst h2
    refine run0p ?_
    refine awp_yes rfl rfl ?_
    refine run0p ?_
    rw [hv]
    exact ⟨.inr rfl, _, Imp.refl _, .one (.tmp rfl)⟩
  · have d2 : decide (e = 2) = false := decide_eq_false h2
    have d3 : (decide (e = 2) == false) = true := by rw [d2]; rfl
    by_cases h1 : e = 1
    · have hv : v = 1 := by
        rcases h5 with rfl | rfl | rfl
        · rw [if_pos rfl] at h4; omega
        · rfl
        · rw [if_neg (by decide)] at h4; omega
      subst h1
      refine run0p ?_
      refine awp_yes rfl rfl ?_
      refine run0p ?_
      rw [hv]
      exact ⟨.inr rfl, _, Imp.refl _, .one (.tmp rfl)⟩
    · have d1 : decide (e = 1) = false := decide_eq_false h1
      have hv : v = 0 := by
        rcases h5 with rfl | rfl | rfl
        · rfl
        · rw [if_neg (by decide)] at h4; omega
        · rw [if_neg (by decide)] at h4; omega
      refine run0p ?_
      refine awp_no rfl d1 ?_
      refine run0p ?_
      rw [hv]
      exact ⟨.inr rfl, _, Imp.refl _, .one (.tmp rfl)⟩
end Go.Proofs.Ytpclkgjhfhhddaa.AM

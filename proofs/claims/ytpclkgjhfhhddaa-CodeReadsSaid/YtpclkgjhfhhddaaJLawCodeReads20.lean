/- Joined texts, 20: CdA CdB CdC CdP CdQ MkD. -/
import Derived.Test.YtpclkgjhfhhddaaJLawCodeReads19
import Derived.Test.YtpclkgjhfhhddaaJLawCodeReads17
set_option linter.unusedVariables false
set_option linter.unusedSimpArgs false
/- Package code: bytes are taken. -/
namespace Go.Proofs.Ytpclkgjhfhhddaa.AM
open Go Go.RowKit Go.Proofs.Ytpclkgjhfhhddaa.PN Go.Proofs.Ytpclkgjhfhhddaa.V
set_option linter.unusedVariables false
set_option linter.unusedSimpArgs false
set_option linter.unusedSectionVars false
set_option maxRecDepth 8000
set_option maxHeartbeats 8000000
/-- A reader: what is left, and its error. -/
def rdF (l : List Int) (e : Int) (i : Nat) : AV := [AV.seq .u8 l, .i e].getD i (.v undef)
theorem rdF_ok (l : List Int) (e : Int) (U : Nat → Bool) : ∀ i, (rdF l e i).ok U
  | 0 | 1 => trivial
  | _ + 2 => trivial
abbrev RDT : TypeId := 72
def RdS (l : List Int) (e : Int) : List (Nat × Fam) := [(60, (1, fun _ => .ones RDT 2 (rdF l e))), (61, (0, fun _ => .rats 0 fun _ => ra0)), (62, (0, fun _ => .rats 0 fun _ => ra0))]
theorem rd_le {σ : Ren} {l : List Int} {e : Int} {f : Nat → AV} (h0 : f 0 = .seq .u8 l) (h1 : f 1 = .i e) : BLe σ (.ones RDT 2 f) (.ones RDT 2 (rdF l e)) :=
  bleo rfl fun i hi => by
    match i, hi with
    | 0, _ => rw [h0]; exact Le.eq rfl rfl
    | 1, _ => rw [h1]; exact Le.eq rfl rfl
theorem okf_rd {U : Nat → Bool} {l : List Int} {e : Int} : okf U (RdS l e) :=
  ⟨fun r _ i _ => rdF_ok l e U i, fun r hr => absurd hr (Nat.not_lt_zero _), fun r hr => absurd hr (Nat.not_lt_zero _), trivial⟩
theorem all0 {s : St} {σ : Ren} {U : Nat → Bool} {g : Nat} {F : Nat → Blk} {l : List (Nat × Fam)} (k : AllH s σ U l) : AllH s σ U ((g, (0, F)) :: l) := ⟨fun r hr => absurd hr (Nat.not_lt_zero _), k⟩
def zs (n : Nat) : List Int := List.replicate n 0
theorem zs_get (n i : Nat) : (zs n).getD i 0 = 0 := by
  unfold zs
  rw [List.getD_eq_getElem?_getD, List.getElem?_replicate]
  split <;> rfl
/-- Enough is left. -/
theorem c_take {l : List Int} {n : Nat} (hn : n ≤ l.length) (hl : l.length ≤ 1000000000) : HasH Try.prog 36 (RdS l 0) [.ptr 60 0 0, .i n] (.seq .u8 (l.take n)) (RdS (l.drop n) 0) := by
  refine hasH_of Try.func36 (by kernel_rfl) rfl Try.ntmps36 Try.results36 True.intro rfl rfl ?_
  have e0 : decide (((l.length : Nat) : Int) < n) = false := decide_eq_false (by omega)
  refine run0p ?_
  refine awp_no rfl e0 ?_
  refine run0p ?_
  refine awp_no rfl rfl ?_
  refine run0p ?_
  have f1 : (l.take ((n : Nat) : Int).toNat).drop (0 : Int).toNat = l.take n := by simp
  have f2 : (l.take ((l.length : Nat) : Int).toNat).drop ((n : Nat) : Int).toNat = l.drop n := by simp
  refine ⟨.inr rfl, [(4, .seq .u8 (l.take n))], imp_id ?_ ?_, .one (.tmp rfl)⟩
  · exact alle rfl (Le.eq (by rw [f1]) rfl) True.intro True.intro
  · exact allh rfl (by decide) (rd_le (by show AV.seq _ _ = _; rw [f2]) rfl) (fun i _ => rdF_ok _ _ _ i) (all0 (all0 True.intro))
/-- Too little is left. -/
theorem c_take_cut {l : List Int} {n : Nat} (hn : l.length < n) (hl : n ≤ 1000000) : HasH Try.prog 36 (RdS l 0) [.ptr 60 0 0, .i n] (.seq .u8 (zs n)) (RdS l 6) := by
  refine hasH_of Try.func36 (by kernel_rfl) rfl Try.ntmps36 Try.results36 True.intro rfl rfl ?_
  have e0 : decide (((l.length : Nat) : Int) < n) = true := decide_eq_true (by omega)
  refine run0p ?_
  refine awp_yes rfl e0 ?_
  refine run0p ?_
  refine awp_yes rfl rfl ?_
  refine run0p ?_
  refine ⟨.inr rfl, [(4, .seq .u8 (zs n))], (imp_seq 4 (zs n) rfl rfl rfl (by unfold zs; simp) fun i hi => by rw [zs_get]).trans (imp_id ?_ ?_), .one (.tmp rfl)⟩
  · exact eA
  · exact allh rfl (by decide) (rd_le rfl rfl) (fun i _ => rdF_ok _ _ _ i) (all0 (all0 True.intro))
/-- An error stays. -/
theorem c_take_err {l : List Int} {n : Nat} {e : Int} (he : e ≠ 0) (hl : n ≤ 1000000) : HasH Try.prog 36 (RdS l e) [.ptr 60 0 0, .i n] (.seq .u8 (zs n)) (RdS l e) := by
  refine hasH_of Try.func36 (by kernel_rfl) rfl Try.ntmps36 Try.results36 True.intro rfl rfl ?_
  have e0 : decide (e = 0) = false := decide_eq_false he
  have e1 : (decide (e = 0) == true) = false := by rw [e0]; rfl
  have e2 : decide (e ≠ 0) = true := decide_eq_true he
  refine run0p ?_
  refine awp_no rfl rfl ?_
  refine run0p ?_
  refine awp_yes rfl e2 ?_
  refine run0p ?_
  refine ⟨.inr rfl, [(4, .seq .u8 (zs n))], (imp_seq 4 (zs n) rfl rfl rfl (by unfold zs; simp) fun i hi => by rw [zs_get]).trans (imp_id ?_ ?_), .one (.tmp rfl)⟩
  · exact eA
  · exact allh rfl (by decide) (rd_le rfl rfl) (fun i _ => rdF_ok _ _ _ i) (all0 (all0 True.intro))
/-- So many bytes are taken. -/
def tkP (n : Nat) (l : List Int) (e : Int) : List Int × List Int × Int := if e = 0 then (if l.length < n then (zs n, l, 6) else (l.take n, l.drop n, 0)) else (zs n, l, e)
theorem c_tk {l : List Int} {e : Int} {n : Nat} (hn : n ≤ 1000000) (hl : l.length ≤ 1000000000) : HasH Try.prog 36 (RdS l e) [.ptr 60 0 0, .i n] (.seq .u8 (tkP n l e).1) (RdS (tkP n l e).2.1 (tkP n l e).2.2) := by
  unfold tkP
  by_cases h0 : e = 0
  · subst h0
    rw [if_pos rfl]
    by_cases h1 : l.length < n
    · rw [if_pos h1]; exact c_take_cut h1 hn
    · rw [if_neg h1]; exact c_take (by omega) hl
  · rw [if_neg h0]; exact c_take_err h0 hn
section
variable {l l1 q : List Int} {e e1 m : Int} (c : HasH Try.prog 36 (RdS l e) [.ptr 60 0 0, .i ((1 : Nat) : Int)] (.seq .u8 q) (RdS l1 e1)) (hq : q.length = 1) (hb : 0 ≤ q.getD 0 0 ∧ q.getD 0 0 ≤ 255) (hm : m ≤ 255)
include c hq hb hm
theorem c_small_ok (he : e1 = 0) (hbm : q.getD 0 0 ≤ m) : HasH Try.prog 67 (RdS l e) [.ptr 60 0 0, .v (.int .u8 m)] (.i (q.getD 0 0)) (RdS l1 0) := by
  subst he
  have e0 : decide (m < q.getD 0 0) = false := decide_eq_false (by omega)
  have b1 : -9223372036854775808 ≤ q.getD 0 0 := by omega
  have b2 : q.getD 0 0 ≤ 9223372036854775807 := by omega
  refine hasH_of Try.func67 (by kernel_rfl) rfl Try.ntmps67 Try.results67 True.intro rfl rfl ?_
  refine run0p ?_
  ((with_reducible apply st_callH); exact rfl; exact rfl; exact rfl; exact (c); (first | exact True.intro | exact ⟨rfl, rfl, rfl, True.intro⟩); exact rfl; exact rfl; exact rfl; exact rfl; (focus (repeat (first | exact True.intro | refine ⟨(by first | exact True.intro | rfl | exact ok_none (closed_ok rfl)), ?_⟩))); (first | exact True.intro | exact okf_WH | exact okf_pf (by exact True.intro) (by exact True.intro) | exact okf_rd | exact okf_pr))
  refine run0p ?_
  refine awp_no rfl e0 ?_
  refine run0p ?_
  refine awp_no rfl rfl ?_
  refine run0p ?_
  refine ⟨.inr rfl, [(4, .i (q.getD 0 0))], imp_id ?_ ?_, .one (.tmp rfl)⟩
  · exact eA
  · exact allh rfl (by decide) (rd_le rfl rfl) (fun i _ => rdF_ok _ _ _ i) (all0 (all0 True.intro))
theorem c_small_gt (he : e1 = 0) (hbm : m < q.getD 0 0) : HasH Try.prog 67 (RdS l e) [.ptr 60 0 0, .v (.int .u8 m)] (.i 0) (RdS l1 1) := by
  subst he
  have e0 : decide (m < q.getD 0 0) = true := decide_eq_true (by omega)
  refine hasH_of Try.func67 (by kernel_rfl) rfl Try.ntmps67 Try.results67 True.intro rfl rfl ?_
  refine run0p ?_
  ((with_reducible apply st_callH); exact rfl; exact rfl; exact rfl; exact (c); (first | exact True.intro | exact ⟨rfl, rfl, rfl, True.intro⟩); exact rfl; exact rfl; exact rfl; exact rfl; (focus (repeat (first | exact True.intro | refine ⟨(by first | exact True.intro | rfl | exact ok_none (closed_ok rfl)), ?_⟩))); (first | exact True.intro | exact okf_WH | exact okf_pf (by exact True.intro) (by exact True.intro) | exact okf_rd | exact okf_pr))
  refine run0p ?_
  refine awp_yes rfl e0 ?_
  refine run0p ?_
  refine awp_yes rfl rfl ?_
  refine run0p ?_
  refine ⟨.inr rfl, [(4, .i 0)], imp_id ?_ ?_, .one (.tmp rfl)⟩
  · exact eA
  · exact allh rfl (by decide) (rd_le rfl rfl) (fun i _ => rdF_ok _ _ _ i) (all0 (all0 True.intro))
theorem c_small_err (he : e1 ≠ 0) : HasH Try.prog 67 (RdS l e) [.ptr 60 0 0, .v (.int .u8 m)] (.i 0) (RdS l1 e1) := by
  have e0 : decide (e1 = 0) = false := decide_eq_false he
  have e3 : (decide (e1 = 0) == true) = false := by rw [e0]; rfl
  have e2 : decide (e1 ≠ 0) = true := decide_eq_true he
  refine hasH_of Try.func67 (by kernel_rfl) rfl Try.ntmps67 Try.results67 True.intro rfl rfl ?_
  refine run0p ?_
  ((with_reducible apply st_callH); exact rfl; exact rfl; exact rfl; exact (c); (first | exact True.intro | exact ⟨rfl, rfl, rfl, True.intro⟩); exact rfl; exact rfl; exact rfl; exact rfl; (focus (repeat (first | exact True.intro | refine ⟨(by first | exact True.intro | rfl | exact ok_none (closed_ok rfl)), ?_⟩))); (first | exact True.intro | exact okf_WH | exact okf_pf (by exact True.intro) (by exact True.intro) | exact okf_rd | exact okf_pr))
  refine run0p ?_
  refine awp_no rfl rfl ?_
  refine run0p ?_
  refine awp_yes rfl e2 ?_
  refine run0p ?_
  refine ⟨.inr rfl, [(4, .i 0)], imp_id ?_ ?_, .one (.tmp rfl)⟩
  · exact eA
  · exact allh rfl (by decide) (rd_le rfl rfl) (fun i _ => rdF_ok _ _ _ i) (all0 (all0 True.intro))
end
/-- Bytes. -/
def By (l : List Int) : Prop := ∀ i, 0 ≤ l.getD i 0 ∧ l.getD i 0 ≤ 255
theorem by_zs (n : Nat) : By (zs n) := fun i => by rw [zs_get]; omega
theorem By.take {l : List Int} (h : By l) (n : Nat) : By (l.take n) := fun i => by
  rw [List.getD_eq_getElem?_getD, List.getElem?_take]
  split
  · rw [← List.getD_eq_getElem?_getD]; exact h i
  · exact ⟨Int.le_refl 0, by decide⟩
theorem By.drop {l : List Int} (h : By l) (n : Nat) : By (l.drop n) := fun i => by
  rw [List.getD_eq_getElem?_getD, List.getElem?_drop, ← List.getD_eq_getElem?_getD]; exact h (n + i)
theorem tk_len (n : Nat) (l : List Int) (e : Int) : (tkP n l e).1.length = n := by
  unfold tkP zs
  by_cases h0 : e = 0 <;> by_cases h1 : l.length < n <;> simp [h0, h1] <;> omega
theorem tk_by {n : Nat} {l : List Int} {e : Int} (h : By l) : By (tkP n l e).1 ∧ By (tkP n l e).2.1 := by
  unfold tkP
  by_cases h0 : e = 0
  · rw [if_pos h0]
    by_cases h1 : l.length < n
    · rw [if_pos h1]; exact ⟨by_zs n, h⟩
    · rw [if_neg h1]; exact ⟨h.take n, h.drop n⟩
  · rw [if_neg h0]; exact ⟨by_zs n, h⟩
theorem tk_le (n : Nat) (l : List Int) (e : Int) : (tkP n l e).2.1.length ≤ l.length := by
  unfold tkP
  by_cases h0 : e = 0 <;> by_cases h1 : l.length < n <;> simp [h0, h1]
/-- A byte that is no greater than a number. -/
def smP (m : Int) (l : List Int) (e : Int) : Int × List Int × Int := if (tkP 1 l e).2.2 = 0 then (if m < (tkP 1 l e).1.getD 0 0 then (0, (tkP 1 l e).2.1, 1) else ((tkP 1 l e).1.getD 0 0, (tkP 1 l e).2.1, 0)) else (0, (tkP 1 l e).2.1, (tkP 1 l e).2.2)
theorem sm_by {m : Int} {l : List Int} {e : Int} (h : By l) : By (smP m l e).2.1 ∧ (smP m l e).2.1.length ≤ l.length := by
  have h1 := (tk_by (n := 1) (e := e) h).2
  have h2 := tk_le 1 l e
  unfold smP
  split
  · split <;> exact ⟨h1, h2⟩
  · exact ⟨h1, h2⟩
theorem sm_le {m : Int} {l : List Int} {e : Int} (hm : 0 ≤ m) (h : By l) : 0 ≤ (smP m l e).1 ∧ (smP m l e).1 ≤ m := by
  have h1 := (tk_by (n := 1) (e := e) h).1 0
  unfold smP
  split
  · split
    · exact ⟨Int.le_refl 0, hm⟩
    · exact ⟨h1.1, by omega⟩
  · exact ⟨Int.le_refl 0, hm⟩
theorem c_sm {m : Int} {l : List Int} {e : Int} (hm : m ≤ 255) (hb : By l) (hl : l.length ≤ 1000000000) : HasH Try.prog 67 (RdS l e) [.ptr 60 0 0, .v (.int .u8 m)] (.i (smP m l e).1) (RdS (smP m l e).2.1 (smP m l e).2.2) := by
  have c := c_tk (n := 1) (e := e) (by decide) hl
  have h1 := tk_len 1 l e
  have h2 := (tk_by (n := 1) (e := e) hb).1 0
  unfold smP
  by_cases h0 : (tkP 1 l e).2.2 = 0
  · rw [if_pos h0]
    by_cases h3 : m < (tkP 1 l e).1.getD 0 0
    · rw [if_pos h3]; exact c_small_gt c h1 h2 hm h0 h3
    · rw [if_neg h3]; exact c_small_ok c h1 h2 hm h0 (by omega)
  · rw [if_neg h0]; exact c_small_err c h1 h2 hm h0
end Go.Proofs.Ytpclkgjhfhhddaa.AM
/- Package code: limbs are taken. -/
namespace Go.Proofs.Ytpclkgjhfhhddaa.AM
open Go Go.RowKit Go.Proofs.Ytpclkgjhfhhddaa.PN Go.Proofs.Ytpclkgjhfhhddaa.V
set_option linter.unusedVariables false
set_option linter.unusedSimpArgs false
set_option maxRecDepth 8000
set_option maxHeartbeats 8000000
section
variable {ops : Array Oper} {s : St} {acc : List Fp} {K : St → List Fp → Prop} {d t : Tmp} {ty ty2 : TypeId} {ps ps2 : String} {aft aft2 : Array Edge} {x y : Operand}
theorem xok_assign {d t : Tmp} {s : St} {v : AV} (h : s.env d = some v) : XOK Try.prog ⟨some t, .assign (.tmp d), ty2, ps2, aft2, none⟩ s (nxt s (some t) (some v) []) :=
  xok_lok (o := ⟨some t, .assign (.tmp d), ty2, ps2, aft2, none⟩) (D := ⟨some v, [], []⟩) (ev_ok (c := True) (by unfold ev avo; simp only [h]; rfl) True.intro) (fun g hb _ => by obtain ⟨b, hb⟩ := hb; cases hb)
theorem suf_make {k k' : IntKind} {l c : Int} (hb : sufB ops (ops.size - 2) = true) (hx : avo s x = some (.v (.int k l))) (hy : avo s y = some (.v (.int k' c))) (hg : s.used 80 = false) (h77 : s.used 77 = true) (h0 : 0 ≤ l) (hlc : l ≤ c) (hc : c ≤ 1000000000)
    (hK : K (nxt ⟨put s.env d (some (.own 80 0)), put s.heap 80 (some (1, fun _ => .lims l.toNat (fun _ => 0))), mark s.used 80⟩ (some t) (some (.own 80 0)) []) (([], []) :: ([], []) :: acc)) :
    AOps Try.prog ops [⟨some d, .makeSlice 41 x y, ty, ps, aft, none⟩, ⟨some t, .assign (.tmp d), ty2, ps2, aft2, none⟩] s acc K :=
  .suf hb ⟨rfl, _, xok_make rfl rfl hx hy hg h77 h0 hlc hc, rfl, _, xok_assign (put_same _ _ _), rfl⟩ hK
theorem suf_append {n z : Nat} {f : Nat → Nat} {e0 e : List (Nat × AV)} {h : List (Nat × Fam)} (hb : sufB ops (ops.size - 2) = true) (hi : Imp s (stl e0 ((80, (1, fun _ => .lims n f)) :: h))) (hx : avo (stl e0 ((80, (1, fun _ => .lims n f)) :: h)) x = some (.own 80 0)) (hy : avo (stl e0 ((80, (1, fun _ => .lims n f)) :: h)) y = some (.lb [z]))
    (he : SubE 80 e0 e) (hde : memN d (keys e) = false) (hh : FreeH 80 h) (hn : n ≤ 1000000)
    (hK : K (nxt (stl ((d, .own 80 0) :: e) ((80, (1, fun _ => .lims (n + 1) (glue n f fun _ => z))) :: h)) (some t) (some (.own 80 0)) []) (([], []) :: ([], []) :: acc)) :
    AOps Try.prog ops [⟨some d, .call ⟨.builtin .append, #[x, y], #[41, 41]⟩, ty, ps, aft, none⟩, ⟨some t, .assign (.tmp d), ty2, ps2, aft2, none⟩] s acc K :=
  .suf hb ⟨rfl, _, xok_imp hi (xok_append rfl rfl hx hy he hde hh rfl hn), rfl, _, xok_assign (by show lkp _ _ = _; rw [lkp_if, if_pos rfl]), rfl⟩ hK
end
theorem lm_same {σ : Ren} {n n' : Nat} {f f' : Nat → Nat} (hn : n = n') (h : ∀ i, i < n → f i = f' i) : BLe σ (.lims n f) (.lims n' f') := ⟨hn, h⟩
/-- A limb of four bytes. -/
def w4 (c : List Int) : Nat := (borN (borN (borN (c.getD 0 0) (shlN (c.getD 1 0) 8)) (shlN (c.getD 2 0) 16)) (shlN (c.getD 3 0) 24)).toNat
theorem bor_nn (a b : Int) : 0 ≤ borN a b := Int.natCast_nonneg _
/-- So many limbs are taken. -/
def lmI (l : List Int) (e : Int) : Nat → List Nat × List Int × Int
  | 0 => ([], l, e)
  | i + 1 => ((lmI l e i).1 ++ [w4 (tkP 4 (lmI l e i).2.1 (lmI l e i).2.2).1], (tkP 4 (lmI l e i).2.1 (lmI l e i).2.2).2)
theorem lmI_by {l : List Int} {e : Int} (hb : By l) : ∀ i, By (lmI l e i).2.1 ∧ (lmI l e i).2.1.length ≤ l.length ∧ (lmI l e i).1.length = i
  | 0 => ⟨hb, Nat.le_refl _, rfl⟩
  | i + 1 => by
    obtain ⟨h1, h2, h3⟩ := lmI_by hb i
    exact ⟨(tk_by h1).2, Nat.le_trans (tk_le _ _ _) h2, by show (_ ++ [_]).length = _; rw [List.length_append, h3]; rfl⟩
def lmP (l : List Int) (e : Int) : List Nat × List Int × Int := lmI (smP 4 l e).2.1 (smP 4 l e).2.2 (smP 4 l e).1.toNat
/-- Own limbs, and that there are such. -/
def Lm (q : List Nat) : Nat × Fam := (80, (1, fun _ => .lims q.length (fun i => q.getD i 0)))
abbrev Mk : Nat × Fam := (77, (0, fun _ => .rats 0 fun _ => ra0))
theorem glue_getD {q : List Nat} {z j : Nat} (hj : j < q.length + 1) : glue q.length (fun j => q.getD j 0) (fun _ => z) j = (q ++ [z]).getD j 0 := by
  show (if j < q.length then q.getD j 0 else z) = _
  by_cases h : j < q.length
  · rw [if_pos h, List.getD_eq_getElem?_getD, List.getD_eq_getElem?_getD, List.getElem?_append_left h]
  · rw [if_neg h, List.getD_eq_getElem?_getD, List.getElem?_append_right (by omega), show j - q.length = 0 by omega]; rfl
theorem rd_free {l : List Int} {e : Int} : FreeH 80 (Mk :: RdS l e) :=
  ⟨⟨by decide, fun r hr => absurd hr (Nat.not_lt_zero _)⟩, ⟨by decide, fun r hr => ⟨_, _, _, rfl, fun i hi => by
    match i, hi with
    | 0, _ => rfl
    | 1, _ => rfl⟩⟩, ⟨by decide, fun r hr => absurd hr (Nat.not_lt_zero _)⟩, ⟨by decide, fun r hr => absurd hr (Nat.not_lt_zero _)⟩, True.intro⟩
theorem c_limbs {l : List Int} {e : Int} (hb : By l) (hl : l.length ≤ 100000000) : HasH Try.prog 68 (RdS l e) [.ptr 60 0 0] (.lb (lmP l e).1) (RdS (lmP l e).2.1 (lmP l e).2.2) := by
  have c1 := c_sm (m := 4) (e := e) (by decide) hb (by omega)
  have hk := sm_le (m := 4) (e := e) (by decide) hb
  have hby := sm_by (m := 4) (e := e) hb
  unfold lmP
  generalize smP 4 l e = q at *
  obtain ⟨v, l1, e1⟩ := q
  obtain ⟨k, rfl⟩ : ∃ k : Nat, v = k := ⟨v.toNat, by have := hk.1; simp only [] at this; omega⟩
  simp only [Int.toNat_natCast] at c1 hk hby ⊢
  refine hasH_of Try.func68 (by kernel_rfl) rfl Try.ntmps68 Try.results68 True.intro rfl rfl ?_
  refine awp_imp (imp_mark _ 77) ?_
  refine run0p ?_
  ((with_reducible apply st_callH); exact rfl; exact rfl; exact rfl; exact (c1); (first | exact True.intro | exact ⟨rfl, rfl, rfl, True.intro⟩); exact rfl; exact rfl; exact rfl; exact rfl; (focus (repeat (first | exact True.intro | refine ⟨(by first | exact True.intro | rfl | exact ok_none (closed_ok rfl)), ?_⟩))); (first | exact True.intro | exact okf_WH | exact okf_pf (by exact True.intro) (by exact True.intro) | exact okf_rd | exact okf_pr))
  refine run0p ?_
  refine suf_make rfl rfl rfl rfl rfl (by decide) (by omega) (by omega) ⟨.inr rfl, ?_⟩
  refine run0p ?_
  refine awp_loop (fun m' s => ∃ i, i ≤ k ∧ m' = k - i ∧ s = stl [(0, .ptr 60 0 0), (4, .own 80 0), (10, .i (k : Int)), (11, .i (i : Int))] (Lm (lmI l1 e1 i).1 :: Mk :: RdS (lmI l1 e1 i).2.1 (lmI l1 e1 i).2.2)) k _ ?_ ⟨0, by omega, rfl, rfl⟩ ?_
  · refine imp_id ?_ ?_
    · exact alle rfl (Le.id rfl) rfl (alle rfl (Le.id rfl) rfl (alle rfl (Le.id rfl) True.intro (alle rfl (Le.id rfl) True.intro True.intro)))
    · exact allh rfl (by decide) (lm_same rfl fun i hi => absurd hi (Nat.not_lt_zero _)) rfl (all0 (allh rfl (by decide) (rd_le rfl rfl) (fun i _ => rdF_ok _ _ _ i) (all0 (all0 True.intro))))
  rintro m' s ⟨i, hi, rfl, rfl⟩
  have hi' : (i : Int) ≤ 4 := by omega
  refine run0p ?_
  refine awp_if rfl (fun h => ?_) (fun h => ?_)
  · have h : (i : Int) < (k : Int) := h
    obtain ⟨a1, a2, a3⟩ := lmI_by (e := e1) hby.1 i
    have c2 := c_tk (n := 4) (l := (lmI l1 e1 i).2.1) (e := (lmI l1 e1 i).2.2) (by decide) (by omega)
    have hlen := tk_len 4 (lmI l1 e1 i).2.1 (lmI l1 e1 i).2.2
    have hbs := (tk_by (n := 4) (e := (lmI l1 e1 i).2.2) a1).1
    have hnx : lmI l1 e1 (i + 1) = ((lmI l1 e1 i).1 ++ [w4 (tkP 4 (lmI l1 e1 i).2.1 (lmI l1 e1 i).2.2).1], (tkP 4 (lmI l1 e1 i).2.1 (lmI l1 e1 i).2.2).2) := rfl
    generalize tkP 4 (lmI l1 e1 i).2.1 (lmI l1 e1 i).2.2 = r at *
    generalize lmI l1 e1 i = st at *
    obtain ⟨q, l2, e2⟩ := st
    obtain ⟨cc, l3, e3⟩ := r
    simp only [] at *
    have b0 : 0 ≤ cc.getD (Int.toNat 0) 0 ∧ cc.getD (Int.toNat 0) 0 ≤ 255 := hbs 0
    have b1 : 0 ≤ cc.getD (Int.toNat 1) 0 ∧ cc.getD (Int.toNat 1) 0 ≤ 255 := hbs 1
    have b2 : 0 ≤ cc.getD (Int.toNat 2) 0 ∧ cc.getD (Int.toNat 2) 0 ≤ 255 := hbs 2
    have b3 : 0 ≤ cc.getD (Int.toNat 3) 0 ∧ cc.getD (Int.toNat 3) 0 ≤ 255 := hbs 3
    refine run0p ?_
    ((with_reducible apply st_callH); exact rfl; exact rfl; exact rfl; exact (c2); (first | exact True.intro | exact ⟨rfl, rfl, rfl, True.intro⟩); exact rfl; exact rfl; exact rfl; exact rfl; (focus (repeat (first | exact True.intro | refine ⟨(by first | exact True.intro | rfl | exact ok_none (closed_ok rfl)), ?_⟩))); (first | exact True.intro | exact okf_WH | exact okf_pf (by exact True.intro) (by exact True.intro) | exact okf_rd | exact okf_pr))
    refine run0p ?_
    refine st_ev rfl ⟨rfl, rfl, by decide, fun z hz => by
      have hz : AV.v (.int .u32 z) ∈ [AV.v (.int .u32 (borN (borN (borN (cc.getD 0 0) (shlN (cc.getD 1 0) 8)) (shlN (cc.getD 2 0) 16)) (shlN (cc.getD 3 0) 24)))] := hz
      have hz := List.mem_singleton.1 hz
      cases hz
      exact bor_nn _ _⟩ ?_
    refine suf_append (e0 := [(0, .ptr 60 0 0), (10, .i (k : Int)), (11, .i (i : Int)), (15, .own 80 0), (38, .lb [w4 cc])]) (e := [(0, .ptr 60 0 0), (10, .i (k : Int)), (11, .i (i : Int))]) (n := q.length) (f := fun j => q.getD j 0) (h := Mk :: RdS l3 e3) (z := w4 cc) rfl (imp_id ?_ ?_) rfl rfl ⟨⟨rfl, rfl⟩, ⟨rfl, rfl⟩, ⟨rfl, rfl⟩, True.intro⟩ rfl ?_ (by omega) ⟨.inr rfl, ?_⟩
    · exact alle rfl (Le.id rfl) rfl (alle rfl (Le.id rfl) True.intro (alle rfl (Le.id rfl) True.intro (alle rfl (Le.id rfl) rfl (alle rfl (Le.id rfl) True.intro True.intro))))
    · exact allh rfl (by decide) (lm_same rfl fun i hi => rfl) rfl (all0 (allh rfl (by decide) (rd_le rfl rfl) (fun i _ => rdF_ok _ _ _ i) (all0 (all0 True.intro))))
    · exact rd_free
    refine run0p ?_
    refine q_loop (m' := k - (i + 1)) (by omega) ?_ ⟨i + 1, by omega, rfl, rfl⟩
    rw [hnx]
    refine imp_id ?_ ?_
    · exact alle rfl (Le.id rfl) rfl (alle rfl (Le.id rfl) rfl (alle rfl (Le.id rfl) True.intro (alle rfl (Le.id rfl) True.intro True.intro)))
    · exact allh rfl (by decide) (lm_same (by simp) fun j hj => glue_getD hj) rfl (all0 (allh rfl (by decide) (rd_le rfl rfl) (fun i _ => rdF_ok _ _ _ i) (all0 (all0 True.intro))))
  · have h : ¬ (i : Int) < (k : Int) := h
    have e : i = k := by omega
    subst e
    obtain ⟨a1, a2, a3⟩ := lmI_by (e := e1) hby.1 i
    refine run0p ?_
    refine ⟨.inr rfl, [(2, .lb (lmI l1 e1 i).1)], (imp_lims 2 (lmI l1 e1 i).1 rfl rfl rfl rfl fun j hj => rfl).trans (imp_id ?_ ?_), .one (.tmp rfl)⟩
    · exact alle rfl (Le.id rfl) True.intro True.intro
    · exact allh rfl (by decide) (rd_le rfl rfl) (fun i _ => rdF_ok _ _ _ i) (all0 (all0 True.intro))
end Go.Proofs.Ytpclkgjhfhhddaa.AM
/- Package code: numbers are taken. -/
namespace Go.Proofs.Ytpclkgjhfhhddaa.AM
open Go Go.RowKit Go.Proofs.Ytpclkgjhfhhddaa.PN Go.Proofs.Ytpclkgjhfhhddaa.V
set_option linter.unusedVariables false
set_option linter.unusedSimpArgs false
set_option maxRecDepth 8000
set_option maxHeartbeats 8000000
theorem own_next {s : St} {t a : Nat} {b b' : Blk} {F : Nat → Blk} {e : List (Nat × AV)} {l : List (Nat × Fam)} (hx : fx3 t = false) (ha : s.heap a = some (1, F)) (hF : F 0 = b') (hb : BLe (s1 t a) b' b) (hok : b.ok (fun g => memN g (t :: keys l))) (hn : notIn t a (keys l) = true) (h6 : (memN 60 (keys l) && memN 61 (keys l) && memN 62 (keys l)) = true)
    (he : AllE s (s1 t a) (fun g => memN g (t :: keys l)) e) (hl : AllH s (s1 t a) (fun g => memN g (t :: keys l)) l) : Imp s (stl e ((t, (1, fun _ => b)) :: l)) := by
  refine imp_stl (h := (t, (1, fun _ => b)) :: l) (s1 t a) (fun _ g hg r => s1_ne fun e => by rw [e, hx] at hg; cases hg) (s1_injl hn) he ⟨fun r hr => ?_, hl⟩ ?_
  · obtain rfl : r = 0 := by omega
    rw [s1_t]
    exact ⟨1, F, ha, Nat.zero_lt_one, by rw [hF]; exact hb, hok⟩
  · rw [Bool.or_eq_true]; right
    rw [Bool.and_eq_true, Bool.and_eq_true] at h6
    have up : ∀ x, memN x (keys l) = true → memN x (keys ((t, ((1, fun _ => b) : Fam)) :: l)) = true := fun x hx => by
      show memN x (t :: keys l) = true
      rw [memN_cons]; cases Nat.beq x t
      · exact hx
      · rfl
    rw [up _ h6.1.1, up _ h6.1.2, up _ h6.2]; rfl
theorem le_nil {σ : Ren} {fr : Bool} {f : Nat → RA} : Le σ (.v (.slice none 0 0)) (.row fr 0 f) := by
  intro S B β w v hv
  have hv : v = .slice none 0 0 := hv
  subst hv
  exact ⟨none, 0, rfl, Nat.le_refl _, Nat.zero_le _, fun i hi => absurd hi (Nat.not_lt_zero _)⟩
theorem tk_err {n : Nat} {l : List Int} {e : Int} (h : e ≠ 0) : tkP n l e = (zs n, l, e) := by unfold tkP; rw [if_neg h]
theorem sm_err {m : Int} {l : List Int} {e : Int} (h : e ≠ 0) : smP m l e = (0, l, e) := by unfold smP; rw [tk_err h]; simp [h]
theorem lm_err {l : List Int} {e : Int} (h : e ≠ 0) : lmP l e = ([], l, e) := by unfold lmP; rw [sm_err h]; rfl
/-- A number is taken. -/
def nmP (l : List Int) (e : Int) : RA × List Int × Int :=
  (.raw (decide ((smP 1 l e).1 = 1)) (lmP (smP 1 l e).2.1 (smP 1 l e).2.2).1 (lmP (lmP (smP 1 l e).2.1 (smP 1 l e).2.2).2.1 (lmP (smP 1 l e).2.1 (smP 1 l e).2.2).2.2).1,
    (lmP (lmP (smP 1 l e).2.1 (smP 1 l e).2.2).2.1 (lmP (smP 1 l e).2.1 (smP 1 l e).2.2).2.2).2)
theorem nm_err {l : List Int} {e : Int} (h : e ≠ 0) : nmP l e = (.raw false [] [], l, e) := by unfold nmP; rw [sm_err h, lm_err h, lm_err h]; rfl
theorem lm_by {l : List Int} {e : Int} (hb : By l) : By (lmP l e).2.1 ∧ (lmP l e).2.1.length ≤ l.length := by
  have h := sm_by (m := 4) (e := e) hb
  have h2 := lmI_by (e := (smP 4 l e).2.2) h.1 (smP 4 l e).1.toNat
  exact ⟨h2.1, Nat.le_trans h2.2.1 h.2⟩
theorem nm_by {l : List Int} {e : Int} (hb : By l) : By (nmP l e).2.1 ∧ (nmP l e).2.1.length ≤ l.length := by
  have h := sm_by (m := 1) (e := e) hb
  have h1 := lm_by (e := (smP 1 l e).2.2) h.1
  have h2 := lm_by (e := (lmP (smP 1 l e).2.1 (smP 1 l e).2.2).2.2) h1.1
  exact ⟨h2.1, Nat.le_trans h2.2 (Nat.le_trans h1.2 h.2)⟩
/-- So many numbers are taken. -/
def rwI (l : List Int) (e : Int) : Nat → List RA × List Int × Int
  | 0 => ([], l, e)
  | i + 1 => ((rwI l e i).1 ++ [(nmP (rwI l e i).2.1 (rwI l e i).2.2).1], (nmP (rwI l e i).2.1 (rwI l e i).2.2).2)
theorem rw_by {l : List Int} {e : Int} (hb : By l) : ∀ i, By (rwI l e i).2.1 ∧ (rwI l e i).2.1.length ≤ l.length ∧ (rwI l e i).1.length = i
  | 0 => ⟨hb, Nat.le_refl _, rfl⟩
  | i + 1 => by
    obtain ⟨h1, h2, h3⟩ := rw_by hb i
    have h4 := nm_by (e := (rwI l e i).2.2) h1
    exact ⟨h4.1, Nat.le_trans h4.2 h2, by show (_ ++ [_]).length = _; rw [List.length_append, h3]; rfl⟩
theorem rw_err {l : List Int} {e : Int} {i : Nat} (h : (rwI l e i).2.2 ≠ 0) : ∀ k, (rwI l e (i + k)).2 = (rwI l e i).2
  | 0 => rfl
  | k + 1 => by
    have ih := rw_err h k
    show (nmP (rwI l e (i + k)).2.1 (rwI l e (i + k)).2.2).2 = _
    rw [ih, nm_err h]
theorem glue_raw {q : List RA} {x : RA} {f' : Nat → RA} {i j : Nat} (hq : q.length = i) (hf : f' 0 = x) (hj : j < i + 1) : glue i (fun j => q.getD j ra0) f' j = (q ++ [x]).getD j ra0 := by
  subst hq
  show (if j < q.length then q.getD j ra0 else f' (j - q.length)) = _
  by_cases h : j < q.length
  · rw [if_pos h, List.getD_eq_getElem?_getD, List.getD_eq_getElem?_getD, List.getElem?_append_left h]
  · rw [if_neg h, List.getD_eq_getElem?_getD, List.getElem?_append_right (by omega), show j - q.length = 0 by omega, hf]; rfl
/-- How many numbers a row has. -/
def rwN (l : List Int) (e : Int) (n : Nat) : Nat := if ∀ j, j < n → (rwI l e j).2.2 = 0 then n else 0
def rwF (l : List Int) (e : Int) (n : Nat) (i : Nat) : RA := (rwI l e n).1.getD i ra0
theorem c_row {l : List Int} {e : Int} {n : Nat} (hb : By l) (hl : l.length ≤ 100000000) (hn : n ≤ 100) : HasH Try.prog 39 (RdS l e) [.ptr 60 0 0, .i n] (.row false (rwN l e n) (rwF l e n)) (RdS (rwI l e n).2.1 (rwI l e n).2.2) := by
  have hn' : (n : Int) ≤ 100 := by omega
  refine hasH_of Try.func39 (by kernel_rfl) rfl Try.ntmps39 Try.results39 True.intro rfl rfl ?_
  refine run0p ?_
  refine awp_loop (fun m' s => ∃ i, i ≤ n ∧ (∀ j, j < i → (rwI l e j).2.2 = 0) ∧ m' = n - i ∧ s = stl [(0, .ptr 60 0 0), (5, .own 20 0), (9, .i (n : Int)), (10, .i (i : Int))] ((20, (1, fun _ => .rats i (fun j => (rwI l e i).1.getD j ra0))) :: RdS (rwI l e i).2.1 (rwI l e i).2.2)) n _ ?_ ⟨0, by omega, (fun j hj => absurd hj (Nat.not_lt_zero _)), rfl, rfl⟩ ?_
  · refine own_next (t := 20) (a := 8) rfl rfl rfl (blen rfl fun i hi => absurd hi (Nat.not_lt_zero _)) True.intro rfl rfl ?_ ?_
    · exact alle rfl (Le.ptr rfl) rfl (alle rfl (Le.own s1_t) rfl (alle rfl (Le.eq rfl rfl) True.intro (alle rfl (Le.eq rfl rfl) True.intro True.intro)))
    · exact allh rfl (by decide) (rd_le rfl rfl) (fun i _ => rdF_ok _ _ _ i) (all0 (all0 True.intro))
  rintro m' s ⟨i, hi, hz, rfl, rfl⟩
  have hi' : (i : Int) ≤ 100 := by omega
  obtain ⟨a1, a2, a3⟩ := rw_by (e := e) hb i
  refine run0p ?_
  refine awp_if rfl (fun h => ?_) (fun h => ?_)
  · have h : (i : Int) < (n : Int) := h
    refine run0p ?_
    by_cases h0 : (rwI l e i).2.2 = 0
    · have d0 : decide ((rwI l e i).2.2 ≠ 0) = false := decide_eq_false (fun c => c h0)
      have c1 := c_sm (m := 1) (e := (rwI l e i).2.2) (by decide) a1 (by omega)
      have k1 := sm_by (m := 1) (e := (rwI l e i).2.2) a1
      have c2 := c_limbs (e := (smP 1 (rwI l e i).2.1 (rwI l e i).2.2).2.2) k1.1 (by omega)
      have k2 := lm_by (e := (smP 1 (rwI l e i).2.1 (rwI l e i).2.2).2.2) k1.1
      have c3 := c_limbs (e := (lmP (smP 1 (rwI l e i).2.1 (rwI l e i).2.2).2.1 (smP 1 (rwI l e i).2.1 (rwI l e i).2.2).2.2).2.2) k2.1 (by omega)
      have hnx : rwI l e (i + 1) = ((rwI l e i).1 ++ [(nmP (rwI l e i).2.1 (rwI l e i).2.2).1], (nmP (rwI l e i).2.1 (rwI l e i).2.2).2) := rfl
      refine awp_no rfl d0 ?_
      refine run0p ?_
      ((with_reducible apply st_callH); exact rfl; exact rfl; exact rfl; exact (c1); (first | exact True.intro | exact ⟨rfl, rfl, rfl, True.intro⟩); exact rfl; exact rfl; exact rfl; exact rfl; (focus (repeat (first | exact True.intro | refine ⟨(by first | exact True.intro | rfl | exact ok_none (closed_ok rfl)), ?_⟩))); (first | exact True.intro | exact okf_WH | exact okf_pf (by exact True.intro) (by exact True.intro) | exact okf_rd | exact okf_pr))
      refine run0p ?_
      ((with_reducible apply st_callH); exact rfl; exact rfl; exact rfl; exact (c2); (first | exact True.intro | exact ⟨rfl, rfl, rfl, True.intro⟩); exact rfl; exact rfl; exact rfl; exact rfl; (focus (repeat (first | exact True.intro | refine ⟨(by first | exact True.intro | rfl | exact ok_none (closed_ok rfl)), ?_⟩))); (first | exact True.intro | exact okf_WH | exact okf_pf (by exact True.intro) (by exact True.intro) | exact okf_rd | exact okf_pr))
      refine run0p ?_
      ((with_reducible apply st_callH); exact rfl; exact rfl; exact rfl; exact (c3); (first | exact True.intro | exact ⟨rfl, rfl, rfl, True.intro⟩); exact rfl; exact rfl; exact rfl; exact rfl; (focus (repeat (first | exact True.intro | refine ⟨(by first | exact True.intro | rfl | exact ok_none (closed_ok rfl)), ?_⟩))); (first | exact True.intro | exact okf_WH | exact okf_pf (by exact True.intro) (by exact True.intro) | exact okf_rd | exact okf_pr))
      refine run0p ?_
      refine q_loop (m' := n - (i + 1)) (by omega) ?_ ⟨i + 1, by omega, fun j hj => (if c : j < i then hz j c else by rw [show j = i by omega]; exact h0), rfl, rfl⟩
      rw [hnx]
      refine own_next (t := 20) (a := 30) rfl rfl rfl (blen rfl fun j hj => glue_raw a3 rfl hj) True.intro rfl rfl ?_ ?_
      · exact alle rfl (Le.ptr rfl) rfl (alle rfl (Le.own s1_t) rfl (alle rfl (Le.eq rfl rfl) True.intro (alle rfl (Le.eq rfl rfl) True.intro True.intro)))
      · exact allh rfl (by decide) (rd_le rfl rfl) (fun i _ => rdF_ok _ _ _ i) (all0 (all0 True.intro))
    · have d0 : decide ((rwI l e i).2.2 ≠ 0) = true := decide_eq_true h0
      refine awp_yes rfl d0 ?_
      refine run0p ?_
      have e1 : rwN l e n = 0 := if_neg fun c => h0 (c i (by omega))
      have e2 : (rwI l e n).2 = (rwI l e i).2 := by
        have := rw_err h0 (n - i)
        rwa [show i + (n - i) = n by omega] at this
      rw [e1, e2]
      refine ⟨.inr rfl, [(4, .row false 0 (rwF l e n))], imp_id ?_ ?_, .one (.tmp rfl)⟩
      · exact alle rfl le_nil True.intro True.intro
      · exact allh rfl (by decide) (rd_le rfl rfl) (fun i _ => rdF_ok _ _ _ i) (all0 (all0 True.intro))
  · have h : ¬ (i : Int) < (n : Int) := h
    have e : i = n := by omega
    subst e
    have e1 : rwN l e i = i := if_pos hz
    refine run0p ?_
    rw [e1]
    refine ⟨.inr rfl, [(4, .row false i (rwF l e i))], (imp_rowv 4 (rwF l e i) rfl rfl rfl fun j _ => rfl).trans (imp_id ?_ ?_), .one (.tmp rfl)⟩
    · exact alle rfl (Le.row rfl (fun _ _ => rfl) (fun h => by cases h)) True.intro True.intro
    · exact allh rfl (by decide) (rd_le rfl rfl) (fun i _ => rdF_ok _ _ _ i) (all0 (all0 True.intro))
end Go.Proofs.Ytpclkgjhfhhddaa.AM
/- ref6: bytes are taken. -/
namespace Go.Proofs.Ytpclkgjhfhhddaa.AM
open Go Go.RowKit Go.Proofs.Ytpclkgjhfhhddaa.PN Go.Proofs.Ytpclkgjhfhhddaa.V
set_option linter.unusedVariables false
set_option linter.unusedSimpArgs false
set_option maxRecDepth 8000
set_option maxHeartbeats 8000000
/-- A parser: its bytes, its place, its error. -/
def prF (b : List Int) (p : Nat) (e : Int) (i : Nat) : AV := [AV.seq .u8 b, .i p, .i e].getD i (.v undef)
theorem prF_ok (b : List Int) (p : Nat) (e : Int) (U : Nat → Bool) : ∀ i, (prF b p e i).ok U
  | 0 | 1 | 2 => trivial
  | _ + 3 => trivial
abbrev PST : TypeId := 81
def PrS (b : List Int) (p : Nat) (e : Int) : List (Nat × Fam) := [(60, (1, fun _ => .ones PST 3 (prF b p e))), (61, (0, fun _ => .rats 0 fun _ => ra0)), (62, (0, fun _ => .rats 0 fun _ => ra0))]
theorem pr_le {σ : Ren} {b : List Int} {p : Nat} {e : Int} {f : Nat → AV} (h0 : f 0 = .seq .u8 b) (h1 : f 1 = .i p) (h2 : f 2 = .i e) : BLe σ (.ones PST 3 f) (.ones PST 3 (prF b p e)) :=
  bleo rfl fun i hi => by
    match i, hi with
    | 0, _ => rw [h0]; exact Le.eq rfl rfl
    | 1, _ => rw [h1]; exact Le.eq rfl rfl
    | 2, _ => rw [h2]; exact Le.eq rfl rfl
theorem okf_pr {U : Nat → Bool} {b : List Int} {p : Nat} {e : Int} : okf U (PrS b p e) :=
  ⟨fun r _ i _ => prF_ok b p e U i, fun r hr => absurd hr (Nat.not_lt_zero _), fun r hr => absurd hr (Nat.not_lt_zero _), trivial⟩
/-- A byte is taken. -/
def byP (b : List Int) (p : Nat) (e : Int) : Int × Nat × Int := if e = 0 then (if b.length ≤ p then (0, p, 6) else (b.getD p 0, p + 1, 0)) else (0, p, e)
theorem d_byte {b : List Int} {p : Nat} {e : Int} (hb : By b) (hl : b.length ≤ 1000000000) (hp : p ≤ b.length) : HasH Try.prog 42 (PrS b p e) [.ptr 60 0 0] (.i (byP b p e).1) (PrS b (byP b p e).2.1 (byP b p e).2.2) := by
  unfold byP
  refine hasH_of Try.func42 (by kernel_rfl) rfl Try.ntmps42 Try.results42 True.intro rfl rfl ?_
  by_cases h0 : e = 0
  · subst h0
    rw [if_pos rfl]
    by_cases h1 : b.length ≤ p
    · have e0 : decide ((p : Int) ≥ (b.length : Int)) = true := decide_eq_true (by omega)
      rw [if_pos h1]
      refine run0p ?_
      refine awp_yes rfl e0 ?_
      refine run0p ?_
      refine awp_yes rfl rfl ?_
      refine run0p ?_
      refine ⟨.inr rfl, [(2, .i 0)], imp_id ?_ ?_, .one (.tmp rfl)⟩
      · exact eA
      · exact allh rfl (by decide) (pr_le rfl rfl rfl) (fun i _ => prF_ok _ _ _ _ i) (all0 (all0 True.intro))
    · have e0 : decide ((p : Int) ≥ (b.length : Int)) = false := decide_eq_false (by omega)
      have b1 := hb p
      have b2 : (0 : Int) ≤ (p : Int) + 1 - 1 := by omega
      have b3 : (p : Int) + 1 - 1 < b.length := by omega
      have e1 : ((p : Int) + 1 - 1).toNat = p := by omega
      have b4 : 0 ≤ b.getD ((p : Int) + 1 - 1).toNat 0 ∧ b.getD ((p : Int) + 1 - 1).toNat 0 ≤ 255 := hb _
      rw [if_neg h1]
      refine run0p ?_
      refine awp_no rfl e0 ?_
      refine run0p ?_
      refine awp_no rfl rfl ?_
      refine run0p ?_
      refine ⟨.inr rfl, [(2, .i (b.getD p 0))], imp_id ?_ ?_, .one (.tmp rfl)⟩
      · exact alle rfl (Le.id (congrArg (fun z => AV.i (b.getD z 0)) e1)) True.intro True.intro
      · exact allh rfl (by decide) (pr_le rfl rfl rfl) (fun i _ => prF_ok _ _ _ _ i) (all0 (all0 True.intro))
  · have e0 : decide (e = 0) = false := decide_eq_false h0
    have e1 : (decide (e = 0) == true) = false := by rw [e0]; rfl
    have e2 : decide (e ≠ 0) = true := decide_eq_true h0
    rw [if_neg h0]
    refine run0p ?_
    refine awp_no rfl rfl ?_
    refine run0p ?_
    refine awp_yes rfl e2 ?_
    refine run0p ?_
    refine ⟨.inr rfl, [(2, .i 0)], imp_id ?_ ?_, .one (.tmp rfl)⟩
    · exact eA
    · exact allh rfl (by decide) (pr_le rfl rfl rfl) (fun i _ => prF_ok _ _ _ _ i) (all0 (all0 True.intro))
theorem by_ok {b : List Int} {p : Nat} {e : Int} (hb : By b) (hp : p ≤ b.length) : (0 ≤ (byP b p e).1 ∧ (byP b p e).1 ≤ 255) ∧ (byP b p e).2.1 ≤ b.length := by
  unfold byP
  have := hb p
  by_cases h0 : e = 0
  · rw [if_pos h0]
    by_cases h1 : b.length ≤ p
    · rw [if_pos h1]; exact ⟨⟨Int.le_refl _, (by show (0 : Int) ≤ 255; decide)⟩, hp⟩
    · rw [if_neg h1]; exact ⟨this, by show p + 1 ≤ _; omega⟩
  · rw [if_neg h0]; exact ⟨⟨Int.le_refl _, (by show (0 : Int) ≤ 255; decide)⟩, hp⟩
/-- One that is not above a bound. -/
def blP (m : Int) (b : List Int) (p : Nat) (e : Int) : Int × Nat × Int := if (byP b p e).2.2 = 0 ∧ m < (byP b p e).1 then ((byP b p e).1, (byP b p e).2.1, 1) else byP b p e
theorem bl_ok {m : Int} {b : List Int} {p : Nat} {e : Int} (hb : By b) (hp : p ≤ b.length) : (0 ≤ (blP m b p e).1 ∧ (blP m b p e).1 ≤ 255) ∧ (blP m b p e).2.1 ≤ b.length := by
  unfold blP
  have := by_ok (e := e) hb hp
  split
  · exact this
  · exact this
theorem d_below {m : Int} {b : List Int} {p : Nat} {e : Int} (hb : By b) (hl : b.length ≤ 1000000000) (hp : p ≤ b.length) : HasH Try.prog 70 (PrS b p e) [.ptr 60 0 0, .i m] (.i (blP m b p e).1) (PrS b (blP m b p e).2.1 (blP m b p e).2.2) := by
  have c := d_byte (e := e) hb hl hp
  unfold blP
  generalize byP b p e = r at *
  obtain ⟨v, p1, e1⟩ := r
  refine hasH_of Try.func70 (by kernel_rfl) rfl Try.ntmps70 Try.results70 True.intro rfl rfl ?_
  refine run0p ?_
  ((with_reducible apply st_callH); exact rfl; exact rfl; exact rfl; exact (c); (first | exact True.intro | exact ⟨rfl, rfl, rfl, True.intro⟩); exact rfl; exact rfl; exact rfl; exact rfl; (focus (repeat (first | exact True.intro | refine ⟨(by first | exact True.intro | rfl | exact ok_none (closed_ok rfl)), ?_⟩))); (first | exact True.intro | exact okf_WH | exact okf_pf (by exact True.intro) (by exact True.intro) | exact okf_rd | exact okf_pr))
  by_cases h0 : e1 = 0
  · subst h0
    by_cases h1 : m < v
    · have e0 : decide (m < v) = true := decide_eq_true h1
      rw [if_pos ⟨rfl, h1⟩]
      refine run0p ?_
      refine awp_yes rfl e0 ?_
      refine run0p ?_
      refine ⟨.inr rfl, [(4, .i v)], imp_id ?_ ?_, .one (.tmp rfl)⟩
      · exact eA
      · exact allh rfl (by decide) (pr_le rfl rfl rfl) (fun i _ => prF_ok _ _ _ _ i) (all0 (all0 True.intro))
    · have e0 : decide (m < v) = false := decide_eq_false h1
      rw [if_neg (fun c => h1 c.2)]
      refine run0p ?_
      refine awp_no rfl e0 ?_
      refine run0p ?_
      refine ⟨.inr rfl, [(4, .i v)], imp_id ?_ ?_, .one (.tmp rfl)⟩
      · exact eA
      · exact allh rfl (by decide) (pr_le rfl rfl rfl) (fun i _ => prF_ok _ _ _ _ i) (all0 (all0 True.intro))
  · have e0 : decide (e1 = 0) = false := decide_eq_false h0
    have e3 : (decide (e1 = 0) == true) = false := by rw [e0]; rfl
    rw [if_neg (fun c => h0 c.1)]
    refine run0p ?_
    refine awp_no rfl rfl ?_
    refine run0p ?_
    refine ⟨.inr rfl, [(4, .i v)], imp_id ?_ ?_, .one (.tmp rfl)⟩
    · exact eA
    · exact allh rfl (by decide) (pr_le rfl rfl rfl) (fun i _ => prF_ok _ _ _ _ i) (all0 (all0 True.intro))
end Go.Proofs.Ytpclkgjhfhhddaa.AM
/- ref6: limbs, numbers are taken. -/
namespace Go.Proofs.Ytpclkgjhfhhddaa.AM
open Go Go.RowKit Go.Proofs.Ytpclkgjhfhhddaa.PN Go.Proofs.Ytpclkgjhfhhddaa.V
set_option linter.unusedVariables false
set_option linter.unusedSimpArgs false
set_option maxRecDepth 8000
set_option maxHeartbeats 8000000
/-- A slot that holds no slice holds own limbs, none. -/
theorem imp_nill {s : St} (t g : Nat) (f : Nat → Nat) (ht : s.env t = some (.v (.slice none 0 0))) (hg : s.used g = false) (h77 : s.used 77 = true) :
    Imp s ⟨put s.env t (some (.own g 0)), put s.heap g (some (1, fun _ => .lims 0 f)), mark s.used g⟩ := by
  intro W N β w a hs
  have h2 := hs.newfam hg none (fun o ho => by cases ho) (.slice none 0 0) (.lims 0 f) (O := fun _ => False) hs.kept (Ext.refl _ _) (fun i h => h.elim) (fun i hi => by cases hi) (fun S' β' _ => ⟨h77, .inl ⟨rfl, rfl⟩⟩)
  have h2 : Sim W N (setv β g (.slice none 0 0)) w a ⟨s.env, put s.heap g (some (1, fun _ => .lims 0 f)), mark s.used g⟩ := h2
  refine ⟨_, h2.kept, h2.nodef, h2.size, fun t' z hz => ?_, h2.heap, h2.live, h2.inj, h2.fix, h2.pin, h2.fixd, h2.keep⟩
  have hz : put s.env t (some (.own g 0)) t' = some z := hz
  by_cases e : t' = t
  · subst e
    rw [put_same] at hz; cases hz
    have hv : a.tmps.getD t' undef = .slice none 0 0 := (hs.env t' _ ht).2
    refine ⟨mark_same _ _, ?_, none, 0, 0, hv⟩
    rw [hv]; unfold setv; rw [if_pos rfl]
  · rw [put_ne _ _ e] at hz; exact h2.env t' z hz
/-- The bytes of a limb. -/
def xbI (b : List Int) (p : Nat) (e : Int) : Nat → Int × Nat × Int
  | 0 => (0, p, e)
  | k + 1 => (borN (xbI b p e k).1 (shlN (byP b (xbI b p e k).2.1 (xbI b p e k).2.2).1 (8 * (k : Int))), (byP b (xbI b p e k).2.1 (xbI b p e k).2.2).2)
theorem xb_ok {b : List Int} {p : Nat} {e : Int} (hb : By b) (hp : p ≤ b.length) : ∀ k, (xbI b p e k).2.1 ≤ b.length
  | 0 => hp
  | k + 1 => (by_ok hb (xb_ok hb hp k)).2
/-- Limbs. -/
def lbI (b : List Int) (p : Nat) (e : Int) : Nat → List Nat × Nat × Int
  | 0 => ([], p, e)
  | i + 1 => ((lbI b p e i).1 ++ [(xbI b (lbI b p e i).2.1 (lbI b p e i).2.2 4).1.toNat], (xbI b (lbI b p e i).2.1 (lbI b p e i).2.2 4).2)
theorem lb_ok {b : List Int} {p : Nat} {e : Int} (hb : By b) (hp : p ≤ b.length) : ∀ i, (lbI b p e i).2.1 ≤ b.length ∧ (lbI b p e i).1.length = i
  | 0 => ⟨hp, rfl⟩
  | i + 1 => ⟨xb_ok hb (lb_ok hb hp i).1 4, by show (_ ++ [_]).length = _; rw [List.length_append, (lb_ok hb hp i).2]; rfl⟩
/-- How many are taken: until there is an error. -/
def cutN (f : Nat → Int) : Nat → Nat
  | 0 => 0
  | n + 1 => if cutN f n = n ∧ f n = 0 then n + 1 else cutN f n
theorem cutN_all {f : Nat → Int} : ∀ {n : Nat}, (∀ j, j < n → f j = 0) → cutN f n = n
  | 0, _ => rfl
  | n + 1, h => by
    unfold cutN
    rw [if_pos ⟨cutN_all fun j hj => h j (by omega), h n (Nat.lt_succ_self n)⟩]
theorem cutN_at {f : Nat → Int} {i : Nat} (h : ∀ j, j < i → f j = 0) (hi : f i ≠ 0) : ∀ k, cutN f (i + k) = i
  | 0 => cutN_all h
  | k + 1 => by
    show (if cutN f (i + k) = i + k ∧ f (i + k) = 0 then i + k + 1 else cutN f (i + k)) = i
    rw [cutN_at h hi k]
    split
    · rename_i c
      obtain ⟨c1, c2⟩ := c
      have : k = 0 := by omega
      subst this
      exact absurd c2 hi
    · rfl
def lbP (b : List Int) (p : Nat) (e : Int) : List Nat × Nat × Int :=
  lbI b (blP 4 b p e).2.1 (blP 4 b p e).2.2 (cutN (fun i => (lbI b (blP 4 b p e).2.1 (blP 4 b p e).2.2 i).2.2) (blP 4 b p e).1.toNat)
theorem lbP_ok {b : List Int} {p : Nat} {e : Int} (hb : By b) (hp : p ≤ b.length) : (lbP b p e).2.1 ≤ b.length := (lb_ok hb (bl_ok hb hp).2 _).1
theorem pr_free {b : List Int} {p : Nat} {e : Int} : FreeH 80 (Mk :: PrS b p e) :=
  ⟨⟨by decide, fun r hr => absurd hr (Nat.not_lt_zero _)⟩, ⟨by decide, fun r hr => ⟨_, _, _, rfl, fun i hi => by
    match i, hi with
    | 0, _ => rfl
    | 1, _ => rfl
    | 2, _ => rfl⟩⟩, ⟨by decide, fun r hr => absurd hr (Nat.not_lt_zero _)⟩, ⟨by decide, fun r hr => absurd hr (Nat.not_lt_zero _)⟩, True.intro⟩
theorem d_limbs {b : List Int} {p : Nat} {e : Int} (hb : By b) (hl : b.length ≤ 1000000000) (hp : p ≤ b.length) : HasH Try.prog 71 (PrS b p e) [.ptr 60 0 0] (.lb (lbP b p e).1) (PrS b (lbP b p e).2.1 (lbP b p e).2.2) := by
  have c1 := d_below (m := 4) (e := e) hb hl hp
  have hk := bl_ok (m := 4) (e := e) hb hp
  unfold lbP
  generalize blP 4 b p e = q at *
  obtain ⟨v, p1, e1⟩ := q
  obtain ⟨n, rfl⟩ : ∃ n : Nat, v = n := ⟨v.toNat, by have := hk.1.1; simp only [] at this; omega⟩
  simp only [Int.toNat_natCast] at c1 hk ⊢
  refine hasH_of Try.func71 (by kernel_rfl) rfl Try.ntmps71 Try.results71 True.intro rfl rfl ?_
  refine awp_imp (imp_mark _ 77) ?_
  refine run0p ?_
  ((with_reducible apply st_callH); exact rfl; exact rfl; exact rfl; exact (c1); (first | exact True.intro | exact ⟨rfl, rfl, rfl, True.intro⟩); exact rfl; exact rfl; exact rfl; exact rfl; (focus (repeat (first | exact True.intro | refine ⟨(by first | exact True.intro | rfl | exact ok_none (closed_ok rfl)), ?_⟩))); (first | exact True.intro | exact okf_WH | exact okf_pf (by exact True.intro) (by exact True.intro) | exact okf_rd | exact okf_pr))
  refine run0p ?_
  refine awp_loop (fun m' s => ∃ i, i ≤ n ∧ (∀ j, j < i → (lbI b p1 e1 j).2.2 = 0) ∧ m' = n - i ∧ s = stl [(0, .ptr 60 0 0), (3, .own 80 0), (4, .i (n : Int)), (5, .i (i : Int))] (Lm (lbI b p1 e1 i).1 :: Mk :: PrS b (lbI b p1 e1 i).2.1 (lbI b p1 e1 i).2.2)) n _ ((imp_nill 3 80 (fun _ => 0) rfl rfl rfl).trans (imp_id ?_ ?_)) ⟨0, by omega, (fun j hj => absurd hj (Nat.not_lt_zero _)), rfl, rfl⟩ ?_
  · exact alle rfl (Le.id rfl) rfl (alle rfl (Le.id rfl) rfl (alle rfl (Le.id rfl) True.intro (alle rfl (Le.id rfl) True.intro True.intro)))
  · exact allh rfl (by decide) (lm_same rfl fun i hi => absurd hi (Nat.not_lt_zero _)) rfl (all0 (allh rfl (by decide) (pr_le rfl rfl rfl) (fun i _ => prF_ok _ _ _ _ i) (all0 (all0 True.intro))))
  rintro m' s ⟨i, hi, hz, rfl, rfl⟩
  have hi' : (i : Int) ≤ 255 := by omega
  obtain ⟨a1, a2⟩ := lb_ok (e := e1) hb hk.2 i
  by_cases h : (i : Int) < (n : Int)
  · have d0 : decide ((i : Int) < (n : Int)) = true := decide_eq_true h
    have d1 : (decide ((i : Int) < (n : Int)) == true) = true := by rw [d0]; rfl
    by_cases h0 : (lbI b p1 e1 i).2.2 = 0
    · have hnx : lbI b p1 e1 (i + 1) = ((lbI b p1 e1 i).1 ++ [(xbI b (lbI b p1 e1 i).2.1 (lbI b p1 e1 i).2.2 4).1.toNat], (xbI b (lbI b p1 e1 i).2.1 (lbI b p1 e1 i).2.2 4).2) := rfl
      have hz2 : ∀ j, j < i + 1 → (lbI b p1 e1 j).2.2 = 0 := fun j hj => if c : j < i then hz j c else by rw [show j = i by omega]; exact h0
      generalize lbI b p1 e1 i = st at *
      obtain ⟨q, p2, e2⟩ := st
      simp only [] at h0 a1 a2 hnx
      subst h0
      refine run0p ?_
      refine awp_yes rfl rfl ?_
      refine run0p ?_
      refine awp_loop (fun m' s => ∃ k, k ≤ 4 ∧ m' = 4 - k ∧ s = stl [(0, .ptr 60 0 0), (3, .own 80 0), (4, .i (n : Int)), (5, .i (i : Int)), (6, .v (.int .u32 (xbI b p2 0 k).1)), (7, .i (k : Int))] (Lm q :: Mk :: PrS b (xbI b p2 0 k).2.1 (xbI b p2 0 k).2.2)) 4 _ (imp_id ?_ ?_) ⟨0, by omega, rfl, rfl⟩ ?_
      · exact alle rfl (Le.id rfl) rfl (alle rfl (Le.id rfl) rfl (alle rfl (Le.id rfl) True.intro (alle rfl (Le.id rfl) True.intro (alle rfl (Le.id rfl) True.intro (alle rfl (Le.id rfl) True.intro True.intro)))))
      · exact allh rfl (by decide) (lm_same rfl fun i hi => rfl) rfl (all0 (allh rfl (by decide) (pr_le rfl rfl rfl) (fun i _ => prF_ok _ _ _ _ i) (all0 (all0 True.intro))))
      rintro m' s ⟨k, hk4, rfl, rfl⟩
      have hk' : (k : Int) ≤ 4 := by omega
      have x1 := xb_ok (e := 0) hb a1 k
      refine run0p ?_
      refine awp_if rfl (fun h2 => ?_) (fun h2 => ?_)
      · have h2 : (k : Int) < 4 := h2
        have c2 := d_byte (e := (xbI b p2 0 k).2.2) hb hl x1
        have x2 := by_ok (e := (xbI b p2 0 k).2.2) hb x1
        have hxs : xbI b p2 0 (k + 1) = (borN (xbI b p2 0 k).1 (shlN (byP b (xbI b p2 0 k).2.1 (xbI b p2 0 k).2.2).1 (8 * (k : Int))), (byP b (xbI b p2 0 k).2.1 (xbI b p2 0 k).2.2).2) := rfl
        generalize byP b (xbI b p2 0 k).2.1 (xbI b p2 0 k).2.2 = r at *
        obtain ⟨v, p3, e3⟩ := r
        simp only [] at x2 hxs c2
        have x3 := x2.1.1
        have x4 := x2.1.2
        refine run0p ?_
        ((with_reducible apply st_callH); exact rfl; exact rfl; exact rfl; exact (c2); (first | exact True.intro | exact ⟨rfl, rfl, rfl, True.intro⟩); exact rfl; exact rfl; exact rfl; exact rfl; (focus (repeat (first | exact True.intro | refine ⟨(by first | exact True.intro | rfl | exact ok_none (closed_ok rfl)), ?_⟩))); (first | exact True.intro | exact okf_WH | exact okf_pf (by exact True.intro) (by exact True.intro) | exact okf_rd | exact okf_pr))
        refine run0p ?_
        refine q_loop (m' := 4 - (k + 1)) (by omega) ?_ ⟨k + 1, by omega, rfl, rfl⟩
        rw [hxs]
        refine imp_id ?_ ?_
        · exact alle rfl (Le.id rfl) rfl (alle rfl (Le.id rfl) rfl (alle rfl (Le.id rfl) True.intro (alle rfl (Le.id rfl) True.intro (alle rfl (Le.id rfl) True.intro (alle rfl (Le.id rfl) True.intro True.intro)))))
        · exact allh rfl (by decide) (lm_same rfl fun i hi => rfl) rfl (all0 (allh rfl (by decide) (pr_le rfl rfl rfl) (fun i _ => prF_ok _ _ _ _ i) (all0 (all0 True.intro))))
      · have h2 : ¬ (k : Int) < 4 := h2
        have e : k = 4 := by omega
        subst e
        refine run0p ?_
        refine st_ev rfl ⟨rfl, rfl, by decide, fun z hz => by
          have hz : AV.v (.int .u32 z) ∈ [AV.v (.int .u32 (xbI b p2 0 4).1)] := hz
          have hz := List.mem_singleton.1 hz
          cases hz
          exact bor_nn _ _⟩ ?_
        refine suf_append (e0 := [(0, .ptr 60 0 0), (4, .i (n : Int)), (5, .i (i : Int)), (35, .own 80 0), (37, .lb [(xbI b p2 0 4).1.toNat])]) (e := [(0, .ptr 60 0 0), (4, .i (n : Int)), (5, .i (i : Int))]) (n := q.length) (f := fun j => q.getD j 0) (h := Mk :: PrS b (xbI b p2 0 4).2.1 (xbI b p2 0 4).2.2) (z := (xbI b p2 0 4).1.toNat) rfl (imp_id ?_ ?_) rfl rfl ⟨⟨rfl, rfl⟩, ⟨rfl, rfl⟩, ⟨rfl, rfl⟩, True.intro⟩ rfl ?_ (by omega) ⟨.inr rfl, ?_⟩
        · exact alle rfl (Le.id rfl) rfl (alle rfl (Le.id rfl) True.intro (alle rfl (Le.id rfl) True.intro (alle rfl (Le.id rfl) rfl (alle rfl (Le.id rfl) True.intro True.intro))))
        · exact allh rfl (by decide) (lm_same rfl fun i hi => rfl) rfl (all0 (allh rfl (by decide) (pr_le rfl rfl rfl) (fun i _ => prF_ok _ _ _ _ i) (all0 (all0 True.intro))))
        · exact pr_free
        refine run0p ?_
        refine q_loop (m' := n - (i + 1)) (by omega) ?_ ⟨i + 1, by omega, hz2, rfl, rfl⟩
        rw [hnx]
        refine imp_id ?_ ?_
        · exact alle rfl (Le.id rfl) rfl (alle rfl (Le.id rfl) rfl (alle rfl (Le.id rfl) True.intro (alle rfl (Le.id rfl) True.intro True.intro)))
        · exact allh rfl (by decide) (lm_same (by simp) fun j hj => glue_getD hj) rfl (all0 (allh rfl (by decide) (pr_le rfl rfl rfl) (fun i _ => prF_ok _ _ _ _ i) (all0 (all0 True.intro))))
    · have d2 : decide ((lbI b p1 e1 i).2.2 = 0) = false := decide_eq_false h0
      have ecut : cutN (fun i => (lbI b p1 e1 i).2.2) n = i := by
        have := cutN_at (f := fun i => (lbI b p1 e1 i).2.2) hz h0 (n - i)
        rwa [show i + (n - i) = n by omega] at this
      rw [ecut]
      refine run0p ?_
      refine awp_no rfl d2 ?_
      refine run0p ?_
      refine ⟨.inr rfl, [(2, .lb (lbI b p1 e1 i).1)], (imp_lims 2 (lbI b p1 e1 i).1 rfl rfl rfl rfl fun j hj => rfl).trans (imp_id ?_ ?_), .one (.tmp rfl)⟩
      · exact alle rfl (Le.id rfl) True.intro True.intro
      · exact allh rfl (by decide) (pr_le rfl rfl rfl) (fun i _ => prF_ok _ _ _ _ i) (all0 (all0 True.intro))
  · have e : i = n := by omega
    subst e
    have d0 : decide ((i : Int) < (i : Int)) = false := decide_eq_false h
    have d1 : (decide ((i : Int) < (i : Int)) == true) = false := by rw [d0]; rfl
    have ecut : cutN (fun i => (lbI b p1 e1 i).2.2) i = i := cutN_all hz
    rw [ecut]
    refine run0p ?_
    refine awp_no rfl rfl ?_
    refine run0p ?_
    refine ⟨.inr rfl, [(2, .lb (lbI b p1 e1 i).1)], (imp_lims 2 (lbI b p1 e1 i).1 rfl rfl rfl rfl fun j hj => rfl).trans (imp_id ?_ ?_), .one (.tmp rfl)⟩
    · exact alle rfl (Le.id rfl) True.intro True.intro
    · exact allh rfl (by decide) (pr_le rfl rfl rfl) (fun i _ => prF_ok _ _ _ _ i) (all0 (all0 True.intro))
/-- A number. -/
def nbP (b : List Int) (p : Nat) (e : Int) : RA × Nat × Int :=
  (.raw (decide ((blP 1 b p e).1 = 1)) (lbP b (blP 1 b p e).2.1 (blP 1 b p e).2.2).1 (lbP b (lbP b (blP 1 b p e).2.1 (blP 1 b p e).2.2).2.1 (lbP b (blP 1 b p e).2.1 (blP 1 b p e).2.2).2.2).1,
    (lbP b (lbP b (blP 1 b p e).2.1 (blP 1 b p e).2.2).2.1 (lbP b (blP 1 b p e).2.1 (blP 1 b p e).2.2).2.2).2)
theorem nb_ok {b : List Int} {p : Nat} {e : Int} (hb : By b) (hp : p ≤ b.length) : (nbP b p e).2.1 ≤ b.length := lbP_ok hb (lbP_ok hb (bl_ok hb hp).2)
/-- So many numbers. -/
def rbI (b : List Int) (p : Nat) (e : Int) : Nat → List RA × Nat × Int
  | 0 => ([], p, e)
  | i + 1 => ((rbI b p e i).1 ++ [(nbP b (rbI b p e i).2.1 (rbI b p e i).2.2).1], (nbP b (rbI b p e i).2.1 (rbI b p e i).2.2).2)
theorem rb_ok {b : List Int} {p : Nat} {e : Int} (hb : By b) (hp : p ≤ b.length) : ∀ i, (rbI b p e i).2.1 ≤ b.length ∧ (rbI b p e i).1.length = i
  | 0 => ⟨hp, rfl⟩
  | i + 1 => ⟨nb_ok hb (rb_ok hb hp i).1, by show (_ ++ [_]).length = _; rw [List.length_append, (rb_ok hb hp i).2]; rfl⟩
/-- How many numbers a row has. -/
def rbN (b : List Int) (p : Nat) (e : Int) (n : Nat) : Nat := cutN (fun i => (rbI b p e i).2.2) n
def rbF (b : List Int) (p : Nat) (e : Int) (n : Nat) (i : Nat) : RA := (rbI b p e (rbN b p e n)).1.getD i ra0
theorem d_row {b : List Int} {p : Nat} {e : Int} {n : Nat} (hb : By b) (hl : b.length ≤ 1000000000) (hp : p ≤ b.length) (hn : n ≤ 100) : HasH Try.prog 44 (PrS b p e) [.ptr 60 0 0, .i n] (.row false (rbN b p e n) (rbF b p e n)) (PrS b (rbI b p e (rbN b p e n)).2.1 (rbI b p e (rbN b p e n)).2.2) := by
  have hn' : (n : Int) ≤ 100 := by omega
  refine hasH_of Try.func44 (by kernel_rfl) rfl Try.ntmps44 Try.results44 True.intro rfl rfl ?_
  refine run0p ?_
  refine awp_loop (fun m' s => ∃ i, i ≤ n ∧ (∀ j, j < i → (rbI b p e j).2.2 = 0) ∧ m' = n - i ∧ s = stl [(0, .ptr 60 0 0), (1, .i (n : Int)), (5, .own 20 0), (6, .i (i : Int))] ((20, (1, fun _ => .rats i (fun j => (rbI b p e i).1.getD j ra0))) :: PrS b (rbI b p e i).2.1 (rbI b p e i).2.2)) n _ ((imp_nil 5 20 (.rats 0 fun _ => ra0) rfl rfl rfl).trans (imp_id ?_ ?_)) ⟨0, by omega, (fun j hj => absurd hj (Nat.not_lt_zero _)), rfl, rfl⟩ ?_
  · exact alle rfl (Le.id rfl) rfl (alle rfl (Le.id rfl) True.intro (alle rfl (Le.id rfl) rfl (alle rfl (Le.id rfl) True.intro True.intro)))
  · exact allh rfl (by decide) (blen rfl fun i hi => absurd hi (Nat.not_lt_zero _)) True.intro (allh rfl (by decide) (pr_le rfl rfl rfl) (fun i _ => prF_ok _ _ _ _ i) (all0 (all0 True.intro)))
  rintro m' s ⟨i, hi, hz, rfl, rfl⟩
  have hi' : (i : Int) ≤ 100 := by omega
  obtain ⟨a1, a2⟩ := rb_ok (e := e) hb hp i
  by_cases h : (i : Int) < (n : Int)
  · have d0 : decide ((i : Int) < (n : Int)) = true := decide_eq_true h
    have d1 : (decide ((i : Int) < (n : Int)) == true) = true := by rw [d0]; rfl
    by_cases h0 : (rbI b p e i).2.2 = 0
    · have hnx : rbI b p e (i + 1) = ((rbI b p e i).1 ++ [(nbP b (rbI b p e i).2.1 (rbI b p e i).2.2).1], (nbP b (rbI b p e i).2.1 (rbI b p e i).2.2).2) := rfl
      have hz2 : ∀ j, j < i + 1 → (rbI b p e j).2.2 = 0 := fun j hj => if c : j < i then hz j c else by rw [show j = i by omega]; exact h0
      have c1 := d_below (m := 1) (e := (rbI b p e i).2.2) hb hl a1
      have k1 := (bl_ok (m := 1) (e := (rbI b p e i).2.2) hb a1).2
      have c2 := d_limbs (e := (blP 1 b (rbI b p e i).2.1 (rbI b p e i).2.2).2.2) hb hl k1
      have k2 := lbP_ok (e := (blP 1 b (rbI b p e i).2.1 (rbI b p e i).2.2).2.2) hb k1
      have c3 := d_limbs (e := (lbP b (blP 1 b (rbI b p e i).2.1 (rbI b p e i).2.2).2.1 (blP 1 b (rbI b p e i).2.1 (rbI b p e i).2.2).2.2).2.2) hb hl k2
      generalize rbI b p e i = st at *
      obtain ⟨q, p2, e2⟩ := st
      simp only [] at h0 a1 a2 c1 c2 c3 hnx
      subst h0
      refine run0p ?_
      refine awp_yes rfl rfl ?_
      refine run0p ?_
      ((with_reducible apply st_callH); exact rfl; exact rfl; exact rfl; exact (c1); (first | exact True.intro | exact ⟨rfl, rfl, rfl, True.intro⟩); exact rfl; exact rfl; exact rfl; exact rfl; (focus (repeat (first | exact True.intro | refine ⟨(by first | exact True.intro | rfl | exact ok_none (closed_ok rfl)), ?_⟩))); (first | exact True.intro | exact okf_WH | exact okf_pf (by exact True.intro) (by exact True.intro) | exact okf_rd | exact okf_pr))
      refine run0p ?_
      ((with_reducible apply st_callH); exact rfl; exact rfl; exact rfl; exact (c2); (first | exact True.intro | exact ⟨rfl, rfl, rfl, True.intro⟩); exact rfl; exact rfl; exact rfl; exact rfl; (focus (repeat (first | exact True.intro | refine ⟨(by first | exact True.intro | rfl | exact ok_none (closed_ok rfl)), ?_⟩))); (first | exact True.intro | exact okf_WH | exact okf_pf (by exact True.intro) (by exact True.intro) | exact okf_rd | exact okf_pr))
      refine run0p ?_
      ((with_reducible apply st_callH); exact rfl; exact rfl; exact rfl; exact (c3); (first | exact True.intro | exact ⟨rfl, rfl, rfl, True.intro⟩); exact rfl; exact rfl; exact rfl; exact rfl; (focus (repeat (first | exact True.intro | refine ⟨(by first | exact True.intro | rfl | exact ok_none (closed_ok rfl)), ?_⟩))); (first | exact True.intro | exact okf_WH | exact okf_pf (by exact True.intro) (by exact True.intro) | exact okf_rd | exact okf_pr))
      refine run0p ?_
      refine q_loop (m' := n - (i + 1)) (by omega) ?_ ⟨i + 1, by omega, hz2, rfl, rfl⟩
      rw [hnx]
      refine own_next (t := 20) (a := 33) rfl rfl rfl (blen rfl fun j hj => glue_raw a2 rfl hj) True.intro rfl rfl ?_ ?_
      · exact alle rfl (Le.ptr rfl) rfl (alle rfl (Le.eq rfl rfl) True.intro (alle rfl (Le.own s1_t) rfl (alle rfl (Le.eq rfl rfl) True.intro True.intro)))
      · exact allh rfl (by decide) (pr_le rfl rfl rfl) (fun i _ => prF_ok _ _ _ _ i) (all0 (all0 True.intro))
    · have d2 : decide ((rbI b p e i).2.2 = 0) = false := decide_eq_false h0
      have ecut : rbN b p e n = i := by
        have := cutN_at (f := fun i => (rbI b p e i).2.2) hz h0 (n - i)
        rwa [show i + (n - i) = n by omega] at this
      rw [ecut]
      refine run0p ?_
      refine awp_no rfl d2 ?_
      refine run0p ?_
      refine ⟨.inr rfl, [(4, .row false i (rbF b p e n))], (imp_rowv 4 (rbF b p e n) rfl rfl rfl fun j _ => by unfold rbF; rw [show rbN b p e n = i from ecut]).trans (imp_id ?_ ?_), .one (.tmp rfl)⟩
      · exact alle rfl (Le.row rfl (fun _ _ => rfl) (fun h => by cases h)) True.intro True.intro
      · exact allh rfl (by decide) (pr_le rfl rfl rfl) (fun i _ => prF_ok _ _ _ _ i) (all0 (all0 True.intro))
  · have e0 : i = n := by omega
    subst e0
    have d0 : decide ((i : Int) < (i : Int)) = false := decide_eq_false h
    have d1 : (decide ((i : Int) < (i : Int)) == true) = false := by rw [d0]; rfl
    have ecut : rbN b p e i = i := cutN_all hz
    rw [ecut]
    refine run0p ?_
    refine awp_no rfl rfl ?_
    refine run0p ?_
    refine ⟨.inr rfl, [(4, .row false i (rbF b p e i))], (imp_rowv 4 (rbF b p e i) rfl rfl rfl fun j _ => by unfold rbF; rw [show rbN b p e i = i from ecut]).trans (imp_id ?_ ?_), .one (.tmp rfl)⟩
    · exact alle rfl (Le.row rfl (fun _ _ => rfl) (fun h => by cases h)) True.intro True.intro
    · exact allh rfl (by decide) (pr_le rfl rfl rfl) (fun i _ => prF_ok _ _ _ _ i) (all0 (all0 True.intro))
end Go.Proofs.Ytpclkgjhfhhddaa.AM
/- Laws of systems: what is known. -/
namespace Go.Proofs.Ytpclkgjhfhhddaa.AM
open Go Go.RowKit Go.Proofs.Ytpclkgjhfhhddaa.PN Go.Proofs.Ytpclkgjhfhhddaa.V
open Go.Proofs.Ytpclkgjhfhhddaa.LA (S S_succ S_zero S_congr)
set_option linter.unusedVariables false
set_option linter.unusedSimpArgs false
set_option maxRecDepth 8000
set_option maxHeartbeats 8000000
theorem rv_agv {S : Nat → Prop} {B : Nat} {β : Nat → Nat → Value} {w : World} {n : Nat} {f f' : Nat → AV} (h : ∀ i, i < n → ∀ v, RV S B β w (f i) v → RV S B β w (f' i) v) (v : Value) (hv : RV S B β w (.ag n f) v) : RV S B β w (.ag n f') v := by
  obtain ⟨cs, e1, e2, e3⟩ := hv
  refine ⟨cs, e1, e2, fun i hi => ?_⟩
  obtain ⟨y, a0, a1, a2⟩ := e3 i hi
  exact ⟨y, a0, a1, h i hi y a2⟩
def kg : GD := ⟨3, 1, 0, 1, 0, 0, 0, fun _ => 5, fun _ => 0, fun _ => 0, fun _ => 0⟩
end Go.Proofs.Ytpclkgjhfhhddaa.AM

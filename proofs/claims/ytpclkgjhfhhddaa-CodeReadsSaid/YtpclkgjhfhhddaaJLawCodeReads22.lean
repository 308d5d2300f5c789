/- Joined texts, 22: CdE CdR. -/
import Derived.Test.YtpclkgjhfhhddaaJLawCodeReads21
import Derived.Test.YtpclkgjhfhhddaaJLawCodeReads20
set_option linter.unusedVariables false
set_option linter.unusedSimpArgs false
/- Package code: Parse. -/
namespace Go.Proofs.Ytpclkgjhfhhddaa.AM
open Go Go.RowKit Go.Proofs.Ytpclkgjhfhhddaa.PN Go.Proofs.Ytpclkgjhfhhddaa.V
set_option linter.unusedVariables false
set_option linter.unusedSimpArgs false
set_option maxRecDepth 8000
set_option maxHeartbeats 8000000
def psk (l : List Int) : Int := (tkP 3 l 0).1.getD 0 0
def psn (l : List Int) : Int := (tkP 3 l 0).1.getD 1 0
def psr (l : List Int) : Int := (tkP 3 l 0).1.getD 2 0
/-- How many numbers are in a row. -/
def psC (l : List Int) (i : Nat) : Nat := [cnA (psk l).toNat (psn l).toNat, cnB (psk l).toNat (psn l).toNat, cnH (psk l).toNat (psn l).toNat (psr l).toNat, cnH (psk l).toNat (psn l).toNat (psr l).toNat].getD i 0
/-- What is left before a row, and the error. -/
def psS (l : List Int) : Nat → List Int × Int
  | 0 => ((tkP 3 l 0).2.1, 0)
  | i + 1 => (rwI (psS l i).1 (psS l i).2 (psC l i)).2
def psM (l : List Int) (i : Nat) : Nat := rwN (psS l i).1 (psS l i).2 (psC l i)
def psF (l : List Int) (i : Nat) : Nat → RA := rwF (psS l i).1 (psS l i).2 (psC l i)
def prR (m : Nat) (f : Nat → RA) : PR := ⟨m, fun i => (f i).sgn, fun i => raN (f i), fun i => raD (f i)⟩
def psG (l : List Int) : GR := ⟨psk l, psn l, psr l, prR (psM l 0) (psF l 0), prR (psM l 1) (psF l 1), prR (psM l 2) (psF l 2), prR (psM l 3) (psF l 3)⟩
/-- The error that is told. -/
def psE (l : List Int) : Int :=
  if (tkP 3 l 0).2.2 ≠ 0 then (tkP 3 l 0).2.2 else if headV (psk l) (psn l) (psr l) ≠ 0 then headV (psk l) (psn l) (psr l) else if (psS l 4).2 ≠ 0 then (psS l 4).2 else if 0 < (psS l 4).1.length then 7 else chk (psG l)
def ifz (e a : Int) : Int := if e = 0 then a else 0
def ifn (e : Int) (a : Nat) : Nat := if e = 0 then a else 0
/-- The system that is told, of this error. -/
def psU (l : List Int) (e : Int) : Nat → AV := gF (ifz e (psk l)) (ifz e (psn l)) (ifz e (psr l)) (fun i => ifn e (psM l i)) (psF l)
def psV (l : List Int) : Nat → AV := psU l (psE l)
theorem w4_lt (c : List Int) : w4 c < B := by
  unfold w4 borN
  rw [Int.toNat_natCast]
  exact (BitVec.ofInt 32 _ ||| BitVec.ofInt 32 _).isLt
theorem lm_lf {l : List Int} {e : Int} : LF (lmP l e).1 := by
  have key : ∀ l e i, LF (lmI l e i).1 := by
    intro l e i
    induction i with
    | zero => intro x hx; cases hx
    | succ i ih =>
      intro x hx
      rcases List.mem_append.1 hx with hx | hx
      · exact ih x hx
      · rw [List.mem_singleton.1 hx]; exact w4_lt _
  exact key _ _ _
def RAf (q : RA) : Prop := LF (raN q) ∧ LF (raD q)
theorem rw_fin {l : List Int} {e : Int} : ∀ n, ∀ q ∈ (rwI l e n).1, RAf q
  | 0, q, hq => by cases hq
  | n + 1, q, hq => by
    rcases List.mem_append.1 hq with hq | hq
    · exact rw_fin n q hq
    · rw [List.mem_singleton.1 hq]; exact ⟨lm_lf, lm_lf⟩
theorem rwF_fin {l : List Int} {e : Int} {n i : Nat} : RAf (rwF l e n i) := by
  unfold rwF
  rw [List.getD_eq_getElem?_getD]
  cases h : (rwI l e n).1[i]? with
  | none =>
    show LF (raN ra0) ∧ LF (raD ra0)
    decide
  | some q => exact rw_fin n q (List.mem_of_getElem? h)
theorem psG_fin {l : List Int} : (psG l).Fin :=
  ⟨⟨fun i _ => rwF_fin.1, fun i _ => rwF_fin.2⟩, ⟨fun i _ => rwF_fin.1, fun i _ => rwF_fin.2⟩, ⟨fun i _ => rwF_fin.1, fun i _ => rwF_fin.2⟩, ⟨fun i _ => rwF_fin.1, fun i _ => rwF_fin.2⟩⟩
theorem hdz_ok {k n r : Int} (U : Nat → Bool) : ∀ i, (hdz k n r i).ok U
  | 0 | 1 | 2 | 3 | 4 | 5 | 6 => trivial
  | _ + 7 => trivial
theorem ifz_ne {e a : Int} (h : e ≠ 0) : ifz e a = 0 := if_neg h
theorem ifn_ne {e : Int} {a : Nat} (h : e ≠ 0) : ifn e a = 0 := if_neg h
theorem ble_err {σ : Ren} {T : TypeId} {l : List Int} {e : Int} {f : Nat → AV} (h : e ≠ 0) (hf : f = fun i => ([Value.int IntKind.i64 0, Value.int IntKind.i64 0, Value.int IntKind.i64 0, Value.slice none 0 0, Value.slice none 0 0, Value.slice none 0 0, Value.slice none 0 0].map AV.v).getD i (AV.v undef)) : BLe σ (.ones T 7 f) (.ones T 7 (psU l e)) := by
  subst hf
  refine bleo rfl fun i hi => ?_
  match i, hi with
  | 0, _ => show Le σ (.i 0) (.i (ifz e (psk l))); rw [ifz_ne h]; exact Le.eq rfl rfl
  | 1, _ => show Le σ (.i 0) (.i (ifz e (psn l))); rw [ifz_ne h]; exact Le.eq rfl rfl
  | 2, _ => show Le σ (.i 0) (.i (ifz e (psr l))); rw [ifz_ne h]; exact Le.eq rfl rfl
  | 3, _ => show Le σ (.v (.slice none 0 0)) (.row false (ifn e (psM l 0)) (psF l 0)); rw [ifn_ne h]; exact le_nil
  | 4, _ => show Le σ (.v (.slice none 0 0)) (.row false (ifn e (psM l 1)) (psF l 1)); rw [ifn_ne h]; exact le_nil
  | 5, _ => show Le σ (.v (.slice none 0 0)) (.row false (ifn e (psM l 2)) (psF l 2)); rw [ifn_ne h]; exact le_nil
  | 6, _ => show Le σ (.v (.slice none 0 0)) (.row false (ifn e (psM l 3)) (psF l 3)); rw [ifn_ne h]; exact le_nil
theorem cn_le2 {k n r : Nat} (hn : n ≤ 8) (hr : r ≤ 3) : cnA k n ≤ 100 ∧ cnB k n ≤ 100 ∧ cnH k n r ≤ 100 := by
  have hnr : n * r ≤ 8 * 3 := Nat.mul_le_mul hn hr
  unfold cnA cnB cnH
  refine ⟨?_, ?_, ?_⟩ <;> split <;> omega
theorem head_ok {l : List Int} (h : headV (psk l) (psn l) (psr l) = 0) (hb : By (tkP 3 l 0).1) : (1 ≤ psk l ∧ psk l ≤ 7) ∧ (1 ≤ psn l ∧ psn l ≤ 8) ∧ 0 ≤ psr l ∧ psr l ≤ 3 := by
  have b2 : 0 ≤ psr l := (hb 2).1
  unfold headV at h
  cases e1 : kindB (psk l) with
  | true => rw [e1] at h; cases h
  | false =>
    rw [e1, cond_false] at h
    cases e2 : sizedB (psk l) (psn l) (psr l) with
    | false => rw [e2] at h; cases h
    | true =>
      unfold kindB at e1
      unfold sizedB at e2
      rw [Bool.or_eq_false_iff, decide_eq_false_iff_not, decide_eq_false_iff_not] at e1
      rw [Bool.and_eq_true, Bool.not_eq_true', Bool.or_eq_false_iff, decide_eq_false_iff_not, decide_eq_false_iff_not] at e2
      obtain ⟨⟨h1, h2⟩, h3⟩ := e2
      refine ⟨by omega, by omega, b2, ?_⟩
      cases e3 : likeZ (psk l) with
      | true => rw [e3, cond_true, Bool.and_eq_true, decide_eq_true_eq, decide_eq_true_eq] at h3; exact h3.2
      | false => rw [e3, cond_false, decide_eq_true_eq] at h3; omega
theorem c_parse {l : List Int} (hb : By l) (hl : l.length ≤ 1000000) : Has Try.prog 14 [.seq .u8 l] (.tup (.ag 7 (psV l)) (.i (psE l))) := by
  have c0 := c_tk (n := 3) (l := l) (e := 0) (by decide) (by omega)
  have hlen := tk_len 3 l 0
  have hby := tk_by (n := 3) (e := 0) hb
  have hle := tk_le 3 l 0
  refine has_of Try.func14 (by kernel_rfl) rfl Try.ntmps14 Try.results14 rfl rfl rfl ?_
  refine run3 ?_
  repeat(first|refine run4p ?_)
  refine run3 ?_
  repeat(first|refine run4p ?_)
  refine awp_imp (imp_stl (e := [(2, .ptr 2 0 0), (3, .i 0), (4, .ptr 60 0 0)]) (h := (60, (1, fun _ => .ones RDT 2 (rdF l 0))) :: (61, (0, fun _ => .rats 0 fun _ => ra0)) :: (62, (0, fun _ => .rats 0 fun _ => ra0)) :: [(2, (1, fun _ => .ones 26 7 (hdz 0 0 0)))]) (s1 60 10) (fun h => by cases h) (s1_injl rfl) ?_ ?_ rfl) ?_
  · exact alle rfl (Le.ptr rfl) rfl (alle rfl (Le.eq rfl rfl) True.intro (alle rfl (Le.ptr s1_t) rfl True.intro))
  · refine allh rfl (by decide) (rd_le rfl rfl) (fun i _ => rdF_ok _ _ _ i) (all0 (all0 (allh rfl (by decide) (bleo rfl fun i hi => ?_) (fun i _ => hdz_ok _ i) True.intro)))
    match i, hi with
    | 0, _ | 1, _ | 2, _ | 3, _ | 4, _ | 5, _ | 6, _ => exact Le.eq rfl rfl
  have hps : psE l = if (tkP 3 l 0).2.2 ≠ 0 then (tkP 3 l 0).2.2 else if headV ((tkP 3 l 0).1.getD (Int.toNat 0) 0) ((tkP 3 l 0).1.getD (Int.toNat 1) 0) ((tkP 3 l 0).1.getD (Int.toNat 2) 0) ≠ 0 then headV ((tkP 3 l 0).1.getD (Int.toNat 0) 0) ((tkP 3 l 0).1.getD (Int.toNat 1) 0) ((tkP 3 l 0).1.getD (Int.toNat 2) 0) else if (psS l 4).2 ≠ 0 then (psS l 4).2 else if 0 < (psS l 4).1.length then 7 else chk (psG l) := rfl
  have b0 : 0 ≤ (tkP 3 l 0).1.getD (Int.toNat 0) 0 ∧ (tkP 3 l 0).1.getD (Int.toNat 0) 0 ≤ 255 := hby.1 0
  have b1 : 0 ≤ (tkP 3 l 0).1.getD (Int.toNat 1) 0 ∧ (tkP 3 l 0).1.getD (Int.toNat 1) 0 ≤ 255 := hby.1 1
  have b2 : 0 ≤ (tkP 3 l 0).1.getD (Int.toNat 2) 0 ∧ (tkP 3 l 0).1.getD (Int.toNat 2) 0 ≤ 255 := hby.1 2
  refine run0p ?_
  ((with_reducible apply st_callH); exact rfl; exact rfl; exact rfl; exact (c0); (first | exact True.intro | exact ⟨rfl, rfl, rfl, True.intro⟩); exact rfl; exact rfl; exact rfl; exact rfl; (focus (repeat (first | exact True.intro | refine ⟨(by first | exact True.intro | rfl | exact ok_none (closed_ok rfl)), ?_⟩))); (first | exact True.intro | exact okf_WH | exact okf_pf (by exact True.intro) (by exact True.intro) | exact okf_rd | exact okf_pr))
  refine run0p ?_
  by_cases h0 : (tkP 3 l 0).2.2 = 0
  · have d0 : decide ((tkP 3 l 0).2.2 = 0) = true := decide_eq_true h0
    rw [if_neg (fun c => c h0)] at hps
    have c1 := c_head (k := (tkP 3 l 0).1.getD (Int.toNat 0) 0) (n := (tkP 3 l 0).1.getD (Int.toNat 1) 0) (r := (tkP 3 l 0).1.getD (Int.toNat 2) 0)
    have hh : headV (psk l) (psn l) (psr l) = headV ((tkP 3 l 0).1.getD (Int.toNat 0) 0) ((tkP 3 l 0).1.getD (Int.toNat 1) 0) ((tkP 3 l 0).1.getD (Int.toNat 2) 0) := rfl
    refine awp_yes rfl d0 ?_
    repeat(first|refine run1p ?_|((with_reducible apply st_call);exact rfl;exact rfl;exact rfl;first|(exact Has.ag (u' := hdz ((tkP 3 l 0).1.getD (Int.toNat 0) 0) ((tkP 3 l 0).1.getD (Int.toNat 1) 0) ((tkP 3 l 0).1.getD (Int.toNat 2) 0)) (g7 rfl rfl rfl rfl rfl rfl rfl) c1))|((with_reducible apply st_callg);exact rfl;exact rfl;(first|exact rfl|assumption);exact rfl;exact rfl;exact rfl;first|(exact Has.ag (u' := hdz ((tkP 3 l 0).1.getD (Int.toNat 0) 0) ((tkP 3 l 0).1.getD (Int.toNat 1) 0) ((tkP 3 l 0).1.getD (Int.toNat 2) 0)) (g7 rfl rfl rfl rfl rfl rfl rfl) c1)))
    by_cases h1 : headV ((tkP 3 l 0).1.getD (Int.toNat 0) 0) ((tkP 3 l 0).1.getD (Int.toNat 1) 0) ((tkP 3 l 0).1.getD (Int.toNat 2) 0) = 0
    · rw [if_neg (fun c => c h1)] at hps
      rw [h1]
      refine awp_no rfl rfl ?_
      obtain ⟨⟨k1, k7⟩, ⟨n1, n8⟩, r0, r3⟩ := head_ok (hh.trans h1) hby.1
      have hK : (tkP 3 l 0).1.getD (Int.toNat 0) 0 = (((psk l).toNat : Nat) : Int) := (Int.toNat_of_nonneg (by omega : 0 ≤ psk l)).symm
      have hN : (tkP 3 l 0).1.getD (Int.toNat 1) 0 = (((psn l).toNat : Nat) : Int) := (Int.toNat_of_nonneg (by omega : 0 ≤ psn l)).symm
      have hR : (tkP 3 l 0).1.getD (Int.toNat 2) 0 = (((psr l).toNat : Nat) : Int) := (Int.toNat_of_nonneg (by omega : 0 ≤ psr l)).symm
      have c2 := c_counts (k := (psk l).toNat) (n := (psn l).toNat) (r := (psr l).toNat) (by omega) (by omega) (by omega) (by omega) (by omega)
      refine awp_imp (imp_id (e := [(2, .ptr 2 0 0), (3, .i 0), (4, .ptr 60 0 0), (6, .ptr 6 0 0)]) (h := (6, (1, fun _ => .ones 26 7 (hdf (psk l).toNat (psn l).toNat (psr l).toNat))) :: (2, (1, fun _ => .ones 26 7 (hdz 0 0 0))) :: RdS (psS l 0).1 (psS l 0).2) ?_ ?_) ?_
      · exact alle rfl (Le.id rfl) rfl (alle rfl (Le.id rfl) True.intro (alle rfl (Le.id rfl) rfl (alle rfl (Le.id rfl) rfl True.intro)))
      · refine allh rfl (by decide) (bleo rfl fun i hi => ?_) (fun i _ => hdf_ok _ _ _ _ i) (allh rfl (by decide) (bleo rfl fun i hi => Le.id rfl) (fun i _ => hdz_ok _ i) (allh rfl (by decide) (rd_le rfl rfl) (fun i _ => rdF_ok _ _ _ i) (all0 (all0 True.intro))))
        match i, hi with
        | 0, _ => exact Le.id (congrArg (fun z => AV.v (.int .i64 z)) hK)
        | 1, _ => exact Le.id (congrArg (fun z => AV.v (.int .i64 z)) hN)
        | 2, _ => exact Le.id (congrArg (fun z => AV.v (.int .i64 z)) hR)
        | 3, _ | 4, _ | 5, _ | 6, _ => exact Le.id rfl
      repeat(first|refine run1p ?_|((with_reducible apply st_call);exact rfl;exact rfl;exact rfl;first|(exact Has.ag (u' := hdf (psk l).toNat (psn l).toNat (psr l).toNat) (g7 rfl rfl rfl rfl rfl rfl rfl) c2))|((with_reducible apply st_callg);exact rfl;exact rfl;(first|exact rfl|assumption);exact rfl;exact rfl;exact rfl;first|(exact Has.ag (u' := hdf (psk l).toNat (psn l).toNat (psr l).toNat) (g7 rfl rfl rfl rfl rfl rfl rfl) c2)))
      have s0 : By (psS l 0).1 ∧ (psS l 0).1.length ≤ 1000000 := ⟨hby.2, Nat.le_trans hle hl⟩
      have hcn := cn_le2 (k := (psk l).toNat) (n := (psn l).toNat) (r := (psr l).toNat) (by omega) (by omega)
      have c3 := c_row (e := (psS l 0).2) (n := psC l 0) s0.1 (by omega) hcn.1
      have s1 : By (psS l 1).1 ∧ (psS l 1).1.length ≤ 1000000 := by
        have := rw_by (e := (psS l 0).2) s0.1 (psC l 0)
        exact ⟨this.1, Nat.le_trans this.2.1 s0.2⟩
      have c4 := c_row (e := (psS l 1).2) (n := psC l 1) s1.1 (by omega) hcn.2.1
      have s2 : By (psS l 2).1 ∧ (psS l 2).1.length ≤ 1000000 := by
        have := rw_by (e := (psS l 1).2) s1.1 (psC l 1)
        exact ⟨this.1, Nat.le_trans this.2.1 s1.2⟩
      have c5 := c_row (e := (psS l 2).2) (n := psC l 2) s2.1 (by omega) hcn.2.2
      have s3 : By (psS l 3).1 ∧ (psS l 3).1.length ≤ 1000000 := by
        have := rw_by (e := (psS l 2).2) s2.1 (psC l 2)
        exact ⟨this.1, Nat.le_trans this.2.1 s2.2⟩
      have c6 := c_row (e := (psS l 3).2) (n := psC l 3) s3.1 (by omega) hcn.2.2
      have s4 : By (psS l 4).1 ∧ (psS l 4).1.length ≤ 1000000 := by
        have := rw_by (e := (psS l 3).2) s3.1 (psC l 3)
        exact ⟨this.1, Nat.le_trans this.2.1 s3.2⟩
      ((with_reducible apply st_callH); exact rfl; exact rfl; exact rfl; exact (c3); (first | exact True.intro | exact ⟨rfl, rfl, rfl, True.intro⟩); exact rfl; exact rfl; exact rfl; exact rfl; (focus (repeat (first | exact True.intro | refine ⟨(by first | exact True.intro | rfl | exact ok_none (closed_ok rfl)), ?_⟩))); (first | exact True.intro | exact okf_WH | exact okf_pf (by exact True.intro) (by exact True.intro) | exact okf_rd | exact okf_pr))
      refine run0p ?_
      ((with_reducible apply st_callH); exact rfl; exact rfl; exact rfl; exact (c4); (first | exact True.intro | exact ⟨rfl, rfl, rfl, True.intro⟩); exact rfl; exact rfl; exact rfl; exact rfl; (focus (repeat (first | exact True.intro | refine ⟨(by first | exact True.intro | rfl | exact ok_none (closed_ok rfl)), ?_⟩))); (first | exact True.intro | exact okf_WH | exact okf_pf (by exact True.intro) (by exact True.intro) | exact okf_rd | exact okf_pr))
      refine run0p ?_
      ((with_reducible apply st_callH); exact rfl; exact rfl; exact rfl; exact (c5); (first | exact True.intro | exact ⟨rfl, rfl, rfl, True.intro⟩); exact rfl; exact rfl; exact rfl; exact rfl; (focus (repeat (first | exact True.intro | refine ⟨(by first | exact True.intro | rfl | exact ok_none (closed_ok rfl)), ?_⟩))); (first | exact True.intro | exact okf_WH | exact okf_pf (by exact True.intro) (by exact True.intro) | exact okf_rd | exact okf_pr))
      refine run0p ?_
      ((with_reducible apply st_callH); exact rfl; exact rfl; exact rfl; exact (c6); (first | exact True.intro | exact ⟨rfl, rfl, rfl, True.intro⟩); exact rfl; exact rfl; exact rfl; exact rfl; (focus (repeat (first | exact True.intro | refine ⟨(by first | exact True.intro | rfl | exact ok_none (closed_ok rfl)), ?_⟩))); (first | exact True.intro | exact okf_WH | exact okf_pf (by exact True.intro) (by exact True.intro) | exact okf_rd | exact okf_pr))
      refine run0p ?_
      have hG : psG l = ⟨((psk l).toNat : Nat), ((psn l).toNat : Nat), ((psr l).toNat : Nat), prR (psM l 0) (psF l 0), prR (psM l 1) (psF l 1), prR (psM l 2) (psF l 2), prR (psM l 3) (psF l 3)⟩ := by
        unfold psG
        rw [← hK, ← hN, ← hR]
        rfl
      have hps : psE l = if (rwI (psS l 3).1 (psS l 3).2 (psC l 3)).2.2 ≠ 0 then (rwI (psS l 3).1 (psS l 3).2 (psC l 3)).2.2 else if 0 < (rwI (psS l 3).1 (psS l 3).2 (psC l 3)).2.1.length then 7 else chk (psG l) := hps
      have hfin := psG_fin (l := l)
      have c7 : Has Try.prog 22 [GR.v ⟨((psk l).toNat : Nat), ((psn l).toNat : Nat), ((psr l).toNat : Nat), prR (psM l 0) (psF l 0), prR (psM l 1) (psF l 1), prR (psM l 2) (psF l 2), prR (psM l 3) (psF l 3)⟩] (.i (chk (psG l))) := by
        have := g_checkr hfin
        rw [hG] at this ⊢
        exact this
      by_cases h4 : (rwI (psS l 3).1 (psS l 3).2 (psC l 3)).2.2 = 0
      · rw [if_neg (fun c => c h4)] at hps
        rw [h4]
        by_cases h5 : 0 < (rwI (psS l 3).1 (psS l 3).2 (psC l 3)).2.1.length
        · have d5 : decide ((((rwI (psS l 3).1 (psS l 3).2 (psC l 3)).2.1.length : Nat) : Int) > 0) = true := decide_eq_true (by omega)
          rw [if_pos h5] at hps
          unfold psV
          rw [hps]
          refine run0p ?_
          refine awp_yes rfl d5 ?_
          refine run0p ?_
          refine awp_no rfl rfl ?_
          refine run0p ?_
          refine awp_yes rfl rfl ?_
          refine run0p ?_
          refine ⟨.inr rfl, _, imp_id (e := [(2, .ptr 2 0 0), (3, .i 7)]) (h := (2, (1, fun _ => .ones 26 7 (psU l 7))) :: RdS (rwI (psS l 3).1 (psS l 3).2 (psC l 3)).2.1 7) ?_ ?_, .two (.agg rfl rfl rfl rfl (by decide) rfl rfl) (.tmp rfl)⟩
          · exact alle rfl (Le.id rfl) rfl (alle rfl (Le.id rfl) True.intro True.intro)
          · exact allh rfl (by decide) (ble_err (by decide) rfl) (fun i _ => gF_ok _ i) (allh rfl (by decide) (rd_le rfl rfl) (fun i _ => rdF_ok _ _ _ i) (all0 (all0 True.intro)))
        · have d5 : decide ((((rwI (psS l 3).1 (psS l 3).2 (psC l 3)).2.1.length : Nat) : Int) > 0) = false := decide_eq_false (by omega)
          rw [if_neg h5] at hps
          by_cases h8 : chk (psG l) = 0
          · rw [h8] at hps c7
            unfold psV
            rw [hps]
            refine run0p ?_
            refine awp_no rfl d5 ?_
            refine run0p ?_
            refine awp_yes rfl rfl ?_
            repeat(first|refine run1p ?_|((with_reducible apply st_call);exact rfl;exact rfl;exact rfl;first|(exact Has.gr rfl c7))|((with_reducible apply st_callg);exact rfl;exact rfl;(first|exact rfl|assumption);exact rfl;exact rfl;exact rfl;first|(exact Has.gr rfl c7)))
            refine awp_no rfl rfl ?_
            refine run0p ?_
            refine ⟨.inr rfl, _, imp_id (e := [(2, .ptr 2 0 0), (3, .i 0)]) (h := (2, (1, fun _ => .ones 26 7 (psU l 0))) :: RdS (rwI (psS l 3).1 (psS l 3).2 (psC l 3)).2.1 0) ?_ ?_, .two (.agg rfl rfl rfl rfl (by decide) rfl rfl) (.tmp rfl)⟩
            · exact alle rfl (Le.id rfl) rfl (alle rfl (Le.id rfl) True.intro True.intro)
            · exact allh rfl (by decide) (bleo rfl fun i hi => by
              match i, hi with
              | 0, _ => exact Le.id (congrArg (fun z => AV.v (.int .i64 z)) hK.symm)
              | 1, _ => exact Le.id (congrArg (fun z => AV.v (.int .i64 z)) hN.symm)
              | 2, _ => exact Le.id (congrArg (fun z => AV.v (.int .i64 z)) hR.symm)
              | 3, _ | 4, _ | 5, _ | 6, _ => exact Le.id rfl) (fun i _ => gF_ok _ i) (allh rfl (by decide) (rd_le rfl rfl) (fun i _ => rdF_ok _ _ _ i) (all0 (all0 True.intro)))
          · have d8 : decide (chk (psG l) ≠ 0) = true := decide_eq_true h8
            unfold psV
            rw [hps]
            refine run0p ?_
            refine awp_no rfl d5 ?_
            refine run0p ?_
            refine awp_yes rfl rfl ?_
            repeat(first|refine run1p ?_|((with_reducible apply st_call);exact rfl;exact rfl;exact rfl;first|(exact Has.gr rfl c7))|((with_reducible apply st_callg);exact rfl;exact rfl;(first|exact rfl|assumption);exact rfl;exact rfl;exact rfl;first|(exact Has.gr rfl c7)))
            refine awp_yes rfl d8 ?_
            refine run0p ?_
            refine ⟨.inr rfl, _, imp_id (e := [(2, .ptr 2 0 0), (3, .i (chk (psG l)))]) (h := (2, (1, fun _ => .ones 26 7 (psU l (chk (psG l))))) :: RdS (rwI (psS l 3).1 (psS l 3).2 (psC l 3)).2.1 (chk (psG l))) ?_ ?_, .two (.agg rfl rfl rfl rfl (by decide) rfl rfl) (.tmp rfl)⟩
            · exact alle rfl (Le.id rfl) rfl (alle rfl (Le.id rfl) True.intro True.intro)
            · exact allh rfl (by decide) (ble_err h8 rfl) (fun i _ => gF_ok _ i) (allh rfl (by decide) (rd_le rfl rfl) (fun i _ => rdF_ok _ _ _ i) (all0 (all0 True.intro)))
      · have d4 : decide ((rwI (psS l 3).1 (psS l 3).2 (psC l 3)).2.2 = 0) = false := decide_eq_false h4
        have d4' : (decide ((rwI (psS l 3).1 (psS l 3).2 (psC l 3)).2.2 = 0) == true) = false := by rw [d4]; rfl
        have d6 : decide ((rwI (psS l 3).1 (psS l 3).2 (psC l 3)).2.2 ≠ 0) = true := decide_eq_true h4
        rw [if_pos h4] at hps
        unfold psV
        rw [hps]
        refine run0p ?_
        refine awp_no rfl rfl ?_
        refine run0p ?_
        refine awp_no rfl d4 ?_
        refine run0p ?_
        refine awp_yes rfl d6 ?_
        refine run0p ?_
        refine ⟨.inr rfl, _, imp_id (e := [(2, .ptr 2 0 0), (3, .i (rwI (psS l 3).1 (psS l 3).2 (psC l 3)).2.2)]) (h := (2, (1, fun _ => .ones 26 7 (psU l (rwI (psS l 3).1 (psS l 3).2 (psC l 3)).2.2))) :: RdS (rwI (psS l 3).1 (psS l 3).2 (psC l 3)).2.1 (rwI (psS l 3).1 (psS l 3).2 (psC l 3)).2.2) ?_ ?_, .two (.agg rfl rfl rfl rfl (by decide) rfl rfl) (.tmp rfl)⟩
        · exact alle rfl (Le.id rfl) rfl (alle rfl (Le.id rfl) True.intro True.intro)
        · exact allh rfl (by decide) (ble_err h4 rfl) (fun i _ => gF_ok _ i) (allh rfl (by decide) (rd_le rfl rfl) (fun i _ => rdF_ok _ _ _ i) (all0 (all0 True.intro)))
    · have d1 : decide (headV ((tkP 3 l 0).1.getD (Int.toNat 0) 0) ((tkP 3 l 0).1.getD (Int.toNat 1) 0) ((tkP 3 l 0).1.getD (Int.toNat 2) 0) ≠ 0) = true := decide_eq_true h1
      rw [if_pos h1] at hps
      unfold psV
      rw [hps]
      refine awp_yes rfl d1 ?_
      refine run0p ?_
      refine ⟨.inr rfl, _, imp_id (e := [(2, .ptr 2 0 0), (3, .i (headV ((tkP 3 l 0).1.getD (Int.toNat 0) 0) ((tkP 3 l 0).1.getD (Int.toNat 1) 0) ((tkP 3 l 0).1.getD (Int.toNat 2) 0)))]) (h := (2, (1, fun _ => .ones 26 7 (psU l (headV ((tkP 3 l 0).1.getD (Int.toNat 0) 0) ((tkP 3 l 0).1.getD (Int.toNat 1) 0) ((tkP 3 l 0).1.getD (Int.toNat 2) 0))))) :: RdS (tkP 3 l 0).2.1 (headV ((tkP 3 l 0).1.getD (Int.toNat 0) 0) ((tkP 3 l 0).1.getD (Int.toNat 1) 0) ((tkP 3 l 0).1.getD (Int.toNat 2) 0))) ?_ ?_, .two (.agg rfl rfl rfl rfl (by decide) rfl rfl) (.tmp rfl)⟩
      · exact alle rfl (Le.id rfl) rfl (alle rfl (Le.id rfl) True.intro True.intro)
      · exact allh rfl (by decide) (ble_err h1 rfl) (fun i _ => gF_ok _ i) (allh rfl (by decide) (rd_le rfl rfl) (fun i _ => rdF_ok _ _ _ i) (all0 (all0 True.intro)))
  · have d0 : decide ((tkP 3 l 0).2.2 = 0) = false := decide_eq_false h0
    have d1 : decide ((tkP 3 l 0).2.2 ≠ 0) = true := decide_eq_true h0
    rw [if_pos h0] at hps
    unfold psV
    rw [hps]
    refine awp_no rfl d0 ?_
    refine run0p ?_
    refine awp_yes rfl d1 ?_
    refine run0p ?_
    refine ⟨.inr rfl, _, imp_id (e := [(2, .ptr 2 0 0), (3, .i (tkP 3 l 0).2.2)]) (h := (2, (1, fun _ => .ones 26 7 (psU l (tkP 3 l 0).2.2))) :: RdS (tkP 3 l 0).2.1 (tkP 3 l 0).2.2) ?_ ?_, .two (.agg rfl rfl rfl rfl (by decide) rfl rfl) (.tmp rfl)⟩
    · exact alle rfl (Le.id rfl) rfl (alle rfl (Le.id rfl) True.intro True.intro)
    · exact allh rfl (by decide) (ble_err h0 rfl) (fun i _ => gF_ok _ i) (allh rfl (by decide) (rd_le rfl rfl) (fun i _ => rdF_ok _ _ _ i) (all0 (all0 True.intro)))
end Go.Proofs.Ytpclkgjhfhhddaa.AM
/- ref6: Parse. -/
namespace Go.Proofs.Ytpclkgjhfhhddaa.AM
open Go Go.RowKit Go.Proofs.Ytpclkgjhfhhddaa.PN Go.Proofs.Ytpclkgjhfhhddaa.V
set_option linter.unusedVariables false
set_option linter.unusedSimpArgs false
set_option maxRecDepth 8000
set_option maxHeartbeats 8000000
def q1 (b : List Int) : Int × Nat × Int := byP b 0 0
def q2 (b : List Int) : Int × Nat × Int := byP b (q1 b).2.1 (q1 b).2.2
def q3 (b : List Int) : Int × Nat × Int := byP b (q2 b).2.1 (q2 b).2.2
def qC (b : List Int) (i : Nat) : Nat := [cnA (q1 b).1.toNat (q2 b).1.toNat, cnB (q1 b).1.toNat (q2 b).1.toNat, cnH (q1 b).1.toNat (q2 b).1.toNat (q3 b).1.toNat, cnH (q1 b).1.toNat (q2 b).1.toNat (q3 b).1.toNat].getD i 0
/-- The place before a row, and the error. -/
def qS (b : List Int) : Nat → Nat × Int
  | 0 => ((q3 b).2.1, 0)
  | i + 1 => (rbI b (qS b i).1 (qS b i).2 (rbN b (qS b i).1 (qS b i).2 (qC b i))).2
def qM (b : List Int) (i : Nat) : Nat := rbN b (qS b i).1 (qS b i).2 (qC b i)
def qF (b : List Int) (i : Nat) : Nat → RA := rbF b (qS b i).1 (qS b i).2 (qC b i)
def qG (b : List Int) : GR := ⟨(q1 b).1, (q2 b).1, (q3 b).1, prR (qM b 0) (qF b 0), prR (qM b 1) (qF b 1), prR (qM b 2) (qF b 2), prR (qM b 3) (qF b 3)⟩
def qE (b : List Int) : Int :=
  if (q3 b).2.2 ≠ 0 then (q3 b).2.2 else if headV (q1 b).1 (q2 b).1 (q3 b).1 ≠ 0 then headV (q1 b).1 (q2 b).1 (q3 b).1 else if (qS b 4).2 ≠ 0 then (qS b 4).2 else if (qS b 4).1 < b.length then 7 else chk (qG b)
def qU (b : List Int) (e : Int) : Nat → AV := gF (ifz e (q1 b).1) (ifz e (q2 b).1) (ifz e (q3 b).1) (fun i => ifn e (qM b i)) (qF b)
def qV (b : List Int) : Nat → AV := qU b (qE b)
theorem xb_nn (b : List Int) (p : Nat) (e : Int) (k : Nat) : (xbI b p e (k + 1)).1.toNat < B := by
  show (borN _ _).toNat < B
  unfold borN
  rw [Int.toNat_natCast]
  exact (BitVec.ofInt 32 _ ||| BitVec.ofInt 32 _).isLt
theorem lb_lf {b : List Int} {p : Nat} {e : Int} : LF (lbP b p e).1 := by
  have key : ∀ b p e i, LF (lbI b p e i).1 := by
    intro b p e i
    induction i with
    | zero => intro x hx; cases hx
    | succ i ih =>
      intro x hx
      rcases List.mem_append.1 hx with hx | hx
      · exact ih x hx
      · rw [List.mem_singleton.1 hx]; exact xb_nn _ _ _ 3
  exact key _ _ _ _
theorem rb_fin {b : List Int} {p : Nat} {e : Int} : ∀ n, ∀ q ∈ (rbI b p e n).1, RAf q
  | 0, q, hq => by cases hq
  | n + 1, q, hq => by
    rcases List.mem_append.1 hq with hq | hq
    · exact rb_fin n q hq
    · rw [List.mem_singleton.1 hq]; exact ⟨lb_lf, lb_lf⟩
theorem rbF_fin {b : List Int} {p : Nat} {e : Int} {n i : Nat} : RAf (rbF b p e n i) := by
  unfold rbF
  rw [List.getD_eq_getElem?_getD]
  cases h : (rbI b p e (rbN b p e n)).1[i]? with
  | none =>
    show LF (raN ra0) ∧ LF (raD ra0)
    decide
  | some q => exact rb_fin _ q (List.mem_of_getElem? h)
theorem qG_fin {b : List Int} : (qG b).Fin :=
  ⟨⟨fun i _ => rbF_fin.1, fun i _ => rbF_fin.2⟩, ⟨fun i _ => rbF_fin.1, fun i _ => rbF_fin.2⟩, ⟨fun i _ => rbF_fin.1, fun i _ => rbF_fin.2⟩, ⟨fun i _ => rbF_fin.1, fun i _ => rbF_fin.2⟩⟩
theorem ble_errq {σ : Ren} {T : TypeId} {b : List Int} {e : Int} {f : Nat → AV} (h : e ≠ 0) (hf : f = fun i => ([Value.int IntKind.i64 0, Value.int IntKind.i64 0, Value.int IntKind.i64 0, Value.slice none 0 0, Value.slice none 0 0, Value.slice none 0 0, Value.slice none 0 0].map AV.v).getD i (AV.v undef)) : BLe σ (.ones T 7 f) (.ones T 7 (qU b e)) := by
  subst hf
  refine bleo rfl fun i hi => ?_
  match i, hi with
  | 0, _ => show Le σ (.i 0) (.i (ifz e (q1 b).1)); rw [ifz_ne h]; exact Le.eq rfl rfl
  | 1, _ => show Le σ (.i 0) (.i (ifz e (q2 b).1)); rw [ifz_ne h]; exact Le.eq rfl rfl
  | 2, _ => show Le σ (.i 0) (.i (ifz e (q3 b).1)); rw [ifz_ne h]; exact Le.eq rfl rfl
  | 3, _ => show Le σ (.v (.slice none 0 0)) (.row false (ifn e (qM b 0)) (qF b 0)); rw [ifn_ne h]; exact le_nil
  | 4, _ => show Le σ (.v (.slice none 0 0)) (.row false (ifn e (qM b 1)) (qF b 1)); rw [ifn_ne h]; exact le_nil
  | 5, _ => show Le σ (.v (.slice none 0 0)) (.row false (ifn e (qM b 2)) (qF b 2)); rw [ifn_ne h]; exact le_nil
  | 6, _ => show Le σ (.v (.slice none 0 0)) (.row false (ifn e (qM b 3)) (qF b 3)); rw [ifn_ne h]; exact le_nil
theorem head_ok2 {k n r : Int} (h : headV k n r = 0) (b2 : 0 ≤ r) : (1 ≤ k ∧ k ≤ 7) ∧ (1 ≤ n ∧ n ≤ 8) ∧ 0 ≤ r ∧ r ≤ 3 := by
  unfold headV at h
  cases e1 : kindB k with
  | true => rw [e1] at h; cases h
  | false =>
    rw [e1, cond_false] at h
    cases e2 : sizedB k n r with
    | false => rw [e2] at h; cases h
    | true =>
      unfold kindB at e1
      unfold sizedB at e2
      rw [Bool.or_eq_false_iff, decide_eq_false_iff_not, decide_eq_false_iff_not] at e1
      rw [Bool.and_eq_true, Bool.not_eq_true', Bool.or_eq_false_iff, decide_eq_false_iff_not, decide_eq_false_iff_not] at e2
      obtain ⟨⟨h1, h2⟩, h3⟩ := e2
      refine ⟨by omega, by omega, b2, ?_⟩
      cases e3 : likeZ k with
      | true => rw [e3, cond_true, Bool.and_eq_true, decide_eq_true_eq, decide_eq_true_eq] at h3; exact h3.2
      | false => rw [e3, cond_false, decide_eq_true_eq] at h3; omega
theorem d_parse {b : List Int} (hb : By b) (hl : b.length ≤ 1000000) : Has Try.prog 18 [.seq .u8 b] (.tup (.ag 7 (qV b)) (.i (qE b))) := by
  have hl' : ((b.length : Nat) : Int) ≤ 1000000 := by omega
  have p0 : 0 ≤ b.length := Nat.zero_le _
  have c1 := d_byte (p := 0) (e := 0) hb (by omega) p0
  have o1 := by_ok (e := 0) hb p0
  have c2 := d_byte (p := (q1 b).2.1) (e := (q1 b).2.2) hb (by omega) o1.2
  have o2 := by_ok (p := (q1 b).2.1) (e := (q1 b).2.2) hb o1.2
  have c3 := d_byte (p := (q2 b).2.1) (e := (q2 b).2.2) hb (by omega) o2.2
  have o3 := by_ok (p := (q2 b).2.1) (e := (q2 b).2.2) hb o2.2
  have c1 : HasH Try.prog 42 (PrS b 0 0) [.ptr 60 0 0] (.i (q1 b).1) (PrS b (q1 b).2.1 (q1 b).2.2) := c1
  have c2 : HasH Try.prog 42 (PrS b (q1 b).2.1 (q1 b).2.2) [.ptr 60 0 0] (.i (q2 b).1) (PrS b (q2 b).2.1 (q2 b).2.2) := c2
  have c3 : HasH Try.prog 42 (PrS b (q2 b).2.1 (q2 b).2.2) [.ptr 60 0 0] (.i (q3 b).1) (PrS b (q3 b).2.1 (q3 b).2.2) := c3
  refine has_of Try.func18 (by kernel_rfl) rfl Try.ntmps18 Try.results18 rfl rfl rfl ?_
  refine run3 ?_
  repeat(first|refine run4p ?_)
  refine run3 ?_
  repeat(first|refine run4p ?_)
  refine awp_imp (imp_stl (e := [(0, .seq .u8 b), (2, .ptr 2 0 0), (3, .i 0), (4, .ptr 60 0 0)]) (h := (60, (1, fun _ => .ones PST 3 (prF b 0 0))) :: (61, (0, fun _ => .rats 0 fun _ => ra0)) :: (62, (0, fun _ => .rats 0 fun _ => ra0)) :: [(2, (1, fun _ => .ones 26 7 (hdz 0 0 0)))]) (s1 60 11) (fun h => by cases h) (s1_injl rfl) ?_ ?_ rfl) ?_
  · exact alle rfl (Le.eq rfl rfl) True.intro (alle rfl (Le.ptr rfl) rfl (alle rfl (Le.eq rfl rfl) True.intro (alle rfl (Le.ptr s1_t) rfl True.intro)))
  · refine allh rfl (by decide) (pr_le rfl rfl rfl) (fun i _ => prF_ok _ _ _ _ i) (all0 (all0 (allh rfl (by decide) (bleo rfl fun i hi => ?_) (fun i _ => hdz_ok _ i) True.intro)))
    match i, hi with
    | 0, _ | 1, _ | 2, _ | 3, _ | 4, _ | 5, _ | 6, _ => exact Le.eq rfl rfl
  have hps : qE b = if (q3 b).2.2 ≠ 0 then (q3 b).2.2 else if headV (q1 b).1 (q2 b).1 (q3 b).1 ≠ 0 then headV (q1 b).1 (q2 b).1 (q3 b).1 else if (qS b 4).2 ≠ 0 then (qS b 4).2 else if (qS b 4).1 < b.length then 7 else chk (qG b) := rfl
  refine run0p ?_
  ((with_reducible apply st_callH); exact rfl; exact rfl; exact rfl; exact (c1); (first | exact True.intro | exact ⟨rfl, rfl, rfl, True.intro⟩); exact rfl; exact rfl; exact rfl; exact rfl; (focus (repeat (first | exact True.intro | refine ⟨(by first | exact True.intro | rfl | exact ok_none (closed_ok rfl)), ?_⟩))); (first | exact True.intro | exact okf_WH | exact okf_pf (by exact True.intro) (by exact True.intro) | exact okf_rd | exact okf_pr))
  refine run0p ?_
  ((with_reducible apply st_callH); exact rfl; exact rfl; exact rfl; exact (c2); (first | exact True.intro | exact ⟨rfl, rfl, rfl, True.intro⟩); exact rfl; exact rfl; exact rfl; exact rfl; (focus (repeat (first | exact True.intro | refine ⟨(by first | exact True.intro | rfl | exact ok_none (closed_ok rfl)), ?_⟩))); (first | exact True.intro | exact okf_WH | exact okf_pf (by exact True.intro) (by exact True.intro) | exact okf_rd | exact okf_pr))
  refine run0p ?_
  ((with_reducible apply st_callH); exact rfl; exact rfl; exact rfl; exact (c3); (first | exact True.intro | exact ⟨rfl, rfl, rfl, True.intro⟩); exact rfl; exact rfl; exact rfl; exact rfl; (focus (repeat (first | exact True.intro | refine ⟨(by first | exact True.intro | rfl | exact ok_none (closed_ok rfl)), ?_⟩))); (first | exact True.intro | exact okf_WH | exact okf_pf (by exact True.intro) (by exact True.intro) | exact okf_rd | exact okf_pr))
  refine run0p ?_
  by_cases h0 : (q3 b).2.2 = 0
  · have d0 : decide ((q3 b).2.2 = 0) = true := decide_eq_true h0
    rw [if_neg (fun c => c h0)] at hps
    have c1 := r5_headr (q1 b).1 (q2 b).1 (q3 b).1 pr0 pr0 pr0 pr0
    refine awp_yes rfl d0 ?_
    repeat(first|refine run1p ?_|((with_reducible apply st_call);exact rfl;exact rfl;exact rfl;first|(exact Has.gr rfl c1))|((with_reducible apply st_callg);exact rfl;exact rfl;(first|exact rfl|assumption);exact rfl;exact rfl;exact rfl;first|(exact Has.gr rfl c1)))
    by_cases h1 : (headV (q1 b).1 (q2 b).1 (q3 b).1) = 0
    · rw [if_neg (fun c => c h1)] at hps
      rw [h1]
      refine awp_yes rfl rfl ?_
      obtain ⟨⟨k1, k7⟩, ⟨n1, n8⟩, r0, r3⟩ := head_ok2 h1 o3.1.1
      have hK : (q1 b).1 = (((q1 b).1.toNat : Nat) : Int) := (Int.toNat_of_nonneg (by omega)).symm
      have hN : (q2 b).1 = (((q2 b).1.toNat : Nat) : Int) := (Int.toNat_of_nonneg (by omega)).symm
      have hR : (q3 b).1 = (((q3 b).1.toNat : Nat) : Int) := (Int.toNat_of_nonneg (by omega)).symm
      have c2 := r5_countsr (k := (q1 b).1.toNat) (n := (q2 b).1.toNat) (r := (q3 b).1.toNat) (A := pr0) (B := pr0) (G := pr0) (H := pr0) (by omega) (by omega) (by omega) (by omega) (by omega)
      refine awp_imp (imp_id (e := [(0, .seq .u8 b), (2, .ptr 2 0 0), (3, .i 0), (4, .ptr 60 0 0), (5, .ptr 5 0 0)]) (h := (5, (1, fun _ => .ones 26 7 (hdf (q1 b).1.toNat (q2 b).1.toNat (q3 b).1.toNat))) :: (2, (1, fun _ => .ones 26 7 (hdz 0 0 0))) :: PrS b (qS b 0).1 (qS b 0).2) ?_ ?_) ?_
      · exact alle rfl (Le.id rfl) True.intro (alle rfl (Le.id rfl) rfl (alle rfl (Le.id rfl) True.intro (alle rfl (Le.id rfl) rfl (alle rfl (Le.id rfl) rfl True.intro))))
      · refine allh rfl (by decide) (bleo rfl fun i hi => ?_) (fun i _ => hdf_ok _ _ _ _ i) (allh rfl (by decide) (bleo rfl fun i hi => Le.id rfl) (fun i _ => hdz_ok _ i) (allh rfl (by decide) (pr_le rfl rfl rfl) (fun i _ => prF_ok _ _ _ _ i) (all0 (all0 True.intro))))
        match i, hi with
        | 0, _ => exact Le.id (congrArg (fun z => AV.v (.int .i64 z)) hK)
        | 1, _ => exact Le.id (congrArg (fun z => AV.v (.int .i64 z)) hN)
        | 2, _ => exact Le.id (congrArg (fun z => AV.v (.int .i64 z)) hR)
        | 3, _ | 4, _ | 5, _ | 6, _ => exact Le.id rfl
      have s0 : (qS b 0).1 ≤ b.length := o3.2
      have hcn := cn_le2 (k := (q1 b).1.toNat) (n := (q2 b).1.toNat) (r := (q3 b).1.toNat) (by omega) (by omega)
      have c3 := d_row (e := (qS b 0).2) (n := qC b 0) hb (by omega) s0 hcn.1
      have s1 : (qS b 1).1 ≤ b.length := (rb_ok hb s0 _).1
      have c4 := d_row (e := (qS b 1).2) (n := qC b 1) hb (by omega) s1 hcn.2.1
      have s2 : (qS b 2).1 ≤ b.length := (rb_ok hb s1 _).1
      have c5 := d_row (e := (qS b 2).2) (n := qC b 2) hb (by omega) s2 hcn.2.2
      have s3 : (qS b 3).1 ≤ b.length := (rb_ok hb s2 _).1
      have c6 := d_row (e := (qS b 3).2) (n := qC b 3) hb (by omega) s3 hcn.2.2
      repeat(first|refine run1p ?_|((with_reducible apply st_call);exact rfl;exact rfl;exact rfl;first|(exact Has.gr rfl c2))|((with_reducible apply st_callg);exact rfl;exact rfl;(first|exact rfl|assumption);exact rfl;exact rfl;exact rfl;first|(exact Has.gr rfl c2)))
      ((with_reducible apply st_callH); exact rfl; exact rfl; exact rfl; exact (c3); (first | exact True.intro | exact ⟨rfl, rfl, rfl, True.intro⟩); exact rfl; exact rfl; exact rfl; exact rfl; (focus (repeat (first | exact True.intro | refine ⟨(by first | exact True.intro | rfl | exact ok_none (closed_ok rfl)), ?_⟩))); (first | exact True.intro | exact okf_WH | exact okf_pf (by exact True.intro) (by exact True.intro) | exact okf_rd | exact okf_pr))
      refine run0p ?_
      ((with_reducible apply st_callH); exact rfl; exact rfl; exact rfl; exact (c4); (first | exact True.intro | exact ⟨rfl, rfl, rfl, True.intro⟩); exact rfl; exact rfl; exact rfl; exact rfl; (focus (repeat (first | exact True.intro | refine ⟨(by first | exact True.intro | rfl | exact ok_none (closed_ok rfl)), ?_⟩))); (first | exact True.intro | exact okf_WH | exact okf_pf (by exact True.intro) (by exact True.intro) | exact okf_rd | exact okf_pr))
      refine run0p ?_
      ((with_reducible apply st_callH); exact rfl; exact rfl; exact rfl; exact (c5); (first | exact True.intro | exact ⟨rfl, rfl, rfl, True.intro⟩); exact rfl; exact rfl; exact rfl; exact rfl; (focus (repeat (first | exact True.intro | refine ⟨(by first | exact True.intro | rfl | exact ok_none (closed_ok rfl)), ?_⟩))); (first | exact True.intro | exact okf_WH | exact okf_pf (by exact True.intro) (by exact True.intro) | exact okf_rd | exact okf_pr))
      refine run0p ?_
      ((with_reducible apply st_callH); exact rfl; exact rfl; exact rfl; exact (c6); (first | exact True.intro | exact ⟨rfl, rfl, rfl, True.intro⟩); exact rfl; exact rfl; exact rfl; exact rfl; (focus (repeat (first | exact True.intro | refine ⟨(by first | exact True.intro | rfl | exact ok_none (closed_ok rfl)), ?_⟩))); (first | exact True.intro | exact okf_WH | exact okf_pf (by exact True.intro) (by exact True.intro) | exact okf_rd | exact okf_pr))
      have hG : qG b = ⟨((q1 b).1.toNat : Nat), ((q2 b).1.toNat : Nat), ((q3 b).1.toNat : Nat), prR (qM b 0) (qF b 0), prR (qM b 1) (qF b 1), prR (qM b 2) (qF b 2), prR (qM b 3) (qF b 3)⟩ := by
        unfold qG
        rw [← hK, ← hN, ← hR]
      have hps : qE b = if (rbI b (qS b 3).1 (qS b 3).2 (rbN b (qS b 3).1 (qS b 3).2 (qC b 3))).2.2 ≠ 0 then (rbI b (qS b 3).1 (qS b 3).2 (rbN b (qS b 3).1 (qS b 3).2 (qC b 3))).2.2 else if (rbI b (qS b 3).1 (qS b 3).2 (rbN b (qS b 3).1 (qS b 3).2 (qC b 3))).2.1 < b.length then 7 else chk (qG b) := hps
      have hfin := qG_fin (b := b)
      have c7 : Has Try.prog 23 [GR.v ⟨((q1 b).1.toNat : Nat), ((q2 b).1.toNat : Nat), ((q3 b).1.toNat : Nat), prR (qM b 0) (qF b 0), prR (qM b 1) (qF b 1), prR (qM b 2) (qF b 2), prR (qM b 3) (qF b 3)⟩] (.i (chk (qG b))) := by
        have := r5_checkr hfin
        rw [hG] at this ⊢
        exact this
      by_cases h4 : (rbI b (qS b 3).1 (qS b 3).2 (rbN b (qS b 3).1 (qS b 3).2 (qC b 3))).2.2 = 0
      · rw [if_neg (fun c => c h4)] at hps
        rw [h4]
        by_cases h5 : (rbI b (qS b 3).1 (qS b 3).2 (rbN b (qS b 3).1 (qS b 3).2 (qC b 3))).2.1 < b.length
        · have d5 : decide ((((rbI b (qS b 3).1 (qS b 3).2 (rbN b (qS b 3).1 (qS b 3).2 (qC b 3))).2.1 : Nat) : Int) < (b.length : Int)) = true := decide_eq_true (by omega)
          rw [if_pos h5] at hps
          unfold qV
          rw [hps]
          refine run0p ?_
          refine awp_yes rfl d5 ?_
          refine run0p ?_
          refine awp_no rfl rfl ?_
          refine run0p ?_
          refine awp_yes rfl rfl ?_
          refine run0p ?_
          refine ⟨.inr rfl, _, imp_id (e := [(2, .ptr 2 0 0), (3, .i 7)]) (h := (2, (1, fun _ => .ones 26 7 (qU b 7))) :: PrS b (rbI b (qS b 3).1 (qS b 3).2 (rbN b (qS b 3).1 (qS b 3).2 (qC b 3))).2.1 7) ?_ ?_, .two (.agg rfl rfl rfl rfl (by decide) rfl rfl) (.tmp rfl)⟩
          · exact alle rfl (Le.id rfl) rfl (alle rfl (Le.id rfl) True.intro True.intro)
          · exact allh rfl (by decide) (ble_errq (by decide) rfl) (fun i _ => gF_ok _ i) (allh rfl (by decide) (pr_le rfl rfl rfl) (fun i _ => prF_ok _ _ _ _ i) (all0 (all0 True.intro)))
        · have d5 : decide ((((rbI b (qS b 3).1 (qS b 3).2 (rbN b (qS b 3).1 (qS b 3).2 (qC b 3))).2.1 : Nat) : Int) < (b.length : Int)) = false := decide_eq_false (by omega)
          rw [if_neg h5] at hps
          by_cases h8 : chk (qG b) = 0
          · rw [h8] at hps c7
            unfold qV
            rw [hps]
            refine run0p ?_
            refine awp_no rfl d5 ?_
            refine run0p ?_
            refine awp_yes rfl rfl ?_
            repeat(first|refine run1p ?_|((with_reducible apply st_call);exact rfl;exact rfl;exact rfl;first|(exact Has.gr rfl c7))|((with_reducible apply st_callg);exact rfl;exact rfl;(first|exact rfl|assumption);exact rfl;exact rfl;exact rfl;first|(exact Has.gr rfl c7)))
            refine awp_no rfl rfl ?_
            refine run0p ?_
            refine ⟨.inr rfl, _, imp_id (e := [(2, .ptr 2 0 0), (3, .i 0)]) (h := (2, (1, fun _ => .ones 26 7 (qU b 0))) :: PrS b (rbI b (qS b 3).1 (qS b 3).2 (rbN b (qS b 3).1 (qS b 3).2 (qC b 3))).2.1 0) ?_ ?_, .two (.agg rfl rfl rfl rfl (by decide) rfl rfl) (.tmp rfl)⟩
            · exact alle rfl (Le.id rfl) rfl (alle rfl (Le.id rfl) True.intro True.intro)
            · exact allh rfl (by decide) (bleo rfl fun i hi => by
              match i, hi with
              | 0, _ => exact Le.id (congrArg (fun z => AV.v (.int .i64 z)) hK.symm)
              | 1, _ => exact Le.id (congrArg (fun z => AV.v (.int .i64 z)) hN.symm)
              | 2, _ => exact Le.id (congrArg (fun z => AV.v (.int .i64 z)) hR.symm)
              | 3, _ | 4, _ | 5, _ | 6, _ => exact Le.id rfl) (fun i _ => gF_ok _ i) (allh rfl (by decide) (pr_le rfl rfl rfl) (fun i _ => prF_ok _ _ _ _ i) (all0 (all0 True.intro)))
          · have d8 : decide (chk (qG b) ≠ 0) = true := decide_eq_true h8
            unfold qV
            rw [hps]
            refine run0p ?_
            refine awp_no rfl d5 ?_
            refine run0p ?_
            refine awp_yes rfl rfl ?_
            repeat(first|refine run1p ?_|((with_reducible apply st_call);exact rfl;exact rfl;exact rfl;first|(exact Has.gr rfl c7))|((with_reducible apply st_callg);exact rfl;exact rfl;(first|exact rfl|assumption);exact rfl;exact rfl;exact rfl;first|(exact Has.gr rfl c7)))
            refine awp_yes rfl d8 ?_
            refine run0p ?_
            refine ⟨.inr rfl, _, imp_id (e := [(2, .ptr 2 0 0), (3, .i (chk (qG b)))]) (h := (2, (1, fun _ => .ones 26 7 (qU b (chk (qG b))))) :: PrS b (rbI b (qS b 3).1 (qS b 3).2 (rbN b (qS b 3).1 (qS b 3).2 (qC b 3))).2.1 (chk (qG b))) ?_ ?_, .two (.agg rfl rfl rfl rfl (by decide) rfl rfl) (.tmp rfl)⟩
            · exact alle rfl (Le.id rfl) rfl (alle rfl (Le.id rfl) True.intro True.intro)
            · exact allh rfl (by decide) (ble_errq h8 rfl) (fun i _ => gF_ok _ i) (allh rfl (by decide) (pr_le rfl rfl rfl) (fun i _ => prF_ok _ _ _ _ i) (all0 (all0 True.intro)))
      · have d4 : decide ((rbI b (qS b 3).1 (qS b 3).2 (rbN b (qS b 3).1 (qS b 3).2 (qC b 3))).2.2 = 0) = false := decide_eq_false h4
        have d4' : (decide ((rbI b (qS b 3).1 (qS b 3).2 (rbN b (qS b 3).1 (qS b 3).2 (qC b 3))).2.2 = 0) == true) = false := by rw [d4]; rfl
        have d6 : decide ((rbI b (qS b 3).1 (qS b 3).2 (rbN b (qS b 3).1 (qS b 3).2 (qC b 3))).2.2 ≠ 0) = true := decide_eq_true h4
        rw [if_pos h4] at hps
        unfold qV
        rw [hps]
        refine run0p ?_
        refine awp_no rfl rfl ?_
        refine run0p ?_
        refine awp_no rfl d4 ?_
        refine run0p ?_
        refine awp_yes rfl d6 ?_
        refine run0p ?_
        refine ⟨.inr rfl, _, imp_id (e := [(2, .ptr 2 0 0), (3, .i (rbI b (qS b 3).1 (qS b 3).2 (rbN b (qS b 3).1 (qS b 3).2 (qC b 3))).2.2)]) (h := (2, (1, fun _ => .ones 26 7 (qU b (rbI b (qS b 3).1 (qS b 3).2 (rbN b (qS b 3).1 (qS b 3).2 (qC b 3))).2.2))) :: PrS b (rbI b (qS b 3).1 (qS b 3).2 (rbN b (qS b 3).1 (qS b 3).2 (qC b 3))).2.1 (rbI b (qS b 3).1 (qS b 3).2 (rbN b (qS b 3).1 (qS b 3).2 (qC b 3))).2.2) ?_ ?_, .two (.agg rfl rfl rfl rfl (by decide) rfl rfl) (.tmp rfl)⟩
        · exact alle rfl (Le.id rfl) rfl (alle rfl (Le.id rfl) True.intro True.intro)
        · exact allh rfl (by decide) (ble_errq h4 rfl) (fun i _ => gF_ok _ i) (allh rfl (by decide) (pr_le rfl rfl rfl) (fun i _ => prF_ok _ _ _ _ i) (all0 (all0 True.intro)))
    · have d2 : decide ((headV (q1 b).1 (q2 b).1 (q3 b).1) = 0) = false := decide_eq_false h1
      have d2' : (decide ((headV (q1 b).1 (q2 b).1 (q3 b).1) = 0) == true) = false := by rw [d2]; rfl
      have d1 : decide ((headV (q1 b).1 (q2 b).1 (q3 b).1) ≠ 0) = true := decide_eq_true h1
      rw [if_pos h1] at hps
      unfold qV
      rw [hps]
      refine awp_no rfl d2 ?_
      refine run0p ?_
      refine awp_no rfl rfl ?_
      refine run0p ?_
      refine awp_no rfl d2 ?_
      refine run0p ?_
      refine awp_yes rfl d1 ?_
      refine run0p ?_
      refine ⟨.inr rfl, _, imp_id (e := [(2, .ptr 2 0 0), (3, .i (headV (q1 b).1 (q2 b).1 (q3 b).1))]) (h := (2, (1, fun _ => .ones 26 7 (qU b (headV (q1 b).1 (q2 b).1 (q3 b).1)))) :: PrS b (q3 b).2.1 (headV (q1 b).1 (q2 b).1 (q3 b).1)) ?_ ?_, .two (.agg rfl rfl rfl rfl (by decide) rfl rfl) (.tmp rfl)⟩
      · exact alle rfl (Le.id rfl) rfl (alle rfl (Le.id rfl) True.intro True.intro)
      · exact allh rfl (by decide) (ble_errq h1 rfl) (fun i _ => gF_ok _ i) (allh rfl (by decide) (pr_le rfl rfl rfl) (fun i _ => prF_ok _ _ _ _ i) (all0 (all0 True.intro)))
  · have d0 : decide ((q3 b).2.2 = 0) = false := decide_eq_false h0
    have d0' : (decide ((q3 b).2.2 = 0) == true) = false := by rw [d0]; rfl
    have d1 : decide ((q3 b).2.2 ≠ 0) = true := decide_eq_true h0
    rw [if_pos h0] at hps
    unfold qV
    rw [hps]
    refine awp_no rfl d0 ?_
    refine run0p ?_
    refine awp_no rfl d0 ?_
    refine run0p ?_
    refine awp_no rfl rfl ?_
    refine run0p ?_
    refine awp_no rfl d0 ?_
    refine run0p ?_
    refine awp_yes rfl d1 ?_
    refine run0p ?_
    refine ⟨.inr rfl, _, imp_id (e := [(2, .ptr 2 0 0), (3, .i (q3 b).2.2)]) (h := (2, (1, fun _ => .ones 26 7 (qU b (q3 b).2.2))) :: PrS b (q3 b).2.1 (q3 b).2.2) ?_ ?_, .two (.agg rfl rfl rfl rfl (by decide) rfl rfl) (.tmp rfl)⟩
    · exact alle rfl (Le.id rfl) rfl (alle rfl (Le.id rfl) True.intro True.intro)
    · exact allh rfl (by decide) (ble_errq h0 rfl) (fun i _ => gF_ok _ i) (allh rfl (by decide) (pr_le rfl rfl rfl) (fun i _ => prF_ok _ _ _ _ i) (all0 (all0 True.intro)))
end Go.Proofs.Ytpclkgjhfhhddaa.AM

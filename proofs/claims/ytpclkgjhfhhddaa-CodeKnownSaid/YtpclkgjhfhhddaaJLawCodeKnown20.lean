/- Joined texts, 20: CdE CdR CdS CdX CdT CdU EqA GenH LawC RowsB GenI GenJ. -/
import Derived.Test.YtpclkgjhfhhddaaJLawCodeKnown19
import Derived.Test.YtpclkgjhfhhddaaJLawCodeKnown18
import Derived.Test.YtpclkgjhfhhddaaJLawCodeKnown0
import Derived.Test.YtpclkgjhfhhddaaJLawCodeKnown16
import Derived.Test.YtpclkgjhfhhddaaJLawCodeKnown12
set_option linter.unusedVariables false
set_option linter.unusedSimpArgs false
/- Package code: Parse. -/
namespace Go.Proofs.Ytpclkgjhfhhddaa.AM
open Go Go.RowKit Go.Proofs.Ytpclkgjhfhhddaa.PN Go.Proofs.Ytpclkgjhfhhddaa.V
set_option linter.unusedVariables false
set_option linter.unusedSimpArgs false
set_option maxRecDepth 8000
set_option maxHeartbeats 8000000
def psk (l : List Int) : Int := (tkP 3 l 0).1.getD 0 0
def psn (l : List Int) : Int := (tkP 3 l 0).1.getD 1 0
def psr (l : List Int) : Int := (tkP 3 l 0).1.getD 2 0
/-- How many numbers are in a row. -/
def psC (l : List Int) (i : Nat) : Nat := [cnA (psk l).toNat (psn l).toNat, cnB (psk l).toNat (psn l).toNat, cnH (psk l).toNat (psn l).toNat (psr l).toNat, cnH (psk l).toNat (psn l).toNat (psr l).toNat].getD i 0
/-- What is left before a row, and the error. -/
def psS (l : List Int) : Nat → List Int × Int
  | 0 => ((tkP 3 l 0).2.1, 0)
  | i + 1 => (rwI (psS l i).1 (psS l i).2 (psC l i)).2
def psM (l : List Int) (i : Nat) : Nat := rwN (psS l i).1 (psS l i).2 (psC l i)
def psF (l : List Int) (i : Nat) : Nat → RA := rwF (psS l i).1 (psS l i).2 (psC l i)
def prR (m : Nat) (f : Nat → RA) : PR := ⟨m, fun i => (f i).sgn, fun i => raN (f i), fun i => raD (f i)⟩
def psG (l : List Int) : GR := ⟨psk l, psn l, psr l, prR (psM l 0) (psF l 0), prR (psM l 1) (psF l 1), prR (psM l 2) (psF l 2), prR (psM l 3) (psF l 3)⟩
/-- The error that is told. -/
def psE (l : List Int) : Int :=
  if (tkP 3 l 0).2.2 ≠ 0 then (tkP 3 l 0).2.2 else if headV (psk l) (psn l) (psr l) ≠ 0 then headV (psk l) (psn l) (psr l) else if (psS l 4).2 ≠ 0 then (psS l 4).2 else if 0 < (psS l 4).1.length then 7 else chk (psG l)
def ifz (e a : Int) : Int := if e = 0 then a else 0
def ifn (e : Int) (a : Nat) : Nat := if e = 0 then a else 0
/-- The system that is told, of this error. -/
def psU (l : List Int) (e : Int) : Nat → AV := gF (ifz e (psk l)) (ifz e (psn l)) (ifz e (psr l)) (fun i => ifn e (psM l i)) (psF l)
def psV (l : List Int) : Nat → AV := psU l (psE l)
theorem w4_lt (c : List Int) : w4 c < B := by
  unfold w4 borN
  rw [Int.toNat_natCast]
  exact (BitVec.ofInt 32 _ ||| BitVec.ofInt 32 _).isLt
theorem lm_lf {l : List Int} {e : Int} : LF (lmP l e).1 := by
  have key : ∀ l e i, LF (lmI l e i).1 := by
    intro l e i
    induction i with
    | zero => intro x hx; cases hx
    | succ i ih =>
      intro x hx
      rcases List.mem_append.1 hx with hx | hx
      · exact ih x hx
      · rw [List.mem_singleton.1 hx]; exact w4_lt _
  exact key _ _ _
def RAf (q : RA) : Prop := LF (raN q) ∧ LF (raD q)
theorem rw_fin {l : List Int} {e : Int} : ∀ n, ∀ q ∈ (rwI l e n).1, RAf q
  | 0, q, hq => by cases hq
  | n + 1, q, hq => by
    rcases List.mem_append.1 hq with hq | hq
    · exact rw_fin n q hq
    · rw [List.mem_singleton.1 hq]; exact ⟨lm_lf, lm_lf⟩
theorem rwF_fin {l : List Int} {e : Int} {n i : Nat} : RAf (rwF l e n i) := by
  unfold rwF
  rw [List.getD_eq_getElem?_getD]
  cases h : (rwI l e n).1[i]? with
  | none =>
    show LF (raN ra0) ∧ LF (raD ra0)
    decide
  | some q => exact rw_fin n q (List.mem_of_getElem? h)
theorem psG_fin {l : List Int} : (psG l).Fin :=
  ⟨⟨fun i _ => rwF_fin.1, fun i _ => rwF_fin.2⟩, ⟨fun i _ => rwF_fin.1, fun i _ => rwF_fin.2⟩, ⟨fun i _ => rwF_fin.1, fun i _ => rwF_fin.2⟩, ⟨fun i _ => rwF_fin.1, fun i _ => rwF_fin.2⟩⟩
theorem hdz_ok {k n r : Int} (U : Nat → Bool) : ∀ i, (hdz k n r i).ok U
  | 0 | 1 | 2 | 3 | 4 | 5 | 6 => trivial
  | _ + 7 => trivial
theorem ifz_ne {e a : Int} (h : e ≠ 0) : ifz e a = 0 := if_neg h
theorem ifn_ne {e : Int} {a : Nat} (h : e ≠ 0) : ifn e a = 0 := if_neg h
theorem ble_err {σ : Ren} {T : TypeId} {l : List Int} {e : Int} {f : Nat → AV} (h : e ≠ 0) (hf : f = fun i => ([Value.int IntKind.i64 0, Value.int IntKind.i64 0, Value.int IntKind.i64 0, Value.slice none 0 0, Value.slice none 0 0, Value.slice none 0 0, Value.slice none 0 0].map AV.v).getD i (AV.v undef)) : BLe σ (.ones T 7 f) (.ones T 7 (psU l e)) := by
  subst hf
  refine bleo rfl fun i hi => ?_
  match i, hi with
  | 0, _ => show Le σ (.i 0) (.i (ifz e (psk l))); rw [ifz_ne h]; exact Le.eq rfl rfl
  | 1, _ => show Le σ (.i 0) (.i (ifz e (psn l))); rw [ifz_ne h]; exact Le.eq rfl rfl
  | 2, _ => show Le σ (.i 0) (.i (ifz e (psr l))); rw [ifz_ne h]; exact Le.eq rfl rfl
  | 3, _ => show Le σ (.v (.slice none 0 0)) (.row false (ifn e (psM l 0)) (psF l 0)); rw [ifn_ne h]; exact le_nil
  | 4, _ => show Le σ (.v (.slice none 0 0)) (.row false (ifn e (psM l 1)) (psF l 1)); rw [ifn_ne h]; exact le_nil
  | 5, _ => show Le σ (.v (.slice none 0 0)) (.row false (ifn e (psM l 2)) (psF l 2)); rw [ifn_ne h]; exact le_nil
  | 6, _ => show Le σ (.v (.slice none 0 0)) (.row false (ifn e (psM l 3)) (psF l 3)); rw [ifn_ne h]; exact le_nil
theorem cn_le2 {k n r : Nat} (hn : n ≤ 8) (hr : r ≤ 3) : cnA k n ≤ 100 ∧ cnB k n ≤ 100 ∧ cnH k n r ≤ 100 := by
  have hnr : n * r ≤ 8 * 3 := Nat.mul_le_mul hn hr
  unfold cnA cnB cnH
  refine ⟨?_, ?_, ?_⟩ <;> split <;> omega
theorem head_ok {l : List Int} (h : headV (psk l) (psn l) (psr l) = 0) (hb : By (tkP 3 l 0).1) : (1 ≤ psk l ∧ psk l ≤ 7) ∧ (1 ≤ psn l ∧ psn l ≤ 8) ∧ 0 ≤ psr l ∧ psr l ≤ 3 := by
  have b2 : 0 ≤ psr l := (hb 2).1
  unfold headV at h
  cases e1 : kindB (psk l) with
  | true => rw [e1] at h; cases h
  | false =>
    rw [e1, cond_false] at h
    cases e2 : sizedB (psk l) (psn l) (psr l) with
    | false => rw [e2] at h; cases h
    | true =>
      unfold kindB at e1
      unfold sizedB at e2
      rw [Bool.or_eq_false_iff, decide_eq_false_iff_not, decide_eq_false_iff_not] at e1
      rw [Bool.and_eq_true, Bool.not_eq_true', Bool.or_eq_false_iff, decide_eq_false_iff_not, decide_eq_false_iff_not] at e2
      obtain ⟨⟨h1, h2⟩, h3⟩ := e2
      refine ⟨by omega, by omega, b2, ?_⟩
      cases e3 : likeZ (psk l) with
      | true => rw [e3, cond_true, Bool.and_eq_true, decide_eq_true_eq, decide_eq_true_eq] at h3; exact h3.2
      | false => rw [e3, cond_false, decide_eq_true_eq] at h3; omega
theorem c_parse {l : List Int} (hb : By l) (hl : l.length ≤ 1000000) : Has Try.prog 14 [.seq .u8 l] (.tup (.ag 7 (psV l)) (.i (psE l))) := by
  have c0 := c_tk (n := 3) (l := l) (e := 0) (by decide) (by omega)
  have hlen := tk_len 3 l 0
  have hby := tk_by (n := 3) (e := 0) hb
  have hle := tk_le 3 l 0
  refine has_of Try.func14 (by kernel_rfl) rfl Try.ntmps14 Try.results14 rfl rfl rfl ?_
  refine run3 ?_
  repeat(first|refine run4p ?_)
  refine run3 ?_
  repeat(first|refine run4p ?_)
  refine awp_imp (imp_stl (e := [(2, .ptr 2 0 0), (3, .i 0), (4, .ptr 60 0 0)]) (h := (60, (1, fun _ => .ones RDT 2 (rdF l 0))) :: (61, (0, fun _ => .rats 0 fun _ => ra0)) :: (62, (0, fun _ => .rats 0 fun _ => ra0)) :: [(2, (1, fun _ => .ones 26 7 (hdz 0 0 0)))]) (s1 60 10) (fun h => by cases h) (s1_injl rfl) ?_ ?_ rfl) ?_
  · exact alle rfl (Le.ptr rfl) rfl (alle rfl (Le.eq rfl rfl) True.intro (alle rfl (Le.ptr s1_t) rfl True.intro))
  · refine allh rfl (by decide) (rd_le rfl rfl) (fun i _ => rdF_ok _ _ _ i) (all0 (all0 (allh rfl (by decide) (bleo rfl fun i hi => ?_) (fun i _ => hdz_ok _ i) True.intro)))
    match i, hi with
    | 0, _ | 1, _ | 2, _ | 3, _ | 4, _ | 5, _ | 6, _ => exact Le.eq rfl rfl
  have hps : psE l = if (tkP 3 l 0).2.2 ≠ 0 then (tkP 3 l 0).2.2 else if headV ((tkP 3 l 0).1.getD (Int.toNat 0) 0) ((tkP 3 l 0).1.getD (Int.toNat 1) 0) ((tkP 3 l 0).1.getD (Int.toNat 2) 0) ≠ 0 then headV ((tkP 3 l 0).1.getD (Int.toNat 0) 0) ((tkP 3 l 0).1.getD (Int.toNat 1) 0) ((tkP 3 l 0).1.getD (Int.toNat 2) 0) else if (psS l 4).2 ≠ 0 then (psS l 4).2 else if 0 < (psS l 4).1.length then 7 else chk (psG l) := rfl
  have b0 : 0 ≤ (tkP 3 l 0).1.getD (Int.toNat 0) 0 ∧ (tkP 3 l 0).1.getD (Int.toNat 0) 0 ≤ 255 := hby.1 0
  have b1 : 0 ≤ (tkP 3 l 0).1.getD (Int.toNat 1) 0 ∧ (tkP 3 l 0).1.getD (Int.toNat 1) 0 ≤ 255 := hby.1 1
  have b2 : 0 ≤ (tkP 3 l 0).1.getD (Int.toNat 2) 0 ∧ (tkP 3 l 0).1.getD (Int.toNat 2) 0 ≤ 255 := hby.1 2
  refine run0p ?_
  ((with_reducible apply st_callH); exact rfl; exact rfl; exact rfl; exact (c0); (first | exact True.intro | exact ⟨rfl, rfl, rfl, True.intro⟩); exact rfl; exact rfl; exact rfl; exact rfl; (focus (repeat (first | exact True.intro | refine ⟨(by first | exact True.intro | rfl | exact ok_none (closed_ok rfl)), ?_⟩))); (first | exact True.intro | exact okf_WH | exact okf_pf (by exact True.intro) (by exact True.intro) | exact okf_rd | exact okf_pr))
  refine run0p ?_
  by_cases h0 : (tkP 3 l 0).2.2 = 0
  · have d0 : decide ((tkP 3 l 0).2.2 = 0) = true := decide_eq_true h0
    rw [if_neg (fun c => c h0)] at hps
    have c1 := c_head (k := (tkP 3 l 0).1.getD (Int.toNat 0) 0) (n := (tkP 3 l 0).1.getD (Int.toNat 1) 0) (r := (tkP 3 l 0).1.getD (Int.toNat 2) 0)
    have hh : headV (psk l) (psn l) (psr l) = headV ((tkP 3 l 0).1.getD (Int.toNat 0) 0) ((tkP 3 l 0).1.getD (Int.toNat 1) 0) ((tkP 3 l 0).1.getD (Int.toNat 2) 0) := rfl
    refine awp_yes rfl d0 ?_
    repeat(first|refine run1p ?_|((with_reducible apply st_call);exact rfl;exact rfl;exact rfl;first|(exact Has.ag (u' := hdz ((tkP 3 l 0).1.getD (Int.toNat 0) 0) ((tkP 3 l 0).1.getD (Int.toNat 1) 0) ((tkP 3 l 0).1.getD (Int.toNat 2) 0)) (g7 rfl rfl rfl rfl rfl rfl rfl) c1))|((with_reducible apply st_callg);exact rfl;exact rfl;(first|exact rfl|assumption);exact rfl;exact rfl;exact rfl;first|(exact Has.ag (u' := hdz ((tkP 3 l 0).1.getD (Int.toNat 0) 0) ((tkP 3 l 0).1.getD (Int.toNat 1) 0) ((tkP 3 l 0).1.getD (Int.toNat 2) 0)) (g7 rfl rfl rfl rfl rfl rfl rfl) c1)))
    by_cases h1 : headV ((tkP 3 l 0).1.getD (Int.toNat 0) 0) ((tkP 3 l 0).1.getD (Int.toNat 1) 0) ((tkP 3 l 0).1.getD (Int.toNat 2) 0) = 0
    · rw [if_neg (fun c => c h1)] at hps
      rw [h1]
      refine awp_no rfl rfl ?_
      obtain ⟨⟨k1, k7⟩, ⟨n1, n8⟩, r0, r3⟩ := head_ok (hh.trans h1) hby.1
      have hK : (tkP 3 l 0).1.getD (Int.toNat 0) 0 = (((psk l).toNat : Nat) : Int) := (Int.toNat_of_nonneg (by omega : 0 ≤ psk l)).symm
      have hN : (tkP 3 l 0).1.getD (Int.toNat 1) 0 = (((psn l).toNat : Nat) : Int) := (Int.toNat_of_nonneg (by omega : 0 ≤ psn l)).symm
      have hR : (tkP 3 l 0).1.getD (Int.toNat 2) 0 = (((psr l).toNat : Nat) : Int) := (Int.toNat_of_nonneg (by omega : 0 ≤ psr l)).symm
      have c2 := c_counts (k := (psk l).toNat) (n := (psn l).toNat) (r := (psr l).toNat) (by omega) (by omega) (by omega) (by omega) (by omega)
      refine awp_imp (imp_id (e := [(2, .ptr 2 0 0), (3, .i 0), (4, .ptr 60 0 0), (6, .ptr 6 0 0)]) (h := (6, (1, fun _ => .ones 26 7 (hdf (psk l).toNat (psn l).toNat (psr l).toNat))) :: (2, (1, fun _ => .ones 26 7 (hdz 0 0 0))) :: RdS (psS l 0).1 (psS l 0).2) ?_ ?_) ?_
      · exact alle rfl (Le.id rfl) rfl (alle rfl (Le.id rfl) True.intro (alle rfl (Le.id rfl) rfl (alle rfl (Le.id rfl) rfl True.intro)))
      · refine allh rfl (by decide) (bleo rfl fun i hi => ?_) (fun i _ => hdf_ok _ _ _ _ i) (allh rfl (by decide) (bleo rfl fun i hi => Le.id rfl) (fun i _ => hdz_ok _ i) (allh rfl (by decide) (rd_le rfl rfl) (fun i _ => rdF_ok _ _ _ i) (all0 (all0 True.intro))))
        match i, hi with
        | 0, _ => exact Le.id (congrArg (fun z => AV.v (.int .i64 z)) hK)
        | 1, _ => exact Le.id (congrArg (fun z => AV.v (.int .i64 z)) hN)
        | 2, _ => exact Le.id (congrArg (fun z => AV.v (.int .i64 z)) hR)
        | 3, _ | 4, _ | 5, _ | 6, _ => exact Le.id rfl
      repeat(first|refine run1p ?_|((with_reducible apply st_call);exact rfl;exact rfl;exact rfl;first|(exact Has.ag (u' := hdf (psk l).toNat (psn l).toNat (psr l).toNat) (g7 rfl rfl rfl rfl rfl rfl rfl) c2))|((with_reducible apply st_callg);exact rfl;exact rfl;(first|exact rfl|assumption);exact rfl;exact rfl;exact rfl;first|(exact Has.ag (u' := hdf (psk l).toNat (psn l).toNat (psr l).toNat) (g7 rfl rfl rfl rfl rfl rfl rfl) c2)))
      have s0 : By (psS l 0).1 ∧ (psS l 0).1.length ≤ 1000000 := ⟨hby.2, Nat.le_trans hle hl⟩
      have hcn := cn_le2 (k := (psk l).toNat) (n := (psn l).toNat) (r := (psr l).toNat) (by omega) (by omega)
      have c3 := c_row (e := (psS l 0).2) (n := psC l 0) s0.1 (by omega) hcn.1
      have s1 : By (psS l 1).1 ∧ (psS l 1).1.length ≤ 1000000 := by
        have := rw_by (e := (psS l 0).2) s0.1 (psC l 0)
        exact ⟨this.1, Nat.le_trans this.2.1 s0.2⟩
      have c4 := c_row (e := (psS l 1).2) (n := psC l 1) s1.1 (by omega) hcn.2.1
      have s2 : By (psS l 2).1 ∧ (psS l 2).1.length ≤ 1000000 := by
        have := rw_by (e := (psS l 1).2) s1.1 (psC l 1)
        exact ⟨this.1, Nat.le_trans this.2.1 s1.2⟩
      have c5 := c_row (e := (psS l 2).2) (n := psC l 2) s2.1 (by omega) hcn.2.2
      have s3 : By (psS l 3).1 ∧ (psS l 3).1.length ≤ 1000000 := by
        have := rw_by (e := (psS l 2).2) s2.1 (psC l 2)
        exact ⟨this.1, Nat.le_trans this.2.1 s2.2⟩
      have c6 := c_row (e := (psS l 3).2) (n := psC l 3) s3.1 (by omega) hcn.2.2
      have s4 : By (psS l 4).1 ∧ (psS l 4).1.length ≤ 1000000 := by
        have := rw_by (e := (psS l 3).2) s3.1 (psC l 3)
        exact ⟨this.1, Nat.le_trans this.2.1 s3.2⟩
      ((with_reducible apply st_callH); exact rfl; exact rfl; exact rfl; exact (c3); (first | exact True.intro | exact ⟨rfl, rfl, rfl, True.intro⟩); exact rfl; exact rfl; exact rfl; exact rfl; (focus (repeat (first | exact True.intro | refine ⟨(by first | exact True.intro | rfl | exact ok_none (closed_ok rfl)), ?_⟩))); (first | exact True.intro | exact okf_WH | exact okf_pf (by exact True.intro) (by exact True.intro) | exact okf_rd | exact okf_pr))
      refine run0p ?_
      ((with_reducible apply st_callH); exact rfl; exact rfl; exact rfl; exact (c4); (first | exact True.intro | exact ⟨rfl, rfl, rfl, True.intro⟩); exact rfl; exact rfl; exact rfl; exact rfl; (focus (repeat (first | exact True.intro | refine ⟨(by first | exact True.intro | rfl | exact ok_none (closed_ok rfl)), ?_⟩))); (first | exact True.intro | exact okf_WH | exact okf_pf (by exact True.intro) (by exact True.intro) | exact okf_rd | exact okf_pr))
      refine run0p ?_
      ((with_reducible apply st_callH); exact rfl; exact rfl; exact rfl; exact (c5); (first | exact True.intro | exact ⟨rfl, rfl, rfl, True.intro⟩); exact rfl; exact rfl; exact rfl; exact rfl; (focus (repeat (first | exact True.intro | refine ⟨(by first | exact True.intro | rfl | exact ok_none (closed_ok rfl)), ?_⟩))); (first | exact True.intro | exact okf_WH | exact okf_pf (by exact True.intro) (by exact True.intro) | exact okf_rd | exact okf_pr))
      refine run0p ?_
      ((with_reducible apply st_callH); exact rfl; exact rfl; exact rfl; exact (c6); (first | exact True.intro | exact ⟨rfl, rfl, rfl, True.intro⟩); exact rfl; exact rfl; exact rfl; exact rfl; (focus (repeat (first | exact True.intro | refine ⟨(by first | exact True.intro | rfl | exact ok_none (closed_ok rfl)), ?_⟩))); (first | exact True.intro | exact okf_WH | exact okf_pf (by exact True.intro) (by exact True.intro) | exact okf_rd | exact okf_pr))
      refine run0p ?_
      have hG : psG l = ⟨((psk l).toNat : Nat), ((psn l).toNat : Nat), ((psr l).toNat : Nat), prR (psM l 0) (psF l 0), prR (psM l 1) (psF l 1), prR (psM l 2) (psF l 2), prR (psM l 3) (psF l 3)⟩ := by
        unfold psG
        rw [← hK, ← hN, ← hR]
        rfl
      have hps : psE l = if (rwI (psS l 3).1 (psS l 3).2 (psC l 3)).2.2 ≠ 0 then (rwI (psS l 3).1 (psS l 3).2 (psC l 3)).2.2 else if 0 < (rwI (psS l 3).1 (psS l 3).2 (psC l 3)).2.1.length then 7 else chk (psG l) := hps
      have hfin := psG_fin (l := l)
      have c7 : Has Try.prog 22 [GR.v ⟨((psk l).toNat : Nat), ((psn l).toNat : Nat), ((psr l).toNat : Nat), prR (psM l 0) (psF l 0), prR (psM l 1) (psF l 1), prR (psM l 2) (psF l 2), prR (psM l 3) (psF l 3)⟩] (.i (chk (psG l))) := by
        have := g_checkr hfin
        rw [hG] at this ⊢
        exact this
      by_cases h4 : (rwI (psS l 3).1 (psS l 3).2 (psC l 3)).2.2 = 0
      · rw [if_neg (fun c => c h4)] at hps
        rw [h4]
        by_cases h5 : 0 < (rwI (psS l 3).1 (psS l 3).2 (psC l 3)).2.1.length
        · have d5 : decide ((((rwI (psS l 3).1 (psS l 3).2 (psC l 3)).2.1.length : Nat) : Int) > 0) = true := decide_eq_true (by omega)
          rw [if_pos h5] at hps
          unfold psV
          rw [hps]
          refine run0p ?_
          refine awp_yes rfl d5 ?_
          refine run0p ?_
          refine awp_no rfl rfl ?_
          refine run0p ?_
          refine awp_yes rfl rfl ?_
          refine run0p ?_
          refine ⟨.inr rfl, _, imp_id (e := [(2, .ptr 2 0 0), (3, .i 7)]) (h := (2, (1, fun _ => .ones 26 7 (psU l 7))) :: RdS (rwI (psS l 3).1 (psS l 3).2 (psC l 3)).2.1 7) ?_ ?_, .two (.agg rfl rfl rfl rfl (by decide) rfl rfl) (.tmp rfl)⟩
          · exact alle rfl (Le.id rfl) rfl (alle rfl (Le.id rfl) True.intro True.intro)
          · exact allh rfl (by decide) (ble_err (by decide) rfl) (fun i _ => gF_ok _ i) (allh rfl (by decide) (rd_le rfl rfl) (fun i _ => rdF_ok _ _ _ i) (all0 (all0 True.intro)))
        · have d5 : decide ((((rwI (psS l 3).1 (psS l 3).2 (psC l 3)).2.1.length : Nat) : Int) > 0) = false := decide_eq_false (by omega)
          rw [if_neg h5] at hps
          by_cases h8 : chk (psG l) = 0
          · rw [h8] at hps c7
            unfold psV
            rw [hps]
            refine run0p ?_
            refine awp_no rfl d5 ?_
            refine run0p ?_
            refine awp_yes rfl rfl ?_
            repeat(first|refine run1p ?_|((with_reducible apply st_call);exact rfl;exact rfl;exact rfl;first|(exact Has.gr rfl c7))|((with_reducible apply st_callg);exact rfl;exact rfl;(first|exact rfl|assumption);exact rfl;exact rfl;exact rfl;first|(exact Has.gr rfl c7)))
            refine awp_no rfl rfl ?_
            refine run0p ?_
            refine ⟨.inr rfl, _, imp_id (e := [(2, .ptr 2 0 0), (3, .i 0)]) (h := (2, (1, fun _ => .ones 26 7 (psU l 0))) :: RdS (rwI (psS l 3).1 (psS l 3).2 (psC l 3)).2.1 0) ?_ ?_, .two (.agg rfl rfl rfl rfl (by decide) rfl rfl) (.tmp rfl)⟩
            · exact alle rfl (Le.id rfl) rfl (alle rfl (Le.id rfl) True.intro True.intro)
            · exact allh rfl (by decide) (bleo rfl fun i hi => by
              match i, hi with
              | 0, _ => exact Le.id (congrArg (fun z => AV.v (.int .i64 z)) hK.symm)
              | 1, _ => exact Le.id (congrArg (fun z => AV.v (.int .i64 z)) hN.symm)
              | 2, _ => exact Le.id (congrArg (fun z => AV.v (.int .i64 z)) hR.symm)
              | 3, _ | 4, _ | 5, _ | 6, _ => exact Le.id rfl) (fun i _ => gF_ok _ i) (allh rfl (by decide) (rd_le rfl rfl) (fun i _ => rdF_ok _ _ _ i) (all0 (all0 True.intro)))
          · have d8 : decide (chk (psG l) ≠ 0) = true := decide_eq_true h8
            unfold psV
            rw [hps]
            refine run0p ?_
            refine awp_no rfl d5 ?_
            refine run0p ?_
            refine awp_yes rfl rfl ?_
            repeat(first|refine run1p ?_|((with_reducible apply st_call);exact rfl;exact rfl;exact rfl;first|(exact Has.gr rfl c7))|((with_reducible apply st_callg);exact rfl;exact rfl;(first|exact rfl|assumption);exact rfl;exact rfl;exact rfl;first|(exact Has.gr rfl c7)))
            refine awp_yes rfl d8 ?_
            refine run0p ?_
            refine ⟨.inr rfl, _, imp_id (e := [(2, .ptr 2 0 0), (3, .i (chk (psG l)))]) (h := (2, (1, fun _ => .ones 26 7 (psU l (chk (psG l))))) :: RdS (rwI (psS l 3).1 (psS l 3).2 (psC l 3)).2.1 (chk (psG l))) ?_ ?_, .two (.agg rfl rfl rfl rfl (by decide) rfl rfl) (.tmp rfl)⟩
            · exact alle rfl (Le.id rfl) rfl (alle rfl (Le.id rfl) True.intro True.intro)
            · exact allh rfl (by decide) (ble_err h8 rfl) (fun i _ => gF_ok _ i) (allh rfl (by decide) (rd_le rfl rfl) (fun i _ => rdF_ok _ _ _ i) (all0 (all0 True.intro)))
      · have d4 : decide ((rwI (psS l 3).1 (psS l 3).2 (psC l 3)).2.2 = 0) = false := decide_eq_false h4
        have d4' : (decide ((rwI (psS l 3).1 (psS l 3).2 (psC l 3)).2.2 = 0) == true) = false := by rw [d4]; rfl
        have d6 : decide ((rwI (psS l 3).1 (psS l 3).2 (psC l 3)).2.2 ≠ 0) = true := decide_eq_true h4
        rw [if_pos h4] at hps
        unfold psV
        rw [hps]
        refine run0p ?_
        refine awp_no rfl rfl ?_
        refine run0p ?_
        refine awp_no rfl d4 ?_
        refine run0p ?_
        refine awp_yes rfl d6 ?_
        refine run0p ?_
        refine ⟨.inr rfl, _, imp_id (e := [(2, .ptr 2 0 0), (3, .i (rwI (psS l 3).1 (psS l 3).2 (psC l 3)).2.2)]) (h := (2, (1, fun _ => .ones 26 7 (psU l (rwI (psS l 3).1 (psS l 3).2 (psC l 3)).2.2))) :: RdS (rwI (psS l 3).1 (psS l 3).2 (psC l 3)).2.1 (rwI (psS l 3).1 (psS l 3).2 (psC l 3)).2.2) ?_ ?_, .two (.agg rfl rfl rfl rfl (by decide) rfl rfl) (.tmp rfl)⟩
        · exact alle rfl (Le.id rfl) rfl (alle rfl (Le.id rfl) True.intro True.intro)
        · exact allh rfl (by decide) (ble_err h4 rfl) (fun i _ => gF_ok _ i) (allh rfl (by decide) (rd_le rfl rfl) (fun i _ => rdF_ok _ _ _ i) (all0 (all0 True.intro)))
    · have d1 : decide (headV ((tkP 3 l 0).1.getD (Int.toNat 0) 0) ((tkP 3 l 0).1.getD (Int.toNat 1) 0) ((tkP 3 l 0).1.getD (Int.toNat 2) 0) ≠ 0) = true := decide_eq_true h1
      rw [if_pos h1] at hps
      unfold psV
      rw [hps]
      refine awp_yes rfl d1 ?_
      refine run0p ?_
      refine ⟨.inr rfl, _, imp_id (e := [(2, .ptr 2 0 0), (3, .i (headV ((tkP 3 l 0).1.getD (Int.toNat 0) 0) ((tkP 3 l 0).1.getD (Int.toNat 1) 0) ((tkP 3 l 0).1.getD (Int.toNat 2) 0)))]) (h := (2, (1, fun _ => .ones 26 7 (psU l (headV ((tkP 3 l 0).1.getD (Int.toNat 0) 0) ((tkP 3 l 0).1.getD (Int.toNat 1) 0) ((tkP 3 l 0).1.getD (Int.toNat 2) 0))))) :: RdS (tkP 3 l 0).2.1 (headV ((tkP 3 l 0).1.getD (Int.toNat 0) 0) ((tkP 3 l 0).1.getD (Int.toNat 1) 0) ((tkP 3 l 0).1.getD (Int.toNat 2) 0))) ?_ ?_, .two (.agg rfl rfl rfl rfl (by decide) rfl rfl) (.tmp rfl)⟩
      · exact alle rfl (Le.id rfl) rfl (alle rfl (Le.id rfl) True.intro True.intro)
      · exact allh rfl (by decide) (ble_err h1 rfl) (fun i _ => gF_ok _ i) (allh rfl (by decide) (rd_le rfl rfl) (fun i _ => rdF_ok _ _ _ i) (all0 (all0 True.intro)))
  · have d0 : decide ((tkP 3 l 0).2.2 = 0) = false := decide_eq_false h0
    have d1 : decide ((tkP 3 l 0).2.2 ≠ 0) = true := decide_eq_true h0
    rw [if_pos h0] at hps
    unfold psV
    rw [hps]
    refine awp_no rfl d0 ?_
    refine run0p ?_
    refine awp_yes rfl d1 ?_
    refine run0p ?_
    refine ⟨.inr rfl, _, imp_id (e := [(2, .ptr 2 0 0), (3, .i (tkP 3 l 0).2.2)]) (h := (2, (1, fun _ => .ones 26 7 (psU l (tkP 3 l 0).2.2))) :: RdS (tkP 3 l 0).2.1 (tkP 3 l 0).2.2) ?_ ?_, .two (.agg rfl rfl rfl rfl (by decide) rfl rfl) (.tmp rfl)⟩
    · exact alle rfl (Le.id rfl) rfl (alle rfl (Le.id rfl) True.intro True.intro)
    · exact allh rfl (by decide) (ble_err h0 rfl) (fun i _ => gF_ok _ i) (allh rfl (by decide) (rd_le rfl rfl) (fun i _ => rdF_ok _ _ _ i) (all0 (all0 True.intro)))
end Go.Proofs.Ytpclkgjhfhhddaa.AM
/- ref6: Parse. -/
namespace Go.Proofs.Ytpclkgjhfhhddaa.AM
open Go Go.RowKit Go.Proofs.Ytpclkgjhfhhddaa.PN Go.Proofs.Ytpclkgjhfhhddaa.V
set_option linter.unusedVariables false
set_option linter.unusedSimpArgs false
set_option maxRecDepth 8000
set_option maxHeartbeats 8000000
def q1 (b : List Int) : Int × Nat × Int := byP b 0 0
def q2 (b : List Int) : Int × Nat × Int := byP b (q1 b).2.1 (q1 b).2.2
def q3 (b : List Int) : Int × Nat × Int := byP b (q2 b).2.1 (q2 b).2.2
def qC (b : List Int) (i : Nat) : Nat := [cnA (q1 b).1.toNat (q2 b).1.toNat, cnB (q1 b).1.toNat (q2 b).1.toNat, cnH (q1 b).1.toNat (q2 b).1.toNat (q3 b).1.toNat, cnH (q1 b).1.toNat (q2 b).1.toNat (q3 b).1.toNat].getD i 0
/-- The place before a row, and the error. -/
def qS (b : List Int) : Nat → Nat × Int
  | 0 => ((q3 b).2.1, 0)
  | i + 1 => (rbI b (qS b i).1 (qS b i).2 (rbN b (qS b i).1 (qS b i).2 (qC b i))).2
def qM (b : List Int) (i : Nat) : Nat := rbN b (qS b i).1 (qS b i).2 (qC b i)
def qF (b : List Int) (i : Nat) : Nat → RA := rbF b (qS b i).1 (qS b i).2 (qC b i)
def qG (b : List Int) : GR := ⟨(q1 b).1, (q2 b).1, (q3 b).1, prR (qM b 0) (qF b 0), prR (qM b 1) (qF b 1), prR (qM b 2) (qF b 2), prR (qM b 3) (qF b 3)⟩
def qE (b : List Int) : Int :=
  if (q3 b).2.2 ≠ 0 then (q3 b).2.2 else if headV (q1 b).1 (q2 b).1 (q3 b).1 ≠ 0 then headV (q1 b).1 (q2 b).1 (q3 b).1 else if (qS b 4).2 ≠ 0 then (qS b 4).2 else if (qS b 4).1 < b.length then 7 else chk (qG b)
def qU (b : List Int) (e : Int) : Nat → AV := gF (ifz e (q1 b).1) (ifz e (q2 b).1) (ifz e (q3 b).1) (fun i => ifn e (qM b i)) (qF b)
def qV (b : List Int) : Nat → AV := qU b (qE b)
end Go.Proofs.Ytpclkgjhfhhddaa.AM
/- Both parsers tell the same. -/
namespace Go.Proofs.Ytpclkgjhfhhddaa.AM
open Go Go.RowKit Go.Proofs.Ytpclkgjhfhhddaa.PN Go.Proofs.Ytpclkgjhfhhddaa.V
set_option linter.unusedVariables false
set_option linter.unusedSimpArgs false
/-- The same error; and where there is none, the same is left. -/
def RL (b : List Int) (x : List Int × Int) (y : Nat × Int) : Prop := x.2 = y.2 ∧ (x.2 = 0 → x.1 = b.drop y.1)
/-- So many bytes, one after the other. -/
def byI (b : List Int) (p : Nat) (e : Int) : Nat → Nat × Int
  | 0 => (p, e)
  | k + 1 => (byP b (byI b p e k).1 (byI b p e k).2).2
theorem RL.re {b : List Int} {x : List Int × Int} {y : Nat × Int} (h : RL b x y) : RL b (x.1, y.2) (y.1, y.2) := ⟨rfl, fun c => h.2 (h.1.trans c)⟩
end Go.Proofs.Ytpclkgjhfhhddaa.AM
/- ref6: bytes are laid. -/
namespace Go.Proofs.Ytpclkgjhfhhddaa.AM
open Go Go.RowKit Go.Proofs.Ytpclkgjhfhhddaa.PN Go.Proofs.Ytpclkgjhfhhddaa.V
set_option linter.unusedVariables false
set_option linter.unusedSimpArgs false
set_option maxRecDepth 8000
set_option maxHeartbeats 8000000
/-- A limb's first bytes. -/
def encK (x k : Nat) : List Int := (List.range k).map fun q => (x : Int) / 2 ^ (8 * q) % 256
end Go.Proofs.Ytpclkgjhfhhddaa.AM
/- What was laid is taken as it was. -/
namespace Go.Proofs.Ytpclkgjhfhhddaa.AM
open Go Go.RowKit Go.Proofs.Ytpclkgjhfhhddaa.PN Go.Proofs.Ytpclkgjhfhhddaa.V
set_option linter.unusedVariables false
set_option linter.unusedSimpArgs false
theorem borN_nat {a y : Nat} (ha : a < 4294967296) (hy : y < 4294967296) : borN a y = ((a ||| y : Nat) : Int) := by
  unfold borN
  have h1 : BitVec.ofInt 32 (a : Int) = BitVec.ofNat 32 a := by simp
  have h2 : BitVec.ofInt 32 (y : Int) = BitVec.ofNat 32 y := by simp
  rw [h1, h2, BitVec.toNat_or, BitVec.toNat_ofNat, BitVec.toNat_ofNat, Nat.mod_eq_of_lt (by simpa using ha), Nat.mod_eq_of_lt (by simpa using hy)]
theorem bor_add {a c k : Nat} (ha : a < 2 ^ k) (hk : k ≤ 24) (hc : c < 256) : borN a (shlN c (k : Nat)) = ((a + c * 2 ^ k : Nat) : Int) := by
  have hp : 2 ^ k ≤ 16777216 := Nat.pow_le_pow_right (n := 2) (by decide) hk
  have hck : c * 2 ^ k ≤ 255 * 16777216 := Nat.mul_le_mul (by omega) hp
  have hs : shlN c (k : Nat) = ((c * 2 ^ k : Nat) : Int) := by
    unfold shlN
    rw [Int.toNat_natCast]
    have : ((c : Int) * 2 ^ k) = ((c * 2 ^ k : Nat) : Int) := by simp
    rw [this]
    omega
  rw [hs, borN_nat (by omega) (by omega), Nat.or_comm, Nat.mul_comm, ← Nat.two_pow_add_eq_or_of_lt ha, Nat.add_comm, Nat.mul_comm]
theorem w4_enc {x : Nat} (hx : x < B) : w4 (encW x) = x := by
  have hB : B = 4294967296 := rfl
  rw [hB] at hx
  have e0 : (encW x).getD 0 0 = ((x % 256 : Nat) : Int) := by show (x : Int) % 256 = _; omega
  have e1 : (encW x).getD 1 0 = ((x / 256 % 256 : Nat) : Int) := by show (x : Int) / 2 ^ 8 % 256 = _; omega
  have e2 : (encW x).getD 2 0 = ((x / 65536 % 256 : Nat) : Int) := by show (x : Int) / 2 ^ 16 % 256 = _; omega
  have e3 : (encW x).getD 3 0 = ((x / 16777216 % 256 : Nat) : Int) := by show (x : Int) / 2 ^ 24 % 256 = _; omega
  unfold w4
  rw [e0, e1, e2, e3]
  rw [show (8 : Int) = ((8 : Nat) : Int) from rfl, show (16 : Int) = ((16 : Nat) : Int) from rfl, show (24 : Int) = ((24 : Nat) : Int) from rfl]
  rw [bor_add (by omega) (by decide) (by omega), bor_add (by omega) (by decide) (by omega), bor_add (by omega) (by decide) (by omega), Int.toNat_natCast]
  omega
theorem tk_app {a t : List Int} {n : Nat} (h : a.length = n) : tkP n (a ++ t) 0 = (a, t, 0) := by
  unfold tkP
  rw [if_pos rfl, if_neg (by rw [List.length_append]; omega), List.take_left' h, List.drop_left' h]
theorem sm_cons {c m : Int} {t : List Int} (h : c ≤ m) : smP m (c :: t) 0 = (c, t, 0) := by
  unfold smP
  have e : tkP 1 (c :: t) 0 = ([c], t, 0) := tk_app (a := [c]) rfl
  rw [e]
  show (if (0 : Int) = 0 then (if m < c then _ else _) else _) = _
  rw [if_pos rfl, if_neg (by omega)]
  rfl
theorem lmI_enc {l : List Nat} (hl : LF l) : ∀ i, i ≤ l.length → ∀ t, lmI ((l.take i).flatMap encW ++ t) 0 i = (l.take i, t, 0)
  | 0, _, t => rfl
  | i + 1, hi, t => by
    rw [flat_take (by omega), List.append_assoc]
    show ((lmI _ 0 i).1 ++ [w4 (tkP 4 (lmI _ 0 i).2.1 (lmI _ 0 i).2.2).1], (tkP 4 (lmI _ 0 i).2.1 (lmI _ 0 i).2.2).2) = _
    rw [lmI_enc hl i (by omega)]
    show ((l.take i) ++ [w4 (tkP 4 (encW (l.getD i 0) ++ t) 0).1], (tkP 4 (encW (l.getD i 0) ++ t) 0).2) = _
    rw [tk_app (n := 4) (a := encW (l.getD i 0)) rfl]
    show (l.take i ++ [w4 (encW (l.getD i 0))], t, (0 : Int)) = _
    have hx : l.getD i 0 < B := by
      rw [List.getD_eq_getElem?_getD, List.getElem?_eq_getElem (by omega)]
      exact hl _ (List.getElem_mem _)
    rw [w4_enc hx, List.take_add_one, List.getElem?_eq_getElem (by omega), List.getD_eq_getElem?_getD, List.getElem?_eq_getElem (by omega)]
    rfl
theorem lm_enc {l : List Nat} (hl : LF l) (h4 : l.length ≤ 4) (t : List Int) : lmP (encL l ++ t) 0 = (l, t, 0) := by
  unfold lmP encL
  have e : ((l.length : Nat) : Int) % 256 = l.length := by omega
  rw [List.cons_append, e, sm_cons (by omega)]
  show lmI (l.flatMap encW ++ t) 0 ((l.length : Nat) : Int).toNat = _
  have := lmI_enc hl l.length (Nat.le_refl _) t
  rw [List.take_length] at this
  rw [Int.toNat_natCast]
  exact this
/-- A number that may be laid. -/
def Enc (r : RA) : Prop := RAf r ∧ (raN r).length ≤ 4 ∧ (raD r).length ≤ 4
def rawOf (r : RA) : RA := .raw r.sgn (raN r) (raD r)
theorem nm_enc {r : RA} (h : Enc r) (t : List Int) : nmP (encR r ++ t) 0 = (rawOf r, t, 0) := by
  obtain ⟨⟨h1, h2⟩, h3, h4⟩ := h
  have e0 : smP 1 (encR r ++ t) 0 = (sgB r.sgn, encL (raN r) ++ (encL (raD r) ++ t), 0) := by
    unfold encR
    rw [List.cons_append, List.append_assoc]
    exact sm_cons (by unfold sgB; split <;> decide)
  unfold nmP
  rw [e0]
  simp only []
  rw [lm_enc h1 h3]
  simp only []
  rw [lm_enc h2 h4]
  have : decide (sgB r.sgn = 1) = r.sgn := by cases r.sgn <;> decide
  rw [this]
  rfl
theorem rw_enc {F : Nat → RA} (h : ∀ j, Enc (F j)) : ∀ n t, rwI (encRow n F ++ t) 0 n = ((List.range n).map fun j => rawOf (F j), t, 0)
  | 0, t => rfl
  | n + 1, t => by
    rw [encRow_succ, List.append_assoc]
    show ((rwI _ 0 n).1 ++ [(nmP (rwI _ 0 n).2.1 (rwI _ 0 n).2.2).1], (nmP (rwI _ 0 n).2.1 (rwI _ 0 n).2.2).2) = _
    rw [rw_enc h n]
    show (_ ++ [(nmP (encR (F n) ++ t) 0).1], (nmP (encR (F n) ++ t) 0).2) = _
    rw [nm_enc (h n), List.range_succ, List.map_append]
    rfl
theorem rwN_enc {F : Nat → RA} (h : ∀ j, Enc (F j)) (n : Nat) (t : List Int) : rwN (encRow n F ++ t) 0 n = n := by
  refine if_pos fun j hj => Classical.byContradiction fun d => ?_
  have := rw_err d (n - j)
  rw [show j + (n - j) = n by omega, rw_enc h] at this
  exact d (by rw [← this])
theorem rwF_enc {F : Nat → RA} (h : ∀ j, Enc (F j)) {n j : Nat} (hj : j < n) (t : List Int) : rwF (encRow n F ++ t) 0 n j = rawOf (F j) := by
  unfold rwF
  rw [rw_enc h, List.getD_eq_getElem?_getD, List.getElem?_map, List.getElem?_range hj]
  rfl
section
variable {k n r : Nat} {m : Nat → Nat} {F : Nat → Nat → RA} (hk : k ≤ 255) (hn : n ≤ 255) (hr : r ≤ 255) (hF : ∀ i j, Enc (F i j)) (hm : m 0 = cnA k n ∧ m 1 = cnB k n ∧ m 2 = cnH k n r ∧ m 3 = cnH k n r)
theorem ps_tk (k n r : Nat) (m : Nat → Nat) (F : Nat → Nat → RA) : tkP 3 (encG k n r m F) 0 = (encH k n r, encRows 4 m F, 0) := tk_app rfl
include hk hn hr
theorem ps_hd : psk (encG k n r m F) = k ∧ psn (encG k n r m F) = n ∧ psr (encG k n r m F) = r := by
  unfold psk psn psr
  rw [ps_tk]
  refine ⟨?_, ?_, ?_⟩
  · show (k : Int) % 256 = k; omega
  · show (n : Int) % 256 = n; omega
  · show (r : Int) % 256 = r; omega
include hm
theorem ps_cnt : ∀ i, i < 4 → psC (encG k n r m F) i = m i := by
  obtain ⟨e1, e2, e3⟩ := ps_hd (m := m) (F := F) hk hn hr
  intro i hi
  unfold psC
  rw [e1, e2, e3]
  match i, hi with
  | 0, _ => exact hm.1.symm
  | 1, _ => exact hm.2.1.symm
  | 2, _ => exact hm.2.2.1.symm
  | 3, _ => exact hm.2.2.2.symm
include hF
/-- The rows behind so many. -/
theorem ps_rows : ∀ i, i ≤ 4 → psS (encG k n r m F) i = (((List.range (4 - i)).flatMap fun j => encRow (m (i + j)) (F (i + j))), 0)
  | 0, _ => by
    show ((tkP 3 (encG k n r m F) 0).2.1, (0 : Int)) = _
    rw [ps_tk]
    show (encRows 4 m F, (0 : Int)) = _
    unfold encRows
    simp only [Nat.zero_add, Nat.sub_zero]
  | i + 1, hi => by
    show (rwI (psS (encG k n r m F) i).1 (psS (encG k n r m F) i).2 (psC (encG k n r m F) i)).2 = _
    rw [ps_cnt hk hn hr hm i (by omega), ps_rows i (by omega)]
    have e : ((List.range (4 - i)).flatMap fun j => encRow (m (i + j)) (F (i + j))) = encRow (m i) (F i) ++ ((List.range (4 - (i + 1))).flatMap fun j => encRow (m (i + 1 + j)) (F (i + 1 + j))) := by
      rw [show 4 - i = (4 - (i + 1)) + 1 by omega, List.range_succ_eq_map, List.flatMap_cons, List.flatMap_map]
      simp only [Nat.add_zero]
      congr 1
      congr 1
      funext j
      rw [show i + (j + 1) = i + 1 + j by omega]
    simp only []
    rw [e, rw_enc (hF i)]
theorem ps_row {i : Nat} (hi : i < 4) : psM (encG k n r m F) i = m i ∧ ∀ j, j < m i → psF (encG k n r m F) i j = rawOf (F i j) := by
  unfold psM psF
  rw [ps_cnt hk hn hr hm i hi, ps_rows hk hn hr hF hm i (by omega)]
  have e : ((List.range (4 - i)).flatMap fun j => encRow (m (i + j)) (F (i + j))) = encRow (m i) (F i) ++ ((List.range (4 - (i + 1))).flatMap fun j => encRow (m (i + 1 + j)) (F (i + 1 + j))) := by
    rw [show 4 - i = (4 - (i + 1)) + 1 by omega, List.range_succ_eq_map, List.flatMap_cons, List.flatMap_map]
    simp only [Nat.add_zero]
    congr 1
    congr 1
    funext j
    rw [show i + (j + 1) = i + 1 + j by omega]
  simp only []
  rw [e]
  exact ⟨rwN_enc (hF i) _ _, fun j hj => rwF_enc (hF i) hj _⟩
theorem ps_enc (hd : headV k n r = 0) : psE (encG k n r m F) = chk (psG (encG k n r m F)) := by
  obtain ⟨e1, e2, e3⟩ := ps_hd (m := m) (F := F) hk hn hr
  have h4 := ps_rows hk hn hr hF hm 4 (Nat.le_refl _)
  have z1 : ¬ (tkP 3 (encG k n r m F) 0).2.2 ≠ 0 := fun c => c (by rw [ps_tk])
  have z2 : ¬ headV (psk (encG k n r m F)) (psn (encG k n r m F)) (psr (encG k n r m F)) ≠ 0 := fun c => c (by rw [e1, e2, e3]; exact hd)
  have z3 : ¬ (psS (encG k n r m F) 4).2 ≠ 0 := fun c => c (by rw [h4])
  have z4 : ¬ 0 < (psS (encG k n r m F) 4).1.length := by rw [h4]; exact Nat.lt_irrefl 0
  unfold psE
  rw [if_neg z1, if_neg z2, if_neg z3, if_neg z4]
end
end Go.Proofs.Ytpclkgjhfhhddaa.AM
/- Systems that may be are taken. -/
namespace Go.Proofs.Ytpclkgjhfhhddaa.AM
open Go Go.RowKit Go.Proofs.Ytpclkgjhfhhddaa.PN Go.Proofs.Ytpclkgjhfhhddaa.V
set_option linter.unusedVariables false
set_option linter.unusedSimpArgs false
/-- A system's rows, whatever they are. -/
def grGD (g : GD) : GR := ⟨g.k, g.n, g.r, prR g.la (fun i => .q (g.A i)), prR g.lb (fun i => .q (g.B i)), prR g.lg (fun i => .q (g.G i)), prR g.lh (fun i => .q (g.H i))⟩
theorem isp_q {p : Rat} (h : wt p ≤ 4) : IsP (limbsOf (nm p)) (limbsOf p.den) p := by
  have h1 := wt_num p
  have h2 := wt_den p
  exact ⟨limbsOf_lf _, limbsOf_lf _, trim_limbsOf _, trim_limbsOf _, lval_limbsOf _, lval_limbsOf _, by rw [limbsOf_len]; omega, by rw [limbsOf_len]; omega⟩
theorem smB_q {p : Rat} (h : wt p ≤ 4) : smB (ng p) (limbsOf (nm p)) (limbsOf p.den) = true := by
  have h1 := wt_num p
  have h2 := wt_den p
  have hd : (limbsOf p.den).length ≠ 0 := fun e => p.den_nz (by
    have := (lval_nil (trim_limbsOf p.den)).1 e
    rwa [lval_limbsOf] at this)
  have hz : (limbsOf (nm p)).length = 0 → ng p = false := fun e => by
    have := (lval_nil (trim_limbsOf (nm p))).1 e
    rw [lval_limbsOf] at this
    have hn : p.num = 0 := Int.natAbs_eq_zero.1 this
    show decide (p.num < 0) = false
    rw [hn]; rfl
  unfold smB rgtB
  rw [trim_limbsOf, trim_limbsOf, lval_limbsOf, lval_limbsOf, decide_eq_true (by rw [limbsOf_len]; omega : (limbsOf (nm p)).length ≤ 4), decide_eq_true (by rw [limbsOf_len]; omega : (limbsOf p.den).length ≤ 4), decide_eq_true hd]
  have hg : gcd1 (nm p) p.den = true := by
    rw [gcd1, Nat.beq_eq]
    exact p.reduced
  rw [hg]
  by_cases e : (limbsOf (nm p)).length = 0
  · rw [hz e]; simp
  · rw [decide_eq_false e]; rfl
theorem sm_q {m : Nat} {f : Nat → Rat} (h : ∀ i, i < m → wt (f i) ≤ 4) : (prR m fun i => .q (f i)).sm = true := decide_eq_true fun i hi => smB_q (h i hi)
theorem head_gd {g : GD} (o : g.OK) : headV g.k g.n g.r = 0 := by
  have h1 := o.k1
  have h7 := o.k7
  have n1 := o.n1
  have n8 := o.n8
  have r3 := o.r3
  unfold headV
  have e1 : kindB (g.k : Int) = false := by unfold kindB; rw [decide_eq_false (by omega), decide_eq_false (by omega)]; rfl
  have e2 : sizedB (g.k : Int) g.n g.r = true := by
    unfold sizedB
    rw [decide_eq_false (by omega), decide_eq_false (by omega), likeZ_nat]
    cases e : likeB g.k with
    | true => have := o.rk e; rw [cond_true, decide_eq_true (by omega), decide_eq_true (by omega)]; rfl
    | false => have := o.r0 e; rw [cond_false, decide_eq_true (by omega)]; rfl
  rw [e1, e2]; rfl
theorem chk_gd {g : GD} (o : g.OK) : chk (grGD g) = 0 := by
  have hh := head_gd o
  unfold headV at hh
  unfold chk
  show (bif kindB (g.k : Int) then (2 : Int) else bif sizedB (g.k : Int) g.n g.r then chkR (grGD g) else 1) = 0
  cases e1 : kindB (g.k : Int) with
  | true => rw [e1] at hh; cases hh
  | false =>
    rw [e1, cond_false] at hh
    cases e2 : sizedB (g.k : Int) g.n g.r with
    | false => rw [e2] at hh; cases hh
    | true =>
      rw [cond_false, cond_true]
      unfold chkR
      have l0 : (grGD g).A.len (cnt (grGD g).k (grGD g).n (grGD g).r 0) = true := decide_eq_true (o.len 0 (by decide))
      have l1 : (grGD g).B.len (cnt (grGD g).k (grGD g).n (grGD g).r 1) = true := decide_eq_true (o.len 1 (by decide))
      have l2 : (grGD g).G.len (cnt (grGD g).k (grGD g).n (grGD g).r 2) = true := decide_eq_true (o.len 2 (by decide))
      have l3 : (grGD g).H.len (cnt (grGD g).k (grGD g).n (grGD g).r 3) = true := decide_eq_true (o.len 3 (by decide))
      have m : (grGD g).A.meets (grGD g).B = false := by
        show (!decide (∀ i, i < g.la → (grGD g).B.has (ng (g.A i)) (limbsOf (nm (g.A i))) (limbsOf (g.A i).den) = false)) = false
        rw [decide_eq_true]
        · rfl
        · intro i hi
          show (!decide (∀ j, j < g.lb → eqB (ng (g.A i)) (limbsOf (nm (g.A i))) (limbsOf (g.A i).den) (ng (g.B j)) (limbsOf (nm (g.B j))) (limbsOf (g.B j).den) = false)) = false
          rw [decide_eq_true]
          · rfl
          · intro j hj
            rw [isp_eq (isp_q (o.sm.A i hi)) (isp_q (o.sm.B j hj))]
            exact decide_eq_false (o.ne i hi j hj)
      rw [l0, l1, l2, l3, m, show (grGD g).A.sm = true from sm_q o.sm.A, show (grGD g).B.sm = true from sm_q o.sm.B, show (grGD g).G.sm = true from sm_q o.sm.G, show (grGD g).H.sm = true from sm_q o.sm.H]
      rfl
/-- The same numbers. -/
structure PR.Eq (x y : PR) : Prop where
  m : x.m = y.m
  e : ∀ i, i < x.m → x.s i = y.s i ∧ x.f i = y.f i ∧ x.g i = y.g i
theorem PR.Eq.sm {x y : PR} (h : x.Eq y) : x.sm = y.sm := by
  unfold PR.sm
  rw [decide_eq_decide, ← h.m]
  exact ⟨fun k i hi => by obtain ⟨a, b, c⟩ := h.e i hi; rw [← a, ← b, ← c]; exact k i hi, fun k i hi => by obtain ⟨a, b, c⟩ := h.e i hi; rw [a, b, c]; exact k i hi⟩
theorem PR.Eq.has {x y : PR} (h : x.Eq y) (s : Bool) (n d : List Nat) : x.has s n d = y.has s n d := by
  unfold PR.has
  congr 1
  rw [decide_eq_decide, ← h.m]
  exact ⟨fun k i hi => by obtain ⟨a, b, c⟩ := h.e i hi; rw [← a, ← b, ← c]; exact k i hi, fun k i hi => by obtain ⟨a, b, c⟩ := h.e i hi; rw [a, b, c]; exact k i hi⟩
theorem PR.Eq.meets {x y x' y' : PR} (h : x.Eq y) (h' : x'.Eq y') : x.meets x' = y.meets y' := by
  unfold PR.meets
  congr 1
  rw [decide_eq_decide, ← h.m]
  exact ⟨fun k i hi => by obtain ⟨a, b, c⟩ := h.e i hi; rw [← a, ← b, ← c, ← h'.has]; exact k i hi, fun k i hi => by obtain ⟨a, b, c⟩ := h.e i hi; rw [a, b, c, h'.has]; exact k i hi⟩
theorem chk_congr {k n r : Int} {A B G H A' B' G' H' : PR} (hA : A.Eq A') (hB : B.Eq B') (hG : G.Eq G') (hH : H.Eq H') : chk ⟨k, n, r, A, B, G, H⟩ = chk ⟨k, n, r, A', B', G', H'⟩ := by
  unfold chk chkR
  simp only []
  rw [hA.sm, hB.sm, hG.sm, hH.sm, hA.meets hB]
  unfold PR.len
  rw [hA.m, hB.m, hG.m, hH.m]
/-- A system's rows, one behind the other. -/
def GD.m (g : GD) (i : Nat) : Nat := [g.la, g.lb, g.lg, g.lh].getD i 0
def GD.F (g : GD) (i j : Nat) : RA := .q ([if j < g.la then g.A j else 0, if j < g.lb then g.B j else 0, if j < g.lg then g.G j else 0, if j < g.lh then g.H j else 0].getD i 0)
theorem enc_q {p : Rat} (h : wt p ≤ 4) : Enc (.q p) := by
  have h1 := wt_num p
  have h2 := wt_den p
  exact ⟨⟨limbsOf_lf _, limbsOf_lf _⟩, by show (limbsOf _).length ≤ 4; rw [limbsOf_len]; omega, by show (limbsOf _).length ≤ 4; rw [limbsOf_len]; omega⟩
theorem GD.encF {g : GD} (o : g.OK) (i j : Nat) : Enc (g.F i j) := by
  have z : wt (0 : Rat) ≤ 4 := by decide
  refine enc_q ?_
  match i with
  | 0 => show wt (if j < g.la then g.A j else 0) ≤ 4; split; exact o.sm.A j (by assumption); exact z
  | 1 => show wt (if j < g.lb then g.B j else 0) ≤ 4; split; exact o.sm.B j (by assumption); exact z
  | 2 => show wt (if j < g.lg then g.G j else 0) ≤ 4; split; exact o.sm.G j (by assumption); exact z
  | 3 => show wt (if j < g.lh then g.H j else 0) ≤ 4; split; exact o.sm.H j (by assumption); exact z
  | i + 4 => exact z
theorem raw_nat {w : World} {v : Value} {n : Nat} (h : Lbs w v (limbsOf n)) : NatS w (fun _ => True) v n := by
  obtain ⟨A, c, e, hc, hx⟩ := h
  rw [limbsOf_len] at e hc hx
  refine ⟨A, c, e, hc, fun i hi => ?_⟩
  obtain ⟨b, off, cs, e1, hr, e2⟩ := hx i hi
  exact ⟨b, off, cs, e1, trivial, hr, by rw [← limbsOf_get n i hi]; exact e2⟩
theorem raw_r3 {w : World} {p : Rat} {s : Bool} {vn vd : Value} (h : R3 w (rawOf (.q p)) s vn vd) : R3 w (.q p) s vn vd := ⟨h.1, raw_nat h.2.1, raw_nat h.2.2⟩
theorem raw_row {S : Nat → Prop} {B : Nat} {w : World} {fr : Bool} {n n' : Nat} {f : Nat → RA} {q : Nat → Rat} {v : Value} (hn : n = n') (hf : ∀ i, i < n → f i = rawOf (.q (q i))) (h : RowV S B w fr n f v) : RowV S B w fr n' (fun i => .q (q i)) v := by
  subst hn
  obtain ⟨A, c, e, hc, hm, hx⟩ := h
  refine ⟨A, c, e, hc, hm, fun i hi => ?_⟩
  obtain ⟨b, off, a1, a2, a3, cs, s, vn, vd, k1, k2, k3, k4, k5⟩ := hx i hi
  rw [hf i hi] at k5
  exact ⟨b, off, a1, a2, a3, cs, s, vn, vd, k1, k2, k3, k4, raw_r3 k5⟩
end Go.Proofs.Ytpclkgjhfhhddaa.AM
/- Limbs: two slices are alike. -/
namespace Go.Proofs.Ytpclkgjhfhhddaa.V
open Go Go.RowKit Go.Proofs.Ytpclkgjhfhhddaa.PN
set_option linter.unusedVariables false
set_option linter.unusedSimpArgs false
end Go.Proofs.Ytpclkgjhfhhddaa.V
/- Package gen: two systems are alike; one entry. -/
namespace Go.Proofs.Ytpclkgjhfhhddaa.AM
open Go Go.RowKit Go.Proofs.Ytpclkgjhfhhddaa.PN Go.Proofs.Ytpclkgjhfhhddaa.V
open Go.Proofs.Ytpclkgjhfhhddaa.LA (S S_succ S_zero S_congr)
set_option linter.unusedVariables false
set_option linter.unusedSimpArgs false
set_option maxRecDepth 8000
set_option maxHeartbeats 8000000
theorem st_buildg {ops : Array Oper} {l : List Oper} {s : St} {acc : List Fp} {K : St → List Fp → Prop} {c : Prop} {d : Option Tmp} {r : Option AV} {upd : List (Nat × Option Fam)} {rd : List Nat} {ty : TypeId} {ps : String} {aft : Array Edge} {T : TypeId} {parts : Array (Nat × Operand)} {j : Nat} {want b : Bool} {t : Tmp} (ht : (ops[j]?).bind (·.dst) = some t) (he : s.env t = some (.v (.bool b))) (hb : (b == want) = true)
    (h : evBuild s T parts.toList = some (⟨r, upd, rd⟩, c)) (hc : c) (k : AOps Try.prog ops l (nxt s d r upd) ((rd, upd.map (·.1)) :: acc) K) : AOps Try.prog ops (⟨d, .build T parts, ty, ps, aft, some (j, want)⟩ :: l) s acc K :=
  .cons _ (.inl ⟨hb ▸ .some j want t b rfl ht he, evBuild_ok rfl h hc⟩) k
end Go.Proofs.Ytpclkgjhfhhddaa.AM
/- Laws of dense matrices: walks: rows and matrices that are the same; ones. -/
namespace Go.Proofs.Ytpclkgjhfhhddaa.AM
open Go Go.RowKit Go.Proofs.Ytpclkgjhfhhddaa.PN Go.Proofs.Ytpclkgjhfhhddaa.V
open Go.Proofs.Ytpclkgjhfhhddaa.LA (S S_succ S_zero S_congr)
set_option linter.unusedVariables false
set_option linter.unusedSimpArgs false
set_option maxRecDepth 4000
set_option maxHeartbeats 4000000
theorem k_rows {n K : Nat} {f g : Nat → Rat} [hf : ∀ i, Wt (f i) K] (hK : K ≤ 1000000000000) (hn : n ≤ 1000) (h : ∀ i, i < n → f i = g i) : Has Try.prog 41 [.row false n (fun i => .q (f i)), .row false n (fun i => .q (g i))] (.b true) := by
  refine has_of Try.func41 (by kernel_rfl) rfl Try.ntmps41 Try.results41 rfl rfl rfl ?_
  refine run0 ?_
  refine awp_no rfl (decide_eq_false (fun h => h rfl)) ?_
  refine run0 ?_
  refine awp_loop (fun m s => ∃ k, k ≤ n ∧ m = n - k ∧ s = stl [(0, .row false n (fun i => .q (f i))), (1, .row false n (fun i => .q (g i))), (5, .i (k : Int))] []) n _ (imp_id ?_ ?_) ⟨0, Nat.zero_le _, rfl, rfl⟩ ?_
  · exact eA
  · exact hA
  · rintro m s ⟨k, hk, rfl, rfl⟩
    refine run0 ?_
    refine awp_if rfl (fun h1 => ?_) (fun h1 => ?_)
    · have h1 : k < n := by omega
      have e := h k h1
      have wg : Wt (g k) K := by rw [← e]; exact hf k
      have C := cs_same (p := f k) (q := g k) ⟨hK, hK⟩
      rw [decide_eq_true e] at C
      repeat(first|refine run1 ?_|((with_reducible apply st_call);exact rfl;exact rfl;exact rfl;first|(exact C))|((with_reducible apply st_callg);exact rfl;exact rfl;(first|exact rfl|assumption);exact rfl;exact rfl;exact rfl;first|(exact C)))
      refine awp_no rfl rfl ?_
      refine run0 ?_
      refine q_loop ?_ (imp_id ?_ ?_) ⟨k + 1, ?_, rfl, rfl⟩
      · omega
      · exact eA
      · exact hA
      · omega
    · refine run0 ?_
      refine ⟨.inr rfl, _, Imp.refl _, ?_⟩
      exact .one (.tmp rfl)
end Go.Proofs.Ytpclkgjhfhhddaa.AM
/- Rows that are the same: the rest. -/
namespace Go.Proofs.Ytpclkgjhfhhddaa.AM
open Go Go.RowKit Go.Proofs.Ytpclkgjhfhhddaa.PN Go.Proofs.Ytpclkgjhfhhddaa.V
open Go.Proofs.Ytpclkgjhfhhddaa.LA (S S_succ S_zero S_congr)
set_option linter.unusedVariables false
set_option linter.unusedSimpArgs false
set_option maxRecDepth 4000
set_option maxHeartbeats 4000000
theorem k_rowsb {n K : Nat} {f g : Nat → Rat} (hf : ∀ i, i < n → Wt (f i) K) (hK1 : 1 ≤ K) (hK : K ≤ 1000000000000) (hn : n ≤ 1000) (h : ∀ i, i < n → f i = g i) : Has Try.prog 41 [.row false n (fun i => .q (f i)), .row false n (fun i => .q (g i))] (.b true) := by
  have w : ∀ i, Wt (if i < n then f i else 0) K := fun i => by
    split
    · rename_i h; exact hf i h
    · exact (inferInstance : Wt 0 1).mono hK1
  refine Has.args (k_rows (f := fun i => if i < n then f i else 0) (g := fun i => if i < n then f i else 0) (hf := w) hK hn (fun _ _ => rfl)) fun S B β w vs hv => rvs_cons (rv_row fun i hi => ?_) (fun us hu => rvs_cons (rv_row fun i hi => ?_) (fun us hu => hu) hu) hv
  · rw [if_pos hi]
  · rw [if_pos hi, h i hi]
end Go.Proofs.Ytpclkgjhfhhddaa.AM
/- Two systems are alike, or not. -/
namespace Go.Proofs.Ytpclkgjhfhhddaa.AM
open Go Go.RowKit Go.Proofs.Ytpclkgjhfhhddaa.PN Go.Proofs.Ytpclkgjhfhhddaa.V
open Go.Proofs.Ytpclkgjhfhhddaa.LA (S S_succ S_zero S_congr)
set_option linter.unusedVariables false
set_option linter.unusedSimpArgs false
set_option maxRecDepth 8000
set_option maxHeartbeats 8000000
/-- Two rows are alike. -/
def alld (n : Nat) (f g : Nat → Rat) : Bool := decide (∀ i, i < n → f i = g i)
theorem first_ne {f g : Nat → Rat} : ∀ n, (∃ i, i < n ∧ f i ≠ g i) → ∃ k, k < n ∧ f k ≠ g k ∧ ∀ i, i < k → f i = g i
  | 0, h => by obtain ⟨i, hi, _⟩ := h; exact absurd hi (Nat.not_lt_zero _)
  | n + 1, h => by
    by_cases e : ∃ i, i < n ∧ f i ≠ g i
    · obtain ⟨k, h1, h2, h3⟩ := first_ne n e
      exact ⟨k, by omega, h2, h3⟩
    · obtain ⟨i, hi, hne⟩ := h
      have hin : i = n := by
        by_cases e2 : i < n
        · exact absurd ⟨i, e2, hne⟩ e
        · omega
      subst hin
      exact ⟨i, hi, hne, fun j hj => Classical.byContradiction fun h' => e ⟨j, hj, h'⟩⟩
theorem not_alld {n : Nat} {f g : Nat → Rat} (h : ¬ ∀ i, i < n → f i = g i) : ∃ k, k < n ∧ f k ≠ g k ∧ ∀ i, i < k → f i = g i :=
  first_ne n (Classical.byContradiction fun h' => h fun i hi => Classical.byContradiction fun h2 => h' ⟨i, hi, h2⟩)
theorem k_rowsd {n : Nat} {f g : Nat → Rat} (hf : ∀ i, i < n → wt (f i) ≤ 1000000) (hg : ∀ i, i < n → wt (g i) ≤ 1000000) (hn : n ≤ 1000) : Has Try.prog 41 [.row false n (fun i => .q (f i)), .row false n (fun i => .q (g i))] (.b (alld n f g)) := by
  by_cases hall : ∀ i, i < n → f i = g i
  · rw [show alld n f g = true from decide_eq_true hall]
    exact k_rowsb (K := 1000000) (fun i hi => ⟨hf i hi⟩) (by decide) (by decide) hn hall
  rw [show alld n f g = false from decide_eq_false hall]
  obtain ⟨k0, hk0, hne, hlt⟩ := not_alld hall
  refine has_of Try.func41 (by kernel_rfl) rfl Try.ntmps41 Try.results41 rfl rfl rfl ?_
  refine run0 ?_
  refine awp_no rfl (decide_eq_false (fun h => h rfl)) ?_
  refine run0 ?_
  refine awp_loop (fun m s => ∃ k, k ≤ k0 ∧ m = n - k ∧ s = stl [(0, .row false n (fun i => .q (f i))), (1, .row false n (fun i => .q (g i))), (5, .i (k : Int))] []) n _ (imp_id ?_ ?_) ⟨0, Nat.zero_le _, rfl, rfl⟩ ?_
  · exact eA
  · exact hA
  · rintro m s ⟨k, hk, rfl, rfl⟩
    have h' : k < n := by omega
    have c := hs_same (p := f k) (q := g k) (Nat.le_trans (hf k h') (by decide)) (Nat.le_trans (hg k h') (by decide))
    refine run0 ?_
    refine awp_yes rfl (decide_eq_true (by omega)) ?_
    by_cases e : k = k0
    · subst e
      rw [decide_eq_false hne] at c
      repeat(first|refine run1 ?_|((with_reducible apply st_call);exact rfl;exact rfl;exact rfl;first|(exact c))|((with_reducible apply st_callg);exact rfl;exact rfl;(first|exact rfl|assumption);exact rfl;exact rfl;exact rfl;first|(exact c)))
      refine awp_yes rfl rfl ?_
      refine run0 ?_
      exact ⟨.inr rfl, _, Imp.refl _, .one (.tmp rfl)⟩
    · rw [decide_eq_true (hlt k (by omega))] at c
      repeat(first|refine run1 ?_|((with_reducible apply st_call);exact rfl;exact rfl;exact rfl;first|(exact c))|((with_reducible apply st_callg);exact rfl;exact rfl;(first|exact rfl|assumption);exact rfl;exact rfl;exact rfl;first|(exact c)))
      refine awp_no rfl rfl ?_
      refine run0 ?_
      refine q_loop ?_ (imp_id ?_ ?_) ⟨k + 1, ?_, rfl, rfl⟩
      · omega
      · exact eA
      · exact hA
      · omega
/-- Two systems of one shape. -/
structure Shp (g h : GD) : Prop where
  k : h.k = g.k
  n : h.n = g.n
  r : h.r = g.r
  la : h.la = g.la
  lb : h.lb = g.lb
  lg : h.lg = g.lg
  lh : h.lh = g.lh
  le : g.la ≤ 1000 ∧ g.lb ≤ 1000 ∧ g.lg ≤ 1000 ∧ g.lh ≤ 1000
  s : g.Sm
  s' : h.Sm
def sameB (g h : GD) : Bool := alld g.la g.A h.A && (alld g.lb g.B h.B && (alld g.lg g.G h.G && alld g.lh g.H h.H))
end Go.Proofs.Ytpclkgjhfhhddaa.AM
/- The document: two systems are alike, or not. -/
namespace Go.Proofs.Ytpclkgjhfhhddaa.AM
open Go Go.RowKit Go.Proofs.Ytpclkgjhfhhddaa.PN Go.Proofs.Ytpclkgjhfhhddaa.V
open Go.Proofs.Ytpclkgjhfhhddaa.LA (S S_succ S_zero S_congr)
set_option linter.unusedVariables false
set_option linter.unusedSimpArgs false
set_option maxRecDepth 8000
set_option maxHeartbeats 8000000
theorem r5_sameb {g h : GD} (t : Shp g h) : Has Try.prog 16 [g.v, h.v] (.b (sameB g h)) := by
  obtain ⟨k, n, r, la, lb, lg, lh, A, B, G, H⟩ := h
  obtain ⟨rfl, rfl, rfl, rfl, rfl, rfl, rfl, le, s, s'⟩ := t
  have gK : decide ((g.k : Int) = g.k) = true := decide_eq_true rfl
  have gK2 : (decide ((g.k : Int) = g.k) == true) = true := by rw [gK]; rfl
  have gN : decide ((g.n : Int) = g.n) = true := decide_eq_true rfl
  have gN2 : (decide ((g.n : Int) = g.n) == true) = true := by rw [gN]; rfl
  have gR : decide ((g.r : Int) = g.r) = true := decide_eq_true rfl
  have gR2 : (decide ((g.r : Int) = g.r) == true) = true := by rw [gR]; rfl
  have cA := k_rowsd (n := g.la) (f := g.A) (g := A) (fun i hi => Nat.le_trans (s.A i hi) (by decide)) (fun i hi => Nat.le_trans (s'.A i hi) (by decide)) le.1
  have cB := k_rowsd (n := g.lb) (f := g.B) (g := B) (fun i hi => Nat.le_trans (s.B i hi) (by decide)) (fun i hi => Nat.le_trans (s'.B i hi) (by decide)) le.2.1
  have cG := k_rowsd (n := g.lg) (f := g.G) (g := G) (fun i hi => Nat.le_trans (s.G i hi) (by decide)) (fun i hi => Nat.le_trans (s'.G i hi) (by decide)) le.2.2.1
  have cH := k_rowsd (n := g.lh) (f := g.H) (g := H) (fun i hi => Nat.le_trans (s.H i hi) (by decide)) (fun i hi => Nat.le_trans (s'.H i hi) (by decide)) le.2.2.2
  show Has Try.prog _ _ (.b (alld g.la g.A A && (alld g.lb g.B B && (alld g.lg g.G G && alld g.lh g.H H))))
  generalize alld g.la g.A A = bA at *
  generalize alld g.lb g.B B = bB at *
  generalize alld g.lg g.G G = bG at *
  generalize alld g.lh g.H H = bH at *
  refine has_of Try.func16 (by kernel_rfl) rfl Try.ntmps16 Try.results16 rfl rfl rfl ?_
  cases bA with
  | false =>
    repeat(first|refine run1p ?_|((with_reducible apply st_call);exact rfl;exact rfl;exact rfl;first|(exact cA)|(exact cB)|(exact cG)|(exact cH))|((with_reducible apply st_callg);exact rfl;exact rfl;(first|exact rfl|assumption);exact rfl;exact rfl;exact rfl;first|(exact cA)|(exact cB)|(exact cG)|(exact cH)))
    exact ⟨.inr rfl, _, Imp.refl _, .one (.tmp rfl)⟩
  | true =>
    cases bB with
    | false =>
      repeat(first|refine run1p ?_|((with_reducible apply st_call);exact rfl;exact rfl;exact rfl;first|(exact cA)|(exact cB)|(exact cG)|(exact cH))|((with_reducible apply st_callg);exact rfl;exact rfl;(first|exact rfl|assumption);exact rfl;exact rfl;exact rfl;first|(exact cA)|(exact cB)|(exact cG)|(exact cH)))
      exact ⟨.inr rfl, _, Imp.refl _, .one (.tmp rfl)⟩
    | true =>
      cases bG with
      | false =>
        repeat(first|refine run1p ?_|((with_reducible apply st_call);exact rfl;exact rfl;exact rfl;first|(exact cA)|(exact cB)|(exact cG)|(exact cH))|((with_reducible apply st_callg);exact rfl;exact rfl;(first|exact rfl|assumption);exact rfl;exact rfl;exact rfl;first|(exact cA)|(exact cB)|(exact cG)|(exact cH)))
        exact ⟨.inr rfl, _, Imp.refl _, .one (.tmp rfl)⟩
      | true =>
        cases bH with
        | false =>
          repeat(first|refine run1p ?_|((with_reducible apply st_call);exact rfl;exact rfl;exact rfl;first|(exact cA)|(exact cB)|(exact cG)|(exact cH))|((with_reducible apply st_callg);exact rfl;exact rfl;(first|exact rfl|assumption);exact rfl;exact rfl;exact rfl;first|(exact cA)|(exact cB)|(exact cG)|(exact cH)))
          exact ⟨.inr rfl, _, Imp.refl _, .one (.tmp rfl)⟩
        | true =>
          repeat(first|refine run1p ?_|((with_reducible apply st_call);exact rfl;exact rfl;exact rfl;first|(exact cA)|(exact cB)|(exact cG)|(exact cH))|((with_reducible apply st_callg);exact rfl;exact rfl;(first|exact rfl|assumption);exact rfl;exact rfl;exact rfl;first|(exact cA)|(exact cB)|(exact cG)|(exact cH)))
          exact ⟨.inr rfl, _, Imp.refl _, .one (.tmp rfl)⟩
theorem alld_self {n : Nat} {f : Nat → Rat} : alld n f f = true := decide_eq_true fun _ _ => rfl
theorem sameB_self {g : GD} : sameB g g = true := by unfold sameB; rw [alld_self, alld_self, alld_self, alld_self]; rfl
theorem shp_self {g : GD} (h : g.Sm) (le : g.la ≤ 1000 ∧ g.lb ≤ 1000 ∧ g.lg ≤ 1000 ∧ g.lh ≤ 1000) : Shp g g := ⟨rfl, rfl, rfl, rfl, rfl, rfl, rfl, le, h, h⟩
/-- One number turned. -/
def gX (a : GD) (p : Bool) (w : Nat) : GD := ⟨a.k, a.n, a.r, a.la, a.lb, a.lg, a.lh, fun i => if p = true ∧ i = w then 777 else a.A i, a.B, fun i => if p = false ∧ i = w then 777 else a.G i, a.H⟩
end Go.Proofs.Ytpclkgjhfhhddaa.AM

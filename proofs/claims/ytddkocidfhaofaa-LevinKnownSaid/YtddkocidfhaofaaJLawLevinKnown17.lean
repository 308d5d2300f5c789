/- Joined texts, 17: MkA MkB MkC MkE GenF CkA TxB AmNl QuZ LvA LvB LvC. -/
import Derived.Test.YtddkocidfhaofaaJLawLevinKnown16
import Derived.Test.YtddkocidfhaofaaJLawLevinKnown13
import Derived.Test.YtddkocidfhaofaaJLawLevinKnown4
import Derived.Test.YtddkocidfhaofaaJLawLevinKnown0
import Derived.Test.YtddkocidfhaofaaJLawLevinKnown15
import Derived.Test.YtddkocidfhaofaaJLawLevinKnown14
import Derived.Test.YtddkocidfhaofaaJLawLevinKnown12
set_option linter.unusedVariables false
set_option linter.unusedSimpArgs false
/- Systems that are drawn: counts, the numbers' places. -/
namespace Go.Proofs.Ytddkocidfhaofaa.AM
open Go Go.RowKit Go.Proofs.Ytddkocidfhaofaa.PN Go.Proofs.Ytddkocidfhaofaa.V
open Go.Proofs.Ytddkocidfhaofaa.LA (S S_succ S_zero S_congr)
set_option linter.unusedVariables false
set_option linter.unusedSimpArgs false
set_option maxRecDepth 8000
set_option maxHeartbeats 8000000
/-- How many numbers a system has in its rows. -/
def cnA (k n : Nat) : Nat := match k with | 1 | 2 => 2 * n - 1 | 6 => 0 | _ => n
def cnB (k n : Nat) : Nat := match k with | 5 | 7 => n | _ => 0
def cnH (k n r : Nat) : Nat := match k with | 6 | 7 => n * r | _ => 0
/-- A system of which only three numbers are known. -/
def hdf (k n r : Nat) (i : Nat) : AV := [AV.i k, .i n, .i r, .v (.slice none 0 0), .v (.slice none 0 0), .v (.slice none 0 0), .v (.slice none 0 0)].getD i (.v undef)
end Go.Proofs.Ytddkocidfhaofaa.AM
/- Systems that are drawn: walked. -/
namespace Go.Proofs.Ytddkocidfhaofaa.AM
open Go Go.RowKit Go.Proofs.Ytddkocidfhaofaa.PN Go.Proofs.Ytddkocidfhaofaa.V
open Go.Proofs.Ytddkocidfhaofaa.LA (S S_succ S_zero S_congr)
set_option linter.unusedVariables false
set_option linter.unusedSimpArgs false
set_option maxRecDepth 8000
set_option maxHeartbeats 8000000
/-- A number of the second row behind r looks. -/
def bpart (A : Nat → Rat) (c : Nat) (x : Rat) : Nat → Rat
  | 0 => x
  | r + 1 => if A r = bpart A c x r then bpart A c x r + ((100 + c : Int) : Rat) else bpart A c x r
/-- The numbers when c columns are done and r rows of the next. -/
def mkL (zs : List Int) (a b c r i : Nat) : Rat :=
  if i < a then rowq zs i else if i < a + b then (if i - a < c then bpart (rowq zs) (i - a) (rowq zs i) a else if i - a = c then bpart (rowq zs) c (rowq zs i) r else rowq zs i) else rowq zs i
/-- Which kind, how large, of which rank. -/
def mkK (kind : Int) : Nat := (1 + wthn kind 7).toNat
def mkN (n most : Int) : Nat := (1 + wthn n most).toNat
def mkR (k : Nat) (n : Int) : Nat := if likeB k then (1 + wthn (n.tdiv 8) 2).toNat else 0
def gmk (k m r : Nat) (zs : List Int) : GD :=
  ⟨k, m, r, cnA k m, cnB k m, cnH k m r, cnH k m r, fun i => mkL zs (cnA k m) (cnB k m) (cnB k m) 0 (0 + i), fun i => mkL zs (cnA k m) (cnB k m) (cnB k m) 0 (cnA k m + i), fun i => mkL zs (cnA k m) (cnB k m) (cnB k m) 0 (cnA k m + cnB k m + i), fun i => mkL zs (cnA k m) (cnB k m) (cnB k m) 0 (cnA k m + cnB k m + cnH k m r + i)⟩
def mkg (kind n : Int) (zs : List Int) (most : Int) : GD := gmk (mkK kind) (mkN n most) (mkR (mkK kind) n) zs
/-- .. as what a call has made. -/
def GD.ft (g : GD) (i : Nat) : AV := [AV.i g.k, .i g.n, .i g.r, .row true g.la (fun i => .q (g.A i)), .row true g.lb (fun i => .q (g.B i)), .row true g.lg (fun i => .q (g.G i)), .row true g.lh (fun i => .q (g.H i))].getD i (.v undef)
/-- A system whose rows are parts of one own slice. -/
def slf (k n r a b h : Nat) (i : Nat) : AV := [AV.i k, .i n, .i r, .sl 63 0 0 a, .sl 63 0 a b, .sl 63 0 (a + b) h, .sl 63 0 (a + b + h) h].getD i (.v undef)
end Go.Proofs.Ytddkocidfhaofaa.AM
/- Systems that are drawn: they are right. -/
namespace Go.Proofs.Ytddkocidfhaofaa.AM
open Go Go.RowKit Go.Proofs.Ytddkocidfhaofaa.PN Go.Proofs.Ytddkocidfhaofaa.V
open Go.Proofs.Ytddkocidfhaofaa.LA (S S_succ S_zero S_congr)
set_option linter.unusedVariables false
set_option linter.unusedSimpArgs false
set_option maxRecDepth 8000
set_option maxHeartbeats 8000000
theorem far {p x y : Rat} (hp : p ≤ 20) (hx : -20 ≤ x) (hy : 100 ≤ y) : p ≠ x + y := by
  intro e
  have h1 : -20 + y ≤ x + y := Rat.add_le_add_right.2 hx
  have h2 : -20 + 100 ≤ -20 + y := Rat.add_le_add_left.2 hy
  have h3 : (-20 + 100 : Rat) ≤ 20 := Rat.le_trans h2 (Rat.le_trans h1 (by rw [← e]; exact hp))
  exact absurd h3 (by decide +kernel)
end Go.Proofs.Ytddkocidfhaofaa.AM
/- Laws of systems: entries' weights; matrices of drawn systems. -/
namespace Go.Proofs.Ytddkocidfhaofaa.AM
open Go Go.RowKit Go.Proofs.Ytddkocidfhaofaa.PN Go.Proofs.Ytddkocidfhaofaa.V
open Go.Proofs.Ytddkocidfhaofaa.LA (S S_succ S_zero S_congr)
set_option linter.unusedVariables false
set_option linter.unusedSimpArgs false
set_option maxRecDepth 8000
set_option maxHeartbeats 8000000
theorem le7 {σ : Ren} {T : TypeId} {f f' : Nat → AV} (h0 : Le σ (f 0) (f' 0)) (h1 : Le σ (f 1) (f' 1)) (h2 : Le σ (f 2) (f' 2)) (h3 : Le σ (f 3) (f' 3)) (h4 : Le σ (f 4) (f' 4)) (h5 : Le σ (f 5) (f' 5)) (h6 : Le σ (f 6) (f' 6)) : BLe σ (.ones T 7 f) (.ones T 7 f') :=
  bleo rfl fun i hi => by
    match i, hi with
    | 0, _ => exact h0
    | 1, _ => exact h1
    | 2, _ => exact h2
    | 3, _ => exact h3
    | 4, _ => exact h4
    | 5, _ => exact h5
    | 6, _ => exact h6
end Go.Proofs.Ytddkocidfhaofaa.AM
/- The document's systems: entries. -/
namespace Go.Proofs.Ytddkocidfhaofaa.AM
open Go Go.RowKit Go.Proofs.Ytddkocidfhaofaa.PN Go.Proofs.Ytddkocidfhaofaa.V
open Go.Proofs.Ytddkocidfhaofaa.LA (S S_succ S_zero S_congr)
set_option linter.unusedVariables false
set_option linter.unusedSimpArgs false
set_option maxRecDepth 8000
set_option maxHeartbeats 8000000
end Go.Proofs.Ytddkocidfhaofaa.AM
/- The document's check of a system. -/
namespace Go.Proofs.Ytddkocidfhaofaa.V
open Go Go.RowKit Go.Proofs.Ytddkocidfhaofaa.PN
set_option linter.unusedVariables false
set_option linter.unusedSimpArgs false
end Go.Proofs.Ytddkocidfhaofaa.V
namespace Go.Proofs.Ytddkocidfhaofaa.AM
open Go Go.RowKit Go.Proofs.Ytddkocidfhaofaa.PN Go.Proofs.Ytddkocidfhaofaa.V
open Go.Proofs.Ytddkocidfhaofaa.LA (S S_succ S_zero S_congr)
set_option linter.unusedVariables false
set_option linter.unusedSimpArgs false
set_option maxRecDepth 8000
set_option maxHeartbeats 8000000
theorem hr_cmp {a b : Nat} (ha : size a ≤ 4398046511103) (hb : size b ≤ 4398046511103) : Has Try.prog 24 [.nat a, .nat b] (.i (cmpI a b)) := by
  refine ⟨by kernel_rfl, trivial, fun w S β vs hv => ?_⟩
  obtain ⟨v, u, rfl, h1, h2⟩ := rvs2 hv
  haveI : NatAt w v a := ⟨h1⟩
  haveI : NatAt w u b := ⟨h2⟩
  refine (r_cmp_v ha hb).mono ?_
  rintro e w' ⟨rfl, h2⟩
  exact ⟨_, rfl, h2, rfl⟩
theorem h2_one : Has Try.prog 30 [] (.nat 1) := by
  refine ⟨by kernel_rfl, trivial, fun w S β vs hv => ?_⟩
  have hv0 : vs = [] := by have := hv.1; exact List.eq_nil_of_length_eq_zero this.symm
  subst hv0
  refine (s_one w).mono ?_
  rintro e w' ⟨v, rfl, h1, h2⟩
  exact ⟨_, rfl, h2, h1.any⟩
end Go.Proofs.Ytddkocidfhaofaa.AM
/- Texts of small rational numbers. -/
namespace Go.Proofs.Ytddkocidfhaofaa.AM
open Go Go.RowKit Go.Proofs.Ytddkocidfhaofaa.PN Go.Proofs.Ytddkocidfhaofaa.V
set_option linter.unusedVariables false
set_option linter.unusedSimpArgs false
set_option maxRecDepth 8000
set_option maxHeartbeats 8000000
theorem hr_text0 : Has Try.prog 29 [.nat 0] (.v (.string ⟨#[48]⟩)) := by
  refine ⟨by kernel_rfl, trivial, fun w S β vs hv => ?_⟩
  obtain ⟨v, rfl, A, c, rfl, _, _⟩ := rvs1 hv
  refine (show Calls Try.prog 29 #[.slice A 0 c] w _ from (r_text0 A c)).mono ?_
  rintro e w' ⟨rfl, h2⟩
  exact ⟨_, rfl, h2, rfl⟩
theorem hr_text_of {n d : Nat} {b : UInt8} (hsz : size n = 1) (H : ∀ {w : World} (A : Option Addr) (c : Nat) (hc : 1 ≤ c) (ha : At w A n 1), Calls Try.prog 29 #[.slice A 1 c] w fun e w' => e = .returned (.string ⟨#[b]⟩) ∧ Kept w w') : Has Try.prog 29 [.nat n] (.v (.string ⟨#[b]⟩)) := by
  refine ⟨by kernel_rfl, trivial, fun w S β vs hv => ?_⟩
  obtain ⟨v, rfl, h1⟩ := rvs1 hv
  obtain ⟨A, c, rfl, hc, hat⟩ := Dg.at (h1 : Dg w _ v n (size n))
  rw [hsz] at hc hat ⊢
  refine (H A c hc hat).mono ?_
  rintro e w' ⟨rfl, h2⟩
  exact ⟨_, rfl, h2, rfl⟩
theorem hr_text1 : Has Try.prog 29 [.nat 1] (.v (.string ⟨#[49]⟩)) := hr_text_of (d := 0) (by decide) r_text1
theorem hr_text2 : Has Try.prog 29 [.nat 2] (.v (.string ⟨#[50]⟩)) := hr_text_of (d := 0) (by decide) r_text2
theorem hr_text3 : Has Try.prog 29 [.nat 3] (.v (.string ⟨#[51]⟩)) := hr_text_of (d := 0) (by decide) r_text3
theorem hs_text_whole {p : Rat} {a : ByteArray} (h1 : Has Try.prog 29 [.nat (nm p)] (.v (.string a))) (hp : ng p = false) (hd : p.den = 1) : Has Try.prog 16 [.q p] (.v (.string a)) := by
  have c4 : Has Try.prog 24 [.nat p.den, .nat 1] (.i 0) := by rw [hd]; exact hr_cmp (a := 1) (b := 1) (by decide) (by decide)
  refine has_of Try.func16 (by kernel_rfl) rfl Try.ntmps16 Try.results16 rfl rfl rfl ?_
  repeat(first|refine run1p ?_|((with_reducible apply st_call);exact rfl;exact rfl;exact rfl;first|(exact h1))|((with_reducible apply st_callg);exact rfl;exact rfl;(first|exact rfl|assumption);exact rfl;exact rfl;exact rfl;first|(exact h1)))
  refine awp_no rfl hp ?_
  repeat(first|refine run1p ?_|((with_reducible apply st_call);exact rfl;exact rfl;exact rfl;first|(exact h2_one)|(exact c4))|((with_reducible apply st_callg);exact rfl;exact rfl;(first|exact rfl|assumption);exact rfl;exact rfl;exact rfl;first|(exact h2_one)|(exact c4)))
  refine awp_no rfl rfl ?_
  refine run0p ?_
  exact ⟨.inr rfl, _, Imp.refl _, .one (.tmp rfl)⟩
theorem hs_text_frac {p : Rat} {a b : ByteArray} (h1 : Has Try.prog 29 [.nat (nm p)] (.v (.string a))) (h2 : Has Try.prog 29 [.nat p.den] (.v (.string b))) (hp : ng p = false) (hd : p.den ≠ 1) (hs : size p.den ≤ 100) (ha : a.size ≤ 1000) (hb : b.size ≤ 1000) : Has Try.prog 16 [.q p] (.v (.string (a ++ ⟨#[47]⟩ ++ b))) := by
  have c4 := hr_cmp (a := p.den) (b := 1) (by omega) (by decide)
  have hc : decide (cmpI p.den 1 ≠ 0) = true := decide_eq_true fun h => hd (cmpI_zero.1 h)
  have hsz : (a ++ (⟨#[47]⟩ : ByteArray)).size ≤ 1001 := by rw [ByteArray.size_append]; have : (⟨#[47]⟩ : ByteArray).size = 1 := rfl; omega
  refine has_of Try.func16 (by kernel_rfl) rfl Try.ntmps16 Try.results16 rfl rfl rfl ?_
  repeat(first|refine run1p ?_|((with_reducible apply st_call);exact rfl;exact rfl;exact rfl;first|(exact h1))|((with_reducible apply st_callg);exact rfl;exact rfl;(first|exact rfl|assumption);exact rfl;exact rfl;exact rfl;first|(exact h1)))
  refine awp_no rfl hp ?_
  repeat(first|refine run1p ?_|((with_reducible apply st_call);exact rfl;exact rfl;exact rfl;first|(exact h2_one)|(exact c4))|((with_reducible apply st_callg);exact rfl;exact rfl;(first|exact rfl|assumption);exact rfl;exact rfl;exact rfl;first|(exact h2_one)|(exact c4)))
  refine awp_yes rfl hc ?_
  refine run0p ?_
  refine st_lok (ok_addstr rfl rfl rfl (by have : (⟨#[47]⟩ : ByteArray).size = 1 := rfl; omega)) ?_
  repeat(first|refine run1p ?_|((with_reducible apply st_call);exact rfl;exact rfl;exact rfl;first|(exact h2))|((with_reducible apply st_callg);exact rfl;exact rfl;(first|exact rfl|assumption);exact rfl;exact rfl;exact rfl;first|(exact h2)))
  refine st_lok (ok_addstr rfl rfl rfl (by omega)) ?_
  refine run0p ?_
  exact ⟨.inr rfl, _, Imp.refl _, .one (.tmp rfl)⟩
end Go.Proofs.Ytddkocidfhaofaa.AM
/- A slice beside nil. -/
namespace Go.Proofs.Ytddkocidfhaofaa.AM
open Go Go.RowKit Go.Proofs.Ytddkocidfhaofaa.PN Go.Proofs.Ytddkocidfhaofaa.V
set_option linter.unusedVariables false
set_option linter.unusedSimpArgs false
/-- Whether a slice is none. -/
def nilOf : AV → Option (Bool × Prop)
  | .mat _ n _ _ => some (false, 0 < n)
  | .row _ n _ => some (false, 0 < n)
  | .seq _ l => some (false, 0 < l.length)
  | .v (.slice none 0 0) => some (true, True)
  | _ => none
theorem nilOf_ok {S : Nat → Prop} {B : Nat} {β : Nat → Nat → Value} {w : World} {x : AV} {v : Value} {b : Bool} {c : Prop} (h : RV S B β w x v) (hn : nilOf x = some (b, c)) (hc : c) : ∃ A n k, v = .slice A n k ∧ A.isNone = b := by
  unfold nilOf at hn
  split at hn
  · cases hn
    obtain ⟨A, k, e, _, _, hx⟩ := h
    obtain ⟨b, off, cs, x, hA, _⟩ := hx 0 hc
    exact ⟨A, _, k, e, by rw [hA]; rfl⟩
  · cases hn
    obtain ⟨A, k, e, _, _, hx⟩ := h
    obtain ⟨b, off, hA, _⟩ := hx 0 hc
    exact ⟨A, _, k, e, by rw [hA]; rfl⟩
  · cases hn
    obtain ⟨A, k, e, _, _, hx⟩ := h
    obtain ⟨p, hA, _⟩ := hx 0 hc
    exact ⟨A, _, k, e, by rw [hA]; rfl⟩
  · cases hn; exact ⟨none, 0, 0, h, rfl⟩
  · cases hn
theorem run_eq_slice {T E : TypeId} (h : Try.prog.underlying T = some (.slice E)) (A : Option Addr) (n k : Nat) (w : World) : (Op.equal T (.slice A n k) (.slice none 0 0)).run Try.prog w = .ok A.isNone w := by
  have key : ∀ d, (Op.equalIn (d + 1) T (.slice A n k) (.slice none 0 0)).run Try.prog w = .ok A.isNone w := by
    intro d
    cases A <;> simp [Op.equalIn, run_underlying h]
  exact key 9999
theorem ok_eqnil {o : Oper} {s : St} {x : Operand} {T T' : TypeId} {y : AV} {b : Bool} {c : Prop} (ho : o.op = .binOp .eql T x (.const (.slice none 0 0)) T') (hT : memN T sliceT = true) (hx : avo s x = some y) (hn : nilOf y = some (b, c)) (hc : c) : LOK Try.prog o s ⟨some (.v (.bool b)), [], []⟩ := by
  refine lok_val fun s2 hl W N β w ac hs => ⟨.bool b, ?_, fun z hz => by cases hz; exact ⟨trivial, rfl⟩⟩
  obtain ⟨A, n, k, e, hb⟩ := nilOf_ok (hs.opd (x := x) (by rw [hl.avo (by rw [ho]; simp [Op.operands])]; exact hx)).2 hn hc
  obtain ⟨E, hE⟩ := slice_ok hT
  have h2 : ac.eval (.const (.slice none 0 0)) = .slice none 0 0 := rfl
  unfold execOp; rw [ho]; simp only []; rw [e, h2]
  have hg : (eqGuard .eql T x (.const (.slice none 0 0)) (.slice A n k) (.slice none 0 0)).run Try.prog w = .ok () w := by simp [eqGuard]
  have hb2 : (binOp .eql T (.slice A n k) (.slice none 0 0)).run Try.prog w = .ok (.bool b) w := by
    simp only [binOp, Sem.run_bind, run_eq_slice hE]
    rw [← hb]; rfl
  simp only [Sem.run_bind, hg, Result.andThen_ok, hb2]; rfl
section
variable {ops : Array Oper} {l : List Oper} {s : St} {acc : List Fp} {K : St → List Fp → Prop} {d : Option Tmp} {ty : TypeId} {ps : String} {aft : Array Edge}
theorem st_eqnil {x : Operand} {T T' : TypeId} {y : AV} {b : Bool} {c : Prop} (hx : avo s x = some y) (hn : nilOf y = some (b, c)) (hT : memN T sliceT = true) (hc : c) (k : AOps Try.prog ops l (nxt s d (some (.v (.bool b))) []) (([], []) :: acc) K) : AOps Try.prog ops (⟨d, .binOp .eql T x (.const (.slice none 0 0)) T', ty, ps, aft, none⟩ :: l) s acc K :=
  st_lok (ok_eqnil rfl hT hx hn hc) k
end
end Go.Proofs.Ytddkocidfhaofaa.AM
/- A quotient by nought is refused. -/
namespace Go.Proofs.Ytddkocidfhaofaa.AM
open Go Go.RowKit Go.Proofs.Ytddkocidfhaofaa.PN Go.Proofs.Ytddkocidfhaofaa.V
set_option linter.unusedVariables false
set_option linter.unusedSimpArgs false
set_option maxRecDepth 4000
theorem rvs3 {S : Nat → Prop} {B : Nat} {β : Nat → Nat → Value} {w : World} {x y z : AV} {vs : List Value} (h : RVs S B β w [x, y, z] vs) : ∃ v u t, vs = [v, u, t] ∧ RV S B β w x v ∧ RV S B β w y u ∧ RV S B β w z t := by
  match vs, h with
  | [v, u, t], h => exact ⟨v, u, t, rfl, h.2 0 x v rfl rfl, h.2 1 y u rfl rfl, h.2 2 z t rfl rfl⟩
  | [], h => exact absurd h.1 (by simp)
  | [_], h => exact absurd h.1 (by simp)
  | [_, _], h => exact absurd h.1 (by simp)
  | _ :: _ :: _ :: _ :: _, h => exact absurd h.1 (by simp)
theorem h_nmulz {a b : Nat} (hn : size a ≤ 4398046511103) (hm : size b ≤ 4398046511103) : Has Try.prog 57 [.nat a, .nat b] (.nat (a * b)) := by
  refine ⟨by kernel_rfl, trivial, fun w S β vs hv => ?_⟩
  obtain ⟨v, u, rfl, h1, h2⟩ := rvs2 hv
  have i1 : NatAt w v a := ⟨h1⟩
  have i2 : NatAt w u b := ⟨h2⟩
  refine (mul_v hn hm).mono ?_
  rintro e w' ⟨v', rfl, h1, h2⟩
  exact ⟨_, rfl, h2, Dg.mono h1 (fun _ _ _ => trivial)⟩
theorem h_make0 {neg : Bool} {n : Nat} : Has Try.prog 56 [.v (.bool neg), .nat n, .nat 0] (.tup (.ra (.raw false [] [])) (.v (.int .i64 5))) := by
  refine ⟨by kernel_rfl, ⟨trivial, trivial⟩, fun w S β vs hv => ?_⟩
  obtain ⟨v, u, t, rfl, h1, h2, h3⟩ := rvs3 hv
  have h1 : v = .bool neg := h1
  subst h1
  refine (make_no neg u t n w ⟨h2⟩ ⟨h3⟩).mono ?_
  rintro e w' ⟨rfl, hk⟩
  exact ⟨_, rfl, hk, _, _, rfl, ⟨_, _, _, rfl, rfl, dg_nil w', dg_nil w'⟩, rfl⟩
theorem h_quo0 {p : Rat} (hs : wt p ≤ 1000000000000) : Has Try.prog 43 [.q p, .q 0] (.tup (.ra (.raw false [] [])) (.i 5)) := by
  have b1 := wt_num p; have b2 := wt_den p
  have c1 := h_nmulz (a := nm p) (b := (0 : Rat).den) (by omega) (by decide)
  have c2 := h_nmulz (a := p.den) (b := nm (0 : Rat)) (by omega) (by decide)
  rw [show p.den * nm (0 : Rat) = 0 from Nat.mul_zero _] at c2
  refine has_of Try.func43 (by kernel_rfl) rfl Try.ntmps43 Try.results43 rfl rfl rfl ?_
  repeat(first|refine run1 ?_|((with_reducible apply st_call);exact rfl;exact rfl;exact rfl;first|(exact c1)|(exact c2)|(exact h_make0))|((with_reducible apply st_callg);exact rfl;exact rfl;(first|exact rfl|assumption);exact rfl;exact rfl;exact rfl;first|(exact c1)|(exact c2)|(exact h_make0)))
  exact ⟨.inr rfl, _, Imp.refl _, .two (.rat rfl rfl (by decide) rfl (by decide) rfl) (.tmp rfl)⟩
end Go.Proofs.Ytddkocidfhaofaa.AM
/- Package levin: its lists. -/
namespace Go.Proofs.Ytddkocidfhaofaa.AM
open Go Go.RowKit Go.Proofs.Ytddkocidfhaofaa.PN Go.Proofs.Ytddkocidfhaofaa.V
open Go.Proofs.Ytddkocidfhaofaa.LA (S S_succ S_zero S_congr longer later)
set_option linter.unusedVariables false
set_option linter.unusedSimpArgs false
set_option maxRecDepth 8000
set_option maxHeartbeats 8000000
/-- An own row, as family 63. -/
theorem own_out {s : St} (t : Nat) {n : Nat} {v f : Nat → RA} {F : Nat → Blk} {a : Nat} (h5 : s.env t = some (.own a 0)) (ha : s.heap a = some (1, F)) (hF : F 0 = .rats n f) (hf : ∀ i, i < n → f i = v i) (h60 : s.used 60 = false) : Imp s (stl [(t, .own 63 0)] [(63, (1, fun _ => .rats n v))]) := by
  refine imp_stl (h := [(63, (1, fun _ => .rats n v))]) (s1 63 a) (fun h => by rw [h60] at h; cases h) (fun g r g' r' h1 h2 => s1_inj 63 a g r g' r' h1 h2) ⟨⟨_, h5, Le.own (by unfold s1; rw [if_pos rfl]), rfl⟩, True.intro⟩ ⟨fun r hr => ?_, trivial⟩ (by rw [h60]; rfl)
  obtain rfl : r = 0 := by omega
  have e1 : s1 63 a 63 0 = (a, 0) := by unfold s1; rw [if_pos rfl]
  rw [e1]
  refine ⟨1, F, ha, Nat.zero_lt_one, ?_, trivial⟩
  show BLe _ (F 0) _
  rw [hF]; exact blen rfl hf
theorem lv_zero : Has Try.prog 58 [] (.q 0) := by
  refine Has.imp (r := .ra (.raw false [] [1])) ?_ rfl (fun S B β w v => rv_zero)
  refine has_of Try.func58 (by kernel_rfl) rfl Try.ntmps58 Try.results58 rfl rfl rfl ?_
  refine run0 ?_
  refine ⟨.inr rfl, _, Imp.refl _, ?_⟩
  exact .one (.rat rfl rfl (by decide) rfl (by decide) rfl)
theorem lv_one : Has Try.prog 32 [] (.q 1) := by
  refine Has.imp (r := .ra (.raw false [1] [1])) ?_ rfl (fun S B β w v => rv_one)
  refine has_of Try.func32 (by kernel_rfl) rfl Try.ntmps32 Try.results32 rfl rfl rfl ?_
  refine run0 ?_
  refine ⟨.inr rfl, _, Imp.refl _, ?_⟩
  exact .one (.rat rfl rfl (by decide) rfl (by decide) rfl)
theorem lv_dot {n m a K : Nat} {f g : Nat → Rat} (hf : ∀ i, i < m → wt (f (a + i)) ≤ K) (hg : ∀ i, i < m → wt (g i) ≤ K) (hK : K ≤ 1000000000) (ha : a + m ≤ n) (hn : n ≤ 8) : Has Try.prog 44 [.row false n (fun i => .q (f i)), .i a, .row false m (fun i => .q (g i))] (.q (S m fun i => f (a + i) * g i)) := by
  refine has_of Try.func44 (by kernel_rfl) rfl Try.ntmps44 Try.results44 rfl rfl rfl ?_
  repeat(first|refine run1 ?_|((with_reducible apply st_call);exact rfl;exact rfl;exact rfl;first|(exact lv_zero))|((with_reducible apply st_callg);exact rfl;exact rfl;(first|exact rfl|assumption);exact rfl;exact rfl;exact rfl;first|(exact lv_zero)))
  refine awp_loop (fun m' s => ∃ k, k ≤ m ∧ m' = m - k ∧ s = stl [(0, .row false n (fun i => .q (f i))), (1, .i (a : Int)), (6, .rptr 6 0 0), (7, .rptr 7 0 0), (11, .row false m (fun i => .q (g i))), (12, .i m), (13, .i (k : Int))] [(6, (1, fun _ => .rats 1 (fun _ => ra0))), (7, (1, fun _ => .rats 1 (fun _ => .q (S k fun i => f (a + i) * g i))))]) m _ (imp_id ?_ ?_) ⟨0, Nat.zero_le _, rfl, rfl⟩ ?_
  · exact eA
  · exact hA
  rintro m' s ⟨k, hk, rfl, rfl⟩
  refine run0 ?_
  refine awp_if rfl (fun h => ?_) (fun h => ?_)
  · have h : k < m := by omega
    have w1 := hf k h; have w2 := hg k h; have w3 := wt_mul (f (a + k)) (g k)
    have w4 : wt (S k fun i => f (a + i) * g i) ≤ k * (2 * K + 1) + 1 := wt_sum (K := 2 * K) fun u hu => by
      have h1 := wt_mul (f (a + u)) (g u); have h2 := hf u (by omega); have h3 := hg u (by omega)
      omega
    have w5 : k * (2 * K + 1) ≤ 8 * (2 * K + 1) := Nat.mul_le_mul_right _ (by omega)
    have e1 : ((a : Int) + (k : Int)).toNat = a + k := by omega
    refine run0 ?_
    rw [e1]
    repeat(first|refine run1 ?_|((with_reducible apply st_call);exact rfl;exact rfl;exact rfl;first|(exact h_mul (p := f (a + k)) (q := g k) (by omega) (by omega))|(exact h_add (p := S k fun i => f (a + i) * g i) (q := f (a + k) * g k) (by omega) (by omega)))|((with_reducible apply st_callg);exact rfl;exact rfl;(first|exact rfl|assumption);exact rfl;exact rfl;exact rfl;first|(exact h_mul (p := f (a + k)) (q := g k) (by omega) (by omega))|(exact h_add (p := S k fun i => f (a + i) * g i) (q := f (a + k) * g k) (by omega) (by omega))))
    refine q_loop ?_ (imp_id ?_ ?_) ⟨k + 1, ?_, rfl, rfl⟩
    · omega
    · exact eA
    · exact hA
    · omega
  · obtain rfl : k = m := by omega
    refine run0 ?_
    refine ⟨.inr rfl, _, Imp.refl _, ?_⟩
    exact .one (.rat rfl rfl (by decide) rfl (by decide) rfl)
theorem lv_scaled {n : Nat} {v : Nat → Rat} {t : Rat} {K : Nat} (hv : ∀ i, i < n → wt (v i) ≤ K) (ht : wt t ≤ K) (hK : K ≤ 100000000000) (hn : n ≤ 8) : Has Try.prog 31 [.row false n (fun i => .q (v i)), .q t] (.row true n fun i => .q (v i * t)) := by
  refine has_of Try.func31 (by kernel_rfl) rfl Try.ntmps31 Try.results31 rfl rfl rfl ?_
  refine run0 ?_
  refine awp_loop (fun m' s => ∃ k, k ≤ n ∧ m' = n - k ∧ s = stl [(3, .rptr 3 0 0), (5, .own 10 0), (11, .row false n (fun i => .q (v i))), (12, .i n), (13, .i (k : Int))] [(3, (1, fun _ => .rats 1 (fun _ => .q t))), (10, (1, fun _ => .rats n (grow (fun i => .q (v i * t)) ra0 k)))]) n _ (imp_id ?_ ?_) ⟨0, Nat.zero_le _, rfl, rfl⟩ ?_
  · exact eA
  · exact allh rfl (by decide) (ble1 rfl) True.intro (allh rfl (by decide) (blen rfl fun i hi => rfl) True.intro True.intro)
  rintro m' s ⟨k, hk, rfl, rfl⟩
  refine run0 ?_
  refine awp_if rfl (fun h => ?_) (fun h => ?_)
  · have h : k < n := by omega
    have w1 := hv k h
    repeat(first|refine run1 ?_|((with_reducible apply st_call);exact rfl;exact rfl;exact rfl;first|(exact h_mul (p := v k) (q := t) (by omega) (by omega)))|((with_reducible apply st_callg);exact rfl;exact rfl;(first|exact rfl|assumption);exact rfl;exact rfl;exact rfl;first|(exact h_mul (p := v k) (q := t) (by omega) (by omega))))
    refine q_loop ?_ (imp_id ?_ ?_) ⟨k + 1, ?_, rfl, rfl⟩
    · omega
    · exact eA
    · exact allh rfl (by decide) (ble1 rfl) True.intro (allh rfl (by decide) (blen rfl fun i hi => grow_step _ _ k i) True.intro True.intro)
    · omega
  · obtain rfl : k = n := by omega
    refine run0 ?_
    exact ⟨.inr rfl, _, imp_rowv 4 (fun i => .q (v i * t)) rfl rfl rfl (fun i hi => grow_full _ _ hi), .one (.tmp rfl)⟩
theorem lv_less {n m : Nat} {v w : Nat → Rat} {t : Rat} {K : Nat} (hv : ∀ i, i < n → wt (v i) ≤ K) (hw : ∀ i, i < n → wt (w i) ≤ K) (ht : wt t ≤ K) (hK : K ≤ 100000000000) (hm : n ≤ m) (hn : n ≤ 8) : Has Try.prog 49 [.row false n (fun i => .q (v i)), .row false m (fun i => .q (w i)), .q t] (.row true n fun i => .q (v i - t * w i)) := by
  refine has_of Try.func49 (by kernel_rfl) rfl Try.ntmps49 Try.results49 rfl rfl rfl ?_
  refine run0 ?_
  refine awp_loop (fun m' s => ∃ k, k ≤ n ∧ m' = n - k ∧ s = stl [(0, .row false n (fun i => .q (v i))), (1, .row false m (fun i => .q (w i))), (5, .rptr 5 0 0), (7, .own 11 0), (13, .i n), (14, .i (k : Int))] [(5, (1, fun _ => .rats 1 (fun _ => .q t))), (11, (1, fun _ => .rats n (grow (fun i => .q (v i - t * w i)) ra0 k)))]) n _ (imp_id ?_ ?_) ⟨0, Nat.zero_le _, rfl, rfl⟩ ?_
  · exact eA
  · exact allh rfl (by decide) (ble1 rfl) True.intro (allh rfl (by decide) (blen rfl fun i hi => rfl) True.intro True.intro)
  rintro m' s ⟨k, hk, rfl, rfl⟩
  refine run0 ?_
  refine awp_if rfl (fun h => ?_) (fun h => ?_)
  · have h : k < n := by omega
    have w1 := hv k h; have w2 := hw k h; have w3 := wt_mul t (w k)
    repeat(first|refine run1 ?_|((with_reducible apply st_call);exact rfl;exact rfl;exact rfl;first|(exact h_mul (p := t) (q := w k) (by omega) (by omega))|(exact h_sub (p := v k) (q := t * w k) (by omega) (by omega)))|((with_reducible apply st_callg);exact rfl;exact rfl;(first|exact rfl|assumption);exact rfl;exact rfl;exact rfl;first|(exact h_mul (p := t) (q := w k) (by omega) (by omega))|(exact h_sub (p := v k) (q := t * w k) (by omega) (by omega))))
    refine q_loop ?_ (imp_id ?_ ?_) ⟨k + 1, ?_, rfl, rfl⟩
    · omega
    · exact eA
    · exact allh rfl (by decide) (ble1 rfl) True.intro (allh rfl (by decide) (blen rfl fun i hi => grow_step _ _ k i) True.intro True.intro)
    · omega
  · obtain rfl : k = n := by omega
    refine run0 ?_
    exact ⟨.inr rfl, _, imp_rowv 6 (fun i => .q (v i - t * w i)) rfl rfl rfl (fun i hi => grow_full _ _ hi), .one (.tmp rfl)⟩
theorem lv_lesso {n m : Nat} {v w : Nat → Rat} {t : Rat} {K : Nat} (hv : ∀ i, i < n → wt (v i) ≤ K) (hw : ∀ i, i < n → wt (w i) ≤ K) (ht : wt t ≤ K) (hK : K ≤ 100000000000) (hm : n ≤ m) (hn : n ≤ 8) : HasH Try.prog 49 [] [.row false n (fun i => .q (v i)), .row false m (fun i => .q (w i)), .q t] (.own 63 0) [(63, (1, fun _ => .rats n fun i => .q (v i - t * w i)))] := by
  refine hasH_of Try.func49 (by kernel_rfl) rfl Try.ntmps49 Try.results49 rfl rfl rfl ?_
  refine run0 ?_
  refine awp_loop (fun m' s => ∃ k, k ≤ n ∧ m' = n - k ∧ s = stl [(0, .row false n (fun i => .q (v i))), (1, .row false m (fun i => .q (w i))), (5, .rptr 5 0 0), (7, .own 11 0), (13, .i n), (14, .i (k : Int))] [(5, (1, fun _ => .rats 1 (fun _ => .q t))), (11, (1, fun _ => .rats n (grow (fun i => .q (v i - t * w i)) ra0 k)))]) n _ (imp_id ?_ ?_) ⟨0, Nat.zero_le _, rfl, rfl⟩ ?_
  · exact eA
  · exact allh rfl (by decide) (ble1 rfl) True.intro (allh rfl (by decide) (blen rfl fun i hi => rfl) True.intro True.intro)
  rintro m' s ⟨k, hk, rfl, rfl⟩
  refine run0 ?_
  refine awp_if rfl (fun h => ?_) (fun h => ?_)
  · have h : k < n := by omega
    have w1 := hv k h; have w2 := hw k h; have w3 := wt_mul t (w k)
    repeat(first|refine run1 ?_|((with_reducible apply st_call);exact rfl;exact rfl;exact rfl;first|(exact h_mul (p := t) (q := w k) (by omega) (by omega))|(exact h_sub (p := v k) (q := t * w k) (by omega) (by omega)))|((with_reducible apply st_callg);exact rfl;exact rfl;(first|exact rfl|assumption);exact rfl;exact rfl;exact rfl;first|(exact h_mul (p := t) (q := w k) (by omega) (by omega))|(exact h_sub (p := v k) (q := t * w k) (by omega) (by omega))))
    refine q_loop ?_ (imp_id ?_ ?_) ⟨k + 1, ?_, rfl, rfl⟩
    · omega
    · exact eA
    · exact allh rfl (by decide) (ble1 rfl) True.intro (allh rfl (by decide) (blen rfl fun i hi => grow_step _ _ k i) True.intro True.intro)
    · omega
  · obtain rfl : k = n := by omega
    refine run0 ?_
    exact ⟨.inr rfl, [(6, .own 63 0)], own_out 6 rfl rfl rfl (fun i hi => grow_full _ _ hi) rfl, .one (.tmp rfl)⟩
theorem lv_behind {n : Nat} {v : Nat → Rat} (hn : n ≤ 8) : Has Try.prog 45 [.row false n (fun i => .q (v i))] (.row true (n + 1) fun i => .q (longer n v i)) := by
  refine has_of Try.func45 (by kernel_rfl) rfl Try.ntmps45 Try.results45 rfl rfl rfl ?_
  refine run2 ?_
  refine run2 ?_
  refine run3 ?_
  refine st_ev rfl True.intro ?_
  refine st_ev rfl True.intro ?_
  refine st_ev rfl True.intro ?_
  refine st_lok (ok_slice_full rfl rfl rfl rfl) ?_
  repeat(first|refine run1 ?_|((with_reducible apply st_call);exact rfl;exact rfl;exact rfl;first|(exact lv_zero))|((with_reducible apply st_callg);exact rfl;exact rfl;(first|exact rfl|assumption);exact rfl;exact rfl;exact rfl;first|(exact lv_zero)))
  refine st_lok (ok_append_full (g := 12) (m := 1) rfl rfl rfl rfl rfl (by decide) (by decide) (by omega)) ?_
  refine run0 ?_
  refine ⟨.inr rfl, _, imp_rowv 2 (fun i => .q (longer n v i)) rfl rfl rfl (fun i hi => ?_), .one (.tmp rfl)⟩
  unfold glue longer
  by_cases h : i < n
  · rw [if_pos h, if_pos h]
  · rw [if_neg h, if_neg h, show i - n = 0 by omega]; rfl
theorem lv_ahead {n : Nat} {v : Nat → Rat} (hn : n ≤ 8) : Has Try.prog 46 [.row false n (fun i => .q (v i))] (.row true (n + 1) fun i => .q (later v i)) := by
  rw [Nat.add_comm n 1]
  refine has_of Try.func46 (by kernel_rfl) rfl Try.ntmps46 Try.results46 rfl rfl rfl ?_
  repeat(first|refine run1 ?_|((with_reducible apply st_call);exact rfl;exact rfl;exact rfl;first|(exact lv_zero))|((with_reducible apply st_callg);exact rfl;exact rfl;(first|exact rfl|assumption);exact rfl;exact rfl;exact rfl;first|(exact lv_zero)))
  refine ⟨.inr rfl, _, imp_rowv 2 (fun i => .q (later v i)) rfl rfl rfl (fun i hi => ?_), .one (.tmp rfl)⟩
  unfold glue later
  by_cases h : i < 1
  · rw [if_pos h, if_pos (by omega), show i = 0 by omega]; rfl
  · rw [if_neg h, if_neg (by omega)]
end Go.Proofs.Ytddkocidfhaofaa.AM
/- Package levin: one step. -/
namespace Go.Proofs.Ytddkocidfhaofaa.AM
open Go Go.RowKit Go.Proofs.Ytddkocidfhaofaa.PN Go.Proofs.Ytddkocidfhaofaa.V
open Go.Proofs.Ytddkocidfhaofaa.LA (S S_succ S_zero S_congr longer later)
set_option linter.unusedVariables false
set_option linter.unusedSimpArgs false
set_option maxRecDepth 8000
set_option maxHeartbeats 8000000
/-- What the leading part of k rows sends to a one ahead of noughts, and behind them. -/
def lvp (F : Nat → Nat → Rat) : Nat → (Nat → Rat) × (Nat → Rat)
  | 0 => (fun _ => 0, fun _ => 0)
  | k + 1 => if k = 0 then (fun _ => 1 / F 0 0, fun _ => 1 / F 0 0) else
    (fun i => (longer k (lvp F k).1 i - (S k fun j => F k j * (lvp F k).1 j) * later (lvp F k).2 i) * (1 / (1 - (S k fun j => F k j * (lvp F k).1 j) * S k fun j => F 0 (j + 1) * (lvp F k).2 j)),
     fun i => (later (lvp F k).2 i - (S k fun j => F 0 (j + 1) * (lvp F k).2 j) * longer k (lvp F k).1 i) * (1 / (1 - (S k fun j => F k j * (lvp F k).1 j) * S k fun j => F 0 (j + 1) * (lvp F k).2 j)))
def lvf (F : Nat → Nat → Rat) (k : Nat) : Nat → Rat := (lvp F k).1
def lvl (F : Nat → Nat → Rat) (k : Nat) : Nat → Rat := (lvp F k).2
def lvx (F : Nat → Nat → Rat) (k : Nat) : Rat := S k fun j => F k j * lvf F k j
def lvy (F : Nat → Nat → Rat) (k : Nat) : Rat := S k fun j => F 0 (j + 1) * lvl F k j
/-- By what the next step divides. -/
def lvd (F : Nat → Nat → Rat) (k : Nat) : Rat := if k = 0 then F 0 0 else 1 - lvx F k * lvy F k
theorem lvf_succ (F : Nat → Nat → Rat) {k : Nat} (h : k ≠ 0) (i : Nat) : lvf F (k + 1) i = (longer k (lvf F k) i - lvx F k * later (lvl F k) i) * (1 / lvd F k) := by
  unfold lvd; rw [if_neg h]
  show (lvp F (k + 1)).1 i = _
  unfold lvp; rw [if_neg h]; rfl
theorem lvl_succ (F : Nat → Nat → Rat) {k : Nat} (h : k ≠ 0) (i : Nat) : lvl F (k + 1) i = (later (lvl F k) i - lvy F k * longer k (lvf F k) i) * (1 / lvd F k) := by
  unfold lvd; rw [if_neg h]
  show (lvp F (k + 1)).2 i = _
  unfold lvp; rw [if_neg h]; rfl
/-- How long the numbers are. -/
def lvW : Nat → Nat
  | 0 => 1
  | k + 1 => if k = 0 then 5 else 2 * lvW k + 3 * (k * (4 + lvW k + 1) + 1) + 4
theorem lvW_le {k : Nat} (h : k ≤ 8) : lvW k ≤ 600000000 ∧ (k ≤ 7 → lvW k ≤ 30000000) := by
  have h : k = 0 ∨ k = 1 ∨ k = 2 ∨ k = 3 ∨ k = 4 ∨ k = 5 ∨ k = 6 ∨ k = 7 ∨ k = 8 := by omega
  rcases h with rfl | rfl | rfl | rfl | rfl | rfl | rfl | rfl | rfl <;> decide
theorem longer_wt {k W : Nat} {f : Nat → Rat} (h : ∀ i, i < k → wt (f i) ≤ W) (hW : 1 ≤ W) (i : Nat) : wt (longer k f i) ≤ W := by
  unfold longer
  split
  · exact h i (by assumption)
  · exact Nat.le_trans (show wt 0 ≤ 1 by decide) hW
theorem later_wt {k W : Nat} {f : Nat → Rat} (h : ∀ i, i < k → wt (f i) ≤ W) (hW : 1 ≤ W) {i : Nat} (hi : i ≤ k) : wt (later f i) ≤ W := by
  unfold later
  split
  · exact Nat.le_trans (show wt 0 ≤ 1 by decide) hW
  · exact h _ (by omega)
theorem div_wt (p q : Rat) : wt (p / q) ≤ wt p + wt q := by
  have hp : Wt p (wt p) := ⟨Nat.le_refl _⟩
  have hq : Wt q (wt q) := ⟨Nat.le_refl _⟩
  exact (inferInstance : Wt (p / q) (wt p + wt q)).le
section
variable {F : Nat → Nat → Rat} {n : Nat}
theorem lvW_pos (k : Nat) : 1 ≤ lvW k := by
  cases k with
  | zero => exact Nat.le_refl _
  | succ k => unfold lvW; split <;> omega
theorem lv_wt (hF : ∀ i j, i < n → j < n → wt (F i j) ≤ 4) : ∀ k, k ≤ n → ∀ i, i < k → wt (lvf F k i) ≤ lvW k ∧ wt (lvl F k i) ≤ lvW k := by
  intro k
  induction k with
  | zero => intro _ i hi; exact absurd hi (Nat.not_lt_zero _)
  | succ k ih =>
    intro hk i hi
    by_cases h0 : k = 0
    · subst h0
      have h1 := div_wt 1 (F 0 0); have h2 := hF 0 0 (by omega) (by omega)
      have h3 : wt (1 : Rat) ≤ 1 := by decide
      have e : lvW (0 + 1) = 5 := rfl
      rw [e]
      constructor
      · show wt (1 / F 0 0) ≤ 5; omega
      · show wt (1 / F 0 0) ≤ 5; omega
    · have ih := ih (by omega)
      have hW := lvW_pos k
      have e : lvW (k + 1) = 2 * lvW k + 3 * (k * (4 + lvW k + 1) + 1) + 4 := by show (if k = 0 then _ else _) = _; rw [if_neg h0]
      have wx : wt (lvx F k) ≤ k * (4 + lvW k + 1) + 1 := wt_sum (K := 4 + lvW k) fun u hu => by
        have h1 := wt_mul (F k u) (lvf F k u); have h2 := hF k u (by omega) (by omega); have h3 := (ih u hu).1
        omega
      have wy : wt (lvy F k) ≤ k * (4 + lvW k + 1) + 1 := wt_sum (K := 4 + lvW k) fun u hu => by
        have h1 := wt_mul (F 0 (u + 1)) (lvl F k u); have h2 := hF 0 (u + 1) (by omega) (by omega); have h3 := (ih u hu).2
        omega
      have wd : wt (1 / lvd F k) ≤ 2 * (k * (4 + lvW k + 1) + 1) + 3 := by
        have h1 := div_wt 1 (lvd F k); have h2 := wt_sub 1 (lvx F k * lvy F k); have h3 := wt_mul (lvx F k) (lvy F k)
        have h4 : wt (1 : Rat) ≤ 1 := by decide
        have h5 : lvd F k = 1 - lvx F k * lvy F k := if_neg h0
        rw [h5] at h1 ⊢
        omega
      have a1 := longer_wt (fun u hu => (ih u hu).1) hW i; have a2 := later_wt (fun u hu => (ih u hu).2) hW (show i ≤ k by omega)
      rw [e, lvf_succ F h0, lvl_succ F h0]
      constructor
      · have h1 := wt_mul (longer k (lvf F k) i - lvx F k * later (lvl F k) i) (1 / lvd F k); have h2 := wt_sub (longer k (lvf F k) i) (lvx F k * later (lvl F k) i); have h3 := wt_mul (lvx F k) (later (lvl F k) i)
        omega
      · have h1 := wt_mul (later (lvl F k) i - lvy F k * longer k (lvf F k) i) (1 / lvd F k); have h2 := wt_sub (later (lvl F k) i) (lvy F k * longer k (lvf F k) i); have h3 := wt_mul (lvy F k) (longer k (lvf F k) i)
        omega
end
abbrev LPT : TypeId := 64
def prF (n : Nat) (F : Nat → Nat → Rat) (x y : AV) (i : Nat) : AV := [AV.mat true n (fun _ => n) (fun i j => .q (F i j)), x, y].getD i (.v undef)
def PF (n : Nat) (F : Nat → Nat → Rat) (x y : AV) : List (Nat × Fam) := [(60, (1, fun _ => .ones LPT 3 (prF n F x y))), (61, (0, fun _ => .rats 0 fun _ => ra0)), (62, (0, fun _ => .rats 0 fun _ => ra0))]
abbrev PFk (n : Nat) (F : Nat → Nat → Rat) (k : Nat) : List (Nat × Fam) := PF n F (.row true k fun i => .q (lvf F k i)) (.row true k fun i => .q (lvl F k i))
theorem prF_ok {n : Nat} {F : Nat → Nat → Rat} {x y : AV} {U : Nat → Bool} (hx : x.ok U) (hy : y.ok U) : ∀ i, (prF n F x y i).ok U
  | 0 => trivial
  | 1 => hx
  | 2 => hy
  | _ + 3 => trivial
theorem pf_le {σ : Ren} {n : Nat} {F : Nat → Nat → Rat} {x y : AV} {f : Nat → AV} (h0 : Le σ (f 0) (.mat true n (fun _ => n) (fun i j => .q (F i j)))) (h1 : Le σ (f 1) x) (h2 : Le σ (f 2) y) : BLe σ (.ones LPT 3 f) (.ones LPT 3 (prF n F x y)) :=
  bleo rfl fun i hi => by
    match i, hi with
    | 0, _ => exact h0
    | 1, _ => exact h1
    | 2, _ => exact h2
theorem allz {s : St} {σ : Ren} {U : Nat → Bool} {g : Nat} {F : Nat → Blk} {l : List (Nat × Fam)} (k : AllH s σ U l) : AllH s σ U ((g, (0, F)) :: l) := ⟨fun r hr => absurd hr (Nat.not_lt_zero _), k⟩
theorem okf_pf {U : Nat → Bool} {n : Nat} {F : Nat → Nat → Rat} {x y : AV} (hx : x.ok U) (hy : y.ok U) : okf U (PF n F x y) :=
  ⟨fun r _ i _ => prF_ok hx hy i, fun r hr => absurd hr (Nat.not_lt_zero _), fun r hr => absurd hr (Nat.not_lt_zero _), trivial⟩
theorem lv_of {g : GD} (h : g.OK) (hk : g.k = 1) : HasH Try.prog 26 [] [g.v] (.tup (.ptr 60 0 0) (.i 0)) (PF g.n (gent g) (.v (.slice none 0 0)) (.v (.slice none 0 0))) := by
  have n1 := h.n1
  have e0 : decide ((g.k : Int) ≠ 1) = false := decide_eq_false (by rw [hk]; decide)
  refine hasH_of Try.func26 (by kernel_rfl) rfl Try.ntmps26 Try.results26 ⟨rfl, trivial⟩ rfl rfl ?_
  refine run0 ?_
  refine awp_no rfl e0 ?_
  repeat(first|refine run1 ?_|((with_reducible apply st_call);exact rfl;exact rfl;exact rfl;first|(exact Has.ag (g7 rfl rfl rfl rfl rfl rfl rfl) (ge_expand h)))|((with_reducible apply st_callg);exact rfl;exact rfl;(first|exact rfl|assumption);exact rfl;exact rfl;exact rfl;first|(exact Has.ag (g7 rfl rfl rfl rfl rfl rfl rfl) (ge_expand h))))
  refine st_eqnil rfl rfl rfl n1 ?_
  refine run0 ?_
  refine awp_no rfl rfl ?_
  refine run0 ?_
  refine ⟨.inr rfl, [(2, .ptr 60 0 0), (3, .i 0)], imp_stl (s1 60 14) (fun h => by cases h) (s1_injl rfl) ?_ ?_, .two (.tmp rfl) (.tmp rfl)⟩
  · exact alle rfl (Le.ptr (by unfold s1; rw [if_pos rfl])) rfl (alle rfl (Le.eq rfl rfl) True.intro True.intro)
  · exact allh rfl (by unfold s1; rw [if_pos rfl]; decide) (pf_le (Le.eq rfl rfl) (Le.eq rfl rfl) (Le.eq rfl rfl)) (fun i _ => prF_ok (by exact True.intro) (by exact True.intro) i) (allz (allz True.intro))
theorem GD.fold (g : GD) : (fun i => (g.f i).old) = g.f := funext fun i => by
  match i with
  | 0 | 1 | 2 | 3 | 4 | 5 | 6 => rfl
  | _ + 7 => rfl
theorem GD.vold (g : GD) : AV.old g.v = g.v := by
  show AV.ag 7 (fun i => (g.f i).old) = AV.ag 7 g.f
  rw [g.fold]
theorem lv_of' {g : GD} (h : g.OK) (hk : g.k = 1) : HasH Try.prog 26 [] [AV.old g.v] (.tup (.ptr 60 0 0) (.i 0)) (PF g.n (gent g) (.v (.slice none 0 0)) (.v (.slice none 0 0))) := by rw [g.vold]; exact lv_of h hk
end Go.Proofs.Ytddkocidfhaofaa.AM
/- Package levin: one step, walked. -/
namespace Go.Proofs.Ytddkocidfhaofaa.AM
open Go Go.RowKit Go.Proofs.Ytddkocidfhaofaa.PN Go.Proofs.Ytddkocidfhaofaa.V
open Go.Proofs.Ytddkocidfhaofaa.LA (S S_succ S_zero S_congr longer later)
set_option linter.unusedVariables false
set_option linter.unusedSimpArgs false
set_option maxRecDepth 8000
set_option maxHeartbeats 8000000
theorem lv_next {n k : Nat} {F : Nat → Nat → Rat} (hF : ∀ i j, i < n → j < n → wt (F i j) ≤ 4) (hn : n ≤ 8) (hk : k < n) (hd : lvd F k ≠ 0) : HasH Try.prog 27 (PFk n F k) [.ptr 60 0 0] (.b true) (PFk n F (k + 1)) := by
  have w1 := lv_wt hF
  refine hasH_of Try.func27 (by kernel_rfl) rfl Try.ntmps27 Try.results27 True.intro rfl rfl ?_
  by_cases h0 : k = 0
  · subst h0
    have hd : F 0 0 ≠ 0 := hd
    have w2 := hF 0 0 hk hk
    have cq := h_quo (p := 1) (q := F 0 0) (by decide) (by omega) hd
    refine run0 ?_
    refine awp_yes rfl rfl ?_
    repeat(first|refine run1 ?_|((with_reducible apply st_call);exact rfl;exact rfl;exact rfl;first|(exact lv_one)|(exact cq))|((with_reducible apply st_callg);exact rfl;exact rfl;(first|exact rfl|assumption);exact rfl;exact rfl;exact rfl;first|(exact lv_one)|(exact cq)))
    refine ⟨.inr rfl, [(2, .b true)], (imp_pub 60 1 rfl rfl (by decide) rfl rfl rfl (by decide)).trans ((imp_pub 60 2 rfl rfl (by decide) rfl rfl rfl (by decide)).trans (imp_id ?_ ?_)), .one (.tmp rfl)⟩
    · exact eA
    · exact allh rfl (by decide) (pf_le (Le.eq rfl rfl) (Le.row rfl (fun i hi => by obtain rfl : i = 0 := by omega
                                                                                    rfl) fun h => h) (Le.row rfl (fun i hi => by obtain rfl : i = 0 := by omega
                                                                                                                                 rfl) fun h => h)) (fun i _ => prF_ok (by exact True.intro) (by exact True.intro) i) (allz (allz True.intro))
  · have hW := (lvW_le (k := k) (by omega)).2 (by omega)
    have wf : ∀ i, i < k → wt (lvf F k i) ≤ lvW k := fun i hi => (w1 k (by omega) i hi).1
    have wl : ∀ i, i < k → wt (lvl F k i) ≤ lvW k := fun i hi => (w1 k (by omega) i hi).2
    have hp := lvW_pos k
    have hkk : k * (4 + lvW k + 1) ≤ 7 * (4 + lvW k + 1) := Nat.mul_le_mul_right _ (by omega)
    have wx : wt (lvx F k) ≤ k * (4 + lvW k + 1) + 1 := wt_sum (K := 4 + lvW k) fun u hu => by
      have h1 := wt_mul (F k u) (lvf F k u); have h2 := hF k u (by omega) (by omega); have h3 := wf u hu
      omega
    have wy : wt (lvy F k) ≤ k * (4 + lvW k + 1) + 1 := wt_sum (K := 4 + lvW k) fun u hu => by
      have h1 := wt_mul (F 0 (u + 1)) (lvl F k u); have h2 := hF 0 (u + 1) (by omega) (by omega); have h3 := wl u hu
      omega
    have eD : lvd F k = 1 - lvx F k * lvy F k := if_neg h0
    have wxy := wt_mul (lvx F k) (lvy F k)
    have wD := wt_sub 1 (lvx F k * lvy F k)
    have w11 : wt (1 : Rat) ≤ 1 := by decide
    have wB := div_wt 1 (lvd F k)
    have cx : Has Try.prog 44 [.row false n (fun i => .q (F k i)), .i 0, .row false k (fun i => .q (lvf F k i))] (.q (lvx F k)) := by
      have := lv_dot (n := n) (m := k) (a := 0) (K := lvW k + 4) (f := F k) (g := lvf F k) (fun i hi => by have := hF k (0 + i) (by omega) (by omega); omega) (fun i hi => by have := wf i hi; omega) (by omega) (by omega) hn
      simp only [Nat.zero_add] at this
      exact this
    have cy : Has Try.prog 44 [.row false n (fun i => .q (F 0 i)), .i 1, .row false k (fun i => .q (lvl F k i))] (.q (lvy F k)) := by
      have := lv_dot (n := n) (m := k) (a := 1) (K := lvW k + 4) (f := F 0) (g := lvl F k) (fun i hi => by have := hF 0 (1 + i) (by omega) (by omega); omega) (fun i hi => by have := wl i hi; omega) (by omega) (by omega) hn
      simp only [Nat.add_comm 1] at this
      exact this
    have cm := h_mul (p := lvx F k) (q := lvy F k) (by omega) (by omega)
    have cs : Has Try.prog 47 [.q 1, .q (lvx F k * lvy F k)] (.q (lvd F k)) := by rw [eD]; exact h_sub (by omega) (by omega)
    have cq := h_quo (p := 1) (q := lvd F k) (by omega) (by rw [eD]; omega) hd
    have lw : ∀ i, wt (longer k (lvf F k) i) ≤ lvW k := fun i => longer_wt wf hp i
    have tw : ∀ i, i < k + 1 → wt (later (lvl F k) i) ≤ lvW k := fun i hi => later_wt wl hp (by omega)
    have c1 := lv_less (n := k + 1) (m := k + 1) (v := longer k (lvf F k)) (w := later (lvl F k)) (t := lvx F k) (K := 10000000000) (fun i _ => by have := lw i; omega) (fun i hi => by have := tw i hi; omega) (by omega) (by omega) (Nat.le_refl _) (by omega)
    have c2 := lv_less (n := k + 1) (m := k + 1) (v := later (lvl F k)) (w := longer k (lvf F k)) (t := lvy F k) (K := 10000000000) (fun i hi => by have := tw i hi; omega) (fun i _ => by have := lw i; omega) (by omega) (by omega) (Nat.le_refl _) (by omega)
    have d1 := lv_scaled (n := k + 1) (v := fun i => longer k (lvf F k) i - lvx F k * later (lvl F k) i) (t := 1 / lvd F k) (K := 100000000000) (fun i hi => by
      have h1 := lw i; have h2 := tw i hi; have h3 := wt_sub (longer k (lvf F k) i) (lvx F k * later (lvl F k) i); have h4 := wt_mul (lvx F k) (later (lvl F k) i)
      omega) (by rw [eD] at wB ⊢; omega) (by omega) (by omega)
    have d2 := lv_scaled (n := k + 1) (v := fun i => later (lvl F k) i - lvy F k * longer k (lvf F k) i) (t := 1 / lvd F k) (K := 100000000000) (fun i hi => by
      have h1 := lw i; have h2 := tw i hi; have h3 := wt_sub (later (lvl F k) i) (lvy F k * longer k (lvf F k) i); have h4 := wt_mul (lvy F k) (longer k (lvf F k) i)
      omega) (by rw [eD] at wB ⊢; omega) (by omega) (by omega)
    refine run0 ?_
    refine awp_no rfl (decide_eq_false (by omega)) ?_
    repeat(first|refine run1 ?_|((with_reducible apply st_call);exact rfl;exact rfl;exact rfl;first|(exact cx)|(exact cy)|(exact lv_behind (by omega))|(exact lv_ahead (by omega))|(exact lv_one)|(exact cm)|(exact cs)|(exact cq))|((with_reducible apply st_callg);exact rfl;exact rfl;(first|exact rfl|assumption);exact rfl;exact rfl;exact rfl;first|(exact cx)|(exact cy)|(exact lv_behind (by omega))|(exact lv_ahead (by omega))|(exact lv_one)|(exact cm)|(exact cs)|(exact cq)))
    refine awp_no rfl rfl ?_
    repeat(first|refine run1 ?_|((with_reducible apply st_call);exact rfl;exact rfl;exact rfl;first|(exact c1)|(exact c2)|(exact d1)|(exact d2))|((with_reducible apply st_callg);exact rfl;exact rfl;(first|exact rfl|assumption);exact rfl;exact rfl;exact rfl;first|(exact c1)|(exact c2)|(exact d1)|(exact d2)))
    refine ⟨.inr rfl, [(2, .b true)], imp_id ?_ ?_, .one (.tmp rfl)⟩
    · exact eA
    · exact allh rfl (by decide) (pf_le (Le.eq rfl rfl) (Le.row rfl (fun i _ => congrArg RA.q (lvf_succ F h0 i).symm) fun h => h) (Le.row rfl (fun i _ => congrArg RA.q (lvl_succ F h0 i).symm) fun h => h)) (fun i _ => prF_ok (by exact True.intro) (by exact True.intro) i) (allz (allz True.intro))
theorem lv_next_no {n k : Nat} {F : Nat → Nat → Rat} (hF : ∀ i j, i < n → j < n → wt (F i j) ≤ 4) (hn : n ≤ 8) (hk : k < n) (hd : lvd F k = 0) : ∃ x y, HasH Try.prog 27 (PFk n F k) [.ptr 60 0 0] (.b false) (PF n F x y) := by
  have w1 := lv_wt hF
  by_cases h0 : k = 0
  · subst h0
    have hd : F 0 0 = 0 := hd
    have cq : Has Try.prog 43 [.q 1, .q (F 0 0)] (.tup (.ra (.raw false [] [])) (.i 5)) := by rw [hd]; exact h_quo0 (by decide)
    refine ⟨.row true 1 fun _ => .raw false [] [], .row true 1 fun _ => .raw false [] [], hasH_of Try.func27 (by kernel_rfl) rfl Try.ntmps27 Try.results27 True.intro rfl rfl ?_⟩
    refine run0 ?_
    refine awp_yes rfl rfl ?_
    repeat(first|refine run1 ?_|((with_reducible apply st_call);exact rfl;exact rfl;exact rfl;first|(exact lv_one)|(exact cq))|((with_reducible apply st_callg);exact rfl;exact rfl;(first|exact rfl|assumption);exact rfl;exact rfl;exact rfl;first|(exact lv_one)|(exact cq)))
    refine ⟨.inr rfl, [(2, .b false)], (imp_pub 60 1 rfl rfl (by decide) rfl rfl rfl (by decide)).trans ((imp_pub 60 2 rfl rfl (by decide) rfl rfl rfl (by decide)).trans (imp_id ?_ ?_)), .one (.tmp rfl)⟩
    · exact eA
    · exact allh rfl (by decide) (pf_le (Le.eq rfl rfl) (Le.row rfl (fun i hi => by obtain rfl : i = 0 := by omega
                                                                                    rfl) fun h => h) (Le.row rfl (fun i hi => by obtain rfl : i = 0 := by omega
                                                                                                                                 rfl) fun h => h)) (fun i _ => prF_ok (by exact True.intro) (by exact True.intro) i) (allz (allz True.intro))
  · refine ⟨.row true k fun i => .q (lvf F k i), .row true k fun i => .q (lvl F k i), hasH_of Try.func27 (by kernel_rfl) rfl Try.ntmps27 Try.results27 True.intro rfl rfl ?_⟩
    have hW := (lvW_le (k := k) (by omega)).2 (by omega)
    have wf : ∀ i, i < k → wt (lvf F k i) ≤ lvW k := fun i hi => (w1 k (by omega) i hi).1
    have wl : ∀ i, i < k → wt (lvl F k i) ≤ lvW k := fun i hi => (w1 k (by omega) i hi).2
    have hp := lvW_pos k
    have hkk : k * (4 + lvW k + 1) ≤ 7 * (4 + lvW k + 1) := Nat.mul_le_mul_right _ (by omega)
    have wx : wt (lvx F k) ≤ k * (4 + lvW k + 1) + 1 := wt_sum (K := 4 + lvW k) fun u hu => by
      have h1 := wt_mul (F k u) (lvf F k u); have h2 := hF k u (by omega) (by omega); have h3 := wf u hu
      omega
    have wy : wt (lvy F k) ≤ k * (4 + lvW k + 1) + 1 := wt_sum (K := 4 + lvW k) fun u hu => by
      have h1 := wt_mul (F 0 (u + 1)) (lvl F k u); have h2 := hF 0 (u + 1) (by omega) (by omega); have h3 := wl u hu
      omega
    have eD : lvd F k = 1 - lvx F k * lvy F k := if_neg h0
    have wxy := wt_mul (lvx F k) (lvy F k)
    have wD := wt_sub 1 (lvx F k * lvy F k)
    have w11 : wt (1 : Rat) ≤ 1 := by decide
    have wB := div_wt 1 (lvd F k)
    have cx : Has Try.prog 44 [.row false n (fun i => .q (F k i)), .i 0, .row false k (fun i => .q (lvf F k i))] (.q (lvx F k)) := by
      have := lv_dot (n := n) (m := k) (a := 0) (K := lvW k + 4) (f := F k) (g := lvf F k) (fun i hi => by have := hF k (0 + i) (by omega) (by omega); omega) (fun i hi => by have := wf i hi; omega) (by omega) (by omega) hn
      simp only [Nat.zero_add] at this
      exact this
    have cy : Has Try.prog 44 [.row false n (fun i => .q (F 0 i)), .i 1, .row false k (fun i => .q (lvl F k i))] (.q (lvy F k)) := by
      have := lv_dot (n := n) (m := k) (a := 1) (K := lvW k + 4) (f := F 0) (g := lvl F k) (fun i hi => by have := hF 0 (1 + i) (by omega) (by omega); omega) (fun i hi => by have := wl i hi; omega) (by omega) (by omega) hn
      simp only [Nat.add_comm 1] at this
      exact this
    have cm := h_mul (p := lvx F k) (q := lvy F k) (by omega) (by omega)
    have cs : Has Try.prog 47 [.q 1, .q (lvx F k * lvy F k)] (.q (lvd F k)) := by rw [eD]; exact h_sub (by omega) (by omega)
    have cq : Has Try.prog 43 [.q 1, .q (lvd F k)] (.tup (.ra (.raw false [] [])) (.i 5)) := by rw [hd]; exact h_quo0 (by omega)
    refine run0 ?_
    refine awp_no rfl (decide_eq_false (by omega)) ?_
    repeat(first|refine run1 ?_|((with_reducible apply st_call);exact rfl;exact rfl;exact rfl;first|(exact cx)|(exact cy)|(exact lv_behind (by omega))|(exact lv_ahead (by omega))|(exact lv_one)|(exact cm)|(exact cs)|(exact cq))|((with_reducible apply st_callg);exact rfl;exact rfl;(first|exact rfl|assumption);exact rfl;exact rfl;exact rfl;first|(exact cx)|(exact cy)|(exact lv_behind (by omega))|(exact lv_ahead (by omega))|(exact lv_one)|(exact cm)|(exact cs)|(exact cq)))
    refine awp_yes rfl rfl ?_
    refine run0 ?_
    refine ⟨.inr rfl, [(2, .b false)], imp_id ?_ ?_, .one (.tmp rfl)⟩
    · exact eA
    · exact allh rfl (by decide) (pf_le (Le.eq rfl rfl) (Le.eq rfl rfl) (Le.eq rfl rfl)) (fun i _ => prF_ok (by exact True.intro) (by exact True.intro) i) (allz (allz True.intro))
/-- What a vector's beginning is sent to, one number longer. -/
def lvm (F : Nat → Nat → Rat) (k : Nat) (x b : Nat → Rat) (i : Nat) : Rat := longer k x i - -(b k - S k fun j => F k j * x j) * lvl F (k + 1) i
theorem lv_more {n k : Nat} {F : Nat → Nat → Rat} {x b : Nat → Rat} (hF : ∀ i j, i < n → j < n → wt (F i j) ≤ 4) (hn : n ≤ 8) (hk : k < n) (hx : ∀ i, i < k → wt (x i) ≤ 100000000) (hb : ∀ i, i < n → wt (b i) ≤ 100) :
    HasH Try.prog 28 (PFk n F (k + 1)) [.ptr 60 0 0, .row false k (fun i => .q (x i)), .row false n (fun i => .q (b i))] (.own 63 0) ((63, (1, fun _ => .rats (k + 1) fun i => .q (lvm F k x b i))) :: PFk n F (k + 1)) := by
  have w1 := lv_wt hF
  have hW := (lvW_le (k := k + 1) (by omega)).1
  have wl : ∀ i, i < k + 1 → wt (lvl F (k + 1) i) ≤ lvW (k + 1) := fun i hi => (w1 (k + 1) (by omega) i hi).2
  have wS : wt (S k fun j => F k j * x j) ≤ k * (100000004 + 1) + 1 := wt_sum (K := 100000004) fun u hu => by
    have h1 := wt_mul (F k u) (x u); have h2 := hF k u (by omega) (by omega); have h3 := hx u hu
    omega
  have hbk := hb k hk
  have wL := wt_sub (b k) (S k fun j => F k j * x j)
  have cd : Has Try.prog 44 [.row false n (fun i => .q (F k i)), .i 0, .row false k (fun i => .q (x i))] (.q (S k fun j => F k j * x j)) := by
    have := lv_dot (n := n) (m := k) (a := 0) (K := 100000000) (f := F k) (g := x) (fun i hi => by have := hF k (0 + i) (by omega) (by omega); omega) (fun i hi => hx i hi) (by omega) (by omega) hn
    simp only [Nat.zero_add] at this
    exact this
  have cs := h_sub (p := b k) (q := S k fun j => F k j * x j) (by omega) (by omega)
  have cn := h_neg (p := b k - S k fun j => F k j * x j) (by omega)
  have lw : ∀ i, wt (longer k x i) ≤ 100000000 := fun i => longer_wt hx (by decide) i
  have cl := lv_lesso (n := k + 1) (m := k + 1) (v := longer k x) (w := lvl F (k + 1)) (t := -(b k - S k fun j => F k j * x j)) (K := 100000000000) (fun i _ => by have := lw i; omega) (fun i hi => by have := wl i hi; omega) (by rw [wt_neg]; omega) (by omega) (Nat.le_refl _) (by omega)
  refine hasH_of Try.func28 (by kernel_rfl) rfl Try.ntmps28 Try.results28 rfl rfl rfl ?_
  repeat(first|refine run1 ?_|((with_reducible apply st_call);exact rfl;exact rfl;exact rfl;first|(exact cd)|(exact cs)|(exact lv_behind (by omega))|(exact cn))|((with_reducible apply st_callg);exact rfl;exact rfl;(first|exact rfl|assumption);exact rfl;exact rfl;exact rfl;first|(exact cd)|(exact cs)|(exact lv_behind (by omega))|(exact cn)))
  ((with_reducible apply st_callH); exact rfl; exact rfl; exact rfl; exact (cl); (first | exact True.intro | exact ⟨rfl, rfl, rfl, True.intro⟩); exact rfl; exact rfl; exact rfl; exact rfl; (focus (repeat (first | exact True.intro | refine ⟨(by first | exact True.intro | rfl | exact ok_none (closed_ok rfl)), ?_⟩))); (first | exact True.intro | exact okf_WH | exact okf_pf (by exact True.intro) (by exact True.intro)))
  refine run0 ?_
  refine ⟨.inr rfl, [(6, .own 63 0)], imp_id ?_ ?_, .one (.tmp rfl)⟩
  · exact eA
  · exact allh rfl (by decide) (blen rfl fun _ _ => rfl) True.intro (allh rfl (by decide) (pf_le (Le.eq rfl rfl) (Le.eq rfl rfl) (Le.eq rfl rfl)) (fun i _ => prF_ok (by exact True.intro) (by exact True.intro) i) (allz (allz True.intro)))
end Go.Proofs.Ytddkocidfhaofaa.AM

/- Joined texts, 40: RowO MkA MkB MkC MkE GenF CkA RwA NtA NtB LawC RowsB RowsL NtC NtD. -/
import Derived.Test.YtggicfmbdmjhkaaJLawNttKnown39
import Derived.Test.YtggicfmbdmjhkaaJLawNttKnown37
import Derived.Test.YtggicfmbdmjhkaaJLawNttKnown36
import Derived.Test.YtggicfmbdmjhkaaJLawNttKnown29
import Derived.Test.YtggicfmbdmjhkaaJLawNttKnown30
import Derived.Test.YtggicfmbdmjhkaaJLawNttKnown28
set_option linter.unusedVariables false
set_option linter.unusedSimpArgs false
/- Rows of numbers as a caller's own. -/
namespace Go.Proofs.Ytggicfmbdmjhkaa.AM
open Go Go.RowKit Go.Proofs.Ytggicfmbdmjhkaa.PN Go.Proofs.Ytggicfmbdmjhkaa.V
open Go.Proofs.Ytggicfmbdmjhkaa.LA (S S_succ S_zero S_congr)
set_option linter.unusedVariables false
set_option linter.unusedSimpArgs false
set_option maxRecDepth 4000
set_option maxHeartbeats 4000000
end Go.Proofs.Ytggicfmbdmjhkaa.AM
/- Systems that are drawn: counts, the numbers' places. -/
namespace Go.Proofs.Ytggicfmbdmjhkaa.AM
open Go Go.RowKit Go.Proofs.Ytggicfmbdmjhkaa.PN Go.Proofs.Ytggicfmbdmjhkaa.V
open Go.Proofs.Ytggicfmbdmjhkaa.LA (S S_succ S_zero S_congr)
set_option linter.unusedVariables false
set_option linter.unusedSimpArgs false
set_option maxRecDepth 8000
set_option maxHeartbeats 8000000
/-- How many numbers a system has in its rows. -/
def cnA (k n : Nat) : Nat := match k with | 1 | 2 => 2 * n - 1 | 6 => 0 | _ => n
def cnB (k n : Nat) : Nat := match k with | 5 | 7 => n | _ => 0
def cnH (k n r : Nat) : Nat := match k with | 6 | 7 => n * r | _ => 0
/-- A system of which only three numbers are known. -/
def hdf (k n r : Nat) (i : Nat) : AV := [AV.i k, .i n, .i r, .v (.slice none 0 0), .v (.slice none 0 0), .v (.slice none 0 0), .v (.slice none 0 0)].getD i (.v undef)
end Go.Proofs.Ytggicfmbdmjhkaa.AM
/- Systems that are drawn: walked. -/
namespace Go.Proofs.Ytggicfmbdmjhkaa.AM
open Go Go.RowKit Go.Proofs.Ytggicfmbdmjhkaa.PN Go.Proofs.Ytggicfmbdmjhkaa.V
open Go.Proofs.Ytggicfmbdmjhkaa.LA (S S_succ S_zero S_congr)
set_option linter.unusedVariables false
set_option linter.unusedSimpArgs false
set_option maxRecDepth 8000
set_option maxHeartbeats 8000000
/-- A number of the second row behind r looks. -/
def bpart (A : Nat → Rat) (c : Nat) (x : Rat) : Nat → Rat
  | 0 => x
  | r + 1 => if A r = bpart A c x r then bpart A c x r + ((100 + c : Int) : Rat) else bpart A c x r
/-- The numbers when c columns are done and r rows of the next. -/
def mkL (zs : List Int) (a b c r i : Nat) : Rat :=
  if i < a then rowq zs i else if i < a + b then (if i - a < c then bpart (rowq zs) (i - a) (rowq zs i) a else if i - a = c then bpart (rowq zs) c (rowq zs i) r else rowq zs i) else rowq zs i
/-- Which kind, how large, of which rank. -/
def mkK (kind : Int) : Nat := (1 + wthn kind 7).toNat
def mkN (n most : Int) : Nat := (1 + wthn n most).toNat
def mkR (k : Nat) (n : Int) : Nat := if likeB k then (1 + wthn (n.tdiv 8) 2).toNat else 0
def gmk (k m r : Nat) (zs : List Int) : GD :=
  ⟨k, m, r, cnA k m, cnB k m, cnH k m r, cnH k m r, fun i => mkL zs (cnA k m) (cnB k m) (cnB k m) 0 (0 + i), fun i => mkL zs (cnA k m) (cnB k m) (cnB k m) 0 (cnA k m + i), fun i => mkL zs (cnA k m) (cnB k m) (cnB k m) 0 (cnA k m + cnB k m + i), fun i => mkL zs (cnA k m) (cnB k m) (cnB k m) 0 (cnA k m + cnB k m + cnH k m r + i)⟩
def mkg (kind n : Int) (zs : List Int) (most : Int) : GD := gmk (mkK kind) (mkN n most) (mkR (mkK kind) n) zs
/-- .. as what a call has made. -/
def GD.ft (g : GD) (i : Nat) : AV := [AV.i g.k, .i g.n, .i g.r, .row true g.la (fun i => .q (g.A i)), .row true g.lb (fun i => .q (g.B i)), .row true g.lg (fun i => .q (g.G i)), .row true g.lh (fun i => .q (g.H i))].getD i (.v undef)
/-- A system whose rows are parts of one own slice. -/
def slf (k n r a b h : Nat) (i : Nat) : AV := [AV.i k, .i n, .i r, .sl 63 0 0 a, .sl 63 0 a b, .sl 63 0 (a + b) h, .sl 63 0 (a + b + h) h].getD i (.v undef)
end Go.Proofs.Ytggicfmbdmjhkaa.AM
/- Systems that are drawn: they are right. -/
namespace Go.Proofs.Ytggicfmbdmjhkaa.AM
open Go Go.RowKit Go.Proofs.Ytggicfmbdmjhkaa.PN Go.Proofs.Ytggicfmbdmjhkaa.V
open Go.Proofs.Ytggicfmbdmjhkaa.LA (S S_succ S_zero S_congr)
set_option linter.unusedVariables false
set_option linter.unusedSimpArgs false
set_option maxRecDepth 8000
set_option maxHeartbeats 8000000
theorem far {p x y : Rat} (hp : p ≤ 20) (hx : -20 ≤ x) (hy : 100 ≤ y) : p ≠ x + y := by
  intro e
  have h1 : -20 + y ≤ x + y := Rat.add_le_add_right.2 hx
  have h2 : -20 + 100 ≤ -20 + y := Rat.add_le_add_left.2 hy
  have h3 : (-20 + 100 : Rat) ≤ 20 := Rat.le_trans h2 (Rat.le_trans h1 (by rw [← e]; exact hp))
  exact absurd h3 (by decide +kernel)
theorem hun (c : Nat) : (100 : Rat) ≤ ((100 + c : Int) : Rat) := by
  have : ((100 : Int) : Rat) ≤ ((100 + c : Int) : Rat) := Rat.intCast_le_intCast.2 (by omega)
  exact this
end Go.Proofs.Ytggicfmbdmjhkaa.AM
/- Laws of systems: entries' weights; matrices of drawn systems. -/
namespace Go.Proofs.Ytggicfmbdmjhkaa.AM
open Go Go.RowKit Go.Proofs.Ytggicfmbdmjhkaa.PN Go.Proofs.Ytggicfmbdmjhkaa.V
open Go.Proofs.Ytggicfmbdmjhkaa.LA (S S_succ S_zero S_congr)
set_option linter.unusedVariables false
set_option linter.unusedSimpArgs false
set_option maxRecDepth 8000
set_option maxHeartbeats 8000000
end Go.Proofs.Ytggicfmbdmjhkaa.AM
/- The document's systems: entries. -/
namespace Go.Proofs.Ytggicfmbdmjhkaa.AM
open Go Go.RowKit Go.Proofs.Ytggicfmbdmjhkaa.PN Go.Proofs.Ytggicfmbdmjhkaa.V
open Go.Proofs.Ytggicfmbdmjhkaa.LA (S S_succ S_zero S_congr)
set_option linter.unusedVariables false
set_option linter.unusedSimpArgs false
set_option maxRecDepth 8000
set_option maxHeartbeats 8000000
end Go.Proofs.Ytggicfmbdmjhkaa.AM
/- The document's check of a system. -/
namespace Go.Proofs.Ytggicfmbdmjhkaa.V
open Go Go.RowKit Go.Proofs.Ytggicfmbdmjhkaa.PN
set_option linter.unusedVariables false
set_option linter.unusedSimpArgs false
end Go.Proofs.Ytggicfmbdmjhkaa.V
namespace Go.Proofs.Ytggicfmbdmjhkaa.AM
open Go Go.RowKit Go.Proofs.Ytggicfmbdmjhkaa.PN Go.Proofs.Ytggicfmbdmjhkaa.V
open Go.Proofs.Ytggicfmbdmjhkaa.LA (S S_succ S_zero S_congr)
set_option linter.unusedVariables false
set_option linter.unusedSimpArgs false
set_option maxRecDepth 8000
set_option maxHeartbeats 8000000
end Go.Proofs.Ytggicfmbdmjhkaa.AM
/- Numbers as they came in: limbs, wherever they lie. -/
namespace Go.Proofs.Ytggicfmbdmjhkaa.PN
/-- What limbs are worth. -/
def lval : List Nat → Nat
  | [] => 0
  | x :: l => x + B * lval l
def LF (l : List Nat) : Prop := ∀ x ∈ l, x < B
/-- They end in no nought. -/
def trimB (l : List Nat) : Bool := decide (l.length = size (lval l))
/-- The limbs of a number. -/
def limbsOf (s : Nat) : List Nat := (List.range (size s)).map (dig s)
end Go.Proofs.Ytggicfmbdmjhkaa.PN
namespace Go.Proofs.Ytggicfmbdmjhkaa.AM
open Go Go.RowKit Go.Proofs.Ytggicfmbdmjhkaa.PN Go.Proofs.Ytggicfmbdmjhkaa.V
set_option linter.unusedVariables false
set_option linter.unusedSimpArgs false
set_option maxRecDepth 8000
set_option maxHeartbeats 8000000
theorem plb_lbs {S : Nat → Prop} {w : World} {v : Value} {l : List Nat} (h : Lbs w v l) : PLb S w v l := by
  obtain ⟨A, c, e, hc, hx⟩ := h
  refine ⟨A, c, e, hc, fun i hi => ?_⟩
  obtain ⟨b, off, cs, e1, hr, e2⟩ := hx i hi
  exact ⟨b, off, e1, .inr ⟨cs, hr⟩, by rw [cell_of_row w b _ cs U32 (0, 0) hr]; exact e2⟩
/-- The parts of a number. -/
def raN : RA → List Nat
  | .q p => limbsOf (nm p)
  | .raw _ n _ => n
def raD : RA → List Nat
  | .q p => limbsOf p.den
  | .raw _ _ d => d
def gcd1 (a b : Nat) : Bool := Nat.beq (Nat.gcd a b) 1
/-- It is right. -/
def rgtB (s : Bool) (n d : List Nat) : Bool := trimB n && trimB d && decide (d.length ≠ 0) && !(decide (n.length = 0) && s) && gcd1 (lval n) (lval d)
end Go.Proofs.Ytggicfmbdmjhkaa.AM
/- What the printed functions answer, as contracts. -/
namespace Go.Proofs.Ytggicfmbdmjhkaa.AM
open Go Go.RowKit Go.Proofs.Ytggicfmbdmjhkaa.PN Go.Proofs.Ytggicfmbdmjhkaa.V Go.Proofs.Ytggicfmbdmjhkaa.F Go.Proofs.YtggicfmbdmjhkaaW.PrintWords
set_option linter.unusedVariables false
set_option linter.unusedSimpArgs false
set_option maxRecDepth 8000
set_option maxHeartbeats 4000000
def ofN (l : List Nat) : List Int := l.map fun n : Nat => (n : Int)
def toN (l : List Int) : List Nat := l.map Int.toNat
theorem plb_row {S : Nat → Prop} {w : World} {v : Value} {l : List Nat} (h : PLb S w v l) (hl : l.length ≤ 9223372036854775807) : ∃ A c, v = .slice A (ofN l).length c ∧ (ofN l).length ≤ c ∧ Kd.C (Kd.int .u32) w A (ofN l).length (ofN l) := by
  obtain ⟨A, c, rfl, hc, hx⟩ := h
  have e : (ofN l).length = l.length := by simp [ofN]
  rw [e]
  refine ⟨A, c, rfl, hc, ?_⟩
  refine ⟨e, hl, fun h0 => ?_⟩
  obtain ⟨b, off, rfl, _, _⟩ := hx 0 h0
  refine ⟨_, rfl, fun j p hp => ?_⟩
  have hj : j < l.length := by
    rcases Nat.lt_or_ge j l.length with h | h
    · exact h
    · rw [List.getElem?_eq_none (by omega)] at hp; cases hp
  obtain ⟨b', off', e', _, hcell⟩ := hx j hj
  cases e'
  have hp' : p = ((l.getD j 0 : Nat) : Int) := by
    unfold ofN at hp
    rw [List.getElem?_map, List.getElem?_eq_getElem hj] at hp
    cases hp
    rw [List.getD_eq_getElem?_getD, List.getElem?_eq_getElem hj]; rfl
  refine ⟨[.int .u32 p], rfl, rfl, fun i u hu => ?_⟩
  match i, hu with
  | 0, hu =>
    cases hu
    rw [hp']
    show w.cell? (Addr.add ⟨b, off, none⟩ (j * 1 + 0)) = _
    rw [Nat.mul_one, Nat.add_zero]
    rw [add_at]
    exact hcell
theorem row_lb {w : World} {base : Nat} {ok : Nat → Prop} {v : Value} {zs : List Int} (h : Kd.R (Kd.int .u32) U32 w base ok v zs) (hz : ∀ z ∈ zs, 0 ≤ z) : Lbs w v (toN zs) := by
  obtain ⟨A, c, hv, hc, hrd⟩ := Kd.R_reads h
  obtain ⟨_, inner, ho, _⟩ := h
  have ho' := ho
  obtain ⟨_, h2⟩ := ho'
  have hlen : (toN zs).length = zs.length := by simp [toN]
  rcases h2 with ⟨h2, _⟩ | ⟨g, cap, cur, h2, hg, hh, _⟩
  · rw [h2] at hv
    injection hv with e1 e2 e3
    exact ⟨none, 0, by rw [hlen, ← e2]; exact h2, by omega, fun i hi => by omega⟩
  · have hv' := hv
    rw [h2] at hv'
    injection hv' with e1 e2 e3
    subst e1
    refine ⟨_, c, by rw [hlen]; exact hv, by omega, fun i hi => ?_⟩
    rw [hlen] at hi
    refine ⟨g, 0, cur, rfl, hh, ?_⟩
    obtain ⟨ad, cl, ea, _, hr, hcell⟩ := ReadsRow.get_ hrd 0 (i : Int) (by omega) (by omega)
    cases ea
    have hr : cl = [.int .u32 (zs.getD (i : Int).toNat 0)] := hr
    subst hr
    have h3 := hcell 0 _ rfl
    rw [Int.toNat_natCast] at h3
    have h3 : w.cell? ((⟨g, 0, none⟩ : Addr).add (i * 1 + 0)) = some (.int .u32 (zs.getD i 0)) := h3
    rw [Nat.mul_one, Nat.add_zero] at h3
    have e5 : ((toN zs).getD i 0 : Int) = zs.getD i 0 := by
      unfold toN
      rw [List.getD_eq_getElem?_getD, List.getD_eq_getElem?_getD, List.getElem?_map, List.getElem?_eq_getElem hi]
      exact Int.toNat_of_nonneg (hz _ (List.getElem_mem hi))
    rw [Nat.zero_add]
    rw [show (((toN zs).getD i 0 : Nat) : Int) = zs.getD i 0 from e5]
    have h4 := cell_of_row w g i cur U32 (0, 0) hh
    rw [← h4]
    rw [add_at, Nat.zero_add] at h3
    exact h3
theorem k_same8 {l : List Nat} (hl : l.length ≤ 100000) : Has Try.prog 11 [.plb l, .plb l] (.b true) := by
  have lo : (ofN l).length = l.length := by simp [ofN]
  obtain ⟨k, e⟩ := (Spec.same (ofN l) (by omega)).rounds
  refine ⟨by kernel_rfl, trivial, fun w S β vs hv => ?_⟩
  obtain ⟨v, u, rfl, q1, q2⟩ := rvs2 hv
  obtain ⟨A, ca, rfl, h1, h2⟩ := plb_row q1 (by omega)
  obtain ⟨A', cb, rfl, h3, h4⟩ := plb_row q2 (by omega)
  refine (anticlineref8_Same.calls k A ca (ofN l) A' cb (ofN l) true w h2 h1 h4 h3 e).mono ?_
  rintro e' w' ⟨rfl, hd⟩
  exact ⟨_, rfl, hd.below, rfl⟩
theorem k_known8 : Has Try.prog 6 [] (.b true) := by
  obtain ⟨k, e⟩ := Spec.known.rounds
  refine ⟨by kernel_rfl, trivial, fun w S β vs hv => ?_⟩
  have hvs : vs = [] := List.eq_nil_of_length_eq_zero hv.1.symm
  subst hvs
  refine (anticlinelaw8_known.calls k true w e).mono ?_
  rintro e' w' ⟨rfl, hd⟩
  exact ⟨_, rfl, hd, rfl⟩
theorem k_within8 {a n : Int} (hn : 0 < n) (hn' : n < 1000000000) : Has Try.prog 8 [.i a, .i n] (.i (a % n)) := by
  have e := Spec.within a n hn (by omega)
  refine ⟨by kernel_rfl, trivial, fun w S β vs hv => ?_⟩
  obtain ⟨v, u, rfl, q1, q2⟩ := rvs2 hv
  have q1 : v = .int .i64 a := q1
  have q2 : u = .int .i64 n := q2
  subst q1; subst q2
  refine (anticlinelaw8_within.calls a n (a % n) w e).mono ?_
  rintro e' w' ⟨rfl, hd⟩
  exact ⟨_, rfl, hd.below, rfl⟩
end Go.Proofs.Ytggicfmbdmjhkaa.AM
/- Pairs of slices, many of them. -/
namespace Go.Proofs.Ytggicfmbdmjhkaa.AM
open Go Go.RowKit Go.Proofs.Ytggicfmbdmjhkaa.PN Go.Proofs.Ytggicfmbdmjhkaa.V
set_option linter.unusedVariables false
set_option linter.unusedSimpArgs false
set_option maxRecDepth 8000
set_option maxHeartbeats 4000000
section
variable {o : Oper} {s : St}
end
section
variable {ops : Array Oper} {l : List Oper} {s : St} {acc : List Fp} {K : St → List Fp → Prop} {d : Option Tmp} {ty : TypeId} {ps : String} {aft : Array Edge}
end
end Go.Proofs.Ytggicfmbdmjhkaa.AM
/- Laws of dense matrices: walks: rows and matrices that are the same; ones. -/
namespace Go.Proofs.Ytggicfmbdmjhkaa.AM
open Go Go.RowKit Go.Proofs.Ytggicfmbdmjhkaa.PN Go.Proofs.Ytggicfmbdmjhkaa.V
open Go.Proofs.Ytggicfmbdmjhkaa.LA (S S_succ S_zero S_congr)
set_option linter.unusedVariables false
set_option linter.unusedSimpArgs false
set_option maxRecDepth 4000
set_option maxHeartbeats 4000000
end Go.Proofs.Ytggicfmbdmjhkaa.AM
/- Rows that are the same: the rest. -/
namespace Go.Proofs.Ytggicfmbdmjhkaa.AM
open Go Go.RowKit Go.Proofs.Ytggicfmbdmjhkaa.PN Go.Proofs.Ytggicfmbdmjhkaa.V
open Go.Proofs.Ytggicfmbdmjhkaa.LA (S S_succ S_zero S_congr)
set_option linter.unusedVariables false
set_option linter.unusedSimpArgs false
set_option maxRecDepth 4000
set_option maxHeartbeats 4000000
end Go.Proofs.Ytggicfmbdmjhkaa.AM
/- Rows of whole numbers that are written out. -/
namespace Go.Proofs.Ytggicfmbdmjhkaa.AM
open Go Go.RowKit Go.Proofs.Ytggicfmbdmjhkaa.PN Go.Proofs.Ytggicfmbdmjhkaa.V
open Go.Proofs.Ytggicfmbdmjhkaa.LA (S S_succ S_zero S_congr)
set_option linter.unusedVariables false
set_option linter.unusedSimpArgs false
set_option maxRecDepth 4000
set_option maxHeartbeats 4000000
/-- A vector of whole numbers. -/
def vz (zs : List Int) (i : Nat) : Rat := ((zs.getD i 0 : Int) : Rat)
end Go.Proofs.Ytggicfmbdmjhkaa.AM
/- NttProducts, walked. -/
namespace Go.Proofs.Ytggicfmbdmjhkaa.AM
open Go Go.RowKit Go.Proofs.Ytggicfmbdmjhkaa.PN Go.Proofs.Ytggicfmbdmjhkaa.V
set_option linter.unusedVariables false
set_option linter.unusedSimpArgs false
set_option maxRecDepth 8000
set_option maxHeartbeats 8000000
theorem rv_lb_plb {S : Nat → Prop} {B : Nat} {β : Nat → Nat → Value} {w : World} {l : List Nat} (v : Value) (h : RV S B β w (.lb l) v) : RV S B β w (.plb l) v := plb_lbs h
theorem k_same8b {l : List Nat} (hl : l.length ≤ 100000) : Has Try.prog 11 [.lb l, .lb l] (.b true) :=
  (k_same8 hl).args fun S B β w vs hv => rvs_cons rv_lb_plb (fun us hu => rvs_cons rv_lb_plb (fun us hu => hu) hu) hv
end Go.Proofs.Ytggicfmbdmjhkaa.AM
/- NttKnown, walked. -/
namespace Go.Proofs.Ytggicfmbdmjhkaa.AM
open Go Go.RowKit Go.Proofs.Ytggicfmbdmjhkaa.PN Go.Proofs.Ytggicfmbdmjhkaa.V Go.Proofs.Ytggicfmbdmjhkaa.F Go.Proofs.YtggicfmbdmjhkaaW.PrintWords
set_option linter.unusedVariables false
set_option linter.unusedSimpArgs false
set_option maxRecDepth 8000
set_option maxHeartbeats 8000000
theorem nt0 : ntt_Transform.f 80 [1, 2] false = some ([3, 998244352], 0) := by decide +kernel
theorem nt1 : ntt_Transform.f 80 [0, 1, 0, 0] false = some ([1, 911660635, 998244352, 86583718], 0) := by decide +kernel
theorem nt2 : ntt_Conv.f 80 [1, 2, 3] [4, 5] = some ([4, 13, 22, 15], 0) := by decide +kernel
theorem nt3 : ntt_Transform.f 80 [5, 5, 5, 5] true = some ([5, 0, 0, 0], 0) := by decide +kernel
theorem nt4 : ntt_Transform.f 80 [1, 2, 3] false = some ([], 3) := by decide +kernel
theorem nt5 : ntt_Transform.f 80 [1, 998244353] true = some ([], 1) := by decide +kernel
theorem nt6 : ntt_Transform.f 80 [] false = some ([], 3) := by decide +kernel
theorem nt7 : ntt_Conv.f 80 [] [1] = some ([], 3) := by decide +kernel
theorem np0 : ntt_Pow.f 80 3 998244352 = some 1 := by decide +kernel
theorem np1 : ntt_Pow.f 80 2 (-1) = some 499122177 := by decide +kernel
theorem np2 : ntt_Pow.f 80 0 0 = some 1 := by decide +kernel
theorem np3 : ntt_Pow.f 80 998244353 (-3) = some 0 := by decide +kernel
theorem nt8 : ntt_Conv.f 80 (ofN (List.replicate 1000 0)) (ofN (List.replicate 26 0)) = some ([], 3) := by decide +kernel
theorem nt9 : ∃ k, ntt_Conv.f k (ofN (List.replicate 1000 0)) (ofN (List.replicate 25 0)) = some (Spec.enc 1024 (Go.Proofs.Ytggicfmbdmjhkaa.NM.conv (fun _ => 0) (fun _ => 0)), 0) := by
  have e := Spec.conv_fast 1000 25 (by decide) (by decide) (by decide) (fun _ => 0) (fun _ => 0) (fun _ _ => rfl) (fun _ _ => rfl)
  have e1 : Spec.enc 1000 (fun _ => 0) = ofN (List.replicate 1000 0) := by decide +kernel
  have e2 : Spec.enc 25 (fun _ => 0) = ofN (List.replicate 25 0) := by decide +kernel
  rw [e1, e2] at e
  exact e.rounds
section
variable {o : Oper} {s : St}
theorem ok_make_lb {x y : Operand} {k k' : IntKind} {l : Int} (ho : o.op = .makeSlice 22 x y) (hx : avo s x = some (.v (.int k l))) (hy : avo s y = some (.v (.int k' l))) (h0 : 0 ≤ l) (hc : l ≤ 1000000) : LOK Try.prog o s ⟨some (.lb (List.replicate l.toNat 0)), [], []⟩ := by
  refine lok_kept fun s2 hl W N β w a hs K Q hK => ?_
  have h1 : a.eval x = .int k l := hs.opv (by rw [hl.avo (by rw [ho]; simp [Op.operands])]; exact hx)
  have h2 : a.eval y = .int k' l := hs.opv (by rw [hl.avo (by rw [ho]; simp [Op.operands])]; exact hy)
  obtain ⟨i0, hi, hz0, hz1, hz2⟩ := info_parts info_u32
  have hrun := run_make (P := Try.prog) w 22 U32 i0 _ Try.underlying22 hi hz0 k k' l l h0 (Int.le_refl _) (by rw [hz2]; omega) (by omega)
  rw [hz1] at hrun
  generalize hcs : madeCells _ (l.toNat * 1) = cs at hrun
  have hcsz : cs.size = l.toNat * 1 := by rw [← hcs]; exact size_madeCells _ _
  have hget : ∀ i, i < l.toNat → cs[i]? = some (.int .u32 ((0 : Nat) : Int)) := fun i hi' => by
    rw [← hcs, made_get (by omega) (by simp [Value.cells])]
    simp [Nat.mod_one, Value.cells]
  have hop : (execOp a.eval o).run Try.prog w = .ok (.value (.slice (some ⟨w.heap.size, 0, none⟩) l.toNat l.toNat)) (w.alloc (.cells cs U32)) := by
    unfold execOp; rw [ho]; simp only []; rw [h1, h2]; simp only [Sem.run_bind, hrun]; rfl
  unfold Oper.wp
  rw [hop]
  refine hK _ _ (Kept.alloc w _) fun x hx' => ?_
  cases hx'
  have hlen : (List.replicate l.toNat 0).length = l.toNat := List.length_replicate
  refine ⟨trivial, some ⟨w.heap.size, 0, none⟩, l.toNat, by rw [hlen], by rw [hlen]; exact Nat.le_refl _, fun i hin => ⟨w.heap.size, 0, cs, rfl, row_new w cs U32, ?_⟩⟩
  rw [hlen] at hin
  rw [Nat.zero_add, hget i hin]
  have : (List.replicate l.toNat 0).getD i 0 = 0 := by
    rw [List.getD_eq_getElem?_getD, List.getElem?_replicate]
    split <;> rfl
  rw [this]
end
theorem st_make_lb {ops : Array Oper} {q : List Oper} {s : St} {acc : List Fp} {K : St → List Fp → Prop} {d : Option Tmp} {ty : TypeId} {ps : String} {aft : Array Edge} {x y : Operand} {k k' : IntKind} {l : Int} (hx : avo s x = some (.v (.int k l))) (hy : avo s y = some (.v (.int k' l))) (h0 : 0 ≤ l) (hc : l ≤ 1000000)
    (h : AOps Try.prog ops q (nxt s d (some (.lb (List.replicate l.toNat 0))) []) (([], []) :: acc) K) : AOps Try.prog ops (⟨d, .makeSlice 22 x y, ty, ps, aft, none⟩ :: q) s acc K := st_lok (ok_make_lb rfl hx hy h0 hc) h
theorem toN_ofN (l : List Nat) : toN (ofN l) = l := by
  unfold toN ofN
  rw [List.map_map]
  exact (List.map_congr_left (fun x _ => Int.toNat_natCast x)).trans (List.map_id' l)
/-- A transform that is known. -/
theorem t_has {l : List Nat} {b : Bool} {r : List Nat} {e : Int} (h : ntt_Transform.f 80 (ofN l) b = some (ofN r, e)) (hl : l.length ≤ 1000) : Has Try.prog 12 [.lb l, .b b] (.tup (.lb r) (.i e)) := by
  refine ⟨by kernel_rfl, ⟨trivial, trivial⟩, fun w S β vs hv => ?_⟩
  obtain ⟨v, u, rfl, q1, q2⟩ := rvs2 hv
  obtain ⟨A, ca, rfl, h1, h2⟩ := plb_row (plb_lbs (S := S) q1) (by omega)
  have q2 : u = .bool b := q2
  subst q2
  refine (ntt_Transform.calls 80 A ca (ofN l) b (ofN r) e w h2 h1 h).mono ?_
  rintro e' w' ⟨v, rfl, hr, hb⟩
  have hq := row_lb hr (fun z hz => by
    obtain ⟨n, _, rfl⟩ := List.mem_map.1 hz
    omega)
  have hrr : toN (ofN r) = r := toN_ofN r
  rw [hrr] at hq
  exact ⟨_, rfl, hb, _, _, rfl, hq, rfl⟩
theorem c_has {k : Nat} {a b : List Nat} {r : List Nat} {e : Int} (h : ntt_Conv.f k (ofN a) (ofN b) = some (ofN r, e)) (ha : a.length ≤ 10000) (hb : b.length ≤ 10000) : Has Try.prog 9 [.lb a, .lb b] (.tup (.lb r) (.i e)) := by
  refine ⟨by kernel_rfl, ⟨trivial, trivial⟩, fun w S β vs hv => ?_⟩
  obtain ⟨v, u, rfl, q1, q2⟩ := rvs2 hv
  obtain ⟨A, ca, rfl, h1, h2⟩ := plb_row (plb_lbs (S := S) q1) (by omega)
  obtain ⟨A', cb, rfl, h3, h4⟩ := plb_row (plb_lbs (S := S) q2) (by omega)
  refine (ntt_Conv.calls k A ca (ofN a) A' cb (ofN b) (ofN r) e w h2 h1 h4 h3 h).mono ?_
  rintro e' w' ⟨v, rfl, hr, hb⟩
  have hq := row_lb hr (fun z hz => by
    obtain ⟨n, _, rfl⟩ := List.mem_map.1 hz
    omega)
  have hrr : toN (ofN r) = r := toN_ofN r
  rw [hrr] at hq
  exact ⟨_, rfl, hb, _, _, rfl, hq, rfl⟩
theorem p_has {a n r : Int} (h : ntt_Pow.f 80 a n = some r) : Has Try.prog 13 [.v (.int .u32 a), .i n] (.v (.int .u32 r)) := by
  refine ⟨by kernel_rfl, trivial, fun w S β vs hv => ?_⟩
  obtain ⟨v, u, rfl, q1, q2⟩ := rvs2 hv
  have q1 : v = .int .u32 a := q1
  have q2 : u = .int .i64 n := q2
  subst q1; subst q2
  refine (ntt_Pow.calls 80 a n r w h).mono ?_
  rintro e' w' ⟨rfl, hd⟩
  exact ⟨_, rfl, hd.below, rfl⟩
theorem rv_nil_lb {S : Nat → Prop} {B : Nat} {β : Nat → Nat → Value} {w : World} (v : Value) (hv : RV S B β w (.v (.slice none 0 0)) v) : RV S B β w (.lb []) v := by
  have hv : v = .slice none 0 0 := hv
  subst hv
  exact ⟨none, 0, rfl, Nat.le_refl _, fun i hi => absurd hi (Nat.not_lt_zero _)⟩
theorem k_nttknown {which : Int} (hw : Fits .i64 which) : Has Try.prog 4 [.i which] (.b true) := by
  have t0 := t_has (l := [1, 2]) (b := false) (r := [3, 998244352]) (e := 0) nt0 (by decide)
  have t1 := t_has (l := [0, 1, 0, 0]) (b := false) (r := [1, 911660635, 998244352, 86583718]) (e := 0) nt1 (by decide)
  have t2 := c_has (a := [1, 2, 3]) (b := [4, 5]) (r := [4, 13, 22, 15]) (e := 0) nt2 (by decide) (by decide)
  have t3 := t_has (l := [5, 5, 5, 5]) (b := true) (r := [5, 0, 0, 0]) (e := 0) nt3 (by decide)
  have t4 := t_has (l := [1, 2, 3]) (b := false) (r := []) (e := 3) nt4 (by decide)
  have t5 := t_has (l := [1, 998244353]) (b := true) (r := []) (e := 1) nt5 (by decide)
  have t6 : Has Try.prog 12 [.v (.slice none 0 0), .b false] (.tup (.lb []) (.i 3)) := (t_has (l := []) (b := false) (r := []) (e := 3) nt6 (by decide)).args fun S B β w vs hv => rvs_cons rv_nil_lb (fun us hu => hu) hv
  have t7 : Has Try.prog 9 [.v (.slice none 0 0), .lb [1]] (.tup (.lb []) (.i 3)) := (c_has (a := []) (b := [1]) (r := []) (e := 3) nt7 (by decide) (by decide)).args fun S B β w vs hv => rvs_cons rv_nil_lb (fun us hu => hu) hv
  have t8 := c_has (a := List.replicate 1000 0) (b := List.replicate 26 0) (r := []) (e := 3) nt8 (by rw [List.length_replicate]; decide) (by rw [List.length_replicate]; decide)
  obtain ⟨k9, n9⟩ := nt9
  obtain ⟨z, hz, e9⟩ : ∃ z : List Nat, z.length = 1024 ∧ Spec.enc 1024 (Go.Proofs.Ytggicfmbdmjhkaa.NM.conv (fun _ => 0) (fun _ => 0)) = ofN z := by
    refine ⟨toN (Spec.enc 1024 (Go.Proofs.Ytggicfmbdmjhkaa.NM.conv (fun _ => 0) (fun _ => 0))), by rw [toN, List.length_map, Spec.enc_length], ?_⟩
    unfold ofN toN
    rw [List.map_map]
    refine ((List.map_congr_left fun x hx => ?_).trans (List.map_id' _)).symm
    exact Int.toNat_of_nonneg (Go.Proofs.Ytggicfmbdmjhkaa.Pure.Both.enc_nonneg _ _ x hx)
  rw [e9] at n9
  have t9 := c_has (a := List.replicate 1000 0) (b := List.replicate 25 0) (r := z) (e := 0) n9 (by rw [List.length_replicate]; decide) (by rw [List.length_replicate]; decide)
  have s1 := k_same8b (l := [3, 998244352]) (by decide)
  have s2 := k_same8b (l := [4, 13, 22, 15]) (by decide)
  have s3 := k_same8b (l := [5, 0, 0, 0]) (by decide)
  have q0 := p_has np0
  have q1 := p_has np1
  have q2 := p_has np2
  have q3 := p_has np3
  have kw := k_within8 (a := which) (n := 7) (by decide) (by decide)
  refine has_of Try.func4 (by kernel_rfl) rfl Try.ntmps4 Try.results4 rfl rfl rfl ?_
  repeat(first|refine run1p ?_|((with_reducible apply st_call);exact rfl;exact rfl;exact rfl;first|(exact k_known8))|((with_reducible apply st_callg);exact rfl;exact rfl;(first|exact rfl|assumption);exact rfl;exact rfl;exact rfl;first|(exact k_known8)))
  refine awp_no rfl rfl ?_
  repeat(first|refine run1p ?_|((with_reducible apply st_call);exact rfl;exact rfl;exact rfl;first|(exact t0)|(exact t1)|(exact t2)|(exact t3)|(exact t4)|(exact t5)|(exact t6)|(exact t7))|((with_reducible apply st_callg);exact rfl;exact rfl;(first|exact rfl|assumption);exact rfl;exact rfl;exact rfl;first|(exact t0)|(exact t1)|(exact t2)|(exact t3)|(exact t4)|(exact t5)|(exact t6)|(exact t7)))
  refine st_make_lb rfl rfl (by decide) (by decide) ?_
  refine st_make_lb rfl rfl (by decide) (by decide) ?_
  repeat(first|refine run1p ?_|((with_reducible apply st_call);exact rfl;exact rfl;exact rfl;first|(exact t8))|((with_reducible apply st_callg);exact rfl;exact rfl;(first|exact rfl|assumption);exact rfl;exact rfl;exact rfl;first|(exact t8)))
  refine st_make_lb rfl rfl (by decide) (by decide) ?_
  refine st_make_lb rfl rfl (by decide) (by decide) ?_
  repeat(first|refine run1p ?_|((with_reducible apply st_call);exact rfl;exact rfl;exact rfl;first|(exact t9)|(exact s1)|(exact s2)|(exact s3)|(exact q0)|(exact q1)|(exact q2)|(exact q3))|((with_reducible apply st_callg);exact rfl;exact rfl;(first|exact rfl|assumption);exact rfl;exact rfl;exact rfl;first|(exact t9)|(exact s1)|(exact s2)|(exact s3)|(exact q0)|(exact q1)|(exact q2)|(exact q3)))
  have w1 : 0 ≤ which % 7 := by omega
  have w2 : which % 7 < 7 := by omega
  repeat(first|refine run1p ?_|((with_reducible apply st_call);exact rfl;exact rfl;exact rfl;first|(exact kw))|((with_reducible apply st_callg);exact rfl;exact rfl;(first|exact rfl|assumption);exact rfl;exact rfl;exact rfl;first|(exact kw)))
  refine ⟨.inr rfl, _, Imp.refl _, .one (.tmp ?_)⟩
  generalize hj : which % 7 = jj at *
  obtain ⟨j, rfl⟩ : ∃ j : Nat, jj = (j : Int) := ⟨jj.toNat, by omega⟩
  have hj7 : j < 7 := by omega
  refine congrArg some ?_
  match j, hj7 with
  | 0, _ => rfl
  | 1, _ => rfl
  | 2, _ => rfl
  | 3, _ => rfl
  | 4, _ => rfl
  | 5, _ => show AV.v (.bool (decide ((z.length : Int) = 1024))) = AV.b true; rw [hz]; rfl
  | 6, _ => rfl
end Go.Proofs.Ytggicfmbdmjhkaa.AM

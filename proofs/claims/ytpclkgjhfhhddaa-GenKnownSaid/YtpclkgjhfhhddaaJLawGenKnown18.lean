/- Joined texts, 18: RwD RwE MkD LawVa TxA AmMf AmFl AmCl AmSt TxB. -/
import Derived.Test.YtpclkgjhfhhddaaJLawGenKnown17
import Derived.Test.YtpclkgjhfhhddaaJLawGenKnown11
import Derived.Laws.IdiomStrings
import Derived.Test.YtpclkgjhfhhddaaJLawGenKnown16
import Derived.ArgAppend
import Derived.Test.YtpclkgjhfhhddaaJLawGenKnown12
set_option linter.unusedVariables false
set_option linter.unusedSimpArgs false
/- Package gen: whatever comes in is checked (printed by gen/gen_rwd.py). -/
namespace Go.Proofs.Ytpclkgjhfhhddaa.AM
open Go Go.RowKit Go.Proofs.Ytpclkgjhfhhddaa.PN Go.Proofs.Ytpclkgjhfhhddaa.V
set_option linter.unusedVariables false
set_option linter.unusedSimpArgs false
set_option maxRecDepth 8000
set_option maxHeartbeats 8000000
/-- A row as it came in. -/
structure PR where
  m : Nat
  s : Nat → Bool
  f : Nat → List Nat
  g : Nat → List Nat
def PR.v (r : PR) : AV := .prow r.m r.s r.f r.g
structure PR.Fin (r : PR) : Prop where
  f : ∀ i, i < r.m → LF (r.f i)
  g : ∀ i, i < r.m → LF (r.g i)
/-- A system as it came in. -/
structure GR where
  k : Int
  n : Int
  r : Int
  A : PR
  B : PR
  G : PR
  H : PR
def GR.l (g : GR) : List AV := [.i g.k, .i g.n, .i g.r, g.A.v, g.B.v, g.G.v, g.H.v]
def GR.f (g : GR) (i : Nat) : AV := g.l.getD i (.v undef)
def GR.v (g : GR) : AV := .ag 7 g.f
def GR.rw (g : GR) (i : Nat) : AV := (g.l.drop 3).getD i (.v undef)
theorem GR.fok (g : GR) (U : Nat → Bool) : ∀ i, (g.f i).ok U
  | 0 | 1 | 2 | 3 | 4 | 5 | 6 => trivial
  | _ + 7 => trivial
theorem GR.rok (g : GR) (U : Nat → Bool) : ∀ i, (g.rw i).ok U
  | 0 | 1 | 2 | 3 => trivial
  | _ + 4 => trivial
structure GR.Fin (g : GR) : Prop where
  A : g.A.Fin
  B : g.B.Fin
  G : g.G.Fin
  H : g.H.Fin
def likeZ (k : Int) : Bool := decide (k = 6) || decide (k = 7)
def sizedB (k n r : Int) : Bool := !(decide (n < 1) || decide (8 < n)) && (bif likeZ k then decide (1 ≤ r) && decide (r ≤ 3) else decide (r = 0))
def kindB (k : Int) : Bool := decide (k < 1) || decide (7 < k)
def cnt (k n r : Int) (i : Nat) : Int := mpz (cmap k i) 0 * n + mpz (cmap k i) 1 * n * r + mpz (cmap k i) 2
def PR.len (r : PR) (c : Int) : Bool := decide ((r.m : Int) = c)
def PR.sm (r : PR) : Bool := decide (∀ i, i < r.m → smB (r.s i) (r.f i) (r.g i) = true)
def PR.has (r : PR) (s : Bool) (n d : List Nat) : Bool := !decide (∀ j, j < r.m → eqB s n d (r.s j) (r.f j) (r.g j) = false)
def PR.meets (a b : PR) : Bool := !decide (∀ i, i < a.m → b.has (a.s i) (a.f i) (a.g i) = false)
def chkV (b0 b1 b2 b3 s0 s1 s2 s3 e : Bool) : Int := bif b0 && b1 && b2 && b3 then (bif s0 && s1 && s2 && s3 then (bif e then 5 else 0) else 1) else 3
def chkR (g : GR) : Int := chkV (g.A.len (cnt g.k g.n g.r 0)) (g.B.len (cnt g.k g.n g.r 1)) (g.G.len (cnt g.k g.n g.r 2)) (g.H.len (cnt g.k g.n g.r 3)) g.A.sm g.B.sm g.G.sm g.H.sm (g.A.meets g.B)
/-- What is told of a system. -/
def chk (g : GR) : Int := bif kindB g.k then 2 else bif sizedB g.k g.n g.r then chkR g else 1
end Go.Proofs.Ytpclkgjhfhhddaa.AM
/- The document's check of whatever comes in (printed by gen/gen_rwe.py). -/
namespace Go.Proofs.Ytpclkgjhfhhddaa.AM
open Go Go.RowKit Go.Proofs.Ytpclkgjhfhhddaa.PN Go.Proofs.Ytpclkgjhfhhddaa.V
set_option linter.unusedVariables false
set_option linter.unusedSimpArgs false
set_option maxRecDepth 8000
set_option maxHeartbeats 8000000
/-- What is wrong with kind and size. -/
def headV (k n r : Int) : Int := bif kindB k then 2 else bif sizedB k n r then 0 else 1
end Go.Proofs.Ytpclkgjhfhhddaa.AM
/- Laws of systems: what is known. -/
namespace Go.Proofs.Ytpclkgjhfhhddaa.AM
open Go Go.RowKit Go.Proofs.Ytpclkgjhfhhddaa.PN Go.Proofs.Ytpclkgjhfhhddaa.V
open Go.Proofs.Ytpclkgjhfhhddaa.LA (S S_succ S_zero S_congr)
set_option linter.unusedVariables false
set_option linter.unusedSimpArgs false
set_option maxRecDepth 8000
set_option maxHeartbeats 8000000
theorem rv_agv {S : Nat → Prop} {B : Nat} {β : Nat → Nat → Value} {w : World} {n : Nat} {f f' : Nat → AV} (h : ∀ i, i < n → ∀ v, RV S B β w (f i) v → RV S B β w (f' i) v) (v : Value) (hv : RV S B β w (.ag n f) v) : RV S B β w (.ag n f') v := by
  obtain ⟨cs, e1, e2, e3⟩ := hv
  refine ⟨cs, e1, e2, fun i hi => ?_⟩
  obtain ⟨y, a0, a1, a2⟩ := e3 i hi
  exact ⟨y, a0, a1, h i hi y a2⟩
theorem Has.agv {P : Program} {f : FuncId} {n : Nat} {u u' : Nat → AV} {xs : List AV} {r : AV} (h : ∀ S B β w i, i < n → ∀ v, RV S B β w (u i) v → RV S B β w (u' i) v) (H : Has P f (.ag n u' :: xs) r) : Has P f (.ag n u :: xs) r :=
  Has.args H fun S B β w vs hv => rvs_cons (rv_agv (h S B β w)) rvs_same hv
theorem rv_nil0 {S : Nat → Prop} {B : Nat} {β : Nat → Nat → Value} {w : World} {f : Nat → RA} (v : Value) (hv : RV S B β w (.v (.slice none 0 0)) v) : RV S B β w (.row false 0 f) v :=
  ⟨none, 0, hv, Nat.le_refl _, Nat.zero_le _, fun i hi => absurd hi (Nat.not_lt_zero _)⟩
def kg : GD := ⟨3, 1, 0, 1, 0, 0, 0, fun _ => 5, fun _ => 0, fun _ => 0, fun _ => 0⟩
theorem kg_ok : kg.OK := by
  refine ⟨by decide, by decide, by decide, by decide, by decide, fun h => (by cases h), fun _ => rfl, ?_, ⟨fun i _ => by show wt 5 ≤ 4; decide, fun i hi => absurd hi (Nat.not_lt_zero _), fun i hi => absurd hi (Nat.not_lt_zero _), fun i hi => absurd hi (Nat.not_lt_zero _)⟩, fun i hi j hj => absurd hj (Nat.not_lt_zero _)⟩
  intro i hi
  have hi4 : i = 0 ∨ i = 1 ∨ i = 2 ∨ i = 3 := by omega
  rcases hi4 with rfl | rfl | rfl | rfl <;> decide
theorem kg_args {S : Nat → Prop} {B : Nat} {β : Nat → Nat → Value} {w : World} {u : Nat → AV} {q : Nat → RA} (h0 : u 0 = .i 3) (h1 : u 1 = .i 1) (h2 : u 2 = .i 0) (h3 : u 3 = .row false 1 q) (hq : q 0 = .q 5) (h4 : u 4 = .v (.slice none 0 0)) (h5 : u 5 = .v (.slice none 0 0)) (h6 : u 6 = .v (.slice none 0 0)) : ∀ i, i < 7 → ∀ v, RV S B β w (u i) v → RV S B β w (kg.f i) v := by
  intro i hi v hv
  match i, hi with
  | 0, _ => rw [h0] at hv; exact hv
  | 1, _ => rw [h1] at hv; exact hv
  | 2, _ => rw [h2] at hv; exact hv
  | 3, _ =>
    rw [h3] at hv
    refine rv_row (fun i hi => ?_) v hv
    have hi : i < 1 := hi
    obtain rfl : i = 0 := by omega
    exact hq
  | 4, _ => rw [h4] at hv; exact rv_nil0 v hv
  | 5, _ => rw [h5] at hv; exact rv_nil0 v hv
  | 6, _ => rw [h6] at hv; exact rv_nil0 v hv
theorem k_known5 : Has Try.prog 20 [] (.b true) := by
  have e5 : gent kg 0 0 = 5 := rfl
  have c5 := hs_int 5 (by decide) (by decide)
  refine has_of Try.func20 (by kernel_rfl) rfl Try.ntmps20 Try.results20 rfl rfl rfl ?_
  repeat(first|refine run1p ?_|((with_reducible apply st_call);exact rfl;exact rfl;exact rfl;first|(exact c5))|((with_reducible apply st_callg);exact rfl;exact rfl;(first|exact rfl|assumption);exact rfl;exact rfl;exact rfl;first|(exact c5)))
  repeat(first|refine run1p ?_|((with_reducible apply st_call);exact rfl;exact rfl;exact rfl;first|(exact Has.agv (fun S B β w => kg_args rfl rfl rfl rfl rfl rfl rfl rfl) (ge_expand kg_ok))|(exact Has.agv (fun S B β w => kg_args rfl rfl rfl rfl rfl rfl rfl rfl) (g_check kg_ok))|(exact c5)|(exact hs_same (p := gent kg 0 0) (q := 5) (by rw [e5]; decide) (by decide)))|((with_reducible apply st_callg);exact rfl;exact rfl;(first|exact rfl|assumption);exact rfl;exact rfl;exact rfl;first|(exact Has.agv (fun S B β w => kg_args rfl rfl rfl rfl rfl rfl rfl rfl) (ge_expand kg_ok))|(exact Has.agv (fun S B β w => kg_args rfl rfl rfl rfl rfl rfl rfl rfl) (g_check kg_ok))|(exact c5)|(exact hs_same (p := gent kg 0 0) (q := 5) (by rw [e5]; decide) (by decide))))
  refine ⟨.inr rfl, _, Imp.refl _, .one (.tmp ?_)⟩
  rfl
end Go.Proofs.Ytpclkgjhfhhddaa.AM
/- These systems are refused as they must. -/
namespace Go.Proofs.Ytpclkgjhfhhddaa.AM
open Go Go.RowKit Go.Proofs.Ytpclkgjhfhhddaa.PN Go.Proofs.Ytpclkgjhfhhddaa.V
set_option linter.unusedVariables false
set_option linter.unusedSimpArgs false
set_option maxRecDepth 8000
set_option maxHeartbeats 8000000
/-- A row, whatever it is. -/
def prOf : AV → Option PR
  | .row _ n f => some ⟨n, fun i => (f i).sgn, fun i => raN (f i), fun i => raD (f i)⟩
  | .v (.slice none 0 0) => some ⟨0, fun _ => false, fun _ => [], fun _ => []⟩
  | .prow n s f g => some ⟨n, s, f, g⟩
  | _ => none
def intOf : AV → Option Int
  | .v (.int .i64 k) => some k
  | _ => none
/-- A system, whatever it is. -/
def grOf (u : Nat → AV) : Option GR := match intOf (u 0), intOf (u 1), intOf (u 2), prOf (u 3), prOf (u 4), prOf (u 5), prOf (u 6) with
  | some k, some n, some r, some A, some B, some G, some H => some ⟨k, n, r, A, B, G, H⟩
  | _, _, _, _, _, _, _ => none
instance (l : List Nat) : Decidable (LF l) := inferInstanceAs (Decidable (∀ x ∈ l, x < B))
def PR.finB (r : PR) : Bool := decide (∀ i, i < r.m → LF (r.f i)) && decide (∀ i, i < r.m → LF (r.g i))
def GR.finB (g : GR) : Bool := g.A.finB && g.B.finB && g.G.finB && g.H.finB
/-- Whole numbers in a row. -/
def zq (l : List Int) (i : Nat) : Rat := ((l.getD i 0 : Int) : Rat)
theorem k_ints5 {l : List Int} (hs : ∀ i, i < l.length → -1000 ≤ l.getD i 0 ∧ l.getD i 0 ≤ 1000) (hl : l.length ≤ 8) : Has Try.prog 27 [.seq .i64 l] (.row true l.length fun i => .q (zq l i)) := by
  refine has_of Try.func27 (by kernel_rfl) rfl Try.ntmps27 Try.results27 rfl rfl rfl ?_
  refine run0p ?_
  refine awp_loop (fun m' s => ∃ i, i ≤ l.length ∧ m' = l.length - i ∧ s = accS 3 (.rats i fun i => .q (zq l i)) [(0, .seq .i64 l), (4, .i (i : Int))] []) l.length _ (acc_start rfl rfl (by exact rfl) rfl (by decide) ?_ ?_) ⟨0, Nat.zero_le _, rfl, rfl⟩ ?_
  · exact eA
  · exact hA
  rintro m' s ⟨i, hi, rfl, rfl⟩
  refine run0p ?_
  refine awp_if rfl (fun h => ?_) (fun h => ?_)
  · have h : i < l.length := by omega
    have hz := hs i h
    have ci : Has Try.prog 25 [.i (l.getD i 0)] (.q (zq l i)) := hs_int _ (by omega) (by omega)
    repeat(first|refine run1p ?_|((with_reducible apply st_call);exact rfl;exact rfl;exact rfl;first|(exact ci))|((with_reducible apply st_callg);exact rfl;exact rfl;(first|exact rfl|assumption);exact rfl;exact rfl;exact rfl;first|(exact ci)))
    refine q_loop (m' := l.length - (i + 1)) (by omega) (acc_next (a := 18) rfl rfl rfl (glue_one rfl) (by exact True.intro) rfl rfl ?_ (by exact True.intro)) ⟨i + 1, by omega, rfl, rfl⟩
    exact alle rfl (Le.eq rfl rfl) True.intro (alle rfl (Le.eq rfl rfl) True.intro True.intro)
  obtain rfl : i = l.length := by omega
  refine run0p ?_
  exact ⟨.inr rfl, _, imp_rowv 2 (fun i => .q (zq l i)) rfl rfl rfl (fun i hi => rfl), .one (.tmp rfl)⟩
/-- The systems that are refused. -/
def nilA : AV := .v (.slice none 0 0)
def oneA : AV := .row false 1 fun i => .q (zq [1] i)
def rawA (s : Bool) (n d : List Nat) : AV := .row false 1 fun i => [RA.raw s n d].getD i ra0
def erL : List (List AV) := [
  [.i 0, .i 0, .i 0, nilA, nilA, nilA, nilA], [.i 8, .i 1, .i 0, nilA, nilA, nilA, nilA], [.i 1, .i 0, .i 0, nilA, nilA, nilA, nilA], [.i 1, .i 9, .i 0, nilA, nilA, nilA, nilA],
  [.i 3, .i 1, .i 1, oneA, nilA, nilA, nilA], [.i 6, .i 1, .i 0, nilA, nilA, oneA, oneA], [.i 7, .i 1, .i 4, nilA, nilA, nilA, nilA], [.i 1, .i 2, .i 0, oneA, nilA, nilA, nilA],
  [.i 3, .i 1, .i 0, oneA, oneA, nilA, nilA], [.i 5, .i 1, .i 0, oneA, oneA, nilA, nilA], [.i 5, .i 2, .i 0, .row false 2 fun i => .q (zq [1, 2] i), .row false 2 fun i => .q (zq [3, 2] i), nilA, nilA],
  [.i 3, .i 1, .i 0, rawA false [] [], nilA, nilA, nilA], [.i 3, .i 1, .i 0, rawA false [0, 0, 0, 0, 1] [1], nilA, nilA, nilA], [.i 3, .i 1, .i 0, rawA false [2] [4], nilA, nilA, nilA],
  [.i 6, .i 1, .i 1, nilA, nilA, oneA, rawA true [] [1]]]
def erW : List Int := [2, 2, 1, 1, 1, 1, 1, 3, 3, 5, 5, 1, 1, 1, 1]
def erU (i j : Nat) : AV := (erL.getD i []).getD j (.v undef)
def erG (i : Nat) : GR := (grOf (erU i)).getD ⟨0, 0, 0, ⟨0, fun _ => false, fun _ => [], fun _ => []⟩, ⟨0, fun _ => false, fun _ => [], fun _ => []⟩, ⟨0, fun _ => false, fun _ => [], fun _ => []⟩, ⟨0, fun _ => false, fun _ => [], fun _ => []⟩⟩
end Go.Proofs.Ytpclkgjhfhhddaa.AM
/- The document's texts of small numbers (printed by gen/gen_text.py). -/
namespace Go.Proofs.Ytpclkgjhfhhddaa.V
open Go Go.RowKit Go.Proofs.Ytpclkgjhfhhddaa.PN
set_option linter.unusedVariables false
set_option linter.unusedSimpArgs false
set_option maxHeartbeats 4000000 in
theorem r_text0 {w : World} (A : Option Addr) (c : Nat) :
    Calls Try.prog 82 #[.slice A 0 c] w fun e w' => e = .returned (.string ⟨#[48]⟩) ∧ Kept w w' := by
  go_enter Try.func82, Try.ntmps82
  go_wp2_with (go_at_call 76; refine (r_trim A c 0 0 _ (Nat.zero_le _) (fun i hi => absurd hi (Nat.not_lt_zero _)) (by decide) (by decide)).mono ?_; rintro e w1 ⟨v1, rfl, hv1, hk1⟩; obtain ⟨A1, c1, rfl, _, _⟩ := hv1.at; have HK := Lib.hid hk1; clear hk1 hv1)
  have hz0 : ((size 0 : Nat) : Int) = 0 := by rw [size_zero]; rfl
  go_loopw [3, 4] (fun x s wr => x = .slice A1 (size 0) c1 ∧ s = .string { data := #[] } ∧ Hid (Kept w wr)) (fun _ _ _ => 0)
  case atStart => exact ⟨rfl, rfl, HK⟩
  case round =>
    obtain ⟨rfl, rfl, HK⟩ := hrel
    rw [size_zero]
    go_wp2
    go_ret
    exact ⟨rfl, HK.out⟩
set_option maxRecDepth 20000 in
set_option maxHeartbeats 4000000 in
theorem r_text1 {w : World} (A : Option Addr) (c : Nat) (hc : 1 ≤ c) (ha : At w A 1 1) :
    Calls Try.prog 82 #[.slice A 1 c] w fun e w' => e = .returned (.string ⟨#[49]⟩) ∧ Kept w w' := by
  have hsz : size 1 = 1 := by decide
  have HA := Lib.hid ha
  clear ha
  go_enter Try.func82, Try.ntmps82
  go_wp2_with (go_at_call 76; refine (r_trim A c 1 1 _ hc HA.out (by decide) (by decide)).mono ?_; rintro e w1 ⟨v1, rfl, ⟨A1, c1, rfl, hc1, hx⟩, hk1⟩; obtain ⟨b, off, cs, rfl, hS, hr, hcell⟩ := hx 0 (by rw [hsz]; decide); have HK := Lib.hid hk1; clear hk1 hx)
  have hcw : w1.cell? ⟨b, off, none⟩ = some (.int .u32 1) := (cell_of_row w1 b off cs U32 (0, 0) hr).trans hcell
  have hfw : w1.frozen? ⟨b, off, none⟩ = false := frozen_of_row w1 b off cs U32 hr
  rw [hsz] at *
  go_loopw [3, 4] (fun x s wr => (x = .slice (some ⟨b, off, none⟩) 1 c1 ∧ s = .string { data := #[] } ∧ wr = w1) ∨ (∃ A2 c2, x = .slice A2 0 c2 ∧ s = .string { data := #[49] } ∧ Hid (Kept w wr))) (fun x _ _ => match x with | .slice _ n _ => n | _ => 0)
  case atStart => exact .inl ⟨rfl, rfl, rfl⟩
  case round =>
    rcases hrel with ⟨rfl, rfl, rfl⟩ | ⟨A2, c2, rfl, rfl, HK⟩
    · go_wp2
      go_loopw [5, 6] (fun q i w9 => (q = .int .u64 0 ∧ i = .int .i64 1 ∧ w9 = wr) ∨ (q = .int .u64 1 ∧ i = .int .i64 0 ∧ w9 = wr.setCell ⟨b, off, none⟩ (.int .u32 0))) (fun _ i _ => (intOf i).toNat)
      case atStart => exact .inl ⟨rfl, rfl, rfl⟩
      case round =>
        rcases hrel with ⟨rfl, rfl, rfl⟩ | ⟨rfl, rfl, rfl⟩
        · go_wp2
          have hb : bits BinOp.or IntKind.u64 0 1 = 1 := by decide
          rw [hb]
          exact ⟨.inr ⟨rfl, rfl, rfl⟩, by decide⟩
        · have ha2 : At (wr.setCell ⟨b, off, none⟩ (.int .u32 0)) (some ⟨b, off, none⟩) 0 1 := fun i hi => by
            obtain rfl : i = 0 := by omega
            exact ⟨b, off, rfl, by simp [go_sem, hcw]; rfl⟩
          have HA2 := Lib.hid ha2
          clear ha2
          go_wp2_with (go_at_call 76; refine (r_trim _ c1 0 1 _ hc1 HA2.out (by decide) (by decide)).mono ?_; rintro e w3 ⟨v3, rfl, hv3, hk3⟩; obtain ⟨A3, c3, rfl, _, _⟩ := hv3.at; have HK3 := Lib.hid hk3; clear hk3 hv3)
          have hz0 : ((size 0 : Nat) : Int) = 0 := by rw [size_zero]; rfl
          have HK2 := Lib.hid ((HK.out.set (k := b) hS off (.int .u32 0)).then HK3.out)
          rw [size_zero]
          go_loopw [5, 7, 8] (fun q t i w9 => (q = .int .u64 1 ∧ t = .string { data := #[] } ∧ i = .int .i64 0 ∧ Hid (Kept w w9)) ∨ (q = .int .u64 0 ∧ t = .string { data := #[49] } ∧ i = .int .i64 1 ∧ Hid (Kept w w9))) (fun q _ _ _ => (intOf q).toNat)
          case atStart => exact .inl ⟨rfl, rfl, rfl, HK2⟩
          case round =>
            rcases hrel with ⟨rfl, rfl, rfl, HK4⟩ | ⟨rfl, rfl, rfl, HK4⟩
            · have hconv : (convert 28 9 (.slice (some ⟨wr.heap.size, 0, none⟩) 1 1)).run Try.prog (wr.alloc (.cells #[.int .u8 49] 5)) = .ok (.string ⟨#[49]⟩) (wr.alloc (.cells #[.int .u8 49] 5)) :=
                run_convert_bytes_back (wr.alloc (.cells #[.int .u8 49] 5)) 28 9 5 ⟨wr.heap.size, 0, none⟩ 1 [49] Try.underlying28 Try.underlying5 Try.underlying9 fun j hj => by
                  have hj : j < 1 := hj
                  obtain rfl : j = 0 := by omega
                  exact (cell_of_row _ _ 0 _ _ (0, 0) (row_new wr #[.int .u8 49] 5)).trans rfl
              have hk5 : Kept w (wr.alloc (.cells #[.int .u8 49] 5)) := HK4.out.then (Kept.alloc wr _)
              have HK5 := Lib.hid hk5
              go_wp2
              exact ⟨.inr ⟨rfl, rfl, rfl, HK5⟩, by decide⟩
            · go_wp2
              exact ⟨.inr ⟨_, _, rfl, rfl, HK4⟩, Nat.zero_lt_one⟩
    · go_wp2
      go_ret
      exact ⟨rfl, HK.out⟩
set_option maxRecDepth 20000 in
set_option maxHeartbeats 4000000 in
theorem r_text2 {w : World} (A : Option Addr) (c : Nat) (hc : 1 ≤ c) (ha : At w A 2 1) :
    Calls Try.prog 82 #[.slice A 1 c] w fun e w' => e = .returned (.string ⟨#[50]⟩) ∧ Kept w w' := by
  have hsz : size 2 = 1 := by decide
  have HA := Lib.hid ha
  clear ha
  go_enter Try.func82, Try.ntmps82
  go_wp2_with (go_at_call 76; refine (r_trim A c 2 1 _ hc HA.out (by decide) (by decide)).mono ?_; rintro e w1 ⟨v1, rfl, ⟨A1, c1, rfl, hc1, hx⟩, hk1⟩; obtain ⟨b, off, cs, rfl, hS, hr, hcell⟩ := hx 0 (by rw [hsz]; decide); have HK := Lib.hid hk1; clear hk1 hx)
  have hcw : w1.cell? ⟨b, off, none⟩ = some (.int .u32 2) := (cell_of_row w1 b off cs U32 (0, 0) hr).trans hcell
  have hfw : w1.frozen? ⟨b, off, none⟩ = false := frozen_of_row w1 b off cs U32 hr
  rw [hsz] at *
  go_loopw [3, 4] (fun x s wr => (x = .slice (some ⟨b, off, none⟩) 1 c1 ∧ s = .string { data := #[] } ∧ wr = w1) ∨ (∃ A2 c2, x = .slice A2 0 c2 ∧ s = .string { data := #[50] } ∧ Hid (Kept w wr))) (fun x _ _ => match x with | .slice _ n _ => n | _ => 0)
  case atStart => exact .inl ⟨rfl, rfl, rfl⟩
  case round =>
    rcases hrel with ⟨rfl, rfl, rfl⟩ | ⟨A2, c2, rfl, rfl, HK⟩
    · go_wp2
      go_loopw [5, 6] (fun q i w9 => (q = .int .u64 0 ∧ i = .int .i64 1 ∧ w9 = wr) ∨ (q = .int .u64 2 ∧ i = .int .i64 0 ∧ w9 = wr.setCell ⟨b, off, none⟩ (.int .u32 0))) (fun _ i _ => (intOf i).toNat)
      case atStart => exact .inl ⟨rfl, rfl, rfl⟩
      case round =>
        rcases hrel with ⟨rfl, rfl, rfl⟩ | ⟨rfl, rfl, rfl⟩
        · go_wp2
          have hb : bits BinOp.or IntKind.u64 0 2 = 2 := by decide
          rw [hb]
          exact ⟨.inr ⟨rfl, rfl, rfl⟩, by decide⟩
        · have ha2 : At (wr.setCell ⟨b, off, none⟩ (.int .u32 0)) (some ⟨b, off, none⟩) 0 1 := fun i hi => by
            obtain rfl : i = 0 := by omega
            exact ⟨b, off, rfl, by simp [go_sem, hcw]; rfl⟩
          have HA2 := Lib.hid ha2
          clear ha2
          go_wp2_with (go_at_call 76; refine (r_trim _ c1 0 1 _ hc1 HA2.out (by decide) (by decide)).mono ?_; rintro e w3 ⟨v3, rfl, hv3, hk3⟩; obtain ⟨A3, c3, rfl, _, _⟩ := hv3.at; have HK3 := Lib.hid hk3; clear hk3 hv3)
          have hz0 : ((size 0 : Nat) : Int) = 0 := by rw [size_zero]; rfl
          have HK2 := Lib.hid ((HK.out.set (k := b) hS off (.int .u32 0)).then HK3.out)
          rw [size_zero]
          go_loopw [5, 7, 8] (fun q t i w9 => (q = .int .u64 2 ∧ t = .string { data := #[] } ∧ i = .int .i64 0 ∧ Hid (Kept w w9)) ∨ (q = .int .u64 0 ∧ t = .string { data := #[50] } ∧ i = .int .i64 1 ∧ Hid (Kept w w9))) (fun q _ _ _ => (intOf q).toNat)
          case atStart => exact .inl ⟨rfl, rfl, rfl, HK2⟩
          case round =>
            rcases hrel with ⟨rfl, rfl, rfl, HK4⟩ | ⟨rfl, rfl, rfl, HK4⟩
            · have hconv : (convert 28 9 (.slice (some ⟨wr.heap.size, 0, none⟩) 1 1)).run Try.prog (wr.alloc (.cells #[.int .u8 50] 5)) = .ok (.string ⟨#[50]⟩) (wr.alloc (.cells #[.int .u8 50] 5)) :=
                run_convert_bytes_back (wr.alloc (.cells #[.int .u8 50] 5)) 28 9 5 ⟨wr.heap.size, 0, none⟩ 1 [50] Try.underlying28 Try.underlying5 Try.underlying9 fun j hj => by
                  have hj : j < 1 := hj
                  obtain rfl : j = 0 := by omega
                  exact (cell_of_row _ _ 0 _ _ (0, 0) (row_new wr #[.int .u8 50] 5)).trans rfl
              have hk5 : Kept w (wr.alloc (.cells #[.int .u8 50] 5)) := HK4.out.then (Kept.alloc wr _)
              have HK5 := Lib.hid hk5
              go_wp2
              exact ⟨.inr ⟨rfl, rfl, rfl, HK5⟩, by decide⟩
            · go_wp2
              exact ⟨.inr ⟨_, _, rfl, rfl, HK4⟩, Nat.zero_lt_one⟩
    · go_wp2
      go_ret
      exact ⟨rfl, HK.out⟩
set_option maxRecDepth 20000 in
set_option maxHeartbeats 4000000 in
theorem r_text3 {w : World} (A : Option Addr) (c : Nat) (hc : 1 ≤ c) (ha : At w A 3 1) :
    Calls Try.prog 82 #[.slice A 1 c] w fun e w' => e = .returned (.string ⟨#[51]⟩) ∧ Kept w w' := by
  have hsz : size 3 = 1 := by decide
  have HA := Lib.hid ha
  clear ha
  go_enter Try.func82, Try.ntmps82
  go_wp2_with (go_at_call 76; refine (r_trim A c 3 1 _ hc HA.out (by decide) (by decide)).mono ?_; rintro e w1 ⟨v1, rfl, ⟨A1, c1, rfl, hc1, hx⟩, hk1⟩; obtain ⟨b, off, cs, rfl, hS, hr, hcell⟩ := hx 0 (by rw [hsz]; decide); have HK := Lib.hid hk1; clear hk1 hx)
  have hcw : w1.cell? ⟨b, off, none⟩ = some (.int .u32 3) := (cell_of_row w1 b off cs U32 (0, 0) hr).trans hcell
  have hfw : w1.frozen? ⟨b, off, none⟩ = false := frozen_of_row w1 b off cs U32 hr
  rw [hsz] at *
  go_loopw [3, 4] (fun x s wr => (x = .slice (some ⟨b, off, none⟩) 1 c1 ∧ s = .string { data := #[] } ∧ wr = w1) ∨ (∃ A2 c2, x = .slice A2 0 c2 ∧ s = .string { data := #[51] } ∧ Hid (Kept w wr))) (fun x _ _ => match x with | .slice _ n _ => n | _ => 0)
  case atStart => exact .inl ⟨rfl, rfl, rfl⟩
  case round =>
    rcases hrel with ⟨rfl, rfl, rfl⟩ | ⟨A2, c2, rfl, rfl, HK⟩
    · go_wp2
      go_loopw [5, 6] (fun q i w9 => (q = .int .u64 0 ∧ i = .int .i64 1 ∧ w9 = wr) ∨ (q = .int .u64 3 ∧ i = .int .i64 0 ∧ w9 = wr.setCell ⟨b, off, none⟩ (.int .u32 0))) (fun _ i _ => (intOf i).toNat)
      case atStart => exact .inl ⟨rfl, rfl, rfl⟩
      case round =>
        rcases hrel with ⟨rfl, rfl, rfl⟩ | ⟨rfl, rfl, rfl⟩
        · go_wp2
          have hb : bits BinOp.or IntKind.u64 0 3 = 3 := by decide
          rw [hb]
          exact ⟨.inr ⟨rfl, rfl, rfl⟩, by decide⟩
        · have ha2 : At (wr.setCell ⟨b, off, none⟩ (.int .u32 0)) (some ⟨b, off, none⟩) 0 1 := fun i hi => by
            obtain rfl : i = 0 := by omega
            exact ⟨b, off, rfl, by simp [go_sem, hcw]; rfl⟩
          have HA2 := Lib.hid ha2
          clear ha2
          go_wp2_with (go_at_call 76; refine (r_trim _ c1 0 1 _ hc1 HA2.out (by decide) (by decide)).mono ?_; rintro e w3 ⟨v3, rfl, hv3, hk3⟩; obtain ⟨A3, c3, rfl, _, _⟩ := hv3.at; have HK3 := Lib.hid hk3; clear hk3 hv3)
          have hz0 : ((size 0 : Nat) : Int) = 0 := by rw [size_zero]; rfl
          have HK2 := Lib.hid ((HK.out.set (k := b) hS off (.int .u32 0)).then HK3.out)
          rw [size_zero]
          go_loopw [5, 7, 8] (fun q t i w9 => (q = .int .u64 3 ∧ t = .string { data := #[] } ∧ i = .int .i64 0 ∧ Hid (Kept w w9)) ∨ (q = .int .u64 0 ∧ t = .string { data := #[51] } ∧ i = .int .i64 1 ∧ Hid (Kept w w9))) (fun q _ _ _ => (intOf q).toNat)
          case atStart => exact .inl ⟨rfl, rfl, rfl, HK2⟩
          case round =>
            rcases hrel with ⟨rfl, rfl, rfl, HK4⟩ | ⟨rfl, rfl, rfl, HK4⟩
            · have hconv : (convert 28 9 (.slice (some ⟨wr.heap.size, 0, none⟩) 1 1)).run Try.prog (wr.alloc (.cells #[.int .u8 51] 5)) = .ok (.string ⟨#[51]⟩) (wr.alloc (.cells #[.int .u8 51] 5)) :=
                run_convert_bytes_back (wr.alloc (.cells #[.int .u8 51] 5)) 28 9 5 ⟨wr.heap.size, 0, none⟩ 1 [51] Try.underlying28 Try.underlying5 Try.underlying9 fun j hj => by
                  have hj : j < 1 := hj
                  obtain rfl : j = 0 := by omega
                  exact (cell_of_row _ _ 0 _ _ (0, 0) (row_new wr #[.int .u8 51] 5)).trans rfl
              have hk5 : Kept w (wr.alloc (.cells #[.int .u8 51] 5)) := HK4.out.then (Kept.alloc wr _)
              have HK5 := Lib.hid hk5
              go_wp2
              exact ⟨.inr ⟨rfl, rfl, rfl, HK5⟩, by decide⟩
            · go_wp2
              exact ⟨.inr ⟨_, _, rfl, rfl, HK4⟩, Nat.zero_lt_one⟩
    · go_wp2
      go_ret
      exact ⟨rfl, HK.out⟩
set_option maxRecDepth 20000 in
set_option maxHeartbeats 4000000 in
theorem r_text4 {w : World} (A : Option Addr) (c : Nat) (hc : 1 ≤ c) (ha : At w A 4 1) :
    Calls Try.prog 82 #[.slice A 1 c] w fun e w' => e = .returned (.string ⟨#[52]⟩) ∧ Kept w w' := by
  have hsz : size 4 = 1 := by decide
  have HA := Lib.hid ha
  clear ha
  go_enter Try.func82, Try.ntmps82
  go_wp2_with (go_at_call 76; refine (r_trim A c 4 1 _ hc HA.out (by decide) (by decide)).mono ?_; rintro e w1 ⟨v1, rfl, ⟨A1, c1, rfl, hc1, hx⟩, hk1⟩; obtain ⟨b, off, cs, rfl, hS, hr, hcell⟩ := hx 0 (by rw [hsz]; decide); have HK := Lib.hid hk1; clear hk1 hx)
  have hcw : w1.cell? ⟨b, off, none⟩ = some (.int .u32 4) := (cell_of_row w1 b off cs U32 (0, 0) hr).trans hcell
  have hfw : w1.frozen? ⟨b, off, none⟩ = false := frozen_of_row w1 b off cs U32 hr
  rw [hsz] at *
  go_loopw [3, 4] (fun x s wr => (x = .slice (some ⟨b, off, none⟩) 1 c1 ∧ s = .string { data := #[] } ∧ wr = w1) ∨ (∃ A2 c2, x = .slice A2 0 c2 ∧ s = .string { data := #[52] } ∧ Hid (Kept w wr))) (fun x _ _ => match x with | .slice _ n _ => n | _ => 0)
  case atStart => exact .inl ⟨rfl, rfl, rfl⟩
  case round =>
    rcases hrel with ⟨rfl, rfl, rfl⟩ | ⟨A2, c2, rfl, rfl, HK⟩
    · go_wp2
      go_loopw [5, 6] (fun q i w9 => (q = .int .u64 0 ∧ i = .int .i64 1 ∧ w9 = wr) ∨ (q = .int .u64 4 ∧ i = .int .i64 0 ∧ w9 = wr.setCell ⟨b, off, none⟩ (.int .u32 0))) (fun _ i _ => (intOf i).toNat)
      case atStart => exact .inl ⟨rfl, rfl, rfl⟩
      case round =>
        rcases hrel with ⟨rfl, rfl, rfl⟩ | ⟨rfl, rfl, rfl⟩
        · go_wp2
          have hb : bits BinOp.or IntKind.u64 0 4 = 4 := by decide
          rw [hb]
          exact ⟨.inr ⟨rfl, rfl, rfl⟩, by decide⟩
        · have ha2 : At (wr.setCell ⟨b, off, none⟩ (.int .u32 0)) (some ⟨b, off, none⟩) 0 1 := fun i hi => by
            obtain rfl : i = 0 := by omega
            exact ⟨b, off, rfl, by simp [go_sem, hcw]; rfl⟩
          have HA2 := Lib.hid ha2
          clear ha2
          go_wp2_with (go_at_call 76; refine (r_trim _ c1 0 1 _ hc1 HA2.out (by decide) (by decide)).mono ?_; rintro e w3 ⟨v3, rfl, hv3, hk3⟩; obtain ⟨A3, c3, rfl, _, _⟩ := hv3.at; have HK3 := Lib.hid hk3; clear hk3 hv3)
          have hz0 : ((size 0 : Nat) : Int) = 0 := by rw [size_zero]; rfl
          have HK2 := Lib.hid ((HK.out.set (k := b) hS off (.int .u32 0)).then HK3.out)
          rw [size_zero]
          go_loopw [5, 7, 8] (fun q t i w9 => (q = .int .u64 4 ∧ t = .string { data := #[] } ∧ i = .int .i64 0 ∧ Hid (Kept w w9)) ∨ (q = .int .u64 0 ∧ t = .string { data := #[52] } ∧ i = .int .i64 1 ∧ Hid (Kept w w9))) (fun q _ _ _ => (intOf q).toNat)
          case atStart => exact .inl ⟨rfl, rfl, rfl, HK2⟩
          case round =>
            rcases hrel with ⟨rfl, rfl, rfl, HK4⟩ | ⟨rfl, rfl, rfl, HK4⟩
            · have hconv : (convert 28 9 (.slice (some ⟨wr.heap.size, 0, none⟩) 1 1)).run Try.prog (wr.alloc (.cells #[.int .u8 52] 5)) = .ok (.string ⟨#[52]⟩) (wr.alloc (.cells #[.int .u8 52] 5)) :=
                run_convert_bytes_back (wr.alloc (.cells #[.int .u8 52] 5)) 28 9 5 ⟨wr.heap.size, 0, none⟩ 1 [52] Try.underlying28 Try.underlying5 Try.underlying9 fun j hj => by
                  have hj : j < 1 := hj
                  obtain rfl : j = 0 := by omega
                  exact (cell_of_row _ _ 0 _ _ (0, 0) (row_new wr #[.int .u8 52] 5)).trans rfl
              have hk5 : Kept w (wr.alloc (.cells #[.int .u8 52] 5)) := HK4.out.then (Kept.alloc wr _)
              have HK5 := Lib.hid hk5
              go_wp2
              exact ⟨.inr ⟨rfl, rfl, rfl, HK5⟩, by decide⟩
            · go_wp2
              exact ⟨.inr ⟨_, _, rfl, rfl, HK4⟩, Nat.zero_lt_one⟩
    · go_wp2
      go_ret
      exact ⟨rfl, HK.out⟩
set_option maxRecDepth 20000 in
set_option maxHeartbeats 4000000 in
theorem r_text6 {w : World} (A : Option Addr) (c : Nat) (hc : 1 ≤ c) (ha : At w A 6 1) :
    Calls Try.prog 82 #[.slice A 1 c] w fun e w' => e = .returned (.string ⟨#[54]⟩) ∧ Kept w w' := by
  have hsz : size 6 = 1 := by decide
  have HA := Lib.hid ha
  clear ha
  go_enter Try.func82, Try.ntmps82
  go_wp2_with (go_at_call 76; refine (r_trim A c 6 1 _ hc HA.out (by decide) (by decide)).mono ?_; rintro e w1 ⟨v1, rfl, ⟨A1, c1, rfl, hc1, hx⟩, hk1⟩; obtain ⟨b, off, cs, rfl, hS, hr, hcell⟩ := hx 0 (by rw [hsz]; decide); have HK := Lib.hid hk1; clear hk1 hx)
  have hcw : w1.cell? ⟨b, off, none⟩ = some (.int .u32 6) := (cell_of_row w1 b off cs U32 (0, 0) hr).trans hcell
  have hfw : w1.frozen? ⟨b, off, none⟩ = false := frozen_of_row w1 b off cs U32 hr
  rw [hsz] at *
  go_loopw [3, 4] (fun x s wr => (x = .slice (some ⟨b, off, none⟩) 1 c1 ∧ s = .string { data := #[] } ∧ wr = w1) ∨ (∃ A2 c2, x = .slice A2 0 c2 ∧ s = .string { data := #[54] } ∧ Hid (Kept w wr))) (fun x _ _ => match x with | .slice _ n _ => n | _ => 0)
  case atStart => exact .inl ⟨rfl, rfl, rfl⟩
  case round =>
    rcases hrel with ⟨rfl, rfl, rfl⟩ | ⟨A2, c2, rfl, rfl, HK⟩
    · go_wp2
      go_loopw [5, 6] (fun q i w9 => (q = .int .u64 0 ∧ i = .int .i64 1 ∧ w9 = wr) ∨ (q = .int .u64 6 ∧ i = .int .i64 0 ∧ w9 = wr.setCell ⟨b, off, none⟩ (.int .u32 0))) (fun _ i _ => (intOf i).toNat)
      case atStart => exact .inl ⟨rfl, rfl, rfl⟩
      case round =>
        rcases hrel with ⟨rfl, rfl, rfl⟩ | ⟨rfl, rfl, rfl⟩
        · go_wp2
          have hb : bits BinOp.or IntKind.u64 0 6 = 6 := by decide
          rw [hb]
          exact ⟨.inr ⟨rfl, rfl, rfl⟩, by decide⟩
        · have ha2 : At (wr.setCell ⟨b, off, none⟩ (.int .u32 0)) (some ⟨b, off, none⟩) 0 1 := fun i hi => by
            obtain rfl : i = 0 := by omega
            exact ⟨b, off, rfl, by simp [go_sem, hcw]; rfl⟩
          have HA2 := Lib.hid ha2
          clear ha2
          go_wp2_with (go_at_call 76; refine (r_trim _ c1 0 1 _ hc1 HA2.out (by decide) (by decide)).mono ?_; rintro e w3 ⟨v3, rfl, hv3, hk3⟩; obtain ⟨A3, c3, rfl, _, _⟩ := hv3.at; have HK3 := Lib.hid hk3; clear hk3 hv3)
          have hz0 : ((size 0 : Nat) : Int) = 0 := by rw [size_zero]; rfl
          have HK2 := Lib.hid ((HK.out.set (k := b) hS off (.int .u32 0)).then HK3.out)
          rw [size_zero]
          go_loopw [5, 7, 8] (fun q t i w9 => (q = .int .u64 6 ∧ t = .string { data := #[] } ∧ i = .int .i64 0 ∧ Hid (Kept w w9)) ∨ (q = .int .u64 0 ∧ t = .string { data := #[54] } ∧ i = .int .i64 1 ∧ Hid (Kept w w9))) (fun q _ _ _ => (intOf q).toNat)
          case atStart => exact .inl ⟨rfl, rfl, rfl, HK2⟩
          case round =>
            rcases hrel with ⟨rfl, rfl, rfl, HK4⟩ | ⟨rfl, rfl, rfl, HK4⟩
            · have hconv : (convert 28 9 (.slice (some ⟨wr.heap.size, 0, none⟩) 1 1)).run Try.prog (wr.alloc (.cells #[.int .u8 54] 5)) = .ok (.string ⟨#[54]⟩) (wr.alloc (.cells #[.int .u8 54] 5)) :=
                run_convert_bytes_back (wr.alloc (.cells #[.int .u8 54] 5)) 28 9 5 ⟨wr.heap.size, 0, none⟩ 1 [54] Try.underlying28 Try.underlying5 Try.underlying9 fun j hj => by
                  have hj : j < 1 := hj
                  obtain rfl : j = 0 := by omega
                  exact (cell_of_row _ _ 0 _ _ (0, 0) (row_new wr #[.int .u8 54] 5)).trans rfl
              have hk5 : Kept w (wr.alloc (.cells #[.int .u8 54] 5)) := HK4.out.then (Kept.alloc wr _)
              have HK5 := Lib.hid hk5
              go_wp2
              exact ⟨.inr ⟨rfl, rfl, rfl, HK5⟩, by decide⟩
            · go_wp2
              exact ⟨.inr ⟨_, _, rfl, rfl, HK4⟩, Nat.zero_lt_one⟩
    · go_wp2
      go_ret
      exact ⟨rfl, HK.out⟩
set_option maxRecDepth 20000 in
set_option maxHeartbeats 4000000 in
theorem r_text11 {w : World} (A : Option Addr) (c : Nat) (hc : 1 ≤ c) (ha : At w A 11 1) :
    Calls Try.prog 82 #[.slice A 1 c] w fun e w' => e = .returned (.string ⟨#[49, 49]⟩) ∧ Kept w w' := by
  have hsz : size 11 = 1 := by decide
  have HA := Lib.hid ha
  clear ha
  go_enter Try.func82, Try.ntmps82
  go_wp2_with (go_at_call 76; refine (r_trim A c 11 1 _ hc HA.out (by decide) (by decide)).mono ?_; rintro e w1 ⟨v1, rfl, ⟨A1, c1, rfl, hc1, hx⟩, hk1⟩; obtain ⟨b, off, cs, rfl, hS, hr, hcell⟩ := hx 0 (by rw [hsz]; decide); have HK := Lib.hid hk1; clear hk1 hx)
  have hcw : w1.cell? ⟨b, off, none⟩ = some (.int .u32 11) := (cell_of_row w1 b off cs U32 (0, 0) hr).trans hcell
  have hfw : w1.frozen? ⟨b, off, none⟩ = false := frozen_of_row w1 b off cs U32 hr
  rw [hsz] at *
  go_loopw [3, 4] (fun x s wr => (x = .slice (some ⟨b, off, none⟩) 1 c1 ∧ s = .string { data := #[] } ∧ wr = w1) ∨ (∃ A2 c2, x = .slice A2 0 c2 ∧ s = .string { data := #[49, 49] } ∧ Hid (Kept w wr))) (fun x _ _ => match x with | .slice _ n _ => n | _ => 0)
  case atStart => exact .inl ⟨rfl, rfl, rfl⟩
  case round =>
    rcases hrel with ⟨rfl, rfl, rfl⟩ | ⟨A2, c2, rfl, rfl, HK⟩
    · go_wp2
      go_loopw [5, 6] (fun q i w9 => (q = .int .u64 0 ∧ i = .int .i64 1 ∧ w9 = wr) ∨ (q = .int .u64 11 ∧ i = .int .i64 0 ∧ w9 = wr.setCell ⟨b, off, none⟩ (.int .u32 0))) (fun _ i _ => (intOf i).toNat)
      case atStart => exact .inl ⟨rfl, rfl, rfl⟩
      case round =>
        rcases hrel with ⟨rfl, rfl, rfl⟩ | ⟨rfl, rfl, rfl⟩
        · go_wp2
          have hb : bits BinOp.or IntKind.u64 0 11 = 11 := by decide
          rw [hb]
          exact ⟨.inr ⟨rfl, rfl, rfl⟩, by decide⟩
        · have ha2 : At (wr.setCell ⟨b, off, none⟩ (.int .u32 0)) (some ⟨b, off, none⟩) 0 1 := fun i hi => by
            obtain rfl : i = 0 := by omega
            exact ⟨b, off, rfl, by simp [go_sem, hcw]; rfl⟩
          have HA2 := Lib.hid ha2
          clear ha2
          go_wp2_with (go_at_call 76; refine (r_trim _ c1 0 1 _ hc1 HA2.out (by decide) (by decide)).mono ?_; rintro e w3 ⟨v3, rfl, hv3, hk3⟩; obtain ⟨A3, c3, rfl, _, _⟩ := hv3.at; have HK3 := Lib.hid hk3; clear hk3 hv3)
          have hz0 : ((size 0 : Nat) : Int) = 0 := by rw [size_zero]; rfl
          have HK2 := Lib.hid ((HK.out.set (k := b) hS off (.int .u32 0)).then HK3.out)
          rw [size_zero]
          go_loopw [5, 7, 8] (fun q t i w9 => (q = .int .u64 11 ∧ t = .string { data := #[] } ∧ i = .int .i64 0 ∧ Hid (Kept w w9)) ∨ (q = .int .u64 1 ∧ t = .string { data := #[49] } ∧ i = .int .i64 1 ∧ Hid (Kept w w9)) ∨ (q = .int .u64 0 ∧ t = .string { data := #[49, 49] } ∧ i = .int .i64 2 ∧ Hid (Kept w w9))) (fun q _ _ _ => (intOf q).toNat)
          case atStart => exact .inl ⟨rfl, rfl, rfl, HK2⟩
          case round =>
            rcases hrel with ⟨rfl, rfl, rfl, HK4⟩ | ⟨rfl, rfl, rfl, HK4⟩ | ⟨rfl, rfl, rfl, HK4⟩
            · have hconv : (convert 28 9 (.slice (some ⟨wr.heap.size, 0, none⟩) 1 1)).run Try.prog (wr.alloc (.cells #[.int .u8 49] 5)) = .ok (.string ⟨#[49]⟩) (wr.alloc (.cells #[.int .u8 49] 5)) :=
                run_convert_bytes_back (wr.alloc (.cells #[.int .u8 49] 5)) 28 9 5 ⟨wr.heap.size, 0, none⟩ 1 [49] Try.underlying28 Try.underlying5 Try.underlying9 fun j hj => by
                  have hj : j < 1 := hj
                  obtain rfl : j = 0 := by omega
                  exact (cell_of_row _ _ 0 _ _ (0, 0) (row_new wr #[.int .u8 49] 5)).trans rfl
              have hk5 : Kept w (wr.alloc (.cells #[.int .u8 49] 5)) := HK4.out.then (Kept.alloc wr _)
              have HK5 := Lib.hid hk5
              go_wp2
              exact ⟨.inr (.inl ⟨rfl, rfl, rfl, HK5⟩), by decide⟩
            · have hconv : (convert 28 9 (.slice (some ⟨wr.heap.size, 0, none⟩) 1 1)).run Try.prog (wr.alloc (.cells #[.int .u8 49] 5)) = .ok (.string ⟨#[49]⟩) (wr.alloc (.cells #[.int .u8 49] 5)) :=
                run_convert_bytes_back (wr.alloc (.cells #[.int .u8 49] 5)) 28 9 5 ⟨wr.heap.size, 0, none⟩ 1 [49] Try.underlying28 Try.underlying5 Try.underlying9 fun j hj => by
                  have hj : j < 1 := hj
                  obtain rfl : j = 0 := by omega
                  exact (cell_of_row _ _ 0 _ _ (0, 0) (row_new wr #[.int .u8 49] 5)).trans rfl
              have hk5 : Kept w (wr.alloc (.cells #[.int .u8 49] 5)) := HK4.out.then (Kept.alloc wr _)
              have HK5 := Lib.hid hk5
              go_wp2
              exact ⟨.inr (.inr ⟨rfl, rfl, rfl, HK5⟩), by decide⟩
            · go_wp2
              exact ⟨.inr ⟨_, _, rfl, rfl, HK4⟩, Nat.zero_lt_one⟩
    · go_wp2
      go_ret
      exact ⟨rfl, HK.out⟩
end Go.Proofs.Ytpclkgjhfhhddaa.V
/- Maps from whole numbers to functions. -/
namespace Go.Proofs.Ytpclkgjhfhhddaa.AM
open Go Go.RowKit Go.Proofs.Ytpclkgjhfhhddaa.PN Go.Proofs.Ytpclkgjhfhhddaa.V
set_option linter.unusedVariables false
set_option linter.unusedSimpArgs false
/-- Operations that write out a map of functions bound to one struct, one behind the other. -/
structure MfOps (ops : Array Oper) (M T : TypeId) (tab : List (Int × FuncId)) (n : Nat) : Prop where
  size : ops.size = 3 * n + 3
  make : ∃ o, ops[0]? = some o ∧ o.op = .makeMap M none ∧ o.dst = some 3 ∧ o.guard = none
  load : ∀ j, j < n → ∃ o, ops[3 * j + 1]? = some o ∧ o.op = .load T (.tmp 1) ∧ o.dst = some (2 * j + 4) ∧ o.guard = none
  func : ∀ j, j < n → ∃ o, ops[3 * j + 2]? = some o ∧ o.op = .makeFunc (.func (tab.getD j (0, 0)).2) #[.tmp (2 * j + 4)] #[] ∧ o.dst = some (2 * j + 5) ∧ o.guard = none
  ins : ∀ j, j < n → ∃ o, ops[3 * j + 3]? = some o ∧ o.op = .insert M (.tmp 3) (.const (.int .i64 (tab.getD j (0, 0)).1)) (.tmp (2 * j + 5)) ∧ o.dst = none ∧ o.guard = none
  mv : ∃ o, ops[3 * n + 1]? = some o ∧ o.op = .move (.tmp 3) ∧ o.dst = some (2 * n + 4) ∧ o.guard = none
  asg : ∃ o, ops[3 * n + 2]? = some o ∧ o.op = .assign (.tmp (2 * n + 4)) ∧ o.dst = some 2 ∧ o.guard = none
structure MfJ (w0 : World) (p u : Value) (tab : List (Int × FuncId)) (N j : Nat) (a : Act) (w : World) : Prop where
  nodef : a.defers = []
  size : a.tmps.size = N
  kept : Kept w0 w
  ptr : a.tmps.getD 1 undef = p
  mp : ∃ m es ck, a.tmps.getD 3 undef = .map (some m) ∧ w0.heap.size ≤ m ∧ w.heap[m]? = some (.map es ck) ∧
    (∀ e ∈ es.toList, ∃ i, i < j ∧ e.key = .int .i64 (tab.getD i (0, 0)).1 ∧ e.val = .func (.func (tab.getD i (0, 0)).2) #[u] #[]) ∧ ∀ i, i < j → ∃ e ∈ es.toList, e.key = .int .i64 (tab.getD i (0, 0)).1
section
variable {w0 : World} {p u : Value} {tab : List (Int × FuncId)} {n N : Nat} {ops : Array Oper} {M T E : TypeId} {Q : Exit → Act → World → Prop}
end
end Go.Proofs.Ytpclkgjhfhhddaa.AM
/- A row cut so that nothing can be laid behind it in place. -/
namespace Go.Proofs.Ytpclkgjhfhhddaa.AM
open Go Go.RowKit Go.Proofs.Ytpclkgjhfhhddaa.PN Go.Proofs.Ytpclkgjhfhhddaa.V
set_option linter.unusedVariables false
set_option linter.unusedSimpArgs false
section
variable {o : Oper} {s : St}
end
end Go.Proofs.Ytpclkgjhfhhddaa.AM
/- Slices that are made as long as they can be; what clears them; their ends. -/
namespace Go.Proofs.Ytpclkgjhfhhddaa.AM
open Go Go.RowKit Go.Proofs.Ytpclkgjhfhhddaa.PN Go.Proofs.Ytpclkgjhfhhddaa.V
set_option linter.unusedVariables false
set_option linter.unusedSimpArgs false
theorem Le.ownx {σ : Ren} {g r g' r' : Nat} (h : σ g' r' = (g, r)) : Le σ (.ownx g r) (.ownx g' r') := by
  intro S B β w v hv
  have e : ren σ β g' r' = β g r := by unfold ren; rw [h]
  exact ⟨by rw [e]; exact hv.1, hv.2⟩
section
variable {o : Oper} {s : St}
end
end Go.Proofs.Ytpclkgjhfhhddaa.AM
/- Strings: laid behind each other, compared (now in AmBy). -/
/- Texts of small rational numbers. -/
namespace Go.Proofs.Ytpclkgjhfhhddaa.AM
open Go Go.RowKit Go.Proofs.Ytpclkgjhfhhddaa.PN Go.Proofs.Ytpclkgjhfhhddaa.V
set_option linter.unusedVariables false
set_option linter.unusedSimpArgs false
set_option maxRecDepth 8000
set_option maxHeartbeats 8000000
theorem hr_text0 : Has Try.prog 82 [.nat 0] (.v (.string ⟨#[48]⟩)) := by
  refine ⟨by kernel_rfl, trivial, fun w S β vs hv => ?_⟩
  obtain ⟨v, rfl, A, c, rfl, _, _⟩ := rvs1 hv
  refine (show Calls Try.prog 82 #[.slice A 0 c] w _ from (r_text0 A c)).mono ?_
  rintro e w' ⟨rfl, h2⟩
  exact ⟨_, rfl, h2, rfl⟩
theorem hr_text_of {n d : Nat} {b : UInt8} (hsz : size n = 1) (H : ∀ {w : World} (A : Option Addr) (c : Nat) (hc : 1 ≤ c) (ha : At w A n 1), Calls Try.prog 82 #[.slice A 1 c] w fun e w' => e = .returned (.string ⟨#[b]⟩) ∧ Kept w w') : Has Try.prog 82 [.nat n] (.v (.string ⟨#[b]⟩)) := by
  refine ⟨by kernel_rfl, trivial, fun w S β vs hv => ?_⟩
  obtain ⟨v, rfl, h1⟩ := rvs1 hv
  obtain ⟨A, c, rfl, hc, hat⟩ := Dg.at (h1 : Dg w _ v n (size n))
  rw [hsz] at hc hat ⊢
  refine (H A c hc hat).mono ?_
  rintro e w' ⟨rfl, h2⟩
  exact ⟨_, rfl, h2, rfl⟩
theorem hr_text1 : Has Try.prog 82 [.nat 1] (.v (.string ⟨#[49]⟩)) := hr_text_of (d := 0) (by decide) r_text1
theorem hr_text2 : Has Try.prog 82 [.nat 2] (.v (.string ⟨#[50]⟩)) := hr_text_of (d := 0) (by decide) r_text2
theorem hr_text3 : Has Try.prog 82 [.nat 3] (.v (.string ⟨#[51]⟩)) := hr_text_of (d := 0) (by decide) r_text3
theorem hs_text_whole {p : Rat} {a : ByteArray} (h1 : Has Try.prog 82 [.nat (nm p)] (.v (.string a))) (hp : ng p = false) (hd : p.den = 1) : Has Try.prog 58 [.q p] (.v (.string a)) := by
  have c4 : Has Try.prog 61 [.nat p.den, .nat 1] (.i 0) := by rw [hd]; exact hr_cmp (a := 1) (b := 1) (by decide) (by decide)
  refine has_of Try.func58 (by kernel_rfl) rfl Try.ntmps58 Try.results58 rfl rfl rfl ?_
  repeat(first|refine run1p ?_|((with_reducible apply st_call);exact rfl;exact rfl;exact rfl;first|(exact h1))|((with_reducible apply st_callg);exact rfl;exact rfl;(first|exact rfl|assumption);exact rfl;exact rfl;exact rfl;first|(exact h1)))
  refine awp_no rfl hp ?_
  repeat(first|refine run1p ?_|((with_reducible apply st_call);exact rfl;exact rfl;exact rfl;first|(exact h2_one)|(exact c4))|((with_reducible apply st_callg);exact rfl;exact rfl;(first|exact rfl|assumption);exact rfl;exact rfl;exact rfl;first|(exact h2_one)|(exact c4)))
  refine awp_no rfl rfl ?_
  refine run0p ?_
  exact ⟨.inr rfl, _, Imp.refl _, .one (.tmp rfl)⟩
theorem hs_text_frac {p : Rat} {a b : ByteArray} (h1 : Has Try.prog 82 [.nat (nm p)] (.v (.string a))) (h2 : Has Try.prog 82 [.nat p.den] (.v (.string b))) (hp : ng p = false) (hd : p.den ≠ 1) (hs : size p.den ≤ 100) (ha : a.size ≤ 1000) (hb : b.size ≤ 1000) : Has Try.prog 58 [.q p] (.v (.string (a ++ ⟨#[47]⟩ ++ b))) := by
  have c4 := hr_cmp (a := p.den) (b := 1) (by omega) (by decide)
  have hc : decide (cmpI p.den 1 ≠ 0) = true := decide_eq_true fun h => hd (cmpI_zero.1 h)
  have hs1 : (⟨#[47]⟩ : ByteArray).size = 1 := rfl
  have hsz : (a ++ (⟨#[47]⟩ : ByteArray)).size ≤ 1001 := by rw [ByteArray.size_append]; omega
  have q1 : a.size + (⟨#[47]⟩ : ByteArray).size ≤ 1000000 := by omega
  have q2 : (a ++ (⟨#[47]⟩ : ByteArray)).size + b.size ≤ 1000000 := by omega
  refine has_of Try.func58 (by kernel_rfl) rfl Try.ntmps58 Try.results58 rfl rfl rfl ?_
  repeat(first|refine run1p ?_|((with_reducible apply st_call);exact rfl;exact rfl;exact rfl;first|(exact h1))|((with_reducible apply st_callg);exact rfl;exact rfl;(first|exact rfl|assumption);exact rfl;exact rfl;exact rfl;first|(exact h1)))
  refine awp_no rfl hp ?_
  repeat(first|refine run1p ?_|((with_reducible apply st_call);exact rfl;exact rfl;exact rfl;first|(exact h2_one)|(exact c4))|((with_reducible apply st_callg);exact rfl;exact rfl;(first|exact rfl|assumption);exact rfl;exact rfl;exact rfl;first|(exact h2_one)|(exact c4)))
  refine awp_yes rfl hc ?_
  repeat(first|refine run1p ?_|((with_reducible apply st_call);exact rfl;exact rfl;exact rfl;first|(exact h2))|((with_reducible apply st_callg);exact rfl;exact rfl;(first|exact rfl|assumption);exact rfl;exact rfl;exact rfl;first|(exact h2)))
  exact ⟨.inr rfl, _, Imp.refl _, .one (.tmp rfl)⟩
end Go.Proofs.Ytpclkgjhfhhddaa.AM

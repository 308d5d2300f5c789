/- Joined texts, 19: LawVa CdD AmHc AmNf CdW. -/
import Derived.Test.YtpclkgjhfhhddaaJLawCodeKnown17
import Derived.Test.YtpclkgjhfhhddaaJLawCodeKnown18
import Derived.Laws.IdiomCopy
import Derived.Test.YtpclkgjhfhhddaaJLawCodeKnown12
set_option linter.unusedVariables false
set_option linter.unusedSimpArgs false
/- These systems are refused as they must. -/
namespace Go.Proofs.Ytpclkgjhfhhddaa.AM
open Go Go.RowKit Go.Proofs.Ytpclkgjhfhhddaa.PN Go.Proofs.Ytpclkgjhfhhddaa.V
set_option linter.unusedVariables false
set_option linter.unusedSimpArgs false
set_option maxRecDepth 8000
set_option maxHeartbeats 8000000
/-- A row, whatever it is. -/
def prOf : AV → Option PR
  | .row _ n f => some ⟨n, fun i => (f i).sgn, fun i => raN (f i), fun i => raD (f i)⟩
  | .v (.slice none 0 0) => some ⟨0, fun _ => false, fun _ => [], fun _ => []⟩
  | .prow n s f g => some ⟨n, s, f, g⟩
  | _ => none
theorem prOf_rv {S : Nat → Prop} {B : Nat} {β : Nat → Nat → Value} {w : World} {x : AV} {r : PR} {v : Value} (h : prOf x = some r) (hv : RV S B β w x v) : RV S B β w r.v v := by
  unfold prOf at h
  split at h
  · cases h; exact rv_prow v hv
  · cases h
    have hv : v = .slice none 0 0 := hv
    subst hv
    exact ⟨none, 0, rfl, Nat.le_refl _, Nat.zero_le _, fun i hi => absurd hi (Nat.not_lt_zero _)⟩
  · cases h; exact hv
  · cases h
def intOf : AV → Option Int
  | .v (.int .i64 k) => some k
  | _ => none
theorem intOf_eq {x : AV} {k : Int} (h : intOf x = some k) : x = .i k := by
  unfold intOf at h
  split at h
  · cases h; rfl
  · cases h
/-- A system, whatever it is. -/
def grOf (u : Nat → AV) : Option GR := match intOf (u 0), intOf (u 1), intOf (u 2), prOf (u 3), prOf (u 4), prOf (u 5), prOf (u 6) with
  | some k, some n, some r, some A, some B, some G, some H => some ⟨k, n, r, A, B, G, H⟩
  | _, _, _, _, _, _, _ => none
theorem grOf_rv {S : Nat → Prop} {B : Nat} {β : Nat → Nat → Value} {w : World} {u : Nat → AV} {g : GR} (h : grOf u = some g) (v : Value) (hv : RV S B β w (.ag 7 u) v) : RV S B β w g.v v := by
  unfold grOf at h
  split at h
  · rename_i e0 e1 e2 e3 e4 e5 e6
    cases h
    obtain ⟨cs, c1, c2, c3⟩ := hv
    refine ⟨cs, c1, c2, fun i hi => ?_⟩
    obtain ⟨y, a0, a1, a2⟩ := c3 i hi
    refine ⟨y, a0, a1, ?_⟩
    match i, hi with
    | 0, _ => rw [intOf_eq e0] at a2; exact a2
    | 1, _ => rw [intOf_eq e1] at a2; exact a2
    | 2, _ => rw [intOf_eq e2] at a2; exact a2
    | 3, _ => exact prOf_rv e3 a2
    | 4, _ => exact prOf_rv e4 a2
    | 5, _ => exact prOf_rv e5 a2
    | 6, _ => exact prOf_rv e6 a2
  · cases h
theorem Has.gr {P : Program} {f : FuncId} {u : Nat → AV} {g : GR} {xs : List AV} {r : AV} (h : grOf u = some g) (H : Has P f (g.v :: xs) r) : Has P f (.ag 7 u :: xs) r :=
  Has.args H fun S B β w vs hv => rvs_cons (grOf_rv h) rvs_same hv
instance (l : List Nat) : Decidable (LF l) := inferInstanceAs (Decidable (∀ x ∈ l, x < B))
def PR.finB (r : PR) : Bool := decide (∀ i, i < r.m → LF (r.f i)) && decide (∀ i, i < r.m → LF (r.g i))
def GR.finB (g : GR) : Bool := g.A.finB && g.B.finB && g.G.finB && g.H.finB
/-- Whole numbers in a row. -/
def zq (l : List Int) (i : Nat) : Rat := ((l.getD i 0 : Int) : Rat)
/-- The systems that are refused. -/
def nilA : AV := .v (.slice none 0 0)
def oneA : AV := .row false 1 fun i => .q (zq [1] i)
def rawA (s : Bool) (n d : List Nat) : AV := .row false 1 fun i => [RA.raw s n d].getD i ra0
def erL : List (List AV) := [
  [.i 0, .i 0, .i 0, nilA, nilA, nilA, nilA], [.i 8, .i 1, .i 0, nilA, nilA, nilA, nilA], [.i 1, .i 0, .i 0, nilA, nilA, nilA, nilA], [.i 1, .i 9, .i 0, nilA, nilA, nilA, nilA],
  [.i 3, .i 1, .i 1, oneA, nilA, nilA, nilA], [.i 6, .i 1, .i 0, nilA, nilA, oneA, oneA], [.i 7, .i 1, .i 4, nilA, nilA, nilA, nilA], [.i 1, .i 2, .i 0, oneA, nilA, nilA, nilA],
  [.i 3, .i 1, .i 0, oneA, oneA, nilA, nilA], [.i 5, .i 1, .i 0, oneA, oneA, nilA, nilA], [.i 5, .i 2, .i 0, .row false 2 fun i => .q (zq [1, 2] i), .row false 2 fun i => .q (zq [3, 2] i), nilA, nilA],
  [.i 3, .i 1, .i 0, rawA false [] [], nilA, nilA, nilA], [.i 3, .i 1, .i 0, rawA false [0, 0, 0, 0, 1] [1], nilA, nilA, nilA], [.i 3, .i 1, .i 0, rawA false [2] [4], nilA, nilA, nilA],
  [.i 6, .i 1, .i 1, nilA, nilA, oneA, rawA true [] [1]]]
def erW : List Int := [2, 2, 1, 1, 1, 1, 1, 3, 3, 5, 5, 1, 1, 1, 1]
def erU (i j : Nat) : AV := (erL.getD i []).getD j (.v undef)
def erG (i : Nat) : GR := (grOf (erU i)).getD ⟨0, 0, 0, ⟨0, fun _ => false, fun _ => [], fun _ => []⟩, ⟨0, fun _ => false, fun _ => [], fun _ => []⟩, ⟨0, fun _ => false, fun _ => [], fun _ => []⟩, ⟨0, fun _ => false, fun _ => [], fun _ => []⟩⟩
end Go.Proofs.Ytpclkgjhfhhddaa.AM
/- Package code: a system is taken. -/
namespace Go.Proofs.Ytpclkgjhfhhddaa.AM
open Go Go.RowKit Go.Proofs.Ytpclkgjhfhhddaa.PN Go.Proofs.Ytpclkgjhfhhddaa.V
set_option linter.unusedVariables false
set_option linter.unusedSimpArgs false
set_option maxRecDepth 8000
set_option maxHeartbeats 8000000
/-- How many numbers each row has. -/
def cnF (k n r : Nat) (i : Nat) : AV := [AV.i (cnA k n), .i (cnB k n), .i (cnH k n r), .i (cnH k n r)].getD i (.v undef)
theorem c_counts {k n r : Nat} (h1 : 1 ≤ k) (h7 : k ≤ 7) (n1 : 1 ≤ n) (n8 : n ≤ 8) (r3 : r ≤ 3) : Has Try.prog 38 [.ag 7 (hdf k n r)] (.ag 4 (cnF k n r)) := by
  have hk : k = 1 ∨ k = 2 ∨ k = 3 ∨ k = 4 ∨ k = 5 ∨ k = 6 ∨ k = 7 := by omega
  have em : (n : Int) * (r : Int) = ((n * r : Nat) : Int) := (Int.natCast_mul n r).symm
  have hnr : n * r ≤ 8 * 3 := Nat.mul_le_mul n8 r3
  have q1 : -9223372036854775808 ≤ (n : Int) * (r : Int) := by rw [em]; omega
  have q2 : (n : Int) * (r : Int) ≤ 9223372036854775807 := by rw [em]; omega
  refine has_of Try.func38 (by kernel_rfl) rfl Try.ntmps38 Try.results38 rfl rfl rfl ?_
  refine run0p ?_
  rcases hk with rfl | rfl | rfl | rfl | rfl | rfl | rfl
  · skip
    refine awp_yes rfl rfl ?_
    refine run0p ?_
    refine awp_yes rfl rfl ?_
    refine run0p ?_
    rw [show (2 : Int) * n - 1 = ((cnA 1 n : Nat) : Int) from by show (2 : Int) * n - 1 = ((2 * n - 1 : Nat) : Int); omega]
    exact ⟨.inr rfl, _, Imp.refl _, .one (.agg rfl rfl rfl rfl (by decide) rfl rfl)⟩
  · skip
    refine awp_no rfl rfl ?_
    refine run0p ?_
    refine awp_yes rfl rfl ?_
    refine run0p ?_
    rw [show (2 : Int) * n - 1 = ((cnA 2 n : Nat) : Int) from by show (2 : Int) * n - 1 = ((2 * n - 1 : Nat) : Int); omega]
    exact ⟨.inr rfl, _, Imp.refl _, .one (.agg rfl rfl rfl rfl (by decide) rfl rfl)⟩
  · skip
    refine awp_no rfl rfl ?_
    refine run0p ?_
    refine awp_no rfl rfl ?_
    refine run0p ?_
    refine awp_yes rfl rfl ?_
    refine run0p ?_
    refine awp_yes rfl rfl ?_
    refine run0p ?_
    exact ⟨.inr rfl, _, Imp.refl _, .one (.agg rfl rfl rfl rfl (by decide) rfl rfl)⟩
  · skip
    refine awp_no rfl rfl ?_
    refine run0p ?_
    refine awp_no rfl rfl ?_
    refine run0p ?_
    refine awp_no rfl rfl ?_
    refine run0p ?_
    refine awp_yes rfl rfl ?_
    refine run0p ?_
    exact ⟨.inr rfl, _, Imp.refl _, .one (.agg rfl rfl rfl rfl (by decide) rfl rfl)⟩
  · skip
    refine awp_no rfl rfl ?_
    refine run0p ?_
    refine awp_no rfl rfl ?_
    refine run0p ?_
    refine awp_no rfl rfl ?_
    refine run0p ?_
    refine awp_no rfl rfl ?_
    refine run0p ?_
    refine awp_yes rfl rfl ?_
    refine run0p ?_
    exact ⟨.inr rfl, _, Imp.refl _, .one (.agg rfl rfl rfl rfl (by decide) rfl rfl)⟩
  · skip
    refine awp_no rfl rfl ?_
    refine run0p ?_
    refine awp_no rfl rfl ?_
    refine run0p ?_
    refine awp_no rfl rfl ?_
    refine run0p ?_
    refine awp_no rfl rfl ?_
    refine run0p ?_
    refine awp_no rfl rfl ?_
    refine run0p ?_
    refine awp_yes rfl rfl ?_
    refine run0p ?_
    rw [em]
    exact ⟨.inr rfl, _, Imp.refl _, .one (.agg rfl rfl rfl rfl (by decide) rfl rfl)⟩
  · skip
    refine awp_no rfl rfl ?_
    refine run0p ?_
    refine awp_no rfl rfl ?_
    refine run0p ?_
    refine awp_no rfl rfl ?_
    refine run0p ?_
    refine awp_no rfl rfl ?_
    refine run0p ?_
    refine awp_no rfl rfl ?_
    refine run0p ?_
    refine awp_no rfl rfl ?_
    refine run0p ?_
    rw [em]
    exact ⟨.inr rfl, _, Imp.refl _, .one (.agg rfl rfl rfl rfl (by decide) rfl rfl)⟩
/-- The rows of a system of which only three numbers are known. -/
def pr0 : PR := ⟨0, fun _ => false, fun _ => [], fun _ => []⟩
theorem hd_chk {k n r : Int} : chk ⟨k, n, r, pr0, pr0, pr0, pr0⟩ = (if headV k n r = 0 then chkR ⟨k, n, r, pr0, pr0, pr0, pr0⟩ else headV k n r) := by
  unfold chk headV
  simp only []
  cases kindB k <;> cases sizedB k n r <;> rfl
theorem hd_chkR {k n r : Int} : chkR ⟨k, n, r, pr0, pr0, pr0, pr0⟩ ≠ 1 ∧ chkR ⟨k, n, r, pr0, pr0, pr0, pr0⟩ ≠ 2 := by
  have e : pr0.sm = true := by decide
  unfold chkR
  simp only [e]
  generalize pr0.len (cnt k n r 0) = a
  generalize pr0.len (cnt k n r 1) = b
  generalize pr0.len (cnt k n r 2) = c
  generalize pr0.len (cnt k n r 3) = d
  generalize pr0.meets pr0 = f
  cases a <;> cases b <;> cases c <;> cases d <;> cases f <;> decide
/-- A system of which only three numbers are known. -/
def hdz (k n r : Int) (i : Nat) : AV := [AV.i k, .i n, .i r, .v (.slice none 0 0), .v (.slice none 0 0), .v (.slice none 0 0), .v (.slice none 0 0)].getD i (.v undef)
theorem c_head {k n r : Int} : Has Try.prog 37 [.ag 7 (hdz k n r)] (.i (headV k n r)) := by
  have c := Has.gr (u := fun i => (hdz k n r i).old) rfl (g_checkr (g := ⟨k, n, r, pr0, pr0, pr0, pr0⟩) ⟨⟨fun i hi => absurd hi (Nat.not_lt_zero _), fun i hi => absurd hi (Nat.not_lt_zero _)⟩, ⟨fun i hi => absurd hi (Nat.not_lt_zero _), fun i hi => absurd hi (Nat.not_lt_zero _)⟩, ⟨fun i hi => absurd hi (Nat.not_lt_zero _), fun i hi => absurd hi (Nat.not_lt_zero _)⟩, ⟨fun i hi => absurd hi (Nat.not_lt_zero _), fun i hi => absurd hi (Nat.not_lt_zero _)⟩⟩)
  have h3 := hd_chkR (k := k) (n := n) (r := r)
  have h4 := hd_chk (k := k) (n := n) (r := r)
  have h5 : headV k n r = 0 ∨ headV k n r = 1 ∨ headV k n r = 2 := by
    unfold headV
    cases kindB k <;> cases sizedB k n r <;> simp
  generalize chk ⟨k, n, r, pr0, pr0, pr0, pr0⟩ = e at *
  generalize headV k n r = v at *
  generalize chkR ⟨k, n, r, pr0, pr0, pr0, pr0⟩ = x at *
  refine has_of Try.func37 (by kernel_rfl) rfl Try.ntmps37 Try.results37 rfl rfl rfl ?_
  repeat(first|refine run1p ?_|((with_reducible apply st_call);exact rfl;exact rfl;exact rfl;first|(exact c))|((with_reducible apply st_callg);exact rfl;exact rfl;(first|exact rfl|assumption);exact rfl;exact rfl;exact rfl;first|(exact c)))
  by_cases h2 : e = 2
  · have hv : v = 2 := by
      rcases h5 with rfl | rfl | rfl
      · rw [if_pos rfl] at h4; omega
      · rw [if_neg (by decide)] at h4; omega
      · rfl
    subst h2
    refine run0p ?_
    refine awp_yes rfl rfl ?_
    refine run0p ?_
    rw [hv]
    exact ⟨.inr rfl, _, Imp.refl _, .one (.tmp rfl)⟩
  · have d2 : decide (e = 2) = false := decide_eq_false h2
    have d3 : (decide (e = 2) == false) = true := by rw [d2]; rfl
    by_cases h1 : e = 1
    · have hv : v = 1 := by
        rcases h5 with rfl | rfl | rfl
        · rw [if_pos rfl] at h4; omega
        · rfl
        · rw [if_neg (by decide)] at h4; omega
      subst h1
      refine run0p ?_
      refine awp_yes rfl rfl ?_
      refine run0p ?_
      rw [hv]
      exact ⟨.inr rfl, _, Imp.refl _, .one (.tmp rfl)⟩
    · have d1 : decide (e = 1) = false := decide_eq_false h1
      have hv : v = 0 := by
        rcases h5 with rfl | rfl | rfl
        · rfl
        · rw [if_neg (by decide)] at h4; omega
        · rw [if_neg (by decide)] at h4; omega
      refine run0p ?_
      refine awp_no rfl d1 ?_
      refine run0p ?_
      rw [hv]
      exact ⟨.inr rfl, _, Imp.refl _, .one (.tmp rfl)⟩
end Go.Proofs.Ytpclkgjhfhhddaa.AM
/- Own bytes that are handed over, and come back grown. -/
namespace Go.Proofs.Ytpclkgjhfhhddaa.AM
open Go Go.RowKit Go.Proofs.Ytpclkgjhfhhddaa.PN Go.Proofs.Ytpclkgjhfhhddaa.V
set_option linter.unusedVariables false
set_option linter.unusedSimpArgs false
set_option maxHeartbeats 4000000
abbrev U8T : TypeId := 5
/-- An own slice of bytes. -/
def bb (l : List Int) : Blk := .ones U8T l.length (fun i => .v (.int .u8 (l.getD i 0)))
theorem bb_ok (l : List Int) (U : Nat → Bool) : (bb l).ok U := fun _ _ => trivial
theorem bb_rb {S S' : Nat → Prop} {B : Nat} {β β' : Nat → Nat → Value} {w : World} {u : Value} {l : List Int} (h : RB S B β w u (bb l)) : RB S' B β' w u (bb l) := h
/-- A call that is handed own bytes first, and hands them back grown. -/
structure HasC (P : Program) (f : FuncId) (l : List Int) (xs : List AV) (l' : List Int) : Prop where
  b : callB P f = true
  run : ∀ (W : Wd) (β : Nat → Nat → Value) (w : World) (vs : List Value), W.F = none → W.w1 = w → xs.length + 1 = vs.length → Sim W vs.length β w ⟨vs.toArray, []⟩ (entH (.own 10 0 :: xs) [(10, (1, fun _ => bb l))]) →
    Calls P f vs.toArray w fun e w' => ∃ v β', e = .returned v ∧ Sim W 1 β' w' ⟨#[v], []⟩ (stl [(0, .own 11 0)] [(11, (1, fun _ => bb l'))])
theorem hasC_of {f : FuncId} {fn : Func} {c : Code} {N : Nat} {rs : Array ResultVar} {l l' : List Int} {xs : List AV} (hf : Try.prog.funcs[f]? = some fn) (hB : callB Try.prog f = true) (hb : fn.body = some c) (hn : fn.ntmps = N) (hr : fn.results = rs) (hlen : Nat.ble (xs.length + 1) N = true)
    (k : AWP Try.prog N c (FinH rs (.own 11 0) [(11, (1, fun _ => bb l'))]) (entH (.own 10 0 :: xs) [(10, (1, fun _ => bb l))])) : HasC Try.prog f l xs l' := by
  subst hn; subst hr
  refine ⟨hB, fun W β w vs hF hw hl hs0 => ?_⟩
  have hle : vs.length ≤ fn.ntmps := by rw [← hl]; exact Nat.le_of_ble_eq_true hlen
  refine calls_of_wp hf hb ?_
  have hs : Sim W fn.ntmps β w { tmps := vs.toArray ++ Array.replicate (fn.ntmps - vs.toArray.size) undef, defers := [] } (entH (.own 10 0 :: xs) [(10, (1, fun _ => bb l))]) := by
    refine ⟨hs0.kept, rfl, by simp; omega, fun t x hx => ?_, hs0.heap, hs0.live, hs0.inj, hs0.fix, hs0.pin, hs0.fixd, hs0.keep⟩
    have h1 := hs0.env t x hx
    have hx : lk (.own 10 0 :: xs) t = some x := hx
    rw [lk_get] at hx
    have hlt : t < (AV.own 10 0 :: xs).length := (List.getElem?_eq_some_iff.1 hx).1
    have hlt' : t < vs.toArray.size := by rw [List.size_toArray, ← hl]; exact hlt
    have hg : (vs.toArray ++ Array.replicate (fn.ntmps - vs.toArray.size) undef).getD t undef = vs.toArray.getD t undef := by
      rw [Array.getD_eq_getD_getElem?, Array.getElem?_append_left hlt', Array.getD_eq_getD_getElem?]
    rw [hg]
    exact h1
  refine wp_mono (k.out W β w _ hs) ?_
  rintro e a' w' ⟨β', s', hs', he, env, hi, hback⟩
  obtain ⟨β'', hs''⟩ := hi _ _ _ _ _ hs'
  obtain ⟨v, hrun, hv⟩ := back_run hback hs''
  have hfin : ∃ v' β', Ending.returned v = .returned v' ∧ Sim W 1 β' w' ⟨#[v'], []⟩ (stl [(0, .own 11 0)] [(11, (1, fun _ => bb l'))]) := by
    refine ⟨v, β'', rfl, ⟨hs''.kept, rfl, rfl, fun t x hx => ?_, hs''.heap, hs''.live, hs''.inj, hs''.fix, hs''.pin, hs''.fixd, hs''.keep⟩⟩
    have hx : lkp [(0, AV.own 11 0)] t = some x := hx
    have hm := lkp_mem hx
    simp only [List.mem_singleton, Prod.mk.injEq] at hm
    obtain ⟨rfl, rfl⟩ := hm
    exact ⟨rfl, hv⟩
  rcases he with rfl | rfl
  · exact ⟨hs''.nodef, v, hrun, hfin⟩
  · exact ⟨hs''.nodef, v, hrun, hfin⟩
/-- .. of other words for the arguments. -/
theorem HasC.args {P : Program} {f : FuncId} {l l' : List Int} {xs xs' : List AV} (H : HasC P f l xs' l') (hlen : xs'.length = xs.length) (hc : ∀ t x', lk xs' t = some x' → x'.ok (fun _ => false) ∧ ∃ x, lk xs t = some x ∧ ∀ S B β w v, RV S B β w x v → RV S B β w x' v) : HasC P f l xs l' := by
  refine ⟨H.b, fun W β w vs hF hw hl hs => H.run W β w vs hF hw (by rw [hlen]; exact hl) ?_⟩
  refine ⟨hs.kept, hs.nodef, hs.size, fun t x' hx => ?_, hs.heap, hs.live, hs.inj, hs.fix, hs.pin, hs.fixd, hs.keep⟩
  have hx : lk (.own 10 0 :: xs') t = some x' := hx
  rw [lk_get] at hx
  cases t with
  | zero =>
    have hx : x' = .own 10 0 := by cases hx; rfl
    subst hx
    exact hs.env 0 (.own 10 0) rfl
  | succ t =>
    have hx : lk xs' t = some x' := by rw [lk_get]; exact hx
    obtain ⟨h1, x, h2, h3⟩ := hc t x' hx
    have h4 : (entH (.own 10 0 :: xs) [(10, (1, fun _ => bb l))]).env (t + 1) = some x := by
      show lk (.own 10 0 :: xs) (t + 1) = some x
      rw [lk_get] at h2 ⊢
      exact h2
    exact ⟨ok_none h1, h3 _ _ _ _ _ (hs.env (t + 1) x h4).2⟩
theorem ok_callC {P : Program} {o : Oper} {s : St} {fo x : Operand} {args : List Operand} {Ts : Array TypeId} {F : AV} {f : FuncId} {xs : List AV} {g g' : Nat} {l l' : List Int} {Fb : Nat → Blk} (opds : Array Operand) (ho : o.op = .call { callee := .value fo, args := opds, argTypes := Ts }) (has : opds.toList = x :: args)
    (hF : avo s fo = some F) (hc : callee F = some (f, [], [])) (hx : avo s x = some (.own g 0)) (ha : avl s args = some xs) (H : HasC P f l (xs.map AV.old) l')
    (hg : s.heap g = some (1, Fb)) (hFb : Fb 0 = bb l) (hug : s.used g = true) (hg' : s.used g' = false) (hgg : g' ≠ g) (hcl : oks (fun _ => false) (xs.map AV.old)) :
    LOK P o s ⟨some (.own g' 0), [(g, none), (g', some (1, fun _ => bb l'))], [g]⟩ := by
  refine ⟨fun q hb hn => ?_, fun s2 h1 h2 h3 h4 W N β w a hs hN K Q hK => ?_⟩
  · obtain ⟨b, hb⟩ := hb
    simp only [List.mem_cons, Prod.mk.injEq, List.not_mem_nil, or_false] at hb
    rcases hb with ⟨rfl, _⟩ | ⟨rfl, _⟩
    · exact absurd (List.mem_singleton.2 rfl) hn
    · exact hg'
  · have hl : Like o [g] s s2 := ⟨h1, h2⟩
    have hal : avl s opds.toList = some (.own g 0 :: xs) := by rw [has]; simp only [avl, hx, ha]
    obtain ⟨vs, hrun, hR0⟩ := call_args ho hF hc hal H.b hl hs
    rw [List.nil_append, List.append_nil] at hR0
    have hg2 : s2.heap g = some (1, Fb) := (h2 g (List.mem_singleton.2 rfl)).trans hg
    have hu2 : s2.used g = true := h3 g (List.mem_singleton.2 rfl) hug
    have hg2' : s2.used g' = false := h4 g' ⟨_, List.mem_cons_of_mem _ (List.mem_singleton.2 rfl)⟩ (fun h => hgg (List.mem_singleton.1 h))
    -- the first argument
    obtain ⟨v0, vl, hvs⟩ : ∃ v0 vl, vs.toList = v0 :: vl := by
      cases e : vs.toList with
      | nil => have := hR0.1; rw [e] at this; simp at this
      | cons v0 vl => exact ⟨v0, vl, rfl⟩
    rw [hvs] at hR0
    have hv0 : v0 = β g 0 ∧ ∃ A n c, v0 = .slice A n c := hR0.2 0 _ v0 rfl rfl
    have hxs : RVs (notOwn W s2 β) W.w.heap.size β w (xs.map AV.old) vl := rvs_old (B := W.w.heap.size) (by have := hR0.1; simpa using this) fun i x v e1 e2 => hR0.2 (i + 1) x v e1 e2
    have hblk := (hs.heap g 1 Fb 0 hg2 Nat.zero_lt_one).2
    rw [hFb] at hblk
    have hown : ∀ k, ub (β g 0) = some k → Own s2 β k := fun k hk => ⟨g, 1, Fb, 0, hg2, Nat.zero_lt_one, hk⟩
    let W' : Wd := ⟨W.w, fun k => (k < W.w1.heap.size → W.S k) ∧ (Own s2 β k → ub (β g 0) = some k), w, fun k => k < w.heap.size ∧ ¬ ub (β g 0) = some k,
      fun k q1 q2 q3 => by
        have ho : ub (β g 0) = some k := Classical.byContradiction fun ho => q3 ⟨q2, ho⟩
        exact ⟨fun hlt => W.law k q1 hlt (hs.pin k (hown k ho)), fun _ => ho⟩,
      fun k hk => hk.1, none⟩
    let β1 : Nat → Nat → Value := fun _ _ => β g 0
    have hO1 : ∀ k, Own (entH (.own 10 0 :: xs.map AV.old) [(10, (1, fun _ => bb l))]) β1 k → ub (β g 0) = some k := by
      rintro k ⟨q, n, F1, r, k1, k2, k3⟩
      exact k3
    have kf : Fwd (notOwn W s2 β) (notOwn W' (entH (.own 10 0 :: xs.map AV.old) [(10, (1, fun _ => bb l))]) β1) W.w.heap.size W.w.heap.size (fun _ => false) β β1 (fun _ => False) w w :=
      ⟨Ext.refl _ _, fun _ _ h => h, fun b hb _ => ⟨fun _ => ⟨hb.1, fun ho => absurd ho hb.2⟩, fun ho => hb.2 (hown b (hO1 b ho))⟩, Nat.le_refl _, fun _ _ h => by cases h⟩
    have hinto : Sim W' (v0 :: vl).length β1 w ⟨(v0 :: vl).toArray, []⟩ (entH (.own 10 0 :: xs.map AV.old) [(10, (1, fun _ => bb l))]) := by
      refine ⟨hs.kept, rfl, rfl, fun t y hy => ?_, fun q n F1 r k1 k2 => ?_, fun q n F1 k1 => lkp_key k1, fun q n F1 r q' n' F1' r' i k1 k2 k3 k4 k5 k6 => ?_, Fix.refl _ _, fun k ho hP => hP.2 (hO1 k ho), fun u hu => (by cases hu), fun u hu => (by cases hu)⟩
      · have hy : lk (.own 10 0 :: xs.map AV.old) t = some y := hy
        rw [lk_get] at hy
        cases t with
        | zero =>
          have hy : y = .own 10 0 := by cases hy; rfl
          subst hy
          refine ⟨rfl, ?_⟩
          exact hv0
        | succ t =>
          have hy : (xs.map AV.old)[t]? = some y := hy
          have hlt : t < vl.length := by rw [← hxs.1]; exact (List.getElem?_eq_some_iff.1 hy).1
          have hk := hcl.get t y hy
          have := hxs.2 t y vl[t] hy (List.getElem?_eq_getElem hlt)
          refine ⟨ok_none hk, ?_⟩
          have e : (v0 :: vl).toArray.getD (t + 1) undef = vl[t] := by
            rw [Array.getD_eq_getD_getElem?]; simp [hlt]
          show RV _ _ _ _ _ ((v0 :: vl).toArray.getD (t + 1) undef)
          rw [e]
          exact this.fwd kf hk
      · have k1 : lkp [(10, ((1, fun _ => bb l) : Fam))] q = some (n, F1) := k1
        have hm := lkp_mem k1
        simp only [List.mem_singleton, Prod.mk.injEq] at hm
        obtain ⟨_, rfl, rfl⟩ := hm
        exact ⟨bb_ok l _, bb_rb hblk⟩
      · have k1 : lkp [(10, ((1, fun _ => bb l) : Fam))] q = some (n, F1) := k1
        have k3 : lkp [(10, ((1, fun _ => bb l) : Fam))] q' = some (n', F1') := k3
        have hm := lkp_mem k1
        have hm' := lkp_mem k3
        simp only [List.mem_singleton, Prod.mk.injEq] at hm hm'
        obtain ⟨rfl, rfl, _⟩ := hm
        obtain ⟨rfl, rfl, _⟩ := hm'
        exact ⟨rfl, by omega⟩
    have hcall := H.run W' β1 w (v0 :: vl) rfl rfl (by simp only [List.length_cons]; rw [hxs.1]) hinto
    rw [← hvs, Array.toArray_toList] at hcall
    unfold Oper.wp
    rw [hrun]
    show Calls P f _ w _
    refine hcall.mono fun e w' he => ?_
    obtain ⟨v, β', rfl, hsim⟩ := he
    obtain ⟨_, hv, A, n, c, hsl⟩ := hsim.env 0 (.own 11 0) rfl
    have hv : v = β' 11 0 := hv
    have hsl : v = .slice A n c := hsl
    have hb' := (hsim.heap 11 1 _ 0 rfl Nat.zero_lt_one).2
    rw [← hv] at hb'
    have hext : Ext (fun k => ub (β g 0) = some k) w w' := ⟨hsim.fix.size, fun i hi ho => hsim.fix.block i hi ⟨hi, ho⟩, fun i cs hrow => by
      by_cases ho : ub (β g 0) = some i
      · exfalso
        obtain ⟨hT, cs', _, h5, _⟩ := rb_ones hblk ho
        unfold Row? at hrow h5
        rw [hrow] at h5
        injection h5 with h5
        injection h5 with _ h5
        exact hT h5.symm
      · exact (hsim.fix.block i hrow.lt ⟨hrow.lt, ho⟩).trans hrow⟩
    have hs' := hs.newfam hg2' (some g) (fun q hq => by cases hq; exact hu2) v (bb l') (O := fun k => ub (β g 0) = some k) hsim.kept hext (fun i hi => ⟨g, 1, Fb, 0, rfl, hg2, Nat.zero_lt_one, hi⟩)
      (fun i hi => by
        rcases Nat.lt_or_ge i w.heap.size with hlt | hge
        · right
          have ho : ub (β g 0) = some i := Classical.byContradiction fun hn => hsim.pin i ⟨11, 1, _, 0, rfl, Nat.zero_lt_one, by rw [← hv]; exact hi⟩ ⟨hlt, hn⟩
          exact ⟨g, 1, Fb, 0, rfl, hg2, Nat.zero_lt_one, ho⟩
        · exact .inl hge)
      (fun S' β2 _ => ⟨bb_ok l' _, bb_rb hb'⟩)
    have hs'' := hs'.putv (d := o.dst) (v := v) (r := some (.own g' 0)) hN (fun z hz _ => by
      cases hz
      exact ⟨mark_same _ _, (show setv β g' v g' 0 = v from if_pos rfl).symm, A, n, c, hsl⟩)
    refine hK (setv β g' v) _ w' ?_
    cases hd : o.dst with
    | none => rw [hd] at hs''; exact hs''
    | some t =>
      rw [hd] at hs''
      have e : (s2.app (some t) ⟨some (.own g' 0), [(g, none), (g', some (1, fun _ => bb l'))], [g]⟩) = (turn s2 [(g, none), (g', some (1, fun _ => bb l'))]).app (some t) ⟨some (.own g' 0), [], []⟩ := by
        show setE _ _ = setE _ _
        rw [turn_env]; rfl
      rw [e]
      exact hs''
theorem st_callC {ops : Array Oper} {k : List Oper} {s : St} {acc : List Fp} {K : St → List Fp → Prop} {d : Option Tmp} {ty : TypeId} {ps : String} {aft : Array Edge} {fo x : Operand} {args : List Operand} {Ts : Array TypeId} {F : AV} {f : FuncId} {xs : List AV} {g : Nat} {l l' : List Int} {Fb : Nat → Blk} {opds : Array Operand} (g' : Nat) (has : opds.toList = x :: args)
    (hF : avo s fo = some F) (hc : callee F = some (f, [], [])) (hx : avo s x = some (.own g 0)) (ha : avl s args = some xs) (H : HasC Try.prog f l (xs.map AV.old) l')
    (hg : s.heap g = some (1, Fb)) (hFb : Fb 0 = bb l) (hug : s.used g = true) (hg' : s.used g' = false) (hgg : Nat.beq g' g = false) (hcl : oks (fun _ => false) (xs.map AV.old))
    (h : AOps Try.prog ops k (nxt s d (some (.own g' 0)) [(g, none), (g', some (1, fun _ => bb l'))]) (([g], [g, g']) :: acc) K) : AOps Try.prog ops (⟨d, .call ⟨.value fo, opds, Ts⟩, ty, ps, aft, none⟩ :: k) s acc K :=
  .cons _ (.inl ⟨.none rfl, ok_callC opds rfl has hF hc hx ha H hg hFb hug hg' (fun e => by rw [e, Nat.beq_refl] at hgg; cases hgg) hcl⟩) h
theorem ok_copybb {o : Oper} {s : St} {x y : Operand} {g : Nat} {l : List Int} {F : Nat → Blk} {f0 : Nat → AV} (ho : o.op = .call { callee := .builtin .copy, args := #[x, y], argTypes := #[28, 28] }) (hx : avo s x = some (.own g 0)) (hy : avo s y = some (.seq .u8 l))
    (hg : s.heap g = some (1, F)) (hF : F 0 = .ones U8T l.length f0) : LOK Try.prog o s ⟨some (.i l.length), [(g, some (1, fun _ => bb l))], [g]⟩ := by
  refine ⟨fun g' hb hn => ?_, fun s2 h1 h2 h3 _ W N β w a hs hN K Q hK => ?_⟩
  · obtain ⟨b, hb⟩ := hb
    simp only [List.mem_singleton, Prod.mk.injEq] at hb
    exact absurd (List.mem_singleton.2 hb.1) hn
  · have hl : Like o [g] s s2 := ⟨h1, h2⟩
    have hg2 : s2.heap g = some (1, F) := (h2 g (List.mem_singleton.2 rfl)).trans hg
    obtain ⟨_, e1, A0, n0, c0, e2⟩ := hs.opd (x := x) (by rw [hl.avo (by rw [ho]; simp [Op.operands, Call.operands])]; exact hx)
    obtain ⟨_, A, c, e3, _, _, e4⟩ := hs.opd (x := y) (by rw [hl.avo (by rw [ho]; simp [Op.operands, Call.operands])]; exact hy)
    have hb := (hs.heap g 1 F 0 hg2 Nat.zero_lt_one).2
    rw [hF] at hb
    obtain ⟨hT, hb⟩ := hb
    obtain ⟨bytes, he⟩ := el_ok (T := 28) (E := U8T) rfl
    have hsz : (Try.prog.info? U8T).map (·.size) = some 1 := by
      obtain ⟨i0, hi0, _, hz1, _⟩ := info_parts he.i
      rw [hi0, Option.map_some, hz1]
    have key : ∃ w', (execOp a.eval o).run Try.prog w = .ok (.value (.int .i64 l.length)) w' ∧ Ext (fun i => ub (β g 0) = some i) w w' ∧ Kept W.w w' ∧ RB (notOwn W s2 β) W.w.heap.size β w' (β g 0) (bb l) := by
      have hop : ∀ w', (Builtin.copy_ #[28, 28] o.type #[β g 0, .slice A l.length c]).run Try.prog w = .ok (goInt l.length) w' → (execOp a.eval o).run Try.prog w = .ok (.value (.int .i64 l.length)) w' := by
        intro w' h
        unfold execOp; rw [ho]; simp only [resolve, List.map_toArray, List.map_cons, List.map_nil]; rw [e1, e3]
        simp only [Sem.run_bind, Sem.run_pure, Result.andThen_ok, invoke, builtin]
        rw [h]
        rfl
      by_cases h0 : l.length = 0
      · refine ⟨w, hop w ?_, Ext.refl _ _, hs.kept, ?_⟩
        · rw [← e1, e2]
          rw [run_copy_none (P := Try.prog) w _ _ _ U8T A0 A n0 c0 l.length c he.u hsz (by rw [h0]; exact Nat.zero_min _), h0]
          rfl
        · refine ⟨hT, ?_⟩
          rcases hb with hb | ⟨k, cs, q1, q2, q3, q4⟩
          · exact .inl hb
          · exact .inr ⟨k, cs, q1, q2, q3, fun i hi => by omega⟩
      · rcases hb with ⟨_, hb⟩ | ⟨k, cs, q1, q2, q3, q4⟩
        · exact absurd hb h0
        · have hsz2 := at_size q3
          rcases q3 with ⟨e, _⟩ | ⟨cap, e, r1, r2, r3⟩
          · rw [← e1, e2] at e; cases e
          · obtain ⟨p, rfl, _⟩ := e4 0 (by omega)
            have hcp := run_copy_row (P := Try.prog) w 28 28 o.type U8T k 0 l.length cap p l.length c cs U8T (l.map (Value.int .u8)) he.u hsz q2 (by rw [List.length_map]; exact (Nat.min_self _).symm) (fun j v hj => by
              have hjl : j < l.length := by simpa using (List.getElem?_eq_some_iff.1 hj).1
              obtain ⟨p', e, _, hc⟩ := e4 j hjl
              cases e
              rw [hc, ← hj, List.getElem?_map, List.getElem?_eq_getElem hjl, List.getD_eq_getElem?_getD, List.getElem?_eq_getElem hjl]; rfl) (by rw [List.length_map]; omega) (fun v hv => by
              obtain ⟨z, _, rfl⟩ := List.mem_map.1 hv; rfl)
            rw [← e] at hcp
            refine ⟨_, hop _ (by rw [hcp, List.length_map]), (Ext.row_set q2 hT).mono (fun i hi => by rw [hi, e]; rfl), Kept.row_set hs.kept q1 _, hT, .inr ⟨k, _, q1, setRow_heap w k cs _ U8T _ q2, .inr ⟨cap, e, r1, r2, ?_⟩, fun i hi => ⟨.int .u8 (l.getD i 0), ?_, rfl, rfl⟩⟩⟩
            · simp; omega
            · simp only [List.take_zero, List.nil_append, List.getElem?_toArray]
              rw [List.getElem?_append_left (by simpa using hi), List.getElem?_map, List.getElem?_eq_getElem hi, List.getD_eq_getElem?_getD, List.getElem?_eq_getElem hi]; rfl
    obtain ⟨w', hrun, hx, hk, hrb⟩ := key
    have ht := hs.turnfam (F' := fun _ => bb l) hg2 Nat.zero_lt_one hx hk (fun r' h1 h2 => by omega) ⟨bb_ok l _, hrb⟩
    unfold Oper.wp
    rw [hrun]
    have hs'' := ht.putv (d := o.dst) (v := .int .i64 l.length) (r := some (.i l.length)) hN (fun z hz _ => by cases hz; exact ⟨trivial, rfl⟩)
    refine hK β _ w' ?_
    cases hd : o.dst with
    | none => rw [hd] at hs''; exact hs''
    | some t =>
      rw [hd] at hs''
      exact hs''
theorem st_copybb {ops : Array Oper} {k : List Oper} {s : St} {acc : List Fp} {K : St → List Fp → Prop} {d : Option Tmp} {ty : TypeId} {ps : String} {aft : Array Edge} {x y : Operand} {g : Nat} {l : List Int} {F : Nat → Blk} {f0 : Nat → AV}
    (hx : avo s x = some (.own g 0)) (hy : avo s y = some (.seq .u8 l)) (hg : s.heap g = some (1, F)) (hF : F 0 = .ones U8T l.length f0)
    (h : AOps Try.prog ops k (nxt s d (some (.i l.length)) [(g, some (1, fun _ => bb l))]) (([g], [g]) :: acc) K) : AOps Try.prog ops (⟨d, .call ⟨.builtin .copy, #[x, y], #[28, 28]⟩, ty, ps, aft, none⟩ :: k) s acc K :=
  .cons _ (.inl ⟨.none rfl, ok_copybb rfl hx hy hg hF⟩) h
/-- An own block, in other words. -/
theorem imp_blk {s : St} {g : Nat} {F : Nat → Blk} {b' : Blk} (hg : s.heap g = some (1, F)) (hok : b'.ok (fun _ => false)) (hw : ∀ S B β w u, RB S B β w u (F 0) → RB S B β w u b') : Imp s ⟨s.env, put s.heap g (some (1, fun _ => b')), s.used⟩ := by
  intro W N β w a hs
  have hheap : ∀ q n F', put s.heap g (some (1, fun _ => b')) q = some (n, F') → ∃ F1, s.heap q = some (n, F1) ∧ ((q = g ∧ n = 1 ∧ F' = fun _ => b') ∨ F1 = F') := by
    intro q n F' h
    by_cases e : q = g
    · subst e
      rw [put_same] at h
      cases h
      exact ⟨F, hg, .inl ⟨rfl, rfl, rfl⟩⟩
    · rw [put_ne _ _ e] at h
      exact ⟨F', h, .inr rfl⟩
  have hown : ∀ i, Own (⟨s.env, put s.heap g (some (1, fun _ => b')), s.used⟩ : St) β i → Own s β i := by
    rintro i ⟨q, n, F', r, h1, h2, h3⟩
    obtain ⟨F1, h4, _⟩ := hheap q n F' h1
    exact ⟨q, n, F1, r, h4, h2, h3⟩
  have kf : Fwd (notOwn W s β) (notOwn W (⟨s.env, put s.heap g (some (1, fun _ => b')), s.used⟩ : St) β) W.w.heap.size W.w.heap.size s.used β β (fun _ => False) w w :=
    ⟨Ext.refl _ _, fun _ _ h => h, fun b hb _ => ⟨hb.1, fun ho => hb.2 (hown b ho)⟩, Nat.le_refl _, fun _ _ _ => rfl⟩
  refine ⟨β, hs.kept, hs.nodef, hs.size, fun t x hx => ⟨(hs.env t x hx).1, (hs.env t x hx).2.fwd kf (hs.env t x hx).1⟩, fun q n F' r h1 h2 => ?_, fun q n F' h1 => ?_, fun q n F' r q' n' F'' r' k h1 h2 h3 h4 h5 h6 => ?_, hs.fix, fun i ho => hs.pin i (hown i ho), hs.fixd, hs.keep⟩
  · obtain ⟨F1, h3, h4⟩ := hheap q n F' h1
    obtain ⟨k1, k2⟩ := hs.heap q n F1 r h3 h2
    rcases h4 with ⟨rfl, rfl, rfl⟩ | rfl
    · obtain rfl : r = 0 := by omega
      rw [h3] at hg; cases hg
      exact ⟨Blk.ok_mono (fun g h => by cases h) hok, hw _ _ _ _ _ (RB.fwd kf k1 (fun _ _ h => h) k2)⟩
    · exact ⟨k1, RB.fwd kf k1 (fun _ _ h => h) k2⟩
  · obtain ⟨F1, h3, _⟩ := hheap q n F' h1
    exact hs.live _ _ _ h3
  · obtain ⟨F1, a1, _⟩ := hheap q n F' h1
    obtain ⟨F2, a2, _⟩ := hheap q' n' F'' h3
    exact hs.inj _ _ _ _ _ _ _ _ k a1 h2 a2 h4 h5 h6
theorem lok_blk {P : Program} {o : Oper} {s : St} {g d : Nat} {F : Nat → Blk} {b' : Blk} {rd : List Nat} (h : LOK P o s ⟨some (.own g 0), [(g, some (1, F))], rd⟩) (hd : o.dst = some d) (hok : b'.ok (fun _ => false)) (hw : ∀ S B β w u, RB S B β w u (F 0) → RB S B β w u b') :
    LOK P o s ⟨some (.own g 0), [(g, some (1, fun _ => b'))], rd⟩ := by
  refine ⟨fun g' hg' hr => h.1 g' (by
    obtain ⟨b, hb⟩ := hg'
    simp only [List.mem_singleton, Prod.mk.injEq] at hb
    exact ⟨some (1, F), by rw [hb.1]; exact List.mem_singleton.2 rfl⟩) hr, fun s2 e1 e2 e3 e4 => ?_⟩
  have h2 := h.2 s2 e1 e2 e3 (fun g' hg' hr => e4 g' (by
    obtain ⟨b, hb⟩ := hg'
    simp only [List.mem_singleton, Prod.mk.injEq] at hb
    exact ⟨some (1, fun _ => b'), by rw [hb.1]; exact List.mem_singleton.2 rfl⟩) hr)
  intro W N β w a hs hdN K Q hK
  refine h2 W N β w a hs hdN K Q fun β' a' w' hs' => ?_
  rw [hd] at hs'
  obtain ⟨β'', hs''⟩ := imp_blk (s := s2.app (some d) ⟨some (.own g 0), [(g, some (1, F))], rd⟩) (b' := b') (put_same _ _ _) hok hw W N β' w' a' hs'
  refine hK β'' a' w' ?_
  rw [hd]
  have e : s2.app (some d) ⟨some (.own g 0), [(g, some (1, fun _ => b'))], rd⟩ = ⟨(s2.app (some d) ⟨some (.own g 0), [(g, some (1, F))], rd⟩).env, put (s2.app (some d) ⟨some (.own g 0), [(g, some (1, F))], rd⟩).heap g (some (1, fun _ => b')), (s2.app (some d) ⟨some (.own g 0), [(g, some (1, F))], rd⟩).used⟩ := by
    show (⟨put s2.env d _, put s2.heap g _, mark s2.used g⟩ : St) = ⟨put s2.env d _, put (put s2.heap g _) g _, mark s2.used g⟩
    rw [put_put]
  rw [e]; exact hs''
theorem st_litbb {ops : Array Oper} {k : List Oper} {s : St} {acc : List Fp} {K : St → List Fp → Prop} {d : Tmp} {ty : TypeId} {ps : String} {aft : Array Edge} {n : Nat} {parts : Array (Nat × Operand)} {ys : List AV} {qs : List Int} (g' : Nat)
    (hi : idxs 0 parts.toList = true) (hn : parts.toList.length = n) (hb : n ≤ 100000) (hy : avos s parts.toList = some ys) (hq : u8s ys = some qs) (h1 : ys.all (·.one) = true) (hg' : s.used g' = false)
    (h : AOps Try.prog ops k (nxt s (some d) (some (.own g' 0)) [(g', some (1, fun _ => bb qs))]) (([], [g']) :: acc) K) : AOps Try.prog ops (⟨some d, .buildSlice 28 n parts, ty, ps, aft, none⟩ :: k) s acc K := by
  obtain ⟨bytes, he⟩ := el_ok (T := 28) (E := U8T) rfl
  have h2 := ok_build_one (o := ⟨some d, .buildSlice 28 n parts, ty, ps, aft, none⟩) (s := s) rfl he hg' hi hn hb hy h1
  obtain ⟨hq1, hq2⟩ := u8s_get hq
  have hlen := avos_len hy
  refine .cons _ (.inl ⟨.none rfl, lok_blk (b' := bb qs) h2 rfl (bb_ok qs _) fun S B β w u hr => ?_⟩) h
  obtain ⟨hT, hr⟩ := hr
  have hnq : qs.length = n := by rw [hq1, hlen, hn]
  refine ⟨hT, ?_⟩
  rw [hnq]
  rcases hr with hr | ⟨i, cs, q1, q2, q3, q4⟩
  · exact .inl hr
  · refine .inr ⟨i, cs, q1, q2, q3, fun j hj => ?_⟩
    obtain ⟨y, a0, a1, a2⟩ := q4 j hj
    have a2 : RV S B β w (ys.getD j (.v undef)) y := a2
    rw [hq2 j (by rw [hlen, hn]; exact hj)] at a2
    exact ⟨y, a0, a1, a2⟩
end Go.Proofs.Ytpclkgjhfhhddaa.AM
/- A slice of nothing, in a struct's cell, that is laid behind. -/
namespace Go.Proofs.Ytpclkgjhfhhddaa.AM
open Go Go.RowKit Go.Proofs.Ytpclkgjhfhhddaa.PN Go.Proofs.Ytpclkgjhfhhddaa.V
set_option linter.unusedVariables false
set_option linter.unusedSimpArgs false
theorem fld_next {s : St} {t a : Nat} {b b' : Blk} {F : Nat → Blk} {e : List (Nat × AV)} {l : List (Nat × Fam)} (ha : s.heap a = some (1, F)) (hF : F 0 = b') (hb : BLe (s1 t a) b' b) (hok : b.ok (fun _ => false)) (h60 : s.used 60 = false) (hn : notIn t a (keys l) = true)
    (he : AllE s (s1 t a) (fun g => memN g (t :: keys l)) e) (hl : AllH s (s1 t a) (fun g => memN g (t :: keys l)) l) : Imp s (stl e ((t, (1, fun _ => b)) :: l)) := by
  refine imp_stl (h := (t, (1, fun _ => b)) :: l) (s1 t a) (fun h => by rw [h60] at h; cases h) (s1_injl hn) he ⟨fun r hr => ?_, hl⟩ (by rw [h60]; rfl)
  obtain rfl : r = 0 := by omega
  rw [s1_t]
  exact ⟨1, F, ha, Nat.zero_lt_one, by rw [hF]; exact hb, Blk.ok_mono (fun g h => by cases h) hok⟩
end Go.Proofs.Ytpclkgjhfhhddaa.AM
/- Package code, ref6: bytes are laid. -/
namespace Go.Proofs.Ytpclkgjhfhhddaa.AM
open Go Go.RowKit Go.Proofs.Ytpclkgjhfhhddaa.PN Go.Proofs.Ytpclkgjhfhhddaa.V
set_option linter.unusedVariables false
set_option linter.unusedSimpArgs false
set_option maxRecDepth 8000
set_option maxHeartbeats 8000000
/-- A limb's bytes. -/
def encW (x : Nat) : List Int := [(x : Int) % 256, (x : Int) / 2 ^ 8 % 256, (x : Int) / 2 ^ 16 % 256, (x : Int) / 2 ^ 24 % 256]
/-- A natural number's. -/
def encL (l : List Nat) : List Int := ((l.length : Int) % 256) :: l.flatMap encW
theorem bb_app {σ : Ren} {l1 l2 : List Int} : BLe σ (.ones U8T (l1.length + l2.length) (glue l1.length (fun i => .v (.int .u8 (l1.getD i 0))) (fun i => .v (.int .u8 (l2.getD i 0))))) (bb (l1 ++ l2)) := by
  unfold bb
  rw [List.length_append]
  refine bleo rfl fun i hi => ?_
  have e : glue l1.length (fun i => AV.v (Value.int IntKind.u8 (l1.getD i 0))) (fun i => AV.v (Value.int IntKind.u8 (l2.getD i 0))) i = .v (.int .u8 ((l1 ++ l2).getD i 0)) := ?_
  · rw [e]; exact Le.eq rfl rfl
  show (if i < l1.length then _ else _) = _
  by_cases h : i < l1.length
  · rw [if_pos h]
    show AV.v (.int .u8 (l1.getD i 0)) = _
    rw [List.getD_eq_getElem?_getD, List.getD_eq_getElem?_getD, List.getElem?_append_left h]
  · rw [if_neg h]
    show AV.v (.int .u8 (l2.getD (i - l1.length) 0)) = _
    rw [List.getD_eq_getElem?_getD, List.getD_eq_getElem?_getD, List.getElem?_append_right (by omega)]
theorem bb_same {σ : Ren} {l : List Int} : BLe σ (bb l) (bb l) := bleo rfl fun _ _ => Le.eq rfl rfl
theorem bb_eq {σ : Ren} {b : Blk} {l l' : List Int} (h : BLe σ b (bb l)) (e : l = l') : BLe σ b (bb l') := e ▸ h
theorem flat_take {l : List Nat} {i : Nat} (hi : i < l.length) : (l.take (i + 1)).flatMap encW = (l.take i).flatMap encW ++ encW (l.getD i 0) := by
  rw [List.take_add_one, List.flatMap_append, List.getElem?_eq_getElem hi, List.getD_eq_getElem?_getD, List.getElem?_eq_getElem hi]
  simp
theorem len4 (l : List Nat) (i : Nat) (h : i ≤ l.length) : ((l.take i).map fun x => (encW x).length).sum ≤ 4 * i := by
  have key : ∀ q : List Nat, (q.map fun x => (encW x).length).sum = 4 * q.length := by
    intro q
    induction q with
    | nil => rfl
    | cons x q ih => rw [List.map_cons, List.sum_cons, ih, List.length_cons]; show 4 + _ = _; omega
  rw [key, List.length_take]
  omega
theorem w_limbs {b : List Int} {l : List Nat} (hb : b.length ≤ 100000000) (hl : l.length ≤ 1000) : HasC Try.prog 66 b [.lb l] (b ++ encL l) := by
  refine hasC_of Try.func66 (by kernel_rfl) rfl Try.ntmps66 Try.results66 rfl ?_
  have hb' : ((l.length : Nat) : Int) ≤ 1000 := by omega
  refine run0p ?_
  refine st_ev rfl (show b.length + 1 ≤ 1000000000 by omega) ?_
  refine run0p ?_
  refine awp_loop (fun m' s => ∃ i, i ≤ l.length ∧ m' = l.length - i ∧ s = stl [(0, .own 11 0), (13, .lb l), (14, .i (l.length : Int)), (15, .i (i : Int))] [(11, (1, fun _ => bb (b ++ ((l.length : Int) % 256) :: (l.take i).flatMap encW)))]) l.length _ ?_ ⟨0, by omega, rfl, rfl⟩ ?_
  · refine fld_next (t := 11) (a := 12) rfl rfl (bb_eq bb_app (by simp)) (bb_ok _ _) rfl rfl ?_ True.intro
    exact alle rfl (Le.own s1_t) rfl (alle rfl (Le.eq rfl rfl) True.intro (alle rfl (Le.eq rfl rfl) True.intro (alle rfl (Le.eq rfl rfl) True.intro True.intro)))
  rintro m' s ⟨i, hi, rfl, rfl⟩
  have hi' : (i : Int) ≤ 1000 := by omega
  refine run0p ?_
  refine awp_if rfl (fun h => ?_) (fun h => ?_)
  · have h : (i : Int) < (l.length : Int) := h
    have hl4 : ((l.take i).flatMap encW).length ≤ 4 * i := by rw [List.length_flatMap]; exact len4 _ i hi
    refine run0p ?_
    refine st_ev rfl (show (b ++ ((l.length : Int) % 256) :: (l.take i).flatMap encW).length + 4 ≤ 1000000000 by rw [List.length_append, List.length_cons]; omega) ?_
    refine run0p ?_
    refine q_loop (m' := l.length - (i + 1)) (by omega) ?_ ⟨i + 1, by omega, rfl, rfl⟩
    refine fld_next (t := 11) (a := 32) rfl rfl (bb_eq bb_app (by rw [flat_take (by omega)]; simp [encW])) (bb_ok _ _) rfl rfl ?_ True.intro
    exact alle rfl (Le.own s1_t) rfl (alle rfl (Le.eq rfl rfl) True.intro (alle rfl (Le.eq rfl rfl) True.intro (alle rfl (Le.eq rfl rfl) True.intro True.intro)))
  · have h : ¬ (i : Int) < (l.length : Int) := h
    have e : i = l.length := by omega
    subst e
    refine run0p ?_
    refine ⟨.inr rfl, [(4, .own 11 0)], imp_id ?_ ?_, .one (.tmp rfl)⟩
    · exact alle rfl (Le.id rfl) rfl True.intro
    · refine allh rfl (by decide) (bb_eq bb_same ?_) (bb_ok _ _) True.intro
      unfold encL
      rw [List.take_length]
theorem bb_glue {l1 l2 : List Int} : Blk.ones U8T (l1.length + l2.length) (glue l1.length (fun i => .v (.int .u8 (l1.getD i 0))) (fun i => .v (.int .u8 (l2.getD i 0)))) = bb (l1 ++ l2) := by
  unfold bb
  rw [List.length_append]
  congr 1
  funext i
  show (if i < l1.length then AV.v (.int .u8 (l1.getD i 0)) else AV.v (.int .u8 (l2.getD (i - l1.length) 0))) = _
  by_cases h : i < l1.length
  · rw [if_pos h, List.getD_eq_getElem?_getD, List.getD_eq_getElem?_getD, List.getElem?_append_left h]
  · rw [if_neg h, List.getD_eq_getElem?_getD, List.getD_eq_getElem?_getD, List.getElem?_append_right (by omega)]
theorem st_appbb {ops : Array Oper} {k : List Oper} {s : St} {acc : List Fp} {K : St → List Fp → Prop} {d : Option Tmp} {ty : TypeId} {ps : String} {aft : Array Edge} {x y : Operand} {g : Nat} {l q : List Int} {Fb : Nat → Blk} (g' : Nat)
    (hx : avo s x = some (.own g 0)) (hy : avo s y = some (.seq .u8 q)) (hg : s.heap g = some (1, Fb)) (hFb : Fb 0 = bb l) (hug : s.used g = true) (hg' : s.used g' = false) (hgg : Nat.beq g' g = false) (hn : l.length + q.length ≤ 1000000000)
    (h : AOps Try.prog ops k (nxt s d (some (.own g' 0)) [(g, none), (g', some (1, fun _ => bb (l ++ q)))]) (([g], [g, g']) :: acc) K) : AOps Try.prog ops (⟨d, .call ⟨.builtin .append, #[x, y], #[28, 28]⟩, ty, ps, aft, none⟩ :: k) s acc K := by
  obtain ⟨bytes, he⟩ := el_ok (T := 28) (E := U8T) rfl
  have hne : g' ≠ g := fun e => by rw [e, Nat.beq_refl] at hgg; cases hgg
  have hX : dstOne s U8T (.own g 0) = some (l.length, (fun i => .v (.int .u8 (l.getD i 0))), some g) := by
    unfold dstOne
    simp only [hg, hFb, bb]
    rfl
  have h2 := ok_append_one (o := ⟨d, .call ⟨.builtin .append, #[x, y], #[28, 28]⟩, ty, ps, aft, none⟩) (s := s) (g := g') rfl he hx hy hX rfl hg' (by simp) (fun r hr => by cases hr; exact ⟨hne, hug⟩) hn
  rw [bb_glue] at h2
  exact .cons _ (.inl ⟨.none rfl, h2⟩) h
theorem le_rn {r : RA} {S : Nat → Prop} {B : Nat} {β : Nat → Nat → Value} {w : World} {v : Value} (h : RV S B β w (r.field 1).old v) : RV S B β w (.lb (raN r)) v := by
  cases r with
  | q p => exact lb_nat h
  | raw s n d => exact h
theorem le_rd {r : RA} {S : Nat → Prop} {B : Nat} {β : Nat → Nat → Value} {w : World} {v : Value} (h : RV S B β w (r.field 2).old v) : RV S B β w (.lb (raD r)) v := by
  cases r with
  | q p => exact lb_nat h
  | raw s n d => exact h
theorem ok_rn {r : RA} {U : Nat → Bool} : (r.field 1).old.ok U := by cases r <;> exact True.intro
theorem ok_rd {r : RA} {U : Nat → Bool} : (r.field 2).old.ok U := by cases r <;> exact True.intro
def sgB (b : Bool) : Int := if b then 1 else 0
/-- A number's bytes. -/
def encR (r : RA) : List Int := sgB r.sgn :: (encL (raN r) ++ encL (raD r))
theorem encL_len {l : List Nat} : (encL l).length = 1 + 4 * l.length := by
  have key : ∀ q : List Nat, (q.flatMap encW).length = 4 * q.length := by
    intro q
    induction q with
    | nil => rfl
    | cons x q ih => rw [List.flatMap_cons, List.length_append, ih, List.length_cons]; show 4 + _ = _; omega
  unfold encL
  rw [List.length_cons, key]
  omega
theorem encR_len {r : RA} : (encR r).length = 3 + 4 * ((raN r).length + (raD r).length) := by
  unfold encR
  rw [List.length_cons, List.length_append, encL_len, encL_len]
  omega
theorem w_number {b : List Int} {r : RA} (hb : b.length ≤ 10000000) (hn : (raN r).length ≤ 1000) (hd : (raD r).length ≤ 1000) : HasC Try.prog 35 b [.ra r] (b ++ encR r) := by
  have c1 : HasC Try.prog 66 (b ++ [sgB r.sgn]) [(r.field 1).old] (b ++ [sgB r.sgn] ++ encL (raN r)) :=
    (w_limbs (by rw [List.length_append, List.length_singleton]; omega) hn).args rfl fun t x' hx => by
      match t, hx with
      | 0, hx => cases hx; exact ⟨trivial, _, rfl, fun S B β w v => le_rn⟩
      | t + 1, hx => cases hx
  have c2 : HasC Try.prog 66 (b ++ [sgB r.sgn] ++ encL (raN r)) [(r.field 2).old] (b ++ [sgB r.sgn] ++ encL (raN r) ++ encL (raD r)) :=
    (w_limbs (by rw [List.length_append, List.length_append, List.length_singleton, encL_len]; omega) hd).args rfl fun t x' hx => by
      match t, hx with
      | 0, hx => cases hx; exact ⟨trivial, _, rfl, fun S B β w v => le_rd⟩
      | t + 1, hx => cases hx
  have fin : b ++ [sgB r.sgn] ++ encL (raN r) ++ encL (raD r) = b ++ encR r := by simp [encR]
  refine hasC_of Try.func35 (by kernel_rfl) rfl Try.ntmps35 Try.results35 rfl ?_
  rcases Bool.eq_false_or_eq_true r.sgn with hs | hs
  · rw [hs] at c1 c2 fin
    refine run0p ?_
    refine awp_yes rfl hs ?_
    refine run0p ?_
    refine st_appbb 20 rfl rfl rfl rfl rfl rfl rfl (by show b.length + 1 ≤ _; omega) ?_
    refine run0p ?_
    refine st_callC 21 rfl rfl rfl rfl rfl c1 rfl rfl rfl rfl rfl ⟨ok_rn, True.intro⟩ ?_
    refine run0p ?_
    refine st_callC 22 rfl rfl rfl rfl rfl c2 rfl rfl rfl rfl rfl ⟨ok_rd, True.intro⟩ ?_
    refine run0p ?_
    refine ⟨.inr rfl, [(4, .own 11 0)], fld_next (t := 11) (a := 22) rfl rfl (bb_eq bb_same fin) (bb_ok _ _) rfl rfl (alle rfl (Le.own s1_t) rfl True.intro) True.intro, .one (.tmp rfl)⟩
  · rw [hs] at c1 c2 fin
    refine run0p ?_
    refine awp_no rfl hs ?_
    refine run0p ?_
    refine st_appbb 20 rfl rfl rfl rfl rfl rfl rfl (by show b.length + 1 ≤ _; omega) ?_
    refine run0p ?_
    refine st_callC 21 rfl rfl rfl rfl rfl c1 rfl rfl rfl rfl rfl ⟨ok_rn, True.intro⟩ ?_
    refine run0p ?_
    refine st_callC 22 rfl rfl rfl rfl rfl c2 rfl rfl rfl rfl rfl ⟨ok_rd, True.intro⟩ ?_
    refine run0p ?_
    refine ⟨.inr rfl, [(4, .own 11 0)], fld_next (t := 11) (a := 22) rfl rfl (bb_eq bb_same fin) (bb_ok _ _) rfl rfl (alle rfl (Le.own s1_t) rfl True.intro) True.intro, .one (.tmp rfl)⟩
/-- A row's bytes; those of rows. -/
def encRow (n : Nat) (f : Nat → RA) : List Int := (List.range n).flatMap fun j => encR (f j)
def encRows (k : Nat) (m : Nat → Nat) (F : Nat → Nat → RA) : List Int := (List.range k).flatMap fun i => encRow (m i) (F i)
def encH (k n r : Int) : List Int := [k % 256, n % 256, r % 256]
def encG (k n r : Int) (m : Nat → Nat) (F : Nat → Nat → RA) : List Int := encH k n r ++ encRows 4 m F
theorem encRow_succ {n : Nat} {f : Nat → RA} : encRow (n + 1) f = encRow n f ++ encR (f n) := by
  unfold encRow
  rw [List.range_succ, List.flatMap_append]
  simp
theorem encRows_succ {k : Nat} {m : Nat → Nat} {F : Nat → Nat → RA} : encRows (k + 1) m F = encRows k m F ++ encRow (m k) (F k) := by
  unfold encRows
  rw [List.range_succ, List.flatMap_append]
  simp
theorem encRow_len {n : Nat} {f : Nat → RA} (h : ∀ j, (raN (f j)).length ≤ 1000 ∧ (raD (f j)).length ≤ 1000) : (encRow n f).length ≤ 8003 * n := by
  induction n with
  | zero => exact Nat.le_refl _
  | succ n ih =>
    have h1 := h n
    rw [encRow_succ, List.length_append, encR_len]
    omega
theorem encRows_len {k : Nat} {m : Nat → Nat} {F : Nat → Nat → RA} (h : ∀ i j, (raN (F i j)).length ≤ 1000 ∧ (raD (F i j)).length ≤ 1000) (hm : ∀ i, m i ≤ 100) : (encRows k m F).length ≤ 800300 * k := by
  induction k with
  | zero => exact Nat.le_refl _
  | succ k ih =>
    have h1 := encRow_len (n := m k) (h k)
    have h2 := hm k
    rw [encRows_succ, List.length_append]
    omega
/-- A system's fields. -/
def gF (k n r : Int) (m : Nat → Nat) (F : Nat → Nat → RA) (i : Nat) : AV := [AV.i k, .i n, .i r, .row false (m 0) (F 0), .row false (m 1) (F 1), .row false (m 2) (F 2), .row false (m 3) (F 3)].getD i (.v undef)
theorem gF_ok {k n r : Int} {m : Nat → Nat} {F : Nat → Nat → RA} (U : Nat → Bool) : ∀ i, (gF k n r m F i).ok U
  | 0 | 1 | 2 | 3 | 4 | 5 | 6 => trivial
  | _ + 7 => trivial
theorem Le.ag {σ : Ren} {n : Nat} {f f' : Nat → AV} (h : ∀ i, i < n → Le σ (f i) (f' i)) : Le σ (.ag n f) (.ag n f') := by
  rintro S B β w v ⟨cs, e, hs, hx⟩
  exact ⟨cs, e, hs, fun i hi => by obtain ⟨y, a, b, c⟩ := hx i hi; exact ⟨y, a, b, h i hi _ _ _ _ _ c⟩⟩
theorem ble_lit3 {σ : Ren} {a b c : Int} {f : Nat → AV} (h0 : f 0 = .v (.int .u8 a)) (h1 : f 1 = .v (.int .u8 b)) (h2 : f 2 = .v (.int .u8 c)) : BLe σ (.ones U8T 3 f) (bb [a, b, c]) :=
  bleo rfl fun i hi => by
    match i, hi with
    | 0, _ => rw [h0]; exact Le.eq rfl rfl
    | 1, _ => rw [h1]; exact Le.eq rfl rfl
    | 2, _ => rw [h2]; exact Le.eq rfl rfl
theorem w_bytes {k n r : Int} {m : Nat → Nat} {F : Nat → Nat → RA} (hF : ∀ i j, (raN (F i j)).length ≤ 1000 ∧ (raD (F i j)).length ≤ 1000) (hm : ∀ i, m i ≤ 100) : Has Try.prog 13 [.ag 7 (gF k n r m F)] (.seq .u8 (encG k n r m F)) := by
  refine has_of Try.func13 (by kernel_rfl) rfl Try.ntmps13 Try.results13 rfl rfl rfl ?_
  refine run0 ?_
  refine st_ev2 rfl True.intro ?_
  refine run0 ?_
  refine st_ev2 rfl True.intro ?_
  refine run0 ?_
  refine st_ev2 rfl True.intro ?_
  refine run0 ?_
  refine run0p ?_
  refine awp_loop (fun m' s => ∃ i, i ≤ 4 ∧ m' = 4 - i ∧ s = stl [(3, .own 11 0), (27, .ag 4 (fun i => .row false (m i) (F i))), (28, .i (i : Int))] [(11, (1, fun _ => bb (encH k n r ++ encRows i m F)))]) 4 _ ?_ ⟨0, by omega, rfl, rfl⟩ ?_
  · refine fld_next (t := 11) (a := 18) (F := fun _ => .ones U8T 3 (fun i => ([AV.v (.int .u8 (k % 256)), .v (.int .u8 (n % 256)), .v (.int .u8 (r % 256))] : List AV).getD i (.v undef))) rfl rfl (bb_eq (l := encH k n r) (ble_lit3 rfl rfl rfl) (by simp [encRows])) (bb_ok _ _) rfl rfl ?_ True.intro
    · refine alle rfl (Le.own s1_t) rfl (alle rfl (Le.ag fun i hi => ?_) (fun _ _ => True.intro) (alle rfl (Le.eq rfl rfl) True.intro True.intro))
      match i, hi with
      | 0, _ => exact Le.eq rfl rfl
      | 1, _ => exact Le.eq rfl rfl
      | 2, _ => exact Le.eq rfl rfl
      | 3, _ => exact Le.eq rfl rfl
  rintro m' s ⟨i, hi, rfl, rfl⟩
  have hi' : (i : Int) ≤ 4 := by omega
  have hrl := encRows_len (k := i) hF hm
  refine run0p ?_
  refine awp_if rfl (fun h => ?_) (fun h => ?_)
  · have h : (i : Int) < 4 := h
    have hmi : m i ≤ 100 := hm i
    have e1 : ((i : Nat) : Int).toNat = i := by omega
    refine run0p ?_
    refine awp_loop (fun m' s => ∃ j, j ≤ m i ∧ m' = m i - j ∧ s = stl [(3, .own 11 0), (27, .ag 4 (fun i => .row false (m i) (F i))), (28, .i (i : Int)), (31, .row false (m i) (F i)), (32, .i (m i : Int)), (33, .i (j : Int))] [(11, (1, fun _ => bb (encH k n r ++ encRows i m F ++ encRow j (F i))))]) (m i) _ ?_ ⟨0, by omega, rfl, rfl⟩ ?_
    · refine imp_id ?_ ?_
      · exact alle rfl (Le.id rfl) rfl (alle rfl (Le.id rfl) (fun _ _ => True.intro) (alle rfl (Le.id rfl) True.intro (alle rfl (Le.id (by rw [e1])) True.intro (alle rfl (Le.id (by rw [e1])) True.intro (alle rfl (Le.id rfl) True.intro True.intro)))))
      · exact allh rfl (by decide) (bb_eq bb_same (by simp [encRow])) (bb_ok _ _) True.intro
    rintro m' s ⟨j, hj, rfl, rfl⟩
    have hrj := encRow_len (n := j) (hF i)
    have hj' : (j : Int) ≤ 100 := by omega
    have hbl : (encH k n r ++ encRows i m F ++ encRow j (F i)).length ≤ 10000000 := by
      rw [List.length_append, List.length_append]
      show 3 + _ + _ ≤ _
      omega
    refine run0p ?_
    refine awp_if rfl (fun h => ?_) (fun h => ?_)
    · have h : (j : Int) < (m i : Int) := h
      have e2 : ((j : Nat) : Int).toNat = j := by omega
      have c := w_number (r := F i j) hbl (hF i j).1 (hF i j).2
      refine run0p ?_
      refine st_callC 20 rfl rfl rfl rfl rfl c rfl rfl rfl rfl rfl ⟨True.intro, True.intro⟩ ?_
      refine run0p ?_
      refine q_loop (m' := m i - (j + 1)) (by omega) ?_ ⟨j + 1, by omega, rfl, rfl⟩
      refine fld_next (t := 11) (a := 20) rfl rfl (bb_eq bb_same (by rw [encRow_succ, List.append_assoc])) (bb_ok _ _) rfl rfl ?_ True.intro
      exact alle rfl (Le.own s1_t) rfl (alle rfl (Le.ag fun _ _ => Le.eq rfl rfl) (fun _ _ => True.intro) (alle rfl (Le.eq rfl rfl) True.intro (alle rfl (Le.eq rfl rfl) True.intro (alle rfl (Le.eq rfl rfl) True.intro (alle rfl (Le.eq rfl rfl) True.intro True.intro)))))
    · have h : ¬ (j : Int) < (m i : Int) := h
      have e : j = m i := by omega
      subst e
      refine run0p ?_
      refine q_loop (m' := 4 - (i + 1)) (by omega) ?_ ⟨i + 1, by omega, rfl, rfl⟩
      refine imp_id ?_ ?_
      · exact alle rfl (Le.id rfl) rfl (alle rfl (Le.id rfl) (fun _ _ => True.intro) (alle rfl (Le.id rfl) True.intro True.intro))
      · exact allh rfl (by decide) (bb_eq bb_same (by rw [encRows_succ, List.append_assoc])) (bb_ok _ _) True.intro
  · have h : ¬ (i : Int) < 4 := h
    have e : i = 4 := by omega
    subst e
    have hlen : (encH k n r ++ encRows 4 m F).length ≤ 10000000 := by rw [List.length_append]; show 3 + _ ≤ _; omega
    refine awp_imp (imp_seq 3 (encG k n r m F) rfl rfl rfl rfl fun _ _ => rfl) ?_
    have hle2 : (encG k n r m F).length ≤ 10000000 := hlen
    have hle3 : (((encG k n r m F).length : Nat) : Int) ≤ 10000000 := by omega
    refine run0p ?_
    refine st_copybb rfl rfl rfl rfl ?_
    refine run0p ?_
    exact ⟨.inr rfl, _, imp_seq 2 (encG k n r m F) rfl rfl rfl rfl (fun _ _ => rfl), .one (.tmp rfl)⟩
end Go.Proofs.Ytpclkgjhfhhddaa.AM

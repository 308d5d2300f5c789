/- Joined texts, 19: MkA MkB MkC MkE GenF CkA RwA. -/
import Derived.Test.YtpclkgjhfhhddaaJLawGenChecks18
import Derived.Test.YtpclkgjhfhhddaaJLawGenChecks13
import Derived.Test.YtpclkgjhfhhddaaJLawGenChecks11
import Derived.Test.YtpclkgjhfhhddaaJLawGenChecks0
import Derived.Test.YtpclkgjhfhhddaaJLawGenChecks2
import Derived.Test.YtpclkgjhfhhddaaJLawGenChecks1
set_option linter.unusedVariables false
set_option linter.unusedSimpArgs false
/- Systems that are drawn: counts, the numbers' places. -/
namespace Go.Proofs.Ytpclkgjhfhhddaa.AM
open Go Go.RowKit Go.Proofs.Ytpclkgjhfhhddaa.PN Go.Proofs.Ytpclkgjhfhhddaa.V
open Go.Proofs.Ytpclkgjhfhhddaa.LA (S S_succ S_zero S_congr)
set_option linter.unusedVariables false
set_option linter.unusedSimpArgs false
set_option maxRecDepth 8000
set_option maxHeartbeats 8000000
theorem k_within5 {a n : Int} (hn : 0 < n) (hn' : n < 1000000000) : Has Try.prog 24 [.i a, .i n] (.i (wthn a n)) := by
  refine has_of Try.func24 (by kernel_rfl) rfl Try.ntmps24 Try.results24 rfl rfl rfl ?_
  have h1 := Int.tmod_lt_of_pos a hn
  have h2 : -n < a.tmod n := Int.lt_tmod_of_pos a hn
  refine run0 ?_
  refine awp_if rfl (fun h => ?_) (fun h => ?_)
  · have e : wthn a n = a.tmod n + n := if_pos h
    rw [e]
    refine run0 ?_
    refine ⟨.inr rfl, _, Imp.refl _, ?_⟩
    exact .one (.tmp rfl)
  · have e : wthn a n = a.tmod n := if_neg h
    rw [e]
    refine run0 ?_
    refine ⟨.inr rfl, _, Imp.refl _, ?_⟩
    exact .one (.tmp rfl)
theorem r5_like (k : Nat) : Has Try.prog 30 [.i k] (.b (likeB k)) := by
  refine has_of Try.func30 (by kernel_rfl) rfl Try.ntmps30 Try.results30 rfl rfl rfl ?_
  by_cases h6 : k = 6
  · have e0 : decide ((k : Int) = 6) = true := decide_eq_true (by omega)
    have e1 : (decide ((k : Int) = 6) == false) = false := by rw [e0]; rfl
    refine run0p ?_
    refine ⟨.inr rfl, _, Imp.refl _, ?_⟩
    rw [h6]
    exact .one (.tmp rfl)
  · have e0 : decide ((k : Int) = 6) = false := decide_eq_false (by omega)
    have e1 : (decide ((k : Int) = 6) == false) = true := by rw [e0]; rfl
    have e2 : decide ((k : Int) = 7) = likeB k := by
      unfold likeB
      rw [decide_eq_false h6, Bool.false_or]
      exact decide_eq_decide.2 (by omega)
    refine run0p ?_
    refine ⟨.inr rfl, _, Imp.refl _, ?_⟩
    rw [← e2]
    exact .one (.tmp rfl)
/-- How many numbers a system has in its rows. -/
def cnA (k n : Nat) : Nat := match k with | 1 | 2 => 2 * n - 1 | 6 => 0 | _ => n
def cnB (k n : Nat) : Nat := match k with | 5 | 7 => n | _ => 0
def cnH (k n r : Nat) : Nat := match k with | 6 | 7 => n * r | _ => 0
/-- A system of which only three numbers are known. -/
def hdf (k n r : Nat) (i : Nat) : AV := [AV.i k, .i n, .i r, .v (.slice none 0 0), .v (.slice none 0 0), .v (.slice none 0 0), .v (.slice none 0 0)].getD i (.v undef)
theorem r5_counts {k n r : Nat} (h1 : 1 ≤ k) (h7 : k ≤ 7) (n1 : 1 ≤ n) (n8 : n ≤ 8) (r3 : r ≤ 3) : Has Try.prog 31 [.ag 7 (hdf k n r)] (.tup3 (.i (cnA k n)) (.i (cnB k n)) (.i (cnH k n r))) := by
  have hk : k = 1 ∨ k = 2 ∨ k = 3 ∨ k = 4 ∨ k = 5 ∨ k = 6 ∨ k = 7 := by omega
  have em : (n : Int) * (r : Int) = ((n * r : Nat) : Int) := (Int.natCast_mul n r).symm
  have hnr : n * r ≤ 8 * 3 := Nat.mul_le_mul n8 r3
  have q1 : -9223372036854775808 ≤ (n : Int) * (r : Int) := by rw [em]; omega
  have q2 : (n : Int) * (r : Int) ≤ 9223372036854775807 := by rw [em]; omega
  refine has_of Try.func31 (by kernel_rfl) rfl Try.ntmps31 Try.results31 rfl rfl rfl ?_
  refine run0 ?_
  rcases hk with rfl | rfl | rfl | rfl | rfl | rfl | rfl
  · skip
    refine awp_yes rfl rfl ?_
    refine run0 ?_
    refine awp_yes rfl rfl ?_
    refine run0 ?_
    rw [show (2 : Int) * n - 1 = ((cnA 1 n : Nat) : Int) from by show (2 : Int) * n - 1 = ((2 * n - 1 : Nat) : Int); omega]
    exact ⟨.inr rfl, _, Imp.refl _, .three (.tmp rfl) (.tmp rfl) (.tmp rfl)⟩
  · skip
    refine awp_no rfl rfl ?_
    refine run0 ?_
    refine awp_yes rfl rfl ?_
    refine run0 ?_
    rw [show (2 : Int) * n - 1 = ((cnA 2 n : Nat) : Int) from by show (2 : Int) * n - 1 = ((2 * n - 1 : Nat) : Int); omega]
    exact ⟨.inr rfl, _, Imp.refl _, .three (.tmp rfl) (.tmp rfl) (.tmp rfl)⟩
  · skip
    refine awp_no rfl rfl ?_
    refine run0 ?_
    refine awp_no rfl rfl ?_
    refine run0 ?_
    refine awp_yes rfl rfl ?_
    refine run0 ?_
    refine awp_yes rfl rfl ?_
    refine run0 ?_
    exact ⟨.inr rfl, _, Imp.refl _, .three (.tmp rfl) (.tmp rfl) (.tmp rfl)⟩
  · skip
    refine awp_no rfl rfl ?_
    refine run0 ?_
    refine awp_no rfl rfl ?_
    refine run0 ?_
    refine awp_no rfl rfl ?_
    refine run0 ?_
    refine awp_yes rfl rfl ?_
    refine run0 ?_
    exact ⟨.inr rfl, _, Imp.refl _, .three (.tmp rfl) (.tmp rfl) (.tmp rfl)⟩
  · skip
    refine awp_no rfl rfl ?_
    refine run0 ?_
    refine awp_no rfl rfl ?_
    refine run0 ?_
    refine awp_no rfl rfl ?_
    refine run0 ?_
    refine awp_no rfl rfl ?_
    refine run0 ?_
    refine awp_yes rfl rfl ?_
    refine run0 ?_
    exact ⟨.inr rfl, _, Imp.refl _, .three (.tmp rfl) (.tmp rfl) (.tmp rfl)⟩
  · skip
    refine awp_no rfl rfl ?_
    refine run0 ?_
    refine awp_no rfl rfl ?_
    refine run0 ?_
    refine awp_no rfl rfl ?_
    refine run0 ?_
    refine awp_no rfl rfl ?_
    refine run0 ?_
    refine awp_no rfl rfl ?_
    refine run0 ?_
    refine awp_yes rfl rfl ?_
    refine run0 ?_
    rw [em]
    exact ⟨.inr rfl, _, Imp.refl _, .three (.tmp rfl) (.tmp rfl) (.tmp rfl)⟩
  · skip
    refine awp_no rfl rfl ?_
    refine run0 ?_
    refine awp_no rfl rfl ?_
    refine run0 ?_
    refine awp_no rfl rfl ?_
    refine run0 ?_
    refine awp_no rfl rfl ?_
    refine run0 ?_
    refine awp_no rfl rfl ?_
    refine run0 ?_
    refine awp_no rfl rfl ?_
    refine run0 ?_
    rw [em]
    exact ⟨.inr rfl, _, Imp.refl _, .three (.tmp rfl) (.tmp rfl) (.tmp rfl)⟩
end Go.Proofs.Ytpclkgjhfhhddaa.AM
/- Systems that are drawn: walked. -/
namespace Go.Proofs.Ytpclkgjhfhhddaa.AM
open Go Go.RowKit Go.Proofs.Ytpclkgjhfhhddaa.PN Go.Proofs.Ytpclkgjhfhhddaa.V
open Go.Proofs.Ytpclkgjhfhhddaa.LA (S S_succ S_zero S_congr)
set_option linter.unusedVariables false
set_option linter.unusedSimpArgs false
set_option maxRecDepth 8000
set_option maxHeartbeats 8000000
/-- A number of the second row behind r looks. -/
def bpart (A : Nat → Rat) (c : Nat) (x : Rat) : Nat → Rat
  | 0 => x
  | r + 1 => if A r = bpart A c x r then bpart A c x r + ((100 + c : Int) : Rat) else bpart A c x r
/-- The numbers when c columns are done and r rows of the next. -/
def mkL (zs : List Int) (a b c r i : Nat) : Rat :=
  if i < a then rowq zs i else if i < a + b then (if i - a < c then bpart (rowq zs) (i - a) (rowq zs i) a else if i - a = c then bpart (rowq zs) c (rowq zs i) r else rowq zs i) else rowq zs i
theorem mkL_start {zs : List Int} {a b : Nat} (i : Nat) : mkL zs a b 0 0 i = rowq zs i := by
  unfold mkL
  split
  · rfl
  · split
    · rw [if_neg (Nat.not_lt_zero _)]
      split
      · rfl
      · rfl
    · rfl
theorem mkL_next {zs : List Int} {a b c : Nat} (i : Nat) : mkL zs a b c a i = mkL zs a b (c + 1) 0 i := by
  unfold mkL
  split
  · rfl
  · split
    · by_cases h1 : i - a < c
      · rw [if_pos h1, if_pos (by omega)]
      · rw [if_neg h1]
        by_cases h2 : i - a = c
        · rw [if_pos h2, if_pos (by omega), h2]
        · rw [if_neg h2, if_neg (by omega)]
          split
          · rfl
          · rfl
    · rfl
theorem mkL_A {zs : List Int} {a b c r i : Nat} (h : i < a) : mkL zs a b c r i = rowq zs i := if_pos h
theorem mkL_B {zs : List Int} {a b c r : Nat} (h : c < b) : mkL zs a b c r (a + c) = bpart (rowq zs) c (rowq zs (a + c)) r := by
  unfold mkL
  rw [if_neg (by omega), if_pos (by omega), if_neg (by omega), if_pos (by omega)]
theorem mkL_row {zs : List Int} {a b c r i : Nat} (h : i ≠ a + c) (r' : Nat) : mkL zs a b c r i = mkL zs a b c r' i := by
  unfold mkL
  by_cases h0 : i < a
  · rw [if_pos h0, if_pos h0]
  · rw [if_neg h0, if_neg h0]
    by_cases h1 : i < a + b
    · rw [if_pos h1, if_pos h1]
      by_cases h2 : i - a < c
      · rw [if_pos h2, if_pos h2]
      · rw [if_neg h2, if_neg h2, if_neg (by omega), if_neg (by omega)]
    · rw [if_neg h1, if_neg h1]
/-- Which kind, how large, of which rank. -/
def mkK (kind : Int) : Nat := (1 + wthn kind 7).toNat
def mkN (n most : Int) : Nat := (1 + wthn n most).toNat
def mkR (k : Nat) (n : Int) : Nat := if likeB k then (1 + wthn (n.tdiv 8) 2).toNat else 0
def gmk (k m r : Nat) (zs : List Int) : GD :=
  ⟨k, m, r, cnA k m, cnB k m, cnH k m r, cnH k m r, fun i => mkL zs (cnA k m) (cnB k m) (cnB k m) 0 (0 + i), fun i => mkL zs (cnA k m) (cnB k m) (cnB k m) 0 (cnA k m + i), fun i => mkL zs (cnA k m) (cnB k m) (cnB k m) 0 (cnA k m + cnB k m + i), fun i => mkL zs (cnA k m) (cnB k m) (cnB k m) 0 (cnA k m + cnB k m + cnH k m r + i)⟩
def mkg (kind n : Int) (zs : List Int) (most : Int) : GD := gmk (mkK kind) (mkN n most) (mkR (mkK kind) n) zs
theorem hdf_ok (k n r : Nat) (U : Nat → Bool) : ∀ i, (hdf k n r i).ok U
  | 0 | 1 | 2 | 3 | 4 | 5 | 6 => trivial
  | _ + 7 => trivial
/-- .. as what a call has made. -/
def GD.ft (g : GD) (i : Nat) : AV := [AV.i g.k, .i g.n, .i g.r, .row true g.la (fun i => .q (g.A i)), .row true g.lb (fun i => .q (g.B i)), .row true g.lg (fun i => .q (g.G i)), .row true g.lh (fun i => .q (g.H i))].getD i (.v undef)
theorem ble7 {T : TypeId} {f f' : Nat → AV} (h0 : f 0 = f' 0) (h1 : f 1 = f' 1) (h2 : f 2 = f' 2) (h3 : f 3 = f' 3) (h4 : f 4 = f' 4) (h5 : f 5 = f' 5) (h6 : f 6 = f' 6) : BLe idR (.ones T 7 f) (.ones T 7 f') :=
  bleo rfl fun i hi => Le.id (g7 h0 h1 h2 h3 h4 h5 h6 i hi)
theorem sl_eq {g r o o' n n' : Nat} (h1 : o = o') (h2 : n = n') : AV.sl g r o n = AV.sl g r o' n' := by rw [h1, h2]
/-- A system whose rows are parts of one own slice. -/
def slf (k n r a b h : Nat) (i : Nat) : AV := [AV.i k, .i n, .i r, .sl 63 0 0 a, .sl 63 0 a b, .sl 63 0 (a + b) h, .sl 63 0 (a + b + h) h].getD i (.v undef)
theorem slf_ok {k n r a b h : Nat} {U : Nat → Bool} (hU : U 63 = true) : ∀ i, (slf k n r a b h i).ok U
  | 0 | 1 | 2 => trivial
  | 3 | 4 | 5 | 6 => hU
  | _ + 7 => trivial
theorem int_wt {z : Int} (h : 0 ≤ z ∧ z ≤ 200) : wt ((z : Int) : Rat) ≤ 1 := by
  have key : ∀ x : _root_.Fin 201, wt (((x.val : Int) : Int) : Rat) ≤ 1 := by decide +kernel
  have := key ⟨z.toNat, by omega⟩
  rw [show ((z.toNat : Nat) : Int) = z by omega] at this
  exact this
theorem bpart_wt {A : Nat → Rat} {c : Nat} {x : Rat} (hc : c ≤ 100) (hx : wt x ≤ 1) : ∀ r, wt (bpart A c x r) ≤ 1 + 2 * r
  | 0 => by show wt x ≤ _; omega
  | r + 1 => by
    have ih := bpart_wt (A := A) hc hx r
    show wt (if _ then _ else _) ≤ _
    split
    · have h1 := wt_add (bpart A c x r) ((100 + c : Int) : Rat)
      have h2 : wt ((100 + c : Int) : Rat) ≤ 1 := int_wt (by omega)
      omega
    · omega
theorem cn_le {k n r : Nat} (h1 : 1 ≤ k) (h7 : k ≤ 7) (n1 : 1 ≤ n) (n8 : n ≤ 8) (r3 : r ≤ 3) (hr : likeB k = true → 1 ≤ r) : cnA k n ≤ 15 ∧ cnB k n ≤ 8 ∧ cnH k n r ≤ 24 ∧ 0 < cnA k n + cnB k n + 2 * cnH k n r := by
  have hk : k = 1 ∨ k = 2 ∨ k = 3 ∨ k = 4 ∨ k = 5 ∨ k = 6 ∨ k = 7 := by omega
  have hnr : n * r ≤ 8 * 3 := Nat.mul_le_mul n8 r3
  rcases hk with rfl | rfl | rfl | rfl | rfl | rfl | rfl
  · show 2 * n - 1 ≤ 15 ∧ 0 ≤ 8 ∧ 0 ≤ 24 ∧ 0 < 2 * n - 1 + 0 + 2 * 0; omega
  · show 2 * n - 1 ≤ 15 ∧ 0 ≤ 8 ∧ 0 ≤ 24 ∧ 0 < 2 * n - 1 + 0 + 2 * 0; omega
  · show n ≤ 15 ∧ 0 ≤ 8 ∧ 0 ≤ 24 ∧ 0 < n + 0 + 2 * 0; omega
  · show n ≤ 15 ∧ 0 ≤ 8 ∧ 0 ≤ 24 ∧ 0 < n + 0 + 2 * 0; omega
  · show n ≤ 15 ∧ n ≤ 8 ∧ 0 ≤ 24 ∧ 0 < n + n + 2 * 0; omega
  · have : 1 ≤ n * r := Nat.mul_le_mul n1 (hr rfl)
    show 0 ≤ 15 ∧ 0 ≤ 8 ∧ n * r ≤ 24 ∧ 0 < 0 + 0 + 2 * (n * r); omega
  · show n ≤ 15 ∧ n ≤ 8 ∧ n * r ≤ 24 ∧ 0 < n + n + 2 * (n * r); omega
theorem k_mk {kind n most : Int} {zs : List Int} (hk : Fits .i64 kind) (hn : Fits .i64 n) (hz : AllFit zs) (m1 : 1 ≤ most) (m8 : most ≤ 8) : Has Try.prog 12 [.i kind, .i n, .seq .i64 zs, .i most] (.ag 7 (mkg kind n zs most).ft) := by
  obtain ⟨a1, a2⟩ := wthn_lt (a := kind) (n := 7) (by decide)
  obtain ⟨b1, b2⟩ := wthn_lt (a := n) (n := most) (by omega)
  obtain ⟨c1, c2⟩ := wthn_lt (a := n.tdiv 8) (n := 2) (by decide)
  have eK : 1 + wthn kind 7 = ((mkK kind : Nat) : Int) := by unfold mkK; omega
  have eN : 1 + wthn n most = ((mkN n most : Nat) : Int) := by unfold mkN; omega
  have hf : -9223372036854775808 ≤ n ∧ n ≤ 9223372036854775807 := hn
  have h5 : Fits .i64 (n.tdiv 8) := by
    have e1 : (n.tdiv 8).natAbs = n.natAbs / 8 := Int.natAbs_tdiv n 8
    show -9223372036854775808 ≤ _ ∧ _ ≤ (9223372036854775807 : Int)
    omega
  obtain ⟨h5a, h5b⟩ : -9223372036854775808 ≤ n.tdiv 8 ∧ n.tdiv 8 ≤ 9223372036854775807 := h5
  refine has_of Try.func12 (by kernel_rfl) rfl Try.ntmps12 Try.results12 rfl rfl rfl ?_
  repeat(first|refine run1p ?_|((with_reducible apply st_call);exact rfl;exact rfl;exact rfl;first|(exact k_within5 (by omega) (by omega)))|((with_reducible apply st_callg);exact rfl;exact rfl;(first|exact rfl|assumption);exact rfl;exact rfl;exact rfl;first|(exact k_within5 (by omega) (by omega))))
  rw [eK, eN]
  repeat(first|refine run1p ?_|((with_reducible apply st_call);exact rfl;exact rfl;exact rfl;first|(exact r5_like _))|((with_reducible apply st_callg);exact rfl;exact rfl;(first|exact rfl|assumption);exact rfl;exact rfl;exact rfl;first|(exact r5_like _)))
  refine awp_join (stl [(2, .seq .i64 zs), (8, .ptr 8 0 0), (9, .ptr 9 0 0)] [(8, (1, fun _ => .ones 26 7 (hdf 0 0 0))), (9, (1, fun _ => .ones 26 7 (hdf (mkK kind) (mkN n most) (mkR (mkK kind) n))))]) ?_ ?_
  · cases hl : likeB (mkK kind) with
    | true =>
      have eR : 1 + wthn (n.tdiv 8) 2 = ((mkR (mkK kind) n : Nat) : Int) := by unfold mkR; rw [if_pos hl]; omega
      refine awp_yes rfl rfl ?_
      repeat(first|refine run1p ?_|((with_reducible apply st_call);exact rfl;exact rfl;exact rfl;first|(exact k_within5 (by decide) (by decide)))|((with_reducible apply st_callg);exact rfl;exact rfl;(first|exact rfl|assumption);exact rfl;exact rfl;exact rfl;first|(exact k_within5 (by decide) (by decide))))
      rw [eR]
      refine run0p ?_
      refine ⟨rfl, imp_id ?_ ?_⟩
      · exact eA
      · exact allh rfl (by decide) (ble7 rfl rfl rfl rfl rfl rfl rfl) (fun i _ => hdf_ok _ _ _ _ i) (allh rfl (by decide) (ble7 rfl rfl rfl rfl rfl rfl rfl) (fun i _ => hdf_ok _ _ _ _ i) True.intro)
    | false =>
      have eR : (((mkR (mkK kind) n : Nat)) : Int) = 0 := by unfold mkR; rw [if_neg (by rw [hl]; decide)]; rfl
      refine awp_no rfl rfl ?_
      refine run0p ?_
      refine ⟨rfl, imp_id ?_ ?_⟩
      · exact eA
      · exact allh rfl (by decide) (ble7 rfl rfl rfl rfl rfl rfl rfl) (fun i _ => hdf_ok _ _ _ _ i) (allh rfl (by decide) (ble7 rfl rfl (by show AV.i 0 = AV.i _; rw [eR]) rfl rfl rfl rfl) (fun i _ => hdf_ok _ _ _ _ i) True.intro)
  · have k1 : 1 ≤ mkK kind := by omega
    have k7 : mkK kind ≤ 7 := by omega
    have n1 : 1 ≤ mkN n most := by omega
    have n8 : mkN n most ≤ 8 := by omega
    have r3 : mkR (mkK kind) n ≤ 3 := by unfold mkR; split <;> omega
    have rl : likeB (mkK kind) = true → 1 ≤ mkR (mkK kind) n := fun h => by unfold mkR; rw [if_pos h]; omega
    unfold mkg
    generalize mkR (mkK kind) n = R at *
    generalize mkK kind = K at *
    generalize mkN n most = N at *
    clear a1 a2 b1 b2 c1 c2 h5a h5b eK eN
    obtain ⟨t0, t1, t2, t3⟩ := cn_le k1 k7 n1 n8 r3 rl
    have c := r5_counts k1 k7 n1 n8 r3
    repeat(first|refine run1p ?_|((with_reducible apply st_call);exact rfl;exact rfl;exact rfl;first|(exact Has.ag (g7 rfl rfl rfl rfl rfl rfl rfl) c))|((with_reducible apply st_callg);exact rfl;exact rfl;(first|exact rfl|assumption);exact rfl;exact rfl;exact rfl;first|(exact Has.ag (g7 rfl rfl rfl rfl rfl rfl rfl) c)))
    rw [show ((cnA K N : Nat) : Int) + (cnB K N : Nat) + 2 * (cnH K N R : Nat) = ((cnA K N + cnB K N + 2 * cnH K N R : Nat) : Int) from by omega]
    ((with_reducible apply st_callH); exact rfl; exact rfl; exact rfl; exact (k_rowo (by omega) (by omega) hz); (first | exact True.intro | exact ⟨rfl, rfl, rfl, True.intro⟩); exact rfl; exact rfl; exact rfl; exact rfl; (focus (repeat (first | exact True.intro | refine ⟨(by first | exact True.intro | rfl | exact ok_none (closed_ok rfl)), ?_⟩))); (first | exact True.intro | exact okf_WH | exact okf_pf (by exact True.intro) (by exact True.intro) | exact okf_rd | exact okf_pr))
    refine run0p ?_
    have em : ∀ i, mkL zs (cnA K N) (cnB K N) 0 0 i = rowq zs i := mkL_start
    refine awp_loop (fun m' s => ∃ c, c ≤ cnB K N ∧ m' = cnB K N - c ∧ s = stl [(8, .ptr 8 0 0), (9, .ptr 9 0 0), (10, .i (cnA K N)), (11, .i (cnB K N)), (14, .i (c : Int))] [(8, (1, fun _ => .ones 26 7 (hdf 0 0 0))), (9, (1, fun _ => .ones 26 7 (slf K N R (cnA K N) (cnB K N) (cnH K N R)))), (63, (1, fun _ => .rats (cnA K N + cnB K N + 2 * cnH K N R) fun i => .q (mkL zs (cnA K N) (cnB K N) c 0 i)))]) (cnB K N) _ (imp_id ?_ ?_) ⟨0, Nat.zero_le _, rfl, rfl⟩ ?_
    · exact eA
    · refine allh rfl (by decide) (ble7 rfl rfl rfl rfl rfl rfl rfl) (fun i _ => hdf_ok _ _ _ _ i) (allh rfl (by decide) (ble7 rfl rfl rfl (sl_eq rfl (by omega)) (sl_eq (by omega) (by omega)) (sl_eq (by omega) (by omega)) (sl_eq (by omega) (by omega))) (fun i _ => slf_ok rfl i) (allh rfl (by decide) (blen rfl fun i _ => congrArg RA.q (em i).symm) True.intro True.intro))
    · rintro m' s ⟨c, hc, rfl, rfl⟩
      refine run0p ?_
      refine awp_if rfl (fun h' => ?_) (fun h' => ?_)
      · have h' : c < cnB K N := by omega
        refine run0p ?_
        refine awp_loop (fun m' s => ∃ r, r ≤ cnA K N ∧ m' = cnA K N - r ∧ s = stl [(8, .ptr 8 0 0), (9, .ptr 9 0 0), (10, .i (cnA K N)), (11, .i (cnB K N)), (14, .i (c : Int)), (15, .i (r : Int))] [(8, (1, fun _ => .ones 26 7 (hdf 0 0 0))), (9, (1, fun _ => .ones 26 7 (slf K N R (cnA K N) (cnB K N) (cnH K N R)))), (63, (1, fun _ => .rats (cnA K N + cnB K N + 2 * cnH K N R) fun i => .q (mkL zs (cnA K N) (cnB K N) c r i)))]) (cnA K N) _ (imp_id ?_ ?_) ⟨0, Nat.zero_le _, rfl, rfl⟩ ?_
        · exact eA
        · exact allh rfl (by decide) (ble7 rfl rfl rfl rfl rfl rfl rfl) (fun i _ => hdf_ok _ _ _ _ i) (allh rfl (by decide) (ble7 rfl rfl rfl rfl rfl rfl rfl) (fun i _ => slf_ok rfl i) (allh rfl (by decide) (blen rfl fun i _ => rfl) True.intro True.intro))
        · rintro m' s ⟨r, hr, rfl, rfl⟩
          refine run0p ?_
          refine awp_if rfl (fun h1 => ?_) (fun h1 => ?_)
          · have h1 : r < cnA K N := by omega
            have fA : mkL zs (cnA K N) (cnB K N) c r r = rowq zs r := mkL_A h1
            have fB : mkL zs (cnA K N) (cnB K N) c r (cnA K N + c) = bpart (rowq zs) c (rowq zs (cnA K N + c)) r := mkL_B h'
            have fB1 : mkL zs (cnA K N) (cnB K N) c (r + 1) (cnA K N + c) = bpart (rowq zs) c (rowq zs (cnA K N + c)) (r + 1) := mkL_B h'
            have w1 : wt (mkL zs (cnA K N) (cnB K N) c r r) ≤ 1 := by rw [fA]; exact (rowq_wt zs r).le
            have w2 : wt (mkL zs (cnA K N) (cnB K N) c r (cnA K N + c)) ≤ 31 := by rw [fB]; have := bpart_wt (A := rowq zs) (c := c) (x := rowq zs (cnA K N + c)) (by omega) (rowq_wt zs _).le r; omega
            have w3 : wt ((100 + c : Int) : Rat) ≤ 1 := int_wt (by omega)
            have ci := hs_int (100 + (c : Int)) (by omega) (by omega)
            refine run0p ?_
            rw [show 0 + ((r : Nat) : Int).toNat = r from by omega, show cnA K N + ((c : Nat) : Int).toNat = cnA K N + c from rfl]
            repeat(first|refine run1p ?_|((with_reducible apply st_call);exact rfl;exact rfl;exact rfl;first|(exact hs_same (p := mkL zs (cnA K N) (cnB K N) c r r) (q := mkL zs (cnA K N) (cnB K N) c r (cnA K N + c)) (by omega) (by omega)))|((with_reducible apply st_callg);exact rfl;exact rfl;(first|exact rfl|assumption);exact rfl;exact rfl;exact rfl;first|(exact hs_same (p := mkL zs (cnA K N) (cnB K N) c r r) (q := mkL zs (cnA K N) (cnB K N) c r (cnA K N + c)) (by omega) (by omega))))
            refine awp_if rfl (fun h2 => ?_) (fun h2 => ?_)
            · repeat(first|refine run1p ?_|((with_reducible apply st_call);exact rfl;exact rfl;exact rfl;first|(exact ci))|((with_reducible apply st_callg);exact rfl;exact rfl;(first|exact rfl|assumption);exact rfl;exact rfl;exact rfl;first|(exact ci)))
              rw [show cnA K N + ((c : Nat) : Int).toNat = cnA K N + c from rfl]
              repeat(first|refine run1p ?_|((with_reducible apply st_call);exact rfl;exact rfl;exact rfl;first|(exact ci)|(exact hs_add (p := mkL zs (cnA K N) (cnB K N) c r (cnA K N + c)) (q := ((100 + c : Int) : Rat)) (by omega) (by omega)))|((with_reducible apply st_callg);exact rfl;exact rfl;(first|exact rfl|assumption);exact rfl;exact rfl;exact rfl;first|(exact ci)|(exact hs_add (p := mkL zs (cnA K N) (cnB K N) c r (cnA K N + c)) (q := ((100 + c : Int) : Rat)) (by omega) (by omega))))
              refine q_loop ?_ (imp_id ?_ ?_) ⟨r + 1, ?_, rfl, rfl⟩
              · omega
              · exact eA
              · refine allh rfl (by decide) (ble7 rfl rfl rfl rfl rfl rfl rfl) (fun i _ => hdf_ok _ _ _ _ i) (allh rfl (by decide) (ble7 rfl rfl rfl rfl rfl rfl rfl) (fun i _ => slf_ok rfl i) (allh rfl (by decide) (blen rfl fun i _ => ?_) True.intro True.intro))
                by_cases e : i = cnA K N + c
                · subst e
                  refine (updN_same _ _ _).trans (congrArg RA.q ?_)
                  rw [fB1]
                  show _ = (if _ then _ else _)
                  rw [if_pos (by rw [← fA, ← fB]; exact h2), ← fB]
                · exact (updN_ne _ _ e).trans (congrArg RA.q (mkL_row e (r + 1)))
              · omega
            · refine run0p ?_
              refine q_loop ?_ (imp_id ?_ ?_) ⟨r + 1, ?_, rfl, rfl⟩
              · omega
              · exact eA
              · refine allh rfl (by decide) (ble7 rfl rfl rfl rfl rfl rfl rfl) (fun i _ => hdf_ok _ _ _ _ i) (allh rfl (by decide) (ble7 rfl rfl rfl rfl rfl rfl rfl) (fun i _ => slf_ok rfl i) (allh rfl (by decide) (blen rfl fun i _ => congrArg RA.q ?_) True.intro True.intro))
                by_cases e : i = cnA K N + c
                · subst e
                  rw [fB, fB1]
                  show _ = (if _ then _ else _)
                  rw [if_neg (by rw [← fA, ← fB]; exact h2)]
                · exact mkL_row e (r + 1)
              · omega
          · have er : r = cnA K N := by omega
            refine run0p ?_
            refine q_loop ?_ (imp_id ?_ ?_) ⟨c + 1, ?_, rfl, rfl⟩
            · omega
            · exact eA
            · refine allh rfl (by decide) (ble7 rfl rfl rfl rfl rfl rfl rfl) (fun i _ => hdf_ok _ _ _ _ i) (allh rfl (by decide) (ble7 rfl rfl rfl rfl rfl rfl rfl) (fun i _ => slf_ok rfl i) (allh rfl (by decide) (blen rfl fun i _ => congrArg RA.q ?_) True.intro True.intro))
              rw [er]; exact mkL_next i
            · omega
      · have ec : c = cnB K N := by omega
        subst ec
        refine run0p ?_
        refine ⟨.inr rfl, _, imp_pubsl 63 8 (f' := (gmk K N R zs).ft) rfl rfl rfl rfl (fun i hi => ?_) (by decide), .one (.agg rfl rfl rfl rfl (by decide) rfl rfl)⟩
        match i, hi with
        | 0, _ => exact .inl rfl
        | 1, _ => exact .inl rfl
        | 2, _ => exact .inl rfl
        | 3, _ => exact .inr ⟨0, cnA K N, rfl, by omega, rfl⟩
        | 4, _ => exact .inr ⟨cnA K N, cnB K N, rfl, by omega, rfl⟩
        | 5, _ => exact .inr ⟨cnA K N + cnB K N, cnH K N R, rfl, by omega, rfl⟩
        | 6, _ => exact .inr ⟨cnA K N + cnB K N + cnH K N R, cnH K N R, rfl, by omega, rfl⟩
end Go.Proofs.Ytpclkgjhfhhddaa.AM
/- Systems that are drawn: they are right. -/
namespace Go.Proofs.Ytpclkgjhfhhddaa.AM
open Go Go.RowKit Go.Proofs.Ytpclkgjhfhhddaa.PN Go.Proofs.Ytpclkgjhfhhddaa.V
open Go.Proofs.Ytpclkgjhfhhddaa.LA (S S_succ S_zero S_congr)
set_option linter.unusedVariables false
set_option linter.unusedSimpArgs false
set_option maxRecDepth 8000
set_option maxHeartbeats 8000000
theorem smal_rng : ∀ x : _root_.Fin 41, ∀ y : _root_.Fin 5, -20 ≤ (((x.val : Int) - 20 : Int) : Rat) / ((1 + (y.val : Int) : Int) : Rat) ∧ (((x.val : Int) - 20 : Int) : Rat) / ((1 + (y.val : Int) : Int) : Rat) ≤ 20 := by decide +kernel
theorem smal_le (a : Int) : -20 ≤ smal a ∧ smal a ≤ 20 := by
  obtain ⟨h1, h2⟩ := wthn_lt (a := a) (n := 41) (by decide)
  obtain ⟨h3, h4⟩ := wthn_lt (a := a.tdiv 41) (n := 5) (by decide)
  have := smal_rng ⟨(wthn a 41).toNat, by omega⟩ ⟨(wthn (a.tdiv 41) 5).toNat, by omega⟩
  rw [show (((wthn a 41).toNat : Nat) : Int) = wthn a 41 by omega, show (((wthn (a.tdiv 41) 5).toNat : Nat) : Int) = wthn (a.tdiv 41) 5 by omega] at this
  exact this
theorem far {p x y : Rat} (hp : p ≤ 20) (hx : -20 ≤ x) (hy : 100 ≤ y) : p ≠ x + y := by
  intro e
  have h1 : -20 + y ≤ x + y := Rat.add_le_add_right.2 hx
  have h2 : -20 + 100 ≤ -20 + y := Rat.add_le_add_left.2 hy
  have h3 : (-20 + 100 : Rat) ≤ 20 := Rat.le_trans h2 (Rat.le_trans h1 (by rw [← e]; exact hp))
  exact absurd h3 (by decide +kernel)
theorem hun (c : Nat) : (100 : Rat) ≤ ((100 + c : Int) : Rat) := by
  have : ((100 : Int) : Rat) ≤ ((100 + c : Int) : Rat) := Rat.intCast_le_intCast.2 (by omega)
  exact this
/-- A number of the second row is none of the first row's. -/
theorem bpart_ne {A : Nat → Rat} {c : Nat} {x : Rat} (hA : ∀ i, A i ≤ 20) (hx : -20 ≤ x) : ∀ r, (bpart A c x r = x ∧ ∀ i, i < r → A i ≠ x) ∨ bpart A c x r = x + ((100 + c : Int) : Rat)
  | 0 => .inl ⟨rfl, fun i hi => absurd hi (Nat.not_lt_zero _)⟩
  | r + 1 => by
    show ((if _ then _ else _) = x ∧ _) ∨ (if _ then _ else _) = _
    rcases bpart_ne hA hx r with ⟨h1, h2⟩ | h1
    · rw [h1]
      by_cases e : A r = x
      · rw [if_pos e]; exact .inr rfl
      · rw [if_neg e]
        refine .inl ⟨rfl, fun i hi => ?_⟩
        by_cases h : i = r
        · rw [h]; exact e
        · exact h2 i (by omega)
    · rw [h1, if_neg (far (hA r) hx (hun c))]; exact .inr rfl
theorem bpart_out {A : Nat → Rat} {c n : Nat} {x : Rat} (hA : ∀ i, A i ≤ 20) (hx : -20 ≤ x) {i : Nat} (hi : i < n) : A i ≠ bpart A c x n := by
  rcases bpart_ne (c := c) hA hx n with ⟨h1, h2⟩ | h1
  · rw [h1]; exact h2 i hi
  · rw [h1]; exact far (hA i) hx (hun c)
theorem bpart_wt2 {A : Nat → Rat} {c n : Nat} {x : Rat} (hA : ∀ i, A i ≤ 20) (hx : -20 ≤ x) (hw : wt x ≤ 1) (hc : c ≤ 100) : wt (bpart A c x n) ≤ 3 := by
  rcases bpart_ne (c := c) hA hx n with ⟨h1, _⟩ | h1
  · rw [h1]; omega
  · rw [h1]
    have h1 := wt_add x ((100 + c : Int) : Rat)
    have h2 : wt ((100 + c : Int) : Rat) ≤ 1 := int_wt (by omega)
    omega
theorem mkL_wt {zs : List Int} {a b i : Nat} (hb : b ≤ 100) : wt (mkL zs a b b 0 i) ≤ 4 := by
  have h1 := (rowq_wt zs i).le
  unfold mkL
  split
  · omega
  · split
    · split
      · have := bpart_wt2 (A := rowq zs) (c := i - a) (n := a) (x := rowq zs i) (fun i => (smal_le _).2) (smal_le _).1 h1 (by omega)
        omega
      · split
        · have := bpart_wt2 (A := rowq zs) (c := b) (n := 0) (x := rowq zs i) (fun i => (smal_le _).2) (smal_le _).1 h1 (by omega)
          omega
        · omega
    · omega
theorem len_of {k i l n r : Nat} {x y z : Int} (h0 : mpz (cmap (k : Nat) (i : Nat)) 0 = x) (h1 : mpz (cmap (k : Nat) (i : Nat)) 1 = y) (h2 : mpz (cmap (k : Nat) (i : Nat)) 2 = z) (h : (l : Int) = x * n + y * n * r + z) : (l : Int) = mpz (cmap (k : Nat) (i : Nat)) 0 * n + mpz (cmap (k : Nat) (i : Nat)) 1 * n * r + mpz (cmap (k : Nat) (i : Nat)) 2 := by rw [h0, h1, h2]; exact h
theorem gmk_ok {k n r : Nat} {zs : List Int} (k1 : 1 ≤ k) (k7 : k ≤ 7) (n1 : 1 ≤ n) (n8 : n ≤ 8) (r3 : r ≤ 3) (rk : likeB k = true → 1 ≤ r) (r0 : likeB k = false → r = 0) : (gmk k n r zs).OK := by
  obtain ⟨t0, t1, t2, t3⟩ := cn_le k1 k7 n1 n8 r3 rk
  refine ⟨k1, k7, n1, n8, r3, rk, r0, fun i hi => ?_, ⟨fun i _ => mkL_wt (by omega), fun i _ => mkL_wt (by omega), fun i _ => mkL_wt (by omega), fun i _ => mkL_wt (by omega)⟩, fun i hi j hj => ?_⟩
  · have hk : k = 1 ∨ k = 2 ∨ k = 3 ∨ k = 4 ∨ k = 5 ∨ k = 6 ∨ k = 7 := by omega
    have hi4 : i = 0 ∨ i = 1 ∨ i = 2 ∨ i = 3 := by omega
    have em : ((n * r : Nat) : Int) = (n : Int) * r := Int.natCast_mul n r
    rcases hk with rfl | rfl | rfl | rfl | rfl | rfl | rfl
    · rcases hi4 with rfl | rfl | rfl | rfl
      · exact len_of (k := 1) (i := 0) (n := n) (r := r) (x := 2) (y := 0) (z := (-1)) (by decide) (by decide) (by decide) (by show ((2 * n - 1 : Nat) : Int) = _; omega)
      · exact len_of (k := 1) (i := 1) (n := n) (r := r) (x := 0) (y := 0) (z := 0) (by decide) (by decide) (by decide) (by show ((0 : Nat) : Int) = _; simp)
      · exact len_of (k := 1) (i := 2) (n := n) (r := r) (x := 0) (y := 0) (z := 0) (by decide) (by decide) (by decide) (by show ((0 : Nat) : Int) = _; simp)
      · exact len_of (k := 1) (i := 3) (n := n) (r := r) (x := 0) (y := 0) (z := 0) (by decide) (by decide) (by decide) (by show ((0 : Nat) : Int) = _; simp)
    · rcases hi4 with rfl | rfl | rfl | rfl
      · exact len_of (k := 2) (i := 0) (n := n) (r := r) (x := 2) (y := 0) (z := (-1)) (by decide) (by decide) (by decide) (by show ((2 * n - 1 : Nat) : Int) = _; omega)
      · exact len_of (k := 2) (i := 1) (n := n) (r := r) (x := 0) (y := 0) (z := 0) (by decide) (by decide) (by decide) (by show ((0 : Nat) : Int) = _; simp)
      · exact len_of (k := 2) (i := 2) (n := n) (r := r) (x := 0) (y := 0) (z := 0) (by decide) (by decide) (by decide) (by show ((0 : Nat) : Int) = _; simp)
      · exact len_of (k := 2) (i := 3) (n := n) (r := r) (x := 0) (y := 0) (z := 0) (by decide) (by decide) (by decide) (by show ((0 : Nat) : Int) = _; simp)
    · rcases hi4 with rfl | rfl | rfl | rfl
      · exact len_of (k := 3) (i := 0) (n := n) (r := r) (x := 1) (y := 0) (z := 0) (by decide) (by decide) (by decide) (by show ((n : Nat) : Int) = _; simp)
      · exact len_of (k := 3) (i := 1) (n := n) (r := r) (x := 0) (y := 0) (z := 0) (by decide) (by decide) (by decide) (by show ((0 : Nat) : Int) = _; simp)
      · exact len_of (k := 3) (i := 2) (n := n) (r := r) (x := 0) (y := 0) (z := 0) (by decide) (by decide) (by decide) (by show ((0 : Nat) : Int) = _; simp)
      · exact len_of (k := 3) (i := 3) (n := n) (r := r) (x := 0) (y := 0) (z := 0) (by decide) (by decide) (by decide) (by show ((0 : Nat) : Int) = _; simp)
    · rcases hi4 with rfl | rfl | rfl | rfl
      · exact len_of (k := 4) (i := 0) (n := n) (r := r) (x := 1) (y := 0) (z := 0) (by decide) (by decide) (by decide) (by show ((n : Nat) : Int) = _; simp)
      · exact len_of (k := 4) (i := 1) (n := n) (r := r) (x := 0) (y := 0) (z := 0) (by decide) (by decide) (by decide) (by show ((0 : Nat) : Int) = _; simp)
      · exact len_of (k := 4) (i := 2) (n := n) (r := r) (x := 0) (y := 0) (z := 0) (by decide) (by decide) (by decide) (by show ((0 : Nat) : Int) = _; simp)
      · exact len_of (k := 4) (i := 3) (n := n) (r := r) (x := 0) (y := 0) (z := 0) (by decide) (by decide) (by decide) (by show ((0 : Nat) : Int) = _; simp)
    · rcases hi4 with rfl | rfl | rfl | rfl
      · exact len_of (k := 5) (i := 0) (n := n) (r := r) (x := 1) (y := 0) (z := 0) (by decide) (by decide) (by decide) (by show ((n : Nat) : Int) = _; simp)
      · exact len_of (k := 5) (i := 1) (n := n) (r := r) (x := 1) (y := 0) (z := 0) (by decide) (by decide) (by decide) (by show ((n : Nat) : Int) = _; simp)
      · exact len_of (k := 5) (i := 2) (n := n) (r := r) (x := 0) (y := 0) (z := 0) (by decide) (by decide) (by decide) (by show ((0 : Nat) : Int) = _; simp)
      · exact len_of (k := 5) (i := 3) (n := n) (r := r) (x := 0) (y := 0) (z := 0) (by decide) (by decide) (by decide) (by show ((0 : Nat) : Int) = _; simp)
    · rcases hi4 with rfl | rfl | rfl | rfl
      · exact len_of (k := 6) (i := 0) (n := n) (r := r) (x := 0) (y := 0) (z := 0) (by decide) (by decide) (by decide) (by show ((0 : Nat) : Int) = _; simp)
      · exact len_of (k := 6) (i := 1) (n := n) (r := r) (x := 0) (y := 0) (z := 0) (by decide) (by decide) (by decide) (by show ((0 : Nat) : Int) = _; simp)
      · exact len_of (k := 6) (i := 2) (n := n) (r := r) (x := 0) (y := 1) (z := 0) (by decide) (by decide) (by decide) (by show ((n * r : Nat) : Int) = _; rw [em]; simp)
      · exact len_of (k := 6) (i := 3) (n := n) (r := r) (x := 0) (y := 1) (z := 0) (by decide) (by decide) (by decide) (by show ((n * r : Nat) : Int) = _; rw [em]; simp)
    · rcases hi4 with rfl | rfl | rfl | rfl
      · exact len_of (k := 7) (i := 0) (n := n) (r := r) (x := 1) (y := 0) (z := 0) (by decide) (by decide) (by decide) (by show ((n : Nat) : Int) = _; simp)
      · exact len_of (k := 7) (i := 1) (n := n) (r := r) (x := 1) (y := 0) (z := 0) (by decide) (by decide) (by decide) (by show ((n : Nat) : Int) = _; simp)
      · exact len_of (k := 7) (i := 2) (n := n) (r := r) (x := 0) (y := 1) (z := 0) (by decide) (by decide) (by decide) (by show ((n * r : Nat) : Int) = _; rw [em]; simp)
      · exact len_of (k := 7) (i := 3) (n := n) (r := r) (x := 0) (y := 1) (z := 0) (by decide) (by decide) (by decide) (by show ((n * r : Nat) : Int) = _; rw [em]; simp)
  · have hi : i < cnA k n := hi
    have hj : j < cnB k n := hj
    show mkL zs (cnA k n) (cnB k n) (cnB k n) 0 (0 + i) ≠ mkL zs (cnA k n) (cnB k n) (cnB k n) 0 (cnA k n + j)
    rw [Nat.zero_add, mkL_A hi]
    have e : mkL zs (cnA k n) (cnB k n) (cnB k n) 0 (cnA k n + j) = bpart (rowq zs) j (rowq zs (cnA k n + j)) (cnA k n) := by
      unfold mkL
      rw [if_neg (by omega), if_pos (by omega), if_pos (by omega), Nat.add_sub_cancel_left]
    rw [e]
    exact bpart_out (fun i => (smal_le _).2) (smal_le _).1 hi
theorem mkg_ok {kind n most : Int} {zs : List Int} (m1 : 1 ≤ most) (m8 : most ≤ 8) : (mkg kind n zs most).OK := by
  obtain ⟨a1, a2⟩ := wthn_lt (a := kind) (n := 7) (by decide)
  obtain ⟨b1, b2⟩ := wthn_lt (a := n) (n := most) (by omega)
  obtain ⟨c1, c2⟩ := wthn_lt (a := n.tdiv 8) (n := 2) (by decide)
  have eK : 1 + wthn kind 7 = ((mkK kind : Nat) : Int) := by unfold mkK; omega
  have eN : 1 + wthn n most = ((mkN n most : Nat) : Int) := by unfold mkN; omega
  refine gmk_ok (by omega) (by omega) (by omega) (by omega) ?_ (fun h => ?_) (fun h => ?_)
  · unfold mkR; split <;> omega
  · unfold mkR; rw [if_pos h]; omega
  · unfold mkR; rw [if_neg (by rw [h]; decide)]
end Go.Proofs.Ytpclkgjhfhhddaa.AM
/- Laws of systems: entries' weights; matrices of drawn systems. -/
namespace Go.Proofs.Ytpclkgjhfhhddaa.AM
open Go Go.RowKit Go.Proofs.Ytpclkgjhfhhddaa.PN Go.Proofs.Ytpclkgjhfhhddaa.V
open Go.Proofs.Ytpclkgjhfhhddaa.LA (S S_succ S_zero S_congr)
set_option linter.unusedVariables false
set_option linter.unusedSimpArgs false
set_option maxRecDepth 8000
set_option maxHeartbeats 8000000
theorem GD.ftok (g : GD) (U : Nat → Bool) : ∀ i, (g.ft i).ok U
  | 0 | 1 | 2 | 3 | 4 | 5 | 6 => trivial
  | _ + 7 => trivial
end Go.Proofs.Ytpclkgjhfhhddaa.AM
/- The document's systems: entries. -/
namespace Go.Proofs.Ytpclkgjhfhhddaa.AM
open Go Go.RowKit Go.Proofs.Ytpclkgjhfhhddaa.PN Go.Proofs.Ytpclkgjhfhhddaa.V
open Go.Proofs.Ytpclkgjhfhhddaa.LA (S S_succ S_zero S_congr)
set_option linter.unusedVariables false
set_option linter.unusedSimpArgs false
set_option maxRecDepth 8000
set_option maxHeartbeats 8000000
end Go.Proofs.Ytpclkgjhfhhddaa.AM
/- The document's check of a system. -/
namespace Go.Proofs.Ytpclkgjhfhhddaa.V
open Go Go.RowKit Go.Proofs.Ytpclkgjhfhhddaa.PN
set_option linter.unusedVariables false
set_option linter.unusedSimpArgs false
set_option maxHeartbeats 1000000 in
theorem r_right_any (A : Option Addr) (c s n : Nat) (w : World) (ha : At w A s n) (hs : s < B ^ n) (hn : n ≤ 17592186044416) :
    Calls Try.prog 101 #[.slice A n c] w fun e w' => e = .returned (.bool (decide (n = size s))) ∧ w = w' := by
  rcases Nat.eq_zero_or_pos n with h | h
  · subst h
    have h1 : decide (0 = size s) = true := by have := (lt_iff s 0).1 hs; simp; omega
    rw [h1]
    clear ha hs h1
    go_enter Try.func101, Try.ntmps101
    go_wp2
    go_ret
    simp
  · obtain ⟨k, rfl⟩ : ∃ k, n = k + 1 := ⟨n - 1, by omega⟩
    obtain ⟨b, off, rfl, hcell⟩ := ha k (by omega)
    have h1 : decide (k + 1 = size s) = !decide ((dig s k : Int) = 0) := by
      by_cases h0 : dig s k = 0
      · have := (lt_iff s k).1 (size_cut hs h0)
        rw [h0]; simp; omega
      · rw [size_of_top hs h0]; simp; exact h0
    rw [h1]
    have hk : ((k : Int) + 1 == 0) = false := by simp; omega
    clear ha hs h1
    generalize dig s k = d at *
    go_enter Try.func101, Try.ntmps101
    go_wp2
    go_ret
    exact ⟨congrArg (fun b => Ending.returned (.bool b)) (by rw [Bool.eq_iff_iff]; simp), rfl⟩
end Go.Proofs.Ytpclkgjhfhhddaa.V
namespace Go.Proofs.Ytpclkgjhfhhddaa.AM
open Go Go.RowKit Go.Proofs.Ytpclkgjhfhhddaa.PN Go.Proofs.Ytpclkgjhfhhddaa.V
open Go.Proofs.Ytpclkgjhfhhddaa.LA (S S_succ S_zero S_congr)
set_option linter.unusedVariables false
set_option linter.unusedSimpArgs false
set_option maxRecDepth 8000
set_option maxHeartbeats 8000000
theorem hr_cmp {a b : Nat} (ha : size a ≤ 4398046511103) (hb : size b ≤ 4398046511103) : Has Try.prog 61 [.nat a, .nat b] (.i (cmpI a b)) := by
  refine ⟨by kernel_rfl, trivial, fun w S β vs hv => ?_⟩
  obtain ⟨v, u, rfl, h1, h2⟩ := rvs2 hv
  haveI : NatAt w v a := ⟨h1⟩
  haveI : NatAt w u b := ⟨h2⟩
  refine (r_cmp_v ha hb).mono ?_
  rintro e w' ⟨rfl, h2⟩
  exact ⟨_, rfl, h2, rfl⟩
theorem h2_one : Has Try.prog 73 [] (.nat 1) := by
  refine ⟨by kernel_rfl, trivial, fun w S β vs hv => ?_⟩
  have hv0 : vs = [] := by have := hv.1; exact List.eq_nil_of_length_eq_zero this.symm
  subst hv0
  refine (s_one w).mono ?_
  rintro e w' ⟨v, rfl, h1, h2⟩
  exact ⟨_, rfl, h2, h1.any⟩
end Go.Proofs.Ytpclkgjhfhhddaa.AM
/- Numbers as they came in: limbs, wherever they lie. -/
namespace Go.Proofs.Ytpclkgjhfhhddaa.PN
/-- What limbs are worth. -/
def lval : List Nat → Nat
  | [] => 0
  | x :: l => x + B * lval l
def LF (l : List Nat) : Prop := ∀ x ∈ l, x < B
theorem lval_lt : ∀ {l : List Nat}, LF l → lval l < B ^ l.length
  | [], _ => by show 0 < B ^ 0; simp
  | x :: l, h => by
    have h1 := lval_lt (l := l) fun y hy => h y (List.mem_cons_of_mem _ hy)
    have h2 := h x (List.mem_cons_self ..)
    show x + B * lval l < B ^ (l.length + 1)
    rw [Nat.pow_succ, Nat.mul_comm (B ^ l.length) B]
    have := Nat.mul_le_mul_left B (show lval l + 1 ≤ B ^ l.length from h1)
    rw [Nat.mul_add] at this
    omega
theorem lval_dig : ∀ {l : List Nat}, LF l → ∀ i, i < l.length → dig (lval l) i = l.getD i 0
  | [], _, i, hi => absurd hi (Nat.not_lt_zero _)
  | x :: l, h, 0, _ => by
    have h2 := h x (List.mem_cons_self ..)
    show dig (x + B * lval l) 0 = x
    unfold dig
    rw [Nat.pow_zero, Nat.div_one, Nat.add_mul_mod_self_left, Nat.mod_eq_of_lt h2]
  | x :: l, h, i + 1, hi => by
    have h2 := h x (List.mem_cons_self ..)
    have h1 := lval_dig (l := l) (fun y hy => h y (List.mem_cons_of_mem _ hy)) i (by simpa using hi)
    show dig (x + B * lval l) (i + 1) = l.getD i 0
    rw [← h1]
    unfold dig
    rw [Nat.pow_succ, Nat.mul_comm (B ^ i) B, ← Nat.div_div_eq_div_mul, Nat.add_mul_div_left _ _ (by decide), Nat.div_eq_of_lt h2, Nat.zero_add]
/-- They end in no nought. -/
def trimB (l : List Nat) : Bool := decide (l.length = size (lval l))
theorem trim_len {l : List Nat} (h : trimB l = true) : l.length = size (lval l) := of_decide_eq_true h
theorem size_lval {l : List Nat} (h : LF l) : size (lval l) ≤ l.length := (lt_iff _ _).1 (lval_lt h)
/-- The limbs of a number. -/
def limbsOf (s : Nat) : List Nat := (List.range (size s)).map (dig s)
theorem limbsOf_len (s : Nat) : (limbsOf s).length = size s := by simp [limbsOf]
theorem limbsOf_get (s i : Nat) (hi : i < size s) : (limbsOf s).getD i 0 = dig s i := by
  unfold limbsOf
  rw [List.getD_eq_getElem?_getD, List.getElem?_map, List.getElem?_range hi]; rfl
theorem limbsOf_lf (s : Nat) : LF (limbsOf s) := by
  intro x hx
  obtain ⟨i, _, rfl⟩ := List.mem_map.1 hx
  exact dig_lt _ _
theorem lval_nil {l : List Nat} (h : trimB l = true) : l.length = 0 ↔ lval l = 0 := by
  rw [trim_len h, size_eq_zero]
end Go.Proofs.Ytpclkgjhfhhddaa.PN
namespace Go.Proofs.Ytpclkgjhfhhddaa.AM
open Go Go.RowKit Go.Proofs.Ytpclkgjhfhhddaa.PN Go.Proofs.Ytpclkgjhfhhddaa.V
set_option linter.unusedVariables false
set_option linter.unusedSimpArgs false
set_option maxRecDepth 8000
set_option maxHeartbeats 8000000
theorem plb_at {S : Nat → Prop} {w : World} {v : Value} {l : List Nat} (h : PLb S w v l) (hf : LF l) : ∃ A c, v = .slice A l.length c ∧ l.length ≤ c ∧ At w A (lval l) l.length := by
  obtain ⟨A, c, e, hc, hx⟩ := h
  refine ⟨A, c, e, hc, fun i hi => ?_⟩
  obtain ⟨b, off, e1, _, e2⟩ := hx i hi
  exact ⟨b, off, e1, by rw [lval_dig hf i hi]; exact e2⟩
theorem plb_trim {S : Nat → Prop} {w : World} {v : Value} {l : List Nat} (h : PLb S w v l) (hf : LF l) (ht : trimB l = true) : ∃ A c, v = .slice A (size (lval l)) c ∧ size (lval l) ≤ c ∧ At w A (lval l) (size (lval l)) := by
  have := plb_at h hf
  rwa [trim_len ht] at this
theorem plb_nat {S : Nat → Prop} {w : World} {v : Value} {n : Nat} (h : NatS w (fun _ => True) v n) : PLb S w v (limbsOf n) := by
  obtain ⟨A, c, e, hc, hx⟩ := h
  refine ⟨A, c, by rw [limbsOf_len]; exact e, by rw [limbsOf_len]; exact hc, fun i hi => ?_⟩
  rw [limbsOf_len] at hi
  obtain ⟨b, off, cs, e1, _, hr, e2⟩ := hx i hi
  exact ⟨b, off, e1, .inr ⟨cs, hr⟩, by rw [cell_of_row w b _ cs U32 (0, 0) hr, limbsOf_get n i hi]; exact e2⟩
theorem plb_lbs {S : Nat → Prop} {w : World} {v : Value} {l : List Nat} (h : Lbs w v l) : PLb S w v l := by
  obtain ⟨A, c, e, hc, hx⟩ := h
  refine ⟨A, c, e, hc, fun i hi => ?_⟩
  obtain ⟨b, off, cs, e1, hr, e2⟩ := hx i hi
  exact ⟨b, off, e1, .inr ⟨cs, hr⟩, by rw [cell_of_row w b _ cs U32 (0, 0) hr]; exact e2⟩
/-- The parts of a number. -/
def raN : RA → List Nat
  | .q p => limbsOf (nm p)
  | .raw _ n _ => n
def raD : RA → List Nat
  | .q p => limbsOf p.den
  | .raw _ _ d => d
theorem plb_rn {S : Nat → Prop} {w : World} {v : Value} : ∀ {r : RA}, RN w r v → PLb S w v (raN r)
  | .q p, h => plb_nat h
  | .raw _ _ _, h => plb_lbs h
theorem plb_rd {S : Nat → Prop} {w : World} {v : Value} : ∀ {r : RA}, RD w r v → PLb S w v (raD r)
  | .q p, h => plb_nat h
  | .raw _ _ _, h => plb_lbs h
theorem pcell_of {S : Nat → Prop} {w : World} {b o : Nat} {r : RA} (h : RatCell w b o r) : PCell S w b o r.sgn (raN r) (raD r) := by
  obtain ⟨cs, s, vn, vd, hr, h0, h1, h2, h3, h4, h5⟩ := h
  refine ⟨vn, vd, ?_, ?_, ?_, plb_rn h4, plb_rd h5⟩
  · rw [cell_of_row w b _ cs RT (0, 0) hr, h0, h3]
  · rw [cell_of_row w b _ cs RT (0, 0) hr, h1]
  · rw [cell_of_row w b _ cs RT (0, 0) hr, h2]
theorem rv_prow {S : Nat → Prop} {B : Nat} {β : Nat → Nat → Value} {w : World} {fr : Bool} {n : Nat} {f : Nat → RA} (v : Value) (h : RV S B β w (.row fr n f) v) : RV S B β w (.prow n (fun i => (f i).sgn) (fun i => raN (f i)) (fun i => raD (f i))) v := by
  obtain ⟨A, c, e, hc, hm, hx⟩ := h
  refine ⟨A, c, e, hc, hm, fun i hi => ?_⟩
  obtain ⟨b, off, e1, hS, _, hcell⟩ := hx i hi
  exact ⟨b, off, e1, hS, pcell_of hcell⟩
def gcd1 (a b : Nat) : Bool := Nat.beq (Nat.gcd a b) 1
theorem gcd1_cmp (a b : Nat) : gcd1 a b = decide (cmpI (Nat.gcd a b) 1 = 0) := by
  unfold gcd1
  generalize Nat.gcd a b = g
  rw [Bool.eq_iff_iff, Nat.beq_eq, decide_eq_true_iff, cmpI_zero]
/-- It is right. -/
def rgtB (s : Bool) (n d : List Nat) : Bool := trimB n && trimB d && decide (d.length ≠ 0) && !(decide (n.length = 0) && s) && gcd1 (lval n) (lval d)
theorem p_right {l : List Nat} (hf : LF l) (hn : l.length ≤ 1000000) : Has Try.prog 95 [.plb l] (.b (trimB l)) := by
  refine ⟨by kernel_rfl, trivial, fun w S β vs hv => ?_⟩
  obtain ⟨v, rfl, h1⟩ := rvs1 hv
  obtain ⟨A, c, rfl, hc, ha⟩ := plb_at h1 hf
  refine (right_any A c _ _ w ha (lval_lt hf) (by omega)).mono ?_
  rintro e w' ⟨rfl, rfl⟩
  exact ⟨_, rfl, Below.refl _ _, rfl⟩
theorem pr_right {l : List Nat} (hf : LF l) (hn : l.length ≤ 1000000) : Has Try.prog 101 [.plb l] (.b (trimB l)) := by
  refine ⟨by kernel_rfl, trivial, fun w S β vs hv => ?_⟩
  obtain ⟨v, rfl, h1⟩ := rvs1 hv
  obtain ⟨A, c, rfl, hc, ha⟩ := plb_at h1 hf
  refine (r_right_any A c _ _ w ha (lval_lt hf) (by omega)).mono ?_
  rintro e w' ⟨rfl, rfl⟩
  exact ⟨_, rfl, Below.refl _ _, rfl⟩
theorem p_gcd {l m : List Nat} (hf : LF l) (hg : LF m) (hl : trimB l = true) (hm : trimB m = true) (h1 : l.length ≤ 1000000) (h2 : m.length ≤ 1000000) : Has Try.prog 98 [.plb l, .plb m] (.nat (Nat.gcd (lval l) (lval m))) := by
  refine ⟨by kernel_rfl, trivial, fun w S β vs hv => ?_⟩
  obtain ⟨v, u, rfl, q1, q2⟩ := rvs2 hv
  obtain ⟨A, c, rfl, hc, ha⟩ := plb_trim q1 hf hl
  obtain ⟨A', c', rfl, hc', ha'⟩ := plb_trim q2 hg hm
  have := size_lval hf; have := size_lval hg
  refine (gcd_any A c _ A' c' _ w hc hc' ha ha' (by omega) (by omega)).mono ?_
  rintro e w' ⟨v, rfl, h1, h2⟩
  exact ⟨_, rfl, h2, h1.any⟩
theorem pr_gcd {l m : List Nat} (hf : LF l) (hg : LF m) (hl : trimB l = true) (hm : trimB m = true) (h1 : l.length ≤ 30000) (h2 : m.length ≤ 30000) : Has Try.prog 74 [.plb l, .plb m] (.nat (Nat.gcd (lval l) (lval m))) := by
  refine ⟨by kernel_rfl, trivial, fun w S β vs hv => ?_⟩
  obtain ⟨v, u, rfl, q1, q2⟩ := rvs2 hv
  obtain ⟨A, c, rfl, hc, ha⟩ := plb_trim q1 hf hl
  obtain ⟨A', c', rfl, hc', ha'⟩ := plb_trim q2 hg hm
  have := size_lval hf; have := size_lval hg
  refine (r_gcd_any A c _ A' c' _ w hc hc' ha ha' (by omega) (by omega)).mono ?_
  rintro e w' ⟨v, rfl, h1, h2⟩
  exact ⟨_, rfl, h2, h1.any⟩
theorem p_cmpn {l : List Nat} {b : Nat} (hf : LF l) (hl : trimB l = true) (h1 : l.length ≤ 1000000) (h2 : size b ≤ 1000000) : Has Try.prog 96 [.plb l, .nat b] (.i (cmpI (lval l) b)) := by
  refine ⟨by kernel_rfl, trivial, fun w S β vs hv => ?_⟩
  obtain ⟨v, u, rfl, q1, q2⟩ := rvs2 hv
  obtain ⟨A, c, rfl, hc, ha⟩ := plb_trim q1 hf hl
  haveI i2 : NatAt w u b := ⟨q2⟩
  obtain ⟨A', c', rfl, hc', ha'⟩ := i2.at
  have := size_lval hf
  refine (cmp_any A c _ A' c' _ w ha ha' (by omega) (by omega)).mono ?_
  rintro e w' ⟨rfl, h2⟩
  exact ⟨_, rfl, h2, rfl⟩
theorem p_mul {l m : List Nat} (hf : LF l) (hg : LF m) (hl : trimB l = true) (hm : trimB m = true) (h1 : l.length ≤ 1000000) (h2 : m.length ≤ 1000000) : Has Try.prog 100 [.plb l, .plb m] (.nat (lval l * lval m)) := by
  refine ⟨by kernel_rfl, trivial, fun w S β vs hv => ?_⟩
  obtain ⟨v, u, rfl, q1, q2⟩ := rvs2 hv
  obtain ⟨A, c, rfl, hc, ha⟩ := plb_trim q1 hf hl
  obtain ⟨A', c', rfl, hc', ha'⟩ := plb_trim q2 hg hm
  have := size_lval hf; have := size_lval hg
  refine (mul_any A c _ A' c' _ w ha ha' (by omega) (by omega)).mono ?_
  rintro e w' ⟨v, rfl, h1, h2⟩
  exact ⟨_, rfl, h2, h1.any⟩
theorem pr_cmp {l m : List Nat} (hf : LF l) (hg : LF m) (hl : trimB l = true) (hm : trimB m = true) (h1 : l.length ≤ 1000000) (h2 : m.length ≤ 1000000) : Has Try.prog 61 [.plb l, .plb m] (.i (cmpI (lval l) (lval m))) := by
  refine ⟨by kernel_rfl, trivial, fun w S β vs hv => ?_⟩
  obtain ⟨v, u, rfl, q1, q2⟩ := rvs2 hv
  obtain ⟨A, c, rfl, hc, ha⟩ := plb_trim q1 hf hl
  obtain ⟨A', c', rfl, hc', ha'⟩ := plb_trim q2 hg hm
  have := size_lval hf; have := size_lval hg
  refine (r_cmp A c _ A' c' _ w ha ha' (by omega) (by omega)).mono ?_
  rintro e w' ⟨rfl, h2⟩
  exact ⟨_, rfl, h2, rfl⟩
end Go.Proofs.Ytpclkgjhfhhddaa.AM

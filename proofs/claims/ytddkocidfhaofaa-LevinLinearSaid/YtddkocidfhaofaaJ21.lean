/- Joined texts, 21: MkA MkB MkC MkD LvE PMin. -/
import Derived.Test.YtddkocidfhaofaaJ18
import Derived.Test.YtddkocidfhaofaaJ20
set_option linter.unusedVariables false
set_option linter.unusedSimpArgs false
/- Systems that are drawn: counts, the numbers' places. -/
namespace Go.Proofs.Ytddkocidfhaofaa.AM
open Go Go.RowKit Go.Proofs.Ytddkocidfhaofaa.PN Go.Proofs.Ytddkocidfhaofaa.V
open Go.Proofs.Ytddkocidfhaofaa.LA (S S_succ S_zero S_congr)
set_option linter.unusedVariables false
set_option linter.unusedSimpArgs false
set_option maxRecDepth 8000
set_option maxHeartbeats 8000000
theorem k_within5 {a n : Int} (hn : 0 < n) (hn' : n < 1000000000) : Has Try.prog 36 [.i a, .i n] (.i (wthn a n)) := by
  refine has_of Try.func36 (by kernel_rfl) rfl Try.ntmps36 Try.results36 rfl rfl rfl ?_
  have h1 := Int.tmod_lt_of_pos a hn
  have h2 : -n < a.tmod n := Int.lt_tmod_of_pos a hn
  refine run0 ?_
  refine awp_if rfl (fun h => ?_) (fun h => ?_)
  · have e : wthn a n = a.tmod n + n := if_pos h
    rw [e]
    refine run0 ?_
    refine ⟨.inr rfl, _, Imp.refl _, ?_⟩
    exact .one (.tmp rfl)
  · have e : wthn a n = a.tmod n := if_neg h
    rw [e]
    refine run0 ?_
    refine ⟨.inr rfl, _, Imp.refl _, ?_⟩
    exact .one (.tmp rfl)
theorem r5_like (k : Nat) : Has Try.prog 37 [.i k] (.b (likeB k)) := by
  refine has_of Try.func37 (by kernel_rfl) rfl Try.ntmps37 Try.results37 rfl rfl rfl ?_
  by_cases h6 : k = 6
  · have e0 : decide ((k : Int) = 6) = true := decide_eq_true (by omega)
    have e1 : (decide ((k : Int) = 6) == false) = false := by rw [e0]; rfl
    refine run0p ?_
    refine ⟨.inr rfl, _, Imp.refl _, ?_⟩
    rw [h6]
    exact .one (.tmp rfl)
  · have e0 : decide ((k : Int) = 6) = false := decide_eq_false (by omega)
    have e1 : (decide ((k : Int) = 6) == false) = true := by rw [e0]; rfl
    have e2 : decide ((k : Int) = 7) = likeB k := by
      unfold likeB
      rw [decide_eq_false h6, Bool.false_or]
      exact decide_eq_decide.2 (by omega)
    refine run0p ?_
    refine ⟨.inr rfl, _, Imp.refl _, ?_⟩
    rw [← e2]
    exact .one (.tmp rfl)
/-- How many numbers a system has in its rows. -/
def cnA (k n : Nat) : Nat := match k with | 1 | 2 => 2 * n - 1 | 6 => 0 | _ => n
def cnB (k n : Nat) : Nat := match k with | 5 | 7 => n | _ => 0
def cnH (k n r : Nat) : Nat := match k with | 6 | 7 => n * r | _ => 0
/-- A system of which only three numbers are known. -/
def hdf (k n r : Nat) (i : Nat) : AV := [AV.i k, .i n, .i r, .v (.slice none 0 0), .v (.slice none 0 0), .v (.slice none 0 0), .v (.slice none 0 0)].getD i (.v undef)
theorem r5_counts {k n r : Nat} (h1 : 1 ≤ k) (h7 : k ≤ 7) (n1 : 1 ≤ n) (n8 : n ≤ 8) (r3 : r ≤ 3) : Has Try.prog 38 [.ag 7 (hdf k n r)] (.tup3 (.i (cnA k n)) (.i (cnB k n)) (.i (cnH k n r))) := by
  have hk : k = 1 ∨ k = 2 ∨ k = 3 ∨ k = 4 ∨ k = 5 ∨ k = 6 ∨ k = 7 := by omega
  have em : (n : Int) * (r : Int) = ((n * r : Nat) : Int) := (Int.natCast_mul n r).symm
  have hnr : n * r ≤ 8 * 3 := Nat.mul_le_mul n8 r3
  have q1 : -9223372036854775808 ≤ (n : Int) * (r : Int) := by rw [em]; omega
  have q2 : (n : Int) * (r : Int) ≤ 9223372036854775807 := by rw [em]; omega
  refine has_of Try.func38 (by kernel_rfl) rfl Try.ntmps38 Try.results38 rfl rfl rfl ?_
  refine run0 ?_
  rcases hk with rfl | rfl | rfl | rfl | rfl | rfl | rfl
  · skip
    refine awp_yes rfl rfl ?_
    refine run0 ?_
    refine awp_yes rfl rfl ?_
    refine run0 ?_
    rw [show (2 : Int) * n - 1 = ((cnA 1 n : Nat) : Int) from by show (2 : Int) * n - 1 = ((2 * n - 1 : Nat) : Int); omega]
    exact ⟨.inr rfl, _, Imp.refl _, .three (.tmp rfl) (.tmp rfl) (.tmp rfl)⟩
  · skip
    refine awp_no rfl rfl ?_
    refine run0 ?_
    refine awp_yes rfl rfl ?_
    refine run0 ?_
    rw [show (2 : Int) * n - 1 = ((cnA 2 n : Nat) : Int) from by show (2 : Int) * n - 1 = ((2 * n - 1 : Nat) : Int); omega]
    exact ⟨.inr rfl, _, Imp.refl _, .three (.tmp rfl) (.tmp rfl) (.tmp rfl)⟩
  · skip
    refine awp_no rfl rfl ?_
    refine run0 ?_
    refine awp_no rfl rfl ?_
    refine run0 ?_
    refine awp_yes rfl rfl ?_
    refine run0 ?_
    refine awp_yes rfl rfl ?_
    refine run0 ?_
    exact ⟨.inr rfl, _, Imp.refl _, .three (.tmp rfl) (.tmp rfl) (.tmp rfl)⟩
  · skip
    refine awp_no rfl rfl ?_
    refine run0 ?_
    refine awp_no rfl rfl ?_
    refine run0 ?_
    refine awp_no rfl rfl ?_
    refine run0 ?_
    refine awp_yes rfl rfl ?_
    refine run0 ?_
    exact ⟨.inr rfl, _, Imp.refl _, .three (.tmp rfl) (.tmp rfl) (.tmp rfl)⟩
  · skip
    refine awp_no rfl rfl ?_
    refine run0 ?_
    refine awp_no rfl rfl ?_
    refine run0 ?_
    refine awp_no rfl rfl ?_
    refine run0 ?_
    refine awp_no rfl rfl ?_
    refine run0 ?_
    refine awp_yes rfl rfl ?_
    refine run0 ?_
    exact ⟨.inr rfl, _, Imp.refl _, .three (.tmp rfl) (.tmp rfl) (.tmp rfl)⟩
  · skip
    refine awp_no rfl rfl ?_
    refine run0 ?_
    refine awp_no rfl rfl ?_
    refine run0 ?_
    refine awp_no rfl rfl ?_
    refine run0 ?_
    refine awp_no rfl rfl ?_
    refine run0 ?_
    refine awp_no rfl rfl ?_
    refine run0 ?_
    refine awp_yes rfl rfl ?_
    refine run0 ?_
    rw [em]
    exact ⟨.inr rfl, _, Imp.refl _, .three (.tmp rfl) (.tmp rfl) (.tmp rfl)⟩
  · skip
    refine awp_no rfl rfl ?_
    refine run0 ?_
    refine awp_no rfl rfl ?_
    refine run0 ?_
    refine awp_no rfl rfl ?_
    refine run0 ?_
    refine awp_no rfl rfl ?_
    refine run0 ?_
    refine awp_no rfl rfl ?_
    refine run0 ?_
    refine awp_no rfl rfl ?_
    refine run0 ?_
    rw [em]
    exact ⟨.inr rfl, _, Imp.refl _, .three (.tmp rfl) (.tmp rfl) (.tmp rfl)⟩
end Go.Proofs.Ytddkocidfhaofaa.AM
/- Systems that are drawn: walked. -/
namespace Go.Proofs.Ytddkocidfhaofaa.AM
open Go Go.RowKit Go.Proofs.Ytddkocidfhaofaa.PN Go.Proofs.Ytddkocidfhaofaa.V
open Go.Proofs.Ytddkocidfhaofaa.LA (S S_succ S_zero S_congr)
set_option linter.unusedVariables false
set_option linter.unusedSimpArgs false
set_option maxRecDepth 8000
set_option maxHeartbeats 8000000
/-- A number of the second row behind r looks. -/
def bpart (A : Nat → Rat) (c : Nat) (x : Rat) : Nat → Rat
  | 0 => x
  | r + 1 => if A r = bpart A c x r then bpart A c x r + ((100 + c : Int) : Rat) else bpart A c x r
/-- The numbers when c columns are done and r rows of the next. -/
def mkL (zs : List Int) (a b c r i : Nat) : Rat :=
  if i < a then rowq zs i else if i < a + b then (if i - a < c then bpart (rowq zs) (i - a) (rowq zs i) a else if i - a = c then bpart (rowq zs) c (rowq zs i) r else rowq zs i) else rowq zs i
theorem mkL_start {zs : List Int} {a b : Nat} (i : Nat) : mkL zs a b 0 0 i = rowq zs i := by
  unfold mkL
  split
  · rfl
  · split
    · rw [if_neg (Nat.not_lt_zero _)]
      split
      · rfl
      · rfl
    · rfl
theorem mkL_next {zs : List Int} {a b c : Nat} (i : Nat) : mkL zs a b c a i = mkL zs a b (c + 1) 0 i := by
  unfold mkL
  split
  · rfl
  · split
    · by_cases h1 : i - a < c
      · rw [if_pos h1, if_pos (by omega)]
      · rw [if_neg h1]
        by_cases h2 : i - a = c
        · rw [if_pos h2, if_pos (by omega), h2]
        · rw [if_neg h2, if_neg (by omega)]
          split
          · rfl
          · rfl
    · rfl
theorem mkL_A {zs : List Int} {a b c r i : Nat} (h : i < a) : mkL zs a b c r i = rowq zs i := if_pos h
theorem mkL_B {zs : List Int} {a b c r : Nat} (h : c < b) : mkL zs a b c r (a + c) = bpart (rowq zs) c (rowq zs (a + c)) r := by
  unfold mkL
  rw [if_neg (by omega), if_pos (by omega), if_neg (by omega), if_pos (by omega)]
theorem mkL_row {zs : List Int} {a b c r i : Nat} (h : i ≠ a + c) (r' : Nat) : mkL zs a b c r i = mkL zs a b c r' i := by
  unfold mkL
  by_cases h0 : i < a
  · rw [if_pos h0, if_pos h0]
  · rw [if_neg h0, if_neg h0]
    by_cases h1 : i < a + b
    · rw [if_pos h1, if_pos h1]
      by_cases h2 : i - a < c
      · rw [if_pos h2, if_pos h2]
      · rw [if_neg h2, if_neg h2, if_neg (by omega), if_neg (by omega)]
    · rw [if_neg h1, if_neg h1]
/-- Which kind, how large, of which rank. -/
def mkK (kind : Int) : Nat := (1 + wthn kind 7).toNat
def mkN (n most : Int) : Nat := (1 + wthn n most).toNat
def mkR (k : Nat) (n : Int) : Nat := if likeB k then (1 + wthn (n.tdiv 8) 2).toNat else 0
def gmk (k m r : Nat) (zs : List Int) : GD :=
  ⟨k, m, r, cnA k m, cnB k m, cnH k m r, cnH k m r, fun i => mkL zs (cnA k m) (cnB k m) (cnB k m) 0 (0 + i), fun i => mkL zs (cnA k m) (cnB k m) (cnB k m) 0 (cnA k m + i), fun i => mkL zs (cnA k m) (cnB k m) (cnB k m) 0 (cnA k m + cnB k m + i), fun i => mkL zs (cnA k m) (cnB k m) (cnB k m) 0 (cnA k m + cnB k m + cnH k m r + i)⟩
def mkg (kind n : Int) (zs : List Int) (most : Int) : GD := gmk (mkK kind) (mkN n most) (mkR (mkK kind) n) zs
theorem hdf_ok (k n r : Nat) (U : Nat → Bool) : ∀ i, (hdf k n r i).ok U
  | 0 | 1 | 2 | 3 | 4 | 5 | 6 => trivial
  | _ + 7 => trivial
/-- .. as what a call has made. -/
def GD.ft (g : GD) (i : Nat) : AV := [AV.i g.k, .i g.n, .i g.r, .row true g.la (fun i => .q (g.A i)), .row true g.lb (fun i => .q (g.B i)), .row true g.lg (fun i => .q (g.G i)), .row true g.lh (fun i => .q (g.H i))].getD i (.v undef)
theorem ble7 {T : TypeId} {f f' : Nat → AV} (h0 : f 0 = f' 0) (h1 : f 1 = f' 1) (h2 : f 2 = f' 2) (h3 : f 3 = f' 3) (h4 : f 4 = f' 4) (h5 : f 5 = f' 5) (h6 : f 6 = f' 6) : BLe idR (.ones T 7 f) (.ones T 7 f') :=
  bleo rfl fun i hi => Le.id (g7 h0 h1 h2 h3 h4 h5 h6 i hi)
theorem sl_eq {g r o o' n n' : Nat} (h1 : o = o') (h2 : n = n') : AV.sl g r o n = AV.sl g r o' n' := by rw [h1, h2]
/-- A system whose rows are parts of one own slice. -/
def slf (k n r a b h : Nat) (i : Nat) : AV := [AV.i k, .i n, .i r, .sl 63 0 0 a, .sl 63 0 a b, .sl 63 0 (a + b) h, .sl 63 0 (a + b + h) h].getD i (.v undef)
theorem slf_ok {k n r a b h : Nat} {U : Nat → Bool} (hU : U 63 = true) : ∀ i, (slf k n r a b h i).ok U
  | 0 | 1 | 2 => trivial
  | 3 | 4 | 5 | 6 => hU
  | _ + 7 => trivial
theorem int_wt {z : Int} (h : 0 ≤ z ∧ z ≤ 200) : wt ((z : Int) : Rat) ≤ 1 := by
  have key : ∀ x : _root_.Fin 201, wt (((x.val : Int) : Int) : Rat) ≤ 1 := by decide +kernel
  have := key ⟨z.toNat, by omega⟩
  rw [show ((z.toNat : Nat) : Int) = z by omega] at this
  exact this
theorem bpart_wt {A : Nat → Rat} {c : Nat} {x : Rat} (hc : c ≤ 100) (hx : wt x ≤ 1) : ∀ r, wt (bpart A c x r) ≤ 1 + 2 * r
  | 0 => by show wt x ≤ _; omega
  | r + 1 => by
    have ih := bpart_wt (A := A) hc hx r
    show wt (if _ then _ else _) ≤ _
    split
    · have h1 := wt_add (bpart A c x r) ((100 + c : Int) : Rat)
      have h2 : wt ((100 + c : Int) : Rat) ≤ 1 := int_wt (by omega)
      omega
    · omega
theorem cn_le {k n r : Nat} (h1 : 1 ≤ k) (h7 : k ≤ 7) (n1 : 1 ≤ n) (n8 : n ≤ 8) (r3 : r ≤ 3) (hr : likeB k = true → 1 ≤ r) : cnA k n ≤ 15 ∧ cnB k n ≤ 8 ∧ cnH k n r ≤ 24 ∧ 0 < cnA k n + cnB k n + 2 * cnH k n r := by
  have hk : k = 1 ∨ k = 2 ∨ k = 3 ∨ k = 4 ∨ k = 5 ∨ k = 6 ∨ k = 7 := by omega
  have hnr : n * r ≤ 8 * 3 := Nat.mul_le_mul n8 r3
  rcases hk with rfl | rfl | rfl | rfl | rfl | rfl | rfl
  · show 2 * n - 1 ≤ 15 ∧ 0 ≤ 8 ∧ 0 ≤ 24 ∧ 0 < 2 * n - 1 + 0 + 2 * 0; omega
  · show 2 * n - 1 ≤ 15 ∧ 0 ≤ 8 ∧ 0 ≤ 24 ∧ 0 < 2 * n - 1 + 0 + 2 * 0; omega
  · show n ≤ 15 ∧ 0 ≤ 8 ∧ 0 ≤ 24 ∧ 0 < n + 0 + 2 * 0; omega
  · show n ≤ 15 ∧ 0 ≤ 8 ∧ 0 ≤ 24 ∧ 0 < n + 0 + 2 * 0; omega
  · show n ≤ 15 ∧ n ≤ 8 ∧ 0 ≤ 24 ∧ 0 < n + n + 2 * 0; omega
  · have : 1 ≤ n * r := Nat.mul_le_mul n1 (hr rfl)
    show 0 ≤ 15 ∧ 0 ≤ 8 ∧ n * r ≤ 24 ∧ 0 < 0 + 0 + 2 * (n * r); omega
  · show n ≤ 15 ∧ n ≤ 8 ∧ n * r ≤ 24 ∧ 0 < n + n + 2 * (n * r); omega
theorem k_mk {kind n most : Int} {zs : List Int} (hk : Fits .i64 kind) (hn : Fits .i64 n) (hz : AllFit zs) (m1 : 1 ≤ most) (m8 : most ≤ 8) : Has Try.prog 19 [.i kind, .i n, .seq .i64 zs, .i most] (.ag 7 (mkg kind n zs most).ft) := by
  obtain ⟨a1, a2⟩ := wthn_lt (a := kind) (n := 7) (by decide)
  obtain ⟨b1, b2⟩ := wthn_lt (a := n) (n := most) (by omega)
  obtain ⟨c1, c2⟩ := wthn_lt (a := n.tdiv 8) (n := 2) (by decide)
  have eK : 1 + wthn kind 7 = ((mkK kind : Nat) : Int) := by unfold mkK; omega
  have eN : 1 + wthn n most = ((mkN n most : Nat) : Int) := by unfold mkN; omega
  have hf : -9223372036854775808 ≤ n ∧ n ≤ 9223372036854775807 := hn
  have h5 : Fits .i64 (n.tdiv 8) := by
    have e1 : (n.tdiv 8).natAbs = n.natAbs / 8 := Int.natAbs_tdiv n 8
    show -9223372036854775808 ≤ _ ∧ _ ≤ (9223372036854775807 : Int)
    omega
  obtain ⟨h5a, h5b⟩ : -9223372036854775808 ≤ n.tdiv 8 ∧ n.tdiv 8 ≤ 9223372036854775807 := h5
  refine has_of Try.func19 (by kernel_rfl) rfl Try.ntmps19 Try.results19 rfl rfl rfl ?_
  repeat(first|refine run1p ?_|((with_reducible apply st_call);exact rfl;exact rfl;exact rfl;first|(exact k_within5 (by omega) (by omega)))|((with_reducible apply st_callg);exact rfl;exact rfl;(first|exact rfl|assumption);exact rfl;exact rfl;exact rfl;first|(exact k_within5 (by omega) (by omega))))
  rw [eK, eN]
  repeat(first|refine run1p ?_|((with_reducible apply st_call);exact rfl;exact rfl;exact rfl;first|(exact r5_like _))|((with_reducible apply st_callg);exact rfl;exact rfl;(first|exact rfl|assumption);exact rfl;exact rfl;exact rfl;first|(exact r5_like _)))
  refine awp_join (stl [(2, .seq .i64 zs), (8, .ptr 8 0 0), (9, .ptr 9 0 0)] [(8, (1, fun _ => .ones 26 7 (hdf 0 0 0))), (9, (1, fun _ => .ones 26 7 (hdf (mkK kind) (mkN n most) (mkR (mkK kind) n))))]) ?_ ?_
  · cases hl : likeB (mkK kind) with
    | true =>
      have eR : 1 + wthn (n.tdiv 8) 2 = ((mkR (mkK kind) n : Nat) : Int) := by unfold mkR; rw [if_pos hl]; omega
      refine awp_yes rfl rfl ?_
      repeat(first|refine run1p ?_|((with_reducible apply st_call);exact rfl;exact rfl;exact rfl;first|(exact k_within5 (by decide) (by decide)))|((with_reducible apply st_callg);exact rfl;exact rfl;(first|exact rfl|assumption);exact rfl;exact rfl;exact rfl;first|(exact k_within5 (by decide) (by decide))))
      rw [eR]
      refine run0p ?_
      refine ⟨rfl, imp_id ?_ ?_⟩
      · exact eA
      · exact allh rfl (by decide) (ble7 rfl rfl rfl rfl rfl rfl rfl) (fun i _ => hdf_ok _ _ _ _ i) (allh rfl (by decide) (ble7 rfl rfl rfl rfl rfl rfl rfl) (fun i _ => hdf_ok _ _ _ _ i) True.intro)
    | false =>
      have eR : (((mkR (mkK kind) n : Nat)) : Int) = 0 := by unfold mkR; rw [if_neg (by rw [hl]; decide)]; rfl
      refine awp_no rfl rfl ?_
      refine run0p ?_
      refine ⟨rfl, imp_id ?_ ?_⟩
      · exact eA
      · exact allh rfl (by decide) (ble7 rfl rfl rfl rfl rfl rfl rfl) (fun i _ => hdf_ok _ _ _ _ i) (allh rfl (by decide) (ble7 rfl rfl (by show AV.i 0 = AV.i _; rw [eR]) rfl rfl rfl rfl) (fun i _ => hdf_ok _ _ _ _ i) True.intro)
  · have k1 : 1 ≤ mkK kind := by omega
    have k7 : mkK kind ≤ 7 := by omega
    have n1 : 1 ≤ mkN n most := by omega
    have n8 : mkN n most ≤ 8 := by omega
    have r3 : mkR (mkK kind) n ≤ 3 := by unfold mkR; split <;> omega
    have rl : likeB (mkK kind) = true → 1 ≤ mkR (mkK kind) n := fun h => by unfold mkR; rw [if_pos h]; omega
    unfold mkg
    generalize mkR (mkK kind) n = R at *
    generalize mkK kind = K at *
    generalize mkN n most = N at *
    clear a1 a2 b1 b2 c1 c2 h5a h5b eK eN
    obtain ⟨t0, t1, t2, t3⟩ := cn_le k1 k7 n1 n8 r3 rl
    have c := r5_counts k1 k7 n1 n8 r3
    repeat(first|refine run1p ?_|((with_reducible apply st_call);exact rfl;exact rfl;exact rfl;first|(exact Has.ag (g7 rfl rfl rfl rfl rfl rfl rfl) c))|((with_reducible apply st_callg);exact rfl;exact rfl;(first|exact rfl|assumption);exact rfl;exact rfl;exact rfl;first|(exact Has.ag (g7 rfl rfl rfl rfl rfl rfl rfl) c)))
    rw [show ((cnA K N : Nat) : Int) + (cnB K N : Nat) + 2 * (cnH K N R : Nat) = ((cnA K N + cnB K N + 2 * cnH K N R : Nat) : Int) from by omega]
    ((with_reducible apply st_callH); exact rfl; exact rfl; exact rfl; exact (k_rowo (by omega) (by omega) hz); (first | exact True.intro | exact ⟨rfl, rfl, rfl, True.intro⟩); exact rfl; exact rfl; exact rfl; exact rfl; (focus (repeat (first | exact True.intro | refine ⟨(by first | exact True.intro | rfl | exact ok_none (closed_ok rfl)), ?_⟩))); (first | exact True.intro | exact okf_WH | exact okf_pf (by exact True.intro) (by exact True.intro)))
    refine run0p ?_
    have em : ∀ i, mkL zs (cnA K N) (cnB K N) 0 0 i = rowq zs i := mkL_start
    refine awp_loop (fun m' s => ∃ c, c ≤ cnB K N ∧ m' = cnB K N - c ∧ s = stl [(8, .ptr 8 0 0), (9, .ptr 9 0 0), (10, .i (cnA K N)), (11, .i (cnB K N)), (14, .i (c : Int))] [(8, (1, fun _ => .ones 26 7 (hdf 0 0 0))), (9, (1, fun _ => .ones 26 7 (slf K N R (cnA K N) (cnB K N) (cnH K N R)))), (63, (1, fun _ => .rats (cnA K N + cnB K N + 2 * cnH K N R) fun i => .q (mkL zs (cnA K N) (cnB K N) c 0 i)))]) (cnB K N) _ (imp_id ?_ ?_) ⟨0, Nat.zero_le _, rfl, rfl⟩ ?_
    · exact eA
    · refine allh rfl (by decide) (ble7 rfl rfl rfl rfl rfl rfl rfl) (fun i _ => hdf_ok _ _ _ _ i) (allh rfl (by decide) (ble7 rfl rfl rfl (sl_eq rfl (by omega)) (sl_eq (by omega) (by omega)) (sl_eq (by omega) (by omega)) (sl_eq (by omega) (by omega))) (fun i _ => slf_ok rfl i) (allh rfl (by decide) (blen rfl fun i _ => congrArg RA.q (em i).symm) True.intro True.intro))
    · rintro m' s ⟨c, hc, rfl, rfl⟩
      refine run0p ?_
      refine awp_if rfl (fun h' => ?_) (fun h' => ?_)
      · have h' : c < cnB K N := by omega
        refine run0p ?_
        refine awp_loop (fun m' s => ∃ r, r ≤ cnA K N ∧ m' = cnA K N - r ∧ s = stl [(8, .ptr 8 0 0), (9, .ptr 9 0 0), (10, .i (cnA K N)), (11, .i (cnB K N)), (14, .i (c : Int)), (15, .i (r : Int))] [(8, (1, fun _ => .ones 26 7 (hdf 0 0 0))), (9, (1, fun _ => .ones 26 7 (slf K N R (cnA K N) (cnB K N) (cnH K N R)))), (63, (1, fun _ => .rats (cnA K N + cnB K N + 2 * cnH K N R) fun i => .q (mkL zs (cnA K N) (cnB K N) c r i)))]) (cnA K N) _ (imp_id ?_ ?_) ⟨0, Nat.zero_le _, rfl, rfl⟩ ?_
        · exact eA
        · exact allh rfl (by decide) (ble7 rfl rfl rfl rfl rfl rfl rfl) (fun i _ => hdf_ok _ _ _ _ i) (allh rfl (by decide) (ble7 rfl rfl rfl rfl rfl rfl rfl) (fun i _ => slf_ok rfl i) (allh rfl (by decide) (blen rfl fun i _ => rfl) True.intro True.intro))
        · rintro m' s ⟨r, hr, rfl, rfl⟩
          refine run0p ?_
          refine awp_if rfl (fun h1 => ?_) (fun h1 => ?_)
          · have h1 : r < cnA K N := by omega
            have fA : mkL zs (cnA K N) (cnB K N) c r r = rowq zs r := mkL_A h1
            have fB : mkL zs (cnA K N) (cnB K N) c r (cnA K N + c) = bpart (rowq zs) c (rowq zs (cnA K N + c)) r := mkL_B h'
            have fB1 : mkL zs (cnA K N) (cnB K N) c (r + 1) (cnA K N + c) = bpart (rowq zs) c (rowq zs (cnA K N + c)) (r + 1) := mkL_B h'
            have w1 : wt (mkL zs (cnA K N) (cnB K N) c r r) ≤ 1 := by rw [fA]; exact (rowq_wt zs r).le
            have w2 : wt (mkL zs (cnA K N) (cnB K N) c r (cnA K N + c)) ≤ 31 := by rw [fB]; have := bpart_wt (A := rowq zs) (c := c) (x := rowq zs (cnA K N + c)) (by omega) (rowq_wt zs _).le r; omega
            have w3 : wt ((100 + c : Int) : Rat) ≤ 1 := int_wt (by omega)
            have ci := hs_int (100 + (c : Int)) (by omega) (by omega)
            refine run0p ?_
            rw [show 0 + ((r : Nat) : Int).toNat = r from by omega, show cnA K N + ((c : Nat) : Int).toNat = cnA K N + c from rfl]
            repeat(first|refine run1p ?_|((with_reducible apply st_call);exact rfl;exact rfl;exact rfl;first|(exact hs_same (p := mkL zs (cnA K N) (cnB K N) c r r) (q := mkL zs (cnA K N) (cnB K N) c r (cnA K N + c)) (by omega) (by omega)))|((with_reducible apply st_callg);exact rfl;exact rfl;(first|exact rfl|assumption);exact rfl;exact rfl;exact rfl;first|(exact hs_same (p := mkL zs (cnA K N) (cnB K N) c r r) (q := mkL zs (cnA K N) (cnB K N) c r (cnA K N + c)) (by omega) (by omega))))
            refine awp_if rfl (fun h2 => ?_) (fun h2 => ?_)
            · repeat(first|refine run1p ?_|((with_reducible apply st_call);exact rfl;exact rfl;exact rfl;first|(exact ci))|((with_reducible apply st_callg);exact rfl;exact rfl;(first|exact rfl|assumption);exact rfl;exact rfl;exact rfl;first|(exact ci)))
              rw [show cnA K N + ((c : Nat) : Int).toNat = cnA K N + c from rfl]
              repeat(first|refine run1p ?_|((with_reducible apply st_call);exact rfl;exact rfl;exact rfl;first|(exact ci)|(exact hs_add (p := mkL zs (cnA K N) (cnB K N) c r (cnA K N + c)) (q := ((100 + c : Int) : Rat)) (by omega) (by omega)))|((with_reducible apply st_callg);exact rfl;exact rfl;(first|exact rfl|assumption);exact rfl;exact rfl;exact rfl;first|(exact ci)|(exact hs_add (p := mkL zs (cnA K N) (cnB K N) c r (cnA K N + c)) (q := ((100 + c : Int) : Rat)) (by omega) (by omega))))
              refine q_loop ?_ (imp_id ?_ ?_) ⟨r + 1, ?_, rfl, rfl⟩
              · omega
              · exact eA
              · refine allh rfl (by decide) (ble7 rfl rfl rfl rfl rfl rfl rfl) (fun i _ => hdf_ok _ _ _ _ i) (allh rfl (by decide) (ble7 rfl rfl rfl rfl rfl rfl rfl) (fun i _ => slf_ok rfl i) (allh rfl (by decide) (blen rfl fun i _ => ?_) True.intro True.intro))
                by_cases e : i = cnA K N + c
                · subst e
                  refine (updN_same _ _ _).trans (congrArg RA.q ?_)
                  rw [fB1]
                  show _ = (if _ then _ else _)
                  rw [if_pos (by rw [← fA, ← fB]; exact h2), ← fB]
                · exact (updN_ne _ _ e).trans (congrArg RA.q (mkL_row e (r + 1)))
              · omega
            · refine run0p ?_
              refine q_loop ?_ (imp_id ?_ ?_) ⟨r + 1, ?_, rfl, rfl⟩
              · omega
              · exact eA
              · refine allh rfl (by decide) (ble7 rfl rfl rfl rfl rfl rfl rfl) (fun i _ => hdf_ok _ _ _ _ i) (allh rfl (by decide) (ble7 rfl rfl rfl rfl rfl rfl rfl) (fun i _ => slf_ok rfl i) (allh rfl (by decide) (blen rfl fun i _ => congrArg RA.q ?_) True.intro True.intro))
                by_cases e : i = cnA K N + c
                · subst e
                  rw [fB, fB1]
                  show _ = (if _ then _ else _)
                  rw [if_neg (by rw [← fA, ← fB]; exact h2)]
                · exact mkL_row e (r + 1)
              · omega
          · have er : r = cnA K N := by omega
            refine run0p ?_
            refine q_loop ?_ (imp_id ?_ ?_) ⟨c + 1, ?_, rfl, rfl⟩
            · omega
            · exact eA
            · refine allh rfl (by decide) (ble7 rfl rfl rfl rfl rfl rfl rfl) (fun i _ => hdf_ok _ _ _ _ i) (allh rfl (by decide) (ble7 rfl rfl rfl rfl rfl rfl rfl) (fun i _ => slf_ok rfl i) (allh rfl (by decide) (blen rfl fun i _ => congrArg RA.q ?_) True.intro True.intro))
              rw [er]; exact mkL_next i
            · omega
      · have ec : c = cnB K N := by omega
        subst ec
        refine run0p ?_
        refine ⟨.inr rfl, _, imp_pubsl 63 8 (f' := (gmk K N R zs).ft) rfl rfl rfl rfl (fun i hi => ?_) (by decide), .one (.agg rfl rfl rfl rfl (by decide) rfl rfl)⟩
        match i, hi with
        | 0, _ => exact .inl rfl
        | 1, _ => exact .inl rfl
        | 2, _ => exact .inl rfl
        | 3, _ => exact .inr ⟨0, cnA K N, rfl, by omega, rfl⟩
        | 4, _ => exact .inr ⟨cnA K N, cnB K N, rfl, by omega, rfl⟩
        | 5, _ => exact .inr ⟨cnA K N + cnB K N, cnH K N R, rfl, by omega, rfl⟩
        | 6, _ => exact .inr ⟨cnA K N + cnB K N + cnH K N R, cnH K N R, rfl, by omega, rfl⟩
end Go.Proofs.Ytddkocidfhaofaa.AM
/- Systems that are drawn: they are right. -/
namespace Go.Proofs.Ytddkocidfhaofaa.AM
open Go Go.RowKit Go.Proofs.Ytddkocidfhaofaa.PN Go.Proofs.Ytddkocidfhaofaa.V
open Go.Proofs.Ytddkocidfhaofaa.LA (S S_succ S_zero S_congr)
set_option linter.unusedVariables false
set_option linter.unusedSimpArgs false
set_option maxRecDepth 8000
set_option maxHeartbeats 8000000
theorem smal_rng : ∀ x : _root_.Fin 41, ∀ y : _root_.Fin 5, -20 ≤ (((x.val : Int) - 20 : Int) : Rat) / ((1 + (y.val : Int) : Int) : Rat) ∧ (((x.val : Int) - 20 : Int) : Rat) / ((1 + (y.val : Int) : Int) : Rat) ≤ 20 := by decide +kernel
theorem smal_le (a : Int) : -20 ≤ smal a ∧ smal a ≤ 20 := by
  obtain ⟨h1, h2⟩ := wthn_lt (a := a) (n := 41) (by decide)
  obtain ⟨h3, h4⟩ := wthn_lt (a := a.tdiv 41) (n := 5) (by decide)
  have := smal_rng ⟨(wthn a 41).toNat, by omega⟩ ⟨(wthn (a.tdiv 41) 5).toNat, by omega⟩
  rw [show (((wthn a 41).toNat : Nat) : Int) = wthn a 41 by omega, show (((wthn (a.tdiv 41) 5).toNat : Nat) : Int) = wthn (a.tdiv 41) 5 by omega] at this
  exact this
theorem far {p x y : Rat} (hp : p ≤ 20) (hx : -20 ≤ x) (hy : 100 ≤ y) : p ≠ x + y := by
  intro e
  have h1 : -20 + y ≤ x + y := Rat.add_le_add_right.2 hx
  have h2 : -20 + 100 ≤ -20 + y := Rat.add_le_add_left.2 hy
  have h3 : (-20 + 100 : Rat) ≤ 20 := Rat.le_trans h2 (Rat.le_trans h1 (by rw [← e]; exact hp))
  exact absurd h3 (by decide +kernel)
theorem hun (c : Nat) : (100 : Rat) ≤ ((100 + c : Int) : Rat) := by
  have : ((100 : Int) : Rat) ≤ ((100 + c : Int) : Rat) := Rat.intCast_le_intCast.2 (by omega)
  exact this
/-- A number of the second row is none of the first row's. -/
theorem bpart_ne {A : Nat → Rat} {c : Nat} {x : Rat} (hA : ∀ i, A i ≤ 20) (hx : -20 ≤ x) : ∀ r, (bpart A c x r = x ∧ ∀ i, i < r → A i ≠ x) ∨ bpart A c x r = x + ((100 + c : Int) : Rat)
  | 0 => .inl ⟨rfl, fun i hi => absurd hi (Nat.not_lt_zero _)⟩
  | r + 1 => by
    show ((if _ then _ else _) = x ∧ _) ∨ (if _ then _ else _) = _
    rcases bpart_ne hA hx r with ⟨h1, h2⟩ | h1
    · rw [h1]
      by_cases e : A r = x
      · rw [if_pos e]; exact .inr rfl
      · rw [if_neg e]
        refine .inl ⟨rfl, fun i hi => ?_⟩
        by_cases h : i = r
        · rw [h]; exact e
        · exact h2 i (by omega)
    · rw [h1, if_neg (far (hA r) hx (hun c))]; exact .inr rfl
theorem bpart_out {A : Nat → Rat} {c n : Nat} {x : Rat} (hA : ∀ i, A i ≤ 20) (hx : -20 ≤ x) {i : Nat} (hi : i < n) : A i ≠ bpart A c x n := by
  rcases bpart_ne (c := c) hA hx n with ⟨h1, h2⟩ | h1
  · rw [h1]; exact h2 i hi
  · rw [h1]; exact far (hA i) hx (hun c)
theorem bpart_wt2 {A : Nat → Rat} {c n : Nat} {x : Rat} (hA : ∀ i, A i ≤ 20) (hx : -20 ≤ x) (hw : wt x ≤ 1) (hc : c ≤ 100) : wt (bpart A c x n) ≤ 3 := by
  rcases bpart_ne (c := c) hA hx n with ⟨h1, _⟩ | h1
  · rw [h1]; omega
  · rw [h1]
    have h1 := wt_add x ((100 + c : Int) : Rat)
    have h2 : wt ((100 + c : Int) : Rat) ≤ 1 := int_wt (by omega)
    omega
theorem mkL_wt {zs : List Int} {a b i : Nat} (hb : b ≤ 100) : wt (mkL zs a b b 0 i) ≤ 4 := by
  have h1 := (rowq_wt zs i).le
  unfold mkL
  split
  · omega
  · split
    · split
      · have := bpart_wt2 (A := rowq zs) (c := i - a) (n := a) (x := rowq zs i) (fun i => (smal_le _).2) (smal_le _).1 h1 (by omega)
        omega
      · split
        · have := bpart_wt2 (A := rowq zs) (c := b) (n := 0) (x := rowq zs i) (fun i => (smal_le _).2) (smal_le _).1 h1 (by omega)
          omega
        · omega
    · omega
theorem len_of {k i l n r : Nat} {x y z : Int} (h0 : mpz (cmap (k : Nat) (i : Nat)) 0 = x) (h1 : mpz (cmap (k : Nat) (i : Nat)) 1 = y) (h2 : mpz (cmap (k : Nat) (i : Nat)) 2 = z) (h : (l : Int) = x * n + y * n * r + z) : (l : Int) = mpz (cmap (k : Nat) (i : Nat)) 0 * n + mpz (cmap (k : Nat) (i : Nat)) 1 * n * r + mpz (cmap (k : Nat) (i : Nat)) 2 := by rw [h0, h1, h2]; exact h
theorem gmk_ok {k n r : Nat} {zs : List Int} (k1 : 1 ≤ k) (k7 : k ≤ 7) (n1 : 1 ≤ n) (n8 : n ≤ 8) (r3 : r ≤ 3) (rk : likeB k = true → 1 ≤ r) (r0 : likeB k = false → r = 0) : (gmk k n r zs).OK := by
  obtain ⟨t0, t1, t2, t3⟩ := cn_le k1 k7 n1 n8 r3 rk
  refine ⟨k1, k7, n1, n8, r3, rk, r0, fun i hi => ?_, ⟨fun i _ => mkL_wt (by omega), fun i _ => mkL_wt (by omega), fun i _ => mkL_wt (by omega), fun i _ => mkL_wt (by omega)⟩, fun i hi j hj => ?_⟩
  · have hk : k = 1 ∨ k = 2 ∨ k = 3 ∨ k = 4 ∨ k = 5 ∨ k = 6 ∨ k = 7 := by omega
    have hi4 : i = 0 ∨ i = 1 ∨ i = 2 ∨ i = 3 := by omega
    have em : ((n * r : Nat) : Int) = (n : Int) * r := Int.natCast_mul n r
    rcases hk with rfl | rfl | rfl | rfl | rfl | rfl | rfl
    · rcases hi4 with rfl | rfl | rfl | rfl
      · exact len_of (k := 1) (i := 0) (n := n) (r := r) (x := 2) (y := 0) (z := (-1)) (by decide) (by decide) (by decide) (by show ((2 * n - 1 : Nat) : Int) = _; omega)
      · exact len_of (k := 1) (i := 1) (n := n) (r := r) (x := 0) (y := 0) (z := 0) (by decide) (by decide) (by decide) (by show ((0 : Nat) : Int) = _; simp)
      · exact len_of (k := 1) (i := 2) (n := n) (r := r) (x := 0) (y := 0) (z := 0) (by decide) (by decide) (by decide) (by show ((0 : Nat) : Int) = _; simp)
      · exact len_of (k := 1) (i := 3) (n := n) (r := r) (x := 0) (y := 0) (z := 0) (by decide) (by decide) (by decide) (by show ((0 : Nat) : Int) = _; simp)
    · rcases hi4 with rfl | rfl | rfl | rfl
      · exact len_of (k := 2) (i := 0) (n := n) (r := r) (x := 2) (y := 0) (z := (-1)) (by decide) (by decide) (by decide) (by show ((2 * n - 1 : Nat) : Int) = _; omega)
      · exact len_of (k := 2) (i := 1) (n := n) (r := r) (x := 0) (y := 0) (z := 0) (by decide) (by decide) (by decide) (by show ((0 : Nat) : Int) = _; simp)
      · exact len_of (k := 2) (i := 2) (n := n) (r := r) (x := 0) (y := 0) (z := 0) (by decide) (by decide) (by decide) (by show ((0 : Nat) : Int) = _; simp)
      · exact len_of (k := 2) (i := 3) (n := n) (r := r) (x := 0) (y := 0) (z := 0) (by decide) (by decide) (by decide) (by show ((0 : Nat) : Int) = _; simp)
    · rcases hi4 with rfl | rfl | rfl | rfl
      · exact len_of (k := 3) (i := 0) (n := n) (r := r) (x := 1) (y := 0) (z := 0) (by decide) (by decide) (by decide) (by show ((n : Nat) : Int) = _; simp)
      · exact len_of (k := 3) (i := 1) (n := n) (r := r) (x := 0) (y := 0) (z := 0) (by decide) (by decide) (by decide) (by show ((0 : Nat) : Int) = _; simp)
      · exact len_of (k := 3) (i := 2) (n := n) (r := r) (x := 0) (y := 0) (z := 0) (by decide) (by decide) (by decide) (by show ((0 : Nat) : Int) = _; simp)
      · exact len_of (k := 3) (i := 3) (n := n) (r := r) (x := 0) (y := 0) (z := 0) (by decide) (by decide) (by decide) (by show ((0 : Nat) : Int) = _; simp)
    · rcases hi4 with rfl | rfl | rfl | rfl
      · exact len_of (k := 4) (i := 0) (n := n) (r := r) (x := 1) (y := 0) (z := 0) (by decide) (by decide) (by decide) (by show ((n : Nat) : Int) = _; simp)
      · exact len_of (k := 4) (i := 1) (n := n) (r := r) (x := 0) (y := 0) (z := 0) (by decide) (by decide) (by decide) (by show ((0 : Nat) : Int) = _; simp)
      · exact len_of (k := 4) (i := 2) (n := n) (r := r) (x := 0) (y := 0) (z := 0) (by decide) (by decide) (by decide) (by show ((0 : Nat) : Int) = _; simp)
      · exact len_of (k := 4) (i := 3) (n := n) (r := r) (x := 0) (y := 0) (z := 0) (by decide) (by decide) (by decide) (by show ((0 : Nat) : Int) = _; simp)
    · rcases hi4 with rfl | rfl | rfl | rfl
      · exact len_of (k := 5) (i := 0) (n := n) (r := r) (x := 1) (y := 0) (z := 0) (by decide) (by decide) (by decide) (by show ((n : Nat) : Int) = _; simp)
      · exact len_of (k := 5) (i := 1) (n := n) (r := r) (x := 1) (y := 0) (z := 0) (by decide) (by decide) (by decide) (by show ((n : Nat) : Int) = _; simp)
      · exact len_of (k := 5) (i := 2) (n := n) (r := r) (x := 0) (y := 0) (z := 0) (by decide) (by decide) (by decide) (by show ((0 : Nat) : Int) = _; simp)
      · exact len_of (k := 5) (i := 3) (n := n) (r := r) (x := 0) (y := 0) (z := 0) (by decide) (by decide) (by decide) (by show ((0 : Nat) : Int) = _; simp)
    · rcases hi4 with rfl | rfl | rfl | rfl
      · exact len_of (k := 6) (i := 0) (n := n) (r := r) (x := 0) (y := 0) (z := 0) (by decide) (by decide) (by decide) (by show ((0 : Nat) : Int) = _; simp)
      · exact len_of (k := 6) (i := 1) (n := n) (r := r) (x := 0) (y := 0) (z := 0) (by decide) (by decide) (by decide) (by show ((0 : Nat) : Int) = _; simp)
      · exact len_of (k := 6) (i := 2) (n := n) (r := r) (x := 0) (y := 1) (z := 0) (by decide) (by decide) (by decide) (by show ((n * r : Nat) : Int) = _; rw [em]; simp)
      · exact len_of (k := 6) (i := 3) (n := n) (r := r) (x := 0) (y := 1) (z := 0) (by decide) (by decide) (by decide) (by show ((n * r : Nat) : Int) = _; rw [em]; simp)
    · rcases hi4 with rfl | rfl | rfl | rfl
      · exact len_of (k := 7) (i := 0) (n := n) (r := r) (x := 1) (y := 0) (z := 0) (by decide) (by decide) (by decide) (by show ((n : Nat) : Int) = _; simp)
      · exact len_of (k := 7) (i := 1) (n := n) (r := r) (x := 1) (y := 0) (z := 0) (by decide) (by decide) (by decide) (by show ((n : Nat) : Int) = _; simp)
      · exact len_of (k := 7) (i := 2) (n := n) (r := r) (x := 0) (y := 1) (z := 0) (by decide) (by decide) (by decide) (by show ((n * r : Nat) : Int) = _; rw [em]; simp)
      · exact len_of (k := 7) (i := 3) (n := n) (r := r) (x := 0) (y := 1) (z := 0) (by decide) (by decide) (by decide) (by show ((n * r : Nat) : Int) = _; rw [em]; simp)
  · have hi : i < cnA k n := hi
    have hj : j < cnB k n := hj
    show mkL zs (cnA k n) (cnB k n) (cnB k n) 0 (0 + i) ≠ mkL zs (cnA k n) (cnB k n) (cnB k n) 0 (cnA k n + j)
    rw [Nat.zero_add, mkL_A hi]
    have e : mkL zs (cnA k n) (cnB k n) (cnB k n) 0 (cnA k n + j) = bpart (rowq zs) j (rowq zs (cnA k n + j)) (cnA k n) := by
      unfold mkL
      rw [if_neg (by omega), if_pos (by omega), if_pos (by omega), Nat.add_sub_cancel_left]
    rw [e]
    exact bpart_out (fun i => (smal_le _).2) (smal_le _).1 hi
theorem mkg_ok {kind n most : Int} {zs : List Int} (m1 : 1 ≤ most) (m8 : most ≤ 8) : (mkg kind n zs most).OK := by
  obtain ⟨a1, a2⟩ := wthn_lt (a := kind) (n := 7) (by decide)
  obtain ⟨b1, b2⟩ := wthn_lt (a := n) (n := most) (by omega)
  obtain ⟨c1, c2⟩ := wthn_lt (a := n.tdiv 8) (n := 2) (by decide)
  have eK : 1 + wthn kind 7 = ((mkK kind : Nat) : Int) := by unfold mkK; omega
  have eN : 1 + wthn n most = ((mkN n most : Nat) : Int) := by unfold mkN; omega
  refine gmk_ok (by omega) (by omega) (by omega) (by omega) ?_ (fun h => ?_) (fun h => ?_)
  · unfold mkR; split <;> omega
  · unfold mkR; rw [if_pos h]; omega
  · unfold mkR; rw [if_neg (by rw [h]; decide)]
end Go.Proofs.Ytddkocidfhaofaa.AM
/- Laws of systems: what is known. -/
namespace Go.Proofs.Ytddkocidfhaofaa.AM
open Go Go.RowKit Go.Proofs.Ytddkocidfhaofaa.PN Go.Proofs.Ytddkocidfhaofaa.V
open Go.Proofs.Ytddkocidfhaofaa.LA (S S_succ S_zero S_congr)
set_option linter.unusedVariables false
set_option linter.unusedSimpArgs false
set_option maxRecDepth 8000
set_option maxHeartbeats 8000000
theorem rv_agv {S : Nat → Prop} {B : Nat} {β : Nat → Nat → Value} {w : World} {n : Nat} {f f' : Nat → AV} (h : ∀ i, i < n → ∀ v, RV S B β w (f i) v → RV S B β w (f' i) v) (v : Value) (hv : RV S B β w (.ag n f) v) : RV S B β w (.ag n f') v := by
  obtain ⟨cs, e1, e2, e3⟩ := hv
  refine ⟨cs, e1, e2, fun i hi => ?_⟩
  obtain ⟨y, a0, a1, a2⟩ := e3 i hi
  exact ⟨y, a0, a1, h i hi y a2⟩
theorem Has.agv {P : Program} {f : FuncId} {n : Nat} {u u' : Nat → AV} {xs : List AV} {r : AV} (h : ∀ S B β w i, i < n → ∀ v, RV S B β w (u i) v → RV S B β w (u' i) v) (H : Has P f (.ag n u' :: xs) r) : Has P f (.ag n u :: xs) r :=
  Has.args H fun S B β w vs hv => rvs_cons (rv_agv (h S B β w)) rvs_same hv
theorem rv_nil0 {S : Nat → Prop} {B : Nat} {β : Nat → Nat → Value} {w : World} {f : Nat → RA} (v : Value) (hv : RV S B β w (.v (.slice none 0 0)) v) : RV S B β w (.row false 0 f) v :=
  ⟨none, 0, hv, Nat.le_refl _, Nat.zero_le _, fun i hi => absurd hi (Nat.not_lt_zero _)⟩
theorem rv_eq {S : Nat → Prop} {B : Nat} {β : Nat → Nat → Value} {w : World} {x y : AV} (h : x = y) (v : Value) (hv : RV S B β w x v) : RV S B β w y v := h ▸ hv
def kg : GD := ⟨3, 1, 0, 1, 0, 0, 0, fun _ => 5, fun _ => 0, fun _ => 0, fun _ => 0⟩
theorem kg_ok : kg.OK := by
  refine ⟨by decide, by decide, by decide, by decide, by decide, fun h => (by cases h), fun _ => rfl, ?_, ⟨fun i _ => by show wt 5 ≤ 4; decide, fun i hi => absurd hi (Nat.not_lt_zero _), fun i hi => absurd hi (Nat.not_lt_zero _), fun i hi => absurd hi (Nat.not_lt_zero _)⟩, fun i hi j hj => absurd hj (Nat.not_lt_zero _)⟩
  intro i hi
  have hi4 : i = 0 ∨ i = 1 ∨ i = 2 ∨ i = 3 := by omega
  rcases hi4 with rfl | rfl | rfl | rfl <;> decide
theorem kg_args {S : Nat → Prop} {B : Nat} {β : Nat → Nat → Value} {w : World} {u : Nat → AV} {q : Nat → RA} (h0 : u 0 = .i 3) (h1 : u 1 = .i 1) (h2 : u 2 = .i 0) (h3 : u 3 = .row false 1 q) (hq : q 0 = .q 5) (h4 : u 4 = .v (.slice none 0 0)) (h5 : u 5 = .v (.slice none 0 0)) (h6 : u 6 = .v (.slice none 0 0)) : ∀ i, i < 7 → ∀ v, RV S B β w (u i) v → RV S B β w (kg.f i) v := by
  intro i hi v hv
  match i, hi with
  | 0, _ => rw [h0] at hv; exact hv
  | 1, _ => rw [h1] at hv; exact hv
  | 2, _ => rw [h2] at hv; exact hv
  | 3, _ =>
    rw [h3] at hv
    refine rv_row (fun i hi => ?_) v hv
    have hi : i < 1 := hi
    obtain rfl : i = 0 := by omega
    exact hq
  | 4, _ => rw [h4] at hv; exact rv_nil0 v hv
  | 5, _ => rw [h5] at hv; exact rv_nil0 v hv
  | 6, _ => rw [h6] at hv; exact rv_nil0 v hv
end Go.Proofs.Ytddkocidfhaofaa.AM
/- Package levin: steps; what law 10 knows. -/
namespace Go.Proofs.Ytddkocidfhaofaa.AM
open Go Go.RowKit Go.Proofs.Ytddkocidfhaofaa.PN Go.Proofs.Ytddkocidfhaofaa.V
open Go.Proofs.Ytddkocidfhaofaa.LA (S S_succ S_zero S_congr longer later)
set_option linter.unusedVariables false
set_option linter.unusedSimpArgs false
set_option maxRecDepth 8000
set_option maxHeartbeats 8000000
/-- An own slice, renamed; more memory beside. -/
theorem own_next {s : St} (t g : Nat) {a : Nat} {b b' : Blk} {F : Nat → Blk} {e : List (Nat × AV)} {l : List (Nat × Fam)} (ht : s.env t = some (.own a 0)) (ha : s.heap a = some (1, F)) (hF : F 0 = b') (hb : BLe (s1 g a) b' b) (hok : b.ok (fun _ => false)) (hg : fx3 g = false) (ha3 : fx3 a = false) (hn : notIn g a (keys l) = true)
    (he : AllE s (s1 g a) (fun x => memN x (g :: keys l)) e) (hl : AllH s (s1 g a) (fun x => memN x (g :: keys l)) l) (h9 : (!(s.used 60) || (memN 60 (g :: keys l) && memN 61 (g :: keys l) && memN 62 (g :: keys l))) = true := by exact rfl) : Imp s (stl ((t, .own g 0) :: e) ((g, (1, fun _ => b)) :: l)) := by
  refine imp_stl (h := (g, (1, fun _ => b)) :: l) (s1 g a) (fun _ x hx r => s1_ne (fun e => by subst e; rw [hg] at hx; cases hx)) (s1_injl hn) ⟨⟨_, ht, Le.own s1_t, memN_head _ _⟩, he⟩ ⟨fun r hr => ?_, hl⟩ h9
  obtain rfl : r = 0 := by omega
  rw [s1_t]
  exact ⟨1, F, ha, Nat.zero_lt_one, by rw [hF]; exact hb, Blk.ok_mono (fun g h => by cases h) hok⟩
theorem lv_steps {g : GD} (h : g.OK) (hk : g.k = 1) {K : Nat} (hK : K ≤ g.n) (hd : ∀ k, k < K → lvd (gent g) k ≠ 0) (hz : K < g.n → lvd (gent g) K = 0) : Has Try.prog 17 [g.v] (.tup3 (.mat true K (fun i => i + 1) (fun i j => .q (lvf (gent g) (i + 1) j * 1))) (.i (if K < g.n then ((K + 1 : Nat) : Int) else 0)) (.i (if K < g.n then 8 else 0))) := by
  have n8 := h.n8; have n1 := h.n1
  have hF := toe_wt h hk
  have hw := lv_wt hF
  refine has_of Try.func17 (by kernel_rfl) rfl Try.ntmps17 Try.results17 rfl rfl rfl ?_
  refine run0 ?_
  ((with_reducible apply st_callH); exact rfl; exact rfl; exact rfl; exact (lv_of' h hk); (first | exact True.intro | exact ⟨rfl, rfl, rfl, True.intro⟩); exact rfl; exact rfl; exact rfl; exact rfl; (focus (repeat (first | exact True.intro | refine ⟨(by first | exact True.intro | rfl | exact ok_none (closed_ok rfl)), ?_⟩))); (first | exact True.intro | exact okf_WH | exact okf_pf (by exact True.intro) (by exact True.intro)))
  refine run0 ?_
  refine awp_no rfl rfl ?_
  refine run0 ?_
  refine awp_loop (fun m' s => ∃ k, k ≤ K ∧ m' = g.n - k ∧ s = stl [(2, .own 63 0), (5, .ptr 60 0 0), (16, .i g.n), (17, .i (k : Int))] ((63, (1, fun _ => .ones WT k fun i => .row true (i + 1) fun j => .q (lvf (gent g) (i + 1) j * 1))) :: PFk g.n (gent g) k)) g.n _ ((imp_nil 2 63 (.ones WT 0 fun i => .row true (i + 1) fun j => .q (lvf (gent g) (i + 1) j * 1)) rfl rfl (by exact ⟨by decide, rfl⟩)).trans (imp_id ?_ ?_)) ⟨0, Nat.zero_le _, rfl, rfl⟩ ?_
  · exact eA
  · exact allh rfl (by decide) (bleo rfl fun i hi => absurd hi (Nat.not_lt_zero _)) (fun _ _ => True.intro) (allh rfl (by decide) (pf_le (Le.eq rfl rfl) Le.nilrow Le.nilrow) (fun i _ => prF_ok (by exact True.intro) (by exact True.intro) i) (allz (allz True.intro)))
  rintro m' s ⟨k, hk', rfl, rfl⟩
  refine run0 ?_
  refine awp_if rfl (fun h1 => ?_) (fun h1 => ?_)
  · have h1 : k < g.n := by omega
    by_cases hkk : k = K
    · subst hkk
      obtain ⟨x, y, H⟩ := lv_next_no hF n8 h1 (hz h1)
      rw [if_pos h1, if_pos h1]
      refine run0 ?_
      ((with_reducible apply st_callH); exact rfl; exact rfl; exact rfl; exact (H); (first | exact True.intro | exact ⟨rfl, rfl, rfl, True.intro⟩); exact rfl; exact rfl; exact rfl; exact rfl; (focus (repeat (first | exact True.intro | refine ⟨(by first | exact True.intro | rfl | exact ok_none (closed_ok rfl)), ?_⟩))); (first | exact True.intro | exact okf_WH | exact okf_pf (by exact True.intro) (by exact True.intro)))
      refine run0 ?_
      refine awp_yes rfl rfl ?_
      refine run0 ?_
      exact ⟨.inr rfl, _, imp_matn 2 (fun i => i + 1) (fun i j => .q (lvf (gent g) (i + 1) j * 1)) rfl rfl rfl (fun i hi => rfl) rfl, .three (.tmp rfl) (.tmp rfl) (.tmp rfl)⟩
    have hkK : k < K := by omega
    have hW := (lvW_le (k := k + 1) (by omega)).1
    have wf : ∀ i, i < k + 1 → wt (lvf (gent g) (k + 1) i) ≤ 600000000 := fun i hi => Nat.le_trans (hw (k + 1) (by omega) i hi).1 hW
    have cs := lv_scaled (n := k + 1) (v := lvf (gent g) (k + 1)) (t := 1) (K := 600000000) wf (by decide) (by decide) (by omega)
    refine run0 ?_
    ((with_reducible apply st_callH); exact rfl; exact rfl; exact rfl; exact (lv_next hF n8 h1 (hd k hkK)); (first | exact True.intro | exact ⟨rfl, rfl, rfl, True.intro⟩); exact rfl; exact rfl; exact rfl; exact rfl; (focus (repeat (first | exact True.intro | refine ⟨(by first | exact True.intro | rfl | exact ok_none (closed_ok rfl)), ?_⟩))); (first | exact True.intro | exact okf_WH | exact okf_pf (by exact True.intro) (by exact True.intro)))
    refine run0 ?_
    refine awp_no rfl rfl ?_
    repeat(first|refine run1 ?_|((with_reducible apply st_call);exact rfl;exact rfl;exact rfl;first|(exact lv_one)|(exact cs))|((with_reducible apply st_callg);exact rfl;exact rfl;(first|exact rfl|assumption);exact rfl;exact rfl;exact rfl;first|(exact lv_one)|(exact cs)))
    refine q_loop (m' := g.n - (k + 1)) (by omega) (own_next 2 63 (a := 34) rfl rfl rfl (glue_row (fun _ _ => Le.eq rfl rfl) (Le.eq rfl rfl)) (by exact fun _ _ => True.intro) rfl rfl rfl ?_ ?_) ⟨k + 1, by omega, rfl, rfl⟩
    · exact alle rfl (Le.ptr (s1_ne (by decide))) rfl (alle rfl (Le.eq rfl rfl) True.intro (alle rfl (Le.eq rfl rfl) True.intro True.intro))
    · exact allh rfl Nat.zero_lt_one (pf_le (Le.eq rfl rfl) (Le.eq rfl rfl) (Le.eq rfl rfl)) (fun i _ => prF_ok (by exact True.intro) (by exact True.intro) i) (allz (allz True.intro))
  · have ek : k = g.n := by omega
    have eK : K = k := by omega
    subst eK
    rw [if_neg (by omega), if_neg (by omega)]
    refine run0 ?_
    exact ⟨.inr rfl, _, imp_matn 2 (fun i => i + 1) (fun i j => .q (lvf (gent g) (i + 1) j * 1)) rfl rfl rfl (fun i hi => rfl) rfl, .three (.tmp rfl) (.tmp rfl) (.tmp rfl)⟩
theorem lv_steps_kind {g : GD} (hk : g.k ≠ 1) : Has Try.prog 17 [g.v] (.tup3 (.v (.slice none 0 0)) (.i 0) (.i 2)) := by
  refine has_of Try.func17 (by kernel_rfl) rfl Try.ntmps17 Try.results17 rfl rfl rfl ?_
  repeat(first|refine run1 ?_|((with_reducible apply st_call);exact rfl;exact rfl;exact rfl;first|(exact Has.ag (g7 rfl rfl rfl rfl rfl rfl rfl) (lv_of_no hk)))|((with_reducible apply st_callg);exact rfl;exact rfl;(first|exact rfl|assumption);exact rfl;exact rfl;exact rfl;first|(exact Has.ag (g7 rfl rfl rfl rfl rfl rfl rfl) (lv_of_no hk))))
  refine awp_yes rfl rfl ?_
  refine run0 ?_
  exact ⟨.inr rfl, _, Imp.refl _, .three (.tmp rfl) (.tmp rfl) (.tmp rfl)⟩
def kgt : GD := ⟨1, 1, 0, 1, 0, 0, 0, fun _ => 2, fun _ => 0, fun _ => 0, fun _ => 0⟩
theorem kgt_ok : kgt.OK := by
  refine ⟨by decide, by decide, by decide, by decide, by decide, fun h => (by cases h), fun _ => rfl, ?_, ⟨fun i _ => by show wt 2 ≤ 4; decide, fun i hi => absurd hi (Nat.not_lt_zero _), fun i hi => absurd hi (Nat.not_lt_zero _), fun i hi => absurd hi (Nat.not_lt_zero _)⟩, fun i hi j hj => absurd hj (Nat.not_lt_zero _)⟩
  intro i hi
  have hi4 : i = 0 ∨ i = 1 ∨ i = 2 ∨ i = 3 := by omega
  rcases hi4 with rfl | rfl | rfl | rfl <;> decide
theorem kgt_args {S : Nat → Prop} {B : Nat} {β : Nat → Nat → Value} {w : World} {u : Nat → AV} {q : Nat → RA} (h0 : u 0 = .i 1) (h1 : u 1 = .i 1) (h2 : u 2 = .i 0) (h3 : u 3 = .row false 1 q) (hq : q 0 = .q 2) (h4 : u 4 = .v (.slice none 0 0)) (h5 : u 5 = .v (.slice none 0 0)) (h6 : u 6 = .v (.slice none 0 0)) : ∀ i, i < 7 → ∀ v, RV S B β w (u i) v → RV S B β w (kgt.f i) v := by
  intro i hi v hv
  match i, hi with
  | 0, _ => rw [h0] at hv; exact hv
  | 1, _ => rw [h1] at hv; exact hv
  | 2, _ => rw [h2] at hv; exact hv
  | 3, _ =>
    rw [h3] at hv
    refine rv_row (fun i hi => ?_) v hv
    have hi : i < 1 := hi
    obtain rfl : i = 0 := by omega
    exact hq
  | 4, _ => rw [h4] at hv; exact rv_nil0 v hv
  | 5, _ => rw [h5] at hv; exact rv_nil0 v hv
  | 6, _ => rw [h6] at hv; exact rv_nil0 v hv
theorem k_known10 : Has Try.prog 6 [] (.b true) := by
  have c2 := hs_int 2 (by decide) (by decide)
  have ch := hs_of 1 2 (by decide) (by decide) (by decide) (by decide)
  have cs : Has Try.prog 17 [kgt.v] (.tup3 (.mat true 1 (fun i => i + 1) (fun i j => .q (lvf (gent kgt) (i + 1) j * 1))) (.i 0) (.i 0)) := lv_steps kgt_ok rfl (K := 1) (Nat.le_refl 1) (fun k hk => by
    obtain rfl : k = 0 := by omega
    show (2 : Rat) ≠ 0
    decide) (fun h => absurd h (by decide))
  have ev : lvf (gent kgt) (0 + 1) 0 * 1 = ((1 : Int) : Rat) / ((2 : Int) : Rat) := by
    show (1 / 2 : Rat) * 1 = _
    decide +kernel
  have ce := hs_same (p := lvf (gent kgt) (0 + 1) 0 * 1) (q := ((1 : Int) : Rat) / ((2 : Int) : Rat)) (by rw [ev]; decide +kernel) (by decide +kernel)
  rw [decide_eq_true ev] at ce
  generalize lvf (gent kgt) = L at *
  refine has_of Try.func6 (by kernel_rfl) rfl Try.ntmps6 Try.results6 rfl rfl rfl ?_
  repeat(first|refine run1p ?_|((with_reducible apply st_call);exact rfl;exact rfl;exact rfl;first|(exact c2))|((with_reducible apply st_callg);exact rfl;exact rfl;(first|exact rfl|assumption);exact rfl;exact rfl;exact rfl;first|(exact c2)))
  repeat(first|refine run1p ?_|((with_reducible apply st_call);exact rfl;exact rfl;exact rfl;first|(exact Has.agv (fun S B β w => kgt_args rfl rfl rfl rfl rfl rfl rfl rfl) cs)|(exact ch)|(exact ce))|((with_reducible apply st_callg);exact rfl;exact rfl;(first|exact rfl|assumption);exact rfl;exact rfl;exact rfl;first|(exact Has.agv (fun S B β w => kgt_args rfl rfl rfl rfl rfl rfl rfl rfl) cs)|(exact ch)|(exact ce)))
  exact ⟨.inr rfl, _, Imp.refl _, .one (.tmp rfl)⟩
end Go.Proofs.Ytddkocidfhaofaa.AM
/- Drawn systems: how long their entries are, by bits. -/
namespace Go.Proofs.Ytddkocidfhaofaa.AM
open Go.Proofs.Ytddkocidfhaofaa.PN
open Go.Proofs.Ytddkocidfhaofaa.LA (S S_succ S_zero S_congr)
set_option linter.unusedVariables false
set_option linter.unusedSimpArgs false
set_option maxRecDepth 8000
set_option maxHeartbeats 8000000
/-- So many parts of one size. -/
def Fq (D M : Nat) (q : Rat) : Prop := ∃ z : Int, q = (z : Rat) / ((D : Int) : Rat) ∧ z.natAbs ≤ M
theorem Fq.bt {D M k : Nat} {q : Rat} (h : Fq D M q) (hD : D ≠ 0) (h1 : M < 2 ^ k) (h2 : D < 2 ^ k) : Bt q k := by
  obtain ⟨z, rfl, hz⟩ := h
  have e : (z : Rat) / ((D : Int) : Rat) = PN.mk (decide (z < 0)) z.natAbs D := by
    unfold PN.mk
    have h6 : PN.sg (decide (z < 0)) z.natAbs = z := by
      unfold PN.sg
      by_cases h : z < 0
      · rw [decide_eq_true h]; simp; omega
      · rw [decide_eq_false h]; simp; omega
    rw [h6, Rat.mkRat_eq_div]
    rfl
  rw [e]
  exact Bt.of_mk _ hD (by omega) h2
theorem Fq.mul {D M D' M' : Nat} {p q : Rat} (h : Fq D M p) (k : Fq D' M' q) : Fq (D * D') (M * M') (p * q) := by
  obtain ⟨z, rfl, hz⟩ := h
  obtain ⟨y, rfl, hy⟩ := k
  refine ⟨z * y, ?_, by rw [Int.natAbs_mul]; exact Nat.mul_le_mul hz hy⟩
  rw [Rat.intCast_mul, show ((D * D' : Nat) : Int) = (D : Int) * (D' : Int) from Int.natCast_mul D D', Rat.intCast_mul, Rat.div_def, Rat.div_def, Rat.div_def, Rat.inv_mul_rev]
  rw [Rat.mul_assoc, Rat.mul_assoc, ← Rat.mul_assoc (_)⁻¹ (y : Rat), Rat.mul_comm (_)⁻¹ (y : Rat), Rat.mul_assoc (y : Rat), Rat.mul_comm ((D : Int) : Rat)⁻¹]
theorem Fq.add {D M M' : Nat} {p q : Rat} (h : Fq D M p) (k : Fq D M' q) : Fq D (M + M') (p + q) := by
  obtain ⟨z, rfl, hz⟩ := h
  obtain ⟨y, rfl, hy⟩ := k
  refine ⟨z + y, ?_, by omega⟩
  rw [Rat.intCast_add, Rat.div_def, Rat.div_def, Rat.div_def, Rat.add_mul]
theorem Fq.zero (D : Nat) : Fq D 0 0 := ⟨0, by rw [Rat.div_def]; simp, Nat.le_refl _⟩
theorem Fq.mono {D M M' : Nat} {q : Rat} (h : Fq D M q) (k : M ≤ M') : Fq D M' q := by
  obtain ⟨z, e, hz⟩ := h
  exact ⟨z, e, Nat.le_trans hz k⟩
theorem Fq.sum {D M n : Nat} {f : Nat → Rat} (h : ∀ i, i < n → Fq D M (f i)) : Fq D (n * M) (S n f) := by
  induction n with
  | zero => rw [Nat.zero_mul]; exact Fq.zero D
  | succ n ih => rw [Nat.succ_mul]; exact (ih fun i hi => h i (by omega)).add (h n (by omega))
theorem smal_parts : ∀ x : _root_.Fin 41, ∀ y : _root_.Fin 5, (((x.val : Int) - 20 : Int) : Rat) / ((1 + (y.val : Int) : Int) : Rat) = ((((x.val : Int) - 20) * (60 / (1 + (y.val : Int))) : Int) : Rat) / (((60 : Nat) : Int) : Rat) ∧ (((x.val : Int) - 20) * (60 / (1 + (y.val : Int)))).natAbs ≤ 1200 := by decide +kernel
theorem smal_fq (a : Int) : Fq 60 1200 (smal a) := by
  obtain ⟨h1, h2⟩ := wthn_lt (a := a) (n := 41) (by decide)
  obtain ⟨h3, h4⟩ := wthn_lt (a := a.tdiv 41) (n := 5) (by decide)
  have := smal_parts ⟨(wthn a 41).toNat, by omega⟩ ⟨(wthn (a.tdiv 41) 5).toNat, by omega⟩
  rw [show (((wthn a 41).toNat : Nat) : Int) = wthn a 41 by omega, show (((wthn (a.tdiv 41) 5).toNat : Nat) : Int) = wthn (a.tdiv 41) 5 by omega] at this
  exact ⟨_, this.1, this.2⟩
/-- A system whose numbers are small. -/
structure Sml5 (g : GD) : Prop where
  n : g.n ≤ 8
  r : g.r ≤ 2
  A : ∀ i, i < g.la → Bt (g.A i) 5
  B : ∀ i, i < g.lb → Bt (g.B i) 13
  G : ∀ i, i < g.lg → Fq 60 1200 (g.G i)
  H : ∀ i, i < g.lh → Fq 60 1200 (g.H i)
theorem bpart_bt {zs : List Int} {c n : Nat} {x : Rat} (hc : c ≤ 20) (hx : -20 ≤ x) (hb : Bt x 5) : Bt (bpart (rowq zs) c x n) 13 := by
  rcases bpart_ne (A := rowq zs) (c := c) (fun i => (smal_le _).2) hx n with ⟨h1, _⟩ | h1
  · rw [h1]; exact hb.mono (by decide)
  · rw [h1]
    have key : ∀ c : _root_.Fin 21, nm (((100 + (c.val : Int) : Int)) : Rat) < 2 ^ 7 ∧ (((100 + (c.val : Int) : Int)) : Rat).den < 2 ^ 7 := by decide +kernel
    have h2 := key ⟨c, by omega⟩
    have : Bt ((100 + c : Int) : Rat) 7 := ⟨h2.1, h2.2⟩
    exact (inferInstance : Bt (x + ((100 + c : Int) : Rat)) (5 + 7 + 1))
theorem mkg_sml {kind n most : Int} {zs : List Int} (h1 : 1 ≤ most) (h8 : most ≤ 8) : Sml5 (mkg kind n zs most) := by
  obtain ⟨b1, b2⟩ := wthn_lt (a := n) (n := most) (by omega)
  obtain ⟨c1, c2⟩ := wthn_lt (a := n.tdiv 8) (n := 2) (by decide)
  have hB : ∀ (k m i : Nat), m ≤ 8 → i < cnB k m → i ≤ 20 := fun k m i hm hi => by
    unfold cnB at hi
    split at hi <;> omega
  have hn : mkN n most ≤ 8 := by unfold mkN; omega
  refine ⟨hn, ?_, fun i hi => ?_, fun i hi => ?_, fun i _ => ?_, fun i _ => ?_⟩
  · show mkR (mkK kind) n ≤ 2
    unfold mkR; split <;> omega
  · have hi : i < cnA (mkK kind) (mkN n most) := hi
    show Bt (mkL zs _ _ _ 0 (0 + i)) 5
    rw [Nat.zero_add, mkL_A hi]; exact rowq_bt zs i
  · have hi' := hB _ _ _ hn hi
    show Bt (mkL zs (cnA (mkK kind) (mkN n most)) (cnB (mkK kind) (mkN n most)) (cnB (mkK kind) (mkN n most)) 0 (cnA (mkK kind) (mkN n most) + i)) 13
    have hi : i < cnB (mkK kind) (mkN n most) := hi
    unfold mkL
    rw [if_neg (by omega), if_pos (by omega), if_pos (by omega), Nat.add_sub_cancel_left]
    exact bpart_bt hi' (smal_le _).1 (rowq_bt zs _)
  · show Fq 60 1200 (mkL zs _ _ _ 0 _)
    unfold mkL
    rw [if_neg (by omega), if_neg (by omega)]
    exact smal_fq _
  · show Fq 60 1200 (mkL zs _ _ _ 0 _)
    unfold mkL
    rw [if_neg (by omega), if_neg (by omega)]
    exact smal_fq _
theorem rdot_fq {g : GD} (s : Sml5 g) {i j : Nat} (hg : i * g.r + g.r ≤ g.lg) (hh : j * g.r + g.r ≤ g.lh) : Fq 3600 2880000 (rdot g i j) :=
  (Fq.sum (M := 1440000) fun k hk => (s.G _ (by omega)).mul (s.H _ (by omega))).mono (Nat.mul_le_mul_right 1440000 s.r)
theorem pow_bt {p : Rat} (hp : Bt p 5) : ∀ k, Bt (p ^ k) (1 + 5 * k)
  | 0 => by rw [Rat.pow_zero]; exact Bt.one
  | k + 1 => by
    have := pow_bt hp k
    rw [Rat.pow_succ]
    exact (inferInstance : Bt (p ^ k * p) (1 + 5 * k + 5)).mono (by omega)
theorem gent_bt {g : GD} (h : g.OK) (s : Sml5 g) {i j : Nat} (hi : i < g.n) (hj : j < g.n) : Bt (gent g i j) 41 := by
  have n5 := s.n; have k1 := h.k1; have k7 := h.k7
  obtain ⟨m1, m2, m3, m4⟩ := ok_lens h
  have hk : g.k = 1 ∨ g.k = 2 ∨ g.k = 3 ∨ g.k = 4 ∨ g.k = 5 ∨ g.k = 6 ∨ g.k = 7 := by omega
  have row : ∀ u, u < g.n → u * g.r + g.r ≤ g.n * g.r := fun u hu => by rw [← Nat.succ_mul]; exact Nat.mul_le_mul_right _ hu
  unfold gent
  rcases hk with hk | hk | hk | hk | hk | hk | hk
  · rw [hk]; exact (s.A (i + g.n - 1 - j) (by omega)).mono (by decide)
  · rw [hk]; exact (s.A (i + j) (by omega)).mono (by decide)
  · have hlt : (i + g.n - j) % g.n < g.n := Nat.mod_lt _ (by omega)
    rw [hk]; exact (s.A ((i + g.n - j) % g.n) (by omega)).mono (by decide)
  · rw [hk]; exact (pow_bt (s.A i (by omega)) j).mono (by omega)
  · have hA := s.A i (by omega); have hB := s.B j (by omega)
    rw [hk]; exact (inferInstance : Bt (1 / (g.A i - g.B j)) (1 + (5 + 13 + 1))).mono (by decide)
  · obtain ⟨hg, hh⟩ := m4 (.inl hk)
    have hs := Fq.sum (n := min i j + 1) (D := 3600) (M := 2880000) (f := fun m => rdot g (i - m) (j - m)) fun u hu => by
      have h1 := row (i - u) (by omega); have h2 := row (j - u) (by omega)
      exact rdot_fq s (by omega) (by omega)
    rw [hk]; exact (hs.bt (k := 25) (by decide) (Nat.lt_of_le_of_lt (Nat.mul_le_mul_right 2880000 (show min i j + 1 ≤ 8 by omega)) (by decide)) (by decide)).mono (by decide)
  · obtain ⟨hg, hh⟩ := m4 (.inr hk)
    have h0 := row i hi; have h0' := row j hj
    have hA := s.A i (by omega); have hB := s.B j (by omega)
    have hR := (rdot_fq s (i := i) (j := j) (by omega) (by omega)).bt (k := 22) (by decide) (by decide) (by decide)
    rw [hk]; exact (inferInstance : Bt (rdot g i j / (g.A i - g.B j)) (22 + (5 + 13 + 1)))
end Go.Proofs.Ytddkocidfhaofaa.AM

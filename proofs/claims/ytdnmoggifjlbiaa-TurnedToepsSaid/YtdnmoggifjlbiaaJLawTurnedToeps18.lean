/- Joined texts, 18: MkB MkC MkE TuA MkD TuB PFa FsA DnA DnB DnC FsB QuZ LvA LvB LvC. -/
import Derived.Test.YtdnmoggifjlbiaaJLawTurnedToeps17
import Derived.Test.YtdnmoggifjlbiaaJLawTurnedToeps16
import Derived.Test.YtdnmoggifjlbiaaJLawTurnedToeps13
import Derived.Test.YtdnmoggifjlbiaaJLawTurnedToeps11
import Derived.Test.YtdnmoggifjlbiaaJLawTurnedToeps12
import Derived.Test.YtdnmoggifjlbiaaJLawTurnedToeps15
set_option linter.unusedVariables false
set_option linter.unusedSimpArgs false
/- Systems that are drawn: walked. -/
namespace Go.Proofs.Ytdnmoggifjlbiaa.AM
open Go Go.RowKit Go.Proofs.Ytdnmoggifjlbiaa.PN Go.Proofs.Ytdnmoggifjlbiaa.V
open Go.Proofs.Ytdnmoggifjlbiaa.LA (S S_succ S_zero S_congr)
set_option linter.unusedVariables false
set_option linter.unusedSimpArgs false
set_option maxRecDepth 8000
set_option maxHeartbeats 8000000
/-- A number of the second row behind r looks. -/
def bpart (A : Nat → Rat) (c : Nat) (x : Rat) : Nat → Rat
  | 0 => x
  | r + 1 => if A r = bpart A c x r then bpart A c x r + ((100 + c : Int) : Rat) else bpart A c x r
/-- The numbers when c columns are done and r rows of the next. -/
def mkL (zs : List Int) (a b c r i : Nat) : Rat :=
  if i < a then rowq zs i else if i < a + b then (if i - a < c then bpart (rowq zs) (i - a) (rowq zs i) a else if i - a = c then bpart (rowq zs) c (rowq zs i) r else rowq zs i) else rowq zs i
theorem mkL_start {zs : List Int} {a b : Nat} (i : Nat) : mkL zs a b 0 0 i = rowq zs i := by
  unfold mkL
  split
  · rfl
  · split
    · rw [if_neg (Nat.not_lt_zero _)]
      split
      · rfl
      · rfl
    · rfl
theorem mkL_next {zs : List Int} {a b c : Nat} (i : Nat) : mkL zs a b c a i = mkL zs a b (c + 1) 0 i := by
  unfold mkL
  split
  · rfl
  · split
    · by_cases h1 : i - a < c
      · rw [if_pos h1, if_pos (by omega)]
      · rw [if_neg h1]
        by_cases h2 : i - a = c
        · rw [if_pos h2, if_pos (by omega), h2]
        · rw [if_neg h2, if_neg (by omega)]
          split
          · rfl
          · rfl
    · rfl
theorem mkL_A {zs : List Int} {a b c r i : Nat} (h : i < a) : mkL zs a b c r i = rowq zs i := if_pos h
theorem mkL_B {zs : List Int} {a b c r : Nat} (h : c < b) : mkL zs a b c r (a + c) = bpart (rowq zs) c (rowq zs (a + c)) r := by
  unfold mkL
  rw [if_neg (by omega), if_pos (by omega), if_neg (by omega), if_pos (by omega)]
theorem mkL_row {zs : List Int} {a b c r i : Nat} (h : i ≠ a + c) (r' : Nat) : mkL zs a b c r i = mkL zs a b c r' i := by
  unfold mkL
  by_cases h0 : i < a
  · rw [if_pos h0, if_pos h0]
  · rw [if_neg h0, if_neg h0]
    by_cases h1 : i < a + b
    · rw [if_pos h1, if_pos h1]
      by_cases h2 : i - a < c
      · rw [if_pos h2, if_pos h2]
      · rw [if_neg h2, if_neg h2, if_neg (by omega), if_neg (by omega)]
    · rw [if_neg h1, if_neg h1]
/-- Which kind, how large, of which rank. -/
def mkK (kind : Int) : Nat := (1 + wthn kind 7).toNat
def mkN (n most : Int) : Nat := (1 + wthn n most).toNat
def mkR (k : Nat) (n : Int) : Nat := if likeB k then (1 + wthn (n.tdiv 8) 2).toNat else 0
def gmk (k m r : Nat) (zs : List Int) : GD :=
  ⟨k, m, r, cnA k m, cnB k m, cnH k m r, cnH k m r, fun i => mkL zs (cnA k m) (cnB k m) (cnB k m) 0 (0 + i), fun i => mkL zs (cnA k m) (cnB k m) (cnB k m) 0 (cnA k m + i), fun i => mkL zs (cnA k m) (cnB k m) (cnB k m) 0 (cnA k m + cnB k m + i), fun i => mkL zs (cnA k m) (cnB k m) (cnB k m) 0 (cnA k m + cnB k m + cnH k m r + i)⟩
def mkg (kind n : Int) (zs : List Int) (most : Int) : GD := gmk (mkK kind) (mkN n most) (mkR (mkK kind) n) zs
theorem hdf_ok (k n r : Nat) (U : Nat → Bool) : ∀ i, (hdf k n r i).ok U
  | 0 | 1 | 2 | 3 | 4 | 5 | 6 => trivial
  | _ + 7 => trivial
/-- .. as what a call has made. -/
def GD.ft (g : GD) (i : Nat) : AV := [AV.i g.k, .i g.n, .i g.r, .row true g.la (fun i => .q (g.A i)), .row true g.lb (fun i => .q (g.B i)), .row true g.lg (fun i => .q (g.G i)), .row true g.lh (fun i => .q (g.H i))].getD i (.v undef)
theorem ble7 {T : TypeId} {f f' : Nat → AV} (h0 : f 0 = f' 0) (h1 : f 1 = f' 1) (h2 : f 2 = f' 2) (h3 : f 3 = f' 3) (h4 : f 4 = f' 4) (h5 : f 5 = f' 5) (h6 : f 6 = f' 6) : BLe idR (.ones T 7 f) (.ones T 7 f') :=
  bleo rfl fun i hi => Le.id (g7 h0 h1 h2 h3 h4 h5 h6 i hi)
theorem sl_eq {g r o o' n n' : Nat} (h1 : o = o') (h2 : n = n') : AV.sl g r o n = AV.sl g r o' n' := by rw [h1, h2]
/-- A system whose rows are parts of one own slice. -/
def slf (k n r a b h : Nat) (i : Nat) : AV := [AV.i k, .i n, .i r, .sl 63 0 0 a, .sl 63 0 a b, .sl 63 0 (a + b) h, .sl 63 0 (a + b + h) h].getD i (.v undef)
theorem slf_ok {k n r a b h : Nat} {U : Nat → Bool} (hU : U 63 = true) : ∀ i, (slf k n r a b h i).ok U
  | 0 | 1 | 2 => trivial
  | 3 | 4 | 5 | 6 => hU
  | _ + 7 => trivial
theorem int_wt {z : Int} (h : 0 ≤ z ∧ z ≤ 200) : wt ((z : Int) : Rat) ≤ 1 := by
  have key : ∀ x : _root_.Fin 201, wt (((x.val : Int) : Int) : Rat) ≤ 1 := by decide +kernel
  have := key ⟨z.toNat, by omega⟩
  rw [show ((z.toNat : Nat) : Int) = z by omega] at this
  exact this
theorem bpart_wt {A : Nat → Rat} {c : Nat} {x : Rat} (hc : c ≤ 100) (hx : wt x ≤ 1) : ∀ r, wt (bpart A c x r) ≤ 1 + 2 * r
  | 0 => by show wt x ≤ _; omega
  | r + 1 => by
    have ih := bpart_wt (A := A) hc hx r
    show wt (if _ then _ else _) ≤ _
    split
    · have h1 := wt_add (bpart A c x r) ((100 + c : Int) : Rat)
      have h2 : wt ((100 + c : Int) : Rat) ≤ 1 := int_wt (by omega)
      omega
    · omega
theorem cn_le {k n r : Nat} (h1 : 1 ≤ k) (h7 : k ≤ 7) (n1 : 1 ≤ n) (n8 : n ≤ 8) (r3 : r ≤ 3) (hr : likeB k = true → 1 ≤ r) : cnA k n ≤ 15 ∧ cnB k n ≤ 8 ∧ cnH k n r ≤ 24 ∧ 0 < cnA k n + cnB k n + 2 * cnH k n r := by
  have hk : k = 1 ∨ k = 2 ∨ k = 3 ∨ k = 4 ∨ k = 5 ∨ k = 6 ∨ k = 7 := by omega
  have hnr : n * r ≤ 8 * 3 := Nat.mul_le_mul n8 r3
  rcases hk with rfl | rfl | rfl | rfl | rfl | rfl | rfl
  · show 2 * n - 1 ≤ 15 ∧ 0 ≤ 8 ∧ 0 ≤ 24 ∧ 0 < 2 * n - 1 + 0 + 2 * 0; omega
  · show 2 * n - 1 ≤ 15 ∧ 0 ≤ 8 ∧ 0 ≤ 24 ∧ 0 < 2 * n - 1 + 0 + 2 * 0; omega
  · show n ≤ 15 ∧ 0 ≤ 8 ∧ 0 ≤ 24 ∧ 0 < n + 0 + 2 * 0; omega
  · show n ≤ 15 ∧ 0 ≤ 8 ∧ 0 ≤ 24 ∧ 0 < n + 0 + 2 * 0; omega
  · show n ≤ 15 ∧ n ≤ 8 ∧ 0 ≤ 24 ∧ 0 < n + n + 2 * 0; omega
  · have : 1 ≤ n * r := Nat.mul_le_mul n1 (hr rfl)
    show 0 ≤ 15 ∧ 0 ≤ 8 ∧ n * r ≤ 24 ∧ 0 < 0 + 0 + 2 * (n * r); omega
  · show n ≤ 15 ∧ n ≤ 8 ∧ n * r ≤ 24 ∧ 0 < n + n + 2 * (n * r); omega
theorem k_mk {kind n most : Int} {zs : List Int} (hk : Fits .i64 kind) (hn : Fits .i64 n) (hz : AllFit zs) (m1 : 1 ≤ most) (m8 : most ≤ 8) : Has Try.prog 6 [.i kind, .i n, .seq .i64 zs, .i most] (.ag 7 (mkg kind n zs most).ft) := by
  obtain ⟨a1, a2⟩ := wthn_lt (a := kind) (n := 7) (by decide)
  obtain ⟨b1, b2⟩ := wthn_lt (a := n) (n := most) (by omega)
  obtain ⟨c1, c2⟩ := wthn_lt (a := n.tdiv 8) (n := 2) (by decide)
  have eK : 1 + wthn kind 7 = ((mkK kind : Nat) : Int) := by unfold mkK; omega
  have eN : 1 + wthn n most = ((mkN n most : Nat) : Int) := by unfold mkN; omega
  have hf : -9223372036854775808 ≤ n ∧ n ≤ 9223372036854775807 := hn
  have h5 : Fits .i64 (n.tdiv 8) := by
    have e1 : (n.tdiv 8).natAbs = n.natAbs / 8 := Int.natAbs_tdiv n 8
    show -9223372036854775808 ≤ _ ∧ _ ≤ (9223372036854775807 : Int)
    omega
  obtain ⟨h5a, h5b⟩ : -9223372036854775808 ≤ n.tdiv 8 ∧ n.tdiv 8 ≤ 9223372036854775807 := h5
  refine has_of Try.func6 (by kernel_rfl) rfl Try.ntmps6 Try.results6 rfl rfl rfl ?_
  repeat(first|refine run1p ?_|((with_reducible apply st_call);exact rfl;exact rfl;exact rfl;first|(exact k_within5 (by omega) (by omega)))|((with_reducible apply st_callg);exact rfl;exact rfl;(first|exact rfl|assumption);exact rfl;exact rfl;exact rfl;first|(exact k_within5 (by omega) (by omega))))
  rw [eK, eN]
  repeat(first|refine run1p ?_|((with_reducible apply st_call);exact rfl;exact rfl;exact rfl;first|(exact r5_like _))|((with_reducible apply st_callg);exact rfl;exact rfl;(first|exact rfl|assumption);exact rfl;exact rfl;exact rfl;first|(exact r5_like _)))
  refine awp_join (stl [(2, .seq .i64 zs), (8, .ptr 8 0 0), (9, .ptr 9 0 0)] [(8, (1, fun _ => .ones 26 7 (hdf 0 0 0))), (9, (1, fun _ => .ones 26 7 (hdf (mkK kind) (mkN n most) (mkR (mkK kind) n))))]) ?_ ?_
  · cases hl : likeB (mkK kind) with
    | true =>
      have eR : 1 + wthn (n.tdiv 8) 2 = ((mkR (mkK kind) n : Nat) : Int) := by unfold mkR; rw [if_pos hl]; omega
      refine awp_yes rfl rfl ?_
      repeat(first|refine run1p ?_|((with_reducible apply st_call);exact rfl;exact rfl;exact rfl;first|(exact k_within5 (by decide) (by decide)))|((with_reducible apply st_callg);exact rfl;exact rfl;(first|exact rfl|assumption);exact rfl;exact rfl;exact rfl;first|(exact k_within5 (by decide) (by decide))))
      rw [eR]
      refine run0p ?_
      refine ⟨rfl, imp_id ?_ ?_⟩
      · exact eA
      · exact allh rfl (by decide) (ble7 rfl rfl rfl rfl rfl rfl rfl) (fun i _ => hdf_ok _ _ _ _ i) (allh rfl (by decide) (ble7 rfl rfl rfl rfl rfl rfl rfl) (fun i _ => hdf_ok _ _ _ _ i) True.intro)
    | false =>
      have eR : (((mkR (mkK kind) n : Nat)) : Int) = 0 := by unfold mkR; rw [if_neg (by rw [hl]; decide)]; rfl
      refine awp_no rfl rfl ?_
      refine run0p ?_
      refine ⟨rfl, imp_id ?_ ?_⟩
      · exact eA
      · exact allh rfl (by decide) (ble7 rfl rfl rfl rfl rfl rfl rfl) (fun i _ => hdf_ok _ _ _ _ i) (allh rfl (by decide) (ble7 rfl rfl (by show AV.i 0 = AV.i _; rw [eR]) rfl rfl rfl rfl) (fun i _ => hdf_ok _ _ _ _ i) True.intro)
  · have k1 : 1 ≤ mkK kind := by omega
    have k7 : mkK kind ≤ 7 := by omega
    have n1 : 1 ≤ mkN n most := by omega
    have n8 : mkN n most ≤ 8 := by omega
    have r3 : mkR (mkK kind) n ≤ 3 := by unfold mkR; split <;> omega
    have rl : likeB (mkK kind) = true → 1 ≤ mkR (mkK kind) n := fun h => by unfold mkR; rw [if_pos h]; omega
    unfold mkg
    generalize mkR (mkK kind) n = R at *
    generalize mkK kind = K at *
    generalize mkN n most = N at *
    clear a1 a2 b1 b2 c1 c2 h5a h5b eK eN
    obtain ⟨t0, t1, t2, t3⟩ := cn_le k1 k7 n1 n8 r3 rl
    have c := r5_counts k1 k7 n1 n8 r3
    repeat(first|refine run1p ?_|((with_reducible apply st_call);exact rfl;exact rfl;exact rfl;first|(exact Has.ag (g7 rfl rfl rfl rfl rfl rfl rfl) c))|((with_reducible apply st_callg);exact rfl;exact rfl;(first|exact rfl|assumption);exact rfl;exact rfl;exact rfl;first|(exact Has.ag (g7 rfl rfl rfl rfl rfl rfl rfl) c)))
    rw [show ((cnA K N : Nat) : Int) + (cnB K N : Nat) + 2 * (cnH K N R : Nat) = ((cnA K N + cnB K N + 2 * cnH K N R : Nat) : Int) from by omega]
    ((with_reducible apply st_callH); exact rfl; exact rfl; exact rfl; exact (k_rowo (by omega) (by omega) hz); (first | exact True.intro | exact ⟨rfl, rfl, rfl, True.intro⟩); exact rfl; exact rfl; exact rfl; exact rfl; (focus (repeat (first | exact True.intro | refine ⟨(by first | exact True.intro | rfl | exact ok_none (closed_ok rfl)), ?_⟩))); (first | exact True.intro | exact okf_WH | exact okf_pf (by exact True.intro) (by exact True.intro)))
    refine run0p ?_
    have em : ∀ i, mkL zs (cnA K N) (cnB K N) 0 0 i = rowq zs i := mkL_start
    refine awp_loop (fun m' s => ∃ c, c ≤ cnB K N ∧ m' = cnB K N - c ∧ s = stl [(8, .ptr 8 0 0), (9, .ptr 9 0 0), (10, .i (cnA K N)), (11, .i (cnB K N)), (14, .i (c : Int))] [(8, (1, fun _ => .ones 26 7 (hdf 0 0 0))), (9, (1, fun _ => .ones 26 7 (slf K N R (cnA K N) (cnB K N) (cnH K N R)))), (63, (1, fun _ => .rats (cnA K N + cnB K N + 2 * cnH K N R) fun i => .q (mkL zs (cnA K N) (cnB K N) c 0 i)))]) (cnB K N) _ (imp_id ?_ ?_) ⟨0, Nat.zero_le _, rfl, rfl⟩ ?_
    · exact eA
    · refine allh rfl (by decide) (ble7 rfl rfl rfl rfl rfl rfl rfl) (fun i _ => hdf_ok _ _ _ _ i) (allh rfl (by decide) (ble7 rfl rfl rfl (sl_eq rfl (by omega)) (sl_eq (by omega) (by omega)) (sl_eq (by omega) (by omega)) (sl_eq (by omega) (by omega))) (fun i _ => slf_ok rfl i) (allh rfl (by decide) (blen rfl fun i _ => congrArg RA.q (em i).symm) True.intro True.intro))
    · rintro m' s ⟨c, hc, rfl, rfl⟩
      refine run0p ?_
      refine awp_if rfl (fun h' => ?_) (fun h' => ?_)
      · have h' : c < cnB K N := by omega
        refine run0p ?_
        refine awp_loop (fun m' s => ∃ r, r ≤ cnA K N ∧ m' = cnA K N - r ∧ s = stl [(8, .ptr 8 0 0), (9, .ptr 9 0 0), (10, .i (cnA K N)), (11, .i (cnB K N)), (14, .i (c : Int)), (15, .i (r : Int))] [(8, (1, fun _ => .ones 26 7 (hdf 0 0 0))), (9, (1, fun _ => .ones 26 7 (slf K N R (cnA K N) (cnB K N) (cnH K N R)))), (63, (1, fun _ => .rats (cnA K N + cnB K N + 2 * cnH K N R) fun i => .q (mkL zs (cnA K N) (cnB K N) c r i)))]) (cnA K N) _ (imp_id ?_ ?_) ⟨0, Nat.zero_le _, rfl, rfl⟩ ?_
        · exact eA
        · exact allh rfl (by decide) (ble7 rfl rfl rfl rfl rfl rfl rfl) (fun i _ => hdf_ok _ _ _ _ i) (allh rfl (by decide) (ble7 rfl rfl rfl rfl rfl rfl rfl) (fun i _ => slf_ok rfl i) (allh rfl (by decide) (blen rfl fun i _ => rfl) True.intro True.intro))
        · rintro m' s ⟨r, hr, rfl, rfl⟩
          refine run0p ?_
          refine awp_if rfl (fun h1 => ?_) (fun h1 => ?_)
          · have h1 : r < cnA K N := by omega
            have fA : mkL zs (cnA K N) (cnB K N) c r r = rowq zs r := mkL_A h1
            have fB : mkL zs (cnA K N) (cnB K N) c r (cnA K N + c) = bpart (rowq zs) c (rowq zs (cnA K N + c)) r := mkL_B h'
            have fB1 : mkL zs (cnA K N) (cnB K N) c (r + 1) (cnA K N + c) = bpart (rowq zs) c (rowq zs (cnA K N + c)) (r + 1) := mkL_B h'
            have w1 : wt (mkL zs (cnA K N) (cnB K N) c r r) ≤ 1 := by rw [fA]; exact (rowq_wt zs r).le
            have w2 : wt (mkL zs (cnA K N) (cnB K N) c r (cnA K N + c)) ≤ 31 := by rw [fB]; have := bpart_wt (A := rowq zs) (c := c) (x := rowq zs (cnA K N + c)) (by omega) (rowq_wt zs _).le r; omega
            have w3 : wt ((100 + c : Int) : Rat) ≤ 1 := int_wt (by omega)
            have ci := hs_int (100 + (c : Int)) (by omega) (by omega)
            refine run0p ?_
            rw [show 0 + ((r : Nat) : Int).toNat = r from by omega, show cnA K N + ((c : Nat) : Int).toNat = cnA K N + c from rfl]
            repeat(first|refine run1p ?_|((with_reducible apply st_call);exact rfl;exact rfl;exact rfl;first|(exact hs_same (p := mkL zs (cnA K N) (cnB K N) c r r) (q := mkL zs (cnA K N) (cnB K N) c r (cnA K N + c)) (by omega) (by omega)))|((with_reducible apply st_callg);exact rfl;exact rfl;(first|exact rfl|assumption);exact rfl;exact rfl;exact rfl;first|(exact hs_same (p := mkL zs (cnA K N) (cnB K N) c r r) (q := mkL zs (cnA K N) (cnB K N) c r (cnA K N + c)) (by omega) (by omega))))
            refine awp_if rfl (fun h2 => ?_) (fun h2 => ?_)
            · repeat(first|refine run1p ?_|((with_reducible apply st_call);exact rfl;exact rfl;exact rfl;first|(exact ci))|((with_reducible apply st_callg);exact rfl;exact rfl;(first|exact rfl|assumption);exact rfl;exact rfl;exact rfl;first|(exact ci)))
              rw [show cnA K N + ((c : Nat) : Int).toNat = cnA K N + c from rfl]
              repeat(first|refine run1p ?_|((with_reducible apply st_call);exact rfl;exact rfl;exact rfl;first|(exact ci)|(exact hs_add (p := mkL zs (cnA K N) (cnB K N) c r (cnA K N + c)) (q := ((100 + c : Int) : Rat)) (by omega) (by omega)))|((with_reducible apply st_callg);exact rfl;exact rfl;(first|exact rfl|assumption);exact rfl;exact rfl;exact rfl;first|(exact ci)|(exact hs_add (p := mkL zs (cnA K N) (cnB K N) c r (cnA K N + c)) (q := ((100 + c : Int) : Rat)) (by omega) (by omega))))
              refine q_loop ?_ (imp_id ?_ ?_) ⟨r + 1, ?_, rfl, rfl⟩
              · omega
              · exact eA
              · refine allh rfl (by decide) (ble7 rfl rfl rfl rfl rfl rfl rfl) (fun i _ => hdf_ok _ _ _ _ i) (allh rfl (by decide) (ble7 rfl rfl rfl rfl rfl rfl rfl) (fun i _ => slf_ok rfl i) (allh rfl (by decide) (blen rfl fun i _ => ?_) True.intro True.intro))
                by_cases e : i = cnA K N + c
                · subst e
                  refine (updN_same _ _ _).trans (congrArg RA.q ?_)
                  rw [fB1]
                  show _ = (if _ then _ else _)
                  rw [if_pos (by rw [← fA, ← fB]; exact h2), ← fB]
                · exact (updN_ne _ _ e).trans (congrArg RA.q (mkL_row e (r + 1)))
              · omega
            · refine run0p ?_
              refine q_loop ?_ (imp_id ?_ ?_) ⟨r + 1, ?_, rfl, rfl⟩
              · omega
              · exact eA
              · refine allh rfl (by decide) (ble7 rfl rfl rfl rfl rfl rfl rfl) (fun i _ => hdf_ok _ _ _ _ i) (allh rfl (by decide) (ble7 rfl rfl rfl rfl rfl rfl rfl) (fun i _ => slf_ok rfl i) (allh rfl (by decide) (blen rfl fun i _ => congrArg RA.q ?_) True.intro True.intro))
                by_cases e : i = cnA K N + c
                · subst e
                  rw [fB, fB1]
                  show _ = (if _ then _ else _)
                  rw [if_neg (by rw [← fA, ← fB]; exact h2)]
                · exact mkL_row e (r + 1)
              · omega
          · have er : r = cnA K N := by omega
            refine run0p ?_
            refine q_loop ?_ (imp_id ?_ ?_) ⟨c + 1, ?_, rfl, rfl⟩
            · omega
            · exact eA
            · refine allh rfl (by decide) (ble7 rfl rfl rfl rfl rfl rfl rfl) (fun i _ => hdf_ok _ _ _ _ i) (allh rfl (by decide) (ble7 rfl rfl rfl rfl rfl rfl rfl) (fun i _ => slf_ok rfl i) (allh rfl (by decide) (blen rfl fun i _ => congrArg RA.q ?_) True.intro True.intro))
              rw [er]; exact mkL_next i
            · omega
      · have ec : c = cnB K N := by omega
        subst ec
        refine run0p ?_
        refine ⟨.inr rfl, _, imp_pubsl 63 8 (f' := (gmk K N R zs).ft) rfl rfl rfl rfl (fun i hi => ?_) (by decide), .one (.agg rfl rfl rfl rfl (by decide) rfl rfl)⟩
        match i, hi with
        | 0, _ => exact .inl rfl
        | 1, _ => exact .inl rfl
        | 2, _ => exact .inl rfl
        | 3, _ => exact .inr ⟨0, cnA K N, rfl, by omega, rfl⟩
        | 4, _ => exact .inr ⟨cnA K N, cnB K N, rfl, by omega, rfl⟩
        | 5, _ => exact .inr ⟨cnA K N + cnB K N, cnH K N R, rfl, by omega, rfl⟩
        | 6, _ => exact .inr ⟨cnA K N + cnB K N + cnH K N R, cnH K N R, rfl, by omega, rfl⟩
end Go.Proofs.Ytdnmoggifjlbiaa.AM
/- Systems that are drawn: they are right. -/
namespace Go.Proofs.Ytdnmoggifjlbiaa.AM
open Go Go.RowKit Go.Proofs.Ytdnmoggifjlbiaa.PN Go.Proofs.Ytdnmoggifjlbiaa.V
open Go.Proofs.Ytdnmoggifjlbiaa.LA (S S_succ S_zero S_congr)
set_option linter.unusedVariables false
set_option linter.unusedSimpArgs false
set_option maxRecDepth 8000
set_option maxHeartbeats 8000000
theorem smal_rng : ∀ x : _root_.Fin 41, ∀ y : _root_.Fin 5, -20 ≤ (((x.val : Int) - 20 : Int) : Rat) / ((1 + (y.val : Int) : Int) : Rat) ∧ (((x.val : Int) - 20 : Int) : Rat) / ((1 + (y.val : Int) : Int) : Rat) ≤ 20 := by decide +kernel
theorem smal_le (a : Int) : -20 ≤ smal a ∧ smal a ≤ 20 := by
  obtain ⟨h1, h2⟩ := wthn_lt (a := a) (n := 41) (by decide)
  obtain ⟨h3, h4⟩ := wthn_lt (a := a.tdiv 41) (n := 5) (by decide)
  have := smal_rng ⟨(wthn a 41).toNat, by omega⟩ ⟨(wthn (a.tdiv 41) 5).toNat, by omega⟩
  rw [show (((wthn a 41).toNat : Nat) : Int) = wthn a 41 by omega, show (((wthn (a.tdiv 41) 5).toNat : Nat) : Int) = wthn (a.tdiv 41) 5 by omega] at this
  exact this
theorem far {p x y : Rat} (hp : p ≤ 20) (hx : -20 ≤ x) (hy : 100 ≤ y) : p ≠ x + y := by
  intro e
  have h1 : -20 + y ≤ x + y := Rat.add_le_add_right.2 hx
  have h2 : -20 + 100 ≤ -20 + y := Rat.add_le_add_left.2 hy
  have h3 : (-20 + 100 : Rat) ≤ 20 := Rat.le_trans h2 (Rat.le_trans h1 (by rw [← e]; exact hp))
  exact absurd h3 (by decide +kernel)
theorem hun (c : Nat) : (100 : Rat) ≤ ((100 + c : Int) : Rat) := by
  have : ((100 : Int) : Rat) ≤ ((100 + c : Int) : Rat) := Rat.intCast_le_intCast.2 (by omega)
  exact this
/-- A number of the second row is none of the first row's. -/
theorem bpart_ne {A : Nat → Rat} {c : Nat} {x : Rat} (hA : ∀ i, A i ≤ 20) (hx : -20 ≤ x) : ∀ r, (bpart A c x r = x ∧ ∀ i, i < r → A i ≠ x) ∨ bpart A c x r = x + ((100 + c : Int) : Rat)
  | 0 => .inl ⟨rfl, fun i hi => absurd hi (Nat.not_lt_zero _)⟩
  | r + 1 => by
    show ((if _ then _ else _) = x ∧ _) ∨ (if _ then _ else _) = _
    rcases bpart_ne hA hx r with ⟨h1, h2⟩ | h1
    · rw [h1]
      by_cases e : A r = x
      · rw [if_pos e]; exact .inr rfl
      · rw [if_neg e]
        refine .inl ⟨rfl, fun i hi => ?_⟩
        by_cases h : i = r
        · rw [h]; exact e
        · exact h2 i (by omega)
    · rw [h1, if_neg (far (hA r) hx (hun c))]; exact .inr rfl
theorem bpart_out {A : Nat → Rat} {c n : Nat} {x : Rat} (hA : ∀ i, A i ≤ 20) (hx : -20 ≤ x) {i : Nat} (hi : i < n) : A i ≠ bpart A c x n := by
  rcases bpart_ne (c := c) hA hx n with ⟨h1, h2⟩ | h1
  · rw [h1]; exact h2 i hi
  · rw [h1]; exact far (hA i) hx (hun c)
theorem bpart_wt2 {A : Nat → Rat} {c n : Nat} {x : Rat} (hA : ∀ i, A i ≤ 20) (hx : -20 ≤ x) (hw : wt x ≤ 1) (hc : c ≤ 100) : wt (bpart A c x n) ≤ 3 := by
  rcases bpart_ne (c := c) hA hx n with ⟨h1, _⟩ | h1
  · rw [h1]; omega
  · rw [h1]
    have h1 := wt_add x ((100 + c : Int) : Rat)
    have h2 : wt ((100 + c : Int) : Rat) ≤ 1 := int_wt (by omega)
    omega
theorem mkL_wt {zs : List Int} {a b i : Nat} (hb : b ≤ 100) : wt (mkL zs a b b 0 i) ≤ 4 := by
  have h1 := (rowq_wt zs i).le
  unfold mkL
  split
  · omega
  · split
    · split
      · have := bpart_wt2 (A := rowq zs) (c := i - a) (n := a) (x := rowq zs i) (fun i => (smal_le _).2) (smal_le _).1 h1 (by omega)
        omega
      · split
        · have := bpart_wt2 (A := rowq zs) (c := b) (n := 0) (x := rowq zs i) (fun i => (smal_le _).2) (smal_le _).1 h1 (by omega)
          omega
        · omega
    · omega
theorem len_of {k i l n r : Nat} {x y z : Int} (h0 : mpz (cmap (k : Nat) (i : Nat)) 0 = x) (h1 : mpz (cmap (k : Nat) (i : Nat)) 1 = y) (h2 : mpz (cmap (k : Nat) (i : Nat)) 2 = z) (h : (l : Int) = x * n + y * n * r + z) : (l : Int) = mpz (cmap (k : Nat) (i : Nat)) 0 * n + mpz (cmap (k : Nat) (i : Nat)) 1 * n * r + mpz (cmap (k : Nat) (i : Nat)) 2 := by rw [h0, h1, h2]; exact h
theorem gmk_ok {k n r : Nat} {zs : List Int} (k1 : 1 ≤ k) (k7 : k ≤ 7) (n1 : 1 ≤ n) (n8 : n ≤ 8) (r3 : r ≤ 3) (rk : likeB k = true → 1 ≤ r) (r0 : likeB k = false → r = 0) : (gmk k n r zs).OK := by
  obtain ⟨t0, t1, t2, t3⟩ := cn_le k1 k7 n1 n8 r3 rk
  refine ⟨k1, k7, n1, n8, r3, rk, r0, fun i hi => ?_, ⟨fun i _ => mkL_wt (by omega), fun i _ => mkL_wt (by omega), fun i _ => mkL_wt (by omega), fun i _ => mkL_wt (by omega)⟩, fun i hi j hj => ?_⟩
  · have hk : k = 1 ∨ k = 2 ∨ k = 3 ∨ k = 4 ∨ k = 5 ∨ k = 6 ∨ k = 7 := by omega
    have hi4 : i = 0 ∨ i = 1 ∨ i = 2 ∨ i = 3 := by omega
    have em : ((n * r : Nat) : Int) = (n : Int) * r := Int.natCast_mul n r
    rcases hk with rfl | rfl | rfl | rfl | rfl | rfl | rfl
    · rcases hi4 with rfl | rfl | rfl | rfl
      · exact len_of (k := 1) (i := 0) (n := n) (r := r) (x := 2) (y := 0) (z := (-1)) (by decide) (by decide) (by decide) (by show ((2 * n - 1 : Nat) : Int) = _; omega)
      · exact len_of (k := 1) (i := 1) (n := n) (r := r) (x := 0) (y := 0) (z := 0) (by decide) (by decide) (by decide) (by show ((0 : Nat) : Int) = _; simp)
      · exact len_of (k := 1) (i := 2) (n := n) (r := r) (x := 0) (y := 0) (z := 0) (by decide) (by decide) (by decide) (by show ((0 : Nat) : Int) = _; simp)
      · exact len_of (k := 1) (i := 3) (n := n) (r := r) (x := 0) (y := 0) (z := 0) (by decide) (by decide) (by decide) (by show ((0 : Nat) : Int) = _; simp)
    · rcases hi4 with rfl | rfl | rfl | rfl
      · exact len_of (k := 2) (i := 0) (n := n) (r := r) (x := 2) (y := 0) (z := (-1)) (by decide) (by decide) (by decide) (by show ((2 * n - 1 : Nat) : Int) = _; omega)
      · exact len_of (k := 2) (i := 1) (n := n) (r := r) (x := 0) (y := 0) (z := 0) (by decide) (by decide) (by decide) (by show ((0 : Nat) : Int) = _; simp)
      · exact len_of (k := 2) (i := 2) (n := n) (r := r) (x := 0) (y := 0) (z := 0) (by decide) (by decide) (by decide) (by show ((0 : Nat) : Int) = _; simp)
      · exact len_of (k := 2) (i := 3) (n := n) (r := r) (x := 0) (y := 0) (z := 0) (by decide) (by decide) (by decide) (by show ((0 : Nat) : Int) = _; simp)
    · rcases hi4 with rfl | rfl | rfl | rfl
      · exact len_of (k := 3) (i := 0) (n := n) (r := r) (x := 1) (y := 0) (z := 0) (by decide) (by decide) (by decide) (by show ((n : Nat) : Int) = _; simp)
      · exact len_of (k := 3) (i := 1) (n := n) (r := r) (x := 0) (y := 0) (z := 0) (by decide) (by decide) (by decide) (by show ((0 : Nat) : Int) = _; simp)
      · exact len_of (k := 3) (i := 2) (n := n) (r := r) (x := 0) (y := 0) (z := 0) (by decide) (by decide) (by decide) (by show ((0 : Nat) : Int) = _; simp)
      · exact len_of (k := 3) (i := 3) (n := n) (r := r) (x := 0) (y := 0) (z := 0) (by decide) (by decide) (by decide) (by show ((0 : Nat) : Int) = _; simp)
    · rcases hi4 with rfl | rfl | rfl | rfl
      · exact len_of (k := 4) (i := 0) (n := n) (r := r) (x := 1) (y := 0) (z := 0) (by decide) (by decide) (by decide) (by show ((n : Nat) : Int) = _; simp)
      · exact len_of (k := 4) (i := 1) (n := n) (r := r) (x := 0) (y := 0) (z := 0) (by decide) (by decide) (by decide) (by show ((0 : Nat) : Int) = _; simp)
      · exact len_of (k := 4) (i := 2) (n := n) (r := r) (x := 0) (y := 0) (z := 0) (by decide) (by decide) (by decide) (by show ((0 : Nat) : Int) = _; simp)
      · exact len_of (k := 4) (i := 3) (n := n) (r := r) (x := 0) (y := 0) (z := 0) (by decide) (by decide) (by decide) (by show ((0 : Nat) : Int) = _; simp)
    · rcases hi4 with rfl | rfl | rfl | rfl
      · exact len_of (k := 5) (i := 0) (n := n) (r := r) (x := 1) (y := 0) (z := 0) (by decide) (by decide) (by decide) (by show ((n : Nat) : Int) = _; simp)
      · exact len_of (k := 5) (i := 1) (n := n) (r := r) (x := 1) (y := 0) (z := 0) (by decide) (by decide) (by decide) (by show ((n : Nat) : Int) = _; simp)
      · exact len_of (k := 5) (i := 2) (n := n) (r := r) (x := 0) (y := 0) (z := 0) (by decide) (by decide) (by decide) (by show ((0 : Nat) : Int) = _; simp)
      · exact len_of (k := 5) (i := 3) (n := n) (r := r) (x := 0) (y := 0) (z := 0) (by decide) (by decide) (by decide) (by show ((0 : Nat) : Int) = _; simp)
    · rcases hi4 with rfl | rfl | rfl | rfl
      · exact len_of (k := 6) (i := 0) (n := n) (r := r) (x := 0) (y := 0) (z := 0) (by decide) (by decide) (by decide) (by show ((0 : Nat) : Int) = _; simp)
      · exact len_of (k := 6) (i := 1) (n := n) (r := r) (x := 0) (y := 0) (z := 0) (by decide) (by decide) (by decide) (by show ((0 : Nat) : Int) = _; simp)
      · exact len_of (k := 6) (i := 2) (n := n) (r := r) (x := 0) (y := 1) (z := 0) (by decide) (by decide) (by decide) (by show ((n * r : Nat) : Int) = _; rw [em]; simp)
      · exact len_of (k := 6) (i := 3) (n := n) (r := r) (x := 0) (y := 1) (z := 0) (by decide) (by decide) (by decide) (by show ((n * r : Nat) : Int) = _; rw [em]; simp)
    · rcases hi4 with rfl | rfl | rfl | rfl
      · exact len_of (k := 7) (i := 0) (n := n) (r := r) (x := 1) (y := 0) (z := 0) (by decide) (by decide) (by decide) (by show ((n : Nat) : Int) = _; simp)
      · exact len_of (k := 7) (i := 1) (n := n) (r := r) (x := 1) (y := 0) (z := 0) (by decide) (by decide) (by decide) (by show ((n : Nat) : Int) = _; simp)
      · exact len_of (k := 7) (i := 2) (n := n) (r := r) (x := 0) (y := 1) (z := 0) (by decide) (by decide) (by decide) (by show ((n * r : Nat) : Int) = _; rw [em]; simp)
      · exact len_of (k := 7) (i := 3) (n := n) (r := r) (x := 0) (y := 1) (z := 0) (by decide) (by decide) (by decide) (by show ((n * r : Nat) : Int) = _; rw [em]; simp)
  · have hi : i < cnA k n := hi
    have hj : j < cnB k n := hj
    show mkL zs (cnA k n) (cnB k n) (cnB k n) 0 (0 + i) ≠ mkL zs (cnA k n) (cnB k n) (cnB k n) 0 (cnA k n + j)
    rw [Nat.zero_add, mkL_A hi]
    have e : mkL zs (cnA k n) (cnB k n) (cnB k n) 0 (cnA k n + j) = bpart (rowq zs) j (rowq zs (cnA k n + j)) (cnA k n) := by
      unfold mkL
      rw [if_neg (by omega), if_pos (by omega), if_pos (by omega), Nat.add_sub_cancel_left]
    rw [e]
    exact bpart_out (fun i => (smal_le _).2) (smal_le _).1 hi
theorem mkg_ok {kind n most : Int} {zs : List Int} (m1 : 1 ≤ most) (m8 : most ≤ 8) : (mkg kind n zs most).OK := by
  obtain ⟨a1, a2⟩ := wthn_lt (a := kind) (n := 7) (by decide)
  obtain ⟨b1, b2⟩ := wthn_lt (a := n) (n := most) (by omega)
  obtain ⟨c1, c2⟩ := wthn_lt (a := n.tdiv 8) (n := 2) (by decide)
  have eK : 1 + wthn kind 7 = ((mkK kind : Nat) : Int) := by unfold mkK; omega
  have eN : 1 + wthn n most = ((mkN n most : Nat) : Int) := by unfold mkN; omega
  refine gmk_ok (by omega) (by omega) (by omega) (by omega) ?_ (fun h => ?_) (fun h => ?_)
  · unfold mkR; split <;> omega
  · unfold mkR; rw [if_pos h]; omega
  · unfold mkR; rw [if_neg (by rw [h]; decide)]
end Go.Proofs.Ytdnmoggifjlbiaa.AM
/- Laws of systems: entries' weights; matrices of drawn systems. -/
namespace Go.Proofs.Ytdnmoggifjlbiaa.AM
open Go Go.RowKit Go.Proofs.Ytdnmoggifjlbiaa.PN Go.Proofs.Ytdnmoggifjlbiaa.V
open Go.Proofs.Ytdnmoggifjlbiaa.LA (S S_succ S_zero S_congr)
set_option linter.unusedVariables false
set_option linter.unusedSimpArgs false
set_option maxRecDepth 8000
set_option maxHeartbeats 8000000
theorem GD.ftok (g : GD) (U : Nat → Bool) : ∀ i, (g.ft i).ok U
  | 0 | 1 | 2 | 3 | 4 | 5 | 6 => trivial
  | _ + 7 => trivial
theorem le7 {σ : Ren} {T : TypeId} {f f' : Nat → AV} (h0 : Le σ (f 0) (f' 0)) (h1 : Le σ (f 1) (f' 1)) (h2 : Le σ (f 2) (f' 2)) (h3 : Le σ (f 3) (f' 3)) (h4 : Le σ (f 4) (f' 4)) (h5 : Le σ (f 5) (f' 5)) (h6 : Le σ (f 6) (f' 6)) : BLe σ (.ones T 7 f) (.ones T 7 f') :=
  bleo rfl fun i hi => by
    match i, hi with
    | 0, _ => exact h0
    | 1, _ => exact h1
    | 2, _ => exact h2
    | 3, _ => exact h3
    | 4, _ => exact h4
    | 5, _ => exact h5
    | 6, _ => exact h6
theorem pow_wt {p : Rat} (hp : wt p ≤ 4) : ∀ k, wt (p ^ k) ≤ 4 * k + 1 := by
  intro k
  induction k with
  | zero => rw [Rat.pow_zero]; decide
  | succ k ih => rw [Rat.pow_succ]; have := wt_mul (p ^ k) p; omega
theorem gent_wt {g : GD} (h : g.OK) {i j : Nat} (hi : i < g.n) (hj : j < g.n) : wt (gent g i j) ≤ 300 := by
  have n8 := h.n8; have r3 := h.r3; have k1 := h.k1; have k7 := h.k7; have sm := h.sm
  obtain ⟨m1, m2, m3, m4⟩ := ok_lens h
  have hk : g.k = 1 ∨ g.k = 2 ∨ g.k = 3 ∨ g.k = 4 ∨ g.k = 5 ∨ g.k = 6 ∨ g.k = 7 := by omega
  have row : ∀ u, u < g.n → u * g.r + g.r ≤ g.n * g.r := fun u hu => by rw [← Nat.succ_mul]; exact Nat.mul_le_mul_right _ hu
  have hne : g.k = 5 ∨ g.k = 7 → g.A i - g.B j ≠ 0 := fun hk e => h.ne i (by omega) j (by omega) (by rw [← Rat.sub_add_cancel (a := g.A i) (b := g.B j), e, Rat.zero_add])
  unfold gent
  rcases hk with hk | hk | hk | hk | hk | hk | hk
  · rw [hk]; have := sm.A (i + g.n - 1 - j) (by omega); show wt (g.A (i + g.n - 1 - j)) ≤ 300; omega
  · rw [hk]; have := sm.A (i + j) (by omega); show wt (g.A (i + j)) ≤ 300; omega
  · have hlt : (i + g.n - j) % g.n < g.n := Nat.mod_lt _ (by omega)
    rw [hk]; have := sm.A ((i + g.n - j) % g.n) (by omega); show wt (g.A ((i + g.n - j) % g.n)) ≤ 300; omega
  · rw [hk]; have := pow_wt (sm.A i (by omega)) j; show wt (g.A i ^ j) ≤ 300; omega
  · have h1 := wt_div 1 (g.A i - g.B j) (hne (.inl hk)); have h2 := wt_sub (g.A i) (g.B j); have h3 := sm.A i (by omega); have h4 := sm.B j (by omega)
    have h5 : wt 1 ≤ 1 := by decide
    rw [hk]; show wt (1 / (g.A i - g.B j)) ≤ 300; omega
  · obtain ⟨hg, hh⟩ := m4 (.inl hk)
    have := wt_sum (n := min i j + 1) (K := 28) (f := fun m => rdot g (i - m) (j - m)) fun u hu => by
      have h1 := row (i - u) (by omega); have h2 := row (j - u) (by omega)
      exact rdot_wt sm (by omega) (by omega) r3
    rw [hk]; show wt (S (min i j + 1) fun m => rdot g (i - m) (j - m)) ≤ 300; omega
  · obtain ⟨hg, hh⟩ := m4 (.inr hk)
    have h0 := row i hi; have h0' := row j hj
    have h1 := wt_div (rdot g i j) (g.A i - g.B j) (hne (.inr hk)); have h2 := wt_sub (g.A i) (g.B j); have h3 := sm.A i (by omega); have h4 := sm.B j (by omega)
    have h5 := rdot_wt (i := i) (j := j) sm (by omega) (by omega) r3
    rw [hk]; show wt (rdot g i j / (g.A i - g.B j)) ≤ 300; omega
end Go.Proofs.Ytdnmoggifjlbiaa.AM
/- Package turned: copies of numbers. -/
namespace Go.Proofs.Ytdnmoggifjlbiaa.AM
open Go Go.RowKit Go.Proofs.Ytdnmoggifjlbiaa.PN Go.Proofs.Ytdnmoggifjlbiaa.V
set_option linter.unusedVariables false
set_option linter.unusedSimpArgs false
set_option maxRecDepth 8000
set_option maxHeartbeats 8000000
/-- Whether limbs are none. -/
def nilOf2 : AV → Option (Bool × Prop)
  | .nat n => some (false, 0 < size n)
  | .v (.slice A _ _) => some (A.isNone, True)
  | _ => none
theorem nilOf2_ok {S : Nat → Prop} {B : Nat} {β : Nat → Nat → Value} {w : World} {x : AV} {v : Value} {b : Bool} {c : Prop} (h : RV S B β w x v) (hn : nilOf2 x = some (b, c)) (hc : c) : ∃ A n k, v = .slice A n k ∧ A.isNone = b := by
  unfold nilOf2 at hn
  split at hn
  · cases hn
    obtain ⟨A, k, e, _, hx⟩ := (h : NatS _ _ _ _)
    obtain ⟨b, off, cs, hA, _⟩ := hx 0 hc
    exact ⟨A, _, k, e, by rw [hA]; rfl⟩
  · cases hn
    exact ⟨_, _, _, h, rfl⟩
  · cases hn
section
variable {ops : Array Oper} {l : List Oper} {s : St} {acc : List Fp} {K : St → List Fp → Prop} {d : Option Tmp} {ty : TypeId} {ps : String} {aft : Array Edge}
theorem ok_eqnil2 {o : Oper} {s : St} {x : Operand} {T T' E : TypeId} {y : AV} {b : Bool} {c : Prop} (ho : o.op = .binOp .eql T x (.const (.slice none 0 0)) T') (hE : Try.prog.underlying T = some (.slice E)) (hx : avo s x = some y) (hn : nilOf2 y = some (b, c)) (hc : c) : LOK Try.prog o s ⟨some (.v (.bool b)), [], []⟩ := by
  refine lok_val fun s2 hl W N β w ac hs => ⟨.bool b, ?_, fun z hz => by cases hz; exact ⟨trivial, rfl⟩⟩
  obtain ⟨A, n, k, e, hb⟩ := nilOf2_ok (hs.opd (x := x) (by rw [hl.avo (by rw [ho]; simp [Op.operands])]; exact hx)).2 hn hc
  have h2 : ac.eval (.const (.slice none 0 0)) = .slice none 0 0 := rfl
  unfold execOp; rw [ho]; simp only []; rw [e, h2]
  have hg : (eqGuard .eql T x (.const (.slice none 0 0)) (.slice A n k) (.slice none 0 0)).run Try.prog w = .ok () w := by simp [eqGuard]
  have hb2 : (binOp .eql T (.slice A n k) (.slice none 0 0)).run Try.prog w = .ok (.bool b) w := by
    simp only [binOp, Sem.run_bind, run_eq_slice hE]
    rw [← hb]; rfl
  simp only [Sem.run_bind, hg, Result.andThen_ok, hb2]; rfl
theorem ok_app00 {o : Oper} {s : St} {x y : Operand} {A : Option Addr} {c : Nat} (ho : o.op = .call { callee := .builtin .append, args := #[x, y], argTypes := #[33, 33] }) (hx : avo s x = some .e0) (hy : avo s y = some (.v (.slice A 0 c))) : LOK Try.prog o s ⟨some (.nat 0), [], []⟩ := by
  refine lok_kept fun s2 hl W N β w a hsim K Q hK => ?_
  obtain ⟨_, g, h1, hr⟩ := hsim.opd (x := x) (by rw [hl.avo (by rw [ho]; simp [Op.operands, Call.operands])]; exact hx)
  obtain ⟨_, h2⟩ := hsim.opd (x := y) (by rw [hl.avo (by rw [ho]; simp [Op.operands, Call.operands])]; exact hy)
  have h2 : a.eval y = .slice A 0 c := h2
  have h3 : NatS w (fun _ => True) (a.eval y) 0 := ⟨A, c, h2, Nat.zero_le _, fun i hi => absurd hi (Nat.not_lt_zero _)⟩
  obtain ⟨v', w', hrun, hk, hv⟩ := run_app0 hr h3 (by decide) o.type
  have he : (execOp a.eval o).run Try.prog w = .ok (.value v') w' := by
    unfold execOp; rw [ho]; simp only [resolve, List.map_toArray, List.map_cons, List.map_nil]; rw [h1]
    simp only [Sem.run_bind, Sem.run_pure, Result.andThen_ok, invoke, builtin, hrun]
  unfold Oper.wp
  rw [he]
  exact hK _ _ hk fun x hx => by cases hx; exact ⟨trivial, hv⟩
end
theorem cl_u : Try.prog.underlying 33 = some (.slice U32) := Try.underlying33
theorem cl_v (A : Option Addr) (c : Nat) : Has Try.prog 49 [.v (.slice A 0 c)] (.nat 0) := by
  refine Has.imp (r := if A.isNone then .v (.slice none 0 0) else .nat 0) ?_ rfl (fun S B β w v hv => ?_)
  · refine has_of Try.func49 (by kernel_rfl) rfl Try.ntmps49 Try.results49 rfl (by split <;> rfl) rfl ?_
    refine run2 ?_
    refine run3 ?_
    refine st_ev rfl True.intro ?_
    refine st_lok (ok_eqnil2 rfl cl_u rfl rfl True.intro) ?_
    cases A with
    | none =>
      refine run0 ?_
      refine awp_yes rfl rfl ?_
      refine run0 ?_
      exact ⟨.inr rfl, _, Imp.refl _, .one (.tmp rfl)⟩
    | some a =>
      refine run0 ?_
      refine awp_no rfl rfl ?_
      refine run3 ?_
      refine st_build0 ?_
      refine st_ev rfl True.intro ?_
      refine st_lok (ok_app00 rfl rfl rfl) ?_
      refine run0 ?_
      exact ⟨.inr rfl, _, Imp.refl _, .one (.tmp rfl)⟩
  · split at hv
    · exact ⟨none, 0, hv, Nat.le_refl _, fun i hi => absurd hi (Nat.not_lt_zero _)⟩
    · exact hv
theorem h_clone {n : Nat} (hs : size n ≤ 1000000000000) : Has Try.prog 49 [.nat n] (.nat n) := by
  by_cases h0 : size n = 0
  · have hn : n = 0 := by have := size_eq_zero (s := n); omega
    subst hn
    refine ⟨by kernel_rfl, trivial, fun w S β vs hv => ?_⟩
    obtain ⟨v, rfl, A, c, rfl, _, _⟩ := rvs1 hv
    exact (cl_v A c).run w S β _ ⟨rfl, fun i x v hx hv => by
      cases i with
      | zero => cases hx; cases hv; rfl
      | succ i => cases hx⟩
  · refine has_of Try.func49 (by kernel_rfl) rfl Try.ntmps49 Try.results49 rfl rfl rfl ?_
    refine run2 ?_
    refine run3 ?_
    refine st_ev rfl True.intro ?_
    refine st_lok (ok_eqnil2 rfl cl_u rfl rfl (by omega)) ?_
    refine run0 ?_
    refine awp_no rfl rfl ?_
    refine run0 ?_
    exact ⟨.inr rfl, _, Imp.refl _, .one (.tmp rfl)⟩
theorem t_own {n : Nat} {f : Nat → Rat} (b : Bool) (hf : ∀ i, i < n → wt (f i) ≤ 100000) (hn : n ≤ 100) : Has Try.prog 24 [.row false n (fun i => .q (f i))] (if b then .rowx n (fun i => .q (f i)) else .row true n (fun i => .q (f i))) := by
  have hcl : (if b then AV.rowx n (fun i => .q (f i)) else .row true n (fun i => .q (f i))).closed = true := by cases b <;> rfl
  refine has_of Try.func24 (by kernel_rfl) rfl Try.ntmps24 Try.results24 rfl hcl rfl ?_
  refine run2 ?_
  refine run3 ?_
  refine st_ev rfl True.intro ?_
  refine st_ev rfl True.intro ?_
  refine st_lok (ok_make_ratx (g := 8) rfl rfl rfl (by omega) (by omega)) ?_
  repeat(first|(with_reducible first|refine awp_seq ?_|refine awp_block ?_|refine awp_skip ?_|refine awp_exit ?_|refine awp_ret ?_|refine q_then ?_|refine q_block ?_|refine q_then_exit ?_|refine q_then_ret ?_|refine q_block_exit ?_|refine q_block_ret ?_|refine q_loop_exit ?_|refine q_loop_ret ?_)|((with_reducible refine q_block_other ?_ ?_);exact rfl))
  refine run0 ?_
  refine st_lok (ok_clear rfl rfl rfl rfl (by decide) rfl) ?_
  refine run0 ?_
  refine awp_loop (fun m' s => ∃ k, k ≤ n ∧ m' = n - k ∧ s = stl [(3, .own 8 0), (8, .ownx 8 0), (10, .row false n fun i => .q (f i)), (11, .i n), (12, .i (k : Int))] [(8, (1, fun _ => .rats n (grow (fun i => .q (f i)) ra0 k)))]) n _ (imp_id ?_ ?_) ⟨0, Nat.zero_le _, rfl, rfl⟩ ?_
  · exact alle rfl (Le.ownx_own rfl) rfl (alle rfl (Le.ownx rfl) rfl (by exact eA))
  · exact allh rfl (by decide) (blen rfl fun i hi => rfl) True.intro True.intro
  rintro m' s ⟨k, hk, rfl, rfl⟩
  refine run0 ?_
  refine awp_if rfl (fun h => ?_) (fun h => ?_)
  · have h : k < n := by omega
    have w1 := hf k h; have b1 := wt_num (f k); have b2 := wt_den (f k)
    repeat(first|refine run1 ?_|((with_reducible apply st_call);exact rfl;exact rfl;exact rfl;first|(exact h_clone (n := nm (f k)) (by omega))|(exact h_clone (n := (f k).den) (by omega)))|((with_reducible apply st_callg);exact rfl;exact rfl;(first|exact rfl|assumption);exact rfl;exact rfl;exact rfl;first|(exact h_clone (n := nm (f k)) (by omega))|(exact h_clone (n := (f k).den) (by omega))))
    with_reducible apply st_lok
    · exact ok_build_num (f k) rfl rfl rfl rfl rfl rfl rfl rfl rfl
    refine run0 ?_
    refine q_loop ?_ (imp_id ?_ ?_) ⟨k + 1, ?_, rfl, rfl⟩
    · omega
    · exact alle rfl (Le.id rfl) rfl (alle rfl (Le.id rfl) rfl (by exact eA))
    · exact allh rfl (by decide) (blen rfl fun i hi => grow_step _ _ k i) True.intro True.intro
    · omega
  · obtain rfl : k = n := by omega
    refine run0 ?_
    cases b with
    | true => exact ⟨.inr rfl, _, imp_rowx 2 8 (fun i => .q (f i)) rfl rfl rfl rfl (fun i hi => grow_full _ _ hi), .one (.tmp rfl)⟩
    | false => exact ⟨.inr rfl, _, imp_rowv 2 (fun i => .q (f i)) rfl rfl rfl (fun i hi => grow_full _ _ hi), .one (.tmp rfl)⟩
end Go.Proofs.Ytdnmoggifjlbiaa.AM
/- Laws of systems: what is known. -/
namespace Go.Proofs.Ytdnmoggifjlbiaa.AM
open Go Go.RowKit Go.Proofs.Ytdnmoggifjlbiaa.PN Go.Proofs.Ytdnmoggifjlbiaa.V
open Go.Proofs.Ytdnmoggifjlbiaa.LA (S S_succ S_zero S_congr)
set_option linter.unusedVariables false
set_option linter.unusedSimpArgs false
set_option maxRecDepth 8000
set_option maxHeartbeats 8000000
theorem rv_agv {S : Nat → Prop} {B : Nat} {β : Nat → Nat → Value} {w : World} {n : Nat} {f f' : Nat → AV} (h : ∀ i, i < n → ∀ v, RV S B β w (f i) v → RV S B β w (f' i) v) (v : Value) (hv : RV S B β w (.ag n f) v) : RV S B β w (.ag n f') v := by
  obtain ⟨cs, e1, e2, e3⟩ := hv
  refine ⟨cs, e1, e2, fun i hi => ?_⟩
  obtain ⟨y, a0, a1, a2⟩ := e3 i hi
  exact ⟨y, a0, a1, h i hi y a2⟩
theorem Has.agv {P : Program} {f : FuncId} {n : Nat} {u u' : Nat → AV} {xs : List AV} {r : AV} (h : ∀ S B β w i, i < n → ∀ v, RV S B β w (u i) v → RV S B β w (u' i) v) (H : Has P f (.ag n u' :: xs) r) : Has P f (.ag n u :: xs) r :=
  Has.args H fun S B β w vs hv => rvs_cons (rv_agv (h S B β w)) rvs_same hv
theorem rv_nil0 {S : Nat → Prop} {B : Nat} {β : Nat → Nat → Value} {w : World} {f : Nat → RA} (v : Value) (hv : RV S B β w (.v (.slice none 0 0)) v) : RV S B β w (.row false 0 f) v :=
  ⟨none, 0, hv, Nat.le_refl _, Nat.zero_le _, fun i hi => absurd hi (Nat.not_lt_zero _)⟩
def kg : GD := ⟨3, 1, 0, 1, 0, 0, 0, fun _ => 5, fun _ => 0, fun _ => 0, fun _ => 0⟩
end Go.Proofs.Ytdnmoggifjlbiaa.AM
/- Package turned: what a system is as a Toeplitz one. -/
namespace Go.Proofs.Ytdnmoggifjlbiaa.AM
open Go Go.RowKit Go.Proofs.Ytdnmoggifjlbiaa.PN Go.Proofs.Ytdnmoggifjlbiaa.V
open Go.Proofs.Ytdnmoggifjlbiaa.LA (S S_succ S_zero S_congr)
set_option linter.unusedVariables false
set_option linter.unusedSimpArgs false
set_option maxRecDepth 8000
set_option maxHeartbeats 8000000
def gT (g : GD) : GD := ⟨1, g.n, 0, 2 * g.n - 1, 0, 0, 0, fun i => if g.k = 3 then g.A ((i + 1) % g.n) else g.A i, fun _ => 0, fun _ => 0, fun _ => 0⟩
theorem gT_ok {g : GD} (h : g.OK) (hk : g.k ≤ 3) : (gT g).OK := by
  have n1 := h.n1; have n8 := h.n8; have k1 := h.k1
  obtain ⟨m1, m2, _, _⟩ := ok_lens h
  refine ⟨show (1 : Nat) ≤ 1 by decide, show (1 : Nat) ≤ 7 by decide, n1, n8, show (0 : Nat) ≤ 3 by decide, fun h => (by cases h), fun _ => rfl, ?_, ⟨fun i hi => ?_, fun i hi => absurd hi (Nat.not_lt_zero _), fun i hi => absurd hi (Nat.not_lt_zero _), fun i hi => absurd hi (Nat.not_lt_zero _)⟩, fun i hi j hj => absurd hj (Nat.not_lt_zero _)⟩
  · have z : ∀ (x y z n r : Int), x = 0 → y = 0 → z = 0 → (0 : Int) = x * n + y * n * r + z := by intro x y z n r hx hy hz; subst hx; subst hy; subst hz; simp
    have f : ∀ (x y z n r : Int), x = 2 → y = 0 → z = -1 → 2 * n - 1 = x * n + y * n * r + z := by intro x y z n r hx hy hz; subst hx; subst hy; subst hz; simp; omega
    intro i hi
    have hi4 : i = 0 ∨ i = 1 ∨ i = 2 ∨ i = 3 := by omega
    rcases hi4 with rfl | rfl | rfl | rfl
    · show ((2 * g.n - 1 : Nat) : Int) = mpz (cmap (1 : Nat) (0 : Nat)) 0 * (g.n : Int) + mpz (cmap (1 : Nat) (0 : Nat)) 1 * (g.n : Int) * ((0 : Nat) : Int) + mpz (cmap (1 : Nat) (0 : Nat)) 2
      rw [← f _ _ _ _ _ (by decide) (by decide) (by decide)]; omega
    · show (0 : Int) = mpz (cmap (1 : Nat) (1 : Nat)) 0 * (g.n : Int) + mpz (cmap (1 : Nat) (1 : Nat)) 1 * (g.n : Int) * ((0 : Nat) : Int) + mpz (cmap (1 : Nat) (1 : Nat)) 2
      exact z _ _ _ _ _ (by decide) (by decide) (by decide)
    · show (0 : Int) = mpz (cmap (1 : Nat) (2 : Nat)) 0 * (g.n : Int) + mpz (cmap (1 : Nat) (2 : Nat)) 1 * (g.n : Int) * ((0 : Nat) : Int) + mpz (cmap (1 : Nat) (2 : Nat)) 2
      exact z _ _ _ _ _ (by decide) (by decide) (by decide)
    · show (0 : Int) = mpz (cmap (1 : Nat) (3 : Nat)) 0 * (g.n : Int) + mpz (cmap (1 : Nat) (3 : Nat)) 1 * (g.n : Int) * ((0 : Nat) : Int) + mpz (cmap (1 : Nat) (3 : Nat)) 2
      exact z _ _ _ _ _ (by decide) (by decide) (by decide)
  · have hi : i < 2 * g.n - 1 := hi
    show wt (if g.k = 3 then g.A ((i + 1) % g.n) else g.A i) ≤ 4
    by_cases e : g.k = 3
    · rw [if_pos e]
      exact h.sm.A _ (by rw [m2 (.inl e)]; exact Nat.mod_lt _ (by omega))
    · rw [if_neg e]
      exact h.sm.A _ (by rw [m1 (by omega)]; omega)
/-- A Toeplitz struct, its first row as it stands. -/
def fT (n : Nat) (x : AV) (i : Nat) : AV := [AV.i 1, .i n, .i 0, x, .v (.slice none 0 0), .v (.slice none 0 0), .v (.slice none 0 0)].getD i (.v undef)
theorem fTok {n : Nat} {x : AV} {U : Nat → Bool} (hx : x.ok U) : ∀ i, (fT n x i).ok U
  | 0 | 1 | 2 | 4 | 5 | 6 => trivial
  | 3 => hx
  | _ + 7 => trivial
/-- .. and none. -/
def f00 (i : Nat) : AV := [AV.i 0, .i 0, .i 0, .v (.slice none 0 0), .v (.slice none 0 0), .v (.slice none 0 0), .v (.slice none 0 0)].getD i (.v undef)
theorem f00ok {U : Nat → Bool} : ∀ i, (f00 i).ok U
  | 0 | 1 | 2 | 3 | 4 | 5 | 6 => trivial
  | _ + 7 => trivial
abbrev gTv (g : GD) : AV := .ag 7 (fT g.n (.row true (2 * g.n - 1) fun i => .q ((gT g).A i)))
theorem gT_args {S : Nat → Prop} {B : Nat} {β : Nat → Nat → Value} {w : World} {g : GD} {u : Nat → AV} {q : Nat → RA} (h0 : u 0 = .i 1) (h1 : u 1 = .i g.n) (h2 : u 2 = .i 0) (h3 : u 3 = .row false (2 * g.n - 1) q) (hq : ∀ i, i < 2 * g.n - 1 → q i = .q ((gT g).A i)) (h4 : u 4 = .v (.slice none 0 0)) (h5 : u 5 = .v (.slice none 0 0)) (h6 : u 6 = .v (.slice none 0 0)) : ∀ i, i < 7 → ∀ v, RV S B β w (u i) v → RV S B β w ((gT g).f i) v := by
  intro i hi v hv
  match i, hi with
  | 0, _ => rw [h0] at hv; exact hv
  | 1, _ => rw [h1] at hv; exact hv
  | 2, _ => rw [h2] at hv; exact hv
  | 3, _ => rw [h3] at hv; exact rv_row hq v hv
  | 4, _ => rw [h4] at hv; exact rv_nil0 v hv
  | 5, _ => rw [h5] at hv; exact rv_nil0 v hv
  | 6, _ => rw [h6] at hv; exact rv_nil0 v hv
theorem t_toe {g : GD} (h : g.OK) (hk : g.k ≤ 3) : Has Try.prog 7 [g.v] (gTv g) := by
  have n1 := h.n1; have n8 := h.n8; have k1 := h.k1
  obtain ⟨m1, m2, _, _⟩ := ok_lens h
  have hcl : (gTv g).closed = true := rfl
  refine has_of Try.func7 (by kernel_rfl) rfl Try.ntmps7 Try.results7 rfl hcl rfl ?_
  repeat(first|refine run1p ?_|((with_reducible apply st_call);exact rfl;exact rfl;exact rfl;first|(exact Has.ag (g7 rfl rfl rfl rfl rfl rfl rfl) (g_check h)))|((with_reducible apply st_callg);exact rfl;exact rfl;(first|exact rfl|assumption);exact rfl;exact rfl;exact rfl;first|(exact Has.ag (g7 rfl rfl rfl rfl rfl rfl rfl) (g_check h))))
  refine awp_no rfl rfl ?_
  refine run0p ?_
  by_cases e3 : g.k = 3
  · have hla : g.la = g.n := m2 (.inl e3)
    obtain ⟨m, hm⟩ : ∃ m, g.n = m + 1 := ⟨g.n - 1, by omega⟩
    have hla2 : g.la = m + 1 := by omega
    have cx : Has Try.prog 24 [.row false g.la (fun i => .q (g.A i))] (.rowx (m + 1) fun i => .q (g.A i)) := by
      rw [← hla2]
      exact t_own (n := g.la) (f := g.A) true (fun i hi => Nat.le_trans (h.sm.A i hi) (by decide)) (by omega)
    have cr : Has Try.prog 24 [.row false g.la (fun i => .q (g.A i))] (.row true g.la fun i => .q (g.A i)) := t_own (n := g.la) (f := g.A) false (fun i hi => Nat.le_trans (h.sm.A i hi) (by decide)) (by omega)
    refine awp_no rfl (decide_eq_false (by omega)) ?_
    refine run0p ?_
    refine awp_no rfl (decide_eq_false (by omega)) ?_
    refine run0p ?_
    refine awp_yes rfl (decide_eq_true (by omega)) ?_
    repeat(first|refine run1p ?_|((with_reducible apply st_call);exact rfl;exact rfl;exact rfl;first|(exact cx))|((with_reducible apply st_callg);exact rfl;exact rfl;(first|exact rfl|assumption);exact rfl;exact rfl;exact rfl;first|(exact cx)))
    refine st_lok (ok_slice_tail rfl rfl) ?_
    repeat(first|refine run1p ?_|((with_reducible apply st_call);exact rfl;exact rfl;exact rfl;first|(exact cr))|((with_reducible apply st_callg);exact rfl;exact rfl;(first|exact rfl|assumption);exact rfl;exact rfl;exact rfl;first|(exact cr)))
    refine st_lok (ok_append_full (g := 30) (m := g.la) rfl rfl rfl rfl rfl (by decide) (by omega) (by omega)) ?_
    refine run0p ?_
    refine ⟨.inr rfl, stl [(2, .ptr 2 0 0)] [(2, (1, fun _ => .ones 26 7 (fT g.n (.row true (2 * g.n - 1) fun i => .q ((gT g).A i)))))], (imp_pub 2 3 rfl rfl (by decide) rfl rfl rfl (by decide)).trans (imp_id ?_ ?_), .one (.agg rfl rfl rfl rfl (by decide) rfl rfl)⟩
    · exact eA
    · refine allh rfl (by decide) (le7 (Le.id rfl) (Le.id rfl) (Le.id rfl) (Le.row (by omega) (fun i hi => ?_) fun h => h) (Le.id rfl) (Le.id rfl) (Le.id rfl)) (fun i _ => fTok (by exact True.intro) i) True.intro
      show glue m (fun i => RA.q (g.A (i + 1))) (fun i => RA.q (g.A i)) i = RA.q (if g.k = 3 then g.A ((i + 1) % g.n) else g.A i)
      have hi : i < m + g.la := hi
      rw [if_pos e3]
      unfold glue
      by_cases c : i < m
      · rw [if_pos c, Nat.mod_eq_of_lt (show i + 1 < g.n by omega)]
      · rw [if_neg c, show i + 1 = (i - m) + g.n by omega, Nat.add_mod_right, Nat.mod_eq_of_lt (show i - m < g.n by omega)]
  · have hla : g.la = 2 * g.n - 1 := m1 (by omega)
    have cr : Has Try.prog 24 [.row false g.la (fun i => .q (g.A i))] (.row true g.la fun i => .q (g.A i)) := t_own (n := g.la) (f := g.A) false (fun i hi => Nat.le_trans (h.sm.A i hi) (by decide)) (by omega)
    by_cases e1 : g.k = 1
    · refine awp_yes rfl (decide_eq_true (by omega)) ?_
      refine run0p ?_
      refine awp_yes rfl (decide_eq_true (by omega)) ?_
      repeat(first|refine run1p ?_|((with_reducible apply st_call);exact rfl;exact rfl;exact rfl;first|(exact cr))|((with_reducible apply st_callg);exact rfl;exact rfl;(first|exact rfl|assumption);exact rfl;exact rfl;exact rfl;first|(exact cr)))
      refine ⟨.inr rfl, stl [(2, .ptr 2 0 0)] [(2, (1, fun _ => .ones 26 7 (fT g.n (.row true (2 * g.n - 1) fun i => .q ((gT g).A i)))))], imp_id ?_ ?_, .one (.agg rfl rfl rfl rfl (by decide) rfl rfl)⟩
      · exact eA
      · exact allh rfl (by decide) (le7 (Le.id rfl) (Le.id rfl) (Le.id rfl) (Le.row (by omega) (fun i hi => congrArg RA.q (show g.A i = if g.k = 3 then g.A ((i + 1) % g.n) else g.A i by rw [if_neg e3])) fun h => h) (Le.id rfl) (Le.id rfl) (Le.id rfl)) (fun i _ => fTok (by exact True.intro) i) True.intro
    · refine awp_no rfl (decide_eq_false (by omega)) ?_
      refine run0p ?_
      refine awp_yes rfl (decide_eq_true (by omega)) ?_
      repeat(first|refine run1p ?_|((with_reducible apply st_call);exact rfl;exact rfl;exact rfl;first|(exact cr))|((with_reducible apply st_callg);exact rfl;exact rfl;(first|exact rfl|assumption);exact rfl;exact rfl;exact rfl;first|(exact cr)))
      refine ⟨.inr rfl, stl [(2, .ptr 2 0 0)] [(2, (1, fun _ => .ones 26 7 (fT g.n (.row true (2 * g.n - 1) fun i => .q ((gT g).A i)))))], imp_id ?_ ?_, .one (.agg rfl rfl rfl rfl (by decide) rfl rfl)⟩
      · exact eA
      · exact allh rfl (by decide) (le7 (Le.id rfl) (Le.id rfl) (Le.id rfl) (Le.row (by omega) (fun i hi => congrArg RA.q (show g.A i = if g.k = 3 then g.A ((i + 1) % g.n) else g.A i by rw [if_neg e3])) fun h => h) (Le.id rfl) (Le.id rfl) (Le.id rfl)) (fun i _ => fTok (by exact True.intro) i) True.intro
theorem t_toe_no {g : GD} (h : g.OK) (hk : 3 < g.k) : Has Try.prog 7 [g.v] (.ag 7 f00) := by
  refine has_of Try.func7 (by kernel_rfl) rfl Try.ntmps7 Try.results7 rfl (by rfl) rfl ?_
  repeat(first|refine run1p ?_|((with_reducible apply st_call);exact rfl;exact rfl;exact rfl;first|(exact Has.ag (g7 rfl rfl rfl rfl rfl rfl rfl) (g_check h)))|((with_reducible apply st_callg);exact rfl;exact rfl;(first|exact rfl|assumption);exact rfl;exact rfl;exact rfl;first|(exact Has.ag (g7 rfl rfl rfl rfl rfl rfl rfl) (g_check h))))
  refine awp_no rfl rfl ?_
  refine run0p ?_
  refine awp_no rfl (decide_eq_false (by omega)) ?_
  refine run0p ?_
  refine awp_no rfl (decide_eq_false (by omega)) ?_
  refine run0p ?_
  refine awp_no rfl (decide_eq_false (by omega)) ?_
  refine run0p ?_
  refine ⟨.inr rfl, stl [(2, .ptr 2 0 0)] [(2, (1, fun _ => .ones 26 7 f00))], imp_id ?_ ?_, .one (.agg rfl rfl rfl rfl (by decide) rfl rfl)⟩
  · exact eA
  · exact allh rfl (by decide) (le7 (Le.id rfl) (Le.id rfl) (Le.id rfl) (Le.id rfl) (Le.id rfl) (Le.id rfl) (Le.id rfl)) (fun i _ => f00ok i) True.intro
end Go.Proofs.Ytdnmoggifjlbiaa.AM
/- Displaced matrices. -/
namespace Go.Proofs.Ytdnmoggifjlbiaa.AM
open Go.Proofs.Ytdnmoggifjlbiaa.PN
open Go.Proofs.Ytdnmoggifjlbiaa.LA (S S_succ S_zero S_congr S_first S_null Mt HasRank rank_le)
set_option linter.unusedVariables false
set_option linter.unusedSimpArgs false
set_option maxRecDepth 8000
set_option maxHeartbeats 8000000
/-- An entry; nought outside. -/
def gat (g : GD) (a b : Int) : Rat := if a < 0 ∨ b < 0 ∨ (g.n : Int) ≤ a ∨ (g.n : Int) ≤ b then 0 else gent g a.toNat b.toNat
/-- The displaced matrix. -/
def gdis (g : GD) (i j : Nat) : Rat :=
  match g.k with
  | 2 => gat g ((i : Int) - 1) j - gat g i ((j : Int) - 1)
  | 4 => g.A i * gat g i j - gat g i ((j : Int) + 1)
  | 5 => (g.A i - g.B j) * gat g i j
  | 7 => (g.A i - g.B j) * gat g i j
  | _ => gat g i j - gat g ((i : Int) - 1) ((j : Int) - 1)
/-- .. as a whole matrix. -/
def gdc (g : GD) (i j : Nat) : Rat := if i < g.n ∧ j < g.n then gdis g i j else 0
end Go.Proofs.Ytdnmoggifjlbiaa.AM
/- Package fast: entries, displaced. -/
namespace Go.Proofs.Ytdnmoggifjlbiaa.AM
open Go Go.RowKit Go.Proofs.Ytdnmoggifjlbiaa.PN Go.Proofs.Ytdnmoggifjlbiaa.V
open Go.Proofs.Ytdnmoggifjlbiaa.LA (S S_succ S_zero S_congr)
set_option linter.unusedVariables false
set_option linter.unusedSimpArgs false
set_option maxRecDepth 8000
set_option maxHeartbeats 8000000
/-- A system, and its matrix. -/
def GD.bd (g : GD) (i : Nat) : AV := [AV.i g.k, .i g.n, .i g.r, .row false g.la (fun i => .q (g.A i)), .row false g.lb (fun i => .q (g.B i)), .row false g.lg (fun i => .q (g.G i)), .row false g.lh (fun i => .q (g.H i)), .mat false g.n (fun _ => g.n) (fun i j => .q (gent g i j))].getD i (.v undef)
def GD.bv (g : GD) : AV := .ag 8 g.bd
/-- How a kind is displaced. -/
def wayF (i : Nat) : FuncId := match i with
  | 1 => 75
  | 3 => 76
  | 4 => 77
  | 6 => 77
  | _ => 74
def wayT : List (Int × FuncId) := [(1, 74), (3, 74), (6, 74), (2, 75), (4, 76), (5, 77), (7, 77)]
end Go.Proofs.Ytdnmoggifjlbiaa.AM
/- Dense matrices: walks: zero, one, dot. -/
namespace Go.Proofs.Ytdnmoggifjlbiaa.AM
open Go Go.RowKit Go.Proofs.Ytdnmoggifjlbiaa.PN Go.Proofs.Ytdnmoggifjlbiaa.V
open Go.Proofs.Ytdnmoggifjlbiaa.LA (S S_succ S_zero S_congr)
set_option linter.unusedVariables false
set_option linter.unusedSimpArgs false
end Go.Proofs.Ytdnmoggifjlbiaa.AM
/- Dense matrices: walks: right rows, square matrices, products with vectors. -/
namespace Go.Proofs.Ytdnmoggifjlbiaa.AM
open Go Go.RowKit Go.Proofs.Ytdnmoggifjlbiaa.PN Go.Proofs.Ytdnmoggifjlbiaa.V
open Go.Proofs.Ytdnmoggifjlbiaa.LA (S S_succ S_zero S_congr)
set_option linter.unusedVariables false
set_option linter.unusedSimpArgs false
end Go.Proofs.Ytdnmoggifjlbiaa.AM
/- Dense matrices: walks: square matrices, products with vectors. -/
namespace Go.Proofs.Ytdnmoggifjlbiaa.AM
open Go Go.RowKit Go.Proofs.Ytdnmoggifjlbiaa.PN Go.Proofs.Ytdnmoggifjlbiaa.V
open Go.Proofs.Ytdnmoggifjlbiaa.LA (S S_succ S_zero S_congr)
set_option linter.unusedVariables false
set_option linter.unusedSimpArgs false
end Go.Proofs.Ytdnmoggifjlbiaa.AM
/- Package fast: displaced matrices, applied ones. -/
namespace Go.Proofs.Ytdnmoggifjlbiaa.AM
open Go Go.RowKit Go.Proofs.Ytdnmoggifjlbiaa.PN Go.Proofs.Ytdnmoggifjlbiaa.V
open Go.Proofs.Ytdnmoggifjlbiaa.LA (S S_succ S_zero S_congr)
set_option linter.unusedVariables false
set_option linter.unusedSimpArgs false
set_option maxRecDepth 8000
set_option maxHeartbeats 8000000
/-- The matrix; nought outside. -/
def gec (g : GD) (i j : Nat) : Rat := if i < g.n ∧ j < g.n then gent g i j else 0
theorem gec_in {g : GD} {i j : Nat} (hi : i < g.n) (hj : j < g.n) : gec g i j = gent g i j := if_pos ⟨hi, hj⟩
theorem Has.gec {P : Program} {f : FuncId} {g : GD} {xs : List AV} {r : AV} (H : Has P f (.mat false g.n (fun _ => g.n) (fun i j => .q (gec g i j)) :: xs) r) : Has P f (.mat false g.n (fun _ => g.n) (fun i j => .q (gent g i j)) :: xs) r :=
  Has.args H fun S B β w vs hv => rvs_cons (rv_mat fun i hi j hj => by rw [gec_in hi hj]) rvs_same hv
end Go.Proofs.Ytdnmoggifjlbiaa.AM
/- A quotient by nought is refused. -/
namespace Go.Proofs.Ytdnmoggifjlbiaa.AM
open Go Go.RowKit Go.Proofs.Ytdnmoggifjlbiaa.PN Go.Proofs.Ytdnmoggifjlbiaa.V
set_option linter.unusedVariables false
set_option linter.unusedSimpArgs false
set_option maxRecDepth 4000
end Go.Proofs.Ytdnmoggifjlbiaa.AM
/- Package levin: its lists. -/
namespace Go.Proofs.Ytdnmoggifjlbiaa.AM
open Go Go.RowKit Go.Proofs.Ytdnmoggifjlbiaa.PN Go.Proofs.Ytdnmoggifjlbiaa.V
open Go.Proofs.Ytdnmoggifjlbiaa.LA (S S_succ S_zero S_congr longer later)
set_option linter.unusedVariables false
set_option linter.unusedSimpArgs false
set_option maxRecDepth 8000
set_option maxHeartbeats 8000000
end Go.Proofs.Ytdnmoggifjlbiaa.AM
/- Package levin: one step. -/
namespace Go.Proofs.Ytdnmoggifjlbiaa.AM
open Go Go.RowKit Go.Proofs.Ytdnmoggifjlbiaa.PN Go.Proofs.Ytdnmoggifjlbiaa.V
open Go.Proofs.Ytdnmoggifjlbiaa.LA (S S_succ S_zero S_congr longer later)
set_option linter.unusedVariables false
set_option linter.unusedSimpArgs false
set_option maxRecDepth 8000
set_option maxHeartbeats 8000000
/-- What the leading part of k rows sends to a one ahead of noughts, and behind them. -/
def lvp (F : Nat → Nat → Rat) : Nat → (Nat → Rat) × (Nat → Rat)
  | 0 => (fun _ => 0, fun _ => 0)
  | k + 1 => if k = 0 then (fun _ => 1 / F 0 0, fun _ => 1 / F 0 0) else
    (fun i => (longer k (lvp F k).1 i - (S k fun j => F k j * (lvp F k).1 j) * later (lvp F k).2 i) * (1 / (1 - (S k fun j => F k j * (lvp F k).1 j) * S k fun j => F 0 (j + 1) * (lvp F k).2 j)),
     fun i => (later (lvp F k).2 i - (S k fun j => F 0 (j + 1) * (lvp F k).2 j) * longer k (lvp F k).1 i) * (1 / (1 - (S k fun j => F k j * (lvp F k).1 j) * S k fun j => F 0 (j + 1) * (lvp F k).2 j)))
def lvf (F : Nat → Nat → Rat) (k : Nat) : Nat → Rat := (lvp F k).1
def lvl (F : Nat → Nat → Rat) (k : Nat) : Nat → Rat := (lvp F k).2
def lvx (F : Nat → Nat → Rat) (k : Nat) : Rat := S k fun j => F k j * lvf F k j
def lvy (F : Nat → Nat → Rat) (k : Nat) : Rat := S k fun j => F 0 (j + 1) * lvl F k j
/-- By what the next step divides. -/
def lvd (F : Nat → Nat → Rat) (k : Nat) : Rat := if k = 0 then F 0 0 else 1 - lvx F k * lvy F k
/-- How long the numbers are. -/
def lvW : Nat → Nat
  | 0 => 1
  | k + 1 => if k = 0 then 5 else 2 * lvW k + 3 * (k * (4 + lvW k + 1) + 1) + 4
section
variable {F : Nat → Nat → Rat} {n : Nat}
end
end Go.Proofs.Ytdnmoggifjlbiaa.AM
/- Package levin: one step, walked. -/
namespace Go.Proofs.Ytdnmoggifjlbiaa.AM
open Go Go.RowKit Go.Proofs.Ytdnmoggifjlbiaa.PN Go.Proofs.Ytdnmoggifjlbiaa.V
open Go.Proofs.Ytdnmoggifjlbiaa.LA (S S_succ S_zero S_congr longer later)
set_option linter.unusedVariables false
set_option linter.unusedSimpArgs false
set_option maxRecDepth 8000
set_option maxHeartbeats 8000000
/-- What a vector's beginning is sent to, one number longer. -/
def lvm (F : Nat → Nat → Rat) (k : Nat) (x b : Nat → Rat) (i : Nat) : Rat := longer k x i - -(b k - S k fun j => F k j * x j) * lvl F (k + 1) i
end Go.Proofs.Ytdnmoggifjlbiaa.AM

/- Joined texts, 24: TuG LawTb AmZb PCirc LawTc. -/
import Derived.Test.YtdnmoggifjlbiaaGreatJLawTurnedSums19
import Derived.Test.YtdnmoggifjlbiaaGreatJLawTurnedSums22
import Derived.Test.YtdnmoggifjlbiaaGreatJLawTurnedSums23
import Derived.Test.YtdnmoggifjlbiaaGreatJLawTurnedSums15
import Derived.Test.YtdnmoggifjlbiaaGreatJLawTurnedSums12
set_option linter.unusedVariables false
set_option linter.unusedSimpArgs false
/- Drawn systems whose numbers are own memory; circulant ones. -/
namespace Go.Proofs.YtdnmoggifjlbiaaGreat.AM
open Go Go.RowKit Go.Proofs.YtdnmoggifjlbiaaGreat.PN Go.Proofs.YtdnmoggifjlbiaaGreat.V
open Go.Proofs.YtdnmoggifjlbiaaGreat.LA (S S_succ S_zero S_congr)
set_option linter.unusedVariables false
set_option linter.unusedSimpArgs false
set_option maxRecDepth 8000
set_option maxHeartbeats 8000000
abbrev mkF (K N R : Nat) (zs : List Int) : List (Nat × Fam) := [(64, (1, fun _ => .ones 26 7 (slf K N R (cnA K N) (cnB K N) (cnH K N R)))), (63, (1, fun _ => .rats (cnA K N + cnB K N + 2 * cnH K N R) fun i => .q (mkL zs (cnA K N) (cnB K N) (cnB K N) 0 i)))]
theorem k_mko {kind n most : Int} {zs : List Int} (hk : Fits .i64 kind) (hn : Fits .i64 n) (hz : AllFit zs) (m1 : 1 ≤ most) (m8 : most ≤ 8) : HasH Tryz.prog 14 [] [.i kind, .i n, .seq .i64 zs, .i most] (.ag 7 (slf (mkK kind) (mkN n most) (mkR (mkK kind) n) (cnA (mkK kind) (mkN n most)) (cnB (mkK kind) (mkN n most)) (cnH (mkK kind) (mkN n most) (mkR (mkK kind) n)))) (mkF (mkK kind) (mkN n most) (mkR (mkK kind) n) zs) := by
  obtain ⟨a1, a2⟩ := wthn_lt (a := kind) (n := 7) (by decide)
  obtain ⟨b1, b2⟩ := wthn_lt (a := n) (n := most) (by omega)
  obtain ⟨c1, c2⟩ := wthn_lt (a := n.tdiv 8) (n := 2) (by decide)
  have eK : 1 + wthn kind 7 = ((mkK kind : Nat) : Int) := by unfold mkK; omega
  have eN : 1 + wthn n most = ((mkN n most : Nat) : Int) := by unfold mkN; omega
  have hf : -9223372036854775808 ≤ n ∧ n ≤ 9223372036854775807 := hn
  have h5 : Fits .i64 (n.tdiv 8) := by
    have e1 : (n.tdiv 8).natAbs = n.natAbs / 8 := Int.natAbs_tdiv n 8
    show -9223372036854775808 ≤ _ ∧ _ ≤ (9223372036854775807 : Int)
    omega
  obtain ⟨h5a, h5b⟩ : -9223372036854775808 ≤ n.tdiv 8 ∧ n.tdiv 8 ≤ 9223372036854775807 := h5
  refine hasH_of Tryz.func14 (by kernel_rfl) rfl Tryz.ntmps14 Tryz.results14 (by exact fun i _ => slf_ok rfl i) rfl rfl ?_
  repeat(first|refine run1p ?_|((with_reducible apply st_call);exact rfl;exact rfl;exact rfl;first|(exact k_within5 (by omega) (by omega)))|((with_reducible apply st_callg);exact rfl;exact rfl;(first|exact rfl|assumption);exact rfl;exact rfl;exact rfl;first|(exact k_within5 (by omega) (by omega))))
  rw [eK, eN]
  repeat(first|refine run1p ?_|((with_reducible apply st_call);exact rfl;exact rfl;exact rfl;first|(exact r5_like _))|((with_reducible apply st_callg);exact rfl;exact rfl;(first|exact rfl|assumption);exact rfl;exact rfl;exact rfl;first|(exact r5_like _)))
  refine awp_join (stl [(2, .seq .i64 zs), (8, .ptr 8 0 0), (9, .ptr 9 0 0)] [(8, (1, fun _ => .ones 26 7 (hdf 0 0 0))), (9, (1, fun _ => .ones 26 7 (hdf (mkK kind) (mkN n most) (mkR (mkK kind) n))))]) ?_ ?_
  · cases hl : likeB (mkK kind) with
    | true =>
      have eR : 1 + wthn (n.tdiv 8) 2 = ((mkR (mkK kind) n : Nat) : Int) := by unfold mkR; rw [if_pos hl]; omega
      refine awp_yes rfl rfl ?_
      repeat(first|refine run1p ?_|((with_reducible apply st_call);exact rfl;exact rfl;exact rfl;first|(exact k_within5 (by decide) (by decide)))|((with_reducible apply st_callg);exact rfl;exact rfl;(first|exact rfl|assumption);exact rfl;exact rfl;exact rfl;first|(exact k_within5 (by decide) (by decide))))
      rw [eR]
      refine run0p ?_
      refine ⟨rfl, imp_id ?_ ?_⟩
      · exact eA
      · exact allh rfl (by decide) (ble7 rfl rfl rfl rfl rfl rfl rfl) (fun i _ => hdf_ok _ _ _ _ i) (allh rfl (by decide) (ble7 rfl rfl rfl rfl rfl rfl rfl) (fun i _ => hdf_ok _ _ _ _ i) True.intro)
    | false =>
      have eR : (((mkR (mkK kind) n : Nat)) : Int) = 0 := by unfold mkR; rw [if_neg (by rw [hl]; decide)]; rfl
      refine awp_no rfl rfl ?_
      refine run0p ?_
      refine ⟨rfl, imp_id ?_ ?_⟩
      · exact eA
      · exact allh rfl (by decide) (ble7 rfl rfl rfl rfl rfl rfl rfl) (fun i _ => hdf_ok _ _ _ _ i) (allh rfl (by decide) (ble7 rfl rfl (by show AV.i 0 = AV.i _; rw [eR]) rfl rfl rfl rfl) (fun i _ => hdf_ok _ _ _ _ i) True.intro)
  · have k1 : 1 ≤ mkK kind := by omega
    have k7 : mkK kind ≤ 7 := by omega
    have n1 : 1 ≤ mkN n most := by omega
    have n8 : mkN n most ≤ 8 := by omega
    have r3 : mkR (mkK kind) n ≤ 3 := by unfold mkR; split <;> omega
    have rl : likeB (mkK kind) = true → 1 ≤ mkR (mkK kind) n := fun h => by unfold mkR; rw [if_pos h]; omega
    generalize mkR (mkK kind) n = R at *
    generalize mkK kind = K at *
    generalize mkN n most = N at *
    clear a1 a2 b1 b2 c1 c2 h5a h5b eK eN
    obtain ⟨t0, t1, t2, t3⟩ := cn_le k1 k7 n1 n8 r3 rl
    have c := r5_counts k1 k7 n1 n8 r3
    repeat(first|refine run1p ?_|((with_reducible apply st_call);exact rfl;exact rfl;exact rfl;first|(exact Has.ag (g7 rfl rfl rfl rfl rfl rfl rfl) c))|((with_reducible apply st_callg);exact rfl;exact rfl;(first|exact rfl|assumption);exact rfl;exact rfl;exact rfl;first|(exact Has.ag (g7 rfl rfl rfl rfl rfl rfl rfl) c)))
    rw [show ((cnA K N : Nat) : Int) + (cnB K N : Nat) + 2 * (cnH K N R : Nat) = ((cnA K N + cnB K N + 2 * cnH K N R : Nat) : Int) from by omega]
    ((with_reducible apply st_callH); exact rfl; exact rfl; exact rfl; exact (k_rowo (by omega) (by omega) hz); (first | exact True.intro | exact ⟨rfl, rfl, rfl, True.intro⟩); exact rfl; exact rfl; exact rfl; exact rfl; (focus (repeat (first | exact True.intro | refine ⟨(by first | exact True.intro | rfl | exact ok_none (closed_ok rfl)), ?_⟩))); (first | exact True.intro | exact okf_WH | exact okf_pf (by exact True.intro) (by exact True.intro)))
    refine run0p ?_
    have em : ∀ i, mkL zs (cnA K N) (cnB K N) 0 0 i = rowq zs i := mkL_start
    refine awp_loop (fun m' s => ∃ c, c ≤ cnB K N ∧ m' = cnB K N - c ∧ s = stl [(8, .ptr 8 0 0), (9, .ptr 9 0 0), (10, .i (cnA K N)), (11, .i (cnB K N)), (14, .i (c : Int))] [(8, (1, fun _ => .ones 26 7 (hdf 0 0 0))), (9, (1, fun _ => .ones 26 7 (slf K N R (cnA K N) (cnB K N) (cnH K N R)))), (63, (1, fun _ => .rats (cnA K N + cnB K N + 2 * cnH K N R) fun i => .q (mkL zs (cnA K N) (cnB K N) c 0 i)))]) (cnB K N) _ (imp_id ?_ ?_) ⟨0, Nat.zero_le _, rfl, rfl⟩ ?_
    · exact eA
    · refine allh rfl (by decide) (ble7 rfl rfl rfl rfl rfl rfl rfl) (fun i _ => hdf_ok _ _ _ _ i) (allh rfl (by decide) (ble7 rfl rfl rfl (sl_eq rfl (by omega)) (sl_eq (by omega) (by omega)) (sl_eq (by omega) (by omega)) (sl_eq (by omega) (by omega))) (fun i _ => slf_ok rfl i) (allh rfl (by decide) (blen rfl fun i _ => congrArg RA.q (em i).symm) True.intro True.intro))
    · rintro m' s ⟨c, hc, rfl, rfl⟩
      refine run0p ?_
      refine awp_if rfl (fun h' => ?_) (fun h' => ?_)
      · have h' : c < cnB K N := by omega
        refine run0p ?_
        refine awp_loop (fun m' s => ∃ r, r ≤ cnA K N ∧ m' = cnA K N - r ∧ s = stl [(8, .ptr 8 0 0), (9, .ptr 9 0 0), (10, .i (cnA K N)), (11, .i (cnB K N)), (14, .i (c : Int)), (15, .i (r : Int))] [(8, (1, fun _ => .ones 26 7 (hdf 0 0 0))), (9, (1, fun _ => .ones 26 7 (slf K N R (cnA K N) (cnB K N) (cnH K N R)))), (63, (1, fun _ => .rats (cnA K N + cnB K N + 2 * cnH K N R) fun i => .q (mkL zs (cnA K N) (cnB K N) c r i)))]) (cnA K N) _ (imp_id ?_ ?_) ⟨0, Nat.zero_le _, rfl, rfl⟩ ?_
        · exact eA
        · exact allh rfl (by decide) (ble7 rfl rfl rfl rfl rfl rfl rfl) (fun i _ => hdf_ok _ _ _ _ i) (allh rfl (by decide) (ble7 rfl rfl rfl rfl rfl rfl rfl) (fun i _ => slf_ok rfl i) (allh rfl (by decide) (blen rfl fun i _ => rfl) True.intro True.intro))
        · rintro m' s ⟨r, hr, rfl, rfl⟩
          refine run0p ?_
          refine awp_if rfl (fun h1 => ?_) (fun h1 => ?_)
          · have h1 : r < cnA K N := by omega
            have fA : mkL zs (cnA K N) (cnB K N) c r r = rowq zs r := mkL_A h1
            have fB : mkL zs (cnA K N) (cnB K N) c r (cnA K N + c) = bpart (rowq zs) c (rowq zs (cnA K N + c)) r := mkL_B h'
            have fB1 : mkL zs (cnA K N) (cnB K N) c (r + 1) (cnA K N + c) = bpart (rowq zs) c (rowq zs (cnA K N + c)) (r + 1) := mkL_B h'
            have w1 : wt (mkL zs (cnA K N) (cnB K N) c r r) ≤ 1 := by rw [fA]; exact (rowq_wt zs r).le
            have w2 : wt (mkL zs (cnA K N) (cnB K N) c r (cnA K N + c)) ≤ 31 := by rw [fB]; have := bpart_wt (A := rowq zs) (c := c) (x := rowq zs (cnA K N + c)) (by omega) (rowq_wt zs _).le r; omega
            have w3 : wt ((100 + c : Int) : Rat) ≤ 1 := int_wt (by omega)
            have ci := hs_int (100 + (c : Int)) (by omega) (by omega)
            refine run0p ?_
            rw [show 0 + ((r : Nat) : Int).toNat = r from by omega, show cnA K N + ((c : Nat) : Int).toNat = cnA K N + c from rfl]
            repeat(first|refine run1p ?_|((with_reducible apply st_call);exact rfl;exact rfl;exact rfl;first|(exact hs_same (p := mkL zs (cnA K N) (cnB K N) c r r) (q := mkL zs (cnA K N) (cnB K N) c r (cnA K N + c)) (by omega) (by omega)))|((with_reducible apply st_callg);exact rfl;exact rfl;(first|exact rfl|assumption);exact rfl;exact rfl;exact rfl;first|(exact hs_same (p := mkL zs (cnA K N) (cnB K N) c r r) (q := mkL zs (cnA K N) (cnB K N) c r (cnA K N + c)) (by omega) (by omega))))
            refine awp_if rfl (fun h2 => ?_) (fun h2 => ?_)
            · repeat(first|refine run1p ?_|((with_reducible apply st_call);exact rfl;exact rfl;exact rfl;first|(exact ci))|((with_reducible apply st_callg);exact rfl;exact rfl;(first|exact rfl|assumption);exact rfl;exact rfl;exact rfl;first|(exact ci)))
              rw [show cnA K N + ((c : Nat) : Int).toNat = cnA K N + c from rfl]
              repeat(first|refine run1p ?_|((with_reducible apply st_call);exact rfl;exact rfl;exact rfl;first|(exact ci)|(exact hs_add (p := mkL zs (cnA K N) (cnB K N) c r (cnA K N + c)) (q := ((100 + c : Int) : Rat)) (by omega) (by omega)))|((with_reducible apply st_callg);exact rfl;exact rfl;(first|exact rfl|assumption);exact rfl;exact rfl;exact rfl;first|(exact ci)|(exact hs_add (p := mkL zs (cnA K N) (cnB K N) c r (cnA K N + c)) (q := ((100 + c : Int) : Rat)) (by omega) (by omega))))
              refine q_loop ?_ (imp_id ?_ ?_) ⟨r + 1, ?_, rfl, rfl⟩
              · omega
              · exact eA
              · refine allh rfl (by decide) (ble7 rfl rfl rfl rfl rfl rfl rfl) (fun i _ => hdf_ok _ _ _ _ i) (allh rfl (by decide) (ble7 rfl rfl rfl rfl rfl rfl rfl) (fun i _ => slf_ok rfl i) (allh rfl (by decide) (blen rfl fun i _ => ?_) True.intro True.intro))
                by_cases e : i = cnA K N + c
                · subst e
                  refine (updN_same _ _ _).trans (congrArg RA.q ?_)
                  rw [fB1]
                  show _ = (if _ then _ else _)
                  rw [if_pos (by rw [← fA, ← fB]; exact h2), ← fB]
                · exact (updN_ne _ _ e).trans (congrArg RA.q (mkL_row e (r + 1)))
              · omega
            · refine run0p ?_
              refine q_loop ?_ (imp_id ?_ ?_) ⟨r + 1, ?_, rfl, rfl⟩
              · omega
              · exact eA
              · refine allh rfl (by decide) (ble7 rfl rfl rfl rfl rfl rfl rfl) (fun i _ => hdf_ok _ _ _ _ i) (allh rfl (by decide) (ble7 rfl rfl rfl rfl rfl rfl rfl) (fun i _ => slf_ok rfl i) (allh rfl (by decide) (blen rfl fun i _ => congrArg RA.q ?_) True.intro True.intro))
                by_cases e : i = cnA K N + c
                · subst e
                  rw [fB, fB1]
                  show _ = (if _ then _ else _)
                  rw [if_neg (by rw [← fA, ← fB]; exact h2)]
                · exact mkL_row e (r + 1)
              · omega
          · have er : r = cnA K N := by omega
            refine run0p ?_
            refine q_loop ?_ (imp_id ?_ ?_) ⟨c + 1, ?_, rfl, rfl⟩
            · omega
            · exact eA
            · refine allh rfl (by decide) (ble7 rfl rfl rfl rfl rfl rfl rfl) (fun i _ => hdf_ok _ _ _ _ i) (allh rfl (by decide) (ble7 rfl rfl rfl rfl rfl rfl rfl) (fun i _ => slf_ok rfl i) (allh rfl (by decide) (blen rfl fun i _ => congrArg RA.q ?_) True.intro True.intro))
              rw [er]; exact mkL_next i
            · omega
      · have ec : c = cnB K N := by omega
        subst ec
        refine run0p ?_
        refine ⟨.inr rfl, [(8, .ptr 64 0 0)], imp_stl (s1 64 8) (fun h => by cases h) (s1_injl rfl) ?_ ?_, .one (.agg rfl rfl rfl rfl (by decide) rfl rfl)⟩
        · exact alle rfl (Le.ptr (by unfold s1; rw [if_pos rfl])) rfl True.intro
        · exact allh rfl (by unfold s1; rw [if_pos rfl]; decide) (le7 (Le.eq rfl rfl) (Le.eq rfl rfl) (Le.eq rfl rfl) (Le.sl (s1_ne (by decide))) (Le.sl (s1_ne (by decide))) (Le.sl (s1_ne (by decide))) (Le.sl (s1_ne (by decide)))) (fun i _ => slf_ok rfl i) (allh rfl Nat.zero_lt_one (blen rfl fun i _ => rfl) True.intro True.intro)
/-- Small whole numbers, of thirds. -/
def trC (zs : List Int) (i : Nat) : Rat := ((wthn (if i < zs.length then (zs.getD i 0).tdiv 3 else (i : Int)) 3 - 1 : Int) : Rat)
def trD (zs : List Int) : Bool := decide (0 < zs.length) && decide (wthn (zs.getD 0 0) 3 = 0)
def mkc (n : Int) (zs : List Int) (most : Int) : GD := let g := mkg 2 n zs most; { g with A := fun i => if trD zs then trC zs i else g.A i }
theorem trc_fq (zs : List Int) (i : Nat) : Fq 60 1200 (trC zs i) ∧ Bt (trC zs i) 5 ∧ wt (trC zs i) ≤ 1 := by
  obtain ⟨h1, h2⟩ := wthn_lt (a := if i < zs.length then (zs.getD i 0).tdiv 3 else (i : Int)) (n := 3) (by decide)
  unfold trC
  generalize wthn (if i < zs.length then (zs.getD i 0).tdiv 3 else (i : Int)) 3 = x at *
  have : x = 0 ∨ x = 1 ∨ x = 2 := by omega
  rcases this with rfl | rfl | rfl
  · exact ⟨⟨-60, by decide +kernel, by decide⟩, ⟨by decide +kernel, by decide +kernel⟩, by decide⟩
  · exact ⟨⟨0, by decide +kernel, by decide⟩, ⟨by decide +kernel, by decide +kernel⟩, by decide⟩
  · exact ⟨⟨60, by decide +kernel, by decide⟩, ⟨by decide +kernel, by decide +kernel⟩, by decide⟩
theorem mkc_A {n most : Int} {zs : List Int} {i : Nat} (hi : i < (mkc n zs most).la) : Fq 60 1200 ((mkc n zs most).A i) ∧ Bt ((mkc n zs most).A i) 5 := by
  show Fq 60 1200 (if trD zs then trC zs i else (mkg 2 n zs most).A i) ∧ Bt (if trD zs then trC zs i else (mkg 2 n zs most).A i) 5
  split
  · exact ⟨(trc_fq zs i).1, (trc_fq zs i).2.1⟩
  · have hi : i < cnA (mkK 2) (mkN n most) := hi
    show Fq 60 1200 (mkL zs _ _ _ 0 (0 + i)) ∧ Bt (mkL zs _ _ _ 0 (0 + i)) 5
    rw [Nat.zero_add, mkL_A hi]
    exact ⟨smal_fq _, rowq_bt zs i⟩
theorem mkc_n {n most : Int} {zs : List Int} (m1 : 1 ≤ most) : ((mkc n zs most).n : Int) ≤ most := by
  obtain ⟨b1, b2⟩ := wthn_lt (a := n) (n := most) (by omega)
  show ((mkN n most : Nat) : Int) ≤ most
  unfold mkN; omega
theorem mkc_ok {n most : Int} {zs : List Int} (m1 : 1 ≤ most) (m8 : most ≤ 8) : (mkc n zs most).OK ∧ (mkc n zs most).k = 3 := by
  have o := mkg_ok (kind := 2) (n := n) (zs := zs) m1 m8
  refine ⟨⟨o.k1, o.k7, o.n1, o.n8, o.r3, o.rk, o.r0, o.len, ⟨fun i hi => ?_, o.sm.B, o.sm.G, o.sm.H⟩, fun i hi j hj => ?_⟩, rfl⟩
  · show wt (if trD zs then trC zs i else (mkg 2 n zs most).A i) ≤ 4
    split
    · exact Nat.le_trans (trc_fq zs i).2.2 (by decide)
    · exact o.sm.A i hi
  · have hj : j < cnB 3 (mkN n most) := hj
    exact absurd hj (Nat.not_lt_zero _)
/-- A circulant struct out of a list. -/
def pub3 (N : Nat) (f : Nat → Rat) (i : Nat) : AV := [AV.i 3, .i N, .i 0, .row true N (fun i => .q (f (0 + i))), .row true 0 (fun i => .q (f (N + i))), .row true 0 (fun i => .q (f (N + 0 + i))), .row true 0 (fun i => .q (f (N + 0 + 0 + i)))].getD i (.v undef)
theorem k_circ {n most : Int} {zs : List Int} (hn : Fits .i64 n) (hz : AllFit zs) (m1 : 1 ≤ most) (m8 : most ≤ 8) : Has Tryz.prog 34 [.i n, .seq .i64 zs, .i most] (.ag 7 (mkc n zs most).ft) := by
  have hcl : (AV.ag 7 (mkc n zs most).ft).closed = true := rfl
  obtain ⟨b1, b2⟩ := wthn_lt (a := n) (n := most) (by omega)
  have m : HasH Tryz.prog 14 [] [.i 2, .i n, .seq .i64 zs, .i most] (.ag 7 (slf 3 (mkN n most) 0 (mkN n most) 0 0)) (mkF 3 (mkN n most) 0 zs) := k_mko (kind := 2) (n := n) (most := most) (zs := zs) (by show _ ∧ _; omega) hn hz m1 m8
  have hA : ∀ i, (mkg 2 n zs most).A i = mkL zs (mkN n most) 0 0 0 i := fun i => by show mkL zs (mkN n most) 0 0 0 (0 + i) = _; rw [Nat.zero_add]
  have N8 : mkN n most ≤ 8 := by unfold mkN; omega
  have N1 : 1 ≤ mkN n most := by unfold mkN; omega
  have hcA : cnA 3 (mkN n most) = mkN n most := rfl
  have hcB : cnB 3 (mkN n most) = 0 := rfl
  have hcH : cnH 3 (mkN n most) 0 = 0 := rfl
  have f00g : ∀ {U : Nat → Bool} (i : Nat), (hdf 0 0 0 i).ok U := fun i => hdf_ok 0 0 0 _ i
  refine has_of Tryz.func34 (by kernel_rfl) rfl Tryz.ntmps34 Tryz.results34 rfl hcl rfl ?_
  refine run0p ?_
  ((with_reducible apply st_callH); exact rfl; exact rfl; exact rfl; exact (m); (first | exact True.intro | exact ⟨rfl, rfl, rfl, True.intro⟩); exact rfl; exact rfl; exact rfl; exact rfl; (focus (repeat (first | exact True.intro | refine ⟨(by first | exact True.intro | rfl | exact ok_none (closed_ok rfl)), ?_⟩))); (first | exact True.intro | exact okf_WH | exact okf_pf (by exact True.intro) (by exact True.intro)))
  refine run0p ?_
  by_cases h0 : 0 < zs.length
  · have f0 : decide ((0 : Int) < zs.length) = true := decide_eq_true (by omega)
    have f1 : (decide ((0 : Int) < zs.length) == true) = true := by rw [f0]; rfl
    repeat(first|refine run1p ?_|((with_reducible apply st_call);exact rfl;exact rfl;exact rfl;first|(exact k_within12 (by decide) (by decide)))|((with_reducible apply st_callg);exact rfl;exact rfl;(first|exact rfl|assumption);exact rfl;exact rfl;exact rfl;first|(exact k_within12 (by decide) (by decide))))
    refine awp_if rfl (fun h => ?_) (fun h => ?_)
    · have hB : trD zs = true := by
        unfold trD
        rw [decide_eq_true h0, decide_eq_true (show wthn (zs.getD 0 0) 3 = 0 from h)]; rfl
      refine run0p ?_
      refine awp_loop (fun m' s => ∃ i, i ≤ mkN n most ∧ m' = mkN n most - i ∧ s = stl [(1, .seq .i64 zs), (6, .ptr 6 0 0), (7, .ptr 7 0 0), (8, .i (i : Int))] [(6, (1, fun _ => .ones 26 7 (hdf 0 0 0))), (7, (1, fun _ => .ones 26 7 (slf 3 (mkN n most) 0 (mkN n most) 0 0))), (63, (1, fun _ => .rats (mkN n most) fun j => .q (if j < i ∨ mkN n most ≤ j then trC zs j else mkL zs (mkN n most) 0 0 0 j)))]) (mkN n most) _ (imp_id ?_ ?_) ⟨0, Nat.zero_le _, rfl, rfl⟩ ?_
      · exact eA
      · refine allh rfl (by decide) (le7 (Le.id rfl) (Le.id rfl) (Le.id rfl) (Le.id rfl) (Le.id rfl) (Le.id rfl) (Le.id rfl)) (fun i _ => f00g i) (allh rfl (by decide) (le7 (Le.id rfl) (Le.id rfl) (Le.id rfl) (Le.id rfl) (Le.id rfl) (Le.id rfl) (Le.id rfl)) (fun i _ => slf_ok rfl i) (allh rfl (by decide) (blen rfl fun j hj => ?_) True.intro True.intro))
        have hj : j < mkN n most := hj
        exact congrArg RA.q (show mkL zs (mkN n most) 0 0 0 j = if j < 0 ∨ mkN n most ≤ j then trC zs j else mkL zs (mkN n most) 0 0 0 j by rw [if_neg (by omega)])
      rintro m' s ⟨i, hi, rfl, rfl⟩
      refine run0p ?_
      refine awp_if rfl (fun h1 => ?_) (fun h1 => ?_)
      · have hin : i < mkN n most := by
          have h1 : (i : Int) < ((mkN n most : Nat) : Int) := h1
          omega
        refine run0p ?_
        refine awp_if rfl (fun h2 => ?_) (fun h2 => ?_)
        · have hl : i < zs.length := by omega
          have hf := hz i hl
          have hf : -9223372036854775808 ≤ zs.getD i 0 ∧ zs.getD i 0 ≤ 9223372036854775807 := hf
          obtain ⟨h5a, h5b⟩ : -9223372036854775808 ≤ (zs.getD i 0).tdiv 3 ∧ (zs.getD i 0).tdiv 3 ≤ 9223372036854775807 := by
            have e1 : ((zs.getD i 0).tdiv 3).natAbs = (zs.getD i 0).natAbs / 3 := Int.natAbs_tdiv _ 3
            omega
          obtain ⟨t1, t2⟩ := wthn_lt (a := (zs.getD i 0).tdiv 3) (n := 3) (by decide)
          have cw := k_within12 (a := (zs.getD i 0).tdiv 3) (n := 3) (by decide) (by decide)
          have ci : Has Tryz.prog 22 [.i (wthn ((zs.getD i 0).tdiv 3) 3 - 1)] (.q (trC zs i)) := by
            unfold trC; rw [if_pos hl]
            exact hs_int _ (by omega) (by omega)
          repeat(first|refine run1p ?_|((with_reducible apply st_call);exact rfl;exact rfl;exact rfl;first|(exact cw)|(exact ci))|((with_reducible apply st_callg);exact rfl;exact rfl;(first|exact rfl|assumption);exact rfl;exact rfl;exact rfl;first|(exact cw)|(exact ci)))
          rw [show 0 + ((i : Nat) : Int).toNat = i from by omega]
          refine run0p ?_
          refine q_loop (m' := mkN n most - (i + 1)) (by omega) (imp_id ?_ ?_) ⟨i + 1, by omega, rfl, rfl⟩
          · exact eA
          · refine allh rfl (by decide) (bleo rfl fun _ _ => Le.id rfl) (fun i _ => f00g i) (allh rfl (by decide) (le7 (Le.id rfl) (Le.id rfl) (Le.id rfl) (Le.id rfl) (Le.id rfl) (Le.id rfl) (Le.id rfl)) (fun i _ => slf_ok rfl i) (allh rfl (by decide) (blen rfl fun j hj => ?_) True.intro True.intro))
            by_cases e : j = i
            · subst e
              refine (updN_same _ _ _).trans (congrArg RA.q ?_)
              rw [if_pos (.inl (by omega))]
            · refine (updN_ne _ _ e).trans (congrArg RA.q ?_)
              by_cases c : j < i ∨ mkN n most ≤ j
              · rw [if_pos c, if_pos (by omega)]
              · rw [if_neg c, if_neg (by omega)]
        · have hl : ¬ i < zs.length := by omega
          obtain ⟨t1, t2⟩ := wthn_lt (a := (i : Int)) (n := 3) (by decide)
          have cw := k_within12 (a := (i : Int)) (n := 3) (by decide) (by decide)
          have ci : Has Tryz.prog 22 [.i (wthn (i : Int) 3 - 1)] (.q (trC zs i)) := by
            unfold trC; rw [if_neg hl]
            exact hs_int _ (by omega) (by omega)
          repeat(first|refine run1p ?_|((with_reducible apply st_call);exact rfl;exact rfl;exact rfl;first|(exact cw)|(exact ci))|((with_reducible apply st_callg);exact rfl;exact rfl;(first|exact rfl|assumption);exact rfl;exact rfl;exact rfl;first|(exact cw)|(exact ci)))
          rw [show 0 + ((i : Nat) : Int).toNat = i from by omega]
          refine run0p ?_
          refine q_loop (m' := mkN n most - (i + 1)) (by omega) (imp_id ?_ ?_) ⟨i + 1, by omega, rfl, rfl⟩
          · exact eA
          · refine allh rfl (by decide) (bleo rfl fun _ _ => Le.id rfl) (fun i _ => f00g i) (allh rfl (by decide) (le7 (Le.id rfl) (Le.id rfl) (Le.id rfl) (Le.id rfl) (Le.id rfl) (Le.id rfl) (Le.id rfl)) (fun i _ => slf_ok rfl i) (allh rfl (by decide) (blen rfl fun j hj => ?_) True.intro True.intro))
            by_cases e : j = i
            · subst e
              refine (updN_same _ _ _).trans (congrArg RA.q ?_)
              rw [if_pos (.inl (by omega))]
            · refine (updN_ne _ _ e).trans (congrArg RA.q ?_)
              by_cases c : j < i ∨ mkN n most ≤ j
              · rw [if_pos c, if_pos (by omega)]
              · rw [if_neg c, if_neg (by omega)]
      · have ei : i = mkN n most := by
          have h1 : ¬ (i : Int) < ((mkN n most : Nat) : Int) := h1
          omega
        subst ei
        refine run0p ?_
        refine ⟨.inr rfl, stl [(6, .ptr 6 0 0)] [(6, (1, fun _ => .ones 26 7 (mkc n zs most).ft))], (imp_pubsl 63 6 (f' := pub3 (mkN n most) (fun j => if j < mkN n most ∨ mkN n most ≤ j then trC zs j else mkL zs (mkN n most) 0 0 0 j)) rfl rfl rfl rfl (fun i hi => ?_) (by decide)).trans (imp_id ?_ ?_), .one (.agg rfl rfl rfl rfl (by decide) rfl rfl)⟩
        · match i, hi with
          | 0, _ => exact .inl rfl
          | 1, _ => exact .inl rfl
          | 2, _ => exact .inl rfl
          | 3, _ => exact .inr ⟨0, mkN n most, rfl, by omega, rfl⟩
          | 4, _ => exact .inr ⟨mkN n most, 0, rfl, by omega, rfl⟩
          | 5, _ => exact .inr ⟨mkN n most + 0, 0, rfl, by omega, rfl⟩
          | 6, _ => exact .inr ⟨mkN n most + 0 + 0, 0, rfl, by omega, rfl⟩
        · exact eA
        · refine allh rfl (by decide) (le7 (Le.id rfl) (Le.id rfl) (Le.id rfl) (Le.row rfl (fun i hi => ?_) fun h => h) (Le.row rfl (fun i hi => absurd hi (Nat.not_lt_zero _)) fun h => h) (Le.row rfl (fun i hi => absurd hi (Nat.not_lt_zero _)) fun h => h) (Le.row rfl (fun i hi => absurd hi (Nat.not_lt_zero _)) fun h => h)) (fun i _ => (mkc n zs most).ftok _ i) True.intro
          have hi : i < mkN n most := hi
          exact congrArg RA.q (show (if 0 + i < mkN n most ∨ mkN n most ≤ 0 + i then trC zs (0 + i) else mkL zs (mkN n most) 0 0 0 (0 + i)) = if trD zs then trC zs i else (mkg 2 n zs most).A i by rw [if_pos (by omega), if_pos hB, Nat.zero_add])
    · have hB : trD zs = false := by
        unfold trD
        rw [decide_eq_true h0, decide_eq_false (show ¬ wthn (zs.getD 0 0) 3 = 0 from h)]; rfl
      refine run0p ?_
      refine ⟨.inr rfl, stl [(6, .ptr 6 0 0)] [(6, (1, fun _ => .ones 26 7 (mkc n zs most).ft))], (imp_pubsl 63 6 (f' := pub3 (mkN n most) (mkL zs (mkN n most) 0 0 0)) rfl rfl rfl rfl (fun i hi => ?_) (by decide)).trans (imp_id ?_ ?_), .one (.agg rfl rfl rfl rfl (by decide) rfl rfl)⟩
      · match i, hi with
        | 0, _ => exact .inl rfl
        | 1, _ => exact .inl rfl
        | 2, _ => exact .inl rfl
        | 3, _ => exact .inr ⟨0, mkN n most, rfl, by omega, rfl⟩
        | 4, _ => exact .inr ⟨mkN n most, 0, rfl, by omega, rfl⟩
        | 5, _ => exact .inr ⟨mkN n most + 0, 0, rfl, by omega, rfl⟩
        | 6, _ => exact .inr ⟨mkN n most + 0 + 0, 0, rfl, by omega, rfl⟩
      · exact eA
      · refine allh rfl (by decide) (le7 (Le.id rfl) (Le.id rfl) (Le.id rfl) (Le.row rfl (fun i hi => ?_) fun h => h) (Le.row rfl (fun i hi => absurd hi (Nat.not_lt_zero _)) fun h => h) (Le.row rfl (fun i hi => absurd hi (Nat.not_lt_zero _)) fun h => h) (Le.row rfl (fun i hi => absurd hi (Nat.not_lt_zero _)) fun h => h)) (fun i _ => (mkc n zs most).ftok _ i) True.intro
        exact congrArg RA.q (show mkL zs (mkN n most) 0 0 0 (0 + i) = if trD zs then trC zs i else (mkg 2 n zs most).A i by rw [hB, if_neg (by decide), hA, Nat.zero_add])
  · have f0 : decide ((0 : Int) < zs.length) = false := decide_eq_false (by omega)
    have f1 : (decide ((0 : Int) < zs.length) == true) = false := by rw [f0]; rfl
    have hB : trD zs = false := by
      unfold trD
      rw [decide_eq_false h0]; rfl
    refine run0p ?_
    refine awp_no rfl rfl ?_
    refine run0p ?_
    refine ⟨.inr rfl, stl [(6, .ptr 6 0 0)] [(6, (1, fun _ => .ones 26 7 (mkc n zs most).ft))], (imp_pubsl 63 6 (f' := pub3 (mkN n most) (mkL zs (mkN n most) 0 0 0)) rfl rfl rfl rfl (fun i hi => ?_) (by decide)).trans (imp_id ?_ ?_), .one (.agg rfl rfl rfl rfl (by decide) rfl rfl)⟩
    · match i, hi with
      | 0, _ => exact .inl rfl
      | 1, _ => exact .inl rfl
      | 2, _ => exact .inl rfl
      | 3, _ => exact .inr ⟨0, mkN n most, rfl, by omega, rfl⟩
      | 4, _ => exact .inr ⟨mkN n most, 0, rfl, by omega, rfl⟩
      | 5, _ => exact .inr ⟨mkN n most + 0, 0, rfl, by omega, rfl⟩
      | 6, _ => exact .inr ⟨mkN n most + 0 + 0, 0, rfl, by omega, rfl⟩
    · exact eA
    · refine allh rfl (by decide) (le7 (Le.id rfl) (Le.id rfl) (Le.id rfl) (Le.row rfl (fun i hi => ?_) fun h => h) (Le.row rfl (fun i hi => absurd hi (Nat.not_lt_zero _)) fun h => h) (Le.row rfl (fun i hi => absurd hi (Nat.not_lt_zero _)) fun h => h) (Le.row rfl (fun i hi => absurd hi (Nat.not_lt_zero _)) fun h => h)) (fun i _ => (mkc n zs most).ftok _ i) True.intro
      exact congrArg RA.q (show mkL zs (mkN n most) 0 0 0 (0 + i) = if trD zs then trC zs i else (mkg 2 n zs most).A i by rw [hB, if_neg (by decide), hA, Nat.zero_add])
end Go.Proofs.YtdnmoggifjlbiaaGreat.AM
/- Laws of turned systems: TurnedCircles, walked. -/
namespace Go.Proofs.YtdnmoggifjlbiaaGreat.AM
open Go Go.RowKit Go.Proofs.YtdnmoggifjlbiaaGreat.PN Go.Proofs.YtdnmoggifjlbiaaGreat.V
open Go.Proofs.YtdnmoggifjlbiaaGreat.LA (S S_succ S_zero S_congr app det unique)
set_option linter.unusedVariables false
set_option linter.unusedSimpArgs false
set_option maxRecDepth 8000
set_option maxHeartbeats 8000000
/-- What is known of a small circulant system, and of a right side. -/
structure CS (g : GD) (b : Nat → Rat) : Prop where
  ok : g.OK
  k : g.k = 3
  n6 : g.n ≤ 6
  F : ∀ i j, Fq 60 1200 (gec g i j)
  Ft : ∀ i j, Bt (gec g i j) 5
  bq : ∀ i, Fq 60 1200 (b i)
  bt : ∀ i, Bt (b i) 5
theorem cs_mkc {n most : Int} {zs bs : List Int} (m1 : 1 ≤ most) (m6 : most ≤ 6) : CS (mkc n zs most) (rowq bs) := by
  obtain ⟨o, k⟩ := mkc_ok (n := n) (zs := zs) m1 (show most ≤ 8 by omega)
  have hn := mkc_n (n := n) (zs := zs) m1
  have n1 := o.n1
  have hla : (mkc n zs most).la = (mkc n zs most).n := (ok_lens o).2.1 (.inl k)
  have key : ∀ i j, Fq 60 1200 (gec (mkc n zs most) i j) ∧ Bt (gec (mkc n zs most) i j) 5 := fun i j => by
    unfold gec
    split
    · rename_i h
      have hlt : (i + (mkc n zs most).n - j) % (mkc n zs most).n < (mkc n zs most).n := Nat.mod_lt _ (by omega)
      unfold gent; rw [k]
      exact mkc_A (by omega)
    · exact ⟨Fq.zero 60 |>.mono (by decide), Bt.zero.mono (by decide)⟩
  exact ⟨o, k, by omega, fun i j => (key i j).1, fun i j => (key i j).2, fun i => smal_fq _, fun i => rowq_bt bs i⟩
theorem cs_tb {g : GD} {b : Nat → Rat} (t : CS g b) : TB g.n g.n 2400 (gec g) := by
  have n6 := t.n6; have n1 := t.ok.n1; have hFt := t.Ft
  have h4 : 4 ^ (g.n - 1) ≤ 4 ^ 5 := Nat.pow_le_pow_right (by decide) (by omega)
  have e4 : 4 ^ 5 = 1024 := rfl
  exact TB.of n1 (by decide) (hA := hFt) (by omega)
theorem cs_wt {g : GD} {b x : Nat → Rat} (t : CS g b) (hd : gdet g.n (gec g) ≠ 0) (hx : ∀ i, i < g.n → app g.n (gec g) x i = b i) : ∀ i, i < g.n → Wt (x i) 3 := fun i hi =>
  ans_wt (F := gec g) (b := b) (fun i j _ _ => t.F i j) (fun i _ => t.bq i) t.n6 (by rw [← gdet_det]; exact hd) hx hi
def lin7 : List Int := [0, 1, 3, 4, 5, 6]
end Go.Proofs.YtdnmoggifjlbiaaGreat.AM
/- Two slices that are gathered at a time. -/
namespace Go.Proofs.YtdnmoggifjlbiaaGreat.AM
open Go Go.RowKit Go.Proofs.YtdnmoggifjlbiaaGreat.PN Go.Proofs.YtdnmoggifjlbiaaGreat.V
set_option linter.unusedVariables false
set_option linter.unusedSimpArgs false
abbrev acc2S (t1 t2 : Nat) (b1 b2 : Blk) (e : List (Nat × AV)) (l : List (Nat × Fam)) : St := stl ((t1, .own t1 0) :: (t2, .own t2 0) :: e) ((t1, (1, fun _ => b1)) :: (t2, (1, fun _ => b2)) :: l)
def s2 (t1 a1 t2 a2 : Nat) : Ren := fun g r => if g = t1 then (a1, r) else if g = t2 then (a2, r) else (g, r)
theorem s2_1 {t1 a1 t2 a2 r : Nat} : s2 t1 a1 t2 a2 t1 r = (a1, r) := by unfold s2; rw [if_pos rfl]
theorem s2_2 {t1 a1 t2 a2 r : Nat} (h : t2 ≠ t1) : s2 t1 a1 t2 a2 t2 r = (a2, r) := by unfold s2; rw [if_neg h, if_pos rfl]
theorem s2_ne {t1 a1 t2 a2 g r : Nat} (h : g ≠ t1) (h' : g ≠ t2) : s2 t1 a1 t2 a2 g r = (g, r) := by unfold s2; rw [if_neg h, if_neg h']
theorem s2_inj {t1 a1 t2 a2 : Nat} {l : List Nat} (ht : t2 ≠ t1) (ha : a1 ≠ a2) (h1 : notIn t1 a1 l = true) (h2 : notIn t2 a2 l = true) (g1 r1 g2 r2 : Nat) (k1 : memN g1 (t1 :: t2 :: l) = true) (k2 : memN g2 (t1 :: t2 :: l) = true) (e : s2 t1 a1 t2 a2 g1 r1 = s2 t1 a1 t2 a2 g2 r2) : g1 = g2 ∧ r1 = r2 := by
  have key : ∀ g, memN g (t1 :: t2 :: l) = true → g = t1 ∨ g = t2 ∨ (memN g l = true ∧ (g ≠ t1 ∧ g ≠ a1) ∧ g ≠ t2 ∧ g ≠ a2) := fun g h => by
    rcases memN_uncons h with h | h
    · exact .inl h
    · rcases memN_uncons h with h | h
      · exact .inr (.inl h)
      · exact .inr (.inr ⟨h, notIn_ne h1 _ h, notIn_ne h2 _ h⟩)
  rcases key g1 k1 with rfl | rfl | ⟨_, m1, m2⟩ <;> rcases key g2 k2 with rfl | rfl | ⟨_, n1, n2⟩
  · rw [s2_1, s2_1] at e; cases e; exact ⟨rfl, rfl⟩
  · rw [s2_1, s2_2 ht] at e; cases e; exact absurd rfl ha
  · rw [s2_1, s2_ne n1.1 n2.1] at e; cases e; exact absurd rfl n1.2
  · rw [s2_1, s2_2 ht] at e; cases e; exact absurd rfl ha
  · rw [s2_2 ht, s2_2 ht] at e; cases e; exact ⟨rfl, rfl⟩
  · rw [s2_2 ht, s2_ne n1.1 n2.1] at e; cases e; exact absurd rfl n2.2
  · rw [s2_1, s2_ne m1.1 m2.1] at e; cases e; exact absurd rfl m1.2
  · rw [s2_2 ht, s2_ne m1.1 m2.1] at e; cases e; exact absurd rfl m2.2
  · rw [s2_ne n1.1 n2.1, s2_ne m1.1 m2.1] at e; cases e; exact ⟨rfl, rfl⟩
theorem blk_id (b : Blk) : BLe idR b b := by
  cases b with
  | rats n f => exact blen rfl fun _ _ => rfl
  | ones T n f => exact bleo rfl fun _ _ => Le.id rfl
theorem nilB_ok {b : Blk} (h : nilB b) (U : Nat → Bool) : b.ok U := by
  cases b with
  | rats n f => exact True.intro
  | ones T n f => exact fun i hi => by have := h.2; omega
/-- The state with two slices of nothing. -/
abbrev two0 (s : St) (t1 t2 : Nat) (b1 b2 : Blk) : St := ⟨put (put s.env t1 (some (.own t1 0))) t2 (some (.own t2 0)), put (put s.heap t1 (some (1, fun _ => b1))) t2 (some (1, fun _ => b2)), mark (mark s.used t1) t2⟩
theorem acc2_start {s : St} {t1 t2 : Nat} {b1 b2 : Blk} {e : List (Nat × AV)} {l : List (Nat × Fam)} (h1 : s.env t1 = some (.v (.slice none 0 0))) (h2 : s.env t2 = some (.v (.slice none 0 0))) (g1 : s.used t1 = false) (g2 : s.used t2 = false) (n1 : nilB b1) (n2 : nilB b2) (h60 : s.used 60 = false) (hne : t2 ≠ t1 ∧ t1 ≠ 60 ∧ t2 ≠ 60)
    (he : AllE (two0 s t1 t2 b1 b2) idR (fun g => memN g (t1 :: t2 :: keys l)) e) (hl : AllH (two0 s t1 t2 b1 b2) idR (fun g => memN g (t1 :: t2 :: keys l)) l) : Imp s (acc2S t1 t2 b1 b2 e l) := by
  obtain ⟨h21, h1n, h2n⟩ := hne
  refine (imp_nil t1 t1 b1 h1 g1 n1).trans ((imp_nil t2 t2 b2 ((put_ne _ _ h21).trans h2) ((mark_ne _ h21).trans g2) n2).trans (imp_id (h := (t1, (1, fun _ => b1)) :: (t2, (1, fun _ => b2)) :: l) ⟨⟨_, (put_ne _ _ (Ne.symm h21)).trans (put_same _ _ _), Le.id rfl, memN_head _ _⟩, ⟨_, put_same _ _ _, Le.id rfl, memN_tail (memN_head _ _)⟩, he⟩ ⟨fun r hr => ?_, fun r hr => ?_, hl⟩ ?_))
  · obtain rfl : r = 0 := by omega
    exact ⟨1, _, (put_ne _ _ (Ne.symm h21)).trans (put_same _ _ _), Nat.zero_lt_one, blk_id b1, nilB_ok n1 _⟩
  · obtain rfl : r = 0 := by omega
    exact ⟨1, _, put_same _ _ _, Nat.zero_lt_one, blk_id b2, nilB_ok n2 _⟩
  · show (!(mark (mark s.used t1) t2 60) || _) = true
    rw [mark_ne _ (Ne.symm h2n), mark_ne _ (Ne.symm h1n), h60]; rfl
theorem acc2_next {s : St} {t1 a1 t2 a2 : Nat} {b1 b1' b2 b2' : Blk} {F1 F2 : Nat → Blk} {e : List (Nat × AV)} {l : List (Nat × Fam)} (h1 : s.env t1 = some (.own a1 0)) (h2 : s.env t2 = some (.own a2 0)) (k1 : s.heap a1 = some (1, F1)) (k2 : s.heap a2 = some (1, F2)) (e1 : F1 0 = b1') (e2 : F2 0 = b2') (hb1 : BLe (s2 t1 a1 t2 a2) b1' b1) (hb2 : BLe (s2 t1 a1 t2 a2) b2' b2)
    (o1 : b1.ok (fun _ => false)) (o2 : b2.ok (fun _ => false)) (h60 : s.used 60 = false) (hne : t2 ≠ t1 ∧ a1 ≠ a2) (n1 : notIn t1 a1 (keys l) = true) (n2 : notIn t2 a2 (keys l) = true)
    (he : AllE s (s2 t1 a1 t2 a2) (fun g => memN g (t1 :: t2 :: keys l)) e) (hl : AllH s (s2 t1 a1 t2 a2) (fun g => memN g (t1 :: t2 :: keys l)) l) : Imp s (acc2S t1 t2 b1 b2 e l) := by
  refine imp_stl (h := (t1, (1, fun _ => b1)) :: (t2, (1, fun _ => b2)) :: l) (s2 t1 a1 t2 a2) (fun h => by rw [h60] at h; cases h) (s2_inj hne.1 hne.2 n1 n2) ⟨⟨_, h1, Le.own s2_1, memN_head _ _⟩, ⟨_, h2, Le.own (s2_2 hne.1), memN_tail (memN_head _ _)⟩, he⟩ ⟨fun r hr => ?_, fun r hr => ?_, hl⟩ (by rw [h60]; rfl)
  · obtain rfl : r = 0 := by omega
    rw [s2_1]
    exact ⟨1, F1, k1, Nat.zero_lt_one, by rw [e1]; exact hb1, Blk.ok_mono (fun g h => by cases h) o1⟩
  · obtain rfl : r = 0 := by omega
    rw [s2_2 hne.1]
    exact ⟨1, F2, k2, Nat.zero_lt_one, by rw [e2]; exact hb2, Blk.ok_mono (fun g h => by cases h) o2⟩
end Go.Proofs.YtdnmoggifjlbiaaGreat.AM
/- Sums round about. -/
namespace Go.Proofs.YtdnmoggifjlbiaaGreat.LA
theorem S_turn {n d : Nat} (hd : d ≤ n) (f : Nat → Rat) : S n (fun j => f ((j + d) % n)) = S n f := by
  have h1 : S n (fun j => f ((j + d) % n)) = S ((n - d) + d) (fun j => f ((j + d) % n)) := by rw [Nat.sub_add_cancel hd]
  have h2 : S n f = S (d + (n - d)) f := by rw [Nat.add_sub_cancel' hd]
  rw [h1, h2, S_append, S_append, Rat.add_comm]
  congr 1
  · refine S_congr fun t ht => ?_
    rw [show n - d + t + d = n + t by omega, Nat.add_mod_left, Nat.mod_eq_of_lt (by omega)]
  · refine S_congr fun j hj => ?_
    rw [Nat.mod_eq_of_lt (by omega), Nat.add_comm]
theorem S_circ {n i : Nat} (hi : i < n) (f : Nat → Rat) : S n (fun j => f ((i + n - j) % n)) = S n f := by
  rw [← S_rev n (fun j => f ((i + n - j) % n)), ← S_turn (show i + 1 ≤ n from hi) f]
  refine S_congr fun j hj => ?_
  rw [show i + n - (n - 1 - j) = j + (i + 1) by omega]
end Go.Proofs.YtdnmoggifjlbiaaGreat.LA
/- Laws of turned systems: TurnedSums, walked. -/
namespace Go.Proofs.YtdnmoggifjlbiaaGreat.AM
open Go Go.RowKit Go.Proofs.YtdnmoggifjlbiaaGreat.PN Go.Proofs.YtdnmoggifjlbiaaGreat.V
open Go.Proofs.YtdnmoggifjlbiaaGreat.LA (S S_succ S_zero S_congr S_turn S_circ app app_mul det unique kernel)
set_option linter.unusedVariables false
set_option linter.unusedSimpArgs false
set_option maxRecDepth 8000
set_option maxHeartbeats 8000000
theorem circ_sum {g : GD} (hk : g.k = 3) {i : Nat} (hi : i < g.n) : app g.n (gec g) (fun _ => 1) i = S g.n g.A := by
  show (S g.n fun j => gec g i j * (1 : Rat)) = _
  rw [← S_circ hi g.A]
  refine S_congr fun j hj => ?_
  rw [gec_in hi hj, Rat.mul_one]
  unfold gent; rw [hk]; rfl
theorem mod_back {n i : Nat} (hi : i < n) : (i + n - 1) % n = if i = 0 then n - 1 else i - 1 := by
  by_cases h : i = 0
  · subst h; rw [if_pos rfl, Nat.zero_add, Nat.mod_eq_of_lt (by omega)]
  · rw [if_neg h, show i + n - 1 = i - 1 + n by omega, Nat.add_mod_right, Nat.mod_eq_of_lt (by omega)]
theorem circ_back {g : GD} (hk : g.k = 3) {i j : Nat} (hi : i < g.n) (hj : j < g.n) : gec g ((i + g.n - 1) % g.n) ((j + g.n - 1) % g.n) = gec g i j := by
  have hp := Nat.mod_lt (i + g.n - 1) (show 0 < g.n by omega)
  have hq := Nat.mod_lt (j + g.n - 1) (show 0 < g.n by omega)
  rw [gec_in hp hq, gec_in hi hj]
  rw [mod_back hi] at hp ⊢
  rw [mod_back hj] at hq ⊢
  unfold gent; rw [hk]
  show g.A _ = g.A _
  congr 1
  by_cases a : i = 0
  · by_cases b : j = 0
    · rw [if_pos a, if_pos b, a, b]; congr 1; omega
    · rw [if_pos a, if_neg b, show g.n - 1 + g.n - (j - 1) = i + g.n - j + g.n by omega, Nat.add_mod_right]
  · by_cases b : j = 0
    · rw [if_neg a, if_pos b, show i - 1 + g.n - (g.n - 1) = i by omega, show i + g.n - j = i + g.n by omega, Nat.add_mod_right]
    · rw [if_neg a, if_neg b, show i - 1 + g.n - (j - 1) = i + g.n - j by omega]
theorem circ_turn {g : GD} (hk : g.k = 3) {y : Nat → Rat} {i : Nat} (hi : i < g.n) : app g.n (gec g) (fun j => y ((j + g.n - 1) % g.n)) i = app g.n (gec g) y ((i + g.n - 1) % g.n) := by
  show (S g.n fun j => gec g i j * y ((j + g.n - 1) % g.n)) = S g.n fun j => gec g ((i + g.n - 1) % g.n) j * y j
  rw [← S_turn (show g.n - 1 ≤ g.n by omega) fun j => gec g ((i + g.n - 1) % g.n) j * y j]
  refine S_congr fun j hj => ?_
  rw [show j + (g.n - 1) = j + g.n - 1 by omega, circ_back hk hi hj]
theorem k_tsums {n k : Int} {ns bs : List Int} (hn : Fits .i64 n) (hz : AllFit ns) (hb : AllFit bs) (hk : Fits .i64 k) : Has Tryz.prog 9 [.i n, .seq .i64 ns, .seq .i64 bs, .i k] (.b true) := by
  have m1 := k_circ (n := n) (most := 6) (zs := ns) hn hz (by decide) (by decide)
  have t := cs_mkc (n := n) (most := 6) (zs := ns) (bs := bs) (by decide) (by decide)
  generalize mkc n ns 6 = g at *
  have ok := t.ok; have ek := t.k
  have n8 := ok.n8; have n1 := ok.n1
  have hla : g.la = g.n := (ok_lens ok).2.1 (.inl ek)
  have r1 := k_row (zs := bs) (n := g.n) (by omega) hb
  have r3 := k_small hk
  have wf : wt (smal k) ≤ 1 := (smal_wt k).le
  have fq : Fq 60 1200 (smal k) := smal_fq k
  have fb : Bt (smal k) 5 := smal_bt k
  generalize smal k = f at *
  have wb : ∀ i, Wt (rowq bs i) 1 := fun i => (t.bt i).wt (X := 1) (by decide)
  generalize rowq bs = b at *
  have wS : ∀ k, k ≤ g.n → wt (S k g.A) ≤ k * 5 + 1 := fun k hk => wt_sum (K := 4) fun u hu => ok.sm.A u (by omega)
  have tf : CS g (fun _ => f) := ⟨t.ok, t.k, t.n6, t.F, t.Ft, fun _ => fq, fun _ => fb⟩
  have td : CS g (fun i => b ((i + g.n - 1) % g.n)) := ⟨t.ok, t.k, t.n6, t.F, t.Ft, fun _ => t.bq _, fun _ => t.bt _⟩
  have cx := t_circle (b := fun _ => f) ok ek (fun i => (fb.wt (X := 1) (by decide)).mono (by decide))
  have cy := t_circle (b := b) ok ek (fun i => (wb i).mono (by decide))
  have cz := t_circle (b := fun i => b ((i + g.n - 1) % g.n)) ok ek (fun i => (wb _).mono (by decide))
  have cd := Has.gec (r7_det (cs_tb t) (by decide) n1 n8)
  have cn := hs_nought (p := gdet g.n (gec g))
  have hdiv : ∀ i : Nat, (((i : Int) + (g.n : Int) - 1).tmod (g.n : Int)) = (((i + g.n - 1) % g.n : Nat) : Int) := fun i => by
    rw [show (i : Int) + (g.n : Int) - 1 = ((i + g.n - 1 : Nat) : Int) by omega]; exact (Int.ofNat_tmod _ _).symm
  have gE : decide ((g.n : Int) ≠ g.n) = false := decide_eq_false fun h => h rfl
  have gE2 : (decide ((g.n : Int) ≠ g.n) == false) = true := by rw [gE]; rfl
  refine has_of Tryz.func9 (by kernel_rfl) rfl Tryz.ntmps9 Tryz.results9 rfl rfl rfl ?_
  repeat(first|refine run1p ?_|((with_reducible apply st_call);exact rfl;exact rfl;exact rfl;first|(exact k_known12))|((with_reducible apply st_callg);exact rfl;exact rfl;(first|exact rfl|assumption);exact rfl;exact rfl;exact rfl;first|(exact k_known12)))
  refine awp_no rfl rfl ?_
  repeat(first|refine run1p ?_|((with_reducible apply st_call);exact rfl;exact rfl;exact rfl;first|(exact m1)|(exact r3)|(exact hs_zero))|((with_reducible apply st_callg);exact rfl;exact rfl;(first|exact rfl|assumption);exact rfl;exact rfl;exact rfl;first|(exact m1)|(exact r3)|(exact hs_zero)))
  refine awp_loop (fun m' s => ∃ i, i ≤ g.n ∧ m' = g.n - i ∧ s = stl [(2, .seq .i64 bs), (9, .ptr 9 0 0), (10, .rptr 10 0 0), (11, .rptr 11 0 0), (12, .i (i : Int))] [(9, (1, fun _ => .ones 26 7 g.ft)), (10, (1, fun _ => .rats 1 fun _ => .q f)), (11, (1, fun _ => .rats 1 fun _ => .q (S i g.A)))]) g.n _ (imp_id ?_ ?_) ⟨0, Nat.zero_le _, rfl, rfl⟩ ?_
  · exact eA
  · exact allh rfl (by decide) (bleo rfl fun _ _ => Le.id rfl) (fun i _ => g.ftok _ i) (by exact hA)
  rintro m' s ⟨i, hi, rfl, rfl⟩
  refine run0p ?_
  refine awp_if rfl (fun h => ?_) (fun h => ?_)
  · have h : i < g.n := by omega
    have w1 := wS i (by omega); have w2 := ok.sm.A i (by omega)
    repeat(first|refine run1p ?_|((with_reducible apply st_call);exact rfl;exact rfl;exact rfl;first|(exact hs_add (p := S i g.A) (q := g.A i) (by omega) (by omega)))|((with_reducible apply st_callg);exact rfl;exact rfl;(first|exact rfl|assumption);exact rfl;exact rfl;exact rfl;first|(exact hs_add (p := S i g.A) (q := g.A i) (by omega) (by omega))))
    refine q_loop ?_ (imp_id ?_ ?_) ⟨i + 1, ?_, rfl, rfl⟩
    · omega
    · exact eA
    · exact allh rfl (by decide) (bleo rfl fun _ _ => Le.id rfl) (fun i _ => g.ftok _ i) (by exact hA)
    · omega
  have ei : i = g.n := by omega
  subst ei
  repeat(first|refine run1p ?_|((with_reducible apply st_call);exact rfl;exact rfl;exact rfl;first|(exact r1))|((with_reducible apply st_callg);exact rfl;exact rfl;(first|exact rfl|assumption);exact rfl;exact rfl;exact rfl;first|(exact r1)))
  refine awp_loop (fun m' s => ∃ i, i ≤ g.n ∧ m' = g.n - i ∧ s = acc2S 14 15 (.rats i fun _ => .q f) (.rats i fun u => .q (b ((u + g.n - 1) % g.n))) [(9, .ptr 9 0 0), (10, .rptr 10 0 0), (11, .rptr 11 0 0), (13, .row true g.n fun i => .q (b i)), (16, .i (i : Int))] [(9, (1, fun _ => .ones 26 7 g.ft)), (10, (1, fun _ => .rats 1 fun _ => .q f)), (11, (1, fun _ => .rats 1 fun _ => .q (S g.n g.A)))]) g.n _ (acc2_start rfl rfl rfl rfl (by exact rfl) (by exact rfl) rfl (by decide) ?_ ?_) ⟨0, Nat.zero_le _, rfl, rfl⟩ ?_
  · exact eA
  · exact allh rfl (by decide) (bleo rfl fun _ _ => Le.id rfl) (fun i _ => g.ftok _ i) (by exact hA)
  rintro m' s ⟨i, hi, rfl, rfl⟩
  refine run0p ?_
  refine awp_if rfl (fun h => ?_) (fun h => ?_)
  · have h : i < g.n := by omega
    have hlt := Nat.mod_lt (i + g.n - 1) (show 0 < g.n by omega)
    have w1 := (wb ((i + g.n - 1) % g.n)).le
    repeat(first|refine run1p ?_|((with_reducible apply st_call);exact rfl;exact rfl;exact rfl;first|(exact k_copy (p := f) (by omega)))|((with_reducible apply st_callg);exact rfl;exact rfl;(first|exact rfl|assumption);exact rfl;exact rfl;exact rfl;first|(exact k_copy (p := f) (by omega))))
    rw [hdiv i]
    repeat(first|refine run1p ?_|((with_reducible apply st_call);exact rfl;exact rfl;exact rfl;first|(exact k_copy (p := b ((i + g.n - 1) % g.n)) (by omega)))|((with_reducible apply st_callg);exact rfl;exact rfl;(first|exact rfl|assumption);exact rfl;exact rfl;exact rfl;first|(exact k_copy (p := b ((i + g.n - 1) % g.n)) (by omega))))
    refine q_loop (m' := g.n - (i + 1)) (by omega) (acc2_next (a1 := 59) (a2 := 74) rfl rfl rfl rfl rfl rfl (glue_one rfl) (glue_one rfl) (by exact True.intro) (by exact True.intro) rfl (by decide) rfl rfl ?_ ?_) ⟨i + 1, by omega, rfl, rfl⟩
    · exact alle rfl (Le.ptr (s2_ne (by decide) (by decide))) rfl (alle rfl (Le.rptr (s2_ne (by decide) (by decide))) rfl (alle rfl (Le.rptr (s2_ne (by decide) (by decide))) rfl (alle rfl (Le.eq rfl rfl) True.intro (alle rfl (Le.eq rfl rfl) True.intro True.intro))))
    · exact allh rfl Nat.zero_lt_one g.le_ft (fun i _ => g.ftok _ i) (allh rfl Nat.zero_lt_one (ble1 rfl) True.intro (allh rfl Nat.zero_lt_one (ble1 rfl) True.intro True.intro))
  have ei : i = g.n := by omega
  subst ei
  repeat(first|(with_reducible first|refine awp_seq ?_|refine awp_block ?_|refine awp_skip ?_|refine awp_exit ?_|refine awp_ret ?_|refine q_then ?_|refine q_block ?_|refine q_then_exit ?_|refine q_then_ret ?_|refine q_block_exit ?_|refine q_block_ret ?_|refine q_loop_exit ?_|refine q_loop_ret ?_)|((with_reducible refine q_block_other ?_ ?_);exact rfl))
  refine awp_imp ((imp_rowv 14 (fun _ => .q f) rfl rfl rfl (fun i hi => rfl)).trans (imp_rowv 15 (fun u => .q (b ((u + g.n - 1) % g.n))) rfl rfl rfl (fun i hi => rfl))) ?_
  by_cases hd : gdet g.n (gec g) = 0
  · rw [if_pos hd] at cx cy cz
    rw [decide_eq_true hd] at cn
    repeat(first|refine run1p ?_|((with_reducible apply st_call);exact rfl;exact rfl;exact rfl;first|(exact Has.ag (u' := g.f) (g7 rfl rfl rfl rfl rfl rfl rfl) cx)|(exact Has.ag (u' := g.f) (g7 rfl rfl rfl rfl rfl rfl rfl) cy)|(exact Has.ag (u' := g.f) (g7 rfl rfl rfl rfl rfl rfl rfl) cz))|((with_reducible apply st_callg);exact rfl;exact rfl;(first|exact rfl|assumption);exact rfl;exact rfl;exact rfl;first|(exact Has.ag (u' := g.f) (g7 rfl rfl rfl rfl rfl rfl rfl) cx)|(exact Has.ag (u' := g.f) (g7 rfl rfl rfl rfl rfl rfl rfl) cy)|(exact Has.ag (u' := g.f) (g7 rfl rfl rfl rfl rfl rfl rfl) cz)))
    refine awp_no rfl rfl ?_
    refine run0p ?_
    refine awp_yes rfl rfl ?_
    repeat(first|refine run1p ?_|((with_reducible apply st_call);exact rfl;exact rfl;exact rfl;first|(exact Has.ag (u' := g.f) (g7 rfl rfl rfl rfl rfl rfl rfl) (r5_expand ok))|(exact cd)|(exact cn))|((with_reducible apply st_callg);exact rfl;exact rfl;(first|exact rfl|assumption);exact rfl;exact rfl;exact rfl;first|(exact Has.ag (u' := g.f) (g7 rfl rfl rfl rfl rfl rfl rfl) (r5_expand ok))|(exact cd)|(exact cn)))
    exact ⟨.inr rfl, _, Imp.refl _, .one (.tmp rfl)⟩
  · rw [if_neg hd] at cx cy cz
    have hdet : det g.n (gec g) ≠ 0 := by rw [← gdet_det]; exact hd
    have ax := (gj_nz (b := fun _ => f) hd).2.2
    have ay := (gj_nz (b := b) hd).2.2
    have az := (gj_nz (b := fun i => b ((i + g.n - 1) % g.n)) hd).2.2
    have wx := cs_wt tf hd ax
    have wy := cs_wt t hd ay
    generalize gjx g.n (gec g) (fun _ => f) = x at *
    generalize gjx g.n (gec g) b = y at *
    generalize gjx g.n (gec g) (fun i => b ((i + g.n - 1) % g.n)) = z at *
    have hs0 : S g.n g.A ≠ 0 := fun h => hdet (kernel (x := fun _ => 1) (fun i hi => by rw [circ_sum ek hi, h]) (c := 0) (by omega) (by decide))
    have hx : ∀ i, i < g.n → x i * S g.n g.A = f := fun i hi => by
      have := unique (x := x) (y := fun _ => f / S g.n g.A * 1) hdet (fun i hi => by
        rw [ax i hi, app_mul, circ_sum ek hi, Rat.div_def, Rat.mul_assoc, Rat.inv_mul_cancel _ hs0, Rat.mul_one]) i hi
      rw [this, Rat.mul_one, Rat.div_def, Rat.mul_assoc, Rat.inv_mul_cancel _ hs0, Rat.mul_one]
    have hzy : ∀ i, i < g.n → z i = y ((i + g.n - 1) % g.n) := fun i hi => unique (x := z) (y := fun j => y ((j + g.n - 1) % g.n)) hdet (fun i hi => by
      rw [az i hi, circ_turn ek hi, ay _ (Nat.mod_lt _ (by omega))]) i hi
    have w0 := wS g.n (Nat.le_refl _)
    have cs0 := hs_nought (p := S g.n g.A)
    rw [decide_eq_false hs0] at cs0
    repeat(first|refine run1p ?_|((with_reducible apply st_call);exact rfl;exact rfl;exact rfl;first|(exact Has.ag (u' := g.f) (g7 rfl rfl rfl rfl rfl rfl rfl) cx)|(exact Has.ag (u' := g.f) (g7 rfl rfl rfl rfl rfl rfl rfl) cy)|(exact Has.ag (u' := g.f) (g7 rfl rfl rfl rfl rfl rfl rfl) cz))|((with_reducible apply st_callg);exact rfl;exact rfl;(first|exact rfl|assumption);exact rfl;exact rfl;exact rfl;first|(exact Has.ag (u' := g.f) (g7 rfl rfl rfl rfl rfl rfl rfl) cx)|(exact Has.ag (u' := g.f) (g7 rfl rfl rfl rfl rfl rfl rfl) cy)|(exact Has.ag (u' := g.f) (g7 rfl rfl rfl rfl rfl rfl rfl) cz)))
    refine awp_no rfl rfl ?_
    refine run0p ?_
    refine awp_no rfl rfl ?_
    repeat(first|refine run1p ?_|((with_reducible apply st_call);exact rfl;exact rfl;exact rfl;first|(exact cs0))|((with_reducible apply st_callg);exact rfl;exact rfl;(first|exact rfl|assumption);exact rfl;exact rfl;exact rfl;first|(exact cs0)))
    refine awp_no rfl rfl ?_
    refine run0p ?_
    refine awp_loop (fun m' s => ∃ i, i ≤ g.n ∧ m' = g.n - i ∧ s = stl [(9, .ptr 9 0 0), (10, .rptr 10 0 0), (11, .rptr 11 0 0), (17, .row true g.n fun i => .q (x i)), (19, .row true g.n fun i => .q (y i)), (21, .row true g.n fun i => .q (z i)), (23, .i (i : Int))] [(9, (1, fun _ => .ones 26 7 g.ft)), (10, (1, fun _ => .rats 1 fun _ => .q f)), (11, (1, fun _ => .rats 1 fun _ => .q (S g.n g.A)))]) g.n _ (imp_id ?_ ?_) ⟨0, Nat.zero_le _, rfl, rfl⟩ ?_
    · exact eA
    · exact allh rfl (by decide) (bleo rfl fun _ _ => Le.id rfl) (fun i _ => g.ftok _ i) (by exact hA)
    rintro m' s ⟨i, hi, rfl, rfl⟩
    refine run0p ?_
    refine awp_if rfl (fun h => ?_) (fun h => ?_)
    · have h : i < g.n := by omega
      have hlt := Nat.mod_lt (i + g.n - 1) (show 0 < g.n by omega)
      have w1 := (wx i h).le; have w2 := (wy _ hlt).le
      have c1 := hs_mul (p := x i) (q := S g.n g.A) (by omega) (by omega)
      rw [hx i h] at c1
      have c2 := hs_same (p := f) (q := f) (by omega) (by omega)
      rw [decide_eq_true rfl] at c2
      have c3 := hs_same (p := z i) (q := y ((i + g.n - 1) % g.n)) (by rw [hzy i h]; omega) (by omega)
      rw [decide_eq_true (hzy i h)] at c3
      repeat(first|refine run1p ?_|((with_reducible apply st_call);exact rfl;exact rfl;exact rfl;first|(exact c1)|(exact c2))|((with_reducible apply st_callg);exact rfl;exact rfl;(first|exact rfl|assumption);exact rfl;exact rfl;exact rfl;first|(exact c1)|(exact c2)))
      rw [hdiv i]
      repeat(first|refine run1p ?_|((with_reducible apply st_call);exact rfl;exact rfl;exact rfl;first|(exact c3))|((with_reducible apply st_callg);exact rfl;exact rfl;(first|exact rfl|assumption);exact rfl;exact rfl;exact rfl;first|(exact c3)))
      refine awp_no rfl rfl ?_
      refine run0p ?_
      refine q_loop ?_ (imp_id ?_ ?_) ⟨i + 1, ?_, rfl, rfl⟩
      · omega
      · exact eA
      · exact allh rfl (by decide) (bleo rfl fun _ _ => Le.id rfl) (fun i _ => g.ftok _ i) (by exact hA)
      · omega
    · refine run0p ?_
      exact ⟨.inr rfl, _, Imp.refl _, .one (.tmp rfl)⟩
end Go.Proofs.YtdnmoggifjlbiaaGreat.AM

/- Joined texts, 24: TuD MkT LvT TuE TuG LawTb. -/
import Derived.Test.YtdnmoggifjlbiaaGreatJLawTurnedCircles23
import Derived.Test.YtdnmoggifjlbiaaGreatJLawTurnedCircles19
set_option linter.unusedVariables false
set_option linter.unusedSimpArgs false
/- The document's chapter 12; what law 12 knows. -/
namespace Go.Proofs.YtdnmoggifjlbiaaGreat.AM
open Go Go.RowKit Go.Proofs.YtdnmoggifjlbiaaGreat.PN Go.Proofs.YtdnmoggifjlbiaaGreat.V
open Go.Proofs.YtdnmoggifjlbiaaGreat.LA (S S_succ S_zero S_congr)
set_option linter.unusedVariables false
set_option linter.unusedSimpArgs false
set_option maxRecDepth 8000
set_option maxHeartbeats 8000000
theorem r12_circle {g : GD} {b : Nat → Rat} {X : Nat → Nat} (h : g.OK) (hk : g.k = 3) (hB : BB g.n (gec g) b X) : Has Tryz.prog 37 [g.v, .row false g.n fun i => .q (b i)] (if gdet g.n (gec g) = 0 then .tup (.row true 0 fun _ => .q 0) (.i 9) else .tup (.row true g.n fun i => .q (bsx g.n (PR (gt g.n (gec g) b)) g.n i)) (.i 0)) := by
  have n1 := h.n1; have n8 := h.n8
  have cs := r7_solve hB n1 n8
  have e0 : decide ((g.k : Int) ≠ 3) = false := decide_eq_false (by omega)
  by_cases hd : gdet g.n (gec g) = 0
  · rw [if_pos hd] at cs ⊢
    refine has_of Tryz.func37 (by kernel_rfl) rfl Tryz.ntmps37 Tryz.results37 rfl rfl rfl ?_
    refine run0p ?_
    refine awp_no rfl e0 ?_
    refine run0p ?_
    refine awp_no rfl (decide_eq_false fun e => e rfl) ?_
    repeat(first|refine run1p ?_|((with_reducible apply st_call);exact rfl;exact rfl;exact rfl;first|(exact Has.ag (g7 rfl rfl rfl rfl rfl rfl rfl) (r5_expand h))|(exact Has.gec cs))|((with_reducible apply st_callg);exact rfl;exact rfl;(first|exact rfl|assumption);exact rfl;exact rfl;exact rfl;first|(exact Has.ag (g7 rfl rfl rfl rfl rfl rfl rfl) (r5_expand h))|(exact Has.gec cs)))
    exact ⟨.inr rfl, _, Imp.refl _, .two (.tmp rfl) (.tmp rfl)⟩
  · rw [if_neg hd] at cs ⊢
    refine has_of Tryz.func37 (by kernel_rfl) rfl Tryz.ntmps37 Tryz.results37 rfl rfl rfl ?_
    refine run0p ?_
    refine awp_no rfl e0 ?_
    refine run0p ?_
    refine awp_no rfl (decide_eq_false fun e => e rfl) ?_
    repeat(first|refine run1p ?_|((with_reducible apply st_call);exact rfl;exact rfl;exact rfl;first|(exact Has.ag (g7 rfl rfl rfl rfl rfl rfl rfl) (r5_expand h))|(exact Has.gec cs))|((with_reducible apply st_callg);exact rfl;exact rfl;(first|exact rfl|assumption);exact rfl;exact rfl;exact rfl;first|(exact Has.ag (g7 rfl rfl rfl rfl rfl rfl rfl) (r5_expand h))|(exact Has.gec cs)))
    exact ⟨.inr rfl, _, Imp.refl _, .two (.tmp rfl) (.tmp rfl)⟩
end Go.Proofs.YtdnmoggifjlbiaaGreat.AM
/- Systems that are drawn: Toeplitz ones with small whole numbers now and then. -/
namespace Go.Proofs.YtdnmoggifjlbiaaGreat.AM
open Go Go.RowKit Go.Proofs.YtdnmoggifjlbiaaGreat.PN Go.Proofs.YtdnmoggifjlbiaaGreat.V
open Go.Proofs.YtdnmoggifjlbiaaGreat.LA (S S_succ S_zero S_congr)
set_option linter.unusedVariables false
set_option linter.unusedSimpArgs false
set_option maxRecDepth 8000
set_option maxHeartbeats 8000000
/-- Small whole numbers. -/
def trA (zs : List Int) (i : Nat) : Rat := ((wthn (if i < zs.length then (zs.getD i 0).tdiv 2 else (i : Int)) 3 - 1 : Int) : Rat)
def trB (zs : List Int) : Bool := decide (0 < zs.length) && decide (wthn (zs.getD 0 0) 2 = 0)
def mkt (n : Int) (zs : List Int) (most : Int) : GD := let g := mkg 0 n zs most; { g with A := fun i => if trB zs then trA zs i else g.A i }
/-- A system's struct with another first row. -/
def GD.fA (g : GD) (x : AV) (i : Nat) : AV := [AV.i g.k, .i g.n, .i g.r, x, .row true g.lb (fun i => .q (g.B i)), .row true g.lg (fun i => .q (g.G i)), .row true g.lh (fun i => .q (g.H i))].getD i (.v undef)
end Go.Proofs.YtdnmoggifjlbiaaGreat.AM
/- Drawn Toeplitz systems: how long their numbers are; answers. -/
namespace Go.Proofs.YtdnmoggifjlbiaaGreat.AM
open Go.Proofs.YtdnmoggifjlbiaaGreat.PN
open Go.Proofs.YtdnmoggifjlbiaaGreat.LA (Mt S S_succ S_zero S_congr app app_congr app_sub app_mul app_add det unique)
set_option linter.unusedVariables false
set_option linter.unusedSimpArgs false
set_option maxRecDepth 8000
set_option maxHeartbeats 8000000
end Go.Proofs.YtdnmoggifjlbiaaGreat.AM
/- Laws of turned systems: what is known; Hankel ones that are drawn. -/
namespace Go.Proofs.YtdnmoggifjlbiaaGreat.AM
open Go Go.RowKit Go.Proofs.YtdnmoggifjlbiaaGreat.PN Go.Proofs.YtdnmoggifjlbiaaGreat.V
open Go.Proofs.YtdnmoggifjlbiaaGreat.LA (S S_succ S_zero S_congr S_rev app det unique)
set_option linter.unusedVariables false
set_option linter.unusedSimpArgs false
set_option maxRecDepth 8000
set_option maxHeartbeats 8000000
def kL (k : Nat) (x : Rat) : GD := ⟨k, 1, 0, 1, 0, 0, 0, fun _ => x, fun _ => 0, fun _ => 0, fun _ => 0⟩
theorem kL4_ok : (kL 4 1).OK := by
  refine ⟨by decide, by decide, by decide, by decide, by decide, fun h => (by cases h), fun _ => rfl, ?_, ⟨fun i _ => by show wt 1 ≤ 4; decide, fun i hi => absurd hi (Nat.not_lt_zero _), fun i hi => absurd hi (Nat.not_lt_zero _), fun i hi => absurd hi (Nat.not_lt_zero _)⟩, fun i hi j hj => absurd hj (Nat.not_lt_zero _)⟩
  intro i hi
  have hi4 : i = 0 ∨ i = 1 ∨ i = 2 ∨ i = 3 := by omega
  rcases hi4 with rfl | rfl | rfl | rfl <;> decide
theorem kL3_ok : (kL 3 3).OK := by
  refine ⟨by decide, by decide, by decide, by decide, by decide, fun h => (by cases h), fun _ => rfl, ?_, ⟨fun i _ => by show wt 3 ≤ 4; decide, fun i hi => absurd hi (Nat.not_lt_zero _), fun i hi => absurd hi (Nat.not_lt_zero _), fun i hi => absurd hi (Nat.not_lt_zero _)⟩, fun i hi j hj => absurd hj (Nat.not_lt_zero _)⟩
  intro i hi
  have hi4 : i = 0 ∨ i = 1 ∨ i = 2 ∨ i = 3 := by omega
  rcases hi4 with rfl | rfl | rfl | rfl <;> decide
theorem kL_args {S : Nat → Prop} {B : Nat} {β : Nat → Nat → Value} {w : World} {k : Nat} {x : Rat} {u : Nat → AV} {q : Nat → RA} (h0 : u 0 = .i k) (h1 : u 1 = .i 1) (h2 : u 2 = .i 0) (h3 : u 3 = .row false 1 q) (hq : q 0 = .q x) (h4 : u 4 = .v (.slice none 0 0)) (h5 : u 5 = .v (.slice none 0 0)) (h6 : u 6 = .v (.slice none 0 0)) : ∀ i, i < 7 → ∀ v, RV S B β w (u i) v → RV S B β w ((kL k x).f i) v := by
  intro i hi v hv
  match i, hi with
  | 0, _ => rw [h0] at hv; exact hv
  | 1, _ => rw [h1] at hv; exact hv
  | 2, _ => rw [h2] at hv; exact hv
  | 3, _ =>
    rw [h3] at hv
    refine rv_row (fun i hi => ?_) v hv
    have hi : i < 1 := hi
    obtain rfl : i = 0 := by omega
    exact hq
  | 4, _ => rw [h4] at hv; exact rv_nil0 v hv
  | 5, _ => rw [h5] at hv; exact rv_nil0 v hv
  | 6, _ => rw [h6] at hv; exact rv_nil0 v hv
theorem k_known12 : Has Tryz.prog 33 [] (.b true) := by
  have c1 := hs_int 1 (by decide) (by decide)
  have c3 := hs_int 3 (by decide) (by decide)
  have ct := t_toe_no kL4_ok (by decide)
  have cc : Has Tryz.prog 49 [(kL 3 3).v] (.ag 7 (fT 1 (.row true 1 fun i => .q ((gT (kL 3 3)).A i)))) := t_toe kL3_ok (by decide)
  generalize (gT (kL 3 3)).A = A at *
  refine has_of Tryz.func33 (by kernel_rfl) rfl Tryz.ntmps33 Tryz.results33 rfl rfl rfl ?_
  repeat(first|refine run1p ?_|((with_reducible apply st_call);exact rfl;exact rfl;exact rfl;first|(exact c1)|(exact c3)|(exact Has.agv (u' := (kL 4 1).f) (fun S B β w => kL_args rfl rfl rfl rfl rfl rfl rfl rfl) ct)|(exact Has.agv (u' := (kL 3 3).f) (fun S B β w => kL_args rfl rfl rfl rfl rfl rfl rfl rfl) cc))|((with_reducible apply st_callg);exact rfl;exact rfl;(first|exact rfl|assumption);exact rfl;exact rfl;exact rfl;first|(exact c1)|(exact c3)|(exact Has.agv (u' := (kL 4 1).f) (fun S B β w => kL_args rfl rfl rfl rfl rfl rfl rfl rfl) ct)|(exact Has.agv (u' := (kL 3 3).f) (fun S B β w => kL_args rfl rfl rfl rfl rfl rfl rfl rfl) cc)))
  exact ⟨.inr rfl, _, Imp.refl _, .one (.tmp rfl)⟩
/-- A Toeplitz system, taken for a Hankel one. -/
def gH (g : GD) : GD := { g with k := 2 }
end Go.Proofs.YtdnmoggifjlbiaaGreat.AM
/- Drawn systems whose numbers are own memory; circulant ones. -/
namespace Go.Proofs.YtdnmoggifjlbiaaGreat.AM
open Go Go.RowKit Go.Proofs.YtdnmoggifjlbiaaGreat.PN Go.Proofs.YtdnmoggifjlbiaaGreat.V
open Go.Proofs.YtdnmoggifjlbiaaGreat.LA (S S_succ S_zero S_congr)
set_option linter.unusedVariables false
set_option linter.unusedSimpArgs false
set_option maxRecDepth 8000
set_option maxHeartbeats 8000000
abbrev mkF (K N R : Nat) (zs : List Int) : List (Nat × Fam) := [(64, (1, fun _ => .ones 26 7 (slf K N R (cnA K N) (cnB K N) (cnH K N R)))), (63, (1, fun _ => .rats (cnA K N + cnB K N + 2 * cnH K N R) fun i => .q (mkL zs (cnA K N) (cnB K N) (cnB K N) 0 i)))]
theorem k_mko {kind n most : Int} {zs : List Int} (hk : Fits .i64 kind) (hn : Fits .i64 n) (hz : AllFit zs) (m1 : 1 ≤ most) (m8 : most ≤ 8) : HasH Tryz.prog 14 [] [.i kind, .i n, .seq .i64 zs, .i most] (.ag 7 (slf (mkK kind) (mkN n most) (mkR (mkK kind) n) (cnA (mkK kind) (mkN n most)) (cnB (mkK kind) (mkN n most)) (cnH (mkK kind) (mkN n most) (mkR (mkK kind) n)))) (mkF (mkK kind) (mkN n most) (mkR (mkK kind) n) zs) := by
  obtain ⟨a1, a2⟩ := wthn_lt (a := kind) (n := 7) (by decide)
  obtain ⟨b1, b2⟩ := wthn_lt (a := n) (n := most) (by omega)
  obtain ⟨c1, c2⟩ := wthn_lt (a := n.tdiv 8) (n := 2) (by decide)
  have eK : 1 + wthn kind 7 = ((mkK kind : Nat) : Int) := by unfold mkK; omega
  have eN : 1 + wthn n most = ((mkN n most : Nat) : Int) := by unfold mkN; omega
  have hf : -9223372036854775808 ≤ n ∧ n ≤ 9223372036854775807 := hn
  have h5 : Fits .i64 (n.tdiv 8) := by
    have e1 : (n.tdiv 8).natAbs = n.natAbs / 8 := Int.natAbs_tdiv n 8
    show -9223372036854775808 ≤ _ ∧ _ ≤ (9223372036854775807 : Int)
    omega
  obtain ⟨h5a, h5b⟩ : -9223372036854775808 ≤ n.tdiv 8 ∧ n.tdiv 8 ≤ 9223372036854775807 := h5
  refine hasH_of Tryz.func14 (by kernel_rfl) rfl Tryz.ntmps14 Tryz.results14 (by exact fun i _ => slf_ok rfl i) rfl rfl ?_
  repeat(first|refine run1p ?_|((with_reducible apply st_call);exact rfl;exact rfl;exact rfl;first|(exact k_within5 (by omega) (by omega)))|((with_reducible apply st_callg);exact rfl;exact rfl;(first|exact rfl|assumption);exact rfl;exact rfl;exact rfl;first|(exact k_within5 (by omega) (by omega))))
  rw [eK, eN]
  repeat(first|refine run1p ?_|((with_reducible apply st_call);exact rfl;exact rfl;exact rfl;first|(exact r5_like _))|((with_reducible apply st_callg);exact rfl;exact rfl;(first|exact rfl|assumption);exact rfl;exact rfl;exact rfl;first|(exact r5_like _)))
  refine awp_join (stl [(2, .seq .i64 zs), (8, .ptr 8 0 0), (9, .ptr 9 0 0)] [(8, (1, fun _ => .ones 26 7 (hdf 0 0 0))), (9, (1, fun _ => .ones 26 7 (hdf (mkK kind) (mkN n most) (mkR (mkK kind) n))))]) ?_ ?_
  · cases hl : likeB (mkK kind) with
    | true =>
      have eR : 1 + wthn (n.tdiv 8) 2 = ((mkR (mkK kind) n : Nat) : Int) := by unfold mkR; rw [if_pos hl]; omega
      refine awp_yes rfl rfl ?_
      repeat(first|refine run1p ?_|((with_reducible apply st_call);exact rfl;exact rfl;exact rfl;first|(exact k_within5 (by decide) (by decide)))|((with_reducible apply st_callg);exact rfl;exact rfl;(first|exact rfl|assumption);exact rfl;exact rfl;exact rfl;first|(exact k_within5 (by decide) (by decide))))
      rw [eR]
      refine run0p ?_
      refine ⟨rfl, imp_id ?_ ?_⟩
      · exact eA
      · exact allh rfl (by decide) (ble7 rfl rfl rfl rfl rfl rfl rfl) (fun i _ => hdf_ok _ _ _ _ i) (allh rfl (by decide) (ble7 rfl rfl rfl rfl rfl rfl rfl) (fun i _ => hdf_ok _ _ _ _ i) True.intro)
    | false =>
      have eR : (((mkR (mkK kind) n : Nat)) : Int) = 0 := by unfold mkR; rw [if_neg (by rw [hl]; decide)]; rfl
      refine awp_no rfl rfl ?_
      refine run0p ?_
      refine ⟨rfl, imp_id ?_ ?_⟩
      · exact eA
      · exact allh rfl (by decide) (ble7 rfl rfl rfl rfl rfl rfl rfl) (fun i _ => hdf_ok _ _ _ _ i) (allh rfl (by decide) (ble7 rfl rfl (by show AV.i 0 = AV.i _; rw [eR]) rfl rfl rfl rfl) (fun i _ => hdf_ok _ _ _ _ i) True.intro)
  · have k1 : 1 ≤ mkK kind := by omega
    have k7 : mkK kind ≤ 7 := by omega
    have n1 : 1 ≤ mkN n most := by omega
    have n8 : mkN n most ≤ 8 := by omega
    have r3 : mkR (mkK kind) n ≤ 3 := by unfold mkR; split <;> omega
    have rl : likeB (mkK kind) = true → 1 ≤ mkR (mkK kind) n := fun h => by unfold mkR; rw [if_pos h]; omega
    generalize mkR (mkK kind) n = R at *
    generalize mkK kind = K at *
    generalize mkN n most = N at *
    clear a1 a2 b1 b2 c1 c2 h5a h5b eK eN
    obtain ⟨t0, t1, t2, t3⟩ := cn_le k1 k7 n1 n8 r3 rl
    have c := r5_counts k1 k7 n1 n8 r3
    repeat(first|refine run1p ?_|((with_reducible apply st_call);exact rfl;exact rfl;exact rfl;first|(exact Has.ag (g7 rfl rfl rfl rfl rfl rfl rfl) c))|((with_reducible apply st_callg);exact rfl;exact rfl;(first|exact rfl|assumption);exact rfl;exact rfl;exact rfl;first|(exact Has.ag (g7 rfl rfl rfl rfl rfl rfl rfl) c)))
    rw [show ((cnA K N : Nat) : Int) + (cnB K N : Nat) + 2 * (cnH K N R : Nat) = ((cnA K N + cnB K N + 2 * cnH K N R : Nat) : Int) from by omega]
    ((with_reducible apply st_callH); exact rfl; exact rfl; exact rfl; exact (k_rowo (by omega) (by omega) hz); (first | exact True.intro | exact ⟨rfl, rfl, rfl, True.intro⟩); exact rfl; exact rfl; exact rfl; exact rfl; (focus (repeat (first | exact True.intro | refine ⟨(by first | exact True.intro | rfl | exact ok_none (closed_ok rfl)), ?_⟩))); (first | exact True.intro | exact okf_WH | exact okf_pf (by exact True.intro) (by exact True.intro)))
    refine run0p ?_
    have em : ∀ i, mkL zs (cnA K N) (cnB K N) 0 0 i = rowq zs i := mkL_start
    refine awp_loop (fun m' s => ∃ c, c ≤ cnB K N ∧ m' = cnB K N - c ∧ s = stl [(8, .ptr 8 0 0), (9, .ptr 9 0 0), (10, .i (cnA K N)), (11, .i (cnB K N)), (14, .i (c : Int))] [(8, (1, fun _ => .ones 26 7 (hdf 0 0 0))), (9, (1, fun _ => .ones 26 7 (slf K N R (cnA K N) (cnB K N) (cnH K N R)))), (63, (1, fun _ => .rats (cnA K N + cnB K N + 2 * cnH K N R) fun i => .q (mkL zs (cnA K N) (cnB K N) c 0 i)))]) (cnB K N) _ (imp_id ?_ ?_) ⟨0, Nat.zero_le _, rfl, rfl⟩ ?_
    · exact eA
    · refine allh rfl (by decide) (ble7 rfl rfl rfl rfl rfl rfl rfl) (fun i _ => hdf_ok _ _ _ _ i) (allh rfl (by decide) (ble7 rfl rfl rfl (sl_eq rfl (by omega)) (sl_eq (by omega) (by omega)) (sl_eq (by omega) (by omega)) (sl_eq (by omega) (by omega))) (fun i _ => slf_ok rfl i) (allh rfl (by decide) (blen rfl fun i _ => congrArg RA.q (em i).symm) True.intro True.intro))
    · rintro m' s ⟨c, hc, rfl, rfl⟩
      refine run0p ?_
      refine awp_if rfl (fun h' => ?_) (fun h' => ?_)
      · have h' : c < cnB K N := by omega
        refine run0p ?_
        refine awp_loop (fun m' s => ∃ r, r ≤ cnA K N ∧ m' = cnA K N - r ∧ s = stl [(8, .ptr 8 0 0), (9, .ptr 9 0 0), (10, .i (cnA K N)), (11, .i (cnB K N)), (14, .i (c : Int)), (15, .i (r : Int))] [(8, (1, fun _ => .ones 26 7 (hdf 0 0 0))), (9, (1, fun _ => .ones 26 7 (slf K N R (cnA K N) (cnB K N) (cnH K N R)))), (63, (1, fun _ => .rats (cnA K N + cnB K N + 2 * cnH K N R) fun i => .q (mkL zs (cnA K N) (cnB K N) c r i)))]) (cnA K N) _ (imp_id ?_ ?_) ⟨0, Nat.zero_le _, rfl, rfl⟩ ?_
        · exact eA
        · exact allh rfl (by decide) (ble7 rfl rfl rfl rfl rfl rfl rfl) (fun i _ => hdf_ok _ _ _ _ i) (allh rfl (by decide) (ble7 rfl rfl rfl rfl rfl rfl rfl) (fun i _ => slf_ok rfl i) (allh rfl (by decide) (blen rfl fun i _ => rfl) True.intro True.intro))
        · rintro m' s ⟨r, hr, rfl, rfl⟩
          refine run0p ?_
          refine awp_if rfl (fun h1 => ?_) (fun h1 => ?_)
          · have h1 : r < cnA K N := by omega
            have fA : mkL zs (cnA K N) (cnB K N) c r r = rowq zs r := mkL_A h1
            have fB : mkL zs (cnA K N) (cnB K N) c r (cnA K N + c) = bpart (rowq zs) c (rowq zs (cnA K N + c)) r := mkL_B h'
            have fB1 : mkL zs (cnA K N) (cnB K N) c (r + 1) (cnA K N + c) = bpart (rowq zs) c (rowq zs (cnA K N + c)) (r + 1) := mkL_B h'
            have w1 : wt (mkL zs (cnA K N) (cnB K N) c r r) ≤ 1 := by rw [fA]; exact (rowq_wt zs r).le
            have w2 : wt (mkL zs (cnA K N) (cnB K N) c r (cnA K N + c)) ≤ 31 := by rw [fB]; have := bpart_wt (A := rowq zs) (c := c) (x := rowq zs (cnA K N + c)) (by omega) (rowq_wt zs _).le r; omega
            have w3 : wt ((100 + c : Int) : Rat) ≤ 1 := int_wt (by omega)
            have ci := hs_int (100 + (c : Int)) (by omega) (by omega)
            refine run0p ?_
            rw [show 0 + ((r : Nat) : Int).toNat = r from by omega, show cnA K N + ((c : Nat) : Int).toNat = cnA K N + c from rfl]
            repeat(first|refine run1p ?_|((with_reducible apply st_call);exact rfl;exact rfl;exact rfl;first|(exact hs_same (p := mkL zs (cnA K N) (cnB K N) c r r) (q := mkL zs (cnA K N) (cnB K N) c r (cnA K N + c)) (by omega) (by omega)))|((with_reducible apply st_callg);exact rfl;exact rfl;(first|exact rfl|assumption);exact rfl;exact rfl;exact rfl;first|(exact hs_same (p := mkL zs (cnA K N) (cnB K N) c r r) (q := mkL zs (cnA K N) (cnB K N) c r (cnA K N + c)) (by omega) (by omega))))
            refine awp_if rfl (fun h2 => ?_) (fun h2 => ?_)
            · repeat(first|refine run1p ?_|((with_reducible apply st_call);exact rfl;exact rfl;exact rfl;first|(exact ci))|((with_reducible apply st_callg);exact rfl;exact rfl;(first|exact rfl|assumption);exact rfl;exact rfl;exact rfl;first|(exact ci)))
              rw [show cnA K N + ((c : Nat) : Int).toNat = cnA K N + c from rfl]
              repeat(first|refine run1p ?_|((with_reducible apply st_call);exact rfl;exact rfl;exact rfl;first|(exact ci)|(exact hs_add (p := mkL zs (cnA K N) (cnB K N) c r (cnA K N + c)) (q := ((100 + c : Int) : Rat)) (by omega) (by omega)))|((with_reducible apply st_callg);exact rfl;exact rfl;(first|exact rfl|assumption);exact rfl;exact rfl;exact rfl;first|(exact ci)|(exact hs_add (p := mkL zs (cnA K N) (cnB K N) c r (cnA K N + c)) (q := ((100 + c : Int) : Rat)) (by omega) (by omega))))
              refine q_loop ?_ (imp_id ?_ ?_) ⟨r + 1, ?_, rfl, rfl⟩
              · omega
              · exact eA
              · refine allh rfl (by decide) (ble7 rfl rfl rfl rfl rfl rfl rfl) (fun i _ => hdf_ok _ _ _ _ i) (allh rfl (by decide) (ble7 rfl rfl rfl rfl rfl rfl rfl) (fun i _ => slf_ok rfl i) (allh rfl (by decide) (blen rfl fun i _ => ?_) True.intro True.intro))
                by_cases e : i = cnA K N + c
                · subst e
                  refine (updN_same _ _ _).trans (congrArg RA.q ?_)
                  rw [fB1]
                  show _ = (if _ then _ else _)
                  rw [if_pos (by rw [← fA, ← fB]; exact h2), ← fB]
                · exact (updN_ne _ _ e).trans (congrArg RA.q (mkL_row e (r + 1)))
              · omega
            · refine run0p ?_
              refine q_loop ?_ (imp_id ?_ ?_) ⟨r + 1, ?_, rfl, rfl⟩
              · omega
              · exact eA
              · refine allh rfl (by decide) (ble7 rfl rfl rfl rfl rfl rfl rfl) (fun i _ => hdf_ok _ _ _ _ i) (allh rfl (by decide) (ble7 rfl rfl rfl rfl rfl rfl rfl) (fun i _ => slf_ok rfl i) (allh rfl (by decide) (blen rfl fun i _ => congrArg RA.q ?_) True.intro True.intro))
                by_cases e : i = cnA K N + c
                · subst e
                  rw [fB, fB1]
                  show _ = (if _ then _ else _)
                  rw [if_neg (by rw [← fA, ← fB]; exact h2)]
                · exact mkL_row e (r + 1)
              · omega
          · have er : r = cnA K N := by omega
            refine run0p ?_
            refine q_loop ?_ (imp_id ?_ ?_) ⟨c + 1, ?_, rfl, rfl⟩
            · omega
            · exact eA
            · refine allh rfl (by decide) (ble7 rfl rfl rfl rfl rfl rfl rfl) (fun i _ => hdf_ok _ _ _ _ i) (allh rfl (by decide) (ble7 rfl rfl rfl rfl rfl rfl rfl) (fun i _ => slf_ok rfl i) (allh rfl (by decide) (blen rfl fun i _ => congrArg RA.q ?_) True.intro True.intro))
              rw [er]; exact mkL_next i
            · omega
      · have ec : c = cnB K N := by omega
        subst ec
        refine run0p ?_
        refine ⟨.inr rfl, [(8, .ptr 64 0 0)], imp_stl (s1 64 8) (fun h => by cases h) (s1_injl rfl) ?_ ?_, .one (.agg rfl rfl rfl rfl (by decide) rfl rfl)⟩
        · exact alle rfl (Le.ptr (by unfold s1; rw [if_pos rfl])) rfl True.intro
        · exact allh rfl (by unfold s1; rw [if_pos rfl]; decide) (le7 (Le.eq rfl rfl) (Le.eq rfl rfl) (Le.eq rfl rfl) (Le.sl (s1_ne (by decide))) (Le.sl (s1_ne (by decide))) (Le.sl (s1_ne (by decide))) (Le.sl (s1_ne (by decide)))) (fun i _ => slf_ok rfl i) (allh rfl Nat.zero_lt_one (blen rfl fun i _ => rfl) True.intro True.intro)
/-- Small whole numbers, of thirds. -/
def trC (zs : List Int) (i : Nat) : Rat := ((wthn (if i < zs.length then (zs.getD i 0).tdiv 3 else (i : Int)) 3 - 1 : Int) : Rat)
def trD (zs : List Int) : Bool := decide (0 < zs.length) && decide (wthn (zs.getD 0 0) 3 = 0)
def mkc (n : Int) (zs : List Int) (most : Int) : GD := let g := mkg 2 n zs most; { g with A := fun i => if trD zs then trC zs i else g.A i }
theorem trc_fq (zs : List Int) (i : Nat) : Fq 60 1200 (trC zs i) ∧ Bt (trC zs i) 5 ∧ wt (trC zs i) ≤ 1 := by
  obtain ⟨h1, h2⟩ := wthn_lt (a := if i < zs.length then (zs.getD i 0).tdiv 3 else (i : Int)) (n := 3) (by decide)
  unfold trC
  generalize wthn (if i < zs.length then (zs.getD i 0).tdiv 3 else (i : Int)) 3 = x at *
  have : x = 0 ∨ x = 1 ∨ x = 2 := by omega
  rcases this with rfl | rfl | rfl
  · exact ⟨⟨-60, by decide +kernel, by decide⟩, ⟨by decide +kernel, by decide +kernel⟩, by decide⟩
  · exact ⟨⟨0, by decide +kernel, by decide⟩, ⟨by decide +kernel, by decide +kernel⟩, by decide⟩
  · exact ⟨⟨60, by decide +kernel, by decide⟩, ⟨by decide +kernel, by decide +kernel⟩, by decide⟩
theorem mkc_A {n most : Int} {zs : List Int} {i : Nat} (hi : i < (mkc n zs most).la) : Fq 60 1200 ((mkc n zs most).A i) ∧ Bt ((mkc n zs most).A i) 5 := by
  show Fq 60 1200 (if trD zs then trC zs i else (mkg 2 n zs most).A i) ∧ Bt (if trD zs then trC zs i else (mkg 2 n zs most).A i) 5
  split
  · exact ⟨(trc_fq zs i).1, (trc_fq zs i).2.1⟩
  · have hi : i < cnA (mkK 2) (mkN n most) := hi
    show Fq 60 1200 (mkL zs _ _ _ 0 (0 + i)) ∧ Bt (mkL zs _ _ _ 0 (0 + i)) 5
    rw [Nat.zero_add, mkL_A hi]
    exact ⟨smal_fq _, rowq_bt zs i⟩
theorem mkc_n {n most : Int} {zs : List Int} (m1 : 1 ≤ most) : ((mkc n zs most).n : Int) ≤ most := by
  obtain ⟨b1, b2⟩ := wthn_lt (a := n) (n := most) (by omega)
  show ((mkN n most : Nat) : Int) ≤ most
  unfold mkN; omega
theorem mkc_ok {n most : Int} {zs : List Int} (m1 : 1 ≤ most) (m8 : most ≤ 8) : (mkc n zs most).OK ∧ (mkc n zs most).k = 3 := by
  have o := mkg_ok (kind := 2) (n := n) (zs := zs) m1 m8
  refine ⟨⟨o.k1, o.k7, o.n1, o.n8, o.r3, o.rk, o.r0, o.len, ⟨fun i hi => ?_, o.sm.B, o.sm.G, o.sm.H⟩, fun i hi j hj => ?_⟩, rfl⟩
  · show wt (if trD zs then trC zs i else (mkg 2 n zs most).A i) ≤ 4
    split
    · exact Nat.le_trans (trc_fq zs i).2.2 (by decide)
    · exact o.sm.A i hi
  · have hj : j < cnB 3 (mkN n most) := hj
    exact absurd hj (Nat.not_lt_zero _)
/-- A circulant struct out of a list. -/
def pub3 (N : Nat) (f : Nat → Rat) (i : Nat) : AV := [AV.i 3, .i N, .i 0, .row true N (fun i => .q (f (0 + i))), .row true 0 (fun i => .q (f (N + i))), .row true 0 (fun i => .q (f (N + 0 + i))), .row true 0 (fun i => .q (f (N + 0 + 0 + i)))].getD i (.v undef)
theorem k_circ {n most : Int} {zs : List Int} (hn : Fits .i64 n) (hz : AllFit zs) (m1 : 1 ≤ most) (m8 : most ≤ 8) : Has Tryz.prog 34 [.i n, .seq .i64 zs, .i most] (.ag 7 (mkc n zs most).ft) := by
  have hcl : (AV.ag 7 (mkc n zs most).ft).closed = true := rfl
  obtain ⟨b1, b2⟩ := wthn_lt (a := n) (n := most) (by omega)
  have m : HasH Tryz.prog 14 [] [.i 2, .i n, .seq .i64 zs, .i most] (.ag 7 (slf 3 (mkN n most) 0 (mkN n most) 0 0)) (mkF 3 (mkN n most) 0 zs) := k_mko (kind := 2) (n := n) (most := most) (zs := zs) (by show _ ∧ _; omega) hn hz m1 m8
  have hA : ∀ i, (mkg 2 n zs most).A i = mkL zs (mkN n most) 0 0 0 i := fun i => by show mkL zs (mkN n most) 0 0 0 (0 + i) = _; rw [Nat.zero_add]
  have N8 : mkN n most ≤ 8 := by unfold mkN; omega
  have N1 : 1 ≤ mkN n most := by unfold mkN; omega
  have hcA : cnA 3 (mkN n most) = mkN n most := rfl
  have hcB : cnB 3 (mkN n most) = 0 := rfl
  have hcH : cnH 3 (mkN n most) 0 = 0 := rfl
  have f00g : ∀ {U : Nat → Bool} (i : Nat), (hdf 0 0 0 i).ok U := fun i => hdf_ok 0 0 0 _ i
  refine has_of Tryz.func34 (by kernel_rfl) rfl Tryz.ntmps34 Tryz.results34 rfl hcl rfl ?_
  refine run0p ?_
  ((with_reducible apply st_callH); exact rfl; exact rfl; exact rfl; exact (m); (first | exact True.intro | exact ⟨rfl, rfl, rfl, True.intro⟩); exact rfl; exact rfl; exact rfl; exact rfl; (focus (repeat (first | exact True.intro | refine ⟨(by first | exact True.intro | rfl | exact ok_none (closed_ok rfl)), ?_⟩))); (first | exact True.intro | exact okf_WH | exact okf_pf (by exact True.intro) (by exact True.intro)))
  refine run0p ?_
  by_cases h0 : 0 < zs.length
  · have f0 : decide ((0 : Int) < zs.length) = true := decide_eq_true (by omega)
    have f1 : (decide ((0 : Int) < zs.length) == true) = true := by rw [f0]; rfl
    repeat(first|refine run1p ?_|((with_reducible apply st_call);exact rfl;exact rfl;exact rfl;first|(exact k_within12 (by decide) (by decide)))|((with_reducible apply st_callg);exact rfl;exact rfl;(first|exact rfl|assumption);exact rfl;exact rfl;exact rfl;first|(exact k_within12 (by decide) (by decide))))
    refine awp_if rfl (fun h => ?_) (fun h => ?_)
    · have hB : trD zs = true := by
        unfold trD
        rw [decide_eq_true h0, decide_eq_true (show wthn (zs.getD 0 0) 3 = 0 from h)]; rfl
      refine run0p ?_
      refine awp_loop (fun m' s => ∃ i, i ≤ mkN n most ∧ m' = mkN n most - i ∧ s = stl [(1, .seq .i64 zs), (6, .ptr 6 0 0), (7, .ptr 7 0 0), (8, .i (i : Int))] [(6, (1, fun _ => .ones 26 7 (hdf 0 0 0))), (7, (1, fun _ => .ones 26 7 (slf 3 (mkN n most) 0 (mkN n most) 0 0))), (63, (1, fun _ => .rats (mkN n most) fun j => .q (if j < i ∨ mkN n most ≤ j then trC zs j else mkL zs (mkN n most) 0 0 0 j)))]) (mkN n most) _ (imp_id ?_ ?_) ⟨0, Nat.zero_le _, rfl, rfl⟩ ?_
      · exact eA
      · refine allh rfl (by decide) (le7 (Le.id rfl) (Le.id rfl) (Le.id rfl) (Le.id rfl) (Le.id rfl) (Le.id rfl) (Le.id rfl)) (fun i _ => f00g i) (allh rfl (by decide) (le7 (Le.id rfl) (Le.id rfl) (Le.id rfl) (Le.id rfl) (Le.id rfl) (Le.id rfl) (Le.id rfl)) (fun i _ => slf_ok rfl i) (allh rfl (by decide) (blen rfl fun j hj => ?_) True.intro True.intro))
        have hj : j < mkN n most := hj
        exact congrArg RA.q (show mkL zs (mkN n most) 0 0 0 j = if j < 0 ∨ mkN n most ≤ j then trC zs j else mkL zs (mkN n most) 0 0 0 j by rw [if_neg (by omega)])
      rintro m' s ⟨i, hi, rfl, rfl⟩
      refine run0p ?_
      refine awp_if rfl (fun h1 => ?_) (fun h1 => ?_)
      · have hin : i < mkN n most := by
          have h1 : (i : Int) < ((mkN n most : Nat) : Int) := h1
          omega
        refine run0p ?_
        refine awp_if rfl (fun h2 => ?_) (fun h2 => ?_)
        · have hl : i < zs.length := by omega
          have hf := hz i hl
          have hf : -9223372036854775808 ≤ zs.getD i 0 ∧ zs.getD i 0 ≤ 9223372036854775807 := hf
          obtain ⟨h5a, h5b⟩ : -9223372036854775808 ≤ (zs.getD i 0).tdiv 3 ∧ (zs.getD i 0).tdiv 3 ≤ 9223372036854775807 := by
            have e1 : ((zs.getD i 0).tdiv 3).natAbs = (zs.getD i 0).natAbs / 3 := Int.natAbs_tdiv _ 3
            omega
          obtain ⟨t1, t2⟩ := wthn_lt (a := (zs.getD i 0).tdiv 3) (n := 3) (by decide)
          have cw := k_within12 (a := (zs.getD i 0).tdiv 3) (n := 3) (by decide) (by decide)
          have ci : Has Tryz.prog 22 [.i (wthn ((zs.getD i 0).tdiv 3) 3 - 1)] (.q (trC zs i)) := by
            unfold trC; rw [if_pos hl]
            exact hs_int _ (by omega) (by omega)
          repeat(first|refine run1p ?_|((with_reducible apply st_call);exact rfl;exact rfl;exact rfl;first|(exact cw)|(exact ci))|((with_reducible apply st_callg);exact rfl;exact rfl;(first|exact rfl|assumption);exact rfl;exact rfl;exact rfl;first|(exact cw)|(exact ci)))
          rw [show 0 + ((i : Nat) : Int).toNat = i from by omega]
          refine run0p ?_
          refine q_loop (m' := mkN n most - (i + 1)) (by omega) (imp_id ?_ ?_) ⟨i + 1, by omega, rfl, rfl⟩
          · exact eA
          · refine allh rfl (by decide) (bleo rfl fun _ _ => Le.id rfl) (fun i _ => f00g i) (allh rfl (by decide) (le7 (Le.id rfl) (Le.id rfl) (Le.id rfl) (Le.id rfl) (Le.id rfl) (Le.id rfl) (Le.id rfl)) (fun i _ => slf_ok rfl i) (allh rfl (by decide) (blen rfl fun j hj => ?_) True.intro True.intro))
            by_cases e : j = i
            · subst e
              refine (updN_same _ _ _).trans (congrArg RA.q ?_)
              rw [if_pos (.inl (by omega))]
            · refine (updN_ne _ _ e).trans (congrArg RA.q ?_)
              by_cases c : j < i ∨ mkN n most ≤ j
              · rw [if_pos c, if_pos (by omega)]
              · rw [if_neg c, if_neg (by omega)]
        · have hl : ¬ i < zs.length := by omega
          obtain ⟨t1, t2⟩ := wthn_lt (a := (i : Int)) (n := 3) (by decide)
          have cw := k_within12 (a := (i : Int)) (n := 3) (by decide) (by decide)
          have ci : Has Tryz.prog 22 [.i (wthn (i : Int) 3 - 1)] (.q (trC zs i)) := by
            unfold trC; rw [if_neg hl]
            exact hs_int _ (by omega) (by omega)
          repeat(first|refine run1p ?_|((with_reducible apply st_call);exact rfl;exact rfl;exact rfl;first|(exact cw)|(exact ci))|((with_reducible apply st_callg);exact rfl;exact rfl;(first|exact rfl|assumption);exact rfl;exact rfl;exact rfl;first|(exact cw)|(exact ci)))
          rw [show 0 + ((i : Nat) : Int).toNat = i from by omega]
          refine run0p ?_
          refine q_loop (m' := mkN n most - (i + 1)) (by omega) (imp_id ?_ ?_) ⟨i + 1, by omega, rfl, rfl⟩
          · exact eA
          · refine allh rfl (by decide) (bleo rfl fun _ _ => Le.id rfl) (fun i _ => f00g i) (allh rfl (by decide) (le7 (Le.id rfl) (Le.id rfl) (Le.id rfl) (Le.id rfl) (Le.id rfl) (Le.id rfl) (Le.id rfl)) (fun i _ => slf_ok rfl i) (allh rfl (by decide) (blen rfl fun j hj => ?_) True.intro True.intro))
            by_cases e : j = i
            · subst e
              refine (updN_same _ _ _).trans (congrArg RA.q ?_)
              rw [if_pos (.inl (by omega))]
            · refine (updN_ne _ _ e).trans (congrArg RA.q ?_)
              by_cases c : j < i ∨ mkN n most ≤ j
              · rw [if_pos c, if_pos (by omega)]
              · rw [if_neg c, if_neg (by omega)]
      · have ei : i = mkN n most := by
          have h1 : ¬ (i : Int) < ((mkN n most : Nat) : Int) := h1
          omega
        subst ei
        refine run0p ?_
        refine ⟨.inr rfl, stl [(6, .ptr 6 0 0)] [(6, (1, fun _ => .ones 26 7 (mkc n zs most).ft))], (imp_pubsl 63 6 (f' := pub3 (mkN n most) (fun j => if j < mkN n most ∨ mkN n most ≤ j then trC zs j else mkL zs (mkN n most) 0 0 0 j)) rfl rfl rfl rfl (fun i hi => ?_) (by decide)).trans (imp_id ?_ ?_), .one (.agg rfl rfl rfl rfl (by decide) rfl rfl)⟩
        · match i, hi with
          | 0, _ => exact .inl rfl
          | 1, _ => exact .inl rfl
          | 2, _ => exact .inl rfl
          | 3, _ => exact .inr ⟨0, mkN n most, rfl, by omega, rfl⟩
          | 4, _ => exact .inr ⟨mkN n most, 0, rfl, by omega, rfl⟩
          | 5, _ => exact .inr ⟨mkN n most + 0, 0, rfl, by omega, rfl⟩
          | 6, _ => exact .inr ⟨mkN n most + 0 + 0, 0, rfl, by omega, rfl⟩
        · exact eA
        · refine allh rfl (by decide) (le7 (Le.id rfl) (Le.id rfl) (Le.id rfl) (Le.row rfl (fun i hi => ?_) fun h => h) (Le.row rfl (fun i hi => absurd hi (Nat.not_lt_zero _)) fun h => h) (Le.row rfl (fun i hi => absurd hi (Nat.not_lt_zero _)) fun h => h) (Le.row rfl (fun i hi => absurd hi (Nat.not_lt_zero _)) fun h => h)) (fun i _ => (mkc n zs most).ftok _ i) True.intro
          have hi : i < mkN n most := hi
          exact congrArg RA.q (show (if 0 + i < mkN n most ∨ mkN n most ≤ 0 + i then trC zs (0 + i) else mkL zs (mkN n most) 0 0 0 (0 + i)) = if trD zs then trC zs i else (mkg 2 n zs most).A i by rw [if_pos (by omega), if_pos hB, Nat.zero_add])
    · have hB : trD zs = false := by
        unfold trD
        rw [decide_eq_true h0, decide_eq_false (show ¬ wthn (zs.getD 0 0) 3 = 0 from h)]; rfl
      refine run0p ?_
      refine ⟨.inr rfl, stl [(6, .ptr 6 0 0)] [(6, (1, fun _ => .ones 26 7 (mkc n zs most).ft))], (imp_pubsl 63 6 (f' := pub3 (mkN n most) (mkL zs (mkN n most) 0 0 0)) rfl rfl rfl rfl (fun i hi => ?_) (by decide)).trans (imp_id ?_ ?_), .one (.agg rfl rfl rfl rfl (by decide) rfl rfl)⟩
      · match i, hi with
        | 0, _ => exact .inl rfl
        | 1, _ => exact .inl rfl
        | 2, _ => exact .inl rfl
        | 3, _ => exact .inr ⟨0, mkN n most, rfl, by omega, rfl⟩
        | 4, _ => exact .inr ⟨mkN n most, 0, rfl, by omega, rfl⟩
        | 5, _ => exact .inr ⟨mkN n most + 0, 0, rfl, by omega, rfl⟩
        | 6, _ => exact .inr ⟨mkN n most + 0 + 0, 0, rfl, by omega, rfl⟩
      · exact eA
      · refine allh rfl (by decide) (le7 (Le.id rfl) (Le.id rfl) (Le.id rfl) (Le.row rfl (fun i hi => ?_) fun h => h) (Le.row rfl (fun i hi => absurd hi (Nat.not_lt_zero _)) fun h => h) (Le.row rfl (fun i hi => absurd hi (Nat.not_lt_zero _)) fun h => h) (Le.row rfl (fun i hi => absurd hi (Nat.not_lt_zero _)) fun h => h)) (fun i _ => (mkc n zs most).ftok _ i) True.intro
        exact congrArg RA.q (show mkL zs (mkN n most) 0 0 0 (0 + i) = if trD zs then trC zs i else (mkg 2 n zs most).A i by rw [hB, if_neg (by decide), hA, Nat.zero_add])
  · have f0 : decide ((0 : Int) < zs.length) = false := decide_eq_false (by omega)
    have f1 : (decide ((0 : Int) < zs.length) == true) = false := by rw [f0]; rfl
    have hB : trD zs = false := by
      unfold trD
      rw [decide_eq_false h0]; rfl
    refine run0p ?_
    refine awp_no rfl rfl ?_
    refine run0p ?_
    refine ⟨.inr rfl, stl [(6, .ptr 6 0 0)] [(6, (1, fun _ => .ones 26 7 (mkc n zs most).ft))], (imp_pubsl 63 6 (f' := pub3 (mkN n most) (mkL zs (mkN n most) 0 0 0)) rfl rfl rfl rfl (fun i hi => ?_) (by decide)).trans (imp_id ?_ ?_), .one (.agg rfl rfl rfl rfl (by decide) rfl rfl)⟩
    · match i, hi with
      | 0, _ => exact .inl rfl
      | 1, _ => exact .inl rfl
      | 2, _ => exact .inl rfl
      | 3, _ => exact .inr ⟨0, mkN n most, rfl, by omega, rfl⟩
      | 4, _ => exact .inr ⟨mkN n most, 0, rfl, by omega, rfl⟩
      | 5, _ => exact .inr ⟨mkN n most + 0, 0, rfl, by omega, rfl⟩
      | 6, _ => exact .inr ⟨mkN n most + 0 + 0, 0, rfl, by omega, rfl⟩
    · exact eA
    · refine allh rfl (by decide) (le7 (Le.id rfl) (Le.id rfl) (Le.id rfl) (Le.row rfl (fun i hi => ?_) fun h => h) (Le.row rfl (fun i hi => absurd hi (Nat.not_lt_zero _)) fun h => h) (Le.row rfl (fun i hi => absurd hi (Nat.not_lt_zero _)) fun h => h) (Le.row rfl (fun i hi => absurd hi (Nat.not_lt_zero _)) fun h => h)) (fun i _ => (mkc n zs most).ftok _ i) True.intro
      exact congrArg RA.q (show mkL zs (mkN n most) 0 0 0 (0 + i) = if trD zs then trC zs i else (mkg 2 n zs most).A i by rw [hB, if_neg (by decide), hA, Nat.zero_add])
end Go.Proofs.YtdnmoggifjlbiaaGreat.AM
/- Laws of turned systems: TurnedCircles, walked. -/
namespace Go.Proofs.YtdnmoggifjlbiaaGreat.AM
open Go Go.RowKit Go.Proofs.YtdnmoggifjlbiaaGreat.PN Go.Proofs.YtdnmoggifjlbiaaGreat.V
open Go.Proofs.YtdnmoggifjlbiaaGreat.LA (S S_succ S_zero S_congr app det unique)
set_option linter.unusedVariables false
set_option linter.unusedSimpArgs false
set_option maxRecDepth 8000
set_option maxHeartbeats 8000000
/-- What is known of a small circulant system, and of a right side. -/
structure CS (g : GD) (b : Nat → Rat) : Prop where
  ok : g.OK
  k : g.k = 3
  n6 : g.n ≤ 6
  F : ∀ i j, Fq 60 1200 (gec g i j)
  Ft : ∀ i j, Bt (gec g i j) 5
  bq : ∀ i, Fq 60 1200 (b i)
  bt : ∀ i, Bt (b i) 5
theorem cs_mkc {n most : Int} {zs bs : List Int} (m1 : 1 ≤ most) (m6 : most ≤ 6) : CS (mkc n zs most) (rowq bs) := by
  obtain ⟨o, k⟩ := mkc_ok (n := n) (zs := zs) m1 (show most ≤ 8 by omega)
  have hn := mkc_n (n := n) (zs := zs) m1
  have n1 := o.n1
  have hla : (mkc n zs most).la = (mkc n zs most).n := (ok_lens o).2.1 (.inl k)
  have key : ∀ i j, Fq 60 1200 (gec (mkc n zs most) i j) ∧ Bt (gec (mkc n zs most) i j) 5 := fun i j => by
    unfold gec
    split
    · rename_i h
      have hlt : (i + (mkc n zs most).n - j) % (mkc n zs most).n < (mkc n zs most).n := Nat.mod_lt _ (by omega)
      unfold gent; rw [k]
      exact mkc_A (by omega)
    · exact ⟨Fq.zero 60 |>.mono (by decide), Bt.zero.mono (by decide)⟩
  exact ⟨o, k, by omega, fun i j => (key i j).1, fun i j => (key i j).2, fun i => smal_fq _, fun i => rowq_bt bs i⟩
theorem cs_bb {g : GD} {b : Nat → Rat} (t : CS g b) : BB g.n (gec g) b (xbd 5) := by
  have n6 := t.n6; have n1 := t.ok.n1; have hFt := t.Ft; have hbt := t.bt
  have h4 : 4 ^ (g.n - 1) ≤ 4 ^ 5 := Nat.pow_le_pow_right (by decide) (by omega)
  have e4 : 4 ^ 5 = 1024 := rfl
  exact BB.of n1 (by decide) (by omega) (hf := hFt) (hb := hbt) (yb5 ⟨g.n, by omega⟩)
theorem cs_tb {g : GD} {b : Nat → Rat} (t : CS g b) : TB g.n g.n 2400 (gec g) := by
  have n6 := t.n6; have n1 := t.ok.n1; have hFt := t.Ft
  have h4 : 4 ^ (g.n - 1) ≤ 4 ^ 5 := Nat.pow_le_pow_right (by decide) (by omega)
  have e4 : 4 ^ 5 = 1024 := rfl
  exact TB.of n1 (by decide) (hA := hFt) (by omega)
theorem cs_wt {g : GD} {b x : Nat → Rat} (t : CS g b) (hd : gdet g.n (gec g) ≠ 0) (hx : ∀ i, i < g.n → app g.n (gec g) x i = b i) : ∀ i, i < g.n → Wt (x i) 3 := fun i hi =>
  ans_wt (F := gec g) (b := b) (fun i j _ _ => t.F i j) (fun i _ => t.bq i) t.n6 (by rw [← gdet_det]; exact hd) hx hi
def lin7 : List Int := [0, 1, 3, 4, 5, 6]
theorem lin7_k (z : Int) : (0 ≤ lin7.getD (wthn z 6).toNat 0 ∧ lin7.getD (wthn z 6).toNat 0 ≤ 6) ∧ mkK (lin7.getD (wthn z 6).toNat 0) ≠ 3 := by
  obtain ⟨h1, h2⟩ := wthn_lt (a := z) (n := 6) (by decide)
  have key : ∀ k, k < 6 → (0 ≤ lin7.getD k 0 ∧ lin7.getD k 0 ≤ 6) ∧ mkK (lin7.getD k 0) ≠ 3 := by decide
  exact key _ (by omega)
theorem k_tcircles {n kind : Int} {ns bs : List Int} (hn : Fits .i64 n) (hz : AllFit ns) (hb : AllFit bs) (hk : Fits .i64 kind) : Has Tryz.prog 8 [.i n, .seq .i64 ns, .seq .i64 bs, .i kind] (.b true) := by
  have m1 := k_circ (n := n) (most := 6) (zs := ns) hn hz (by decide) (by decide)
  have t := cs_mkc (n := n) (most := 6) (zs := ns) (bs := bs) (by decide) (by decide)
  generalize mkc n ns 6 = g at *
  have ok := t.ok
  have ek := t.k
  obtain ⟨⟨q1, q2⟩, pk⟩ := lin7_k kind
  have ekk : ([0, 1, 3, 4, 5, 6] : List Int).getD (wthn kind 6).toNat 0 = lin7.getD (wthn kind 6).toNat 0 := rfl
  obtain ⟨r1', r2'⟩ := wthn_lt (a := kind) (n := 6) (by decide)
  generalize lin7.getD (wthn kind 6).toNat 0 = kk at *
  have cw := k_within12 (a := kind) (n := 6) (by decide) (by decide)
  have m2 := k_mk (kind := kk) (n := n) (most := 3) (zs := ns) (by show _ ∧ _; omega) hn hz (by decide) (by decide)
  have p := mkg_ok (kind := kk) (n := n) (most := 3) (zs := ns) (by decide) (by decide)
  have pk : (mkg kk n ns 3).k ≠ 3 := pk
  generalize mkg kk n ns 3 = o at *
  have n8 := ok.n8; have n1 := ok.n1; have p8 := p.n8; have p1 := p.n1
  have r1 := k_row (zs := bs) (n := g.n) (by omega) hb
  have r2 := k_row (zs := bs) (n := o.n) (by omega) hb
  have r3 := k_row (zs := bs) (n := g.n + 1) (by omega) hb
  have sk : Has Tryz.prog 36 [o.v, .row false o.n fun i => .q (rowq bs i)] _ := t_circle_no p (.inl pk)
  rw [if_neg pk] at sk
  have sl : Has Tryz.prog 36 [g.v, .row false (g.n + 1) fun i => .q (rowq bs i)] _ := t_circle_no ok (.inr (by omega))
  rw [if_pos ek] at sl
  have rs := r12_circle ok ek (cs_bb t)
  have cs := t_circle (b := rowq bs) ok ek (fun i => ((t.bt i).wt (X := 1) (by decide)).mono (by decide))
  have cd := Has.gec (r7_det (cs_tb t) (by decide) n1 n8)
  have cn := hs_nought (p := gdet g.n (gec g))
  have wb : ∀ i, Wt (rowq bs i) 1 := fun i => (t.bt i).wt (X := 1) (by decide)
  refine has_of Tryz.func8 (by kernel_rfl) rfl Tryz.ntmps8 Tryz.results8 rfl rfl rfl ?_
  repeat(first|refine run1p ?_|((with_reducible apply st_call);exact rfl;exact rfl;exact rfl;first|(exact k_known12))|((with_reducible apply st_callg);exact rfl;exact rfl;(first|exact rfl|assumption);exact rfl;exact rfl;exact rfl;first|(exact k_known12)))
  refine awp_no rfl rfl ?_
  by_cases hd : gdet g.n (gec g) = 0
  · rw [if_pos hd] at rs cs
    rw [decide_eq_true hd] at cn
    have c1 := k_rows (n := 0) (f := fun _ => 0) (g := fun _ => 0) (hf := fun _ => Wt.zero) (by decide) (by decide) (fun _ _ => rfl)
    repeat(first|refine run1p ?_|((with_reducible apply st_call);exact rfl;exact rfl;exact rfl;first|(exact m1)|(exact r1)|(exact Has.ag (u' := g.f) (g7 rfl rfl rfl rfl rfl rfl rfl) (r5_expand ok))|(exact Has.ag (u' := g.f) (g7 rfl rfl rfl rfl rfl rfl rfl) cs)|(exact Has.ag (u' := g.f) (g7 rfl rfl rfl rfl rfl rfl rfl) rs)|(exact c1)|(exact cd)|(exact cn))|((with_reducible apply st_callg);exact rfl;exact rfl;(first|exact rfl|assumption);exact rfl;exact rfl;exact rfl;first|(exact m1)|(exact r1)|(exact Has.ag (u' := g.f) (g7 rfl rfl rfl rfl rfl rfl rfl) (r5_expand ok))|(exact Has.ag (u' := g.f) (g7 rfl rfl rfl rfl rfl rfl rfl) cs)|(exact Has.ag (u' := g.f) (g7 rfl rfl rfl rfl rfl rfl rfl) rs)|(exact c1)|(exact cd)|(exact cn)))
    refine awp_no rfl rfl ?_
    repeat(first|refine run1p ?_|((with_reducible apply st_call);exact rfl;exact rfl;exact rfl;first|(exact cw))|((with_reducible apply st_callg);exact rfl;exact rfl;(first|exact rfl|assumption);exact rfl;exact rfl;exact rfl;first|(exact cw)))
    rw [ekk]
    repeat(first|refine run1p ?_|((with_reducible apply st_call);exact rfl;exact rfl;exact rfl;first|(exact m2)|(exact r2)|(exact r3)|(exact Has.ag (u' := o.f) (g7 rfl rfl rfl rfl rfl rfl rfl) sk)|(exact Has.ag (u' := g.f) (g7 rfl rfl rfl rfl rfl rfl rfl) sl))|((with_reducible apply st_callg);exact rfl;exact rfl;(first|exact rfl|assumption);exact rfl;exact rfl;exact rfl;first|(exact m2)|(exact r2)|(exact r3)|(exact Has.ag (u' := o.f) (g7 rfl rfl rfl rfl rfl rfl rfl) sk)|(exact Has.ag (u' := g.f) (g7 rfl rfl rfl rfl rfl rfl rfl) sl)))
    exact ⟨.inr rfl, _, Imp.refl _, .one (.tmp rfl)⟩
  · rw [if_neg hd] at rs cs
    rw [decide_eq_false hd] at cn
    have hx : ∀ i, i < g.n → gjx g.n (gec g) (rowq bs) i = bsx g.n (PR (gt g.n (gec g) (rowq bs))) g.n i := fun i hi => solve_same hd hi
    have ha := (gj_nz (b := rowq bs) hd).2.2
    have hw := cs_wt t hd ha
    generalize gjx g.n (gec g) (rowq bs) = x at *
    generalize bsx g.n (PR (gt g.n (gec g) (rowq bs))) g.n = y at *
    have c1 := k_rowsb (n := g.n) (f := x) (g := y) (K := 3) hw (by decide) (by decide) (by omega) hx
    have hsz : g.n * (300 + 3 + 1) ≤ 8 * (300 + 3 + 1) := Nat.mul_le_mul_right _ n8
    have wF : ∀ i j, Wt (gec g i j) 300 := fun i j => gec_wt ok i j
    have ce := Has.gec (g := g) (r7_applyb (F := gec g) (v := x) (hf := wF) hw (by decide) ⟨by omega, by decide⟩ n8 n8)
    have c3 := k_rowsb (n := g.n) (f := fun i => S g.n fun j => gec g i j * x j) (g := rowq bs) (K := 3) (fun i hi => by rw [show (S g.n fun j => gec g i j * x j) = rowq bs i from ha i hi]; exact (wb i).mono (by decide)) (by decide) (by decide) (by omega) ha
    repeat(first|refine run1p ?_|((with_reducible apply st_call);exact rfl;exact rfl;exact rfl;first|(exact m1)|(exact r1)|(exact Has.ag (u' := g.f) (g7 rfl rfl rfl rfl rfl rfl rfl) (r5_expand ok))|(exact Has.ag (u' := g.f) (g7 rfl rfl rfl rfl rfl rfl rfl) cs)|(exact Has.ag (u' := g.f) (g7 rfl rfl rfl rfl rfl rfl rfl) rs)|(exact c1)|(exact cd)|(exact cn)|(exact ce)|(exact c3))|((with_reducible apply st_callg);exact rfl;exact rfl;(first|exact rfl|assumption);exact rfl;exact rfl;exact rfl;first|(exact m1)|(exact r1)|(exact Has.ag (u' := g.f) (g7 rfl rfl rfl rfl rfl rfl rfl) (r5_expand ok))|(exact Has.ag (u' := g.f) (g7 rfl rfl rfl rfl rfl rfl rfl) cs)|(exact Has.ag (u' := g.f) (g7 rfl rfl rfl rfl rfl rfl rfl) rs)|(exact c1)|(exact cd)|(exact cn)|(exact ce)|(exact c3)))
    refine awp_no rfl rfl ?_
    repeat(first|refine run1p ?_|((with_reducible apply st_call);exact rfl;exact rfl;exact rfl;first|(exact cw))|((with_reducible apply st_callg);exact rfl;exact rfl;(first|exact rfl|assumption);exact rfl;exact rfl;exact rfl;first|(exact cw)))
    rw [ekk]
    repeat(first|refine run1p ?_|((with_reducible apply st_call);exact rfl;exact rfl;exact rfl;first|(exact m2)|(exact r2)|(exact r3)|(exact Has.ag (u' := o.f) (g7 rfl rfl rfl rfl rfl rfl rfl) sk)|(exact Has.ag (u' := g.f) (g7 rfl rfl rfl rfl rfl rfl rfl) sl))|((with_reducible apply st_callg);exact rfl;exact rfl;(first|exact rfl|assumption);exact rfl;exact rfl;exact rfl;first|(exact m2)|(exact r2)|(exact r3)|(exact Has.ag (u' := o.f) (g7 rfl rfl rfl rfl rfl rfl rfl) sk)|(exact Has.ag (u' := g.f) (g7 rfl rfl rfl rfl rfl rfl rfl) sl)))
    exact ⟨.inr rfl, _, Imp.refl _, .one (.tmp rfl)⟩
end Go.Proofs.YtdnmoggifjlbiaaGreat.AM

/- Joined texts, 25: LawCf. -/
import Derived.Test.YtpclkgjhfhhddaaJLawCodeReads24
import Derived.Test.YtpclkgjhfhhddaaJLawCodeReads16
set_option linter.unusedVariables false
set_option linter.unusedSimpArgs false
/- CodeReads, walked. -/
namespace Go.Proofs.Ytpclkgjhfhhddaa.AM
open Go Go.RowKit Go.Proofs.Ytpclkgjhfhhddaa.PN Go.Proofs.Ytpclkgjhfhhddaa.V
set_option linter.unusedVariables false
set_option linter.unusedSimpArgs false
set_option maxRecDepth 8000
set_option maxHeartbeats 8000000
theorem awp_bjoin6 {P : Program} {M id : Nat} {c y : Code} {Q : Exit → St → Prop} {s : St} (s1 : St) (h : AWP P M c (blockQ id (joinQ s1)) s) (k : AWP P M y Q s1) : AWP P M c (blockQ id (thenQ P M y Q)) s :=
  awp_mono h fun e s' hq => by
    unfold blockQ at hq ⊢
    have key : ∀ e, joinQ s1 e s' → thenQ P M y Q e s' := fun e ⟨he, hi⟩ => by subst he; exact awp_imp hi k
    split at hq
    · rename_i i
      cases hb : Nat.beq i id with
      | true => rw [hb] at hq; exact key _ hq
      | false => rw [hb] at hq; exact key _ hq
    · exact key _ hq
/-- Bytes, some of them turned. -/
def cI (l ats bys : List Int) : Nat → List Int
  | 0 => l
  | i + 1 => (cI l ats bys i).set (wthn (ats.getD i 0) ((cI l ats bys i).length : Nat)).toNat (((cI l ats bys i).getD (wthn (ats.getD i 0) ((cI l ats bys i).length : Nat)).toNat 0 + bys.getD i 0) % 256)
theorem cI_ok {l ats bys : List Int} (hb : By l) : ∀ i, By (cI l ats bys i) ∧ (cI l ats bys i).length = l.length
  | 0 => ⟨hb, rfl⟩
  | i + 1 => ⟨(cI_ok hb i).1.set (allb_mod _), (List.length_set ..).trans (cI_ok hb i).2⟩
theorem Le.arr {σ : Ren} {n m : Nat} {f f' : Nat → AV} (h : ∀ i, i < n * m → Le σ (f i) (f' i)) : Le σ (.arr n m f) (.arr n m f') := by
  rintro S B β w v ⟨A, c, hv, hc, hm, hx⟩
  exact ⟨A, c, hv, hc, hm, fun i hi => by obtain ⟨b, off, y, a0, a1, a2, a3, a4⟩ := hx i hi; exact ⟨b, off, y, a0, a1, a2, a3, h i hi S B β w y a4⟩⟩
theorem k_reads {kind n cut : Int} {zs ats bys raw : List Int} (hk : Fits .i64 kind) (hn : Fits .i64 n) (hz : AllFit zs) (ha : AllFit ats) (hby : By bys) (hc : Fits .i64 cut) (hr : By raw) : Has Try.prog 4 [.i kind, .i n, .seq .i64 zs, .seq .i64 ats, .seq .u8 bys, .i cut, .seq .u8 raw] (.b true) := by
  have c1 := k_mk (kind := kind) (n := n) (most := 4) (zs := zs) hk hn hz (by decide) (by decide)
  have o := mkg_ok (kind := kind) (n := n) (zs := zs) (most := 4) (by decide) (by decide)
  generalize mkg kind n zs 4 = g at *
  have c4 := k_bytesx o
  have hl : ∀ _ : Unit, (encD g).length ≤ 30000 := fun _ => encD_len o
  have hl3 := encD_pos o
  have hbg := encD_by (g := g)
  refine has_of Try.func4 (by kernel_rfl) rfl Try.ntmps4 Try.results4 rfl rfl rfl ?_
  repeat(first|refine run1p ?_|((with_reducible apply st_call);exact rfl;exact rfl;exact rfl;first|(exact k_known6))|((with_reducible apply st_callg);exact rfl;exact rfl;(first|exact rfl|assumption);exact rfl;exact rfl;exact rfl;first|(exact k_known6)))
  refine awp_no rfl rfl ?_
  refine run0p ?_
  refine awp_if rfl (fun h => ?_) (fun h => ?_)
  · refine run0p ?_
    exact ⟨.inr rfl, _, Imp.refl _, .one (.tmp rfl)⟩
  have hraw : ∀ _ : Unit, raw.length ≤ 300 := fun _ => by
    have h : ¬ (300 : Int) < (raw.length : Int) := h
    omega
  clear h
  refine run3 ?_
  repeat(first|refine run4p ?_|((with_reducible apply st_call);exact rfl;exact rfl;exact rfl;first|(exact c1)|(exact Has.ag (u' := g.f) (g7 rfl rfl rfl rfl rfl rfl rfl) c4))|((with_reducible apply st_callg);exact rfl;exact rfl;(first|exact rfl|assumption);exact rfl;exact rfl;exact rfl;first|(exact c1)|(exact Has.ag (u' := g.f) (g7 rfl rfl rfl rfl rfl rfl rfl) c4)))
  refine run3 ?_
  refine st_litbb 70 rfl rfl (Nat.zero_le _) rfl rfl rfl rfl ?_
  refine run4p ?_
  refine st_appbb 71 rfl rfl rfl rfl rfl rfl rfl (by rw [List.length_nil]; have := hl (); omega) ?_
  rw [List.nil_append]
  refine run4p ?_
  refine run3 ?_
  repeat(first|refine run4p ?_)
  have hi0 : ∃ i0, i0 = min 3 (min ats.length bys.length) := ⟨_, rfl⟩
  obtain ⟨i0, hi0⟩ := hi0
  have hcl : ∀ i, By (cI (encD g) ats bys i) ∧ (cI (encD g) ats bys i).length = (encD g).length := cI_ok hbg
  refine awp_bjoin6 (stl [(5, .i cut), (6, .seq .u8 raw), (15, .seq .u8 (encD g)), (16, .seq .u8 (cI (encD g) ats bys i0))] []) ?_ ?_
  · refine awp_loop (fun m' s => ∃ i, i ≤ i0 ∧ m' = i0 - i ∧ s = stl [(3, .seq .i64 ats), (4, .seq .u8 bys), (5, .i cut), (6, .seq .u8 raw), (15, .seq .u8 (encD g)), (16, .own 11 0), (17, .i (i : Int))] [(11, (1, fun _ => bb (cI (encD g) ats bys i)))]) i0 _ ?_ ⟨0, Nat.zero_le _, rfl, rfl⟩ ?_
    · refine fld_next (t := 11) (a := 71) rfl rfl bb_same (bb_ok _ _) rfl rfl ?_ True.intro
      exact alle rfl (Le.eq rfl rfl) True.intro (alle rfl (Le.eq rfl rfl) True.intro (alle rfl (Le.eq rfl rfl) True.intro (alle rfl (Le.eq rfl rfl) True.intro (alle rfl (Le.eq rfl rfl) True.intro (alle rfl (Le.own s1_t) rfl (alle rfl (Le.eq rfl rfl) True.intro True.intro))))))
    rintro m' s ⟨i, hi, rfl, rfl⟩
    obtain ⟨hbc, hlc⟩ := hcl i
    by_cases h1 : i < ats.length
    · have d1 : decide ((i : Int) < (ats.length : Int)) = true := decide_eq_true (by omega)
      have d1' : (decide ((i : Int) < (ats.length : Int)) == true) = true := by rw [d1]; rfl
      by_cases h2 : i < bys.length
      · have d2 : decide ((i : Int) < (bys.length : Int)) = true := decide_eq_true (by omega)
        have d2' : (decide ((i : Int) < (bys.length : Int)) == true) = true := by rw [d2]; rfl
        by_cases h3 : i < 3
        · have d3 : decide ((i : Int) < 3) = true := decide_eq_true (by omega)
          refine run0p ?_
          refine awp_yes rfl d3 ?_
          have hll := hl ()
          have hnx : cI (encD g) ats bys (i + 1) = (cI (encD g) ats bys i).set (wthn (ats.getD i 0) ((cI (encD g) ats bys i).length : Nat)).toNat (((cI (encD g) ats bys i).getD (wthn (ats.getD i 0) ((cI (encD g) ats bys i).length : Nat)).toNat 0 + bys.getD i 0) % 256) := rfl
          generalize cI (encD g) ats bys i = c at *
          obtain ⟨w1, w2⟩ := wthn_lt (a := ats.getD i 0) (n := (c.length : Nat)) (by omega)
          have hk6 := k_within6 (a := ats.getD i 0) (n := (c.length : Nat)) (by omega) (by omega)
          repeat(first|refine run1p ?_|((with_reducible apply st_call);exact rfl;exact rfl;exact rfl;first|(exact hk6))|((with_reducible apply st_callg);exact rfl;exact rfl;(first|exact rfl|assumption);exact rfl;exact rfl;exact rfl;first|(exact hk6)))
          refine q_loop (m' := i0 - (i + 1)) (by omega) ?_ ⟨i + 1, by omega, rfl, rfl⟩
          rw [hnx]
          refine imp_id ?_ ?_
          · exact alle rfl (Le.id rfl) True.intro (alle rfl (Le.id rfl) True.intro (alle rfl (Le.id rfl) True.intro (alle rfl (Le.id rfl) True.intro (alle rfl (Le.id rfl) True.intro (alle rfl (Le.id rfl) rfl (alle rfl (Le.id rfl) True.intro True.intro))))))
          · exact allh rfl (by decide) bb_set (bb_ok _ _) True.intro
        · have d3 : decide ((i : Int) < 3) = false := decide_eq_false (by omega)
          obtain rfl : i = i0 := by omega
          refine run0p ?_
          refine awp_no rfl d3 ?_
          refine run0p ?_
          refine ⟨rfl, (imp_seq 16 (cI (encD g) ats bys i) rfl rfl rfl rfl fun _ _ => rfl).trans (imp_id ?_ True.intro)⟩
          exact alle rfl (Le.id rfl) True.intro (alle rfl (Le.id rfl) True.intro (alle rfl (Le.id rfl) True.intro (alle rfl (Le.id rfl) True.intro True.intro)))
      · have d2 : decide ((i : Int) < (bys.length : Int)) = false := decide_eq_false (by omega)
        have d2' : (decide ((i : Int) < (bys.length : Int)) == true) = false := by rw [d2]; rfl
        obtain rfl : i = i0 := by omega
        refine run0p ?_
        refine awp_no rfl rfl ?_
        refine run0p ?_
        refine ⟨rfl, (imp_seq 16 (cI (encD g) ats bys i) rfl rfl rfl rfl fun _ _ => rfl).trans (imp_id ?_ True.intro)⟩
        exact alle rfl (Le.id rfl) True.intro (alle rfl (Le.id rfl) True.intro (alle rfl (Le.id rfl) True.intro (alle rfl (Le.id rfl) True.intro True.intro)))
    · have d1 : decide ((i : Int) < (ats.length : Int)) = false := decide_eq_false (by omega)
      have d1' : (decide ((i : Int) < (ats.length : Int)) == true) = false := by rw [d1]; rfl
      obtain rfl : i = i0 := by omega
      refine run0p ?_
      refine awp_no rfl rfl ?_
      refine run0p ?_
      refine ⟨rfl, (imp_seq 16 (cI (encD g) ats bys i) rfl rfl rfl rfl fun _ _ => rfl).trans (imp_id ?_ True.intro)⟩
      exact alle rfl (Le.id rfl) True.intro (alle rfl (Le.id rfl) True.intro (alle rfl (Le.id rfl) True.intro (alle rfl (Le.id rfl) True.intro True.intro)))
  obtain ⟨hbc, hlc⟩ := hcl i0
  generalize cI (encD g) ats bys i0 = c at *
  have hll : ∀ _ : Unit, c.length ≤ 30000 := fun _ => by have := hl (); omega
  refine run0p ?_
  refine awp_join (stl [(6, .seq .u8 raw), (15, .seq .u8 (encD g)), (16, .seq .u8 (if cut.tmod 3 = 1 then c.take (wthn (cut.tdiv 3) ((c.length : Nat) + 1)).toNat else c))] []) ?_ ?_
  · refine awp_if rfl (fun h => ?_) (fun h => ?_)
    · have hc1 : ((c.length : Nat) : Int) ≤ 30000 := by have := hll (); omega
      obtain ⟨w1, w2⟩ := wthn_lt (a := cut.tdiv 3) (n := ((c.length : Nat) : Int) + 1) (by omega)
      have hk6 := k_within6 (a := cut.tdiv 3) (n := ((c.length : Nat) : Int) + 1) (by omega) (by omega)
      have h : cut.tmod 3 = 1 := h
      have hc' : -9223372036854775808 ≤ cut ∧ cut ≤ 9223372036854775807 := hc
      have hq0 : (cut.tdiv 3).natAbs = cut.natAbs / 3 := Int.natAbs_tdiv cut 3
      have hq1 : -9223372036854775808 ≤ cut.tdiv 3 := by omega
      have hq2 : cut.tdiv 3 ≤ 9223372036854775807 := by omega
      repeat(first|refine run1p ?_|((with_reducible apply st_call);exact rfl;exact rfl;exact rfl;first|(exact hk6))|((with_reducible apply st_callg);exact rfl;exact rfl;(first|exact rfl|assumption);exact rfl;exact rfl;exact rfl;first|(exact hk6)))
      refine ⟨rfl, imp_id ?_ True.intro⟩
      exact alle rfl (Le.id rfl) True.intro (alle rfl (Le.id rfl) True.intro (alle rfl (Le.id (by rw [if_pos h]; rfl)) True.intro True.intro))
    · have h : ¬ cut.tmod 3 = 1 := h
      refine run0p ?_
      refine ⟨rfl, imp_id ?_ True.intro⟩
      exact alle rfl (Le.id rfl) True.intro (alle rfl (Le.id rfl) True.intro (alle rfl (Le.id (by rw [if_neg h])) True.intro True.intro))
  have hc'l : ∀ _ : Unit, (if cut.tmod 3 = 1 then c.take (wthn (cut.tdiv 3) ((c.length : Nat) + 1)).toNat else c).length ≤ 30000 := fun _ => by
    have := hll ()
    split
    · rw [List.length_take]; omega
    · exact this
  have hc'b : By (if cut.tmod 3 = 1 then c.take (wthn (cut.tdiv 3) ((c.length : Nat) + 1)).toNat else c) := by
    split
    · exact hbc.take _
    · exact hbc
  generalize (if cut.tmod 3 = 1 then c.take (wthn (cut.tdiv 3) ((c.length : Nat) + 1)).toNat else c) = c' at *
  clear hcl hi0 hbc hlc hll
  generalize hD : encD g = D at *
  refine run3 ?_
  refine st_ev rfl True.intro ?_
  refine st_litbb 70 rfl rfl (Nat.zero_le _) rfl rfl rfl rfl ?_
  refine st_ev rfl True.intro ?_
  refine st_appbb 71 rfl rfl rfl rfl rfl rfl rfl (by rw [List.length_nil]; have := hl (); omega) ?_
  rw [List.nil_append]
  refine st_ev rfl True.intro ?_
  refine st_apppub 72 rfl rfl rfl rfl rfl rfl rfl (by have := hl (); have := hraw (); omega) ?_
  refine st_ev rfl True.intro ?_
  refine st_litbb 73 rfl rfl (Nat.zero_le _) rfl rfl rfl rfl ?_
  refine st_ev rfl True.intro ?_
  refine st_ev2 rfl ⟨fun _ => rfl, Int.le_refl 0, by decide, by show (3 : Int) ≤ (D.length : Int); omega, Int.le_refl _⟩ ?_
  have hl4 : ∀ _ : Unit, ((D.take (3 : Int).toNat).drop (0 : Int).toNat).length ≤ 3 := fun _ => by
    rw [List.length_drop, List.length_take]
    show min 3 D.length - 0 ≤ 3
    omega
  refine st_appbb 74 rfl rfl rfl rfl rfl rfl rfl (by rw [List.length_nil]; have := hl4 (); omega) ?_
  rw [List.nil_append]
  refine st_ev rfl True.intro ?_
  refine st_apppub 75 rfl rfl rfl rfl rfl rfl rfl (by have := hl4 (); have := hraw (); omega) ?_
  generalize hT : (D.take (3 : Int).toNat).drop (0 : Int).toNat = T at *
  refine run4p ?_
  have hL : ∃ L : Nat → List Int, ∀ i, i < 4 → [AV.seq .u8 c', .seq .u8 (D ++ raw), .seq .u8 raw, .seq .u8 (T ++ raw)].getD i (.v undef) = .seq .u8 (L i) ∧ By (L i) ∧ ∀ _ : Unit, (L i).length ≤ 31000 := by
    refine ⟨fun i => [c', D ++ raw, raw, T ++ raw].getD i [], fun i hi => ?_⟩
    have hTb : By T := by rw [← hT]; exact (hbg.take _).drop _
    match i, hi with
    | 0, _ => exact ⟨rfl, hc'b, fun _ => by have := hc'l (); show c'.length ≤ 31000; omega⟩
    | 1, _ => exact ⟨rfl, hbg.app hr, fun _ => by have := hl (); have := hraw (); show (D ++ raw).length ≤ 31000; rw [List.length_append]; omega⟩
    | 2, _ => exact ⟨rfl, hr, fun _ => by have := hraw (); show raw.length ≤ 31000; omega⟩
    | 3, _ => exact ⟨rfl, hTb.app hr, fun _ => by have := hl4 (); have := hraw (); show (T ++ raw).length ≤ 31000; rw [List.length_append]; omega⟩
  obtain ⟨L, hL⟩ := hL
  refine run0p ?_
  refine awp_loop (fun m' s => ∃ i, i ≤ 4 ∧ m' = 4 - i ∧ s = stl [(18, .arr 4 1 (fun i => .seq .u8 (L i))), (19, .i (i : Int))] []) 4 _ (imp_id ?_ ?_) ⟨0, Nat.zero_le _, rfl, rfl⟩ ?_
  rotate_left 1
  · exact True.intro
  rotate_left 1
  · exact alle rfl (Le.arr fun i hi => Le.id (hL i (by omega)).1) (fun i hi => True.intro) (alle rfl (Le.id rfl) True.intro True.intro)
  clear hc'l hc'b hl hbg hl4 hraw
  rintro m' s ⟨i, hi, rfl, rfl⟩
  by_cases h1 : i < 4
  · have d1 : decide ((i : Int) < 4) = true := decide_eq_true (by omega)
    obtain ⟨_, hb, hll⟩ := hL i h1
    obtain ⟨gg, t, p1, p2⟩ := k_any hb (by have := hll (); omega)
    have c5 := r5_sameb t
    rw [sameB_self] at c5
    have c6 : ∀ {u u' : Nat → AV}, (∀ i, i < 7 → u i = gg.f i) → (∀ i, i < 7 → u' i = gg.f i) → Has Try.prog 16 [.ag 7 u, .ag 7 u'] (.b true) := fun h1 h2 => c5.args fun S B β w vs hv => rvs_cons (rv_ag h1) (fun us h => rvs_cons (rv_ag h2) rvs_same h) hv
    have rr : (decide (psE (L i) ≠ psE (L i))) = false := by simp
    have rr2 : (decide (psE (L i) ≠ psE (L i)) == false) = true := by rw [rr]; rfl
    refine run0p ?_
    refine awp_yes rfl d1 ?_
    refine run3 ?_
    refine st_litbb 76 rfl rfl (Nat.zero_le _) rfl rfl rfl rfl ?_
    refine st_ev rfl True.intro ?_
    refine st_ev rfl True.intro ?_
    refine st_ev2 rfl ?_ ?_
    · exact ⟨by show (0 : Int) ≤ i; omega, by show (i : Int) < 4; omega⟩
    refine st_ev rfl (by first | exact True.intro | exact rfl | exact ⟨rfl, rfl⟩ | trace_state) ?_
    refine st_apppub 77 rfl rfl rfl rfl rfl rfl rfl (by have := hll (); show 0 + (L (i : Int).toNat).length ≤ _; rw [Int.toNat_natCast]; omega) ?_
    rw [show [] ++ L (i : Int).toNat = L i by rw [List.nil_append, Int.toNat_natCast]]
    repeat(first|refine run1p ?_|((with_reducible apply st_call);exact rfl;exact rfl;exact rfl;first|(exact p1)|(exact p2)|(exact c6 (g7 rfl rfl rfl rfl rfl rfl rfl) (g7 rfl rfl rfl rfl rfl rfl rfl)))|((with_reducible apply st_callg);exact rfl;exact rfl;(first|exact rfl|assumption);exact rfl;exact rfl;exact rfl;first|(exact p1)|(exact p2)|(exact c6 (g7 rfl rfl rfl rfl rfl rfl rfl) (g7 rfl rfl rfl rfl rfl rfl rfl))))
    refine awp_no rfl rfl ?_
    refine run0p ?_
    refine q_loop (m' := 4 - (i + 1)) (by omega) ?_ ⟨i + 1, by omega, rfl, rfl⟩
    refine imp_id ?_ ?_
    · exact alle rfl (Le.id rfl) (fun i hi => True.intro) (alle rfl (Le.id rfl) True.intro True.intro)
    · exact True.intro
  · have d1 : decide ((i : Int) < 4) = false := decide_eq_false (by omega)
    refine run0p ?_
    refine awp_no rfl d1 ?_
    refine run0p ?_
    exact ⟨.inr rfl, _, Imp.refl _, .one (.tmp rfl)⟩
end Go.Proofs.Ytpclkgjhfhhddaa.AM

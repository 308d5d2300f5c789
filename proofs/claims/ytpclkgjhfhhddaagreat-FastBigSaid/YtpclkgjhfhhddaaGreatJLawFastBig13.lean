/- Joined texts, 13: SRatB SRatC SRatD SRatE SRatF SRatG AmP LDet. -/
import Derived.Test.YtpclkgjhfhhddaaGreatJLawFastBig12
import Derived.Test.YtpclkgjhfhhddaaGreatJLawFastBig11
import Derived.Test.YtpclkgjhfhhddaaGreatJLawFastBig3
set_option linter.unusedVariables false
set_option linter.unusedSimpArgs false
/- The document's rational numbers: walks: Make. -/
namespace Go.Proofs.YtpclkgjhfhhddaaGreat.V
open Go Go.RowKit Go.Proofs.YtpclkgjhfhhddaaGreat.PN
set_option linter.unusedVariables false
set_option linter.unusedSimpArgs false
set_option maxRecDepth 100000 in
set_option maxHeartbeats 4000000 in
theorem s_make {w : World} {neg : Bool} {vn vd : Value} {n d : Nat} [hn : NatAt w vn n] [hd : NatAt w vd d] (hs : size n ≤ 32000) (hs' : size d ≤ 32000) (hd0 : d ≠ 0) :
    Calls Tryz.prog 21 #[.bool neg, vn, vd] w (MadeRatE w (mk neg n d) 0) := by
  obtain ⟨i0, hi, hz0, hz1, hz2⟩ := info_parts info_u32
  obtain ⟨An, cn, rfl, hcn, han⟩ := hn.at
  obtain ⟨Ad, cd, rfl, hcd, had⟩ := hd.at
  have HN := Lib.hid (NatS.lift hn.out); have HD := Lib.hid (NatS.lift hd.out); have HAn := Lib.hid han
  clear han had hn hd
  have hz : ((size d : Int) == 0) = false := by
    have := size_pos (s := d) (by omega)
    simp; omega
  have b3 : size 1 ≤ 4398046511103 := by decide
  rcases Nat.eq_zero_or_pos n with h | h
  · subst h
    have hz' : ((size 0 : Int) == 0) = true := by rw [size_zero]; rfl
    rw [mk_zero]
    go_enter Tryz.func21, Tryz.ntmps21
    go_wp2_with (go_at_call 36; refine (s_zero _).mono ?_; rintro e w1 ⟨s1, vn1, vd1, rfl, hq1, hk1⟩; obtain ⟨An1, cn1, rfl, _, _⟩ := hq1.2.1.at; obtain ⟨Ad1, cd1, rfl, _, _⟩ := hq1.2.2.at; have HQ1 := Lib.hid hq1; have HK1 := Lib.hid hk1; obtain ⟨hc1, hf1⟩ := bcell hk1; clear hq1 hk1)
    exact ret_rat2 rfl rfl rfl rfl (HK1.out.row (row_new w _ _)) (Nat.le_refl _) ((Kept.alloc w _).then HK1.out) HQ1.out
  have hz' : ((size n : Int) == 0) = false := by
    have := size_pos (s := n) (by omega)
    simp; omega
  by_cases hd1 : d = 1
  · subst hd1
    have hc1 : (cmpI 1 1 == 0) = true := by decide
    have hq : nm (mk neg n 1) = n := by rw [mk_num neg (by decide), Nat.gcd_one_right, Nat.div_one]
    have hq2 : (mk neg n 1).den = 1 := by rw [mk_den neg (by decide), Nat.gcd_one_right, Nat.div_one]
    have hq3 : ng (mk neg n 1) = neg := mk_ng neg (by omega) (by decide)
    have Q1 := Lib.hid hq; have Q2 := Lib.hid hq2; have Q3 := Lib.hid hq3
    have hn0 : 0 < size n := size_pos (by omega)
    obtain ⟨b0, o0, rfl, _⟩ := HAn.out 0 hn0
    clear hq hq2 hq3
    have b4 : ((size 1 : Int) == 0) = false := by decide
    go_enter Tryz.func21, Tryz.ntmps21
    have iN := HN.out; have iD := HD.out
    go_wp2_with (first
      | (at_builtin; (refine wpList_append_own _ rfl (.tmp 28) (.tmp 29) 22 rfl w2.heap.size U32 i0 (.int .u32 0) 1 4 Tryz.underlying22 hi hz0 hz1 hz2 rfl (by decide) _ 0 [] rfl (World.ownsRow_made w2 #[] 0 (Nat.le_refl _) (by decide) rfl) ⟨b0, o0, none⟩ (size n) cn (lim n (size n)) rfl (by rw [lim_length, Nat.mul_one]) (At.cells (HAn.out.kept (Kept.then (Kept.alloc w _) (Kept.then HK1.out (Kept.then HK2.out (Kept.alloc _ _)))))) (lim_one n (size n)) (by unfold maxLen; omega) (by omega) (Nat.le_of_lt (by simp)) ?_); (intro v3 w3 ho3 hg3 _; have hv3 := Dg.of_own (s := n) (n := size n) ho3 (by omega) rfl; have HK3 : Hid (Kept w2 w3) := (Kept.alloc w2 _).grown hg3 (fun k hk => by simp [Value.ownBlock, Act.eval] at hk; omega); obtain ⟨A3, c3, rfl, _, _⟩ := hv3.at; have HV3 := Lib.hid hv3.any; clear ho3 hg3 hv3))
      | (go_at_call 37; have hx9 := HK3; refine Calls.mono (s_one _) ?_; rintro e w4 ⟨v4, rfl, hv4, hk4⟩; obtain ⟨A4, c4, rfl, _, _⟩ := hv4.at; have HV4 := Lib.hid hv4.any; have hr4 := Kept.row hk4 (Kept.row HK3.out (Kept.row HK2.out (Kept.row HK1.out (row_new w _ _)))); obtain ⟨d0, d1, d2, e0, e1, e2⟩ := three hr4; have HR4 := Lib.hid hr4; have HK4 := Lib.hid hk4; clear hv4 hk4 hr4)
      | (go_at_call 31; refine Calls.mono (r_cmp_v (a := 1) (b := 1) b3 b3) ?_; rintro e w2 ⟨rfl, hk2⟩; have HK2 := Lib.hid hk2; clear hk2)
      | (go_at_call 37; refine Calls.mono (s_one _) ?_; rintro e w1 ⟨v1, rfl, hv1, hk1⟩; obtain ⟨A1, c1, rfl, _, _⟩ := hv1.at; have i1 := NatS.lift hv1; have u1 := Kept.chain hk1; have HV1 := Lib.hid hv1; have HK1 := Lib.hid hk1; clear hv1 hk1))
    refine ret_rat2 rfl rfl rfl rfl HR4.out (Nat.le_refl _) (Kept.then (Kept.alloc w _) (Kept.then HK1.out (Kept.then HK2.out (Kept.then HK3.out HK4.out)))) ⟨Q3.out.symm, ?_, ?_⟩
    · unfold NatS; rw [Q1.out]; exact Dg.up HV3.out (Up.of_kept HK4.out)
    · unfold NatS; rw [Q2.out]; exact HV4.out
  · have hcd1 : (cmpI d 1 == 0) = false := by
      have h1 := @cmp_zero d 1
      simp only [beq_eq_false_iff_ne, ne_eq]
      intro h2; exact hd1 (h1.1 h2)
    have hgs : size (Nat.gcd n d) ≤ 32000 := Nat.le_trans (size_le_of_le (Nat.gcd_le_left d h)) hs
    have hg0 : Nat.gcd n d ≠ 0 := Nat.ne_of_gt (Nat.gcd_pos_of_pos_left d h)
    have Q1 := Lib.hid (mk_num (n := n) neg hd0); have Q2 := Lib.hid (mk_den (n := n) neg hd0); have Q3 := Lib.hid (mk_ng (n := n) neg (Nat.ne_of_gt h) hd0)
    go_enter Tryz.func21, Tryz.ntmps21
    have iN := HN.out; have iD := HD.out
    go_wp2_with (first
      | (go_at_call 31; refine Calls.mono (r_cmp_v (a := d) (b := 1) (by omega) b3) ?_; rintro e w2 ⟨rfl, hk2⟩; have u2 := Kept.chain hk2; have HK2 := Lib.hid hk2; clear hk2)
      | (go_at_call 37; refine Calls.mono (s_one _) ?_; rintro e w1 ⟨v1, rfl, hv1, hk1⟩; have i1 := NatS.lift hv1; have u1 := Kept.chain hk1; have HK1 := Lib.hid hk1; clear hv1 hk1)
      | (go_at_call 38; refine Calls.mono (r_gcd (a := n) (b := d) hs hs') ?_; rintro e w3 ⟨v3, rfl, hv3, hk3⟩; have i3 := NatS.lift hv3; have u3 := Kept.chain hk3; have HK3 := Lib.hid hk3; clear hv3 hk3)
      | (go_at_call 39; refine Calls.mono (r_div (a := n) (b := Nat.gcd n d) hs hgs hg0) ?_; rintro e w4 ⟨vq4, vr4, rfl, hq4, hr4, hk4⟩; obtain ⟨A4, c4, rfl, _, _⟩ := hq4.at; obtain ⟨B4, b4, rfl, _, _⟩ := hr4.at; have u4 := Kept.chain hk4; have HV4 := Lib.hid hq4; have HK4 := Lib.hid hk4; clear hq4 hr4 hk4)
      | (go_at_call 39; refine Calls.mono (r_div (a := d) (b := Nat.gcd n d) hs' hgs hg0) ?_; rintro e w5 ⟨vq5, vr5, rfl, hq5, hr5, hk5⟩; obtain ⟨A5, c5, rfl, _, _⟩ := hq5.at; obtain ⟨B5, b5, rfl, _, _⟩ := hr5.at; have HV5 := Lib.hid hq5; have hr9 := Kept.row hk5 (Kept.row HK4.out (Kept.row HK3.out (Kept.row HK2.out (Kept.row HK1.out (row_new w _ _))))); obtain ⟨d0, d1, d2, e0, e1, e2⟩ := three hr9; have HR9 := Lib.hid hr9; have HK5 := Lib.hid hk5; clear hq5 hr5 hk5 hr9))
    refine ret_rat2 rfl rfl rfl rfl HR9.out (Nat.le_refl _) (Kept.then (Kept.alloc w _) (Kept.then HK1.out (Kept.then HK2.out (Kept.then HK3.out (Kept.then HK4.out HK5.out))))) ⟨Q3.out.symm, ?_, ?_⟩
    · unfold NatS; rw [Q1.out]; exact Dg.up HV4.out (Up.of_kept HK5.out)
    · unfold NatS; rw [Q2.out]; exact HV5.out
end Go.Proofs.YtpclkgjhfhhddaaGreat.V
/- The document's rational numbers: walks: Of, Int, made. -/
namespace Go.Proofs.YtpclkgjhfhhddaaGreat.V
open Go Go.RowKit Go.Proofs.YtpclkgjhfhhddaaGreat.PN
set_option linter.unusedVariables false
set_option linter.unusedSimpArgs false
theorem size_u64 {x : Nat} (h : x < 18446744073709551616) : size x ≤ 2 := (lt_iff x 2).1 (by simpa only [B] using h)
theorem ret_rat_a {fn : Func} {p : Tmp} {a : Act} {w w1 : World} {g : Nat} {x y z : Value} {s : Bool} {vn vd : Value} {q : Rat} {o : Obj} (h : fn.results = #[.cell p RT]) (hp : a.tmps.getD p undef = .pointer (some ⟨g, 0, none⟩)) (hd : a.defers = [])
    (r : Row? w1 g #[x, y, z] RT) (hg : w.heap.size ≤ g) (hk : Kept w w1) (hq : RatS w1 (fun _ => True) s vn vd q) : bodyPost Tryz.prog fn (MadeRat w q) .ret a ((set3 w1 g s vn vd).alloc o) :=
  ret_box h hp ((Kept.alloc _ o).row (row_set3 r s vn vd)) hd ⟨s, vn, vd, rfl, (hq.up (up_set3 (Up.refl w1) r s vn vd)).up (Up.of_kept (Kept.alloc _ o)), Kept.then (kept_set3 hk hg s vn vd) (Kept.alloc _ o)⟩
set_option maxHeartbeats 2000000 in
theorem s_made {w : World} {neg : Bool} {vn vd : Value} {n d : Nat} [hn : NatAt w vn n] [hd : NatAt w vd d] (hs : size n ≤ 32000) (hs' : size d ≤ 32000) (hd0 : d ≠ 0) :
    Calls Tryz.prog 33 #[.bool neg, vn, vd] w (MadeRat w (mk neg n d)) := by
  have HN := Lib.hid (NatS.lift hn.out); have HD := Lib.hid (NatS.lift hd.out)
  clear hn hd
  go_enter Tryz.func33, Tryz.ntmps33
  have iN := HN.out; have iD := HD.out
  go_wp2_with (go_at_call 21; refine Calls.mono (s_make (n := n) (d := d) hs hs' hd0) ?_; rintro e w1 ⟨s1, vn1, vd1, rfl, hq1, hk1⟩; obtain ⟨An1, cn1, rfl, _, _⟩ := hq1.2.1.at; obtain ⟨Ad1, cd1, rfl, _, _⟩ := hq1.2.2.at; have hr1 := Kept.row hk1 (row_new w _ _); obtain ⟨d0, d1, d2, e0, e1, e2⟩ := three hr1; have z1 := Row?.lt hr1; have HR1 := Lib.hid hr1; have HQ1 := Lib.hid hq1; have HK1 := Lib.hid hk1; clear hq1 hk1 hr1)
  exact ret_rat_a rfl rfl rfl HR1.out (Nat.le_refl _) (Kept.then (Kept.alloc w _) HK1.out) HQ1.out
set_option maxHeartbeats 2000000 in
theorem s_of (n d : Int) (w : World) (h1 : -9223372036854775808 ≤ n) (h2 : n < 9223372036854775808) (h3 : -9223372036854775808 ≤ d) (h4 : d < 9223372036854775808) (hd : d ≠ 0) :
    Calls Tryz.prog 29 #[.int .i64 n, .int .i64 d] w (MadeRatE w (mk (decide (n < 0) != decide (d < 0)) n.natAbs d.natAbs) 0) := by
  have hx : n.natAbs < 18446744073709551616 := by omega
  have hy : d.natAbs < 18446744073709551616 := by omega
  have z1 := size_u64 hx; have z2 := size_u64 hy
  have hy0 : d.natAbs ≠ 0 := by omega
  have C1 := Lib.hid (fun w1 => s_size n w1 h1 h2); have C2 := Lib.hid (fun w1 => s_size d w1 h3 h4)
  rw [bne_flip]
  generalize n.natAbs = x at *
  generalize d.natAbs = y at *
  obtain ⟨b1, hb1⟩ : ∃ b, decide (n < 0) = b := ⟨_, rfl⟩
  obtain ⟨b2, hb2⟩ : ∃ b, decide (d < 0) = b := ⟨_, rfl⟩
  rw [hb1, hb2]
  clear h1 h2 h3 h4 hd
  go_enter Tryz.func29, Tryz.ntmps29
  go_wp2_with (first
    | (go_at_call 50; first | ((with_reducible refine (C1.out _).mono ?_); rintro e w1 ⟨rfl, rfl⟩) | ((with_reducible refine (C2.out _).mono ?_); rintro e w1 ⟨rfl, rfl⟩))
    | (go_at_call 49; first | ((with_reducible refine (r_of x _ hx).mono ?_); rintro e w2 ⟨v2, rfl, hv2, hk2⟩; have i2 := NatS.lift hv2; have u2 := Kept.chain hk2; have HK2 := Lib.hid hk2; clear hv2 hk2) | ((with_reducible refine (r_of y _ hy).mono ?_); rintro e w3 ⟨v3, rfl, hv3, hk3⟩; have i3 := NatS.lift hv3; have u3 := Kept.chain hk3; have HK3 := Lib.hid hk3; clear hv3 hk3))
    | (go_at_call 21; refine Calls.mono (s_make (n := x) (d := y) (by omega) (by omega) hy0) ?_; rintro e w4 ⟨s4, vn4, vd4, rfl, hq4, hk4⟩; obtain ⟨An4, cn4, rfl, _, _⟩ := hq4.2.1.at; obtain ⟨Ad4, cd4, rfl, _, _⟩ := hq4.2.2.at; have hr4 := Kept.row hk4 (Kept.row HK3.out (Kept.row HK2.out (row_new w _ _))); obtain ⟨d0, d1, d2, e0, e1, e2⟩ := three hr4; have HR4 := Lib.hid hr4; have HQ4 := Lib.hid hq4; have HK4 := Lib.hid hk4; clear hq4 hk4 hr4))
  exact ret_rat2 rfl rfl rfl rfl HR4.out (Nat.le_refl _) (Kept.then (Kept.alloc w _) (Kept.then HK2.out (Kept.then HK3.out HK4.out))) HQ4.out
theorem mk_int (n : Int) : mk (decide (n < 0) != decide ((1 : Int) < 0)) n.natAbs (1 : Int).natAbs = (n : Rat) := by
  have h : (decide (n < 0) != decide ((1 : Int) < 0)) = decide (n < 0) := by simp
  rw [h]
  unfold mk sg
  by_cases h0 : n < 0
  · rw [if_pos (by simpa using h0), show -(n.natAbs : Int) = n by omega]
    simp [Rat.mkRat_one]
  · rw [if_neg (by simpa using h0), show (n.natAbs : Int) = n by omega]
    simp [Rat.mkRat_one]
set_option maxHeartbeats 2000000 in
theorem s_int (n : Int) (w : World) (h1 : -9223372036854775808 ≤ n) (h2 : n < 9223372036854775808) :
    Calls Tryz.prog 13 #[.int .i64 n] w (MadeRat w (n : Rat)) := by
  have C1 := Lib.hid (fun w1 => s_of n 1 w1 h1 h2 (by decide) (by decide) (by decide))
  rw [mk_int] at C1
  clear h1 h2
  generalize (n : Rat) = q at *
  go_enter Tryz.func13, Tryz.ntmps13
  go_wp2_with (go_at_call 29; refine (C1.out _).mono ?_; rintro e w1 ⟨s1, vn1, vd1, rfl, hq1, hk1⟩; obtain ⟨An1, cn1, rfl, _, _⟩ := hq1.2.1.at; obtain ⟨Ad1, cd1, rfl, _, _⟩ := hq1.2.2.at; have hr1 := Kept.row hk1 (row_new w _ _); obtain ⟨d0, d1, d2, e0, e1, e2⟩ := three hr1; have z1 := Row?.lt hr1; have HR1 := Lib.hid hr1; have HQ1 := Lib.hid hq1; have HK1 := Lib.hid hk1; clear hq1 hk1 hr1)
  exact ret_rat_a rfl rfl rfl HR1.out (Nat.le_refl _) (Kept.then (Kept.alloc w _) HK1.out) HQ1.out
end Go.Proofs.YtpclkgjhfhhddaaGreat.V
/- The document's rational numbers: walks: products, nought. -/
namespace Go.Proofs.YtpclkgjhfhhddaaGreat.V
open Go Go.RowKit Go.Proofs.YtpclkgjhfhhddaaGreat.PN
set_option linter.unusedVariables false
set_option linter.unusedSimpArgs false
set_option maxHeartbeats 2000000 in
theorem s_mul {w : World} {s s' : Bool} {vn vd vn' vd' : Value} {p q : Rat} [hp : RatAt w s vn vd p] [hq : RatAt w s' vn' vd' q] (hs : wt p ≤ 15000) (hs' : wt q ≤ 15000) :
    Calls Tryz.prog 47 #[.agg #[.bool s, vn, vd], .agg #[.bool s', vn', vd']] w (MadeRat w (p * q)) := by
  obtain ⟨rfl, hn, hd⟩ := hp.out
  obtain ⟨rfl, hn', hd'⟩ := hq.out
  obtain ⟨An, cn, rfl, _, _⟩ := hn.at
  obtain ⟨Ad, cd, rfl, _, _⟩ := hd.at
  obtain ⟨An', cn', rfl, _, _⟩ := hn'.at
  obtain ⟨Ad', cd', rfl, _, _⟩ := hd'.at
  have HN := Lib.hid (NatS.lift hn); have HD := Lib.hid (NatS.lift hd); have HN' := Lib.hid (NatS.lift hn'); have HD' := Lib.hid (NatS.lift hd')
  clear hn hd hn' hd' hp hq
  have b1 := wt_num p; have b2 := wt_den p; have b3 := wt_num q; have b4 := wt_den q
  have b5 := size_mul (nm p) (nm q); have b6 := size_mul p.den q.den
  rw [mul_parts, bne_flip]
  go_enter Tryz.func47, Tryz.ntmps47
  have iN := HN.out; have iD := HD.out; have iN' := HN'.out; have iD' := HD'.out
  go_wp2
  go_region_held3 (fun w' => Kept w w' ∧ w'.cell? ⟨w.heap.size, 0, none⟩ = some (.bool (ng p)) ∧ w'.cell? ⟨w.heap.size, 1, none⟩ = some (Value.slice An (size (nm p)) cn) ∧ w'.cell? ⟨w.heap.size, 2, none⟩ = some (Value.slice Ad (size p.den) cd) ∧ w'.cell? ⟨w.heap.size + 1, 0, none⟩ = some (.bool (ng q)) ∧ w'.cell? ⟨w.heap.size + 1, 1, none⟩ = some (Value.slice An' (size (nm q)) cn') ∧ w'.cell? ⟨w.heap.size + 1, 2, none⟩ = some (Value.slice Ad' (size q.den) cd'))
    (first | exact two_step (by assumption) (by assumption) | exact two_set (by assumption) (by omega) (by omega) (by omega) | (refine ⟨Kept.three _ _ _ _, ?_⟩; simp [go_sem, World.cell?_alloc_past]))
    (first
      | (go_at_call 32; first | (refine Calls.mono (r_mul_v (a := nm p) (b := nm q) (by omega) (by omega)) ?_; rintro e w1 ⟨v1, rfl, hv1, hk1⟩; have i1 := NatS.lift hv1; have u1 := Kept.chain hk1) | (refine Calls.mono (r_mul_v (a := p.den) (b := q.den) (by omega) (by omega)) ?_; rintro e w2 ⟨v2, rfl, hv2, hk2⟩; have i2 := NatS.lift hv2; have u2 := Kept.chain hk2))
      | (go_at_call 33; refine Calls.mono (s_made (n := nm p * nm q) (d := p.den * q.den) (by omega) (by omega) (Nat.mul_ne_zero p.den_nz q.den_nz)) ?_; rintro e w3 ⟨s3, vn3, vd3, rfl, hq3, hk3⟩; obtain ⟨An3, cn3, rfl, _, _⟩ := hq3.2.1.at; obtain ⟨Ad3, cd3, rfl, _, _⟩ := hq3.2.2.at; have hr3 := Kept.row hk3 (Kept.row hk2 (Kept.row hk1 (Kept.row (Kept.drew _) (row_newAt (g := w.heap.size + 1 + 1) _ _ _ (by simp))))); obtain ⟨c0, c1, c2, f0, f1, f2⟩ := three hr3))
  go_wp2
  exact ret_rat rfl rfl rfl hr3 (by omega) (Kept.then (Kept.three _ _ _ _) (Kept.then hk1 (Kept.then hk2 hk3))) hq3
end Go.Proofs.YtpclkgjhfhhddaaGreat.V
/- The document's rational numbers: walks: the same. -/
namespace Go.Proofs.YtpclkgjhfhhddaaGreat.V
open Go Go.RowKit Go.Proofs.YtpclkgjhfhhddaaGreat.PN
set_option linter.unusedVariables false
set_option linter.unusedSimpArgs false
set_option maxHeartbeats 2000000 in
theorem s_same {w : World} {s s' : Bool} {vn vd vn' vd' : Value} {p q : Rat} [hp : RatAt w s vn vd p] [hq : RatAt w s' vn' vd' q] (hs : wt p ≤ 1000000000000) (hs' : wt q ≤ 1000000000000) :
    Calls Tryz.prog 15 #[.agg #[.bool s, vn, vd], .agg #[.bool s', vn', vd']] w fun e w' => e = .returned (.bool (decide (p = q))) ∧ Kept w w' := by
  obtain ⟨rfl, hn, hd⟩ := hp.out
  obtain ⟨rfl, hn', hd'⟩ := hq.out
  obtain ⟨An, cn, rfl, _, _⟩ := hn.at
  obtain ⟨Ad, cd, rfl, _, _⟩ := hd.at
  obtain ⟨An', cn', rfl, _, _⟩ := hn'.at
  obtain ⟨Ad', cd', rfl, _, _⟩ := hd'.at
  have HN := Lib.hid (NatS.lift hn); have HD := Lib.hid (NatS.lift hd); have HN' := Lib.hid (NatS.lift hn'); have HD' := Lib.hid (NatS.lift hd')
  clear hn hd hn' hd' hp hq
  have b1 := wt_num p; have b2 := wt_den p; have b3 := wt_num q; have b4 := wt_den q
  have hcz : ∀ x y : Nat, (cmpI x y == 0) = decide (x = y) := fun x y => by
    by_cases h : x = y
    · subst h; rw [cmp_eq]; simp
    · rw [decide_eq_false h]
      simp only [beq_eq_false_iff_ne, ne_eq]
      intro h2; exact h (cmp_zero.1 h2)
  by_cases g1 : ng p = ng q
  · have e1 : (ng p == ng q) = true := by rw [g1]; simp
    by_cases g2 : nm p = nm q
    · have e2 : (cmpI (nm p) (nm q) == 0) = true := by rw [hcz]; exact decide_eq_true g2
      have e3 : (cmpI p.den q.den == 0) = decide (p = q) := by
        rw [hcz]
        by_cases g3 : p.den = q.den
        · rw [decide_eq_true g3, decide_eq_true (rat_ext g1 g2 g3)]
        · rw [decide_eq_false g3, decide_eq_false (fun h => g3 (by rw [h]))]
      generalize decide (p = q) = bb at *
      clear g1 g2 hcz
      go_enter Tryz.func15, Tryz.ntmps15
      have iN := HN.out; have iD := HD.out; have iN' := HN'.out; have iD' := HD'.out
      go_wp2_with (go_at_call 31; first | (refine Calls.mono (r_cmp_v (a := nm p) (b := nm q) (by omega) (by omega)) ?_; rintro e w1 ⟨rfl, hk1⟩; have u1 := Kept.chain hk1; have h1 := Kept.row hk1 (Kept.row (Kept.alloc _ _) (row_new w _ _)); have h2 := Kept.row hk1 (row_newAt (g := w.heap.size + 1) _ _ _ (by simp)); obtain ⟨c0, c1, c2, _, _, _⟩ := three h1; obtain ⟨d0, d1, d2, _, _, _⟩ := three h2; have HK1 := Lib.hid hk1; clear hk1 h1 h2) | (refine Calls.mono (r_cmp_v (a := p.den) (b := q.den) (by omega) (by omega)) ?_; rintro e w2 ⟨rfl, hk2⟩; have HK2 := Lib.hid hk2; clear hk2))
      go_ret
      exact ⟨rfl, Kept.then (Kept.then (Kept.alloc _ _) (Kept.alloc _ _)) (Kept.then HK1.out HK2.out)⟩
    · have e2 : (cmpI (nm p) (nm q) == 0) = false := by rw [hcz]; exact decide_eq_false g2
      rw [decide_eq_false (fun h : p = q => g2 (by rw [h]))]
      clear g1 g2 hcz
      go_enter Tryz.func15, Tryz.ntmps15
      have iN := HN.out; have iD := HD.out; have iN' := HN'.out; have iD' := HD'.out
      go_wp2_with (go_at_call 31; (refine Calls.mono (r_cmp_v (a := nm p) (b := nm q) (by omega) (by omega)) ?_; rintro e w1 ⟨rfl, hk1⟩; have HK1 := Lib.hid hk1; clear hk1))
      go_ret
      exact ⟨rfl, Kept.then (Kept.then (Kept.alloc _ _) (Kept.alloc _ _)) HK1.out⟩
  · have e1 : (ng p == ng q) = false := by simpa using g1
    rw [decide_eq_false (fun h : p = q => g1 (by rw [h]))]
    clear g1 hcz
    go_enter Tryz.func15, Tryz.ntmps15
    go_wp2
    go_ret
    exact ⟨rfl, Kept.then (Kept.alloc _ _) (Kept.alloc _ _)⟩
end Go.Proofs.YtpclkgjhfhhddaaGreat.V
/- The document's rational numbers: walks: quotients. -/
namespace Go.Proofs.YtpclkgjhfhhddaaGreat.V
open Go Go.RowKit Go.Proofs.YtpclkgjhfhhddaaGreat.PN
set_option linter.unusedVariables false
set_option linter.unusedSimpArgs false
set_option maxHeartbeats 2000000 in
theorem s_quo {w : World} {s s' : Bool} {vn vd vn' vd' : Value} {p q : Rat} [hp : RatAt w s vn vd p] [hq : RatAt w s' vn' vd' q] (hs : wt p ≤ 15000) (hs' : wt q ≤ 15000) (h0 : q ≠ 0) :
    Calls Tryz.prog 97 #[.agg #[.bool s, vn, vd], .agg #[.bool s', vn', vd']] w (MadeRatE w (p / q) 0) := by
  obtain ⟨rfl, hn, hd⟩ := hp.out
  obtain ⟨rfl, hn', hd'⟩ := hq.out
  obtain ⟨An, cn, rfl, _, _⟩ := hn.at
  obtain ⟨Ad, cd, rfl, _, _⟩ := hd.at
  obtain ⟨An', cn', rfl, _, _⟩ := hn'.at
  obtain ⟨Ad', cd', rfl, _, _⟩ := hd'.at
  have HN := Lib.hid (NatS.lift hn); have HD := Lib.hid (NatS.lift hd); have HN' := Lib.hid (NatS.lift hn'); have HD' := Lib.hid (NatS.lift hd')
  clear hn hd hn' hd' hp hq
  have b1 := wt_num p; have b2 := wt_den p; have b3 := wt_num q; have b4 := wt_den q
  have b5 := size_mul (nm p) q.den; have b6 := size_mul p.den (nm q)
  have b7 : nm q ≠ 0 := fun h => h0 (nm_eq_zero.1 h)
  rw [div_parts _ _ h0, bne_flip]
  have hz : ((size (nm q) : Int) == 0) = false := by
    have := size_pos (s := nm q) b7
    simp; omega
  clear h0
  go_enter Tryz.func97, Tryz.ntmps97
  have iN := HN.out; have iD := HD.out; have iN' := HN'.out; have iD' := HD'.out
  go_wp2
  go_region_held3 (fun w' => Kept w w' ∧ w'.cell? ⟨w.heap.size, 0, none⟩ = some (.bool (ng p)) ∧ w'.cell? ⟨w.heap.size, 1, none⟩ = some (Value.slice An (size (nm p)) cn) ∧ w'.cell? ⟨w.heap.size, 2, none⟩ = some (Value.slice Ad (size p.den) cd) ∧ w'.cell? ⟨w.heap.size + 1, 0, none⟩ = some (.bool (ng q)) ∧ w'.cell? ⟨w.heap.size + 1, 1, none⟩ = some (Value.slice An' (size (nm q)) cn') ∧ w'.cell? ⟨w.heap.size + 1, 2, none⟩ = some (Value.slice Ad' (size q.den) cd'))
    (first | exact two_step (by assumption) (by assumption) | exact two_set (by assumption) (by omega) (by omega) (by omega) | assumption | (refine ⟨Kept.three _ _ _ _, ?_⟩; simp [go_sem, World.cell?_alloc_past]))
    (first
      | (go_at_call 32; first | (refine Calls.mono (r_mul_v (a := nm p) (b := q.den) (by omega) (by omega)) ?_; rintro e w1 ⟨v1, rfl, hv1, hk1⟩; have i1 := NatS.lift hv1; have u1 := Kept.chain hk1) | (refine Calls.mono (r_mul_v (a := p.den) (b := nm q) (by omega) (by omega)) ?_; rintro e w2 ⟨v2, rfl, hv2, hk2⟩; have i2 := NatS.lift hv2; have u2 := Kept.chain hk2))
      | (go_at_call 33; refine Calls.mono (s_made (n := nm p * q.den) (d := p.den * nm q) (by omega) (by omega) (Nat.mul_ne_zero p.den_nz b7)) ?_; rintro e w3 ⟨s3, vn3, vd3, rfl, hq3, hk3⟩; obtain ⟨An3, cn3, rfl, _, _⟩ := hq3.2.1.at; obtain ⟨Ad3, cd3, rfl, _, _⟩ := hq3.2.2.at; have hr3 := Kept.row hk3 (Kept.row hk2 (Kept.row hk1 (Kept.row (Kept.drew _) (row_newAt (g := w.heap.size + 1 + 1) _ _ _ (by simp))))); obtain ⟨c0, c1, c2, f0, f1, f2⟩ := three hr3))
  all_goals go_wp2
  all_goals exact ret_rat2 rfl rfl rfl rfl hr3 (by omega) (Kept.then (Kept.three _ _ _ _) (Kept.then hk1 (Kept.then hk2 hk3))) hq3
set_option maxHeartbeats 2000000 in
theorem s_over {w : World} {s s' : Bool} {vn vd vn' vd' : Value} {p q : Rat} [hp : RatAt w s vn vd p] [hq : RatAt w s' vn' vd' q] (hs : wt p ≤ 15000) (hs' : wt q ≤ 15000) (h0 : q ≠ 0) :
    Calls Tryz.prog 80 #[.agg #[.bool s, vn, vd], .agg #[.bool s', vn', vd']] w (MadeRat w (p / q)) := by
  obtain ⟨rfl, hn, hd⟩ := hp.out
  obtain ⟨rfl, hn', hd'⟩ := hq.out
  obtain ⟨An, cn, rfl, _, _⟩ := hn.at
  obtain ⟨Ad, cd, rfl, _, _⟩ := hd.at
  obtain ⟨An', cn', rfl, _, _⟩ := hn'.at
  obtain ⟨Ad', cd', rfl, _, _⟩ := hd'.at
  have HP := Lib.hid (RatS.at hp.out); have HQ := Lib.hid (RatS.at hq.out)
  clear hn hd hn' hd' hp hq
  have H0 := Lib.hid h0; clear h0
  go_enter Tryz.func80, Tryz.ntmps80
  have iP := HP.out; have iQ := HQ.out
  go_wp2_with (go_at_call 97; refine Calls.mono (s_quo (p := p) (q := q) hs hs' H0.out) ?_; rintro e w1 ⟨s1, vn1, vd1, rfl, hq1, hk1⟩; obtain ⟨An1, cn1, rfl, _, _⟩ := hq1.2.1.at; obtain ⟨Ad1, cd1, rfl, _, _⟩ := hq1.2.2.at; have hr1 := Kept.row hk1 (row_newAt (g := w.heap.size + 1 + 1) _ _ _ (by simp)); obtain ⟨d0, d1, d2, e0, e1, e2⟩ := three hr1; have z1 := Row?.lt hr1; have HR1 := Lib.hid hr1; have HQ1 := Lib.hid hq1; have HK1 := Lib.hid hk1; clear hq1 hk1 hr1)
  exact ret_rat_a rfl rfl rfl HR1.out (by omega) (Kept.then (Kept.then (Kept.alloc _ _) (Kept.alloc _ _)) (Kept.then (Kept.alloc _ _) HK1.out)) HQ1.out
end Go.Proofs.YtpclkgjhfhhddaaGreat.V
/- The document's rational numbers: walks: sums. -/
namespace Go.Proofs.YtpclkgjhfhhddaaGreat.V
open Go Go.RowKit Go.Proofs.YtpclkgjhfhhddaaGreat.PN
set_option linter.unusedVariables false
set_option linter.unusedSimpArgs false
set_option maxHeartbeats 4000000 in
theorem s_add {w : World} {s s' : Bool} {vn vd vn' vd' : Value} {p q : Rat} [hp : RatAt w s vn vd p] [hq : RatAt w s' vn' vd' q] (hs : wt p ≤ 15000) (hs' : wt q ≤ 15000) :
    Calls Tryz.prog 19 #[.agg #[.bool s, vn, vd], .agg #[.bool s', vn', vd']] w (MadeRat w (p + q)) := by
  obtain ⟨rfl, hn, hd⟩ := hp.out
  obtain ⟨rfl, hn', hd'⟩ := hq.out
  obtain ⟨An, cn, rfl, _, _⟩ := hn.at
  obtain ⟨Ad, cd, rfl, _, _⟩ := hd.at
  obtain ⟨An', cn', rfl, _, _⟩ := hn'.at
  obtain ⟨Ad', cd', rfl, _, _⟩ := hd'.at
  have HN := Lib.hid (NatS.lift hn); have HD := Lib.hid (NatS.lift hd); have HN' := Lib.hid (NatS.lift hn'); have HD' := Lib.hid (NatS.lift hd')
  clear hn hd hn' hd' hp hq
  have b1 := wt_num p; have b2 := wt_den p; have b3 := wt_num q; have b4 := wt_den q
  have b5 := size_mul (nm p) q.den; have b6 := size_mul (nm q) p.den; have b7 := size_mul p.den q.den
  have b8 := size_add (nm p * q.den) (nm q * p.den) 30000 (by omega) (by omega)
  have hz := Nat.mul_ne_zero p.den_nz q.den_nz
  have HZ := Lib.hid hz; clear hz
  by_cases hng : ng p = ng q
  · have hb : (ng p == ng q) = true := by rw [hng]; simp
    rw [add_parts_same _ _ hng]
    clear hng
    go_enter Tryz.func19, Tryz.ntmps19
    have iN := HN.out; have iD := HD.out; have iN' := HN'.out; have iD' := HD'.out
    go_wp2
    go_region_held3 (fun w' => Kept w w' ∧ w'.cell? ⟨w.heap.size, 0, none⟩ = some (.bool (ng p)) ∧ w'.cell? ⟨w.heap.size, 1, none⟩ = some (Value.slice An (size (nm p)) cn) ∧ w'.cell? ⟨w.heap.size, 2, none⟩ = some (Value.slice Ad (size p.den) cd) ∧ w'.cell? ⟨w.heap.size + 1, 0, none⟩ = some (.bool (ng q)) ∧ w'.cell? ⟨w.heap.size + 1, 1, none⟩ = some (Value.slice An' (size (nm q)) cn') ∧ w'.cell? ⟨w.heap.size + 1, 2, none⟩ = some (Value.slice Ad' (size q.den) cd'))
      (first | exact two_step (by assumption) (by assumption) | assumption | (refine ⟨Kept.three _ _ _ _, ?_⟩; simp [go_sem, World.cell?_alloc_past]))
      (first
        | (go_at_call 32; first | (refine Calls.mono (r_mul_v (a := nm p) (b := q.den) (by omega) (by omega)) ?_; rintro e w1 ⟨v1, rfl, hv1, hk1⟩; have i1 := NatS.lift hv1; have u1 := Kept.chain hk1) | (refine Calls.mono (r_mul_v (a := nm q) (b := p.den) (by omega) (by omega)) ?_; rintro e w2 ⟨v2, rfl, hv2, hk2⟩; have i2 := NatS.lift hv2; have u2 := Kept.chain hk2)))
    obtain ⟨hK, g0, g1, g2, g3, g4, g5⟩ := ‹Kept w w2 ∧ _›
    have hr := Kept.row hk2 (Kept.row hk1 (Kept.row (Kept.drew _) (row_newAt (g := w.heap.size + 1 + 1) _ _ _ (by simp))))
    have HR2 := Lib.hid hr; have HK2 := Lib.hid hK
    clear hk1 hk2 hv1 hv2 hr hK
    go_wp2_with (go_at_call 32; refine Calls.mono (r_mul_v (a := p.den) (b := q.den) (by omega) (by omega)) ?_; rintro e w3 ⟨v3, rfl, hv3, hk3⟩; have i3 := NatS.lift hv3; have u3 := Kept.chain hk3; have k0 := hk3.cell g0; have k3 := hk3.cell g3; have HR := Lib.hid (Kept.row hk3 HR2.out); have HK := Lib.hid (Kept.then HK2.out hk3); clear hv3 hk3)
    go_region_held3 (fun w' => Kept w w' ∧ w'.cell? ⟨w.heap.size, 0, none⟩ = some (.bool (ng p)))
      (first | exact one_step (by assumption) (by assumption) | exact one_set (by assumption) (by omega) (by omega) | assumption | exact ⟨Kept.then HK.out (Kept.drew _), k0⟩)
      (first
        | (go_at_call 34; refine Calls.mono (r_add_v (a := nm p * q.den) (b := nm q * p.den) (by omega) (by omega)) ?_; rintro e w4 ⟨v4, rfl, hv4, hk4⟩; have i4 := NatS.lift hv4; have u4 := Kept.chain hk4)
        | (go_at_call 33; refine Calls.mono (s_made (n := nm p * q.den + nm q * p.den) (d := p.den * q.den) (by omega) (by omega) HZ.out) ?_; rintro e w5 ⟨s5, vn5, vd5, rfl, hq5, hk5⟩; obtain ⟨An5, cn5, rfl, _, _⟩ := hq5.2.1.at; obtain ⟨Ad5, cd5, rfl, _, _⟩ := hq5.2.2.at; have hr5 := Kept.row hk5 (Kept.row hk4 (Kept.row (Kept.drew _) HR.out)); obtain ⟨c0, c1, c2, f0, f1, f2⟩ := three hr5))
    go_wp2
    exact ret_rat rfl rfl rfl hr5 (by omega) (Kept.then HK.out (Kept.then (Kept.drew _) (Kept.then hk4 hk5))) hq5
  · have hb : (ng p == ng q) = false := by simpa using hng
    rcases Nat.lt_or_ge (nm p * q.den) (nm q * p.den) with hlt | hge
    · rw [add_parts_lt _ _ hng (Nat.le_of_lt hlt)]
      have b9 := size_le_of_le (Nat.sub_le (nm q * p.den) (nm p * q.den))
      have hc : decide (cmpI (nm p * q.den) (nm q * p.den) < 0) = true := decide_eq_true (cmp_neg.2 hlt)
      have hle := Lib.hid hlt
      clear hng hlt
      go_enter Tryz.func19, Tryz.ntmps19
      have iN := HN.out; have iD := HD.out; have iN' := HN'.out; have iD' := HD'.out
      go_wp2
      go_region_held3 (fun w' => Kept w w' ∧ w'.cell? ⟨w.heap.size, 0, none⟩ = some (.bool (ng p)) ∧ w'.cell? ⟨w.heap.size, 1, none⟩ = some (Value.slice An (size (nm p)) cn) ∧ w'.cell? ⟨w.heap.size, 2, none⟩ = some (Value.slice Ad (size p.den) cd) ∧ w'.cell? ⟨w.heap.size + 1, 0, none⟩ = some (.bool (ng q)) ∧ w'.cell? ⟨w.heap.size + 1, 1, none⟩ = some (Value.slice An' (size (nm q)) cn') ∧ w'.cell? ⟨w.heap.size + 1, 2, none⟩ = some (Value.slice Ad' (size q.den) cd'))
        (first | exact two_step (by assumption) (by assumption) | assumption | (refine ⟨Kept.three _ _ _ _, ?_⟩; simp [go_sem, World.cell?_alloc_past]))
        (first
          | (go_at_call 32; first | (refine Calls.mono (r_mul_v (a := nm p) (b := q.den) (by omega) (by omega)) ?_; rintro e w1 ⟨v1, rfl, hv1, hk1⟩; have i1 := NatS.lift hv1; have u1 := Kept.chain hk1) | (refine Calls.mono (r_mul_v (a := nm q) (b := p.den) (by omega) (by omega)) ?_; rintro e w2 ⟨v2, rfl, hv2, hk2⟩; have i2 := NatS.lift hv2; have u2 := Kept.chain hk2)))
      obtain ⟨hK, g0, g1, g2, g3, g4, g5⟩ := ‹Kept w w2 ∧ _›
      have hr := Kept.row hk2 (Kept.row hk1 (Kept.row (Kept.drew _) (row_newAt (g := w.heap.size + 1 + 1) _ _ _ (by simp))))
      have HR2 := Lib.hid hr; have HK2 := Lib.hid hK
      clear hk1 hk2 hv1 hv2 hr hK
      go_wp2_with (first
        | (go_at_call 32; refine Calls.mono (r_mul_v (a := p.den) (b := q.den) (by omega) (by omega)) ?_; rintro e w3 ⟨v3, rfl, hv3, hk3⟩; have i3 := NatS.lift hv3; have u3 := Kept.chain hk3; have k0 := hk3.cell g0; have k3 := hk3.cell g3; have HR := Lib.hid (Kept.row hk3 HR2.out); have HK := Lib.hid (Kept.then HK2.out hk3); clear hv3 hk3)
        | (go_at_call 31; refine Calls.mono (r_cmp_v (a := nm p * q.den) (b := nm q * p.den) (by omega) (by omega)) ?_; rintro e w4 ⟨rfl, hk4⟩; have u4 := Kept.chain hk4; have m4 := hk4.cell k3; have HK4 := Lib.hid hk4; clear hk4)
        | (go_at_call 35; refine Calls.mono (r_sub_v (a := nm q * p.den) (b := nm p * q.den) (by omega) (by omega) (Nat.le_of_lt hle.out)) ?_; rintro e w5 ⟨v5, rfl, hv5, hk5⟩; have i5 := NatS.lift hv5; have u5 := Kept.chain hk5; have m5 := hk5.cell m4; have HK5 := Lib.hid hk5; clear hk5 hv5)
        | (go_at_call 33; refine Calls.mono (s_made (n := nm q * p.den - nm p * q.den) (d := p.den * q.den) (by omega) (by omega) HZ.out) ?_; rintro e w6 ⟨s6, vn6, vd6, rfl, hq6, hk6⟩; obtain ⟨An6, cn6, rfl, _, _⟩ := hq6.2.1.at; obtain ⟨Ad6, cd6, rfl, _, _⟩ := hq6.2.2.at; have hr6 := Kept.row hk6 (Kept.row HK5.out (Kept.row HK4.out HR.out)); obtain ⟨c0, c1, c2, f0, f1, f2⟩ := three hr6; have HQ6 := Lib.hid hq6; have HK6 := Lib.hid hk6; have HR6 := Lib.hid hr6; clear hq6 hk6 hr6))
      exact ret_rat rfl rfl rfl HR6.out (by omega) (Kept.then HK.out (Kept.then HK4.out (Kept.then HK5.out HK6.out))) HQ6.out
    · rw [add_parts_ge _ _ hng hge]
      have b9 := size_le_of_le (Nat.sub_le (nm p * q.den) (nm q * p.den))
      have hc : decide (cmpI (nm p * q.den) (nm q * p.den) < 0) = false := decide_eq_false (fun h => by have := cmp_neg.1 h; omega)
      have hle := Lib.hid hge
      clear hng hge
      go_enter Tryz.func19, Tryz.ntmps19
      have iN := HN.out; have iD := HD.out; have iN' := HN'.out; have iD' := HD'.out
      go_wp2
      go_region_held3 (fun w' => Kept w w' ∧ w'.cell? ⟨w.heap.size, 0, none⟩ = some (.bool (ng p)) ∧ w'.cell? ⟨w.heap.size, 1, none⟩ = some (Value.slice An (size (nm p)) cn) ∧ w'.cell? ⟨w.heap.size, 2, none⟩ = some (Value.slice Ad (size p.den) cd) ∧ w'.cell? ⟨w.heap.size + 1, 0, none⟩ = some (.bool (ng q)) ∧ w'.cell? ⟨w.heap.size + 1, 1, none⟩ = some (Value.slice An' (size (nm q)) cn') ∧ w'.cell? ⟨w.heap.size + 1, 2, none⟩ = some (Value.slice Ad' (size q.den) cd'))
        (first | exact two_step (by assumption) (by assumption) | assumption | (refine ⟨Kept.three _ _ _ _, ?_⟩; simp [go_sem, World.cell?_alloc_past]))
        (first
          | (go_at_call 32; first | (refine Calls.mono (r_mul_v (a := nm p) (b := q.den) (by omega) (by omega)) ?_; rintro e w1 ⟨v1, rfl, hv1, hk1⟩; have i1 := NatS.lift hv1; have u1 := Kept.chain hk1) | (refine Calls.mono (r_mul_v (a := nm q) (b := p.den) (by omega) (by omega)) ?_; rintro e w2 ⟨v2, rfl, hv2, hk2⟩; have i2 := NatS.lift hv2; have u2 := Kept.chain hk2)))
      obtain ⟨hK, g0, g1, g2, g3, g4, g5⟩ := ‹Kept w w2 ∧ _›
      have hr := Kept.row hk2 (Kept.row hk1 (Kept.row (Kept.drew _) (row_newAt (g := w.heap.size + 1 + 1) _ _ _ (by simp))))
      have HR2 := Lib.hid hr; have HK2 := Lib.hid hK
      clear hk1 hk2 hv1 hv2 hr hK
      go_wp2_with (first
        | (go_at_call 32; refine Calls.mono (r_mul_v (a := p.den) (b := q.den) (by omega) (by omega)) ?_; rintro e w3 ⟨v3, rfl, hv3, hk3⟩; have i3 := NatS.lift hv3; have u3 := Kept.chain hk3; have k0 := hk3.cell g0; have k3 := hk3.cell g3; have HR := Lib.hid (Kept.row hk3 HR2.out); have HK := Lib.hid (Kept.then HK2.out hk3); clear hv3 hk3)
        | (go_at_call 31; refine Calls.mono (r_cmp_v (a := nm p * q.den) (b := nm q * p.den) (by omega) (by omega)) ?_; rintro e w4 ⟨rfl, hk4⟩; have u4 := Kept.chain hk4; have m4 := hk4.cell k0; have HK4 := Lib.hid hk4; clear hk4)
        | (go_at_call 35; refine Calls.mono (r_sub_v (a := nm p * q.den) (b := nm q * p.den) (by omega) (by omega) hle.out) ?_; rintro e w5 ⟨v5, rfl, hv5, hk5⟩; have i5 := NatS.lift hv5; have u5 := Kept.chain hk5; have m5 := hk5.cell m4; have HK5 := Lib.hid hk5; clear hk5 hv5)
        | (go_at_call 33; refine Calls.mono (s_made (n := nm p * q.den - nm q * p.den) (d := p.den * q.den) (by omega) (by omega) HZ.out) ?_; rintro e w6 ⟨s6, vn6, vd6, rfl, hq6, hk6⟩; obtain ⟨An6, cn6, rfl, _, _⟩ := hq6.2.1.at; obtain ⟨Ad6, cd6, rfl, _, _⟩ := hq6.2.2.at; have hr6 := Kept.row hk6 (Kept.row HK5.out (Kept.row HK4.out HR.out)); obtain ⟨c0, c1, c2, f0, f1, f2⟩ := three hr6; have HQ6 := Lib.hid hq6; have HK6 := Lib.hid hk6; have HR6 := Lib.hid hr6; clear hq6 hk6 hr6))
      exact ret_rat rfl rfl rfl HR6.out (by omega) (Kept.then HK.out (Kept.then HK4.out (Kept.then HK5.out HK6.out))) HQ6.out
end Go.Proofs.YtpclkgjhfhhddaaGreat.V
/- The contracts of rational numbers, in the abstract state's words. -/
namespace Go.Proofs.YtpclkgjhfhhddaaGreat.AM
open Go Go.RowKit Go.Proofs.YtpclkgjhfhhddaaGreat.PN Go.Proofs.YtpclkgjhfhhddaaGreat.V
set_option linter.unusedVariables false
set_option linter.unusedSimpArgs false
/-- A number, as a value. -/
abbrev AV.q (p : Rat) : AV := .ra (.q p)
/-- An integer, as a value. -/
abbrev AV.i (n : Int) : AV := .v (.int .i64 n)
abbrev AV.b (b : Bool) : AV := .v (.bool b)
theorem rvs0 {S : Nat → Prop} {B : Nat} {β : Nat → Nat → Value} {w : World} {vs : List Value} (h : RVs S B β w [] vs) : vs = [] := List.eq_nil_of_length_eq_zero h.1.symm
theorem rvs1 {S : Nat → Prop} {B : Nat} {β : Nat → Nat → Value} {w : World} {x : AV} {vs : List Value} (h : RVs S B β w [x] vs) : ∃ v, vs = [v] ∧ RV S B β w x v := by
  match vs, h with
  | [v], h => exact ⟨v, rfl, h.2 0 x v rfl rfl⟩
  | [], h => exact absurd h.1 (by simp)
  | _ :: _ :: _, h => exact absurd h.1 (by simp)
theorem rvs2 {S : Nat → Prop} {B : Nat} {β : Nat → Nat → Value} {w : World} {x y : AV} {vs : List Value} (h : RVs S B β w [x, y] vs) : ∃ v u, vs = [v, u] ∧ RV S B β w x v ∧ RV S B β w y u := by
  match vs, h with
  | [v, u], h => exact ⟨v, u, rfl, h.2 0 x v rfl rfl, h.2 1 y u rfl rfl⟩
  | [], h => exact absurd h.1 (by simp)
  | [_], h => exact absurd h.1 (by simp)
  | _ :: _ :: _ :: _, h => exact absurd h.1 (by simp)
theorem rat_at {S : Nat → Prop} {B : Nat} {β : Nat → Nat → Value} {w : World} {p : Rat} {v : Value} (h : RV S B β w (.q p) v) : ∃ s vn vd, v = .agg #[.bool s, vn, vd] ∧ RatAt w s vn vd p := by
  obtain ⟨s, vn, vd, e, h1, h2, h3⟩ := h
  exact ⟨s, vn, vd, e, ⟨h1, h2, h3⟩⟩
theorem rat_rv {S : Nat → Prop} {B : Nat} {β : Nat → Nat → Value} {w : World} {p : Rat} {s : Bool} {vn vd : Value} (h : RatS w (fun _ => True) s vn vd p) : RV S B β w (.q p) (.agg #[.bool s, vn, vd]) := ⟨s, vn, vd, rfl, h.1, h.2.1, h.2.2⟩
theorem has_rat0 {f : FuncId} {r : Rat} (hB : callB Tryz.prog f = true) (h : ∀ w, Calls Tryz.prog f #[] w (MadeRat w r)) : Has Tryz.prog f [] (.q r) := by
  refine ⟨hB, trivial, fun w S β vs hv => ?_⟩
  rw [rvs0 hv]
  refine (h w).mono ?_
  rintro e w' ⟨s, vn, vd, rfl, h1, h2⟩
  exact ⟨_, rfl, h2, rat_rv h1⟩
theorem has_rat2 {f : FuncId} {p q r : Rat} (hB : callB Tryz.prog f = true) (h : ∀ w s vn vd s' vn' vd', RatAt w s vn vd p → RatAt w s' vn' vd' q → Calls Tryz.prog f #[.agg #[.bool s, vn, vd], .agg #[.bool s', vn', vd']] w (MadeRat w r)) : Has Tryz.prog f [.q p, .q q] (.q r) := by
  refine ⟨hB, trivial, fun w S β vs hv => ?_⟩
  obtain ⟨v, u, rfl, h1, h2⟩ := rvs2 hv
  obtain ⟨s, vn, vd, rfl, hp⟩ := rat_at h1
  obtain ⟨s', vn', vd', rfl, hq⟩ := rat_at h2
  refine (h w s vn vd s' vn' vd' hp hq).mono ?_
  rintro e w' ⟨s, vn, vd, rfl, h1, h2⟩
  exact ⟨_, rfl, h2, rat_rv h1⟩
theorem h_mul {p q : Rat} (hs : wt p ≤ 1000000000000) (hs' : wt q ≤ 1000000000000) : Has Tryz.prog 78 [.q p, .q q] (.q (p * q)) := has_rat2 (by kernel_rfl) fun w s vn vd s' vn' vd' hp hq => mul_rat hs hs'
theorem h_add {p q : Rat} (hs : wt p ≤ 1000000000000) (hs' : wt q ≤ 1000000000000) : Has Tryz.prog 70 [.q p, .q q] (.q (p + q)) := has_rat2 (by kernel_rfl) fun w s vn vd s' vn' vd' hp hq => add_rat hs hs'
theorem h_sub {p q : Rat} (hs : wt p ≤ 1000000000000) (hs' : wt q ≤ 1000000000000) : Has Tryz.prog 83 [.q p, .q q] (.q (p - q)) := has_rat2 (by kernel_rfl) fun w s vn vd s' vn' vd' hp hq => sub_rat hs hs'
theorem h_right {p : Rat} (hs : wt p ≤ 1000000000000) : Has Tryz.prog 76 [.q p] (.b true) := by
  refine ⟨by kernel_rfl, trivial, fun w S β vs hv => ?_⟩
  obtain ⟨v, rfl, h1⟩ := rvs1 hv
  obtain ⟨s, vn, vd, rfl, hp⟩ := rat_at h1
  refine (right_rat hs).mono ?_
  rintro e w' ⟨rfl, h2⟩
  exact ⟨_, rfl, h2, rfl⟩
theorem h_quo {p q : Rat} (hs : wt p ≤ 1000000000000) (hs' : wt q ≤ 1000000000000) (h0 : q ≠ 0) : Has Tryz.prog 92 [.q p, .q q] (.tup (.q (p / q)) (.i 0)) := by
  refine ⟨by kernel_rfl, ⟨trivial, trivial⟩, fun w S β vs hv => ?_⟩
  obtain ⟨v, u, rfl, h1, h2⟩ := rvs2 hv
  obtain ⟨s, vn, vd, rfl, hp⟩ := rat_at h1
  obtain ⟨s', vn', vd', rfl, hq⟩ := rat_at h2
  refine (quo_rat hs hs' h0).mono ?_
  rintro e w' ⟨s, vn, vd, rfl, h1, h2⟩
  exact ⟨_, rfl, h2, _, _, rfl, rat_rv h1, rfl⟩
theorem hs_mul {p q : Rat} (hs : wt p ≤ 15000) (hs' : wt q ≤ 15000) : Has Tryz.prog 47 [.q p, .q q] (.q (p * q)) := has_rat2 (by kernel_rfl) fun w s vn vd s' vn' vd' hp hq => s_mul hs hs'
theorem hs_add {p q : Rat} (hs : wt p ≤ 15000) (hs' : wt q ≤ 15000) : Has Tryz.prog 19 [.q p, .q q] (.q (p + q)) := has_rat2 (by kernel_rfl) fun w s vn vd s' vn' vd' hp hq => s_add hs hs'
theorem hs_over {p q : Rat} (hs : wt p ≤ 15000) (hs' : wt q ≤ 15000) (h0 : q ≠ 0) : Has Tryz.prog 80 [.q p, .q q] (.q (p / q)) := has_rat2 (by kernel_rfl) fun w s vn vd s' vn' vd' hp hq => s_over hs hs' h0
theorem hs_zero : Has Tryz.prog 36 [] (.q 0) := has_rat0 (by kernel_rfl) s_zero
theorem hs_int (n : Int) (h1 : -9223372036854775808 ≤ n) (h2 : n < 9223372036854775808) : Has Tryz.prog 13 [.i n] (.q (n : Rat)) := by
  refine ⟨by kernel_rfl, trivial, fun w S β vs hv => ?_⟩
  obtain ⟨v, rfl, h3⟩ := rvs1 hv
  have h3 : v = .int .i64 n := h3
  subst h3
  refine (s_int n w h1 h2).mono ?_
  rintro e w' ⟨s, vn, vd, rfl, h1, h2⟩
  exact ⟨_, rfl, h2, rat_rv h1⟩
theorem hs_same {p q : Rat} (hs : wt p ≤ 1000000000000) (hs' : wt q ≤ 1000000000000) : Has Tryz.prog 15 [.q p, .q q] (.b (decide (p = q))) := by
  refine ⟨by kernel_rfl, trivial, fun w S β vs hv => ?_⟩
  obtain ⟨v, u, rfl, h1, h2⟩ := rvs2 hv
  obtain ⟨s, vn, vd, rfl, hp⟩ := rat_at h1
  obtain ⟨s', vn', vd', rfl, hq⟩ := rat_at h2
  refine (s_same hs hs').mono ?_
  rintro e w' ⟨rfl, h2⟩
  exact ⟨_, rfl, h2, rfl⟩
end Go.Proofs.YtpclkgjhfhhddaaGreat.AM
/- Determinants of matrices of rational numbers, by the first column; what row steps do to them. -/
namespace Go.Proofs.YtpclkgjhfhhddaaGreat.LA
abbrev Mt := Nat → Nat → Rat
def S : Nat → (Nat → Rat) → Rat
  | 0, _ => 0
  | n + 1, f => S n f + f n
theorem S_zero (f : Nat → Rat) : S 0 f = 0 := rfl
theorem S_succ (n : Nat) (f : Nat → Rat) : S (n + 1) f = S n f + f n := rfl
theorem S_congr {n : Nat} {f g : Nat → Rat} (h : ∀ i, i < n → f i = g i) : S n f = S n g := by
  induction n with
  | zero => rfl
  | succ n ih => rw [S_succ, S_succ, ih (fun i hi => h i (by omega)), h n (by omega)]
theorem S_nought (n : Nat) : S n (fun _ => 0) = 0 := by
  induction n with
  | zero => rfl
  | succ n ih => rw [S_succ, ih]; grind
theorem S_null {n : Nat} {f : Nat → Rat} (h : ∀ i, i < n → f i = 0) : S n f = 0 := by rw [S_congr (g := fun _ => 0) h, S_nought]
theorem S_add (n : Nat) (f g : Nat → Rat) : S n (fun i => f i + g i) = S n f + S n g := by
  induction n with
  | zero => simp only [S_zero]; grind
  | succ n ih => simp only [S_succ, ih]; grind
theorem S_mul (n : Nat) (c : Rat) (f : Nat → Rat) : S n (fun i => c * f i) = c * S n f := by
  induction n with
  | zero => simp only [S_zero]; grind
  | succ n ih => simp only [S_succ, ih]; grind
theorem S_mulr (n : Nat) (c : Rat) (f : Nat → Rat) : S n (fun i => f i * c) = S n f * c := by
  induction n with
  | zero => simp only [S_zero]; grind
  | succ n ih => simp only [S_succ, ih]; grind
theorem S_swap (n m : Nat) (f : Nat → Nat → Rat) : S n (fun i => S m (fun j => f i j)) = S m (fun j => S n (fun i => f i j)) := by
  induction n with
  | zero => simp only [S_zero]; rw [S_nought]
  | succ n ih => simp only [S_succ, ih]; rw [S_add]
theorem S_append (m n : Nat) (f : Nat → Rat) : S (m + n) f = S m f + S n (fun i => f (m + i)) := by
  induction n with
  | zero => simp only [S_zero, Nat.add_zero]; grind
  | succ n ih => rw [← Nat.add_assoc, S_succ, S_succ, ih]; grind
theorem S_first (n : Nat) (f : Nat → Rat) : S (n + 1) f = f 0 + S n (fun i => f (i + 1)) := by
  rw [Nat.add_comm n 1, S_append]
  rw [S_congr (n := n) (f := fun i => f (1 + i)) (g := fun i => f (i + 1)) (fun i _ => by rw [Nat.add_comm])]
  simp only [S_succ, S_zero]; grind
theorem S_single {n k : Nat} (hk : k < n) {f : Nat → Rat} (h : ∀ i, i < n → i ≠ k → f i = 0) : S n f = f k := by
  induction n with
  | zero => omega
  | succ n ih =>
    rw [S_succ]
    by_cases e : k = n
    · subst e
      rw [S_null (fun i hi => h i (by omega) (by omega))]; grind
    · rw [ih (by omega) (fun i hi hne => h i (by omega) hne), h n (by omega) (by omega)]; grind
theorem S_pair {n k l : Nat} (hkl : k < l) (hl : l < n) {f : Nat → Rat} (h : ∀ i, i < n → i ≠ k → i ≠ l → f i = 0) : S n f = f k + f l := by
  obtain ⟨d, rfl⟩ : ∃ d, n = l + d := ⟨n - l, by omega⟩
  rw [S_append, S_single hkl (fun i hi hne => h i (by omega) hne (by omega)), S_single (k := 0) (by omega) (fun i hi hne => h (l + i) (by omega) (by omega) (by omega))]
  rfl
theorem S_cut {m n : Nat} (hmn : m ≤ n) {f : Nat → Rat} (h : ∀ i, m ≤ i → i < n → f i = 0) : S n f = S m f := by
  obtain ⟨d, rfl⟩ : ∃ d, n = m + d := ⟨n - m, by omega⟩
  rw [S_append, S_null (fun i hi => h (m + i) (by omega) (by omega))]; grind
def sg (i : Nat) : Rat := if i % 2 = 0 then 1 else -1
theorem sg_succ (i : Nat) : sg (i + 1) = - sg i := by
  unfold sg
  by_cases e : i % 2 = 0
  · rw [if_pos e, if_neg (by omega)]
  · rw [if_neg e, if_pos (by omega)]; rfl
def skip (i r : Nat) : Nat := if r < i then r else r + 1
def del (i : Nat) (A : Mt) : Mt := fun r c => A (skip i r) (c + 1)
def det : Nat → Mt → Rat
  | 0, _ => 1
  | n + 1, A => S (n + 1) (fun i => sg i * A i 0 * det n (del i A))
def upd (A : Mt) (a : Nat) (v : Nat → Rat) : Mt := fun i j => if i = a then v j else A i j
theorem upd_at (A : Mt) (a : Nat) (v : Nat → Rat) (j : Nat) : upd A a v a j = v j := by unfold upd; rw [if_pos rfl]
theorem upd_ne (A : Mt) {a i : Nat} (v : Nat → Rat) (j : Nat) (h : i ≠ a) : upd A a v i j = A i j := by unfold upd; rw [if_neg h]
theorem det_congr {n : Nat} : ∀ {A B : Mt}, (∀ i j, i < n → j < n → A i j = B i j) → det n A = det n B := by
  induction n with
  | zero => intro A B _; rfl
  | succ n ih =>
    intro A B h
    unfold det
    refine S_congr fun i hi => ?_
    rw [h i 0 hi (by omega), ih (A := del i A) (B := del i B)]
    intro r c hr hc
    unfold del skip
    split <;> exact h _ _ (by omega) (by omega)
theorem del_upd_ne (A : Mt) (a : Nat) (v : Nat → Rat) {i : Nat} (h : i ≠ a) : del i (upd A a v) = upd (del i A) (if a < i then a else a - 1) (fun j => v (j + 1)) := by
  funext r c
  show (if skip i r = a then v (c + 1) else A (skip i r) (c + 1)) = (if r = (if a < i then a else a - 1) then v (c + 1) else A (skip i r) (c + 1))
  have : (skip i r = a) ↔ (r = (if a < i then a else a - 1)) := by unfold skip; split <;> split <;> omega
  simp only [this]
theorem del_upd_at (A : Mt) (a : Nat) (v : Nat → Rat) : del a (upd A a v) = del a A := by
  funext r c
  unfold del upd skip
  by_cases h2 : r < a
  · rw [if_pos h2, if_neg (by omega)]
  · rw [if_neg h2, if_neg (by omega)]
theorem det_lin (n : Nat) : ∀ (A : Mt) (a : Nat), a < n → ∀ (f g : Rat) (u v : Nat → Rat), det n (upd A a (fun j => f * u j + g * v j)) = f * det n (upd A a u) + g * det n (upd A a v) := by
  induction n with
  | zero => intro A a h; omega
  | succ n ih =>
    intro A a ha f g u v
    unfold det
    rw [← S_mul, ← S_mul, ← S_add]
    refine S_congr fun i hi => ?_
    by_cases e : i = a
    · subst e
      rw [del_upd_at, del_upd_at, del_upd_at, upd_at, upd_at, upd_at]; grind
    · rw [del_upd_ne A a _ e, del_upd_ne A a _ e, del_upd_ne A a _ e, upd_ne A _ _ e, upd_ne A _ _ e, upd_ne A _ _ e]
      have ha' : (if a < i then a else a - 1) < n := by split <;> omega
      rw [ih (del i A) _ ha' f g (fun j => u (j + 1)) (fun j => v (j + 1))]; grind
theorem det_adj (n : Nat) : ∀ (A : Mt) (a : Nat), a + 1 < n → (∀ j, j < n → A a j = A (a + 1) j) → det n A = 0 := by
  induction n with
  | zero => intro A a h; omega
  | succ n ih =>
    intro A a ha heq
    unfold det
    rw [S_pair (k := a) (l := a + 1) (by omega) ha]
    · have hd : det n (del a A) = det n (del (a + 1) A) := by
        refine det_congr fun r c hr hc => ?_
        unfold del skip
        by_cases h1 : r < a
        · rw [if_pos h1, if_pos (by omega)]
        · rw [if_neg h1]
          by_cases h2 : r = a
          · subst h2; rw [if_pos (by omega)]; exact (heq (c + 1) (by omega)).symm
          · rw [if_neg (by omega)]
      rw [sg_succ, hd, heq 0 (by omega)]; grind
    · intro i hi h1 h2
      have : det n (del i A) = 0 := by
        by_cases h3 : i < a
        · refine ih (del i A) (a - 1) (by omega) fun j hj => ?_
          unfold del skip
          rw [if_neg (by omega), if_neg (by omega), show a - 1 + 1 = a from by omega]
          exact heq (j + 1) (by omega)
        · refine ih (del i A) a (by omega) fun j hj => ?_
          unfold del skip
          rw [if_pos (by omega), if_pos (by omega)]
          exact heq (j + 1) (by omega)
      rw [this]; grind
theorem upd_self (A : Mt) (a : Nat) : upd A a (A a) = A := by
  funext i j; unfold upd; split
  · next h => rw [h]
  · rfl
theorem det_upd_add {n : Nat} (A : Mt) {a : Nat} (ha : a < n) (u v : Nat → Rat) : det n (upd A a (fun j => u j + v j)) = det n (upd A a u) + det n (upd A a v) := by
  have h := det_lin n A a ha 1 1 u v
  rw [det_congr (B := upd A a (fun j => 1 * u j + 1 * v j)) (fun i j _ _ => by unfold upd; split <;> grind), h]; grind
theorem det_upd_mul {n : Nat} (A : Mt) {a : Nat} (ha : a < n) (f : Rat) (u : Nat → Rat) : det n (upd A a (fun j => f * u j)) = f * det n (upd A a u) := by
  have h := det_lin n A a ha f 0 u u
  rw [det_congr (B := upd A a (fun j => f * u j + 0 * u j)) (fun i j _ _ => by unfold upd; split <;> grind), h]; grind
def swp (A : Mt) (a b : Nat) : Mt := fun i j => if i = a then A b j else if i = b then A a j else A i j
theorem det_swp_adj {n : Nat} (A : Mt) {a : Nat} (ha : a + 1 < n) : det n (swp A a (a + 1)) = - det n A := by
  have two : ∀ u v : Nat → Rat, det n (upd (upd A a u) (a + 1) v) = - det n (upd (upd A a v) (a + 1) u) := by
    intro u v
    have e : ∀ w : Nat → Rat, det n (upd (upd A a w) (a + 1) w) = 0 := fun w => by
      refine det_adj n _ a ha fun j _ => ?_
      rw [upd_at, upd_ne _ _ _ (by omega), upd_at]
    have c : ∀ p q r : Nat → Rat, det n (upd (upd A a (fun j => p j + q j)) (a + 1) r) = det n (upd (upd A a p) (a + 1) r) + det n (upd (upd A a q) (a + 1) r) := by
      intro p q r
      have cm : ∀ p : Nat → Rat, upd (upd A a p) (a + 1) r = upd (upd A (a + 1) r) a p := fun p => by
        funext i j; unfold upd
        by_cases h1 : i = a
        · rw [if_neg (by omega), if_pos h1, if_pos h1]
        · rw [if_neg h1, if_neg h1]
      rw [cm, cm, cm]; exact det_upd_add _ (by omega) p q
    have h := e (fun j => u j + v j)
    rw [c, det_upd_add _ ha, det_upd_add _ ha, e u, e v] at h
    grind
  have h1 : swp A a (a + 1) = upd (upd A a (A (a + 1))) (a + 1) (A a) := by
    funext i j; unfold swp upd
    by_cases h : i = a
    · rw [if_pos h, if_neg (by omega), if_pos h]
    · rw [if_neg h, if_neg h]
  have h2 : upd (upd A a (A a)) (a + 1) (A (a + 1)) = A := by rw [upd_self, upd_self]
  rw [h1, two, h2]
theorem det_eq_rows {n : Nat} : ∀ (d : Nat) (A : Mt) (a : Nat), a + d + 1 < n → (∀ j, j < n → A a j = A (a + d + 1) j) → det n A = 0 := by
  intro d
  induction d with
  | zero => intro A a h he; exact det_adj n A a h he
  | succ d ih =>
    intro A a h he
    have hs := det_swp_adj A (a := a + d + 1) (n := n) (by omega)
    have h0 := ih (swp A (a + d + 1) (a + d + 1 + 1)) a (by omega) (fun j hj => by
      have hj2 := he j hj
      unfold swp
      rw [if_neg (by omega), if_neg (by omega), if_pos rfl, hj2]; rfl)
    rw [h0] at hs; grind
theorem det_same {n : Nat} (A : Mt) {a b : Nat} (ha : a < n) (hb : b < n) (hab : a ≠ b) (he : ∀ j, j < n → A a j = A b j) : det n A = 0 := by
  rcases Nat.lt_or_gt_of_ne hab with h | h
  · exact det_eq_rows (b - a - 1) A a (by omega) (fun j hj => by rw [show a + (b - a - 1) + 1 = b from by omega]; exact he j hj)
  · exact det_eq_rows (a - b - 1) A b (by omega) (fun j hj => by rw [show b + (a - b - 1) + 1 = a from by omega]; exact (he j hj).symm)
/-- A row's multiple added to another one. -/
def addr (A : Mt) (a b : Nat) (f : Rat) : Mt := upd A a (fun j => A a j + f * A b j)
/-- A row, times a number. -/
def scl (A : Mt) (a : Nat) (f : Rat) : Mt := upd A a (fun j => f * A a j)
theorem det_addr {n : Nat} (A : Mt) {a b : Nat} (ha : a < n) (hb : b < n) (hab : a ≠ b) (f : Rat) : det n (addr A a b f) = det n A := by
  unfold addr
  rw [det_upd_add A ha, det_upd_mul A ha, upd_self, det_same (upd A a (A b)) ha hb hab (fun j _ => by rw [upd_at, upd_ne _ _ _ (Ne.symm hab)])]; grind
theorem det_scl {n : Nat} (A : Mt) {a : Nat} (ha : a < n) (f : Rat) : det n (scl A a f) = f * det n A := by
  unfold scl; rw [det_upd_mul A ha, upd_self]
theorem det_zero_row {n : Nat} (A : Mt) {a : Nat} (ha : a < n) (h : ∀ j, j < n → A a j = 0) : det n A = 0 := by
  have := det_scl A ha 0
  rw [det_congr (B := A) (fun i j _ hj => by
    unfold scl upd
    by_cases e : i = a
    · subst e; rw [if_pos rfl, h j hj]; grind
    · rw [if_neg e])] at this
  rw [this]; grind
def one : Mt := fun i j => if i = j then 1 else 0
theorem det_one (n : Nat) : det n one = 1 := by
  induction n with
  | zero => rfl
  | succ n ih =>
    unfold det
    rw [S_single (k := 0) (by omega) (fun i hi hne => by unfold one; rw [if_neg hne]; grind)]
    have : det n (del 0 one) = det n one := det_congr fun i j _ _ => by
      have hs : skip 0 i = i + 1 := by unfold skip; rw [if_neg (by omega)]
      show (if skip 0 i = j + 1 then (1 : Rat) else 0) = (if i = j then 1 else 0)
      rw [hs]
      by_cases e : i = j
      · rw [if_pos e, if_pos (by omega)]
      · rw [if_neg e, if_neg (by omega)]
    rw [this, ih]
    have e1 : sg 0 = 1 := rfl
    have e2 : one 0 0 = 1 := rfl
    rw [e1, e2]; grind
end Go.Proofs.YtpclkgjhfhhddaaGreat.LA

/- Joined texts, 10: RatF RatG RefA RefB RefC RefD RefE RefF RefG RefH. -/
import Derived.Test.YtpclkgjhfhhddaaJLawGenChecks9
set_option linter.unusedVariables false
set_option linter.unusedSimpArgs false
/- Rational numbers: walks: the other sign, differences, a right number. -/
namespace Go.Proofs.Ytpclkgjhfhhddaa.V
open Go Go.RowKit Go.Proofs.Ytpclkgjhfhhddaa.PN
set_option linter.unusedVariables false
set_option linter.unusedSimpArgs false
theorem Row?.far3 {w : World} {k g : Nat} {cs : Array Value} {T : TypeId} (h : Row? w k cs T) (hne : k ≠ g) (s : Bool) (vn vd : Value) : Row? (set3 w g s vn vd) k cs T := ((h.far hne 0 _).far hne 1 _).far hne 2 _
set_option maxHeartbeats 4000000 in
theorem neg_rat {w : World} {s : Bool} {vn vd : Value} {p : Rat} [hp : RatAt w s vn vd p] (hs : wt p ≤ 1000000000000) :
    Calls Try.prog 114 #[.agg #[.bool s, vn, vd]] w (MadeRat w (-p)) := by
  obtain ⟨rfl, hn, hd⟩ := hp.out
  obtain ⟨An, cn, rfl, _, _⟩ := hn.at
  obtain ⟨Ad, cd, rfl, _, _⟩ := hd.at
  have HP := Lib.hid (RatS.at hp.out)
  clear hn hd hp
  have e1 := neg_ng p
  have z2 : decide (0 < size (nm p)) = decide (0 < nm p) := by
    by_cases h : nm p = 0
    · rw [h, size_zero]
    · have := size_pos (s := nm p) (by omega)
      rw [decide_eq_true (by omega), decide_eq_true (by omega)]
  have Z2 := Lib.hid z2; clear z2
  have n1 := neg_nm p; have n2 := neg_den p
  have N1 := Lib.hid n1; have N2 := Lib.hid n2; have E1 := Lib.hid e1
  clear n1 n2 e1
  have HP' := HP.out
  rcases hb : ng p with _ | _
  all_goals
    rw [hb] at HP' E1
    go_enter Try.func114, Try.ntmps114
    have iP := HP'
    go_wp2_with (go_at_call 123; refine Calls.mono (own_rat (p := p) hs) ?_; rintro e w1 ⟨s1, vn1, vd1, rfl, hq1, hk1⟩; obtain ⟨rfl, hv, hv'⟩ := hq1; obtain ⟨An1, cn1, rfl, _, _⟩ := hv.at; obtain ⟨Ad1, cd1, rfl, _, _⟩ := hv'.at; have HV := Lib.hid hv; have HV' := Lib.hid hv'; have HK1 := Lib.hid hk1; have hb1 := Kept.row hk1 (Kept.row (Kept.alloc _ _) (row_new w _ _)); have hr1 := Kept.row hk1 (row_newAt (g := w.heap.size + 1) _ _ _ (by simp)); obtain ⟨d0, d1, d2, e0, e1, e2⟩ := three hb1; obtain ⟨d3, d4, d5, e3, e4, e5⟩ := three hr1; clear hv hv' hk1)
    have hK : Kept w w1 := Kept.then (Kept.then (Kept.alloc _ _) (Kept.alloc _ _)) HK1.out
    have q1 := fun b => Up.set (up_set3 (Up.refl w1) hb1 b (.slice An1 (size (nm p)) cn1) (.slice Ad1 (size p.den) cd1)) (Typed.mk' (row_set3 hb1 b (.slice An1 (size (nm p)) cn1) (.slice Ad1 (size p.den) cd1))) (by decide) 0
    refine ret_rat rfl rfl rfl (Row?.far (Row?.far3 hr1 (by omega) _ _ _) (by omega) _ _) (by omega) (Kept.set (kept_set3 hK (Nat.le_refl _) _ _ _) (Nat.le_refl _) _ _) ⟨?_, ?_, ?_⟩
    · first | exact Z2.out.trans E1.out.symm | exact E1.out.symm
    · unfold NatS; rw [N1.out]; exact Dg.up HV.out (q1 _ _)
    · unfold NatS; rw [N2.out]; exact Dg.up HV'.out (q1 _ _)
set_option maxHeartbeats 2000000 in
theorem sub_rat {w : World} {s s' : Bool} {vn vd vn' vd' : Value} {p q : Rat} [hp : RatAt w s vn vd p] [hq : RatAt w s' vn' vd' q] (hs : wt p ≤ 1000000000000) (hs' : wt q ≤ 1000000000000) :
    Calls Try.prog 107 #[.agg #[.bool s, vn, vd], .agg #[.bool s', vn', vd']] w (MadeRat w (p - q)) := by
  obtain ⟨rfl, hn, hd⟩ := hp.out
  obtain ⟨rfl, hn', hd'⟩ := hq.out
  obtain ⟨An, cn, rfl, _, _⟩ := hn.at
  obtain ⟨Ad, cd, rfl, _, _⟩ := hd.at
  obtain ⟨An', cn', rfl, _, _⟩ := hn'.at
  obtain ⟨Ad', cd', rfl, _, _⟩ := hd'.at
  have HP := Lib.hid (RatS.at hp.out); have HQ := Lib.hid (RatS.at hq.out)
  clear hn hd hn' hd' hp hq
  have hs2 : wt (-q) ≤ 1000000000000 := by rw [wt_neg]; exact hs'
  rw [Rat.sub_eq_add_neg]
  go_enter Try.func107, Try.ntmps107
  have iP := HP.out; have iQ := HQ.out
  go_wp2
  go_region_held3 (fun w' => Kept w w' ∧ w'.cell? ⟨w.heap.size, 0, none⟩ = some (.bool (ng p)) ∧ w'.cell? ⟨w.heap.size, 1, none⟩ = some (Value.slice An (size (nm p)) cn) ∧ w'.cell? ⟨w.heap.size, 2, none⟩ = some (Value.slice Ad (size p.den) cd) ∧ w'.cell? ⟨w.heap.size + 1, 0, none⟩ = some (.bool (ng q)) ∧ w'.cell? ⟨w.heap.size + 1, 1, none⟩ = some (Value.slice An' (size (nm q)) cn') ∧ w'.cell? ⟨w.heap.size + 1, 2, none⟩ = some (Value.slice Ad' (size q.den) cd'))
    (first | exact two_step (by assumption) (by assumption) | exact two_set (by assumption) (by omega) (by omega) (by omega) | assumption | (refine ⟨Kept.three _ _ _ _, ?_⟩; simp [go_sem, World.cell?_alloc_past]))
    (first
      | (go_at_call 114; refine Calls.mono (neg_rat (p := q) hs') ?_; rintro e w1 ⟨s1, vn1, vd1, rfl, hq1, hk1⟩; have i1 := RatS.at hq1; have u1 := Kept.chain hk1)
      | (go_at_call 83; refine Calls.mono (add_rat (p := p) (q := -q) hs hs2) ?_; rintro e w3 ⟨s3, vn3, vd3, rfl, hq3, hk3⟩; obtain ⟨An3, cn3, rfl, _, _⟩ := hq3.2.1.at; obtain ⟨Ad3, cd3, rfl, _, _⟩ := hq3.2.2.at; have hr3 := Kept.row hk3 (Kept.row hk1 (Kept.row (Kept.drew _) (row_newAt (g := w.heap.size + 1 + 1) _ _ _ (by simp)))); obtain ⟨c0, c1, c2, f0, f1, f2⟩ := three hr3))
  all_goals
    go_wp2
    exact ret_rat rfl rfl rfl hr3 (by omega) (Kept.then (Kept.three _ _ _ _) (Kept.then hk1 hk3)) hq3
end Go.Proofs.Ytpclkgjhfhhddaa.V
/- Rational numbers: walks: what is a right number. -/
namespace Go.Proofs.Ytpclkgjhfhhddaa.V
open Go Go.RowKit Go.Proofs.Ytpclkgjhfhhddaa.PN
set_option linter.unusedVariables false
set_option linter.unusedSimpArgs false
theorem right_v {w : World} {va : Value} {a : Nat} [ha : NatAt w va a] (hn : size a ≤ 4398046511103) : Calls Try.prog 95 #[va] w fun e w' => e = .returned (.bool true) ∧ w = w' := by
  obtain ⟨A, c, rfl, hc, h1⟩ := ha.at
  have h := right_any A c a (size a) w h1 (lt_size a) (by omega)
  simpa using h
theorem one_box {W w w1 : World} {g : Nat} {a b c : Value} (hs : Kept W w ∧ w.cell? ⟨g, 0, none⟩ = some a ∧ w.cell? ⟨g, 1, none⟩ = some b ∧ w.cell? ⟨g, 2, none⟩ = some c) (hk : Kept w w1) :
    Kept W w1 ∧ w1.cell? ⟨g, 0, none⟩ = some a ∧ w1.cell? ⟨g, 1, none⟩ = some b ∧ w1.cell? ⟨g, 2, none⟩ = some c := ⟨Kept.then hs.1 hk, hk.cell hs.2.1, hk.cell hs.2.2.1, hk.cell hs.2.2.2⟩
set_option maxHeartbeats 4000000 in
theorem right_rat {w : World} {s : Bool} {vn vd : Value} {p : Rat} [hp : RatAt w s vn vd p] (hs : wt p ≤ 1000000000000) :
    Calls Try.prog 79 #[.agg #[.bool s, vn, vd]] w fun e w' => e = .returned (.bool true) ∧ Kept w w' := by
  obtain ⟨rfl, hn, hd⟩ := hp.out
  obtain ⟨An, cn, rfl, _, _⟩ := hn.at
  obtain ⟨Ad, cd, rfl, _, _⟩ := hd.at
  have HN := Lib.hid (NatS.lift hn); have HD := Lib.hid (NatS.lift hd)
  clear hn hd hp
  have b1 := wt_num p; have b2 := wt_den p
  have hz : ((size p.den : Int) == 0) = false := by
    have := size_pos (s := p.den) p.den_nz
    simp; omega
  have b3 : size 1 ≤ 4398046511103 := by decide
  have hq : ∀ x, x = 1 → (cmpI x 1 == 0) = true := by rintro x rfl; decide
  have HQ := Lib.hid hq; clear hq
  by_cases h0 : p = 0
  · have hz' : ((size (nm p) : Int) == 0) = true := by rw [h0]; decide
    have hb : ng p = false := by rw [h0]; rfl
    have h1 : p.den = 1 := by rw [h0]; rfl
    have e2 := (HQ.out p.den h1)
    clear h0 h1
    go_enter Try.func79, Try.ntmps79
    have iN := HN.out; have iD := HD.out
    go_wp2_with (go_at_call 95; first | (refine Calls.mono (right_v (a := nm p) (by omega)) ?_; rintro e w1 ⟨rfl, rfl⟩) | (refine Calls.mono (right_v (a := p.den) (by omega)) ?_; rintro e w1 ⟨rfl, rfl⟩))
    go_region_held3 (fun w' => Kept w w' ∧ w'.cell? ⟨w.heap.size, 0, none⟩ = some (.bool false) ∧ w'.cell? ⟨w.heap.size, 1, none⟩ = some (Value.slice An (size (nm p)) cn) ∧ w'.cell? ⟨w.heap.size, 2, none⟩ = some (Value.slice Ad (size p.den) cd))
      (first | exact one_box (by assumption) (by assumption) | assumption | (refine ⟨Kept.then (Kept.alloc _ _) (Kept.drew _), ?_⟩; simp [go_sem, World.cell?_alloc_past]))
      (first
        | (go_at_call 97; refine Calls.mono (rone_any _) ?_; rintro e w3 ⟨v3, rfl, hv3, hk3⟩; have i3 := NatS.lift hv3; have u3 := Kept.chain hk3)
        | (go_at_call 96; refine Calls.mono (cmp_v (a := p.den) (b := 1) (by omega) b3) ?_; rintro e w4 ⟨rfl, hk4⟩))
    all_goals
      go_wp2
      go_ret
      exact ⟨rfl, Kept.then (Kept.then (Kept.alloc _ _) (Kept.drew _)) (Kept.then hk3 hk4)⟩
  · have hz' : ((size (nm p) : Int) == 0) = false := by
      have : nm p ≠ 0 := fun h => h0 (nm_eq_zero.1 h)
      have := size_pos (s := nm p) (by omega)
      simp; omega
    have hg : Nat.gcd (nm p) p.den = 1 := p.reduced
    have hx := HQ.out _ hg
    have hgs : size (Nat.gcd (nm p) p.den) ≤ 4398046511103 := by rw [hg]; decide
    clear h0 hg
    go_enter Try.func79, Try.ntmps79
    have iN := HN.out; have iD := HD.out
    go_wp2_with (first
      | (go_at_call 95; first | (refine Calls.mono (right_v (a := nm p) (by omega)) ?_; rintro e w1 ⟨rfl, rfl⟩) | (refine Calls.mono (right_v (a := p.den) (by omega)) ?_; rintro e w1 ⟨rfl, rfl⟩))
      | (go_at_call 98; refine Calls.mono (gcd_v (a := nm p) (b := p.den) (by omega) (by omega)) ?_; rintro e w2 ⟨v2, rfl, hv2, hk2⟩; have i2 := NatS.lift hv2; have u2 := Kept.chain hk2; have HK2 := Lib.hid hk2; clear hv2 hk2)
      | (go_at_call 97; refine Calls.mono (rone_any _) ?_; rintro e w3 ⟨v3, rfl, hv3, hk3⟩; have i3 := NatS.lift hv3; have u3 := Kept.chain hk3; have HK3 := Lib.hid hk3; clear hv3 hk3)
      | (go_at_call 96; refine Calls.mono (cmp_v (a := Nat.gcd (nm p) p.den) (b := 1) hgs b3) ?_; rintro e w4 ⟨rfl, hk4⟩; have HK4 := Lib.hid hk4; clear hk4))
    go_ret
    exact ⟨rfl, Kept.then (Kept.alloc _ _) (Kept.then HK2.out (Kept.then HK3.out HK4.out))⟩
end Go.Proofs.Ytpclkgjhfhhddaa.V
/- The document's natural numbers: walks: trim, Of, at, Right. -/
namespace Go.Proofs.Ytpclkgjhfhhddaa.V
open Go Go.RowKit Go.Proofs.Ytpclkgjhfhhddaa.PN
set_option linter.unusedVariables false
set_option linter.unusedSimpArgs false
theorem Dg.zero (w : World) (S : Nat → Prop) (A : Option Addr) (c s : Nat) : Dg w S (.slice A 0 c) s 0 := ⟨A, c, rfl, Nat.zero_le _, fun _ hi => absurd hi (Nat.not_lt_zero _)⟩
theorem At.cells_off {w : World} {b off s n : Nat} (h : At w (some ⟨b, off, none⟩) s n) : ∀ j u, (lim s n)[j]? = some u → w.cell? ⟨b, off + j, none⟩ = some u := by
  intro j u hu
  have hj : j < n := by
    rcases Nat.lt_or_ge j n with hj | hj
    · exact hj
    · rw [List.getElem?_eq_none (by rw [lim_length]; exact hj)] at hu; cases hu
  rw [lim_get hj] at hu
  obtain ⟨b', off', e, hc⟩ := h j hj
  injection e with e; injection e with e1 e2
  subst e1; subst e2
  rw [← hu, ← hc]
set_option maxHeartbeats 1000000 in
theorem r_trim (A : Option Addr) (c s n : Nat) (w : World) (hc : n ≤ c) (ha : At w A s n) (hs : s < B ^ n) (hn : n ≤ 17592186044416) :
    Calls Try.prog 76 #[.slice A n c] w (MadeNat w s) := by
  have HA := Lib.hid ha
  have HS := Lib.hid hs
  clear ha hs
  obtain ⟨i0, hi, hz0, hz1, hz2⟩ := info_parts info_u32
  go_enter Try.func76, Try.ntmps76
  go_wp2
  go_loop [3] (fun i => ∃ k : Nat, k ≤ n ∧ i = .int .i64 k ∧ Hid (s < B ^ k)) (fun i => (intOf i).toNat)
  case atStart => exact ⟨n, Nat.le_refl _, rfl, HS⟩
  case round =>
    clear HS
    obtain ⟨k, hk, rfl, HS⟩ := hrel
    have HE : Hid ((∃ j, k = j + 1 ∧ dig s j = 0) ∨ k = size s) := by
      rcases Nat.eq_zero_or_pos k with h | h
      · subst h
        right
        have := (lt_iff s 0).1 HS.out
        omega
      · obtain ⟨j, rfl⟩ : ∃ j, k = j + 1 := ⟨k - 1, by omega⟩
        by_cases h0 : dig s j = 0
        · exact Or.inl ⟨j, rfl, h0⟩
        · exact Or.inr (size_of_top HS.out h0).symm
    rcases HE.out with h | h
    · obtain ⟨j, rfl, h0⟩ := h
      obtain ⟨b, off, rfl, hcell⟩ := HA.out j (by omega)
      rw [h0] at hcell
      have HZ := Lib.hid (size_cut HS.out h0)
      clear h0 HE HS
      go_wp2
      go_round
      case rel => exact ⟨j, by omega, by go_num, HZ⟩
      case measure => simp [intOf]
    · clear HE
      rcases Nat.eq_zero_or_pos k with h0 | h0
      · subst h0
        have HE := Lib.hid h
        clear h HS
        cases A with
        | none =>
          go_wp2
          go_ret
          exact ⟨_, rfl, by rw [← HE.out]; exact Dg.zero _ _ _ _ _, Kept.alloc w _⟩
        | some ad =>
          go_wp2_with (at_builtin; refine wpList_append_own _ rfl (.tmp 18) (.tmp 21) 41 rfl w.heap.size U32 i0 (.int .u32 0) 1 4 Try.underlying41 hi hz0 hz1 hz2 rfl (by decide) _ 0 [] rfl (World.ownsRow_made w #[] 0 (Nat.le_refl _) (by decide) rfl) ad 0 c [] rfl (by simp) (by simp) (by simp) (by unfold maxLen; omega) (by omega) (Nat.le_of_lt (by simp)) ?_)
          intro v' w' ho hg _
          go_wp2
          go_ret
          have hd := Dg.of_own (s := s) (n := 0) ho (by omega) rfl
          exact ⟨_, rfl, by rw [HE.out] at hd; exact hd, (Kept.alloc w _).grown hg (fun k hk => by simp [Value.ownBlock] at hk; omega)⟩
      · obtain ⟨b, off, rfl, hcell⟩ := HA.out (k - 1) (by omega)
        have hne : dig s (k - 1) ≠ 0 := by rw [h]; exact top_ne (fun e => by rw [e] at h; simp [size] at h; omega)
        obtain ⟨d, hd⟩ : ∃ d, d = dig s (k - 1) := ⟨_, rfl⟩
        rw [← hd] at hcell hne
        have hd0 : ((d : Int) == 0) = false := by simp; exact hne
        obtain ⟨j, rfl⟩ : ∃ j, k = j + 1 := ⟨k - 1, by omega⟩
        rw [Nat.add_sub_cancel] at hcell
        have HE := Lib.hid h
        clear h HS hd hne
        go_wp2_with (at_builtin; refine wpList_append_own _ rfl (.tmp 18) (.tmp 21) 41 rfl w.heap.size U32 i0 (.int .u32 0) 1 4 Try.underlying41 hi hz0 hz1 hz2 rfl (by decide) _ 0 [] rfl (World.ownsRow_made w #[] 0 (Nat.le_refl _) (by decide) rfl) ⟨b, off, none⟩ (j + 1) c (lim s (j + 1)) rfl (by rw [lim_length, Nat.mul_one]) ?cl (lim_one s (j + 1)) (by unfold maxLen; omega) (by omega) (Nat.le_of_lt (by simp)) ?_)
        case cl => exact At.cells_off (At.kept (fun i hi => HA.out i (by omega)) (Kept.alloc w _))
        · intro v' w' ho hg _
          go_wp2
          go_ret
          have hd := Dg.of_own (s := s) (n := j + 1) ho (by omega) rfl
          exact ⟨_, rfl, by rw [HE.out] at hd; exact hd, (Kept.alloc w _).grown hg (fun k hk => by simp [Value.ownBlock] at hk; omega)⟩
set_option maxHeartbeats 1000000 in
theorem r_at (A : Option Addr) (c s n i : Nat) (w : World) (ha : At w A s n) (hs : s < B ^ n) (hn : n ≤ 9223372036854775807) :
    Calls Try.prog 90 #[.slice A n c, .int .i64 (i : Int)] w fun e w' => e = .returned (.int .u64 (dig s i : Nat)) ∧ w = w' := by
  by_cases h1 : i < n
  · obtain ⟨b, off, rfl, hcell⟩ := ha i h1
    have hlt : dig s i < 4294967296 := dig_lt s i
    clear ha hs
    generalize dig s i = d at *
    go_enter Try.func90, Try.ntmps90
    go_wp2
    go_ret
    simp
  · have hz : dig s i = 0 := dig_over hs (by omega)
    rw [hz]
    clear ha hs hz
    go_enter Try.func90, Try.ntmps90
    go_wp2
    go_ret
    simp
theorem at_pair (w : World) (x : Nat) {a b : Int} (ha : a = (dig x 0 : Nat)) (hb : b = (dig x 1 : Nat)) : At (w.alloc (.cells #[.int .u32 a, .int .u32 b] U32)) (some ⟨w.heap.size, 0, none⟩) x 2 := by
  subst ha; subst hb
  intro i hi
  refine ⟨_, _, rfl, ?_⟩
  rw [cell_of_row _ _ _ _ _ _ (row_new w _ U32)]
  rcases i with _ | _ | i
  · rfl
  · rfl
  · omega
set_option maxHeartbeats 1000000 in
theorem r_of (x : Nat) (w : World) (hx : x < 18446744073709551616) : Calls Try.prog 46 #[.int .u64 (x : Int)] w (MadeNat w x) := by
  have h0 : dig x 0 = x % 4294967296 := by unfold dig; simp [B]
  have h1 : dig x 1 = x / 4294967296 := by unfold dig; simp only [B]; omega
  have h2 : x < B ^ 2 := by simp only [B]; omega
  have e0 : ((x : Int) % 4294967296) = ((dig x 0 : Nat) : Int) := by rw [h0]; omega
  have e1 : ((x : Int) / 4294967296) = ((dig x 1 : Nat) : Int) := by rw [h1]; omega
  have H2 := Lib.hid h2
  clear h0 h1 h2
  go_enter Try.func46, Try.ntmps46
  go_wp2_with (go_at_call 76; refine (r_trim (some ⟨w.heap.size, 0, none⟩) 2 x 2 _ (Nat.le_refl _) (at_pair w x (by first | rfl | exact e0) (by first | rfl | exact e1)) H2.out (by omega)).mono ?_; rintro e w1 ⟨v1, rfl, hv1, hk1⟩)
  go_ret
  exact ⟨_, rfl, hv1.mono (fun k hk _ => Nat.le_trans (by simp) hk), Kept.then (Kept.alloc _ _) hk1⟩
end Go.Proofs.Ytpclkgjhfhhddaa.V
/- The document's natural numbers: walks: sums. -/
namespace Go.Proofs.Ytpclkgjhfhhddaa.V
open Go Go.RowKit Go.Proofs.Ytpclkgjhfhhddaa.PN
set_option linter.unusedVariables false
set_option linter.unusedSimpArgs false
theorem r_atp (A : Option Addr) (c s n k p : Nat) (w : World) (ha : At w A s n) (hs : s < B ^ n) (hn : n ≤ 9223372036854775807) (hp : dig s k = p) :
    Calls Try.prog 90 #[.slice A n c, .int .i64 (k : Int)] w fun e w' => e = .returned (.int .u64 (p : Int)) ∧ w = w' := by
  have h := r_at A c s n k w ha hs hn
  rw [hp] at h
  exact h
set_option maxRecDepth 100000 in
set_option maxHeartbeats 1000000 in
theorem r_add (A : Option Addr) (c a : Nat) (A' : Option Addr) (c' b : Nat) (w : World) (ha : At w A a (size a)) (hb : At w A' b (size b)) (hn : size a ≤ 17592186044415) (hm : size b ≤ 17592186044415) :
    Calls Try.prog 64 #[.slice A (size a) c, .slice A' (size b) c'] w (MadeNat w (a + b)) := by
  obtain ⟨i0, hi, hz0, hz1, hz2⟩ := info_parts info_u32
  have sa := Lib.hid (lt_size a); have sb := Lib.hid (lt_size b)
  have HA := Lib.hid ha
  have HB := Lib.hid hb
  clear ha hb
  generalize size a = n at *
  generalize size b = m at *
  obtain ⟨N, hN1, hN2, hN3, hmx⟩ : ∃ N : Nat, n ≤ N ∧ m ≤ N ∧ N ≤ 17592186044415 ∧ (n < m ∧ N = m ∨ m ≤ n ∧ N = n) := by
    rcases Nat.lt_or_ge n m with h | h
    · exact ⟨m, by omega, Nat.le_refl _, hm, Or.inl ⟨h, rfl⟩⟩
    · exact ⟨n, Nat.le_refl _, h, hn, Or.inr ⟨h, rfl⟩⟩
  have HS : Hid (a + b < B ^ (N + 1)) := by
    show _ < _
    rw [Nat.pow_succ]
    have h1 := Nat.lt_of_lt_of_le sa.out (Nat.pow_le_pow_right (show 0 < B by decide) hN1)
    have h2 := Nat.lt_of_lt_of_le sb.out (Nat.pow_le_pow_right (show 0 < B by decide) hN2)
    have : B ^ N * 2 ≤ B ^ N * B := Nat.mul_le_mul_left _ (by decide)
    omega
  rcases hmx with ⟨hlt, rfl⟩ | ⟨hlt, rfl⟩
  all_goals
    go_enter Try.func64, Try.ntmps64
    go_wp2_with (at_make; refine wpList_make_full _ rfl _ _ 41 rfl w.heap.size U32 i0 (.int .u32 0) 1 Try.underlying41 hi hz0 hz1 _ _ _ _ (N + 1) rfl rfl (by omega) (by omega) (by rw [hz2]; omega) (by unfold maxLen; omega) (Nat.le_refl _) ?_; intro w1 hown hgrow; have HL := Lib.hid (Lb.of_own hown); have HK := Lib.hid (Kept.grown (Below.refl _ _) hgrow (fun k hk => by cases hk) : Kept w w1); clear hown hgrow)
    go_loopw [6, 7] (fun cy i wr => ∃ (k : Nat) (xs : List Nat), k ≤ N + 1 ∧ i = .int .i64 k ∧ cy = .int .u64 (car a b k : Nat) ∧ Hid (xs.length = N + 1 ∧ ∀ j, j < k → xs.getD j 0 = dig (a + b) j) ∧ Hid (Lb wr w.heap.size xs) ∧ Hid (Kept w wr)) (fun _ i _ => N + 1 - (intOf i).toNat)
    case atStart => exact ⟨0, _, Nat.zero_le _, rfl, by rw [car_zero]; rfl, ⟨by simp, fun j hj => absurd hj (Nat.not_lt_zero j)⟩, HL, HK⟩
    case round =>
      clear HL HK
      obtain ⟨k, xs, hk, rfl, rfl, HX, HL, HK⟩ := hrel
      have hcar := car_le a b k
      by_cases hlt : k < N + 1
      · obtain ⟨p, hp⟩ : ∃ p, dig a k = p := ⟨_, rfl⟩
        obtain ⟨q, hq⟩ : ∃ q, dig b k = q := ⟨_, rfl⟩
        have hp1 : p < 4294967296 := by rw [← hp]; exact dig_lt a k
        have hq1 : q < 4294967296 := by rw [← hq]; exact dig_lt b k
        have HC := Lib.hid (car_succ a b k)
        have HD := Lib.hid (dig_add a b k)
        rw [hp, hq] at HC HD
        have HP := Lib.hid hp
        have HQ := Lib.hid hq
        have c0 := HL.out.cell (i := k) (by rw [HX.out.1]; omega)
        have z0 := HL.out.free k
        clear hp hq
        generalize car a b k = y at *
        generalize xs.getD k 0 = x0 at c0
        go_wp2_with (go_at_call 90; first | ((with_reducible refine (r_atp _ _ a _ k p _ (HA.out.kept HK.out) sa.out (by omega) HP.out).mono ?_); rintro e w' ⟨rfl, rfl⟩) | ((with_reducible refine (r_atp _ _ b _ k q _ (HB.out.kept HK.out) sb.out (by omega) HQ.out).mono ?_); rintro e w' ⟨rfl, rfl⟩))
        go_roundw
        case measure => simp [intOf]; omega
        case rel => exact ⟨k + 1, xs.set k ((y + p + q) % B), by omega, by go_num, int_eq (by rw [HC.out]; simp only [B]; omega), first_set HX.out hlt HD.out.symm, HL.out.put k _ (by simp only [B]; omega), HK.out.set (Nat.le_refl _) _ _⟩
      · have HE := Lib.hid (show k = N + 1 by omega)
        go_wp2_with (go_at_call 76; refine (r_trim _ _ (a + b) _ _ (Nat.le_refl _) ((Lb.dg HL.out HX.out.1 (s := a + b) (fun i hi => HX.out.2 i (by rw [HE.out]; exact hi)) (S := fun _ => True) trivial).at_own) HS.out (by omega)).mono ?_; rintro e w' ⟨v, rfl, hv, hk⟩)
        go_ret
        exact MadeDg.after HK.out ⟨_, rfl, hv, hk⟩
end Go.Proofs.Ytpclkgjhfhhddaa.V
/- The document's natural numbers: walks: comparison. -/
namespace Go.Proofs.Ytpclkgjhfhhddaa.V
open Go Go.RowKit Go.Proofs.Ytpclkgjhfhhddaa.PN
set_option linter.unusedVariables false
set_option linter.unusedSimpArgs false
set_option maxHeartbeats 1000000 in
theorem r_cmp (A : Option Addr) (c a : Nat) (A' : Option Addr) (c' b : Nat) (w : World) (ha : At w A a (size a)) (hb : At w A' b (size b)) (hn : size a ≤ 17592186044416) (hm : size b ≤ 17592186044416) :
    Calls Try.prog 61 #[.slice A (size a) c, .slice A' (size b) c'] w fun e w' => e = .returned (.int .i64 (cmpI a b)) ∧ Kept w w' := by
  rcases Nat.lt_trichotomy (size a) (size b) with h | h | h
  · rw [cmp_lt (lt_of_size h)]
    clear ha hb
    generalize size a = n at *
    generalize size b = m at *
    have h1 : ((n : Int) != m) = true := by simp; omega
    go_enter Try.func61, Try.ntmps61
    go_wp2
    go_ret
    exact ⟨rfl, Below.refl _ _⟩
  · rw [← h] at hb ⊢
    have HE : Hid (a / B ^ size a = b / B ^ size a) := by
      show _ = _
      rw [Nat.div_eq_of_lt (lt_size a), Nat.div_eq_of_lt (by rw [h]; exact lt_size b)]
    have HA := Lib.hid ha
    have HB := Lib.hid hb
    clear ha hb h hm
    generalize size a = n at *
    have h1 : ((n : Int) != n) = false := by simp
    go_enter Try.func61, Try.ntmps61
    go_wp2
    go_loopw [5] (fun i wr => ∃ x : Nat, x ≤ n ∧ i = .int .i64 x ∧ Hid (a / B ^ x = b / B ^ x) ∧ Hid (Kept w wr)) (fun i _ => (intOf i).toNat)
    case atStart => exact ⟨n, Nat.le_refl _, rfl, HE, Below.refl _ _⟩
    case round =>
      clear HE
      obtain ⟨x, hx1, rfl, HE, HK⟩ := hrel
      rcases x with _ | k
      · go_wp2
        go_ret
        have : a = b := by simpa using HE.out
        rw [this, cmp_eq]
        exact ⟨rfl, HK.out⟩
      · obtain ⟨b1, o1, rfl, c1⟩ := HA.out k (by omega)
        obtain ⟨b2, o2, rfl, c2⟩ := HB.out k (by omega)
        replace c1 := HK.out.cell c1
        replace c2 := HK.out.cell c2
        obtain ⟨p, hp⟩ : ∃ p, dig a k = p := ⟨_, rfl⟩
        obtain ⟨q, hq⟩ : ∃ q, dig b k = q := ⟨_, rfl⟩
        rw [hp] at c1
        rw [hq] at c2
        have HP := Lib.hid hp
        have HQ := Lib.hid hq
        clear hp hq
        have e0 : IntKind.i64.wrap (((k + 1 : Nat) : Int) - 1) = (k : Int) := by rw [show ((k + 1 : Nat) : Int) - 1 = (k : Int) by omega]; exact IntWalk.i64_in _ (by omega)
        have e1 : (((k + 1 : Nat) : Int) - 1) = (k : Int) := by omega
        have e2 : (0 : Int) ≤ (k : Int) := by omega
        have e3 : (k : Int) < (n : Int) := by omega
        have e4 : ((k + 1 : Nat) : Int) = (k : Int) + 1 := by omega
        have e5 : IntKind.i64.wrap (k : Int) = (k : Int) := IntWalk.i64_in _ (by omega)
        rcases Nat.lt_trichotomy p q with h | h | h
        · have d1 : decide ((p : Int) < q) = true := by simp; omega
          go_wp2
          go_quiet (fail)
          go_wp2
          go_ret
          rw [cmp_lt (lt_of_dig HE.out (by rw [HP.out, HQ.out]; exact h))]
          exact ⟨rfl, HK.out.then (Kept.drewN _ _)⟩
        · subst h
          have d1 : decide ((p : Int) < p) = false := by simp
          have d2 : ((p : Int) < p) = False := by simp
          go_wp2
          go_quiet (fail)
          go_wp2
          go_quiet (fail)
          go_wp2
          go_roundw
          case rel => exact ⟨k, by omega, by go_num, by
            show _ = _
            rw [div_succ a k, div_succ b k, HE.out, HP.out, HQ.out], HK.out.then (Kept.drewN _ _)⟩
          case measure => simp [intOf]
        · have d1 : decide ((p : Int) < q) = false := by simp; omega
          have d2 : decide ((q : Int) < p) = true := by simp; omega
          go_wp2
          go_quiet (fail)
          go_wp2
          go_quiet (fail)
          go_wp2
          go_ret
          rw [cmp_gt (lt_of_dig HE.out.symm (by rw [HP.out, HQ.out]; exact h))]
          exact ⟨rfl, (HK.out.then (Kept.drewN _ _)).then (Kept.drewN _ _)⟩
  · rw [cmp_gt (lt_of_size h)]
    clear ha hb
    generalize size a = n at *
    generalize size b = m at *
    have h1 : ((n : Int) != m) = true := by simp; omega
    go_enter Try.func61, Try.ntmps61
    go_wp2
    go_ret
    exact ⟨rfl, Below.refl _ _⟩
end Go.Proofs.Ytpclkgjhfhhddaa.V
/- The document's natural numbers: walks: differences. -/
namespace Go.Proofs.Ytpclkgjhfhhddaa.V
open Go Go.RowKit Go.Proofs.Ytpclkgjhfhhddaa.PN
set_option linter.unusedVariables false
set_option linter.unusedSimpArgs false
set_option maxRecDepth 100000 in
set_option maxHeartbeats 1000000 in
theorem r_less (A : Option Addr) (c a : Nat) (A' : Option Addr) (c' b : Nat) (w : World) (ha : At w A a (size a)) (hb : At w A' b (size b)) (hn : size a ≤ 17592186044415) (hm : size b ≤ 17592186044415) (hab : b ≤ a) :
    Calls Try.prog 91 #[.slice A (size a) c, .slice A' (size b) c'] w (MadeNat w (a - b)) := by
  obtain ⟨i0, hi, hz0, hz1, hz2⟩ := info_parts info_u32
  obtain ⟨t, ht⟩ : ∃ t, t = a - b := ⟨_, rfl⟩
  rw [← ht]
  have HT : Hid (a = b + t) := by show _ = _; omega
  have hsz : t < B ^ size a := Nat.lt_of_le_of_lt (by omega) (lt_size a)
  have hs := Lib.hid hsz
  have sa := Lib.hid (lt_size a); have sb := Lib.hid (lt_size b)
  have HA := Lib.hid ha
  have HB := Lib.hid hb
  clear ha hb ht hsz hab
  generalize size a = n at *
  generalize size b = m at *
  go_enter Try.func91, Try.ntmps91
  go_wp2_with (at_make; refine wpList_make_full _ rfl _ _ 41 rfl w.heap.size U32 i0 (.int .u32 0) 1 Try.underlying41 hi hz0 hz1 _ _ _ _ n rfl rfl (by omega) (by omega) (by rw [hz2]; omega) (by unfold maxLen; omega) (Nat.le_refl _) ?_; intro w1 hown hgrow; have HL := Lib.hid (Lb.of_own hown); have HK := Lib.hid (Kept.grown (Below.refl _ _) hgrow (fun k hk => by cases hk) : Kept w w1); clear hown hgrow)
  go_loopw [6, 7] (fun cy i wr => ∃ (k : Nat) (xs : List Nat), k ≤ n ∧ i = .int .i64 k ∧ cy = .int .u64 (car b t k : Nat) ∧ Hid (xs.length = n ∧ ∀ j, j < k → xs.getD j 0 = dig t j) ∧ Hid (Lb wr w.heap.size xs) ∧ Hid (Kept w wr)) (fun _ i _ => n - (intOf i).toNat)
  case atStart => exact ⟨0, _, Nat.zero_le _, rfl, by rw [car_zero]; rfl, ⟨by simp, fun j hj => absurd hj (Nat.not_lt_zero j)⟩, HL, HK⟩
  case round =>
    clear HL HK
    obtain ⟨k, xs, hk, rfl, rfl, HX, HL, HK⟩ := hrel
    have hcar := car_le b t k
    by_cases hlt : k < n
    · obtain ⟨p, hp⟩ : ∃ p, dig a k = p := ⟨_, rfl⟩
      obtain ⟨q, hq⟩ : ∃ q, dig b k = q := ⟨_, rfl⟩
      obtain ⟨d, hd⟩ : ∃ d, dig t k = d := ⟨_, rfl⟩
      have hp1 : p < 4294967296 := by rw [← hp]; exact dig_lt a k
      have hq1 : q < 4294967296 := by rw [← hq]; exact dig_lt b k
      have hd1 : d < 4294967296 := by rw [← hd]; exact dig_lt t k
      have HC := Lib.hid (car_succ b t k)
      have HD := Lib.hid (dig_add b t k)
      rw [← HT.out, hp] at HD
      rw [hq, hd] at HC HD
      have HP := Lib.hid hp
      have HQ := Lib.hid hq
      have HE := Lib.hid hd
      have c0 := HL.out.cell (i := k) (by rw [HX.out.1]; omega)
      have z0 := HL.out.free k
      clear hp hq hd
      generalize car b t k = y at *
      generalize xs.getD k 0 = x0 at c0
      obtain ⟨v, hv⟩ : ∃ v, IntKind.u64.wrap (IntKind.u64.wrap ((p : Int) - q) - y) = v := ⟨_, rfl⟩
      have hv0 : 0 ≤ v ∧ v < 18446744073709551616 := by rw [← hv, u64_wrap]; omega
      have HV : Hid (v % 4294967296 = d ∧ v / 9223372036854775808 = ((y + q + d) / B : Nat)) := by
        have h1 : p = (y + q + d) % B := HD.out
        rw [u64_wrap, u64_wrap] at hv
        simp only [B] at h1 ⊢
        refine ⟨?_, ?_⟩ <;> omega
      obtain ⟨hv1, hv2⟩ := hv0
      go_wp2_with (go_at_call 90; first | ((with_reducible refine (r_atp _ _ a _ k p _ (HA.out.kept HK.out) sa.out (by omega) HP.out).mono ?_); rintro e w' ⟨rfl, rfl⟩) | ((with_reducible refine (r_atp _ _ b _ k q _ (HB.out.kept HK.out) sb.out (by omega) HQ.out).mono ?_); rintro e w' ⟨rfl, rfl⟩))
      go_roundw
      case measure => simp [intOf]; omega
      case rel => exact ⟨k + 1, xs.set k d, by omega, by go_num, int_eq (by rw [HC.out]; exact HV.out.2), first_set HX.out hlt HE.out.symm, HL.out.put k _ HV.out.1, HK.out.set (Nat.le_refl _) _ _⟩
    · have HE := Lib.hid (show k = n by omega)
      go_wp2_with (go_at_call 76; refine (r_trim _ _ t _ _ (Nat.le_refl _) ((Lb.dg HL.out HX.out.1 (s := t) (fun i hi => HX.out.2 i (by rw [HE.out]; exact hi)) (S := fun _ => True) trivial).at_own) hs.out (by omega)).mono ?_; rintro e w' ⟨v, rfl, hv, hk⟩)
      go_ret
      exact MadeDg.after HK.out ⟨_, rfl, hv, hk⟩
end Go.Proofs.Ytpclkgjhfhhddaa.V
/- The document's natural numbers: walks: products. -/
namespace Go.Proofs.Ytpclkgjhfhhddaa.V
open Go Go.RowKit Go.Proofs.Ytpclkgjhfhhddaa.PN
set_option linter.unusedVariables false
set_option linter.unusedSimpArgs false
set_option maxRecDepth 100000 in
set_option maxHeartbeats 2000000 in
theorem r_mul (A : Option Addr) (c a : Nat) (A' : Option Addr) (c' b : Nat) (w : World) (ha : At w A a (size a)) (hb : At w A' b (size b)) (hn : size a ≤ 8796093022207) (hm : size b ≤ 8796093022207) :
    Calls Try.prog 62 #[.slice A (size a) c, .slice A' (size b) c'] w (MadeNat w (a * b)) := by
  obtain ⟨i0, hi, hz0, hz1, hz2⟩ := info_parts info_u32
  have HS : Hid (a * b < B ^ (size a + size b)) := by
    show _ < _
    rw [Nat.pow_add]; exact Nat.mul_lt_mul'' (lt_size a) (lt_size b)
  have sa := Lib.hid (lt_size a); have sb := Lib.hid (lt_size b)
  have HA := Lib.hid ha
  have HB := Lib.hid hb
  clear ha hb
  generalize size a = n at *
  generalize size b = m at *
  go_enter Try.func62, Try.ntmps62
  go_wp2_with (at_make; refine wpList_make_full _ rfl _ _ 41 rfl w.heap.size U32 i0 (.int .u32 0) 1 Try.underlying41 hi hz0 hz1 _ _ _ _ (n + m) rfl rfl (by omega) (by omega) (by rw [hz2]; omega) (by unfold maxLen; omega) (Nat.le_refl _) ?_; intro w1 hown hgrow; have HL := Lib.hid (Lb.of_own hown); have HK := Lib.hid (Kept.grown (Below.refl _ _) hgrow (fun k hk => by cases hk) : Kept w w1); clear hown hgrow)
  go_loopw [6] (fun v wr => ∃ (i : Nat) (xs : List Nat), i ≤ n ∧ v = .int .i64 i ∧ Hid (xs.length = n + m ∧ ∀ j, j < n + m → xs.getD j 0 = dig ((a % B ^ i) * b) j) ∧ Hid (Lb wr w.heap.size xs) ∧ Hid (Kept w wr)) (fun v _ => n - (intOf v).toNat)
  case atStart => exact ⟨0, _, Nat.zero_le _, rfl, ⟨by simp, fun j hj => by rw [Nat.pow_zero, Nat.mod_one, Nat.zero_mul, dig_of_zero]; simp [hj]⟩, HL, HK⟩
  case round =>
    clear HL HK
    obtain ⟨i, xs, hi', rfl, HX, HL, HK⟩ := hrel
    by_cases hlt : i < n
    · obtain ⟨b1, o1, rfl, c1⟩ := HA.out i hlt
      obtain ⟨x, hx⟩ : ∃ x, dig a i = x := ⟨_, rfl⟩
      have hx1 : x < 4294967296 := by rw [← hx]; exact dig_lt a i
      rw [hx] at c1
      replace c1 := HK.out.cell c1
      have HQ := Lib.hid hx
      clear hx
      obtain ⟨wo, rfl⟩ : ∃ wo : World, wo = wr := ⟨_, rfl⟩
      go_wp2
      have HM := Lib.hid (MulAt.first (n := m) HX.out (by omega))
      clear HX
      go_loopw [7, 8] (fun cy v wr => ∃ (k : Nat) (xs : List Nat), k ≤ m ∧ v = .int .i64 k ∧ cy = .int .u64 (mcar a b i m k : Nat) ∧ Hid (MulAt a b i m k (n + m) xs) ∧ Hid (Lb wr w.heap.size xs) ∧ Hid (Kept w wr)) (fun _ v _ => m - (intOf v).toNat)
      case atStart => exact ⟨0, _, Nat.zero_le _, rfl, by rw [mcar_zero]; rfl, HM, HL, HK⟩
      case round =>
        clear HM HL HK c1
        obtain ⟨k, xs, hk, rfl, rfl, HM, HL, HK⟩ := hrel
        by_cases hlk : k < m
        · obtain ⟨b2, o2, rfl, c2⟩ := HB.out k hlk
          replace c2 := HK.out.cell c2
          have c1 : wr.cell? ⟨b1, o1 + i, none⟩ = some (.int .u32 (x : Int)) := by
            obtain ⟨b3, o3, e, c3⟩ := HA.out i hlt
            injection e with e; injection e with e1 e2; subst e1; subst e2
            rw [← HQ.out]; exact HK.out.cell c3
          obtain ⟨y, hy⟩ : ∃ y, dig b k = y := ⟨_, rfl⟩
          obtain ⟨z, hz⟩ : ∃ z, dig ((a % B ^ i) * b) (i + k) = z := ⟨_, rfl⟩
          obtain ⟨cy, hcy⟩ : ∃ cy, mcar a b i m k = cy := ⟨_, rfl⟩
          have hy1 : y < 4294967296 := by rw [← hy]; exact dig_lt b k
          have hz1' : z < 4294967296 := by rw [← hz]; exact dig_lt _ _
          have hc1 : cy < 4294967296 := by rw [← hcy]; exact mcar_lt _ _ _ _ _
          have c0 := HL.out.cell (i := i + k) (by rw [HM.out.1]; omega)
          rw [HM.out.2.2 (i + k) (Nat.le_refl _) (by omega), hz] at c0
          rw [hy] at c2
          have z0 := HL.out.free (i + k)
          have hfit := mul_fit (x := x) (y := y) (z := z) hx1 hy1 hz1' cy hc1
          obtain ⟨t, ht⟩ : ∃ t : Nat, x * y = t := ⟨_, rfl⟩
          have ht' : (x : Int) * (y : Int) = (t : Int) := by rw [← ht]; exact (Int.natCast_mul x y).symm
          rw [ht] at hfit
          have e1 : IntKind.i64.wrap ((i : Int) + k) = (i : Int) + k := IntWalk.i64_in _ (by omega)
          have e2 : ((i : Int) + k).toNat = i + k := by omega
          have e3 : IntKind.u64.wrap ((cy : Int) + t) = (cy : Int) + t := by rw [u64_wrap]; omega
          have e4 : IntKind.u64.wrap ((cy : Int) + (t : Int) + z) = (cy : Int) + (t : Int) + z := by rw [u64_wrap]; omega
          have e8 : (i : Int) < (n : Int) := by omega
          have e9 : (0 : Int) ≤ (i : Int) := by omega
          have e5 : IntKind.u64.wrap (t : Int) = (t : Int) := by rw [u64_wrap]; omega
          have e6 : (0 : Int) ≤ (i : Int) + k := by omega
          have e7 : (i : Int) + k < (n : Int) + m := by omega
          have HC := Lib.hid (mcar_succ a b i m k)
          rw [HQ.out, hy, hz, hcy, ht] at HC
          have HN : Hid (∀ v, v = (cy + t + z) % B → MulAt a b i m (k + 1) (n + m) (xs.set (i + k) v)) := fun v hv => MulAt.step HM.out (by omega) (by rw [hcy, HQ.out, hy, ht, hz]; exact hv)
          have HY := Lib.hid hy
          rw [hcy]
          clear hy hz hcy ht HM
          go_wp2
          go_quiet (fail)
          clear e1 e2 e3 e4 e5 e6 e7 e8 e9 ht' c1 c2
          go_wp2
          go_roundw
          case measure => simp [intOf]; omega
          case rel => exact ⟨k + 1, xs.set (i + k) ((cy + t + z) % B), by omega, by go_num, int_eq (by rw [HC.out]; simp only [B]; omega), HN.out _ rfl, (HL.out.kept (Kept.drewN _ _)).put (i + k) _ (by simp only [B]; omega), (HK.out.then (Kept.drewN _ _)).set (Nat.le_refl _) _ _⟩
        · have HE := Lib.hid (show k = m by omega)
          have z0 := HL.out.free (i + m)
          have c0 := HL.out.cell (i := i + m) (by rw [HM.out.1]; omega)
          have hc1 : mcar a b i m k < 4294967296 := mcar_lt _ _ _ _ _
          obtain ⟨cy, hcy⟩ : ∃ cy, mcar a b i m k = cy := ⟨_, rfl⟩
          have HN : Hid (∀ v, v = cy → (xs.set (i + m) v).length = n + m ∧ ∀ j, j < n + m → (xs.set (i + m) v).getD j 0 = dig ((a % B ^ (i + 1)) * b) j) := fun v hv => by
            have h := HM.out
            rw [HE.out] at h hcy
            exact MulAt.last h sb.out (by omega) (by rw [hcy]; exact hv)
          rw [hcy] at hc1 ⊢
          generalize xs.getD (i + m) 0 = x0 at c0
          clear hcy HM
          go_wp2
          go_roundw
          case measure => simp [intOf]; omega
          case rel => exact ⟨i + 1, xs.set (i + m) cy, by omega, by go_num, HN.out _ rfl, HL.out.put (i + m) _ (by omega), HK.out.set (Nat.le_refl _) _ _⟩
    · have HE := Lib.hid (show i = n by omega)
      go_wp2_with (go_at_call 76; refine (r_trim _ _ (a * b) _ _ (Nat.le_refl _) ((Lb.dg HL.out HX.out.1 (s := a * b) (fun j hj => by have := HX.out.2 j hj; rw [HE.out, Nat.mod_eq_of_lt sa.out] at this; exact this) (S := fun _ => True) trivial).at_own) HS.out (by omega)).mono ?_; rintro e w' ⟨v, rfl, hv, hk⟩)
      go_ret
      exact MadeDg.after HK.out ⟨_, rfl, hv, hk⟩
end Go.Proofs.Ytpclkgjhfhhddaa.V
/- The document's natural numbers: walks: Sub, Bits. -/
namespace Go.Proofs.Ytpclkgjhfhhddaa.V
open Go Go.RowKit Go.Proofs.Ytpclkgjhfhhddaa.PN
set_option linter.unusedVariables false
set_option linter.unusedSimpArgs false
set_option maxHeartbeats 1000000 in
theorem r_sub (A : Option Addr) (c a : Nat) (A' : Option Addr) (c' b : Nat) (w : World) (ha : At w A a (size a)) (hb : At w A' b (size b)) (hn : size a ≤ 17592186044415) (hm : size b ≤ 17592186044415) (hab : b ≤ a) :
    Calls Try.prog 65 #[.slice A (size a) c, .slice A' (size b) c'] w (MadeDgOk w (a - b) (size (a - b)) 0) := by
  have HC := Lib.hid (r_cmp A c a A' c' b w ha hb (by omega) (by omega))
  have hcmp : decide (cmpI a b < 0) = false := by
    have := @cmp_neg a b
    rw [decide_eq_false_iff_not, this]; omega
  have HL : Hid (∀ w1, Kept w w1 → Calls Try.prog 91 #[.slice A (size a) c, .slice A' (size b) c'] w1 (MadeNat w1 (a - b))) := fun w1 hk => r_less A c a A' c' b w1 (ha.kept hk) (hb.kept hk) hn hm hab
  clear ha hb
  generalize size a = n at *
  generalize size b = m at *
  generalize cmpI a b = cm at *
  go_enter Try.func65, Try.ntmps65
  go_wp2_with (first | (go_at_call 61; refine HC.out.mono ?_; rintro e w1 ⟨rfl, hk1⟩; have HK1 := Lib.hid hk1; clear hk1) | (go_at_call 91; refine (HL.out _ HK1.out).mono ?_; rintro e w2 ⟨v2, rfl, hv2, hk2⟩; have HV2 := Lib.hid hv2; have HK2 := Lib.hid hk2; clear hv2 hk2))
  go_ret2
  exact ⟨_, rfl, HV2.out.mono (fun j hj _ => Nat.le_trans HK1.out.size hj), HK1.out.then HK2.out⟩
/-- How many binary digits. -/
def IsBits (a L : Nat) : Prop := a < 2 ^ L ∧ (a ≠ 0 → 2 ^ L ≤ 2 * a) ∧ L ≤ 32 * size a
theorem isBits_top {a n d j : Nat} (hn : size a = n + 1) (hd : dig a n = d) (h1 : d < 2 ^ j) (h2 : 2 ^ j ≤ 2 * d) (hj : j ≤ 32) : IsBits a (32 * n + j) := by
  have e : (2 : Nat) ^ (32 * n + j) = B ^ n * 2 ^ j := by rw [Nat.pow_add, Nat.pow_mul]
  have hs : a = B ^ n * d + a % B ^ n := by
    have h := Nat.div_add_mod a (B ^ n)
    have hlt : a / B ^ n < B := by
      have h9 := lt_size a
      rw [hn, Nat.pow_succ] at h9
      exact Nat.div_lt_of_lt_mul h9
    have : dig a n = a / B ^ n := by unfold dig; exact Nat.mod_eq_of_lt hlt
    rw [← hd, this]; exact h.symm
  have hr := mod_lt a n
  generalize a % B ^ n = r at *
  refine ⟨?_, fun _ => ?_, by omega⟩
  · rw [e]
    have : B ^ n * (d + 1) ≤ B ^ n * 2 ^ j := Nat.mul_le_mul_left _ h1
    rw [Nat.mul_add, Nat.mul_one] at this
    omega
  · rw [e]
    have := Nat.mul_le_mul_left (B ^ n) h2
    rw [Nat.mul_left_comm] at this
    omega
set_option maxHeartbeats 1000000 in
theorem r_bits (A : Option Addr) (c a : Nat) (w : World) (ha : At w A a (size a)) (hn : size a ≤ 17592186044415) :
    Calls Try.prog 92 #[.slice A (size a) c] w fun e w' => (∃ L : Nat, e = .returned (.int .i64 (L : Int)) ∧ IsBits a L) ∧ w = w' := by
  rcases Nat.eq_zero_or_pos a with h | h
  · subst h
    have hz : size 0 = 0 := size_zero
    have hb : IsBits 0 0 := ⟨by decide, fun h => absurd rfl h, Nat.zero_le _⟩
    have HB := Lib.hid hb
    rw [hz] at *
    clear ha hz hb
    go_enter Try.func92, Try.ntmps92
    go_wp2
    go_ret
    exact ⟨⟨0, rfl, HB.out⟩, rfl⟩
  · obtain ⟨n, hsz⟩ : ∃ n, size a = n + 1 := ⟨size a - 1, by have := size_pos (s := a) (by omega); omega⟩
    obtain ⟨b1, o1, rfl, c1⟩ := ha n (by omega)
    obtain ⟨d, hd⟩ : ∃ d, dig a n = d := ⟨_, rfl⟩
    have hd1 : d < 4294967296 := by rw [← hd]; exact dig_lt _ _
    have hd0 : 0 < d := by
      have := top_ne (s := a) (by omega)
      rw [hsz, Nat.add_sub_cancel, hd] at this; omega
    rw [hd] at c1
    have HT : Hid (∀ j, d < 2 ^ j → 2 ^ j ≤ 2 * d → j ≤ 32 → IsBits a (32 * n + j)) := fun j => isBits_top hsz hd
    have hn' : n + 1 ≤ 17592186044416 := by omega
    clear ha hd h hn
    rw [hsz]
    clear hsz
    go_enter Try.func92, Try.ntmps92
    have e1 : IntKind.i64.wrap (32 * (n : Int)) = 32 * (n : Int) := IntWalk.i64_in _ (by omega)
    go_wp2
    go_loop [3, 4] (fun u v => ∃ (j x : Nat), j ≤ 32 ∧ x < 4294967296 ∧ u = .int .i64 (32 * (n : Int) + j) ∧ v = .int .u32 (x : Int) ∧ Hid (x = d / 2 ^ j ∧ 2 ^ j ≤ 2 * d)) (fun _ v => (intOf v).toNat)
    case atStart => exact ⟨0, d, by omega, hd1, by simp, rfl, by simp, by omega⟩
    case round =>
      obtain ⟨j, x, hj, hx1, rfl, rfl, HX⟩ := hrel
      rcases Nat.eq_zero_or_pos x with h | h
      · subst h
        have hlt := (Nat.div_eq_zero_iff_lt (Nat.pow_pos (by decide : 0 < 2))).1 HX.out.1.symm
        have HL := Lib.hid (HT.out j hlt HX.out.2 hj)
        clear hlt
        go_wp2
        go_ret
        exact ⟨⟨32 * n + j, by push_cast; rfl, HL.out⟩, rfl⟩
      · have hj' : j < 32 := by
          rcases Nat.lt_or_ge j 32 with h' | h'
          · exact h'
          · have h1 := HX.out.1
            rw [Nat.div_eq_of_lt (Nat.lt_of_lt_of_le hd1 (Nat.pow_le_pow_right (n := 2) (by decide) h'))] at h1
            omega
        have HN : Hid (x / 2 = d / 2 ^ (j + 1) ∧ 2 ^ (j + 1) ≤ 2 * d) := by
          obtain ⟨h1, h2⟩ := HX.out
          have h3 : 2 ^ j ≤ d := by
            rcases Nat.lt_or_ge d (2 ^ j) with h' | h'
            · rw [Nat.div_eq_of_lt h'] at h1; omega
            · exact h'
          exact ⟨by rw [h1, Nat.pow_succ, Nat.div_div_eq_div_mul], by rw [Nat.pow_succ]; omega⟩
        clear HX
        go_wp2
        go_round
        case rel => exact ⟨j + 1, x / 2, by omega, by omega, by go_num, by go_num, HN⟩
        case measure => simp [intOf]; omega
end Go.Proofs.Ytpclkgjhfhhddaa.V
/- The document's natural numbers: walks: shifts. -/
namespace Go.Proofs.Ytpclkgjhfhhddaa.V
open Go Go.RowKit Go.Proofs.Ytpclkgjhfhhddaa.PN
set_option linter.unusedVariables false
set_option linter.unusedSimpArgs false
/-- What has been shifted so far: i limbs. -/
def ShlAt (a s w n i : Nat) (xs : List Nat) : Prop :=
  xs.length = n + w + 1 ∧ (∀ j, j < w → xs.getD j 0 = 0) ∧ (∀ j, j < i → xs.getD (w + j) 0 = dig (a * 2 ^ s) j) ∧ xs.getD (w + i) 0 = (if i = 0 then 0 else dig a (i - 1) * 2 ^ s / B)
theorem ShlAt.step {a s w n i r h : Nat} {xs : List Nat} (H : ShlAt a s w n i xs) (hi : i < n) (hr : r = dig (a * 2 ^ s) i) (hh : h = dig a i * 2 ^ s / B) : ShlAt a s w n (i + 1) ((xs.set (i + w) r).set (i + w + 1) h) := by
  obtain ⟨h1, h2, h3, h4⟩ := H
  refine ⟨by simp [h1], fun j hj => ?_, fun j hj => ?_, ?_⟩
  · rw [getD_set_other (by omega), getD_set_other (by omega)]; exact h2 j hj
  · rw [getD_set_other (by omega)]
    by_cases e : j = i
    · subst e
      rw [show w + j = j + w by omega, getD_set_self (by omega), hr]
    · rw [getD_set_other (by omega)]; exact h3 j (by omega)
  · rw [show w + (i + 1) = i + w + 1 by omega, getD_set_self (by rw [List.length_set]; omega), if_neg (by omega), hh, Nat.add_sub_cancel]
theorem ShlAt.last {a s w n : Nat} {xs : List Nat} (H : ShlAt a s w n n xs) (hs : s ≤ 32) (ha : a < B ^ n) : ∀ j, j < n + w + 1 → xs.getD j 0 = dig (a * 2 ^ s * B ^ w) j := by
  obtain ⟨h1, h2, h3, h4⟩ := H
  intro j hj
  rcases Nat.lt_or_ge j w with h | h
  · rw [h2 j h]
    have := dig_low (s := 0) (t := a * 2 ^ s) h
    rw [Nat.zero_add, Nat.mul_comm] at this
    rw [this, dig_of_zero]
  · obtain ⟨t, rfl⟩ : ∃ t, j = w + t := ⟨j - w, by omega⟩
    have e : dig (a * 2 ^ s * B ^ w) (w + t) = dig (a * 2 ^ s) t := by
      have := dig_shift (s := 0) (t := a * 2 ^ s) (m := w) (j := t) (Nat.pow_pos (by decide))
      rw [Nat.zero_add, Nat.mul_comm] at this
      exact this
    rw [e]
    by_cases ht : t = n
    · subst ht
      rw [h4, dig_shl a s t hs, dig_over ha (Nat.le_refl _), Nat.zero_mul, Nat.zero_mod, Nat.zero_add]
    · exact h3 t (by omega)
theorem zeros_get (N j : Nat) : (List.replicate N 0).getD j 0 = 0 := by
  rw [List.getD_eq_getElem?_getD, List.getElem?_replicate]; split <;> rfl
theorem or_u32_r {l p k : Nat} (hk : k ≤ 32) (hp : p < 2 ^ k) (h : l * 2 ^ k < 4294967296) : bits .or .u32 (p : Int) ((l * 2 ^ k : Nat) : Int) = ((l * 2 ^ k + p : Nat) : Int) := by
  have h2 : p < 4294967296 := Nat.lt_of_lt_of_le hp (Nat.le_trans (Nat.pow_le_pow_right (by decide) hk) (by decide))
  rw [u32_or_nat _ _ h2 h, Nat.or_comm, ← Nat.shiftLeft_eq, Nat.shiftLeft_add_eq_or_of_lt hp]
set_option maxRecDepth 100000 in
set_option maxHeartbeats 2000000 in
theorem r_shl (A : Option Addr) (c a k : Nat) (w : World) (ha : At w A a (size a)) (hc : size a ≤ c) (hn : size a ≤ 1000000) (hk : k ≤ 1048576) :
    Calls Try.prog 93 #[.slice A (size a) c, .int .i64 (k : Int)] w (MadeNat w (a * 2 ^ k)) := by
  rcases Nat.eq_zero_or_pos a with h0 | h0
  · subst h0
    have HT := Lib.hid (r_trim A c 0 0 w (Nat.zero_le _) (by rw [← size_zero]; exact ha) (by decide) (by omega))
    rw [Nat.zero_mul, size_zero]
    clear ha hn hc
    have d1 : decide ((1048576 : Int) < (k : Int)) = false := by simp; omega
    clear hk
    go_enter Try.func93, Try.ntmps93
    go_wp2_with (go_at_call 76; refine HT.out.mono ?_; rintro e w1 ⟨v1, rfl, hv1, hk1⟩)
    go_ret
    exact ⟨_, rfl, hv1, hk1⟩
  obtain ⟨i0, hi, hz0, hz1, hz2⟩ := info_parts info_u32
  obtain ⟨q, hq⟩ : ∃ q, k / 32 = q := ⟨_, rfl⟩
  obtain ⟨s, hs⟩ : ∃ s, k % 32 = s := ⟨_, rfl⟩
  have hs32 : s < 32 := by omega
  have hq1 : q ≤ 32768 := by omega
  have e2 : a * 2 ^ k = a * 2 ^ s * B ^ q := by
    have : (2 : Nat) ^ k = 2 ^ s * B ^ q := by
      rw [show k = s + 32 * q by omega, Nat.pow_add, Nat.pow_mul]
    rw [this, Nat.mul_assoc]
  rw [e2]
  have HS : Hid (a * 2 ^ s * B ^ q < B ^ (size a + q + 1)) := by
    show _ < _
    rw [show size a + q + 1 = (size a + 1) + q by omega, Nat.pow_add B (size a + 1)]
    refine Nat.mul_lt_mul_of_pos_right ?_ (Bp q)
    rw [Nat.pow_succ]
    exact Nat.mul_lt_mul_of_lt_of_le (lt_size a) (Nat.le_trans (Nat.pow_le_pow_right (by decide) (Nat.le_of_lt hs32)) (by decide)) (by decide)
  have sa := Lib.hid (lt_size a)
  have k1 : (k : Int) / 32 = (q : Int) := by omega
  have k2 : (k : Int) % 32 = (s : Int) := by omega
  have d1 : decide ((1048576 : Int) < (k : Int)) = false := by simp; omega
  have d2 : ((size a : Int) == 0) = false := by
    have := size_pos (s := a) (by omega)
    simp; omega
  have k3 : IntKind.u64.wrap (s : Int) = (s : Int) := by rw [u64_wrap]; omega
  have HA := Lib.hid ha
  clear ha hk h0 e2 hq hs
  generalize size a = n at *
  go_enter Try.func93, Try.ntmps93
  have k4 : IntKind.i64.wrap ((n : Int) + q) = (n : Int) + q := IntWalk.i64_in _ (by omega)
  have k5 : IntKind.i64.wrap ((n : Int) + q + 1) = (n : Int) + q + 1 := IntWalk.i64_in _ (by omega)
  go_wp2_with (at_make; refine wpList_make_full _ rfl (.tmp 32) (.tmp 32) 41 rfl w.heap.size U32 i0 (.int .u32 0) 1 Try.underlying41 hi hz0 hz1 _ _ _ _ (n + q + 1) rfl rfl (by omega) (by omega) (by rw [hz2]; omega) (by unfold maxLen; omega) (Nat.le_refl _) ?_; intro w1 hown hgrow; have HL := Lib.hid (Lb.of_own hown); have HK := Lib.hid (Kept.grown (Below.refl _ _) hgrow (fun k hk => by cases hk) : Kept w w1); clear hown hgrow)
  go_loopw [8] (fun v wr => ∃ (i : Nat) (xs : List Nat), i ≤ n ∧ v = .int .i64 i ∧ Hid (ShlAt a s q n i xs) ∧ Hid (Lb wr w.heap.size xs) ∧ Hid (Kept w wr)) (fun v _ => n - (intOf v).toNat)
  case atStart => exact ⟨0, _, Nat.zero_le _, rfl, ⟨by simp, fun j hj => zeros_get _ _, fun j hj => absurd hj (Nat.not_lt_zero j), zeros_get _ _⟩, HL, HK⟩
  case round =>
    clear HL HK
    obtain ⟨i, xs, hi', rfl, HX, HL, HK⟩ := hrel
    by_cases hlt : i < n
    · obtain ⟨b1, o1, rfl, c1⟩ := HA.out i hlt
      obtain ⟨p, hp⟩ : ∃ p, dig a i = p := ⟨_, rfl⟩
      have hp1 : p < 4294967296 := by rw [← hp]; exact dig_lt _ _
      rw [hp] at c1
      replace c1 := HK.out.cell c1
      obtain ⟨e, he⟩ : ∃ e, (if i = 0 then 0 else dig a (i - 1) * 2 ^ s / B) = e := ⟨_, rfl⟩
      have he1 : e < 2 ^ s := by
        have := (shl_car a s i (by omega)).2
        rw [(shl_car a s i (by omega)).1, he] at this; exact this
      have c0 := HL.out.cell (i := i + q) (by rw [HX.out.1]; omega)
      have z0 := HL.out.free (i + q)
      have z1 := HL.out.free (i + q + 1)
      have c2 := HL.out.cell (i := i + q + 1) (by rw [HX.out.1]; omega)
      rw [show xs.getD (i + q) 0 = e by rw [Nat.add_comm]; rw [HX.out.2.2.2, he]] at c0
      have HD := dig_shl a s i (by omega)
      rw [hp, he] at HD
      have h2k : 2 ^ s < 4294967296 := Nat.pow_lt_pow_right (by decide) hs32
      obtain ⟨P, hP⟩ : ∃ P, p * 2 ^ s = P := ⟨_, rfl⟩
      have f1 := mul_fit (x := p) (y := 2 ^ s) (z := 0) hp1 h2k (by decide) 0 (by decide)
      have f3 := shl_low (p := p) (k := s) (by omega) hp1
      have f4 := shl_mod (p := p) (k := s) (by omega)
      have f5 : p % 2 ^ (32 - s) * 2 ^ s < 4294967296 := by rw [← f4]; exact Nat.mod_lt _ (by decide)
      have hor := or_u32_r (l := p % 2 ^ (32 - s)) (p := e) (k := s) (by omega) he1 f5
      rw [← f4] at hor
      have i1 : (p : Int) * 2 ^ s = (P : Int) := by rw [← hP]; simp
      rw [hP] at HD f1 f3 f4 hor
      have i3 : IntKind.u64.wrap (P : Int) = (P : Int) := by rw [u64_wrap]; omega
      obtain ⟨p2, hp2⟩ : ∃ p2, P % B = p2 := ⟨_, rfl⟩
      obtain ⟨q2, hq2⟩ : ∃ q2, P / B = q2 := ⟨_, rfl⟩
      rw [hp2] at HD hor
      have i5 : IntKind.u32.wrap (P : Int) = (p2 : Int) := by rw [u32_wrap, ← hp2]; simp only [B]; omega
      have i6 : (P : Int) / 4294967296 = (q2 : Int) := by rw [← hq2]; simp only [B]; omega
      have i7 : IntKind.u32.wrap (q2 : Int) = (q2 : Int) := by rw [u32_wrap]; simp only [B] at hq2; omega
      have i8 : IntKind.i64.wrap ((i : Int) + q) = (i : Int) + q := IntWalk.i64_in _ (by omega)
      have i9 : IntKind.i64.wrap ((i : Int) + q + 1) = (i : Int) + q + 1 := IntWalk.i64_in _ (by omega)
      have j1 : ((i : Int) + q).toNat = i + q := by omega
      have j2 : ((i : Int) + q + 1).toNat = i + q + 1 := by omega
      obtain ⟨r, hr⟩ : ∃ r, p2 + e = r := ⟨_, rfl⟩
      rw [hr] at HD hor
      have HN : Hid (ShlAt a s q n (i + 1) ((xs.set (i + q) r).set (i + q + 1) q2)) := ShlAt.step HX.out hlt HD.symm (by rw [hp, hP, hq2])
      have hlen := HX.out.1
      have HLen := Lib.hid hlen
      clear hp HD f1 f3 f4 f5 hP hp2 hq2 hr h2k he he1 HX hlen
      generalize xs.getD (i + q + 1) 0 = x0 at c2
      go_wp2
      go_roundw
      case measure => simp [intOf]; omega
      case rel => exact ⟨i + 1, _, by omega, by go_num, HN, (HL.out.put (i + q) _ rfl).put (i + q + 1) _ rfl, (HK.out.set (Nat.le_refl _) _ _).set (Nat.le_refl _) _ _⟩
    · have HE := Lib.hid (show i = n by omega)
      have HF : Hid (∀ j, j < n + q + 1 → xs.getD j 0 = dig (a * 2 ^ s * B ^ q) j) := by
        have h := HX.out
        rw [HE.out] at h
        exact h.last (by omega) sa.out
      go_wp2_with (go_at_call 76; refine (r_trim _ _ (a * 2 ^ s * B ^ q) _ _ (Nat.le_refl _) ((Lb.dg HL.out HX.out.1 (s := a * 2 ^ s * B ^ q) HF.out (S := fun _ => True) trivial).at_own) HS.out (by omega)).mono ?_; rintro e w' ⟨v, rfl, hv, hk⟩)
      go_ret
      exact MadeDg.after HK.out ⟨_, rfl, hv, hk⟩
end Go.Proofs.Ytpclkgjhfhhddaa.V
/- The document's natural numbers: walks: half of a number. -/
namespace Go.Proofs.Ytpclkgjhfhhddaa.V
open Go Go.RowKit Go.Proofs.Ytpclkgjhfhhddaa.PN
set_option linter.unusedVariables false
set_option linter.unusedSimpArgs false
set_option maxRecDepth 100000 in
set_option maxHeartbeats 2000000 in
theorem r_half (A : Option Addr) (c a : Nat) (w : World) (ha : At w A a (size a)) (hn : size a ≤ 8796093022207) :
    Calls Try.prog 94 #[.slice A (size a) c, .int .i64 1] w (MadeNat w (a / 2)) := by
  rcases Nat.eq_zero_or_pos a with h0 | h0
  · subst h0
    rw [size_zero, Nat.zero_div]
    clear ha hn
    go_enter Try.func94, Try.ntmps94
    go_wp2
    go_ret
    exact ⟨_, rfl, by rw [size_zero]; exact Dg.nil _ _ _, Below.refl _ _⟩
  obtain ⟨i0, hi, hz0, hz1, hz2⟩ := info_parts info_u32
  have HS : Hid (a / 2 < B ^ size a) := Nat.lt_of_le_of_lt (Nat.div_le_self _ _) (lt_size a)
  have sa := Lib.hid (lt_size a)
  have hpos : 0 < size a := by
    have := size_pos (s := a) (by omega)
    omega
  have d2 : decide ((size a : Int) ≤ 0) = false := by simp; omega
  have HA := Lib.hid ha
  clear ha h0
  generalize size a = n at *
  go_enter Try.func94, Try.ntmps94
  go_wp2_with (at_make; refine wpList_make_full _ rfl (.tmp 29) (.tmp 29) 41 rfl w.heap.size U32 i0 (.int .u32 0) 1 Try.underlying41 hi hz0 hz1 _ _ _ _ n rfl rfl (by omega) (by omega) (by rw [hz2]; omega) (by unfold maxLen; omega) (Nat.le_refl _) ?_; intro w1 hown hgrow; have HL := Lib.hid (Lb.of_own hown); have HK := Lib.hid (Kept.grown (Below.refl _ _) hgrow (fun k hk => by cases hk) : Kept w w1); clear hown hgrow)
  go_loopw [8] (fun v wr => ∃ (i : Nat) (xs : List Nat), i ≤ n ∧ v = .int .i64 i ∧ Hid (xs.length = n ∧ ∀ j, j < i → xs.getD j 0 = dig (a / 2) j) ∧ Hid (Lb wr w.heap.size xs) ∧ Hid (Kept w wr)) (fun v _ => n - (intOf v).toNat)
  case atStart => exact ⟨0, _, Nat.zero_le _, rfl, ⟨by simp, fun j hj => absurd hj (Nat.not_lt_zero j)⟩, HL, HK⟩
  case round =>
    clear HL HK
    obtain ⟨i, xs, hi', rfl, HX, HL, HK⟩ := hrel
    by_cases hlt : i < n
    · obtain ⟨p, hp⟩ : ∃ p, dig a i = p := ⟨_, rfl⟩
      obtain ⟨q, hq⟩ : ∃ q, dig a (i + 1) = q := ⟨_, rfl⟩
      have hp1 : p < 4294967296 := by rw [← hp]; exact dig_lt _ _
      have hq1 : q < 4294967296 := by rw [← hq]; exact dig_lt _ _
      have HP := Lib.hid hp
      have HQ := Lib.hid hq
      have c0 := HL.out.cell (i := i) (by rw [HX.out.1]; omega)
      have z0 := HL.out.free i
      generalize xs.getD i 0 = x0 at c0
      obtain ⟨t, ht⟩ : ∃ t, q * B + p = t := ⟨_, rfl⟩
      have hor : bits .or .u64 (p : Int) ((q : Int) * 4294967296) = (t : Int) := by
        rw [← ht]
        exact or_u64' (k := 32) (by decide) hp1 (by omega)
      have ht1 : t < 18446744073709551616 := by rw [← ht]; simp only [B]; omega
      have HD := dig_shr a 1 i (by omega)
      rw [hp, hq, Nat.add_comm, ht, Nat.pow_one] at HD
      have HD' := Lib.hid HD
      have j1 : ((i + 1 : Nat) : Int) = (i : Int) + 1 := by omega
      have HC : Hid (∀ w1, Kept w w1 → Calls Try.prog 90 #[.slice A n c, .int .i64 ((i : Int) + 1)] w1 fun e w' => e = .returned (.int .u64 (q : Int)) ∧ w1 = w') := fun w1 hk => by
        rw [← j1]; exact r_atp _ _ a _ (i + 1) q _ (HA.out.kept hk) sa.out (by omega) HQ.out
      clear hp hq ht HD j1
      go_wp2_with (go_at_call 90; first | ((with_reducible refine (r_atp _ _ a _ i p _ (HA.out.kept HK.out) sa.out (by omega) HP.out).mono ?_); rintro e w' ⟨rfl, rfl⟩) | ((with_reducible refine (HC.out _ HK.out).mono ?_); rintro e w' ⟨rfl, rfl⟩))
      go_roundw
      case measure => simp [intOf]; omega
      case rel => exact ⟨i + 1, xs.set i (t / 2 % B), by omega, by go_num, first_set HX.out hlt HD'.out.symm, HL.out.put i _ (by simp only [B]; omega), HK.out.set (Nat.le_refl _) _ _⟩
    · have HE := Lib.hid (show i = n by omega)
      go_wp2_with (go_at_call 76; refine (r_trim _ _ (a / 2) _ _ (Nat.le_refl _) ((Lb.dg HL.out HX.out.1 (s := a / 2) (fun i hi => HX.out.2 i (by rw [HE.out]; exact hi)) (S := fun _ => True) trivial).at_own) HS.out (by omega)).mono ?_; rintro e w' ⟨v, rfl, hv, hk⟩)
      go_ret
      exact MadeDg.after HK.out ⟨_, rfl, hv, hk⟩
end Go.Proofs.Ytpclkgjhfhhddaa.V

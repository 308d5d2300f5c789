/- Joined texts, 12: SRatG AmP LDet LMul. -/
import Derived.Test.YtdnmoggifjlbiaaGreatJLawTurnedSums11
import Derived.Test.YtdnmoggifjlbiaaGreatJLawTurnedSums9
import Derived.Test.YtdnmoggifjlbiaaGreatJLawTurnedSums10
set_option linter.unusedVariables false
set_option linter.unusedSimpArgs false
/- The document's rational numbers: walks: sums. -/
namespace Go.Proofs.YtdnmoggifjlbiaaGreat.V
open Go Go.RowKit Go.Proofs.YtdnmoggifjlbiaaGreat.PN
set_option linter.unusedVariables false
set_option linter.unusedSimpArgs false
set_option maxHeartbeats 4000000 in
theorem s_add {w : World} {s s' : Bool} {vn vd vn' vd' : Value} {p q : Rat} [hp : RatAt w s vn vd p] [hq : RatAt w s' vn' vd' q] (hs : wt p ≤ 15000) (hs' : wt q ≤ 15000) :
    Calls Tryz.prog 21 #[.agg #[.bool s, vn, vd], .agg #[.bool s', vn', vd']] w (MadeRat w (p + q)) := by
  obtain ⟨rfl, hn, hd⟩ := hp.out
  obtain ⟨rfl, hn', hd'⟩ := hq.out
  obtain ⟨An, cn, rfl, _, _⟩ := hn.at
  obtain ⟨Ad, cd, rfl, _, _⟩ := hd.at
  obtain ⟨An', cn', rfl, _, _⟩ := hn'.at
  obtain ⟨Ad', cd', rfl, _, _⟩ := hd'.at
  have HN := Lib.hid (NatS.lift hn); have HD := Lib.hid (NatS.lift hd); have HN' := Lib.hid (NatS.lift hn'); have HD' := Lib.hid (NatS.lift hd')
  clear hn hd hn' hd' hp hq
  have b1 := wt_num p; have b2 := wt_den p; have b3 := wt_num q; have b4 := wt_den q
  have b5 := size_mul (nm p) q.den; have b6 := size_mul (nm q) p.den; have b7 := size_mul p.den q.den
  have b8 := size_add (nm p * q.den) (nm q * p.den) 30000 (by omega) (by omega)
  have hz := Nat.mul_ne_zero p.den_nz q.den_nz
  have HZ := Lib.hid hz; clear hz
  by_cases hng : ng p = ng q
  · have hb : (ng p == ng q) = true := by rw [hng]; simp
    rw [add_parts_same _ _ hng]
    clear hng
    go_enter Tryz.func21, Tryz.ntmps21
    have iN := HN.out; have iD := HD.out; have iN' := HN'.out; have iD' := HD'.out
    go_wp2
    go_region_held3 (fun w' => Kept w w' ∧ w'.cell? ⟨w.heap.size, 0, none⟩ = some (.bool (ng p)) ∧ w'.cell? ⟨w.heap.size, 1, none⟩ = some (Value.slice An (size (nm p)) cn) ∧ w'.cell? ⟨w.heap.size, 2, none⟩ = some (Value.slice Ad (size p.den) cd) ∧ w'.cell? ⟨w.heap.size + 1, 0, none⟩ = some (.bool (ng q)) ∧ w'.cell? ⟨w.heap.size + 1, 1, none⟩ = some (Value.slice An' (size (nm q)) cn') ∧ w'.cell? ⟨w.heap.size + 1, 2, none⟩ = some (Value.slice Ad' (size q.den) cd'))
      (first | exact two_step (by assumption) (by assumption) | assumption | (refine ⟨Kept.three _ _ _ _, ?_⟩; simp [go_sem, World.cell?_alloc_past]))
      (first
        | (go_at_call 56; first | (refine Calls.mono (r_mul_v (a := nm p) (b := q.den) (by omega) (by omega)) ?_; rintro e w1 ⟨v1, rfl, hv1, hk1⟩; have i1 := NatS.lift hv1; have u1 := Kept.chain hk1) | (refine Calls.mono (r_mul_v (a := nm q) (b := p.den) (by omega) (by omega)) ?_; rintro e w2 ⟨v2, rfl, hv2, hk2⟩; have i2 := NatS.lift hv2; have u2 := Kept.chain hk2)))
    obtain ⟨hK, g0, g1, g2, g3, g4, g5⟩ := ‹Kept w w2 ∧ _›
    have hr := Kept.row hk2 (Kept.row hk1 (Kept.row (Kept.drew _) (row_newAt (g := w.heap.size + 1 + 1) _ _ _ (by simp))))
    have HR2 := Lib.hid hr; have HK2 := Lib.hid hK
    clear hk1 hk2 hv1 hv2 hr hK
    go_wp2_with (go_at_call 56; refine Calls.mono (r_mul_v (a := p.den) (b := q.den) (by omega) (by omega)) ?_; rintro e w3 ⟨v3, rfl, hv3, hk3⟩; have i3 := NatS.lift hv3; have u3 := Kept.chain hk3; have k0 := hk3.cell g0; have k3 := hk3.cell g3; have HR := Lib.hid (Kept.row hk3 HR2.out); have HK := Lib.hid (Kept.then HK2.out hk3); clear hv3 hk3)
    go_region_held3 (fun w' => Kept w w' ∧ w'.cell? ⟨w.heap.size, 0, none⟩ = some (.bool (ng p)))
      (first | exact one_step (by assumption) (by assumption) | exact one_set (by assumption) (by omega) (by omega) | assumption | exact ⟨Kept.then HK.out (Kept.drew _), k0⟩)
      (first
        | (go_at_call 58; refine Calls.mono (r_add_v (a := nm p * q.den) (b := nm q * p.den) (by omega) (by omega)) ?_; rintro e w4 ⟨v4, rfl, hv4, hk4⟩; have i4 := NatS.lift hv4; have u4 := Kept.chain hk4)
        | (go_at_call 57; refine Calls.mono (s_made (n := nm p * q.den + nm q * p.den) (d := p.den * q.den) (by omega) (by omega) HZ.out) ?_; rintro e w5 ⟨s5, vn5, vd5, rfl, hq5, hk5⟩; obtain ⟨An5, cn5, rfl, _, _⟩ := hq5.2.1.at; obtain ⟨Ad5, cd5, rfl, _, _⟩ := hq5.2.2.at; have hr5 := Kept.row hk5 (Kept.row hk4 (Kept.row (Kept.drew _) HR.out)); obtain ⟨c0, c1, c2, f0, f1, f2⟩ := three hr5))
    go_wp2
    exact ret_rat rfl rfl rfl hr5 (by omega) (Kept.then HK.out (Kept.then (Kept.drew _) (Kept.then hk4 hk5))) hq5
  · have hb : (ng p == ng q) = false := by simpa using hng
    rcases Nat.lt_or_ge (nm p * q.den) (nm q * p.den) with hlt | hge
    · rw [add_parts_lt _ _ hng (Nat.le_of_lt hlt)]
      have b9 := size_le_of_le (Nat.sub_le (nm q * p.den) (nm p * q.den))
      have hc : decide (cmpI (nm p * q.den) (nm q * p.den) < 0) = true := decide_eq_true (cmp_neg.2 hlt)
      have hle := Lib.hid hlt
      clear hng hlt
      go_enter Tryz.func21, Tryz.ntmps21
      have iN := HN.out; have iD := HD.out; have iN' := HN'.out; have iD' := HD'.out
      go_wp2
      go_region_held3 (fun w' => Kept w w' ∧ w'.cell? ⟨w.heap.size, 0, none⟩ = some (.bool (ng p)) ∧ w'.cell? ⟨w.heap.size, 1, none⟩ = some (Value.slice An (size (nm p)) cn) ∧ w'.cell? ⟨w.heap.size, 2, none⟩ = some (Value.slice Ad (size p.den) cd) ∧ w'.cell? ⟨w.heap.size + 1, 0, none⟩ = some (.bool (ng q)) ∧ w'.cell? ⟨w.heap.size + 1, 1, none⟩ = some (Value.slice An' (size (nm q)) cn') ∧ w'.cell? ⟨w.heap.size + 1, 2, none⟩ = some (Value.slice Ad' (size q.den) cd'))
        (first | exact two_step (by assumption) (by assumption) | assumption | (refine ⟨Kept.three _ _ _ _, ?_⟩; simp [go_sem, World.cell?_alloc_past]))
        (first
          | (go_at_call 56; first | (refine Calls.mono (r_mul_v (a := nm p) (b := q.den) (by omega) (by omega)) ?_; rintro e w1 ⟨v1, rfl, hv1, hk1⟩; have i1 := NatS.lift hv1; have u1 := Kept.chain hk1) | (refine Calls.mono (r_mul_v (a := nm q) (b := p.den) (by omega) (by omega)) ?_; rintro e w2 ⟨v2, rfl, hv2, hk2⟩; have i2 := NatS.lift hv2; have u2 := Kept.chain hk2)))
      obtain ⟨hK, g0, g1, g2, g3, g4, g5⟩ := ‹Kept w w2 ∧ _›
      have hr := Kept.row hk2 (Kept.row hk1 (Kept.row (Kept.drew _) (row_newAt (g := w.heap.size + 1 + 1) _ _ _ (by simp))))
      have HR2 := Lib.hid hr; have HK2 := Lib.hid hK
      clear hk1 hk2 hv1 hv2 hr hK
      go_wp2_with (first
        | (go_at_call 56; refine Calls.mono (r_mul_v (a := p.den) (b := q.den) (by omega) (by omega)) ?_; rintro e w3 ⟨v3, rfl, hv3, hk3⟩; have i3 := NatS.lift hv3; have u3 := Kept.chain hk3; have k0 := hk3.cell g0; have k3 := hk3.cell g3; have HR := Lib.hid (Kept.row hk3 HR2.out); have HK := Lib.hid (Kept.then HK2.out hk3); clear hv3 hk3)
        | (go_at_call 59; refine Calls.mono (r_cmp_v (a := nm p * q.den) (b := nm q * p.den) (by omega) (by omega)) ?_; rintro e w4 ⟨rfl, hk4⟩; have u4 := Kept.chain hk4; have m4 := hk4.cell k3; have HK4 := Lib.hid hk4; clear hk4)
        | (go_at_call 60; refine Calls.mono (r_sub_v (a := nm q * p.den) (b := nm p * q.den) (by omega) (by omega) (Nat.le_of_lt hle.out)) ?_; rintro e w5 ⟨v5, rfl, hv5, hk5⟩; have i5 := NatS.lift hv5; have u5 := Kept.chain hk5; have m5 := hk5.cell m4; have HK5 := Lib.hid hk5; clear hk5 hv5)
        | (go_at_call 57; refine Calls.mono (s_made (n := nm q * p.den - nm p * q.den) (d := p.den * q.den) (by omega) (by omega) HZ.out) ?_; rintro e w6 ⟨s6, vn6, vd6, rfl, hq6, hk6⟩; obtain ⟨An6, cn6, rfl, _, _⟩ := hq6.2.1.at; obtain ⟨Ad6, cd6, rfl, _, _⟩ := hq6.2.2.at; have hr6 := Kept.row hk6 (Kept.row HK5.out (Kept.row HK4.out HR.out)); obtain ⟨c0, c1, c2, f0, f1, f2⟩ := three hr6; have HQ6 := Lib.hid hq6; have HK6 := Lib.hid hk6; have HR6 := Lib.hid hr6; clear hq6 hk6 hr6))
      exact ret_rat rfl rfl rfl HR6.out (by omega) (Kept.then HK.out (Kept.then HK4.out (Kept.then HK5.out HK6.out))) HQ6.out
    · rw [add_parts_ge _ _ hng hge]
      have b9 := size_le_of_le (Nat.sub_le (nm p * q.den) (nm q * p.den))
      have hc : decide (cmpI (nm p * q.den) (nm q * p.den) < 0) = false := decide_eq_false (fun h => by have := cmp_neg.1 h; omega)
      have hle := Lib.hid hge
      clear hng hge
      go_enter Tryz.func21, Tryz.ntmps21
      have iN := HN.out; have iD := HD.out; have iN' := HN'.out; have iD' := HD'.out
      go_wp2
      go_region_held3 (fun w' => Kept w w' ∧ w'.cell? ⟨w.heap.size, 0, none⟩ = some (.bool (ng p)) ∧ w'.cell? ⟨w.heap.size, 1, none⟩ = some (Value.slice An (size (nm p)) cn) ∧ w'.cell? ⟨w.heap.size, 2, none⟩ = some (Value.slice Ad (size p.den) cd) ∧ w'.cell? ⟨w.heap.size + 1, 0, none⟩ = some (.bool (ng q)) ∧ w'.cell? ⟨w.heap.size + 1, 1, none⟩ = some (Value.slice An' (size (nm q)) cn') ∧ w'.cell? ⟨w.heap.size + 1, 2, none⟩ = some (Value.slice Ad' (size q.den) cd'))
        (first | exact two_step (by assumption) (by assumption) | assumption | (refine ⟨Kept.three _ _ _ _, ?_⟩; simp [go_sem, World.cell?_alloc_past]))
        (first
          | (go_at_call 56; first | (refine Calls.mono (r_mul_v (a := nm p) (b := q.den) (by omega) (by omega)) ?_; rintro e w1 ⟨v1, rfl, hv1, hk1⟩; have i1 := NatS.lift hv1; have u1 := Kept.chain hk1) | (refine Calls.mono (r_mul_v (a := nm q) (b := p.den) (by omega) (by omega)) ?_; rintro e w2 ⟨v2, rfl, hv2, hk2⟩; have i2 := NatS.lift hv2; have u2 := Kept.chain hk2)))
      obtain ⟨hK, g0, g1, g2, g3, g4, g5⟩ := ‹Kept w w2 ∧ _›
      have hr := Kept.row hk2 (Kept.row hk1 (Kept.row (Kept.drew _) (row_newAt (g := w.heap.size + 1 + 1) _ _ _ (by simp))))
      have HR2 := Lib.hid hr; have HK2 := Lib.hid hK
      clear hk1 hk2 hv1 hv2 hr hK
      go_wp2_with (first
        | (go_at_call 56; refine Calls.mono (r_mul_v (a := p.den) (b := q.den) (by omega) (by omega)) ?_; rintro e w3 ⟨v3, rfl, hv3, hk3⟩; have i3 := NatS.lift hv3; have u3 := Kept.chain hk3; have k0 := hk3.cell g0; have k3 := hk3.cell g3; have HR := Lib.hid (Kept.row hk3 HR2.out); have HK := Lib.hid (Kept.then HK2.out hk3); clear hv3 hk3)
        | (go_at_call 59; refine Calls.mono (r_cmp_v (a := nm p * q.den) (b := nm q * p.den) (by omega) (by omega)) ?_; rintro e w4 ⟨rfl, hk4⟩; have u4 := Kept.chain hk4; have m4 := hk4.cell k0; have HK4 := Lib.hid hk4; clear hk4)
        | (go_at_call 60; refine Calls.mono (r_sub_v (a := nm p * q.den) (b := nm q * p.den) (by omega) (by omega) hle.out) ?_; rintro e w5 ⟨v5, rfl, hv5, hk5⟩; have i5 := NatS.lift hv5; have u5 := Kept.chain hk5; have m5 := hk5.cell m4; have HK5 := Lib.hid hk5; clear hk5 hv5)
        | (go_at_call 57; refine Calls.mono (s_made (n := nm p * q.den - nm q * p.den) (d := p.den * q.den) (by omega) (by omega) HZ.out) ?_; rintro e w6 ⟨s6, vn6, vd6, rfl, hq6, hk6⟩; obtain ⟨An6, cn6, rfl, _, _⟩ := hq6.2.1.at; obtain ⟨Ad6, cd6, rfl, _, _⟩ := hq6.2.2.at; have hr6 := Kept.row hk6 (Kept.row HK5.out (Kept.row HK4.out HR.out)); obtain ⟨c0, c1, c2, f0, f1, f2⟩ := three hr6; have HQ6 := Lib.hid hq6; have HK6 := Lib.hid hk6; have HR6 := Lib.hid hr6; clear hq6 hk6 hr6))
      exact ret_rat rfl rfl rfl HR6.out (by omega) (Kept.then HK.out (Kept.then HK4.out (Kept.then HK5.out HK6.out))) HQ6.out
end Go.Proofs.YtdnmoggifjlbiaaGreat.V
/- The contracts of rational numbers, in the abstract state's words. -/
namespace Go.Proofs.YtdnmoggifjlbiaaGreat.AM
open Go Go.RowKit Go.Proofs.YtdnmoggifjlbiaaGreat.PN Go.Proofs.YtdnmoggifjlbiaaGreat.V
set_option linter.unusedVariables false
set_option linter.unusedSimpArgs false
/-- A number, as a value. -/
abbrev AV.q (p : Rat) : AV := .ra (.q p)
/-- An integer, as a value. -/
abbrev AV.i (n : Int) : AV := .v (.int .i64 n)
abbrev AV.b (b : Bool) : AV := .v (.bool b)
theorem rvs0 {S : Nat → Prop} {B : Nat} {β : Nat → Nat → Value} {w : World} {vs : List Value} (h : RVs S B β w [] vs) : vs = [] := List.eq_nil_of_length_eq_zero h.1.symm
theorem rvs1 {S : Nat → Prop} {B : Nat} {β : Nat → Nat → Value} {w : World} {x : AV} {vs : List Value} (h : RVs S B β w [x] vs) : ∃ v, vs = [v] ∧ RV S B β w x v := by
  match vs, h with
  | [v], h => exact ⟨v, rfl, h.2 0 x v rfl rfl⟩
  | [], h => exact absurd h.1 (by simp)
  | _ :: _ :: _, h => exact absurd h.1 (by simp)
theorem rvs2 {S : Nat → Prop} {B : Nat} {β : Nat → Nat → Value} {w : World} {x y : AV} {vs : List Value} (h : RVs S B β w [x, y] vs) : ∃ v u, vs = [v, u] ∧ RV S B β w x v ∧ RV S B β w y u := by
  match vs, h with
  | [v, u], h => exact ⟨v, u, rfl, h.2 0 x v rfl rfl, h.2 1 y u rfl rfl⟩
  | [], h => exact absurd h.1 (by simp)
  | [_], h => exact absurd h.1 (by simp)
  | _ :: _ :: _ :: _, h => exact absurd h.1 (by simp)
theorem rat_at {S : Nat → Prop} {B : Nat} {β : Nat → Nat → Value} {w : World} {p : Rat} {v : Value} (h : RV S B β w (.q p) v) : ∃ s vn vd, v = .agg #[.bool s, vn, vd] ∧ RatAt w s vn vd p := by
  obtain ⟨s, vn, vd, e, h1, h2, h3⟩ := h
  exact ⟨s, vn, vd, e, ⟨h1, h2, h3⟩⟩
theorem rat_rv {S : Nat → Prop} {B : Nat} {β : Nat → Nat → Value} {w : World} {p : Rat} {s : Bool} {vn vd : Value} (h : RatS w (fun _ => True) s vn vd p) : RV S B β w (.q p) (.agg #[.bool s, vn, vd]) := ⟨s, vn, vd, rfl, h.1, h.2.1, h.2.2⟩
theorem has_rat0 {f : FuncId} {r : Rat} (hB : callB Tryz.prog f = true) (h : ∀ w, Calls Tryz.prog f #[] w (MadeRat w r)) : Has Tryz.prog f [] (.q r) := by
  refine ⟨hB, trivial, fun w S β vs hv => ?_⟩
  rw [rvs0 hv]
  refine (h w).mono ?_
  rintro e w' ⟨s, vn, vd, rfl, h1, h2⟩
  exact ⟨_, rfl, h2, rat_rv h1⟩
theorem has_rat1 {f : FuncId} {p r : Rat} (hB : callB Tryz.prog f = true) (h : ∀ w s vn vd, RatAt w s vn vd p → Calls Tryz.prog f #[.agg #[.bool s, vn, vd]] w (MadeRat w r)) : Has Tryz.prog f [.q p] (.q r) := by
  refine ⟨hB, trivial, fun w S β vs hv => ?_⟩
  obtain ⟨v, rfl, h1⟩ := rvs1 hv
  obtain ⟨s, vn, vd, rfl, hp⟩ := rat_at h1
  refine (h w s vn vd hp).mono ?_
  rintro e w' ⟨s, vn, vd, rfl, h1, h2⟩
  exact ⟨_, rfl, h2, rat_rv h1⟩
theorem has_rat2 {f : FuncId} {p q r : Rat} (hB : callB Tryz.prog f = true) (h : ∀ w s vn vd s' vn' vd', RatAt w s vn vd p → RatAt w s' vn' vd' q → Calls Tryz.prog f #[.agg #[.bool s, vn, vd], .agg #[.bool s', vn', vd']] w (MadeRat w r)) : Has Tryz.prog f [.q p, .q q] (.q r) := by
  refine ⟨hB, trivial, fun w S β vs hv => ?_⟩
  obtain ⟨v, u, rfl, h1, h2⟩ := rvs2 hv
  obtain ⟨s, vn, vd, rfl, hp⟩ := rat_at h1
  obtain ⟨s', vn', vd', rfl, hq⟩ := rat_at h2
  refine (h w s vn vd s' vn' vd' hp hq).mono ?_
  rintro e w' ⟨s, vn, vd, rfl, h1, h2⟩
  exact ⟨_, rfl, h2, rat_rv h1⟩
theorem h_mul {p q : Rat} (hs : wt p ≤ 1000000000000) (hs' : wt q ≤ 1000000000000) : Has Tryz.prog 134 [.q p, .q q] (.q (p * q)) := has_rat2 (by kernel_rfl) fun w s vn vd s' vn' vd' hp hq => mul_rat hs hs'
theorem h_add {p q : Rat} (hs : wt p ≤ 1000000000000) (hs' : wt q ≤ 1000000000000) : Has Tryz.prog 127 [.q p, .q q] (.q (p + q)) := has_rat2 (by kernel_rfl) fun w s vn vd s' vn' vd' hp hq => add_rat hs hs'
theorem h_sub {p q : Rat} (hs : wt p ≤ 1000000000000) (hs' : wt q ≤ 1000000000000) : Has Tryz.prog 135 [.q p, .q q] (.q (p - q)) := has_rat2 (by kernel_rfl) fun w s vn vd s' vn' vd' hp hq => sub_rat hs hs'
theorem h_neg {p : Rat} (hs : wt p ≤ 1000000000000) : Has Tryz.prog 155 [.q p] (.q (-p)) := has_rat1 (by kernel_rfl) fun w s vn vd hp => neg_rat hs
theorem h_right {p : Rat} (hs : wt p ≤ 1000000000000) : Has Tryz.prog 76 [.q p] (.b true) := by
  refine ⟨by kernel_rfl, trivial, fun w S β vs hv => ?_⟩
  obtain ⟨v, rfl, h1⟩ := rvs1 hv
  obtain ⟨s, vn, vd, rfl, hp⟩ := rat_at h1
  refine (right_rat hs).mono ?_
  rintro e w' ⟨rfl, h2⟩
  exact ⟨_, rfl, h2, rfl⟩
theorem h_quo {p q : Rat} (hs : wt p ≤ 1000000000000) (hs' : wt q ≤ 1000000000000) (h0 : q ≠ 0) : Has Tryz.prog 113 [.q p, .q q] (.tup (.q (p / q)) (.i 0)) := by
  refine ⟨by kernel_rfl, ⟨trivial, trivial⟩, fun w S β vs hv => ?_⟩
  obtain ⟨v, u, rfl, h1, h2⟩ := rvs2 hv
  obtain ⟨s, vn, vd, rfl, hp⟩ := rat_at h1
  obtain ⟨s', vn', vd', rfl, hq⟩ := rat_at h2
  refine (quo_rat hs hs' h0).mono ?_
  rintro e w' ⟨s, vn, vd, rfl, h1, h2⟩
  exact ⟨_, rfl, h2, _, _, rfl, rat_rv h1, rfl⟩
theorem hs_mul {p q : Rat} (hs : wt p ≤ 15000) (hs' : wt q ≤ 15000) : Has Tryz.prog 29 [.q p, .q q] (.q (p * q)) := has_rat2 (by kernel_rfl) fun w s vn vd s' vn' vd' hp hq => s_mul hs hs'
theorem hs_add {p q : Rat} (hs : wt p ≤ 15000) (hs' : wt q ≤ 15000) : Has Tryz.prog 21 [.q p, .q q] (.q (p + q)) := has_rat2 (by kernel_rfl) fun w s vn vd s' vn' vd' hp hq => s_add hs hs'
theorem hs_over {p q : Rat} (hs : wt p ≤ 15000) (hs' : wt q ≤ 15000) (h0 : q ≠ 0) : Has Tryz.prog 62 [.q p, .q q] (.q (p / q)) := has_rat2 (by kernel_rfl) fun w s vn vd s' vn' vd' hp hq => s_over hs hs' h0
theorem hs_zero : Has Tryz.prog 20 [] (.q 0) := has_rat0 (by kernel_rfl) s_zero
theorem hs_int (n : Int) (h1 : -9223372036854775808 ≤ n) (h2 : n < 9223372036854775808) : Has Tryz.prog 22 [.i n] (.q (n : Rat)) := by
  refine ⟨by kernel_rfl, trivial, fun w S β vs hv => ?_⟩
  obtain ⟨v, rfl, h3⟩ := rvs1 hv
  have h3 : v = .int .i64 n := h3
  subst h3
  refine (s_int n w h1 h2).mono ?_
  rintro e w' ⟨s, vn, vd, rfl, h1, h2⟩
  exact ⟨_, rfl, h2, rat_rv h1⟩
theorem hs_nought {p : Rat} : Has Tryz.prog 38 [.q p] (.b (decide (p = 0))) := by
  refine ⟨by kernel_rfl, trivial, fun w S β vs hv => ?_⟩
  obtain ⟨v, rfl, h1⟩ := rvs1 hv
  obtain ⟨s, vn, vd, rfl, hp⟩ := rat_at h1
  refine s_nought.mono ?_
  rintro e w' ⟨rfl, h2⟩
  exact ⟨_, rfl, h2, rfl⟩
theorem hs_same {p q : Rat} (hs : wt p ≤ 1000000000000) (hs' : wt q ≤ 1000000000000) : Has Tryz.prog 23 [.q p, .q q] (.b (decide (p = q))) := by
  refine ⟨by kernel_rfl, trivial, fun w S β vs hv => ?_⟩
  obtain ⟨v, u, rfl, h1, h2⟩ := rvs2 hv
  obtain ⟨s, vn, vd, rfl, hp⟩ := rat_at h1
  obtain ⟨s', vn', vd', rfl, hq⟩ := rat_at h2
  refine (s_same hs hs').mono ?_
  rintro e w' ⟨rfl, h2⟩
  exact ⟨_, rfl, h2, rfl⟩
end Go.Proofs.YtdnmoggifjlbiaaGreat.AM
/- Determinants of matrices of rational numbers, by the first column; what row steps do to them. -/
namespace Go.Proofs.YtdnmoggifjlbiaaGreat.LA
abbrev Mt := Nat → Nat → Rat
def S : Nat → (Nat → Rat) → Rat
  | 0, _ => 0
  | n + 1, f => S n f + f n
theorem S_zero (f : Nat → Rat) : S 0 f = 0 := rfl
theorem S_succ (n : Nat) (f : Nat → Rat) : S (n + 1) f = S n f + f n := rfl
theorem S_congr {n : Nat} {f g : Nat → Rat} (h : ∀ i, i < n → f i = g i) : S n f = S n g := by
  induction n with
  | zero => rfl
  | succ n ih => rw [S_succ, S_succ, ih (fun i hi => h i (by omega)), h n (by omega)]
theorem S_nought (n : Nat) : S n (fun _ => 0) = 0 := by
  induction n with
  | zero => rfl
  | succ n ih => rw [S_succ, ih]; grind
theorem S_null {n : Nat} {f : Nat → Rat} (h : ∀ i, i < n → f i = 0) : S n f = 0 := by rw [S_congr (g := fun _ => 0) h, S_nought]
theorem S_add (n : Nat) (f g : Nat → Rat) : S n (fun i => f i + g i) = S n f + S n g := by
  induction n with
  | zero => simp only [S_zero]; grind
  | succ n ih => simp only [S_succ, ih]; grind
theorem S_mul (n : Nat) (c : Rat) (f : Nat → Rat) : S n (fun i => c * f i) = c * S n f := by
  induction n with
  | zero => simp only [S_zero]; grind
  | succ n ih => simp only [S_succ, ih]; grind
theorem S_mulr (n : Nat) (c : Rat) (f : Nat → Rat) : S n (fun i => f i * c) = S n f * c := by
  induction n with
  | zero => simp only [S_zero]; grind
  | succ n ih => simp only [S_succ, ih]; grind
theorem S_swap (n m : Nat) (f : Nat → Nat → Rat) : S n (fun i => S m (fun j => f i j)) = S m (fun j => S n (fun i => f i j)) := by
  induction n with
  | zero => simp only [S_zero]; rw [S_nought]
  | succ n ih => simp only [S_succ, ih]; rw [S_add]
theorem S_append (m n : Nat) (f : Nat → Rat) : S (m + n) f = S m f + S n (fun i => f (m + i)) := by
  induction n with
  | zero => simp only [S_zero, Nat.add_zero]; grind
  | succ n ih => rw [← Nat.add_assoc, S_succ, S_succ, ih]; grind
theorem S_first (n : Nat) (f : Nat → Rat) : S (n + 1) f = f 0 + S n (fun i => f (i + 1)) := by
  rw [Nat.add_comm n 1, S_append]
  rw [S_congr (n := n) (f := fun i => f (1 + i)) (g := fun i => f (i + 1)) (fun i _ => by rw [Nat.add_comm])]
  simp only [S_succ, S_zero]; grind
theorem S_single {n k : Nat} (hk : k < n) {f : Nat → Rat} (h : ∀ i, i < n → i ≠ k → f i = 0) : S n f = f k := by
  induction n with
  | zero => omega
  | succ n ih =>
    rw [S_succ]
    by_cases e : k = n
    · subst e
      rw [S_null (fun i hi => h i (by omega) (by omega))]; grind
    · rw [ih (by omega) (fun i hi hne => h i (by omega) hne), h n (by omega) (by omega)]; grind
theorem S_pair {n k l : Nat} (hkl : k < l) (hl : l < n) {f : Nat → Rat} (h : ∀ i, i < n → i ≠ k → i ≠ l → f i = 0) : S n f = f k + f l := by
  obtain ⟨d, rfl⟩ : ∃ d, n = l + d := ⟨n - l, by omega⟩
  rw [S_append, S_single hkl (fun i hi hne => h i (by omega) hne (by omega)), S_single (k := 0) (by omega) (fun i hi hne => h (l + i) (by omega) (by omega) (by omega))]
  rfl
theorem S_cut {m n : Nat} (hmn : m ≤ n) {f : Nat → Rat} (h : ∀ i, m ≤ i → i < n → f i = 0) : S n f = S m f := by
  obtain ⟨d, rfl⟩ : ∃ d, n = m + d := ⟨n - m, by omega⟩
  rw [S_append, S_null (fun i hi => h (m + i) (by omega) (by omega))]; grind
theorem S_rev (n : Nat) (f : Nat → Rat) : S n (fun i => f (n - 1 - i)) = S n f := by
  induction n generalizing f with
  | zero => rfl
  | succ n ih =>
    rw [S_first, S_succ, ← ih f]
    rw [S_congr (g := fun i => f (n - 1 - i)) (fun i hi => by congr 1; omega)]
    rw [show n + 1 - 1 - 0 = n from by omega]; grind
def sg (i : Nat) : Rat := if i % 2 = 0 then 1 else -1
theorem sg_succ (i : Nat) : sg (i + 1) = - sg i := by
  unfold sg
  by_cases e : i % 2 = 0
  · rw [if_pos e, if_neg (by omega)]
  · rw [if_neg e, if_pos (by omega)]; rfl
def skip (i r : Nat) : Nat := if r < i then r else r + 1
def del (i : Nat) (A : Mt) : Mt := fun r c => A (skip i r) (c + 1)
def det : Nat → Mt → Rat
  | 0, _ => 1
  | n + 1, A => S (n + 1) (fun i => sg i * A i 0 * det n (del i A))
def upd (A : Mt) (a : Nat) (v : Nat → Rat) : Mt := fun i j => if i = a then v j else A i j
theorem upd_at (A : Mt) (a : Nat) (v : Nat → Rat) (j : Nat) : upd A a v a j = v j := by unfold upd; rw [if_pos rfl]
theorem upd_ne (A : Mt) {a i : Nat} (v : Nat → Rat) (j : Nat) (h : i ≠ a) : upd A a v i j = A i j := by unfold upd; rw [if_neg h]
theorem det_congr {n : Nat} : ∀ {A B : Mt}, (∀ i j, i < n → j < n → A i j = B i j) → det n A = det n B := by
  induction n with
  | zero => intro A B _; rfl
  | succ n ih =>
    intro A B h
    unfold det
    refine S_congr fun i hi => ?_
    rw [h i 0 hi (by omega), ih (A := del i A) (B := del i B)]
    intro r c hr hc
    unfold del skip
    split <;> exact h _ _ (by omega) (by omega)
theorem del_upd_ne (A : Mt) (a : Nat) (v : Nat → Rat) {i : Nat} (h : i ≠ a) : del i (upd A a v) = upd (del i A) (if a < i then a else a - 1) (fun j => v (j + 1)) := by
  funext r c
  show (if skip i r = a then v (c + 1) else A (skip i r) (c + 1)) = (if r = (if a < i then a else a - 1) then v (c + 1) else A (skip i r) (c + 1))
  have : (skip i r = a) ↔ (r = (if a < i then a else a - 1)) := by unfold skip; split <;> split <;> omega
  simp only [this]
theorem del_upd_at (A : Mt) (a : Nat) (v : Nat → Rat) : del a (upd A a v) = del a A := by
  funext r c
  unfold del upd skip
  by_cases h2 : r < a
  · rw [if_pos h2, if_neg (by omega)]
  · rw [if_neg h2, if_neg (by omega)]
theorem det_lin (n : Nat) : ∀ (A : Mt) (a : Nat), a < n → ∀ (f g : Rat) (u v : Nat → Rat), det n (upd A a (fun j => f * u j + g * v j)) = f * det n (upd A a u) + g * det n (upd A a v) := by
  induction n with
  | zero => intro A a h; omega
  | succ n ih =>
    intro A a ha f g u v
    unfold det
    rw [← S_mul, ← S_mul, ← S_add]
    refine S_congr fun i hi => ?_
    by_cases e : i = a
    · subst e
      rw [del_upd_at, del_upd_at, del_upd_at, upd_at, upd_at, upd_at]; grind
    · rw [del_upd_ne A a _ e, del_upd_ne A a _ e, del_upd_ne A a _ e, upd_ne A _ _ e, upd_ne A _ _ e, upd_ne A _ _ e]
      have ha' : (if a < i then a else a - 1) < n := by split <;> omega
      rw [ih (del i A) _ ha' f g (fun j => u (j + 1)) (fun j => v (j + 1))]; grind
theorem det_adj (n : Nat) : ∀ (A : Mt) (a : Nat), a + 1 < n → (∀ j, j < n → A a j = A (a + 1) j) → det n A = 0 := by
  induction n with
  | zero => intro A a h; omega
  | succ n ih =>
    intro A a ha heq
    unfold det
    rw [S_pair (k := a) (l := a + 1) (by omega) ha]
    · have hd : det n (del a A) = det n (del (a + 1) A) := by
        refine det_congr fun r c hr hc => ?_
        unfold del skip
        by_cases h1 : r < a
        · rw [if_pos h1, if_pos (by omega)]
        · rw [if_neg h1]
          by_cases h2 : r = a
          · subst h2; rw [if_pos (by omega)]; exact (heq (c + 1) (by omega)).symm
          · rw [if_neg (by omega)]
      rw [sg_succ, hd, heq 0 (by omega)]; grind
    · intro i hi h1 h2
      have : det n (del i A) = 0 := by
        by_cases h3 : i < a
        · refine ih (del i A) (a - 1) (by omega) fun j hj => ?_
          unfold del skip
          rw [if_neg (by omega), if_neg (by omega), show a - 1 + 1 = a from by omega]
          exact heq (j + 1) (by omega)
        · refine ih (del i A) a (by omega) fun j hj => ?_
          unfold del skip
          rw [if_pos (by omega), if_pos (by omega)]
          exact heq (j + 1) (by omega)
      rw [this]; grind
theorem upd_self (A : Mt) (a : Nat) : upd A a (A a) = A := by
  funext i j; unfold upd; split
  · next h => rw [h]
  · rfl
theorem det_upd_add {n : Nat} (A : Mt) {a : Nat} (ha : a < n) (u v : Nat → Rat) : det n (upd A a (fun j => u j + v j)) = det n (upd A a u) + det n (upd A a v) := by
  have h := det_lin n A a ha 1 1 u v
  rw [det_congr (B := upd A a (fun j => 1 * u j + 1 * v j)) (fun i j _ _ => by unfold upd; split <;> grind), h]; grind
theorem det_upd_mul {n : Nat} (A : Mt) {a : Nat} (ha : a < n) (f : Rat) (u : Nat → Rat) : det n (upd A a (fun j => f * u j)) = f * det n (upd A a u) := by
  have h := det_lin n A a ha f 0 u u
  rw [det_congr (B := upd A a (fun j => f * u j + 0 * u j)) (fun i j _ _ => by unfold upd; split <;> grind), h]; grind
def swp (A : Mt) (a b : Nat) : Mt := fun i j => if i = a then A b j else if i = b then A a j else A i j
theorem det_swp_adj {n : Nat} (A : Mt) {a : Nat} (ha : a + 1 < n) : det n (swp A a (a + 1)) = - det n A := by
  have two : ∀ u v : Nat → Rat, det n (upd (upd A a u) (a + 1) v) = - det n (upd (upd A a v) (a + 1) u) := by
    intro u v
    have e : ∀ w : Nat → Rat, det n (upd (upd A a w) (a + 1) w) = 0 := fun w => by
      refine det_adj n _ a ha fun j _ => ?_
      rw [upd_at, upd_ne _ _ _ (by omega), upd_at]
    have c : ∀ p q r : Nat → Rat, det n (upd (upd A a (fun j => p j + q j)) (a + 1) r) = det n (upd (upd A a p) (a + 1) r) + det n (upd (upd A a q) (a + 1) r) := by
      intro p q r
      have cm : ∀ p : Nat → Rat, upd (upd A a p) (a + 1) r = upd (upd A (a + 1) r) a p := fun p => by
        funext i j; unfold upd
        by_cases h1 : i = a
        · rw [if_neg (by omega), if_pos h1, if_pos h1]
        · rw [if_neg h1, if_neg h1]
      rw [cm, cm, cm]; exact det_upd_add _ (by omega) p q
    have h := e (fun j => u j + v j)
    rw [c, det_upd_add _ ha, det_upd_add _ ha, e u, e v] at h
    grind
  have h1 : swp A a (a + 1) = upd (upd A a (A (a + 1))) (a + 1) (A a) := by
    funext i j; unfold swp upd
    by_cases h : i = a
    · rw [if_pos h, if_neg (by omega), if_pos h]
    · rw [if_neg h, if_neg h]
  have h2 : upd (upd A a (A a)) (a + 1) (A (a + 1)) = A := by rw [upd_self, upd_self]
  rw [h1, two, h2]
theorem det_eq_rows {n : Nat} : ∀ (d : Nat) (A : Mt) (a : Nat), a + d + 1 < n → (∀ j, j < n → A a j = A (a + d + 1) j) → det n A = 0 := by
  intro d
  induction d with
  | zero => intro A a h he; exact det_adj n A a h he
  | succ d ih =>
    intro A a h he
    have hs := det_swp_adj A (a := a + d + 1) (n := n) (by omega)
    have h0 := ih (swp A (a + d + 1) (a + d + 1 + 1)) a (by omega) (fun j hj => by
      have hj2 := he j hj
      unfold swp
      rw [if_neg (by omega), if_neg (by omega), if_pos rfl, hj2]; rfl)
    rw [h0] at hs; grind
theorem det_same {n : Nat} (A : Mt) {a b : Nat} (ha : a < n) (hb : b < n) (hab : a ≠ b) (he : ∀ j, j < n → A a j = A b j) : det n A = 0 := by
  rcases Nat.lt_or_gt_of_ne hab with h | h
  · exact det_eq_rows (b - a - 1) A a (by omega) (fun j hj => by rw [show a + (b - a - 1) + 1 = b from by omega]; exact he j hj)
  · exact det_eq_rows (a - b - 1) A b (by omega) (fun j hj => by rw [show b + (a - b - 1) + 1 = a from by omega]; exact (he j hj).symm)
/-- A row's multiple added to another one. -/
def addr (A : Mt) (a b : Nat) (f : Rat) : Mt := upd A a (fun j => A a j + f * A b j)
/-- A row, times a number. -/
def scl (A : Mt) (a : Nat) (f : Rat) : Mt := upd A a (fun j => f * A a j)
theorem det_addr {n : Nat} (A : Mt) {a b : Nat} (ha : a < n) (hb : b < n) (hab : a ≠ b) (f : Rat) : det n (addr A a b f) = det n A := by
  unfold addr
  rw [det_upd_add A ha, det_upd_mul A ha, upd_self, det_same (upd A a (A b)) ha hb hab (fun j _ => by rw [upd_at, upd_ne _ _ _ (Ne.symm hab)])]; grind
theorem det_scl {n : Nat} (A : Mt) {a : Nat} (ha : a < n) (f : Rat) : det n (scl A a f) = f * det n A := by
  unfold scl; rw [det_upd_mul A ha, upd_self]
theorem det_swp {n : Nat} (A : Mt) {a b : Nat} (ha : a < n) (hb : b < n) (hab : a ≠ b) : det n (swp A a b) = - det n A := by
  -- by three additions and a sign
  have e : det n (swp A a b) = det n (scl (addr (addr (addr A a b 1) b a (-1)) a b 1) b (-1)) := by
    refine det_congr fun i j _ _ => ?_
    unfold swp scl addr upd
    by_cases h1 : i = a
    · subst h1
      rw [if_pos rfl, if_neg hab, if_pos rfl]
      simp only [if_pos, if_neg hab, if_neg (Ne.symm hab)]; grind
    · rw [if_neg h1]
      by_cases h2 : i = b
      · subst h2
        simp only [if_pos, if_neg hab, if_neg (Ne.symm hab)]; grind
      · simp only [if_neg h1, if_neg h2]
  rw [e, det_scl _ hb, det_addr _ ha hb hab, det_addr _ hb ha (Ne.symm hab), det_addr _ ha hb hab]; grind
theorem det_zero_row {n : Nat} (A : Mt) {a : Nat} (ha : a < n) (h : ∀ j, j < n → A a j = 0) : det n A = 0 := by
  have := det_scl A ha 0
  rw [det_congr (B := A) (fun i j _ hj => by
    unfold scl upd
    by_cases e : i = a
    · subst e; rw [if_pos rfl, h j hj]; grind
    · rw [if_neg e])] at this
  rw [this]; grind
def one : Mt := fun i j => if i = j then 1 else 0
theorem det_low (n : Nat) : ∀ A : Mt, (∀ i j, i < n → j < i → A i j = 0) → det n A = (List.range n).foldl (fun p i => p * A i i) 1 := by
  have gen : ∀ (n : Nat) (A : Mt), (∀ i j, i < n → j < i → A i j = 0) → ∀ c : Rat, c * det n A = (List.range n).foldl (fun p i => p * A i i) c := by
    intro n
    induction n with
    | zero => intro A _ c; simp [det]
    | succ n ih =>
      intro A h c
      unfold det
      rw [S_single (k := 0) (by omega) (fun i hi hne => by rw [h i 0 hi (by omega)]; grind)]
      rw [List.range_succ_eq_map, List.foldl_cons, List.foldl_map]
      have := ih (del 0 A) (fun i j hi hj => by unfold del skip; rw [if_neg (by omega)]; exact h _ _ (by omega) (by omega)) (c * A 0 0)
      have e : sg 0 = 1 := rfl
      rw [e, show c * (1 * A 0 0 * det n (del 0 A)) = c * A 0 0 * det n (del 0 A) from by grind, this]
      congr 1
  intro A h
  rw [← gen n A h 1]; grind
theorem det_one (n : Nat) : det n one = 1 := by
  induction n with
  | zero => rfl
  | succ n ih =>
    unfold det
    rw [S_single (k := 0) (by omega) (fun i hi hne => by unfold one; rw [if_neg hne]; grind)]
    have : det n (del 0 one) = det n one := det_congr fun i j _ _ => by
      have hs : skip 0 i = i + 1 := by unfold skip; rw [if_neg (by omega)]
      show (if skip 0 i = j + 1 then (1 : Rat) else 0) = (if i = j then 1 else 0)
      rw [hs]
      by_cases e : i = j
      · rw [if_pos e, if_pos (by omega)]
      · rw [if_neg e, if_neg (by omega)]
    rw [this, ih]
    have e1 : sg 0 = 1 := rfl
    have e2 : one 0 0 = 1 := rfl
    rw [e1, e2]; grind
end Go.Proofs.YtdnmoggifjlbiaaGreat.LA
/- Determinants of products, of turned matrices; systems; ranks. -/
namespace Go.Proofs.YtdnmoggifjlbiaaGreat.LA
def Eqn (n : Nat) (A B : Mt) : Prop := ∀ i j, i < n → j < n → A i j = B i j
/-- What holds of ones from corner to corner and of each matrix with a row of noughts, and goes back over row steps, holds of each. -/
theorem by_rows {n : Nat} {P : Mt → Prop} (h0 : ∀ A B, Eqn n A B → P A → P B) (h1 : P one) (h2 : ∀ A a, a < n → (∀ j, j < n → A a j = 0) → P A)
    (h3 : ∀ A a b f, a < n → b < n → a ≠ b → P (addr A a b f) → P A) (h4 : ∀ A a f, a < n → f ≠ 0 → P (scl A a f) → P A) : ∀ A, P A := by
  have hs : ∀ A a b, a < n → b < n → a ≠ b → P (swp A a b) → P A := by
    intro A a b ha hb hab h
    refine h3 A a b 1 ha hb hab (h3 _ b a (-1) hb ha (Ne.symm hab) (h3 _ a b 1 ha hb hab (h4 _ b (-1) hb (by decide) (h0 _ _ ?_ h))))
    intro i j _ _
    unfold swp scl addr upd
    by_cases e1 : i = a
    · subst e1; simp only [if_pos, if_neg hab, if_neg (Ne.symm hab)]; grind
    · by_cases e2 : i = b
      · subst e2; simp only [if_pos, if_neg hab, if_neg (Ne.symm hab)]; grind
      · simp only [if_neg e1, if_neg e2]
  -- a row that makes others nought in a column
  have clean : ∀ (c r : Nat), r < n → ∀ (k : Nat), k ≤ n → ∀ (A : Mt) (lo : Nat), A r c ≠ 0 →
      (∀ B : Mt, (∀ i j, (i < lo ∨ i = r) → B i j = A i j) → (∀ i, lo ≤ i → i < k → i ≠ r → B i c = 0) → (∀ i, k ≤ i → ∀ j, B i j = A i j) → (∀ i j, A r j = 0 → B i j = A i j) → P B) → P A := by
    intro c r hr k
    induction k with
    | zero => intro _ A lo hA H; exact H A (fun _ _ _ => rfl) (fun i _ h _ => by omega) (fun _ _ _ => rfl) (fun _ _ _ => rfl)
    | succ k ih =>
      intro hk A lo hA H
      refine ih (by omega) A lo hA fun B hB1 hB2 hB3 hB4 => ?_
      by_cases e : k < lo ∨ k = r
      · exact H B hB1 (fun i hi1 hi2 hne => hB2 i hi1 (by omega) hne) (fun i hi j => hB3 i (by omega) j) hB4
      · have hBr : ∀ j, B r j = A r j := fun j => hB1 r j (.inr rfl)
        have hAr : B r c ≠ 0 := by rw [hBr]; exact hA
        have hkr : k ≠ r := fun h => e (.inr h)
        refine h3 B k r (-(B k c / B r c)) (by omega) hr hkr (H _ ?_ ?_ ?_ ?_)
        · intro i j hi
          unfold addr
          rw [upd_ne _ _ _ (by omega)]
          exact hB1 i j hi
        · intro i hi1 hi2 hne
          unfold addr
          by_cases ek : i = k
          · subst ek
            rw [upd_at]
            have : B i c / B r c * B r c = B i c := Rat.div_mul_cancel hAr
            grind
          · rw [upd_ne _ _ _ ek]; exact hB2 i hi1 (by omega) hne
        · intro i hi j
          unfold addr
          rw [upd_ne _ _ _ (by omega)]; exact hB3 i (by omega) j
        · intro i j hj
          unfold addr
          by_cases ek : i = k
          · subst ek
            rw [upd_at, hBr j, hj, hB4 i j hj]; grind
          · rw [upd_ne _ _ _ ek]; exact hB4 i j hj
  -- fewer rows than columns before: a row of noughts comes
  have Z : ∀ (d j r : Nat), j + d = n → r < j → ∀ A : Mt, (∀ i, r ≤ i → i < n → ∀ q, q < j → A i q = 0) → P A := by
    intro d
    induction d with
    | zero => intro j r hj hr A hA; exact h2 A r (by omega) (fun q hq => hA r (Nat.le_refl _) (by omega) q (by omega))
    | succ d ih =>
      intro j r hj hr A hA
      by_cases hex : ∃ i, r ≤ i ∧ i < n ∧ A i j ≠ 0
      · obtain ⟨i, hi1, hi2, hi3⟩ := hex
        have go : ∀ B : Mt, B r j ≠ 0 → (∀ i, r ≤ i → i < n → ∀ q, q < j → B i q = 0) → P B := by
          intro B hB1 hB2
          refine clean j r (by omega) n (Nat.le_refl _) B (r + 1) hB1 fun C hC1 hC2 _ hC4 => ?_
          refine ih (j + 1) (r + 1) (by omega) (by omega) C fun i hi1 hi2 q hq => ?_
          by_cases eq : q = j
          · subst eq; exact hC2 i hi1 hi2 (by omega)
          · rw [hC4 i q (hB2 r (Nat.le_refl _) (by omega) q (by omega))]; exact hB2 i (by omega) hi2 q (by omega)
        by_cases er : i = r
        · subst er; exact go A hi3 hA
        · refine hs A r i (by omega) hi2 (Ne.symm er) (go _ ?_ ?_)
          · unfold swp; rw [if_pos rfl]; exact hi3
          · intro p hp1 hp2 q hq
            unfold swp
            split
            · exact hA i hi1 hi2 q hq
            · split
              · exact hA r (Nat.le_refl _) (by omega) q hq
              · exact hA p hp1 hp2 q hq
      · refine ih (j + 1) r (by omega) (by omega) A fun i hi1 hi2 q hq => ?_
        by_cases eq : q = j
        · subst eq
          apply Classical.byContradiction
          intro hne; exact hex ⟨i, hi1, hi2, hne⟩
        · exact hA i hi1 hi2 q (by omega)
  -- the first c columns are those of one
  have Q : ∀ (d c : Nat), c + d = n → ∀ A : Mt, (∀ i j, i < n → j < c → A i j = one i j) → P A := by
    intro d
    induction d with
    | zero => intro c hc A hA; exact h0 one A (fun i j hi hj => (hA i j hi (by omega)).symm) h1
    | succ d ih =>
      intro c hc A hA
      by_cases hex : ∃ i, c ≤ i ∧ i < n ∧ A i c ≠ 0
      · obtain ⟨i, hi1, hi2, hi3⟩ := hex
        have go2 : ∀ B : Mt, B c c = 1 → (∀ i j, i < n → j < c → B i j = one i j) → P B := by
          intro B hB1 hB2
          refine clean c c (by omega) n (Nat.le_refl _) B 0 (by rw [hB1]; decide) fun C hC1 hC2 _ hC4 => ?_
          refine ih (c + 1) (by omega) C fun i j hi hj => ?_
          by_cases ej : j = c
          · subst ej
            by_cases ei : i = j
            · subst ei; rw [hC1 i i (.inr rfl), hB1]; unfold one; rw [if_pos rfl]
            · rw [hC2 i (by omega) hi ei]; unfold one; rw [if_neg ei]
          · have hz : B c j = 0 := by rw [hB2 c j (by omega) (by omega)]; unfold one; rw [if_neg (by omega)]
            rw [hC4 i j hz]; exact hB2 i j hi (by omega)
        have go : ∀ B : Mt, B c c ≠ 0 → (∀ i j, i < n → j < c → B i j = one i j) → P B := by
          intro B hB1 hB2
          refine h4 B c (1 / B c c) (by omega) ?_ (go2 _ ?_ ?_)
          · intro h
            have : 1 / B c c * B c c = 1 := Rat.div_mul_cancel hB1
            rw [h] at this; grind
          · unfold scl; rw [upd_at]; exact Rat.div_mul_cancel hB1
          · intro i j hi hj
            unfold scl
            by_cases ei : i = c
            · subst ei; rw [upd_at, hB2 i j hi hj]; unfold one; rw [if_neg (by omega)]; grind
            · rw [upd_ne _ _ _ ei]; exact hB2 i j hi hj
        by_cases er : i = c
        · subst er; exact go A hi3 hA
        · refine hs A c i (by omega) hi2 (Ne.symm er) (go _ ?_ ?_)
          · unfold swp; rw [if_pos rfl]; exact hi3
          · intro p q hp hq
            unfold swp
            split
            · next e => rw [hA i q hi2 hq]; unfold one; rw [if_neg (by omega), if_neg (by omega)]
            · split
              · next e => rw [hA c q (by omega) hq]; unfold one; rw [if_neg (by omega), if_neg (by omega)]
              · exact hA p q hp hq
      · refine Z d (c + 1) c (by omega) (by omega) A fun i hi1 hi2 q hq => ?_
        by_cases eq : q = c
        · subst eq
          apply Classical.byContradiction
          intro hne; exact hex ⟨i, hi1, hi2, hne⟩
        · rw [hA i q hi2 (by omega)]; unfold one; rw [if_neg (by omega)]
  intro A
  exact Q n 0 (by omega) A (fun i j _ hj => by omega)
def mul (n : Nat) (A B : Mt) : Mt := fun i j => S n (fun k => A i k * B k j)
def tr (A : Mt) : Mt := fun i j => A j i
theorem det_mul (n : Nat) (A B : Mt) : det n (mul n A B) = det n A * det n B := by
  refine by_rows (n := n) (P := fun A => det n (mul n A B) = det n A * det n B) ?_ ?_ ?_ ?_ ?_ A
  · intro A C h hA
    rw [← det_congr h, ← hA]
    refine det_congr fun i j hi hj => ?_
    unfold mul; exact S_congr fun k hk => by rw [h i k hi hk]
  · rw [det_one]
    have : det n (mul n one B) = det n B := det_congr fun i j hi hj => by
      unfold mul
      rw [S_single hi (fun k _ hne => by unfold one; rw [if_neg (Ne.symm hne)]; grind)]
      unfold one; rw [if_pos rfl]; grind
    rw [this]; grind
  · intro A a ha h
    rw [det_zero_row A ha h, det_zero_row _ ha (fun j _ => by unfold mul; exact S_null fun k hk => by rw [h k hk]; grind)]; grind
  · intro A a b f ha hb hab h
    rw [det_addr A ha hb hab] at h
    rw [← h, ← det_addr (mul n A B) ha hb hab f]
    refine det_congr fun i j hi hj => ?_
    unfold mul addr upd
    by_cases e : i = a
    · simp only [if_pos e]
      rw [← S_mul, ← S_add]; exact S_congr fun k _ => by grind
    · simp only [if_neg e]
  · intro A a f ha hf h
    rw [det_scl A ha] at h
    have h2 : det n (mul n (scl A a f) B) = f * det n (mul n A B) := by
      rw [← det_scl (mul n A B) ha f]
      refine det_congr fun i j hi hj => ?_
      unfold mul scl upd
      by_cases e : i = a
      · simp only [if_pos e]
        rw [← S_mul]; exact S_congr fun k _ => by grind
      · simp only [if_neg e]
    rw [h2] at h
    have hc : ∀ x y : Rat, f * x = f * y → x = y := fun x y hxy => by
      have : f * (x - y) = 0 := by grind
      rcases Rat.mul_eq_zero.mp this with h1 | h1
      · exact absurd h1 hf
      · grind
    exact hc _ _ (by rw [h]; grind)
theorem det_tr (n : Nat) (A : Mt) : det n (tr A) = det n A := by
  -- a row step is a product
  have ad : ∀ (A : Mt) (a b : Nat) (f : Rat), a < n → b < n → Eqn n (addr A a b f) (mul n (addr one a b f) A) := by
    intro A a b f ha hb i j hi hj
    unfold mul addr
    by_cases e : i = a
    · subst e
      rw [upd_at, S_congr (g := fun k => one i k * A k j + f * (one b k * A k j)) (fun k _ => by rw [upd_at]; grind), S_add, S_mul]
      rw [S_single hi (fun k _ hne => by unfold one; rw [if_neg (Ne.symm hne)]; grind), S_single hb (fun k _ hne => by unfold one; rw [if_neg (Ne.symm hne)]; grind)]
      unfold one; rw [if_pos rfl, if_pos rfl]; grind
    · rw [upd_ne _ _ _ e, S_single hi (fun k _ hne => by rw [upd_ne _ _ _ e]; unfold one; rw [if_neg (Ne.symm hne)]; grind), upd_ne _ _ _ e]
      unfold one; rw [if_pos rfl]; grind
  have sc : ∀ (A : Mt) (a : Nat) (f : Rat), a < n → Eqn n (scl A a f) (mul n (scl one a f) A) := by
    intro A a f ha i j hi hj
    unfold mul scl
    by_cases e : i = a
    · subst e
      rw [upd_at, S_single hi (fun k _ hne => by rw [upd_at]; unfold one; rw [if_neg (Ne.symm hne)]; grind), upd_at]
      unfold one; rw [if_pos rfl]; grind
    · rw [upd_ne _ _ _ e, S_single hi (fun k _ hne => by rw [upd_ne _ _ _ e]; unfold one; rw [if_neg (Ne.symm hne)]; grind), upd_ne _ _ _ e]
      unfold one; rw [if_pos rfl]; grind
  have trm : ∀ A B : Mt, det n (tr (mul n A B)) = det n (tr A) * det n (tr B) := by
    intro A B
    rw [show det n (tr A) * det n (tr B) = det n (tr B) * det n (tr A) from by grind, ← det_mul]
    refine det_congr fun i j _ _ => ?_
    unfold tr mul; exact S_congr fun k _ => by grind
  refine by_rows (n := n) (P := fun A => det n (tr A) = det n A) ?_ ?_ ?_ ?_ ?_ A
  · intro A C h hA
    rw [← det_congr h, ← hA]
    exact det_congr fun i j hi hj => (h j i hj hi).symm
  · refine det_congr fun i j _ _ => ?_
    unfold tr one
    by_cases e : i = j
    · rw [if_pos e, if_pos e.symm]
    · rw [if_neg e, if_neg (Ne.symm e)]
  · intro A a ha h
    rw [det_zero_row A ha h]
    -- a column of noughts: a product with a matrix that has a row of noughts
    have e : det n (tr A) = det n (mul n (tr A) (scl one a 0)) := det_congr fun i j hi hj => by
      unfold mul
      by_cases ej : j = a
      · subst ej
        rw [S_null]
        · unfold tr; exact h i hi
        · intro k hk
          unfold scl
          by_cases ek : k = j
          · subst ek; rw [upd_at]; grind
          · rw [upd_ne _ _ _ ek]; unfold one; rw [if_neg ek]; grind
      · rw [S_single hj (fun k _ hne => by
          unfold scl
          by_cases ek : k = a
          · subst ek; rw [upd_at]; grind
          · rw [upd_ne _ _ _ ek]; unfold one; rw [if_neg hne]; grind)]
        unfold scl; rw [upd_ne _ _ _ ej]; unfold one; rw [if_pos rfl]; grind
    rw [e, det_mul, det_scl _ ha]; grind
  · intro A a b f ha hb hab h
    rw [det_addr A ha hb hab] at h
    have e1 : det n (tr (addr A a b f)) = det n (tr (mul n (addr one a b f) A)) := det_congr fun i j hi hj => ad A a b f ha hb j i hj hi
    have e2 : det n (tr (addr one a b f)) = 1 := by
      have : Eqn n (tr (addr one a b f)) (addr one b a f) := by
        intro i j hi hj
        unfold tr addr upd one
        by_cases e1 : j = a
        · by_cases e2 : i = b
          · subst e1 e2; simp only [if_pos, if_neg hab, if_neg (Ne.symm hab)]
          · simp only [if_pos e1, if_neg e2, if_neg (Ne.symm e2)]; subst e1
            by_cases e3 : i = j
            · simp only [if_pos e3, if_pos e3.symm]; grind
            · simp only [if_neg e3, if_neg (Ne.symm e3)]; grind
        · simp only [if_neg e1, if_neg (Ne.symm e1)]
          by_cases e2 : i = b
          · simp only [if_pos e2]; subst e2
            by_cases e3 : j = i
            · simp only [if_pos e3, if_pos e3.symm]; grind
            · simp only [if_neg e3, if_neg (Ne.symm e3)]; grind
          · simp only [if_neg e2]
            by_cases e3 : j = i
            · simp only [if_pos e3, if_pos e3.symm]
            · simp only [if_neg e3, if_neg (Ne.symm e3)]
      rw [det_congr this, det_addr _ hb ha (Ne.symm hab), det_one]
    rw [e1, trm, e2] at h
    rw [← h]; grind
  · intro A a f ha hf h
    rw [det_scl A ha] at h
    have e1 : det n (tr (scl A a f)) = det n (tr (mul n (scl one a f) A)) := det_congr fun i j hi hj => sc A a f ha j i hj hi
    have e2 : det n (tr (scl one a f)) = f := by
      have : Eqn n (tr (scl one a f)) (scl one a f) := by
        intro i j hi hj
        unfold tr scl upd one
        by_cases e3 : i = j
        · subst e3; rfl
        · by_cases e1 : j = a
          · simp only [if_pos e1, if_neg e3, if_neg (show ¬ i = a from by omega), if_neg (show ¬ a = i from by omega)]; grind
          · by_cases e2 : i = a
            · simp only [if_neg e1, if_pos e2, if_neg (show ¬ j = i from by omega), if_neg (show ¬ a = j from by omega)]; grind
            · simp only [if_neg e1, if_neg e2, if_neg e3, if_neg (Ne.symm e3)]
      rw [det_congr this, det_scl _ ha, det_one]; grind
    rw [e1, trm, e2] at h
    have : f * (det n (tr A) - det n A) = 0 := by grind
    rcases Rat.mul_eq_zero.mp this with h1 | h1
    · exact absurd h1 hf
    · grind
end Go.Proofs.YtdnmoggifjlbiaaGreat.LA

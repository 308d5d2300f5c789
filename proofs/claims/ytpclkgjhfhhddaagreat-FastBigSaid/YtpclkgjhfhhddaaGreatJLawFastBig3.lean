/- Joined texts, 3: RatB RatC RatD RatE RatF RatG RefA FbA. -/
import Derived.Test.YtpclkgjhfhhddaaGreatJLawFastBig2
import Derived.Lib.MinMax
set_option linter.unusedVariables false
set_option linter.unusedSimpArgs false
/- Rational numbers: walks: products. -/
namespace Go.Proofs.YtpclkgjhfhhddaaGreat.V
open Go Go.RowKit Go.Proofs.YtpclkgjhfhhddaaGreat.PN
set_option linter.unusedVariables false
set_option linter.unusedSimpArgs false
/-! ### Two boxes that are read while calls make memory -/
theorem two_step {W w w1 : World} {g h : Nat} {a b c a' b' c' : Value}
    (hs : Kept W w ∧ w.cell? ⟨g, 0, none⟩ = some a ∧ w.cell? ⟨g, 1, none⟩ = some b ∧ w.cell? ⟨g, 2, none⟩ = some c ∧ w.cell? ⟨h, 0, none⟩ = some a' ∧ w.cell? ⟨h, 1, none⟩ = some b' ∧ w.cell? ⟨h, 2, none⟩ = some c') (hk : Kept w w1) :
    Kept W w1 ∧ w1.cell? ⟨g, 0, none⟩ = some a ∧ w1.cell? ⟨g, 1, none⟩ = some b ∧ w1.cell? ⟨g, 2, none⟩ = some c ∧ w1.cell? ⟨h, 0, none⟩ = some a' ∧ w1.cell? ⟨h, 1, none⟩ = some b' ∧ w1.cell? ⟨h, 2, none⟩ = some c' :=
  ⟨Kept.then hs.1 hk, hk.cell hs.2.1, hk.cell hs.2.2.1, hk.cell hs.2.2.2.1, hk.cell hs.2.2.2.2.1, hk.cell hs.2.2.2.2.2.1, hk.cell hs.2.2.2.2.2.2⟩
theorem cell_set3 (w : World) (g : Nat) (s : Bool) (vn vd : Value) {k : Nat} (o : Nat) (h : k ≠ g) : (set3 w g s vn vd).cell? ⟨k, o, none⟩ = w.cell? ⟨k, o, none⟩ := by
  unfold set3
  rw [World.cell?_setCell_other (h := fun e => h (by cases e; rfl)), World.cell?_setCell_other (h := fun e => h (by cases e; rfl)), World.cell?_setCell_other (h := fun e => h (by cases e; rfl))]
theorem three {w : World} {g : Nat} {x y z : Value} {T : TypeId} (h : Row? w g #[x, y, z] T) : w.cell? ⟨g, 0, none⟩ = some x ∧ w.cell? ⟨g, 1, none⟩ = some y ∧ w.cell? ⟨g, 2, none⟩ = some z ∧ w.frozen? ⟨g, 0, none⟩ = false ∧ w.frozen? ⟨g, 1, none⟩ = false ∧ w.frozen? ⟨g, 2, none⟩ = false :=
  ⟨cell_of_row w g 0 _ _ _ h, cell_of_row w g 1 _ _ _ h, cell_of_row w g 2 _ _ _ h, frozen_of_row w g 0 _ _ h, frozen_of_row w g 1 _ _ h, frozen_of_row w g 2 _ _ h⟩
theorem row_newAt {g : Nat} (w : World) (cs : Array Value) (T : TypeId) (h : g = w.heap.size) : Row? (w.alloc (.cells cs T)) g cs T := by subst h; exact row_new w cs T
theorem bne_flip (a b : Bool) : (a != b) = (!a == b) := by cases a <;> cases b <;> rfl
theorem two_set {W w : World} {g h : Nat} {a b c a' b' c' : Value} {r : Nat} {s : Bool} {vn vd : Value}
    (hs : Kept W w ∧ w.cell? ⟨g, 0, none⟩ = some a ∧ w.cell? ⟨g, 1, none⟩ = some b ∧ w.cell? ⟨g, 2, none⟩ = some c ∧ w.cell? ⟨h, 0, none⟩ = some a' ∧ w.cell? ⟨h, 1, none⟩ = some b' ∧ w.cell? ⟨h, 2, none⟩ = some c') (hr : W.heap.size ≤ r) (hg : g ≠ r) (hh : h ≠ r) :
    Kept W (set3 w r s vn vd) ∧ (set3 w r s vn vd).cell? ⟨g, 0, none⟩ = some a ∧ (set3 w r s vn vd).cell? ⟨g, 1, none⟩ = some b ∧ (set3 w r s vn vd).cell? ⟨g, 2, none⟩ = some c ∧ (set3 w r s vn vd).cell? ⟨h, 0, none⟩ = some a' ∧ (set3 w r s vn vd).cell? ⟨h, 1, none⟩ = some b' ∧ (set3 w r s vn vd).cell? ⟨h, 2, none⟩ = some c' := by
  obtain ⟨h0, h1, h2, h3, h4, h5, h6⟩ := hs
  exact ⟨kept_set3 h0 hr s vn vd, (cell_set3 w r s vn vd 0 hg).trans h1, (cell_set3 w r s vn vd 1 hg).trans h2, (cell_set3 w r s vn vd 2 hg).trans h3, (cell_set3 w r s vn vd 0 hh).trans h4, (cell_set3 w r s vn vd 1 hh).trans h5, (cell_set3 w r s vn vd 2 hh).trans h6⟩
/-- Three boxes are made, then order is drawn. -/
theorem Kept.three (w : World) (x y z : Obj) : Kept w (((w.alloc x).alloc y).alloc z).drew := Kept.then (Kept.then (Kept.alloc _ _) (Kept.alloc _ _)) (Kept.then (Kept.alloc _ _) (Kept.drew _))
theorem results_cell2 {fn : Func} {p t : Tmp} (h : fn.results = #[.cell p RT, .tmp t]) (tmps : Array Value) (w : World) (g : Nat) (cs : Array Value) (u : Value) (hp : tmps.getD p undef = .pointer (some ⟨g, 0, none⟩)) (hu : tmps.getD t undef = u) (hg : Row? w g cs RT) (hz : cs.size = 3) :
    (results fn tmps).run Tryz.prog w = .ok (.tuple #[.agg cs, u]) w := by
  have hp' : tmps[p]?.getD undef = .pointer (some ⟨g, 0, none⟩) := by simpa using hp
  have hu' : tmps[t]?.getD undef = u := by simpa using hu
  simp [results, h, hp', hu', asAddr, run_loadVar_row w g RT RT cs (0, 0) _ hg Tryz.underlying24 rfl (by rw [hz]; exact info_rat)]
/-- A number and an error code are handed back. -/
def MadeRatE (w : World) (q : Rat) (c : Int) (e : Ending) (w' : World) : Prop :=
  ∃ s vn vd, e = .returned (.tuple #[.agg #[.bool s, vn, vd], .int .i64 c]) ∧ RatS w' (fun _ => True) s vn vd q ∧ Kept w w'
theorem ret_rat2 {fn : Func} {p t : Tmp} {a : Act} {w w1 : World} {g : Nat} {x y z : Value} {s : Bool} {vn vd : Value} {q : Rat} {c : Int} (h : fn.results = #[.cell p RT, .tmp t]) (hp : a.tmps.getD p undef = .pointer (some ⟨g, 0, none⟩)) (ht : a.tmps.getD t undef = .int .i64 c) (hd : a.defers = [])
    (r : Row? w1 g #[x, y, z] RT) (hg : w.heap.size ≤ g) (hk : Kept w w1) (hq : RatS w1 (fun _ => True) s vn vd q) : bodyPost Tryz.prog fn (MadeRatE w q c) .ret a (set3 w1 g s vn vd) :=
  bodyPost_ret (results_cell2 h a.tmps _ g _ _ hp ht (row_set3 r s vn vd) rfl) hd ⟨s, vn, vd, rfl, hq.up (up_set3 (Up.refl w1) r s vn vd), kept_set3 hk hg s vn vd⟩
theorem low_v {w : World} {neg : Bool} {vn vd : Value} {n d : Nat} [hn : NatAt w vn n] [hd : NatAt w vd d] (hs : size n ≤ 4398046511103) (hs' : size d ≤ 4398046511103) (hd0 : d ≠ 0) :
    Calls Tryz.prog 89 #[.bool neg, vn, vd] w (MadeRat w (mk neg n d)) := low_any neg vn vd n d w hn hd hs hs' hd0
set_option maxHeartbeats 2000000 in
theorem make_any (neg : Bool) (vn vd : Value) (n d : Nat) (w : World) (hn : NatAt w vn n) (hd : NatAt w vd d) (hs : size n ≤ 4398046511103) (hs' : size d ≤ 4398046511103) (hd0 : d ≠ 0) :
    Calls Tryz.prog 105 #[.bool neg, vn, vd] w (MadeRatE w (mk neg n d) 0) := by
  obtain ⟨An, cn, rfl, hcn, han⟩ := hn.at
  obtain ⟨Ad, cd, rfl, hcd, had⟩ := hd.at
  have HN := Lib.hid hn.up; have HD := Lib.hid hd.up
  clear han had hn hd
  have hz : ((size d : Int) == 0) = false := by
    have := size_pos (s := d) (by omega)
    simp; omega
  go_enter Tryz.func105, Tryz.ntmps105
  have iN := HN.out; have iD := HD.out
  go_wp2_with (go_at_call 89; refine (low_any neg _ _ n d _ inferInstance inferInstance hs hs' hd0).mono ?_; rintro e w1 ⟨s1, vn1, vd1, rfl, hq1, hk1⟩; obtain ⟨An1, cn1, rfl, _, _⟩ := hq1.2.1.at; obtain ⟨Ad1, cd1, rfl, _, _⟩ := hq1.2.2.at; have HQ1 := Lib.hid hq1; have HK1 := Lib.hid hk1; obtain ⟨hc1, hf1⟩ := bcell hk1; clear hq1 hk1)
  exact ret_rat2 rfl rfl rfl rfl (HK1.out.row (row_new w _ _)) (Nat.le_refl _) ((Kept.alloc w _).then HK1.out) HQ1.out
theorem make_v {w : World} {neg : Bool} {vn vd : Value} {n d : Nat} [hn : NatAt w vn n] [hd : NatAt w vd d] (hs : size n ≤ 4398046511103) (hs' : size d ≤ 4398046511103) (hd0 : d ≠ 0) :
    Calls Tryz.prog 105 #[.bool neg, vn, vd] w (MadeRatE w (mk neg n d) 0) := make_any neg vn vd n d w hn hd hs hs' hd0
set_option maxHeartbeats 2000000 in
theorem mul_rat {w : World} {s s' : Bool} {vn vd vn' vd' : Value} {p q : Rat} [hp : RatAt w s vn vd p] [hq : RatAt w s' vn' vd' q] (hs : wt p ≤ 1000000000000) (hs' : wt q ≤ 1000000000000) :
    Calls Tryz.prog 78 #[.agg #[.bool s, vn, vd], .agg #[.bool s', vn', vd']] w (MadeRat w (p * q)) := by
  obtain ⟨rfl, hn, hd⟩ := hp.out
  obtain ⟨rfl, hn', hd'⟩ := hq.out
  obtain ⟨An, cn, rfl, _, _⟩ := hn.at
  obtain ⟨Ad, cd, rfl, _, _⟩ := hd.at
  obtain ⟨An', cn', rfl, _, _⟩ := hn'.at
  obtain ⟨Ad', cd', rfl, _, _⟩ := hd'.at
  have HN := Lib.hid (NatS.lift hn); have HD := Lib.hid (NatS.lift hd); have HN' := Lib.hid (NatS.lift hn'); have HD' := Lib.hid (NatS.lift hd')
  clear hn hd hn' hd' hp hq
  have b1 := wt_num p; have b2 := wt_den p; have b3 := wt_num q; have b4 := wt_den q
  have b5 := size_mul (nm p) (nm q); have b6 := size_mul p.den q.den
  rw [mul_parts, bne_flip]
  go_enter Tryz.func78, Tryz.ntmps78
  have iN := HN.out; have iD := HD.out; have iN' := HN'.out; have iD' := HD'.out
  go_wp2
  go_region_held3 (fun w' => Kept w w' ∧ w'.cell? ⟨w.heap.size, 0, none⟩ = some (.bool (ng p)) ∧ w'.cell? ⟨w.heap.size, 1, none⟩ = some (Value.slice An (size (nm p)) cn) ∧ w'.cell? ⟨w.heap.size, 2, none⟩ = some (Value.slice Ad (size p.den) cd) ∧ w'.cell? ⟨w.heap.size + 1, 0, none⟩ = some (.bool (ng q)) ∧ w'.cell? ⟨w.heap.size + 1, 1, none⟩ = some (Value.slice An' (size (nm q)) cn') ∧ w'.cell? ⟨w.heap.size + 1, 2, none⟩ = some (Value.slice Ad' (size q.den) cd'))
    (first | exact two_step (by assumption) (by assumption) | exact two_set (by assumption) (by omega) (by omega) (by omega) | (refine ⟨Kept.three _ _ _ _, ?_⟩; simp [go_sem, World.cell?_alloc_past]))
    (first
      | (go_at_call 88; first | (refine Calls.mono (mul_v (a := nm p) (b := nm q) (by omega) (by omega)) ?_; rintro e w1 ⟨v1, rfl, hv1, hk1⟩; have i1 := NatS.lift hv1; have u1 := Kept.chain hk1) | (refine Calls.mono (mul_v (a := p.den) (b := q.den) (by omega) (by omega)) ?_; rintro e w2 ⟨v2, rfl, hv2, hk2⟩; have i2 := NatS.lift hv2; have u2 := Kept.chain hk2))
      | (go_at_call 89; refine Calls.mono (low_v (n := nm p * nm q) (d := p.den * q.den) (by omega) (by omega) (Nat.mul_ne_zero p.den_nz q.den_nz)) ?_; rintro e w3 ⟨s3, vn3, vd3, rfl, hq3, hk3⟩; obtain ⟨An3, cn3, rfl, _, _⟩ := hq3.2.1.at; obtain ⟨Ad3, cd3, rfl, _, _⟩ := hq3.2.2.at; have hr3 := Kept.row hk3 (Kept.row hk2 (Kept.row hk1 (Kept.row (Kept.drew _) (row_newAt (g := w.heap.size + 1 + 1) _ _ _ (by simp))))); obtain ⟨c0, c1, c2, f0, f1, f2⟩ := three hr3))
  go_wp2
  exact ret_rat rfl rfl rfl hr3 (by omega) (Kept.then (Kept.three _ _ _ _) (Kept.then hk1 (Kept.then hk2 hk3))) hq3
end Go.Proofs.YtpclkgjhfhhddaaGreat.V
/- Rational numbers: walks: quotients. -/
namespace Go.Proofs.YtpclkgjhfhhddaaGreat.V
open Go Go.RowKit Go.Proofs.YtpclkgjhfhhddaaGreat.PN
set_option linter.unusedVariables false
set_option linter.unusedSimpArgs false
set_option maxHeartbeats 2000000 in
theorem quo_rat {w : World} {s s' : Bool} {vn vd vn' vd' : Value} {p q : Rat} [hp : RatAt w s vn vd p] [hq : RatAt w s' vn' vd' q] (hs : wt p ≤ 1000000000000) (hs' : wt q ≤ 1000000000000) (h0 : q ≠ 0) :
    Calls Tryz.prog 92 #[.agg #[.bool s, vn, vd], .agg #[.bool s', vn', vd']] w (MadeRatE w (p / q) 0) := by
  obtain ⟨rfl, hn, hd⟩ := hp.out
  obtain ⟨rfl, hn', hd'⟩ := hq.out
  obtain ⟨An, cn, rfl, _, _⟩ := hn.at
  obtain ⟨Ad, cd, rfl, _, _⟩ := hd.at
  obtain ⟨An', cn', rfl, _, _⟩ := hn'.at
  obtain ⟨Ad', cd', rfl, _, _⟩ := hd'.at
  have HN := Lib.hid (NatS.lift hn); have HD := Lib.hid (NatS.lift hd); have HN' := Lib.hid (NatS.lift hn'); have HD' := Lib.hid (NatS.lift hd')
  clear hn hd hn' hd' hp hq
  have b1 := wt_num p; have b2 := wt_den p; have b3 := wt_num q; have b4 := wt_den q
  have b5 := size_mul (nm p) q.den; have b6 := size_mul p.den (nm q)
  have b7 : nm q ≠ 0 := fun h => h0 (nm_eq_zero.1 h)
  rw [div_parts _ _ h0, bne_flip]
  clear h0
  go_enter Tryz.func92, Tryz.ntmps92
  have iN := HN.out; have iD := HD.out; have iN' := HN'.out; have iD' := HD'.out
  go_wp2
  go_region_held3 (fun w' => Kept w w' ∧ w'.cell? ⟨w.heap.size, 0, none⟩ = some (.bool (ng p)) ∧ w'.cell? ⟨w.heap.size, 1, none⟩ = some (Value.slice An (size (nm p)) cn) ∧ w'.cell? ⟨w.heap.size, 2, none⟩ = some (Value.slice Ad (size p.den) cd) ∧ w'.cell? ⟨w.heap.size + 1, 0, none⟩ = some (.bool (ng q)) ∧ w'.cell? ⟨w.heap.size + 1, 1, none⟩ = some (Value.slice An' (size (nm q)) cn') ∧ w'.cell? ⟨w.heap.size + 1, 2, none⟩ = some (Value.slice Ad' (size q.den) cd'))
    (first | exact two_step (by assumption) (by assumption) | exact two_set (by assumption) (by omega) (by omega) (by omega) | assumption | (refine ⟨Kept.three _ _ _ _, ?_⟩; simp [go_sem, World.cell?_alloc_past]))
    (first
      | (go_at_call 88; first | (refine Calls.mono (mul_v (a := nm p) (b := q.den) (by omega) (by omega)) ?_; rintro e w1 ⟨v1, rfl, hv1, hk1⟩; have i1 := NatS.lift hv1; have u1 := Kept.chain hk1) | (refine Calls.mono (mul_v (a := p.den) (b := nm q) (by omega) (by omega)) ?_; rintro e w2 ⟨v2, rfl, hv2, hk2⟩; have i2 := NatS.lift hv2; have u2 := Kept.chain hk2))
      | (go_at_call 105; refine Calls.mono (make_v (n := nm p * q.den) (d := p.den * nm q) (by omega) (by omega) (Nat.mul_ne_zero p.den_nz b7)) ?_; rintro e w3 ⟨s3, vn3, vd3, rfl, hq3, hk3⟩; obtain ⟨An3, cn3, rfl, _, _⟩ := hq3.2.1.at; obtain ⟨Ad3, cd3, rfl, _, _⟩ := hq3.2.2.at; have hr3 := Kept.row hk3 (Kept.row hk2 (Kept.row hk1 (Kept.row (Kept.drew _) (row_newAt (g := w.heap.size + 1 + 1) _ _ _ (by simp))))); obtain ⟨c0, c1, c2, f0, f1, f2⟩ := three hr3))
  all_goals go_wp2
  all_goals exact ret_rat2 rfl rfl rfl rfl hr3 (by omega) (Kept.then (Kept.three _ _ _ _) (Kept.then hk1 (Kept.then hk2 hk3))) hq3
end Go.Proofs.YtpclkgjhfhhddaaGreat.V
/- Rational numbers: walks: sums. -/
namespace Go.Proofs.YtpclkgjhfhhddaaGreat.V
open Go Go.RowKit Go.Proofs.YtpclkgjhfhhddaaGreat.PN
set_option linter.unusedVariables false
set_option linter.unusedSimpArgs false
theorem one_step {W w w1 : World} {g : Nat} {a : Value} (hs : Kept W w ∧ w.cell? ⟨g, 0, none⟩ = some a) (hk : Kept w w1) : Kept W w1 ∧ w1.cell? ⟨g, 0, none⟩ = some a := ⟨Kept.then hs.1 hk, hk.cell hs.2⟩
theorem one_set {W w : World} {g : Nat} {a : Value} {r : Nat} {s : Bool} {vn vd : Value} (hs : Kept W w ∧ w.cell? ⟨g, 0, none⟩ = some a) (hr : W.heap.size ≤ r) (hg : g ≠ r) : Kept W (set3 w r s vn vd) ∧ (set3 w r s vn vd).cell? ⟨g, 0, none⟩ = some a :=
  ⟨kept_set3 hs.1 hr s vn vd, (cell_set3 w r s vn vd 0 hg).trans hs.2⟩
set_option maxHeartbeats 4000000 in
theorem add_rat {w : World} {s s' : Bool} {vn vd vn' vd' : Value} {p q : Rat} [hp : RatAt w s vn vd p] [hq : RatAt w s' vn' vd' q] (hs : wt p ≤ 1000000000000) (hs' : wt q ≤ 1000000000000) :
    Calls Tryz.prog 70 #[.agg #[.bool s, vn, vd], .agg #[.bool s', vn', vd']] w (MadeRat w (p + q)) := by
  obtain ⟨rfl, hn, hd⟩ := hp.out
  obtain ⟨rfl, hn', hd'⟩ := hq.out
  obtain ⟨An, cn, rfl, _, _⟩ := hn.at
  obtain ⟨Ad, cd, rfl, _, _⟩ := hd.at
  obtain ⟨An', cn', rfl, _, _⟩ := hn'.at
  obtain ⟨Ad', cd', rfl, _, _⟩ := hd'.at
  have HN := Lib.hid (NatS.lift hn); have HD := Lib.hid (NatS.lift hd); have HN' := Lib.hid (NatS.lift hn'); have HD' := Lib.hid (NatS.lift hd')
  clear hn hd hn' hd' hp hq
  have b1 := wt_num p; have b2 := wt_den p; have b3 := wt_num q; have b4 := wt_den q
  have b5 := size_mul (nm p) q.den; have b6 := size_mul (nm q) p.den; have b7 := size_mul p.den q.den
  have b8 := size_add (nm p * q.den) (nm q * p.den) 2000000000000 (by omega) (by omega)
  have hz := Nat.mul_ne_zero p.den_nz q.den_nz
  have HZ := Lib.hid hz; clear hz
  by_cases hng : ng p = ng q
  · have hb : (ng p == ng q) = true := by rw [hng]; simp
    rw [add_parts_same _ _ hng]
    clear hng
    go_enter Tryz.func70, Tryz.ntmps70
    have iN := HN.out; have iD := HD.out; have iN' := HN'.out; have iD' := HD'.out
    go_wp2
    go_region_held3 (fun w' => Kept w w' ∧ w'.cell? ⟨w.heap.size, 0, none⟩ = some (.bool (ng p)) ∧ w'.cell? ⟨w.heap.size, 1, none⟩ = some (Value.slice An (size (nm p)) cn) ∧ w'.cell? ⟨w.heap.size, 2, none⟩ = some (Value.slice Ad (size p.den) cd) ∧ w'.cell? ⟨w.heap.size + 1, 0, none⟩ = some (.bool (ng q)) ∧ w'.cell? ⟨w.heap.size + 1, 1, none⟩ = some (Value.slice An' (size (nm q)) cn') ∧ w'.cell? ⟨w.heap.size + 1, 2, none⟩ = some (Value.slice Ad' (size q.den) cd'))
      (first | exact two_step (by assumption) (by assumption) | assumption | (refine ⟨Kept.three _ _ _ _, ?_⟩; simp [go_sem, World.cell?_alloc_past]))
      (first
        | (go_at_call 88; first | (refine Calls.mono (mul_v (a := nm p) (b := q.den) (by omega) (by omega)) ?_; rintro e w1 ⟨v1, rfl, hv1, hk1⟩; have i1 := NatS.lift hv1; have u1 := Kept.chain hk1) | (refine Calls.mono (mul_v (a := nm q) (b := p.den) (by omega) (by omega)) ?_; rintro e w2 ⟨v2, rfl, hv2, hk2⟩; have i2 := NatS.lift hv2; have u2 := Kept.chain hk2) | (refine Calls.mono (mul_v (a := p.den) (b := q.den) (by omega) (by omega)) ?_; rintro e w3 ⟨v3, rfl, hv3, hk3⟩; have i3 := NatS.lift hv3; have u3 := Kept.chain hk3)))
    obtain ⟨hK, g0, g1, g2, g3, g4, g5⟩ := ‹Kept w w3 ∧ _›
    have hr := Kept.row hk3 (Kept.row hk2 (Kept.row hk1 (Kept.row (Kept.drew _) (row_newAt (g := w.heap.size + 1 + 1) _ _ _ (by simp)))))
    have HR := Lib.hid hr; have HK := Lib.hid hK
    clear hk1 hk2 hk3 hv1 hv2 hv3 hr hK
    go_wp2
    go_region_held3 (fun w' => Kept w w' ∧ w'.cell? ⟨w.heap.size, 0, none⟩ = some (.bool (ng p)))
      (first | exact one_step (by assumption) (by assumption) | exact one_set (by assumption) (by omega) (by omega) | assumption | exact ⟨Kept.then HK.out (Kept.drew _), g0⟩)
      (first
        | (go_at_call 90; refine Calls.mono (add_v (a := nm p * q.den) (b := nm q * p.den) (by omega) (by omega)) ?_; rintro e w4 ⟨v4, rfl, hv4, hk4⟩; have i4 := NatS.lift hv4; have u4 := Kept.chain hk4)
        | (go_at_call 89; refine Calls.mono (low_v (n := nm p * q.den + nm q * p.den) (d := p.den * q.den) (by omega) (by omega) HZ.out) ?_; rintro e w5 ⟨s5, vn5, vd5, rfl, hq5, hk5⟩; obtain ⟨An5, cn5, rfl, _, _⟩ := hq5.2.1.at; obtain ⟨Ad5, cd5, rfl, _, _⟩ := hq5.2.2.at; have hr5 := Kept.row hk5 (Kept.row hk4 (Kept.row (Kept.drew _) HR.out)); obtain ⟨c0, c1, c2, f0, f1, f2⟩ := three hr5))
    go_wp2
    exact ret_rat rfl rfl rfl hr5 (by omega) (Kept.then HK.out (Kept.then (Kept.drew _) (Kept.then hk4 hk5))) hq5
  · have hb : (ng p == ng q) = false := by simpa using hng
    rcases Nat.lt_or_ge (nm p * q.den) (nm q * p.den) with hlt | hge
    · rw [add_parts_lt _ _ hng (Nat.le_of_lt hlt)]
      have b9 := size_le_of_le (Nat.sub_le (nm q * p.den) (nm p * q.den))
      have hle := Lib.hid hlt
      clear hng hlt
      go_enter Tryz.func70, Tryz.ntmps70
      have iN := HN.out; have iD := HD.out; have iN' := HN'.out; have iD' := HD'.out
      go_wp2
      go_region_held3 (fun w' => Kept w w' ∧ w'.cell? ⟨w.heap.size, 0, none⟩ = some (.bool (ng p)) ∧ w'.cell? ⟨w.heap.size, 1, none⟩ = some (Value.slice An (size (nm p)) cn) ∧ w'.cell? ⟨w.heap.size, 2, none⟩ = some (Value.slice Ad (size p.den) cd) ∧ w'.cell? ⟨w.heap.size + 1, 0, none⟩ = some (.bool (ng q)) ∧ w'.cell? ⟨w.heap.size + 1, 1, none⟩ = some (Value.slice An' (size (nm q)) cn') ∧ w'.cell? ⟨w.heap.size + 1, 2, none⟩ = some (Value.slice Ad' (size q.den) cd'))
        (first | exact two_step (by assumption) (by assumption) | assumption | (refine ⟨Kept.three _ _ _ _, ?_⟩; simp [go_sem, World.cell?_alloc_past]))
        (first
          | (go_at_call 88; first | (refine Calls.mono (mul_v (a := nm p) (b := q.den) (by omega) (by omega)) ?_; rintro e w1 ⟨v1, rfl, hv1, hk1⟩; have i1 := NatS.lift hv1; have u1 := Kept.chain hk1) | (refine Calls.mono (mul_v (a := nm q) (b := p.den) (by omega) (by omega)) ?_; rintro e w2 ⟨v2, rfl, hv2, hk2⟩; have i2 := NatS.lift hv2; have u2 := Kept.chain hk2) | (refine Calls.mono (mul_v (a := p.den) (b := q.den) (by omega) (by omega)) ?_; rintro e w3 ⟨v3, rfl, hv3, hk3⟩; have i3 := NatS.lift hv3; have u3 := Kept.chain hk3)))
      obtain ⟨hK, g0, g1, g2, g3, g4, g5⟩ := ‹Kept w w3 ∧ _›
      have hr := Kept.row hk3 (Kept.row hk2 (Kept.row hk1 (Kept.row (Kept.drew _) (row_newAt (g := w.heap.size + 1 + 1) _ _ _ (by simp)))))
      have HR := Lib.hid hr; have HK := Lib.hid hK
      clear hk1 hk2 hk3 hv1 hv2 hv3 hr hK
      go_wp2_with (first
        | (go_at_call 91; first | (refine Calls.mono (sub_no (a := nm p * q.den) (b := nm q * p.den) (by omega) (by omega) hle.out) ?_; rintro e w4 ⟨v4, rfl, hv4, hk4⟩; obtain ⟨A4, c4, rfl, _, _⟩ := hv4.at; have u4 := Kept.chain hk4; have HK4 := Lib.hid hk4; obtain ⟨hc4, hf4⟩ := bcell hk4; have e4 := hk4.cell g3; clear hk4 hv4) | (refine Calls.mono (sub_v (a := nm q * p.den) (b := nm p * q.den) (by omega) (by omega) (Nat.le_of_lt hle.out)) ?_; rintro e w5 ⟨v5, rfl, hv5, hk5⟩; obtain ⟨A5, c5, rfl, _, _⟩ := hv5.at; have i5 := NatS.lift hv5; have u5 := Kept.chain hk5; have HK5 := Lib.hid hk5; obtain ⟨hc5, hf5⟩ := bcell hk5; have e5 := hk5.cell e4; clear hk5 hv5))
        | (go_at_call 89; refine Calls.mono (low_v (n := nm q * p.den - nm p * q.den) (d := p.den * q.den) (by omega) (by omega) HZ.out) ?_; rintro e w6 ⟨s6, vn6, vd6, rfl, hq6, hk6⟩; obtain ⟨An6, cn6, rfl, _, _⟩ := hq6.2.1.at; obtain ⟨Ad6, cd6, rfl, _, _⟩ := hq6.2.2.at; have hr6 := Kept.row hk6 (Kept.row HK5.out (Kept.row HK4.out HR.out)); obtain ⟨c0, c1, c2, f0, f1, f2⟩ := three hr6; have HQ6 := Lib.hid hq6; have HK6 := Lib.hid hk6; have HR6 := Lib.hid hr6; clear hq6 hk6 hr6))
      exact ret_rat rfl rfl rfl HR6.out (by omega) (Kept.then HK.out (Kept.then HK4.out (Kept.then HK5.out HK6.out))) HQ6.out
    · rw [add_parts_ge _ _ hng hge]
      have b9 := size_le_of_le (Nat.sub_le (nm p * q.den) (nm q * p.den))
      have hle := Lib.hid hge
      clear hng hge
      go_enter Tryz.func70, Tryz.ntmps70
      have iN := HN.out; have iD := HD.out; have iN' := HN'.out; have iD' := HD'.out
      go_wp2
      go_region_held3 (fun w' => Kept w w' ∧ w'.cell? ⟨w.heap.size, 0, none⟩ = some (.bool (ng p)) ∧ w'.cell? ⟨w.heap.size, 1, none⟩ = some (Value.slice An (size (nm p)) cn) ∧ w'.cell? ⟨w.heap.size, 2, none⟩ = some (Value.slice Ad (size p.den) cd) ∧ w'.cell? ⟨w.heap.size + 1, 0, none⟩ = some (.bool (ng q)) ∧ w'.cell? ⟨w.heap.size + 1, 1, none⟩ = some (Value.slice An' (size (nm q)) cn') ∧ w'.cell? ⟨w.heap.size + 1, 2, none⟩ = some (Value.slice Ad' (size q.den) cd'))
        (first | exact two_step (by assumption) (by assumption) | assumption | (refine ⟨Kept.three _ _ _ _, ?_⟩; simp [go_sem, World.cell?_alloc_past]))
        (first
          | (go_at_call 88; first | (refine Calls.mono (mul_v (a := nm p) (b := q.den) (by omega) (by omega)) ?_; rintro e w1 ⟨v1, rfl, hv1, hk1⟩; have i1 := NatS.lift hv1; have u1 := Kept.chain hk1) | (refine Calls.mono (mul_v (a := nm q) (b := p.den) (by omega) (by omega)) ?_; rintro e w2 ⟨v2, rfl, hv2, hk2⟩; have i2 := NatS.lift hv2; have u2 := Kept.chain hk2) | (refine Calls.mono (mul_v (a := p.den) (b := q.den) (by omega) (by omega)) ?_; rintro e w3 ⟨v3, rfl, hv3, hk3⟩; have i3 := NatS.lift hv3; have u3 := Kept.chain hk3)))
      obtain ⟨hK, g0, g1, g2, g3, g4, g5⟩ := ‹Kept w w3 ∧ _›
      have hr := Kept.row hk3 (Kept.row hk2 (Kept.row hk1 (Kept.row (Kept.drew _) (row_newAt (g := w.heap.size + 1 + 1) _ _ _ (by simp)))))
      have HR := Lib.hid hr; have HK := Lib.hid hK
      clear hk1 hk2 hk3 hv1 hv2 hv3 hr hK
      go_wp2_with (first
        | (go_at_call 91; (refine Calls.mono (sub_v (a := nm p * q.den) (b := nm q * p.den) (by omega) (by omega) hle.out) ?_; rintro e w5 ⟨v5, rfl, hv5, hk5⟩; obtain ⟨A5, c5, rfl, _, _⟩ := hv5.at; have i5 := NatS.lift hv5; have u5 := Kept.chain hk5; have HK5 := Lib.hid hk5; obtain ⟨hc5, hf5⟩ := bcell hk5; have e5 := hk5.cell g0; clear hk5 hv5))
        | (go_at_call 89; refine Calls.mono (low_v (n := nm p * q.den - nm q * p.den) (d := p.den * q.den) (by omega) (by omega) HZ.out) ?_; rintro e w6 ⟨s6, vn6, vd6, rfl, hq6, hk6⟩; obtain ⟨An6, cn6, rfl, _, _⟩ := hq6.2.1.at; obtain ⟨Ad6, cd6, rfl, _, _⟩ := hq6.2.2.at; have hr6 := Kept.row hk6 (Kept.row HK5.out HR.out); obtain ⟨c0, c1, c2, f0, f1, f2⟩ := three hr6; have HQ6 := Lib.hid hq6; have HK6 := Lib.hid hk6; have HR6 := Lib.hid hr6; clear hq6 hk6 hr6))
      exact ret_rat rfl rfl rfl HR6.out (by omega) (Kept.then HK.out (Kept.then HK5.out HK6.out)) HQ6.out
end Go.Proofs.YtpclkgjhfhhddaaGreat.V
/- Rational numbers: walks: a number of its own, the other sign. -/
namespace Go.Proofs.YtpclkgjhfhhddaaGreat.V
open Go Go.RowKit Go.Proofs.YtpclkgjhfhhddaaGreat.PN
set_option linter.unusedVariables false
set_option linter.unusedSimpArgs false
theorem Row?.far {w : World} {k g : Nat} {cs : Array Value} {T : TypeId} (h : Row? w k cs T) (hne : k ≠ g) (o : Nat) (u : Value) : Row? (w.setCell ⟨g, o, none⟩ u) k cs T := (Below.heap_setCell w ⟨g, o, none⟩ u k hne).trans h
theorem clone_v {w : World} {va : Value} {a : Nat} [ha : NatAt w va a] (hn : size a ≤ 4398046511103) : Calls Tryz.prog 108 #[va] w (MadeNat w a) := by
  obtain ⟨A, c, rfl, hc, h1⟩ := ha.at
  exact clone_any A c a (size a) w h1 (by omega)
set_option maxHeartbeats 4000000 in
theorem own_rat {w : World} {s : Bool} {vn vd : Value} {p : Rat} [hp : RatAt w s vn vd p] (hs : wt p ≤ 1000000000000) :
    Calls Tryz.prog 107 #[.agg #[.bool s, vn, vd]] w (MadeRat w p) := by
  obtain ⟨rfl, hn, hd⟩ := hp.out
  obtain ⟨An, cn, rfl, _, _⟩ := hn.at
  obtain ⟨Ad, cd, rfl, _, _⟩ := hd.at
  have HN := Lib.hid (NatS.lift hn); have HD := Lib.hid (NatS.lift hd)
  clear hn hd hp
  have b1 := wt_num p; have b2 := wt_den p
  go_enter Tryz.func107, Tryz.ntmps107
  have iN := HN.out; have iD := HD.out
  go_wp2
  go_region_with (first
      | (go_at_call 108; first | (refine Calls.mono (clone_v (a := nm p) (by omega)) ?_; rintro e w1 ⟨v1, rfl, hv1, hk1⟩; obtain ⟨A1, C1, rfl, _, _⟩ := hv1.at; have i1 := NatS.lift hv1; have u1 := Kept.chain hk1; have hb1 := Kept.row hk1 (Kept.row (Kept.then (Kept.alloc _ _) (Kept.drew _)) (row_new w _ _)); have hr1 := Kept.row hk1 (Kept.row (Kept.drew _) (row_newAt (g := w.heap.size + 1) _ _ _ (by simp))); have us := (Up.set (Up.refl w1) (Typed.mk' hb1) (by decide) 1 (.slice A1 (size (nm p)) C1)).chain; obtain ⟨c0, c1, c2, f0, f1, f2⟩ := three hb1) | (refine Calls.mono (clone_v (a := p.den) (by omega)) ?_; rintro e w2 ⟨v2, rfl, hv2, hk2⟩; obtain ⟨A2, C2, rfl, _, _⟩ := hv2.at; have i2 := NatS.lift hv2; have u2 := Kept.chain hk2; (first | (have hb2 := Kept.row hk2 hb1; have hr2 := Kept.row hk2 hr1) | (have hb2 := Kept.row hk2 (Row?.set hb1 1 (.slice A1 (size (nm p)) C1)); have hr2 := Kept.row hk2 (Row?.far hr1 (by omega) 1 (.slice A1 (size (nm p)) C1)))); (try simp only [List.setIfInBounds_toArray, List.set_cons_zero, List.set_cons_succ] at hb2); obtain ⟨d0, d1, d2, e0, e1, e2⟩ := three hb2; obtain ⟨d3, d4, d5, e3, e4, e5⟩ := three hr2)))
  all_goals go_wp2
  all_goals
    have hK : Kept w w2 := Kept.then (Kept.then (Kept.alloc _ _) (Kept.then (Kept.alloc _ _) (Kept.drew _))) (Kept.then hk1 hk2)
    have q2 := (Up.set (Up.set (Up.refl w2) (Typed.mk' hb2) (by decide) 1 (.slice A1 (size (nm p)) C1)) (Typed.mk' (Row?.set hb2 1 (.slice A1 (size (nm p)) C1))) (by decide) 2 (.slice A2 (size p.den) C2)).chain
    exact ret_rat rfl rfl rfl (Row?.far (Row?.far hr2 (by omega) _ _) (by omega) _ _) (by omega) (Kept.set (Kept.set hK (Nat.le_refl _) _ _) (Nat.le_refl _) _ _) ⟨rfl, (i1 _).out, (i2 _).out⟩
end Go.Proofs.YtpclkgjhfhhddaaGreat.V
/- Rational numbers: walks: the other sign, differences, a right number. -/
namespace Go.Proofs.YtpclkgjhfhhddaaGreat.V
open Go Go.RowKit Go.Proofs.YtpclkgjhfhhddaaGreat.PN
set_option linter.unusedVariables false
set_option linter.unusedSimpArgs false
theorem Row?.far3 {w : World} {k g : Nat} {cs : Array Value} {T : TypeId} (h : Row? w k cs T) (hne : k ≠ g) (s : Bool) (vn vd : Value) : Row? (set3 w g s vn vd) k cs T := ((h.far hne 0 _).far hne 1 _).far hne 2 _
set_option maxHeartbeats 4000000 in
theorem neg_rat {w : World} {s : Bool} {vn vd : Value} {p : Rat} [hp : RatAt w s vn vd p] (hs : wt p ≤ 1000000000000) :
    Calls Tryz.prog 98 #[.agg #[.bool s, vn, vd]] w (MadeRat w (-p)) := by
  obtain ⟨rfl, hn, hd⟩ := hp.out
  obtain ⟨An, cn, rfl, _, _⟩ := hn.at
  obtain ⟨Ad, cd, rfl, _, _⟩ := hd.at
  have HP := Lib.hid (RatS.at hp.out)
  clear hn hd hp
  have e1 := neg_ng p
  have z2 : decide (0 < size (nm p)) = decide (0 < nm p) := by
    by_cases h : nm p = 0
    · rw [h, size_zero]
    · have := size_pos (s := nm p) (by omega)
      rw [decide_eq_true (by omega), decide_eq_true (by omega)]
  have Z2 := Lib.hid z2; clear z2
  have n1 := neg_nm p; have n2 := neg_den p
  have N1 := Lib.hid n1; have N2 := Lib.hid n2; have E1 := Lib.hid e1
  clear n1 n2 e1
  have HP' := HP.out
  rcases hb : ng p with _ | _
  all_goals
    rw [hb] at HP' E1
    go_enter Tryz.func98, Tryz.ntmps98
    have iP := HP'
    go_wp2_with (go_at_call 107; refine Calls.mono (own_rat (p := p) hs) ?_; rintro e w1 ⟨s1, vn1, vd1, rfl, hq1, hk1⟩; obtain ⟨rfl, hv, hv'⟩ := hq1; obtain ⟨An1, cn1, rfl, _, _⟩ := hv.at; obtain ⟨Ad1, cd1, rfl, _, _⟩ := hv'.at; have HV := Lib.hid hv; have HV' := Lib.hid hv'; have HK1 := Lib.hid hk1; have hb1 := Kept.row hk1 (Kept.row (Kept.alloc _ _) (row_new w _ _)); have hr1 := Kept.row hk1 (row_newAt (g := w.heap.size + 1) _ _ _ (by simp)); obtain ⟨d0, d1, d2, e0, e1, e2⟩ := three hb1; obtain ⟨d3, d4, d5, e3, e4, e5⟩ := three hr1; clear hv hv' hk1)
    have hK : Kept w w1 := Kept.then (Kept.then (Kept.alloc _ _) (Kept.alloc _ _)) HK1.out
    have q1 := fun b => Up.set (up_set3 (Up.refl w1) hb1 b (.slice An1 (size (nm p)) cn1) (.slice Ad1 (size p.den) cd1)) (Typed.mk' (row_set3 hb1 b (.slice An1 (size (nm p)) cn1) (.slice Ad1 (size p.den) cd1))) (by decide) 0
    refine ret_rat rfl rfl rfl (Row?.far (Row?.far3 hr1 (by omega) _ _ _) (by omega) _ _) (by omega) (Kept.set (kept_set3 hK (Nat.le_refl _) _ _ _) (Nat.le_refl _) _ _) ⟨?_, ?_, ?_⟩
    · first | exact Z2.out.trans E1.out.symm | exact E1.out.symm
    · unfold NatS; rw [N1.out]; exact Dg.up HV.out (q1 _ _)
    · unfold NatS; rw [N2.out]; exact Dg.up HV'.out (q1 _ _)
set_option maxHeartbeats 2000000 in
theorem sub_rat {w : World} {s s' : Bool} {vn vd vn' vd' : Value} {p q : Rat} [hp : RatAt w s vn vd p] [hq : RatAt w s' vn' vd' q] (hs : wt p ≤ 1000000000000) (hs' : wt q ≤ 1000000000000) :
    Calls Tryz.prog 83 #[.agg #[.bool s, vn, vd], .agg #[.bool s', vn', vd']] w (MadeRat w (p - q)) := by
  obtain ⟨rfl, hn, hd⟩ := hp.out
  obtain ⟨rfl, hn', hd'⟩ := hq.out
  obtain ⟨An, cn, rfl, _, _⟩ := hn.at
  obtain ⟨Ad, cd, rfl, _, _⟩ := hd.at
  obtain ⟨An', cn', rfl, _, _⟩ := hn'.at
  obtain ⟨Ad', cd', rfl, _, _⟩ := hd'.at
  have HP := Lib.hid (RatS.at hp.out); have HQ := Lib.hid (RatS.at hq.out)
  clear hn hd hn' hd' hp hq
  have hs2 : wt (-q) ≤ 1000000000000 := by rw [wt_neg]; exact hs'
  rw [Rat.sub_eq_add_neg]
  go_enter Tryz.func83, Tryz.ntmps83
  have iP := HP.out; have iQ := HQ.out
  go_wp2
  go_region_held3 (fun w' => Kept w w' ∧ w'.cell? ⟨w.heap.size, 0, none⟩ = some (.bool (ng p)) ∧ w'.cell? ⟨w.heap.size, 1, none⟩ = some (Value.slice An (size (nm p)) cn) ∧ w'.cell? ⟨w.heap.size, 2, none⟩ = some (Value.slice Ad (size p.den) cd) ∧ w'.cell? ⟨w.heap.size + 1, 0, none⟩ = some (.bool (ng q)) ∧ w'.cell? ⟨w.heap.size + 1, 1, none⟩ = some (Value.slice An' (size (nm q)) cn') ∧ w'.cell? ⟨w.heap.size + 1, 2, none⟩ = some (Value.slice Ad' (size q.den) cd'))
    (first | exact two_step (by assumption) (by assumption) | exact two_set (by assumption) (by omega) (by omega) (by omega) | assumption | (refine ⟨Kept.three _ _ _ _, ?_⟩; simp [go_sem, World.cell?_alloc_past]))
    (first
      | (go_at_call 98; refine Calls.mono (neg_rat (p := q) hs') ?_; rintro e w1 ⟨s1, vn1, vd1, rfl, hq1, hk1⟩; have i1 := RatS.at hq1; have u1 := Kept.chain hk1)
      | (go_at_call 70; refine Calls.mono (add_rat (p := p) (q := -q) hs hs2) ?_; rintro e w3 ⟨s3, vn3, vd3, rfl, hq3, hk3⟩; obtain ⟨An3, cn3, rfl, _, _⟩ := hq3.2.1.at; obtain ⟨Ad3, cd3, rfl, _, _⟩ := hq3.2.2.at; have hr3 := Kept.row hk3 (Kept.row hk1 (Kept.row (Kept.drew _) (row_newAt (g := w.heap.size + 1 + 1) _ _ _ (by simp)))); obtain ⟨c0, c1, c2, f0, f1, f2⟩ := three hr3))
  all_goals
    go_wp2
    exact ret_rat rfl rfl rfl hr3 (by omega) (Kept.then (Kept.three _ _ _ _) (Kept.then hk1 hk3)) hq3
end Go.Proofs.YtpclkgjhfhhddaaGreat.V
/- Rational numbers: walks: what is a right number. -/
namespace Go.Proofs.YtpclkgjhfhhddaaGreat.V
open Go Go.RowKit Go.Proofs.YtpclkgjhfhhddaaGreat.PN
set_option linter.unusedVariables false
set_option linter.unusedSimpArgs false
theorem right_v {w : World} {va : Value} {a : Nat} [ha : NatAt w va a] (hn : size a ≤ 4398046511103) : Calls Tryz.prog 93 #[va] w fun e w' => e = .returned (.bool true) ∧ w = w' := by
  obtain ⟨A, c, rfl, hc, h1⟩ := ha.at
  have h := right_any A c a (size a) w h1 (lt_size a) (by omega)
  simpa using h
theorem one_box {W w w1 : World} {g : Nat} {a b c : Value} (hs : Kept W w ∧ w.cell? ⟨g, 0, none⟩ = some a ∧ w.cell? ⟨g, 1, none⟩ = some b ∧ w.cell? ⟨g, 2, none⟩ = some c) (hk : Kept w w1) :
    Kept W w1 ∧ w1.cell? ⟨g, 0, none⟩ = some a ∧ w1.cell? ⟨g, 1, none⟩ = some b ∧ w1.cell? ⟨g, 2, none⟩ = some c := ⟨Kept.then hs.1 hk, hk.cell hs.2.1, hk.cell hs.2.2.1, hk.cell hs.2.2.2⟩
set_option maxHeartbeats 4000000 in
theorem right_rat {w : World} {s : Bool} {vn vd : Value} {p : Rat} [hp : RatAt w s vn vd p] (hs : wt p ≤ 1000000000000) :
    Calls Tryz.prog 76 #[.agg #[.bool s, vn, vd]] w fun e w' => e = .returned (.bool true) ∧ Kept w w' := by
  obtain ⟨rfl, hn, hd⟩ := hp.out
  obtain ⟨An, cn, rfl, _, _⟩ := hn.at
  obtain ⟨Ad, cd, rfl, _, _⟩ := hd.at
  have HN := Lib.hid (NatS.lift hn); have HD := Lib.hid (NatS.lift hd)
  clear hn hd hp
  have b1 := wt_num p; have b2 := wt_den p
  have hz : ((size p.den : Int) == 0) = false := by
    have := size_pos (s := p.den) p.den_nz
    simp; omega
  have b3 : size 1 ≤ 4398046511103 := by decide
  have hq : ∀ x, x = 1 → (cmpI x 1 == 0) = true := by rintro x rfl; decide
  have HQ := Lib.hid hq; clear hq
  by_cases h0 : p = 0
  · have hz' : ((size (nm p) : Int) == 0) = true := by rw [h0]; decide
    have hb : ng p = false := by rw [h0]; rfl
    have h1 : p.den = 1 := by rw [h0]; rfl
    have e2 := (HQ.out p.den h1)
    clear h0 h1
    go_enter Tryz.func76, Tryz.ntmps76
    have iN := HN.out; have iD := HD.out
    go_wp2_with (go_at_call 93; first | (refine Calls.mono (right_v (a := nm p) (by omega)) ?_; rintro e w1 ⟨rfl, rfl⟩) | (refine Calls.mono (right_v (a := p.den) (by omega)) ?_; rintro e w1 ⟨rfl, rfl⟩))
    go_region_held3 (fun w' => Kept w w' ∧ w'.cell? ⟨w.heap.size, 0, none⟩ = some (.bool false) ∧ w'.cell? ⟨w.heap.size, 1, none⟩ = some (Value.slice An (size (nm p)) cn) ∧ w'.cell? ⟨w.heap.size, 2, none⟩ = some (Value.slice Ad (size p.den) cd))
      (first | exact one_box (by assumption) (by assumption) | assumption | (refine ⟨Kept.then (Kept.alloc _ _) (Kept.drew _), ?_⟩; simp [go_sem, World.cell?_alloc_past]))
      (first
        | (go_at_call 95; refine Calls.mono (rone_any _) ?_; rintro e w3 ⟨v3, rfl, hv3, hk3⟩; have i3 := NatS.lift hv3; have u3 := Kept.chain hk3)
        | (go_at_call 94; refine Calls.mono (cmp_v (a := p.den) (b := 1) (by omega) b3) ?_; rintro e w4 ⟨rfl, hk4⟩))
    all_goals
      go_wp2
      go_ret
      exact ⟨rfl, Kept.then (Kept.then (Kept.alloc _ _) (Kept.drew _)) (Kept.then hk3 hk4)⟩
  · have hz' : ((size (nm p) : Int) == 0) = false := by
      have : nm p ≠ 0 := fun h => h0 (nm_eq_zero.1 h)
      have := size_pos (s := nm p) (by omega)
      simp; omega
    have hg : Nat.gcd (nm p) p.den = 1 := p.reduced
    have hx := HQ.out _ hg
    have hgs : size (Nat.gcd (nm p) p.den) ≤ 4398046511103 := by rw [hg]; decide
    clear h0 hg
    go_enter Tryz.func76, Tryz.ntmps76
    have iN := HN.out; have iD := HD.out
    go_wp2_with (first
      | (go_at_call 93; first | (refine Calls.mono (right_v (a := nm p) (by omega)) ?_; rintro e w1 ⟨rfl, rfl⟩) | (refine Calls.mono (right_v (a := p.den) (by omega)) ?_; rintro e w1 ⟨rfl, rfl⟩))
      | (go_at_call 96; refine Calls.mono (gcd_v (a := nm p) (b := p.den) (by omega) (by omega)) ?_; rintro e w2 ⟨v2, rfl, hv2, hk2⟩; have i2 := NatS.lift hv2; have u2 := Kept.chain hk2; have HK2 := Lib.hid hk2; clear hv2 hk2)
      | (go_at_call 95; refine Calls.mono (rone_any _) ?_; rintro e w3 ⟨v3, rfl, hv3, hk3⟩; have i3 := NatS.lift hv3; have u3 := Kept.chain hk3; have HK3 := Lib.hid hk3; clear hv3 hk3)
      | (go_at_call 94; refine Calls.mono (cmp_v (a := Nat.gcd (nm p) p.den) (b := 1) hgs b3) ?_; rintro e w4 ⟨rfl, hk4⟩; have HK4 := Lib.hid hk4; clear hk4))
    go_ret
    exact ⟨rfl, Kept.then (Kept.alloc _ _) (Kept.then HK2.out (Kept.then HK3.out HK4.out))⟩
end Go.Proofs.YtpclkgjhfhhddaaGreat.V
/- The document's natural numbers: walks: trim, Of, at, Right. -/
namespace Go.Proofs.YtpclkgjhfhhddaaGreat.V
open Go Go.RowKit Go.Proofs.YtpclkgjhfhhddaaGreat.PN
set_option linter.unusedVariables false
set_option linter.unusedSimpArgs false
theorem Dg.zero (w : World) (S : Nat → Prop) (A : Option Addr) (c s : Nat) : Dg w S (.slice A 0 c) s 0 := ⟨A, c, rfl, Nat.zero_le _, fun _ hi => absurd hi (Nat.not_lt_zero _)⟩
theorem At.cells_off {w : World} {b off s n : Nat} (h : At w (some ⟨b, off, none⟩) s n) : ∀ j u, (lim s n)[j]? = some u → w.cell? ⟨b, off + j, none⟩ = some u := by
  intro j u hu
  have hj : j < n := by
    rcases Nat.lt_or_ge j n with hj | hj
    · exact hj
    · rw [List.getElem?_eq_none (by rw [lim_length]; exact hj)] at hu; cases hu
  rw [lim_get hj] at hu
  obtain ⟨b', off', e, hc⟩ := h j hj
  injection e with e; injection e with e1 e2
  subst e1; subst e2
  rw [← hu, ← hc]
set_option maxHeartbeats 1000000 in
theorem r_trim (A : Option Addr) (c s n : Nat) (w : World) (hc : n ≤ c) (ha : At w A s n) (hs : s < B ^ n) (hn : n ≤ 17592186044416) :
    Calls Tryz.prog 55 #[.slice A n c] w (MadeNat w s) := by
  have HA := Lib.hid ha
  have HS := Lib.hid hs
  clear ha hs
  obtain ⟨i0, hi, hz0, hz1, hz2⟩ := info_parts info_u32
  go_enter Tryz.func55, Tryz.ntmps55
  go_wp2
  go_loop [3] (fun i => ∃ k : Nat, k ≤ n ∧ i = .int .i64 k ∧ Hid (s < B ^ k)) (fun i => (intOf i).toNat)
  case atStart => exact ⟨n, Nat.le_refl _, rfl, HS⟩
  case round =>
    clear HS
    obtain ⟨k, hk, rfl, HS⟩ := hrel
    have HE : Hid ((∃ j, k = j + 1 ∧ dig s j = 0) ∨ k = size s) := by
      rcases Nat.eq_zero_or_pos k with h | h
      · subst h
        right
        have := (lt_iff s 0).1 HS.out
        omega
      · obtain ⟨j, rfl⟩ : ∃ j, k = j + 1 := ⟨k - 1, by omega⟩
        by_cases h0 : dig s j = 0
        · exact Or.inl ⟨j, rfl, h0⟩
        · exact Or.inr (size_of_top HS.out h0).symm
    rcases HE.out with h | h
    · obtain ⟨j, rfl, h0⟩ := h
      obtain ⟨b, off, rfl, hcell⟩ := HA.out j (by omega)
      rw [h0] at hcell
      have HZ := Lib.hid (size_cut HS.out h0)
      clear h0 HE HS
      go_wp2
      go_round
      case rel => exact ⟨j, by omega, by go_num, HZ⟩
      case measure => simp [intOf]
    · clear HE
      rcases Nat.eq_zero_or_pos k with h0 | h0
      · subst h0
        have HE := Lib.hid h
        clear h HS
        cases A with
        | none =>
          go_wp2
          go_ret
          exact ⟨_, rfl, by rw [← HE.out]; exact Dg.zero _ _ _ _ _, Kept.alloc w _⟩
        | some ad =>
          go_wp2_with (at_builtin; refine wpList_append_own _ rfl (.tmp 18) (.tmp 21) 22 rfl w.heap.size U32 i0 (.int .u32 0) 1 4 Tryz.underlying22 hi hz0 hz1 hz2 rfl (by decide) _ 0 [] rfl (World.ownsRow_made w #[] 0 (Nat.le_refl _) (by decide) rfl) ad 0 c [] rfl (by simp) (by simp) (by simp) (by unfold maxLen; omega) (by omega) (Nat.le_of_lt (by simp)) ?_)
          intro v' w' ho hg _
          go_wp2
          go_ret
          have hd := Dg.of_own (s := s) (n := 0) ho (by omega) rfl
          exact ⟨_, rfl, by rw [HE.out] at hd; exact hd, (Kept.alloc w _).grown hg (fun k hk => by simp [Value.ownBlock] at hk; omega)⟩
      · obtain ⟨b, off, rfl, hcell⟩ := HA.out (k - 1) (by omega)
        have hne : dig s (k - 1) ≠ 0 := by rw [h]; exact top_ne (fun e => by rw [e] at h; simp [size] at h; omega)
        obtain ⟨d, hd⟩ : ∃ d, d = dig s (k - 1) := ⟨_, rfl⟩
        rw [← hd] at hcell hne
        have hd0 : ((d : Int) == 0) = false := by simp; exact hne
        obtain ⟨j, rfl⟩ : ∃ j, k = j + 1 := ⟨k - 1, by omega⟩
        rw [Nat.add_sub_cancel] at hcell
        have HE := Lib.hid h
        clear h HS hd hne
        go_wp2_with (at_builtin; refine wpList_append_own _ rfl (.tmp 18) (.tmp 21) 22 rfl w.heap.size U32 i0 (.int .u32 0) 1 4 Tryz.underlying22 hi hz0 hz1 hz2 rfl (by decide) _ 0 [] rfl (World.ownsRow_made w #[] 0 (Nat.le_refl _) (by decide) rfl) ⟨b, off, none⟩ (j + 1) c (lim s (j + 1)) rfl (by rw [lim_length, Nat.mul_one]) ?cl (lim_one s (j + 1)) (by unfold maxLen; omega) (by omega) (Nat.le_of_lt (by simp)) ?_)
        case cl => exact At.cells_off (At.kept (fun i hi => HA.out i (by omega)) (Kept.alloc w _))
        · intro v' w' ho hg _
          go_wp2
          go_ret
          have hd := Dg.of_own (s := s) (n := j + 1) ho (by omega) rfl
          exact ⟨_, rfl, by rw [HE.out] at hd; exact hd, (Kept.alloc w _).grown hg (fun k hk => by simp [Value.ownBlock] at hk; omega)⟩
set_option maxHeartbeats 1000000 in
theorem r_at (A : Option Addr) (c s n i : Nat) (w : World) (ha : At w A s n) (hs : s < B ^ n) (hn : n ≤ 9223372036854775807) :
    Calls Tryz.prog 56 #[.slice A n c, .int .i64 (i : Int)] w fun e w' => e = .returned (.int .u64 (dig s i : Nat)) ∧ w = w' := by
  by_cases h1 : i < n
  · obtain ⟨b, off, rfl, hcell⟩ := ha i h1
    have hlt : dig s i < 4294967296 := dig_lt s i
    clear ha hs
    generalize dig s i = d at *
    go_enter Tryz.func56, Tryz.ntmps56
    go_wp2
    go_ret
    simp
  · have hz : dig s i = 0 := dig_over hs (by omega)
    rw [hz]
    clear ha hs hz
    go_enter Tryz.func56, Tryz.ntmps56
    go_wp2
    go_ret
    simp
theorem at_pair (w : World) (x : Nat) {a b : Int} (ha : a = (dig x 0 : Nat)) (hb : b = (dig x 1 : Nat)) : At (w.alloc (.cells #[.int .u32 a, .int .u32 b] U32)) (some ⟨w.heap.size, 0, none⟩) x 2 := by
  subst ha; subst hb
  intro i hi
  refine ⟨_, _, rfl, ?_⟩
  rw [cell_of_row _ _ _ _ _ _ (row_new w _ U32)]
  rcases i with _ | _ | i
  · rfl
  · rfl
  · omega
set_option maxHeartbeats 1000000 in
theorem r_of (x : Nat) (w : World) (hx : x < 18446744073709551616) : Calls Tryz.prog 49 #[.int .u64 (x : Int)] w (MadeNat w x) := by
  have h0 : dig x 0 = x % 4294967296 := by unfold dig; simp [B]
  have h1 : dig x 1 = x / 4294967296 := by unfold dig; simp only [B]; omega
  have h2 : x < B ^ 2 := by simp only [B]; omega
  have e0 : ((x : Int) % 4294967296) = ((dig x 0 : Nat) : Int) := by rw [h0]; omega
  have e1 : ((x : Int) / 4294967296) = ((dig x 1 : Nat) : Int) := by rw [h1]; omega
  have H2 := Lib.hid h2
  clear h0 h1 h2
  go_enter Tryz.func49, Tryz.ntmps49
  go_wp2_with (go_at_call 55; refine (r_trim (some ⟨w.heap.size, 0, none⟩) 2 x 2 _ (Nat.le_refl _) (at_pair w x (by first | rfl | exact e0) (by first | rfl | exact e1)) H2.out (by omega)).mono ?_; rintro e w1 ⟨v1, rfl, hv1, hk1⟩)
  go_ret
  exact ⟨_, rfl, hv1.mono (fun k hk _ => Nat.le_trans (by simp) hk), Kept.then (Kept.alloc _ _) hk1⟩
end Go.Proofs.YtpclkgjhfhhddaaGreat.V
/- The laws' raw numbers: limbs, so many, without noughts at the end. -/
namespace Go.Proofs.YtpclkgjhfhhddaaGreat.V
open Go Go.RowKit Go.Proofs.YtpclkgjhfhhddaaGreat.PN
set_option linter.unusedVariables false
set_option linter.unusedSimpArgs false
set_option maxHeartbeats 2000000
set_option maxRecDepth 100000
theorem l1_make (A : Option Addr) (c s n k : Nat) (w : World) (hc : n ≤ c) (hk : min (n : Int) 3 = (k : Int)) (ha : At w A s k) (hs : s < B ^ k) (hn : n ≤ 9223372036854775807) :
    Calls Tryz.prog 20 #[.slice A n c, .int .i64 3] w (MadeNat w s) := by
  have hkn : k ≤ n := by omega
  have HA := Lib.hid ha
  have HS := Lib.hid hs
  clear ha hs
  obtain ⟨i0, hi, hz0, hz1, hz2⟩ := info_parts info_u32
  go_enter Tryz.func20, Tryz.ntmps20
  rcases Nat.eq_zero_or_pos k with h0 | h0
  · subst h0
    obtain rfl : n = 0 := by omega
    clear hk
    have hs0 : s = 0 := by
      have := HS.out
      simp at this
      exact this
    subst hs0
    cases A with
    | none =>
      go_wp2
      go_loop [5] (fun v => v = .slice (some ⟨w.heap.size, 0, none⟩) 0 0) (fun _ => 0)
      case atStart => rfl
      case round =>
        subst hrel
        go_wp2
        go_ret
        exact ⟨_, rfl, Dg.zero _ _ _ _ _, Kept.alloc w _⟩
    | some ad =>
      go_wp2_with (at_builtin; refine wpList_append_own _ rfl (.tmp 6) (.tmp 12) 22 rfl w.heap.size U32 i0 (.int .u32 0) 1 4 Tryz.underlying22 hi hz0 hz1 hz2 rfl (by decide) _ 0 [] rfl (World.ownsRow_made w #[] 0 (Nat.le_refl _) (by decide) rfl) ad 0 c [] rfl (by simp) (by simp) (by simp) (by unfold maxLen; omega) (by omega) (Nat.le_of_lt (by simp)) ?_)
      intro v' w' ho hg _
      have hd := Dg.of_own (s := 0) (n := 0) ho (by omega) rfl
      obtain ⟨A', c', rfl, hc', -⟩ := hd.at
      go_wp2
      go_loop [5] (fun v => v = .slice A' 0 c') (fun _ => 0)
      case atStart => rfl
      case round =>
        subst hrel
        go_wp2
        go_ret
        exact ⟨_, rfl, Dg.zero _ _ _ _ _, (Kept.alloc w _).grown hg (fun k hk => by simp [Value.ownBlock] at hk; omega)⟩
  · obtain ⟨b, off, rfl, hcell⟩ := HA.out (k - 1) (by omega)
    clear hcell
    have h30 : 0 ≤ (k : Int) := by omega
    have h31 : (k : Int) ≤ c := by omega
    go_wp2_with (at_builtin; refine wpList_append_own _ rfl (.tmp 6) (.tmp 12) 22 rfl w.heap.size U32 i0 (.int .u32 0) 1 4 Tryz.underlying22 hi hz0 hz1 hz2 rfl (by decide) _ 0 [] rfl (World.ownsRow_made w #[] 0 (Nat.le_refl _) (by decide) rfl) ⟨b, off, none⟩ k c (lim s k) rfl (by rw [lim_length, Nat.mul_one]) ?cl (lim_one s k) (by unfold maxLen; omega) (by omega) (Nat.le_of_lt (by simp)) ?_)
    case cl => exact (HA.out.kept (Kept.alloc w _)).cells_any
    intro v' w' ho hg _
    have hd := Dg.of_own (s := s) (n := k) ho (by omega) rfl
    have HD := Lib.hid hd
    clear ho
    obtain ⟨A', c', rfl, hc', ha'⟩ := hd.at
    have HA' := Lib.hid ha'
    have HG := Lib.hid hg
    clear hd ha' hg
    go_wp2
    go_loop [5] (fun v => ∃ j : Nat, j ≤ k ∧ v = .slice A' j c' ∧ Hid (s < B ^ j)) (fun v => match v with | .slice _ n _ => n | _ => 0)
    case atStart => exact ⟨k, Nat.le_refl _, rfl, HS⟩
    case round =>
      clear HS
      obtain ⟨j, hj, rfl, HS⟩ := hrel
      have HE : Hid ((∃ i, j = i + 1 ∧ dig s i = 0) ∨ j = size s) := by
        rcases Nat.eq_zero_or_pos j with h | h
        · subst h
          right
          have := (lt_iff s 0).1 HS.out
          omega
        · obtain ⟨i, rfl⟩ : ∃ i, j = i + 1 := ⟨j - 1, by omega⟩
          by_cases h0 : dig s i = 0
          · exact Or.inl ⟨i, rfl, h0⟩
          · exact Or.inr (size_of_top HS.out h0).symm
      rcases HE.out with h | h
      · obtain ⟨i, rfl, h0⟩ := h
        obtain ⟨b', off', rfl, hcell⟩ := HA'.out i (by omega)
        rw [h0] at hcell
        have HZ := Lib.hid (size_cut HS.out h0)
        clear h0 HE HS
        go_wp2
        exact ⟨⟨i, by omega, rfl, HZ⟩, Nat.lt_succ_self i⟩
      · clear HE
        rcases Nat.eq_zero_or_pos j with h0' | h0'
        · subst h0'
          have HE := Lib.hid h
          clear h HS
          go_wp2
          go_ret
          exact ⟨_, rfl, by rw [← HE.out]; exact Dg.zero _ _ _ _ _, (Kept.alloc w _).grown HG.out (fun k hk => by simp [Value.ownBlock] at hk; omega)⟩
        · obtain ⟨b', off', rfl, hcell⟩ := HA'.out (j - 1) (by omega)
          have hne : dig s (j - 1) ≠ 0 := by rw [h]; exact top_ne (fun e => by rw [e] at h; simp [size] at h; omega)
          obtain ⟨d, hd⟩ : ∃ d, d = dig s (j - 1) := ⟨_, rfl⟩
          rw [← hd] at hcell hne
          have hd0 : ((d : Int) == 0) = false := by simp; exact hne
          obtain ⟨i, rfl⟩ : ∃ i, j = i + 1 := ⟨j - 1, by omega⟩
          rw [Nat.add_sub_cancel] at hcell
          have HE := Lib.hid h
          clear h HS hd hne
          go_wp2
          go_ret
          refine ⟨_, rfl, ?_, (Kept.alloc w _).grown HG.out (fun k hk => by simp [Value.ownBlock] at hk; omega)⟩
          rw [← HE.out]
          obtain ⟨A2, c2, e2, hc2, hx⟩ := HD.out
          cases e2
          exact ⟨_, _, rfl, by omega, fun q hq => hx q (by omega)⟩
end Go.Proofs.YtpclkgjhfhhddaaGreat.V

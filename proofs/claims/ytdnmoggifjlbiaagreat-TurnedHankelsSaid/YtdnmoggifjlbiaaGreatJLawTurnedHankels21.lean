/- Joined texts, 21: LvB LvC LvD LawC DnD DnE DnF DnG PElim DnH DnI LawA LawD PRing LawE. -/
import Derived.Test.YtdnmoggifjlbiaaGreatJLawTurnedHankels20
import Derived.Test.YtdnmoggifjlbiaaGreatJLawTurnedHankels13
import Derived.Test.YtdnmoggifjlbiaaGreatJLawTurnedHankels19
import Derived.Test.YtdnmoggifjlbiaaGreatJLawTurnedHankels14
set_option linter.unusedVariables false
set_option linter.unusedSimpArgs false
/- Package levin: one step. -/
namespace Go.Proofs.YtdnmoggifjlbiaaGreat.AM
open Go Go.RowKit Go.Proofs.YtdnmoggifjlbiaaGreat.PN Go.Proofs.YtdnmoggifjlbiaaGreat.V
open Go.Proofs.YtdnmoggifjlbiaaGreat.LA (S S_succ S_zero S_congr longer later)
set_option linter.unusedVariables false
set_option linter.unusedSimpArgs false
set_option maxRecDepth 8000
set_option maxHeartbeats 8000000
/-- What the leading part of k rows sends to a one ahead of noughts, and behind them. -/
def lvp (F : Nat → Nat → Rat) : Nat → (Nat → Rat) × (Nat → Rat)
  | 0 => (fun _ => 0, fun _ => 0)
  | k + 1 => if k = 0 then (fun _ => 1 / F 0 0, fun _ => 1 / F 0 0) else
    (fun i => (longer k (lvp F k).1 i - (S k fun j => F k j * (lvp F k).1 j) * later (lvp F k).2 i) * (1 / (1 - (S k fun j => F k j * (lvp F k).1 j) * S k fun j => F 0 (j + 1) * (lvp F k).2 j)),
     fun i => (later (lvp F k).2 i - (S k fun j => F 0 (j + 1) * (lvp F k).2 j) * longer k (lvp F k).1 i) * (1 / (1 - (S k fun j => F k j * (lvp F k).1 j) * S k fun j => F 0 (j + 1) * (lvp F k).2 j)))
def lvf (F : Nat → Nat → Rat) (k : Nat) : Nat → Rat := (lvp F k).1
def lvl (F : Nat → Nat → Rat) (k : Nat) : Nat → Rat := (lvp F k).2
def lvx (F : Nat → Nat → Rat) (k : Nat) : Rat := S k fun j => F k j * lvf F k j
def lvy (F : Nat → Nat → Rat) (k : Nat) : Rat := S k fun j => F 0 (j + 1) * lvl F k j
/-- By what the next step divides. -/
def lvd (F : Nat → Nat → Rat) (k : Nat) : Rat := if k = 0 then F 0 0 else 1 - lvx F k * lvy F k
theorem lvf_succ (F : Nat → Nat → Rat) {k : Nat} (h : k ≠ 0) (i : Nat) : lvf F (k + 1) i = (longer k (lvf F k) i - lvx F k * later (lvl F k) i) * (1 / lvd F k) := by
  unfold lvd; rw [if_neg h]
  show (lvp F (k + 1)).1 i = _
  unfold lvp; rw [if_neg h]; rfl
theorem lvl_succ (F : Nat → Nat → Rat) {k : Nat} (h : k ≠ 0) (i : Nat) : lvl F (k + 1) i = (later (lvl F k) i - lvy F k * longer k (lvf F k) i) * (1 / lvd F k) := by
  unfold lvd; rw [if_neg h]
  show (lvp F (k + 1)).2 i = _
  unfold lvp; rw [if_neg h]; rfl
/-- How long the numbers are. -/
def lvW : Nat → Nat
  | 0 => 1
  | k + 1 => if k = 0 then 5 else 2 * lvW k + 3 * (k * (4 + lvW k + 1) + 1) + 4
theorem lvW_le {k : Nat} (h : k ≤ 8) : lvW k ≤ 600000000 ∧ (k ≤ 7 → lvW k ≤ 30000000) := by
  have h : k = 0 ∨ k = 1 ∨ k = 2 ∨ k = 3 ∨ k = 4 ∨ k = 5 ∨ k = 6 ∨ k = 7 ∨ k = 8 := by omega
  rcases h with rfl | rfl | rfl | rfl | rfl | rfl | rfl | rfl | rfl <;> decide
theorem longer_wt {k W : Nat} {f : Nat → Rat} (h : ∀ i, i < k → wt (f i) ≤ W) (hW : 1 ≤ W) (i : Nat) : wt (longer k f i) ≤ W := by
  unfold longer
  split
  · exact h i (by assumption)
  · exact Nat.le_trans (show wt 0 ≤ 1 by decide) hW
theorem later_wt {k W : Nat} {f : Nat → Rat} (h : ∀ i, i < k → wt (f i) ≤ W) (hW : 1 ≤ W) {i : Nat} (hi : i ≤ k) : wt (later f i) ≤ W := by
  unfold later
  split
  · exact Nat.le_trans (show wt 0 ≤ 1 by decide) hW
  · exact h _ (by omega)
theorem div_wt (p q : Rat) : wt (p / q) ≤ wt p + wt q := by
  have hp : Wt p (wt p) := ⟨Nat.le_refl _⟩
  have hq : Wt q (wt q) := ⟨Nat.le_refl _⟩
  exact (inferInstance : Wt (p / q) (wt p + wt q)).le
section
variable {F : Nat → Nat → Rat} {n : Nat}
theorem lvW_pos (k : Nat) : 1 ≤ lvW k := by
  cases k with
  | zero => exact Nat.le_refl _
  | succ k => unfold lvW; split <;> omega
theorem lv_wt (hF : ∀ i j, i < n → j < n → wt (F i j) ≤ 4) : ∀ k, k ≤ n → ∀ i, i < k → wt (lvf F k i) ≤ lvW k ∧ wt (lvl F k i) ≤ lvW k := by
  intro k
  induction k with
  | zero => intro _ i hi; exact absurd hi (Nat.not_lt_zero _)
  | succ k ih =>
    intro hk i hi
    by_cases h0 : k = 0
    · subst h0
      have h1 := div_wt 1 (F 0 0); have h2 := hF 0 0 (by omega) (by omega)
      have h3 : wt (1 : Rat) ≤ 1 := by decide
      have e : lvW (0 + 1) = 5 := rfl
      rw [e]
      constructor
      · show wt (1 / F 0 0) ≤ 5; omega
      · show wt (1 / F 0 0) ≤ 5; omega
    · have ih := ih (by omega)
      have hW := lvW_pos k
      have e : lvW (k + 1) = 2 * lvW k + 3 * (k * (4 + lvW k + 1) + 1) + 4 := by show (if k = 0 then _ else _) = _; rw [if_neg h0]
      have wx : wt (lvx F k) ≤ k * (4 + lvW k + 1) + 1 := wt_sum (K := 4 + lvW k) fun u hu => by
        have h1 := wt_mul (F k u) (lvf F k u); have h2 := hF k u (by omega) (by omega); have h3 := (ih u hu).1
        omega
      have wy : wt (lvy F k) ≤ k * (4 + lvW k + 1) + 1 := wt_sum (K := 4 + lvW k) fun u hu => by
        have h1 := wt_mul (F 0 (u + 1)) (lvl F k u); have h2 := hF 0 (u + 1) (by omega) (by omega); have h3 := (ih u hu).2
        omega
      have wd : wt (1 / lvd F k) ≤ 2 * (k * (4 + lvW k + 1) + 1) + 3 := by
        have h1 := div_wt 1 (lvd F k); have h2 := wt_sub 1 (lvx F k * lvy F k); have h3 := wt_mul (lvx F k) (lvy F k)
        have h4 : wt (1 : Rat) ≤ 1 := by decide
        have h5 : lvd F k = 1 - lvx F k * lvy F k := if_neg h0
        rw [h5] at h1 ⊢
        omega
      have a1 := longer_wt (fun u hu => (ih u hu).1) hW i; have a2 := later_wt (fun u hu => (ih u hu).2) hW (show i ≤ k by omega)
      rw [e, lvf_succ F h0, lvl_succ F h0]
      constructor
      · have h1 := wt_mul (longer k (lvf F k) i - lvx F k * later (lvl F k) i) (1 / lvd F k); have h2 := wt_sub (longer k (lvf F k) i) (lvx F k * later (lvl F k) i); have h3 := wt_mul (lvx F k) (later (lvl F k) i)
        omega
      · have h1 := wt_mul (later (lvl F k) i - lvy F k * longer k (lvf F k) i) (1 / lvd F k); have h2 := wt_sub (later (lvl F k) i) (lvy F k * longer k (lvf F k) i); have h3 := wt_mul (lvy F k) (longer k (lvf F k) i)
        omega
end
abbrev LPT : TypeId := 145
def prF (n : Nat) (F : Nat → Nat → Rat) (x y : AV) (i : Nat) : AV := [AV.mat true n (fun _ => n) (fun i j => .q (F i j)), x, y].getD i (.v undef)
def PF (n : Nat) (F : Nat → Nat → Rat) (x y : AV) : List (Nat × Fam) := [(60, (1, fun _ => .ones LPT 3 (prF n F x y))), (61, (0, fun _ => .rats 0 fun _ => ra0)), (62, (0, fun _ => .rats 0 fun _ => ra0))]
abbrev PFk (n : Nat) (F : Nat → Nat → Rat) (k : Nat) : List (Nat × Fam) := PF n F (.row true k fun i => .q (lvf F k i)) (.row true k fun i => .q (lvl F k i))
theorem prF_ok {n : Nat} {F : Nat → Nat → Rat} {x y : AV} {U : Nat → Bool} (hx : x.ok U) (hy : y.ok U) : ∀ i, (prF n F x y i).ok U
  | 0 => trivial
  | 1 => hx
  | 2 => hy
  | _ + 3 => trivial
theorem pf_le {σ : Ren} {n : Nat} {F : Nat → Nat → Rat} {x y : AV} {f : Nat → AV} (h0 : Le σ (f 0) (.mat true n (fun _ => n) (fun i j => .q (F i j)))) (h1 : Le σ (f 1) x) (h2 : Le σ (f 2) y) : BLe σ (.ones LPT 3 f) (.ones LPT 3 (prF n F x y)) :=
  bleo rfl fun i hi => by
    match i, hi with
    | 0, _ => exact h0
    | 1, _ => exact h1
    | 2, _ => exact h2
theorem allz {s : St} {σ : Ren} {U : Nat → Bool} {g : Nat} {F : Nat → Blk} {l : List (Nat × Fam)} (k : AllH s σ U l) : AllH s σ U ((g, (0, F)) :: l) := ⟨fun r hr => absurd hr (Nat.not_lt_zero _), k⟩
theorem okf_pf {U : Nat → Bool} {n : Nat} {F : Nat → Nat → Rat} {x y : AV} (hx : x.ok U) (hy : y.ok U) : okf U (PF n F x y) :=
  ⟨fun r _ i _ => prF_ok hx hy i, fun r hr => absurd hr (Nat.not_lt_zero _), fun r hr => absurd hr (Nat.not_lt_zero _), trivial⟩
theorem lv_of {g : GD} (h : g.OK) (hk : g.k = 1) : HasH Tryz.prog 115 [] [g.v] (.tup (.ptr 60 0 0) (.i 0)) (PF g.n (gent g) (.v (.slice none 0 0)) (.v (.slice none 0 0))) := by
  have n1 := h.n1
  have e0 : decide ((g.k : Int) ≠ 1) = false := decide_eq_false (by rw [hk]; decide)
  refine hasH_of Tryz.func115 (by kernel_rfl) rfl Tryz.ntmps115 Tryz.results115 ⟨rfl, trivial⟩ rfl rfl ?_
  refine run0 ?_
  refine awp_no rfl e0 ?_
  repeat(first|refine run1 ?_|((with_reducible apply st_call);exact rfl;exact rfl;exact rfl;first|(exact Has.ag (g7 rfl rfl rfl rfl rfl rfl rfl) (ge_expand h)))|((with_reducible apply st_callg);exact rfl;exact rfl;(first|exact rfl|assumption);exact rfl;exact rfl;exact rfl;first|(exact Has.ag (g7 rfl rfl rfl rfl rfl rfl rfl) (ge_expand h))))
  refine st_eqnil rfl rfl rfl n1 ?_
  refine run0 ?_
  refine awp_no rfl rfl ?_
  refine run0 ?_
  refine ⟨.inr rfl, [(2, .ptr 60 0 0), (3, .i 0)], imp_stl (s1 60 14) (fun h => by cases h) (s1_injl rfl) ?_ ?_, .two (.tmp rfl) (.tmp rfl)⟩
  · exact alle rfl (Le.ptr (by unfold s1; rw [if_pos rfl])) rfl (alle rfl (Le.eq rfl rfl) True.intro True.intro)
  · exact allh rfl (by unfold s1; rw [if_pos rfl]; decide) (pf_le (Le.eq rfl rfl) (Le.eq rfl rfl) (Le.eq rfl rfl)) (fun i _ => prF_ok (by exact True.intro) (by exact True.intro) i) (allz (allz True.intro))
theorem GD.fold (g : GD) : (fun i => (g.f i).old) = g.f := funext fun i => by
  match i with
  | 0 | 1 | 2 | 3 | 4 | 5 | 6 => rfl
  | _ + 7 => rfl
theorem GD.vold (g : GD) : AV.old g.v = g.v := by
  show AV.ag 7 (fun i => (g.f i).old) = AV.ag 7 g.f
  rw [g.fold]
theorem lv_of' {g : GD} (h : g.OK) (hk : g.k = 1) : HasH Tryz.prog 115 [] [AV.old g.v] (.tup (.ptr 60 0 0) (.i 0)) (PF g.n (gent g) (.v (.slice none 0 0)) (.v (.slice none 0 0))) := by rw [g.vold]; exact lv_of h hk
end Go.Proofs.YtdnmoggifjlbiaaGreat.AM
/- Package levin: one step, walked. -/
namespace Go.Proofs.YtdnmoggifjlbiaaGreat.AM
open Go Go.RowKit Go.Proofs.YtdnmoggifjlbiaaGreat.PN Go.Proofs.YtdnmoggifjlbiaaGreat.V
open Go.Proofs.YtdnmoggifjlbiaaGreat.LA (S S_succ S_zero S_congr longer later)
set_option linter.unusedVariables false
set_option linter.unusedSimpArgs false
set_option maxRecDepth 8000
set_option maxHeartbeats 8000000
theorem lv_next {n k : Nat} {F : Nat → Nat → Rat} (hF : ∀ i j, i < n → j < n → wt (F i j) ≤ 4) (hn : n ≤ 8) (hk : k < n) (hd : lvd F k ≠ 0) : HasH Tryz.prog 116 (PFk n F k) [.ptr 60 0 0] (.b true) (PFk n F (k + 1)) := by
  have w1 := lv_wt hF
  refine hasH_of Tryz.func116 (by kernel_rfl) rfl Tryz.ntmps116 Tryz.results116 True.intro rfl rfl ?_
  by_cases h0 : k = 0
  · subst h0
    have hd : F 0 0 ≠ 0 := hd
    have w2 := hF 0 0 hk hk
    have cq := h_quo (p := 1) (q := F 0 0) (by decide) (by omega) hd
    refine run0 ?_
    refine awp_yes rfl rfl ?_
    repeat(first|refine run1 ?_|((with_reducible apply st_call);exact rfl;exact rfl;exact rfl;first|(exact lv_one)|(exact cq))|((with_reducible apply st_callg);exact rfl;exact rfl;(first|exact rfl|assumption);exact rfl;exact rfl;exact rfl;first|(exact lv_one)|(exact cq)))
    refine ⟨.inr rfl, [(2, .b true)], (imp_pub 60 1 rfl rfl (by decide) rfl rfl rfl (by decide)).trans ((imp_pub 60 2 rfl rfl (by decide) rfl rfl rfl (by decide)).trans (imp_id ?_ ?_)), .one (.tmp rfl)⟩
    · exact eA
    · exact allh rfl (by decide) (pf_le (Le.eq rfl rfl) (Le.row rfl (fun i hi => by obtain rfl : i = 0 := by omega
                                                                                    rfl) fun h => h) (Le.row rfl (fun i hi => by obtain rfl : i = 0 := by omega
                                                                                                                                 rfl) fun h => h)) (fun i _ => prF_ok (by exact True.intro) (by exact True.intro) i) (allz (allz True.intro))
  · have hW := (lvW_le (k := k) (by omega)).2 (by omega)
    have wf : ∀ i, i < k → wt (lvf F k i) ≤ lvW k := fun i hi => (w1 k (by omega) i hi).1
    have wl : ∀ i, i < k → wt (lvl F k i) ≤ lvW k := fun i hi => (w1 k (by omega) i hi).2
    have hp := lvW_pos k
    have hkk : k * (4 + lvW k + 1) ≤ 7 * (4 + lvW k + 1) := Nat.mul_le_mul_right _ (by omega)
    have wx : wt (lvx F k) ≤ k * (4 + lvW k + 1) + 1 := wt_sum (K := 4 + lvW k) fun u hu => by
      have h1 := wt_mul (F k u) (lvf F k u); have h2 := hF k u (by omega) (by omega); have h3 := wf u hu
      omega
    have wy : wt (lvy F k) ≤ k * (4 + lvW k + 1) + 1 := wt_sum (K := 4 + lvW k) fun u hu => by
      have h1 := wt_mul (F 0 (u + 1)) (lvl F k u); have h2 := hF 0 (u + 1) (by omega) (by omega); have h3 := wl u hu
      omega
    have eD : lvd F k = 1 - lvx F k * lvy F k := if_neg h0
    have wxy := wt_mul (lvx F k) (lvy F k)
    have wD := wt_sub 1 (lvx F k * lvy F k)
    have w11 : wt (1 : Rat) ≤ 1 := by decide
    have wB := div_wt 1 (lvd F k)
    have cx : Has Tryz.prog 150 [.row false n (fun i => .q (F k i)), .i 0, .row false k (fun i => .q (lvf F k i))] (.q (lvx F k)) := by
      have := lv_dot (n := n) (m := k) (a := 0) (K := lvW k + 4) (f := F k) (g := lvf F k) (fun i hi => by have := hF k (0 + i) (by omega) (by omega); omega) (fun i hi => by have := wf i hi; omega) (by omega) (by omega) hn
      simp only [Nat.zero_add] at this
      exact this
    have cy : Has Tryz.prog 150 [.row false n (fun i => .q (F 0 i)), .i 1, .row false k (fun i => .q (lvl F k i))] (.q (lvy F k)) := by
      have := lv_dot (n := n) (m := k) (a := 1) (K := lvW k + 4) (f := F 0) (g := lvl F k) (fun i hi => by have := hF 0 (1 + i) (by omega) (by omega); omega) (fun i hi => by have := wl i hi; omega) (by omega) (by omega) hn
      simp only [Nat.add_comm 1] at this
      exact this
    have cm := h_mul (p := lvx F k) (q := lvy F k) (by omega) (by omega)
    have cs : Has Tryz.prog 135 [.q 1, .q (lvx F k * lvy F k)] (.q (lvd F k)) := by rw [eD]; exact h_sub (by omega) (by omega)
    have cq := h_quo (p := 1) (q := lvd F k) (by omega) (by rw [eD]; omega) hd
    have lw : ∀ i, wt (longer k (lvf F k) i) ≤ lvW k := fun i => longer_wt wf hp i
    have tw : ∀ i, i < k + 1 → wt (later (lvl F k) i) ≤ lvW k := fun i hi => later_wt wl hp (by omega)
    have c1 := lv_less (n := k + 1) (m := k + 1) (v := longer k (lvf F k)) (w := later (lvl F k)) (t := lvx F k) (K := 10000000000) (fun i _ => by have := lw i; omega) (fun i hi => by have := tw i hi; omega) (by omega) (by omega) (Nat.le_refl _) (by omega)
    have c2 := lv_less (n := k + 1) (m := k + 1) (v := later (lvl F k)) (w := longer k (lvf F k)) (t := lvy F k) (K := 10000000000) (fun i hi => by have := tw i hi; omega) (fun i _ => by have := lw i; omega) (by omega) (by omega) (Nat.le_refl _) (by omega)
    have d1 := lv_scaled (n := k + 1) (v := fun i => longer k (lvf F k) i - lvx F k * later (lvl F k) i) (t := 1 / lvd F k) (K := 100000000000) (fun i hi => by
      have h1 := lw i; have h2 := tw i hi; have h3 := wt_sub (longer k (lvf F k) i) (lvx F k * later (lvl F k) i); have h4 := wt_mul (lvx F k) (later (lvl F k) i)
      omega) (by rw [eD] at wB ⊢; omega) (by omega) (by omega)
    have d2 := lv_scaled (n := k + 1) (v := fun i => later (lvl F k) i - lvy F k * longer k (lvf F k) i) (t := 1 / lvd F k) (K := 100000000000) (fun i hi => by
      have h1 := lw i; have h2 := tw i hi; have h3 := wt_sub (later (lvl F k) i) (lvy F k * longer k (lvf F k) i); have h4 := wt_mul (lvy F k) (longer k (lvf F k) i)
      omega) (by rw [eD] at wB ⊢; omega) (by omega) (by omega)
    refine run0 ?_
    refine awp_no rfl (decide_eq_false (by omega)) ?_
    repeat(first|refine run1 ?_|((with_reducible apply st_call);exact rfl;exact rfl;exact rfl;first|(exact cx)|(exact cy)|(exact lv_behind (by omega))|(exact lv_ahead (by omega))|(exact lv_one)|(exact cm)|(exact cs)|(exact cq))|((with_reducible apply st_callg);exact rfl;exact rfl;(first|exact rfl|assumption);exact rfl;exact rfl;exact rfl;first|(exact cx)|(exact cy)|(exact lv_behind (by omega))|(exact lv_ahead (by omega))|(exact lv_one)|(exact cm)|(exact cs)|(exact cq)))
    refine awp_no rfl rfl ?_
    repeat(first|refine run1 ?_|((with_reducible apply st_call);exact rfl;exact rfl;exact rfl;first|(exact c1)|(exact c2)|(exact d1)|(exact d2))|((with_reducible apply st_callg);exact rfl;exact rfl;(first|exact rfl|assumption);exact rfl;exact rfl;exact rfl;first|(exact c1)|(exact c2)|(exact d1)|(exact d2)))
    refine ⟨.inr rfl, [(2, .b true)], imp_id ?_ ?_, .one (.tmp rfl)⟩
    · exact eA
    · exact allh rfl (by decide) (pf_le (Le.eq rfl rfl) (Le.row rfl (fun i _ => congrArg RA.q (lvf_succ F h0 i).symm) fun h => h) (Le.row rfl (fun i _ => congrArg RA.q (lvl_succ F h0 i).symm) fun h => h)) (fun i _ => prF_ok (by exact True.intro) (by exact True.intro) i) (allz (allz True.intro))
theorem lv_next_no {n k : Nat} {F : Nat → Nat → Rat} (hF : ∀ i j, i < n → j < n → wt (F i j) ≤ 4) (hn : n ≤ 8) (hk : k < n) (hd : lvd F k = 0) : ∃ x y, HasH Tryz.prog 116 (PFk n F k) [.ptr 60 0 0] (.b false) (PF n F x y) := by
  have w1 := lv_wt hF
  by_cases h0 : k = 0
  · subst h0
    have hd : F 0 0 = 0 := hd
    have cq : Has Tryz.prog 113 [.q 1, .q (F 0 0)] (.tup (.ra (.raw false [] [])) (.i 5)) := by rw [hd]; exact h_quo0 (by decide)
    refine ⟨.row true 1 fun _ => .raw false [] [], .row true 1 fun _ => .raw false [] [], hasH_of Tryz.func116 (by kernel_rfl) rfl Tryz.ntmps116 Tryz.results116 True.intro rfl rfl ?_⟩
    refine run0 ?_
    refine awp_yes rfl rfl ?_
    repeat(first|refine run1 ?_|((with_reducible apply st_call);exact rfl;exact rfl;exact rfl;first|(exact lv_one)|(exact cq))|((with_reducible apply st_callg);exact rfl;exact rfl;(first|exact rfl|assumption);exact rfl;exact rfl;exact rfl;first|(exact lv_one)|(exact cq)))
    refine ⟨.inr rfl, [(2, .b false)], (imp_pub 60 1 rfl rfl (by decide) rfl rfl rfl (by decide)).trans ((imp_pub 60 2 rfl rfl (by decide) rfl rfl rfl (by decide)).trans (imp_id ?_ ?_)), .one (.tmp rfl)⟩
    · exact eA
    · exact allh rfl (by decide) (pf_le (Le.eq rfl rfl) (Le.row rfl (fun i hi => by obtain rfl : i = 0 := by omega
                                                                                    rfl) fun h => h) (Le.row rfl (fun i hi => by obtain rfl : i = 0 := by omega
                                                                                                                                 rfl) fun h => h)) (fun i _ => prF_ok (by exact True.intro) (by exact True.intro) i) (allz (allz True.intro))
  · refine ⟨.row true k fun i => .q (lvf F k i), .row true k fun i => .q (lvl F k i), hasH_of Tryz.func116 (by kernel_rfl) rfl Tryz.ntmps116 Tryz.results116 True.intro rfl rfl ?_⟩
    have hW := (lvW_le (k := k) (by omega)).2 (by omega)
    have wf : ∀ i, i < k → wt (lvf F k i) ≤ lvW k := fun i hi => (w1 k (by omega) i hi).1
    have wl : ∀ i, i < k → wt (lvl F k i) ≤ lvW k := fun i hi => (w1 k (by omega) i hi).2
    have hp := lvW_pos k
    have hkk : k * (4 + lvW k + 1) ≤ 7 * (4 + lvW k + 1) := Nat.mul_le_mul_right _ (by omega)
    have wx : wt (lvx F k) ≤ k * (4 + lvW k + 1) + 1 := wt_sum (K := 4 + lvW k) fun u hu => by
      have h1 := wt_mul (F k u) (lvf F k u); have h2 := hF k u (by omega) (by omega); have h3 := wf u hu
      omega
    have wy : wt (lvy F k) ≤ k * (4 + lvW k + 1) + 1 := wt_sum (K := 4 + lvW k) fun u hu => by
      have h1 := wt_mul (F 0 (u + 1)) (lvl F k u); have h2 := hF 0 (u + 1) (by omega) (by omega); have h3 := wl u hu
      omega
    have eD : lvd F k = 1 - lvx F k * lvy F k := if_neg h0
    have wxy := wt_mul (lvx F k) (lvy F k)
    have wD := wt_sub 1 (lvx F k * lvy F k)
    have w11 : wt (1 : Rat) ≤ 1 := by decide
    have wB := div_wt 1 (lvd F k)
    have cx : Has Tryz.prog 150 [.row false n (fun i => .q (F k i)), .i 0, .row false k (fun i => .q (lvf F k i))] (.q (lvx F k)) := by
      have := lv_dot (n := n) (m := k) (a := 0) (K := lvW k + 4) (f := F k) (g := lvf F k) (fun i hi => by have := hF k (0 + i) (by omega) (by omega); omega) (fun i hi => by have := wf i hi; omega) (by omega) (by omega) hn
      simp only [Nat.zero_add] at this
      exact this
    have cy : Has Tryz.prog 150 [.row false n (fun i => .q (F 0 i)), .i 1, .row false k (fun i => .q (lvl F k i))] (.q (lvy F k)) := by
      have := lv_dot (n := n) (m := k) (a := 1) (K := lvW k + 4) (f := F 0) (g := lvl F k) (fun i hi => by have := hF 0 (1 + i) (by omega) (by omega); omega) (fun i hi => by have := wl i hi; omega) (by omega) (by omega) hn
      simp only [Nat.add_comm 1] at this
      exact this
    have cm := h_mul (p := lvx F k) (q := lvy F k) (by omega) (by omega)
    have cs : Has Tryz.prog 135 [.q 1, .q (lvx F k * lvy F k)] (.q (lvd F k)) := by rw [eD]; exact h_sub (by omega) (by omega)
    have cq : Has Tryz.prog 113 [.q 1, .q (lvd F k)] (.tup (.ra (.raw false [] [])) (.i 5)) := by rw [hd]; exact h_quo0 (by omega)
    refine run0 ?_
    refine awp_no rfl (decide_eq_false (by omega)) ?_
    repeat(first|refine run1 ?_|((with_reducible apply st_call);exact rfl;exact rfl;exact rfl;first|(exact cx)|(exact cy)|(exact lv_behind (by omega))|(exact lv_ahead (by omega))|(exact lv_one)|(exact cm)|(exact cs)|(exact cq))|((with_reducible apply st_callg);exact rfl;exact rfl;(first|exact rfl|assumption);exact rfl;exact rfl;exact rfl;first|(exact cx)|(exact cy)|(exact lv_behind (by omega))|(exact lv_ahead (by omega))|(exact lv_one)|(exact cm)|(exact cs)|(exact cq)))
    refine awp_yes rfl rfl ?_
    refine run0 ?_
    refine ⟨.inr rfl, [(2, .b false)], imp_id ?_ ?_, .one (.tmp rfl)⟩
    · exact eA
    · exact allh rfl (by decide) (pf_le (Le.eq rfl rfl) (Le.eq rfl rfl) (Le.eq rfl rfl)) (fun i _ => prF_ok (by exact True.intro) (by exact True.intro) i) (allz (allz True.intro))
/-- What a vector's beginning is sent to, one number longer. -/
def lvm (F : Nat → Nat → Rat) (k : Nat) (x b : Nat → Rat) (i : Nat) : Rat := longer k x i - -(b k - S k fun j => F k j * x j) * lvl F (k + 1) i
theorem lv_more {n k : Nat} {F : Nat → Nat → Rat} {x b : Nat → Rat} (hF : ∀ i j, i < n → j < n → wt (F i j) ≤ 4) (hn : n ≤ 8) (hk : k < n) (hx : ∀ i, i < k → wt (x i) ≤ 100000000) (hb : ∀ i, i < n → wt (b i) ≤ 100) :
    HasH Tryz.prog 117 (PFk n F (k + 1)) [.ptr 60 0 0, .row false k (fun i => .q (x i)), .row false n (fun i => .q (b i))] (.own 63 0) ((63, (1, fun _ => .rats (k + 1) fun i => .q (lvm F k x b i))) :: PFk n F (k + 1)) := by
  have w1 := lv_wt hF
  have hW := (lvW_le (k := k + 1) (by omega)).1
  have wl : ∀ i, i < k + 1 → wt (lvl F (k + 1) i) ≤ lvW (k + 1) := fun i hi => (w1 (k + 1) (by omega) i hi).2
  have wS : wt (S k fun j => F k j * x j) ≤ k * (100000004 + 1) + 1 := wt_sum (K := 100000004) fun u hu => by
    have h1 := wt_mul (F k u) (x u); have h2 := hF k u (by omega) (by omega); have h3 := hx u hu
    omega
  have hbk := hb k hk
  have wL := wt_sub (b k) (S k fun j => F k j * x j)
  have cd : Has Tryz.prog 150 [.row false n (fun i => .q (F k i)), .i 0, .row false k (fun i => .q (x i))] (.q (S k fun j => F k j * x j)) := by
    have := lv_dot (n := n) (m := k) (a := 0) (K := 100000000) (f := F k) (g := x) (fun i hi => by have := hF k (0 + i) (by omega) (by omega); omega) (fun i hi => hx i hi) (by omega) (by omega) hn
    simp only [Nat.zero_add] at this
    exact this
  have cs := h_sub (p := b k) (q := S k fun j => F k j * x j) (by omega) (by omega)
  have cn := h_neg (p := b k - S k fun j => F k j * x j) (by omega)
  have lw : ∀ i, wt (longer k x i) ≤ 100000000 := fun i => longer_wt hx (by decide) i
  have cl := lv_lesso (n := k + 1) (m := k + 1) (v := longer k x) (w := lvl F (k + 1)) (t := -(b k - S k fun j => F k j * x j)) (K := 100000000000) (fun i _ => by have := lw i; omega) (fun i hi => by have := wl i hi; omega) (by rw [wt_neg]; omega) (by omega) (Nat.le_refl _) (by omega)
  refine hasH_of Tryz.func117 (by kernel_rfl) rfl Tryz.ntmps117 Tryz.results117 rfl rfl rfl ?_
  repeat(first|refine run1 ?_|((with_reducible apply st_call);exact rfl;exact rfl;exact rfl;first|(exact cd)|(exact cs)|(exact lv_behind (by omega))|(exact cn))|((with_reducible apply st_callg);exact rfl;exact rfl;(first|exact rfl|assumption);exact rfl;exact rfl;exact rfl;first|(exact cd)|(exact cs)|(exact lv_behind (by omega))|(exact cn)))
  ((with_reducible apply st_callH); exact rfl; exact rfl; exact rfl; exact (cl); (first | exact True.intro | exact ⟨rfl, rfl, rfl, True.intro⟩); exact rfl; exact rfl; exact rfl; exact rfl; (focus (repeat (first | exact True.intro | refine ⟨(by first | exact True.intro | rfl | exact ok_none (closed_ok rfl)), ?_⟩))); (first | exact True.intro | exact okf_WH | exact okf_pf (by exact True.intro) (by exact True.intro)))
  refine run0 ?_
  refine ⟨.inr rfl, [(6, .own 63 0)], imp_id ?_ ?_, .one (.tmp rfl)⟩
  · exact eA
  · exact allh rfl (by decide) (blen rfl fun _ _ => rfl) True.intro (allh rfl (by decide) (pf_le (Le.eq rfl rfl) (Le.eq rfl rfl) (Le.eq rfl rfl)) (fun i _ => prF_ok (by exact True.intro) (by exact True.intro) i) (allz (allz True.intro)))
end Go.Proofs.YtdnmoggifjlbiaaGreat.AM
/- Package levin: systems. -/
namespace Go.Proofs.YtdnmoggifjlbiaaGreat.AM
open Go Go.RowKit Go.Proofs.YtdnmoggifjlbiaaGreat.PN Go.Proofs.YtdnmoggifjlbiaaGreat.V
open Go.Proofs.YtdnmoggifjlbiaaGreat.LA (S S_succ S_zero S_congr longer later)
set_option linter.unusedVariables false
set_option linter.unusedSimpArgs false
set_option maxRecDepth 8000
set_option maxHeartbeats 8000000
def lvs (F : Nat → Nat → Rat) (b : Nat → Rat) : Nat → Nat → Rat
  | 0 => fun _ => 0
  | k + 1 => lvm F k (lvs F b k) b
def lvX : Nat → Nat
  | 0 => 1
  | k + 1 => lvX k + (100 + (k * (4 + lvX k + 1) + 1) + 1) + lvW (k + 1) + 1
theorem lvX_le {k : Nat} (h : k ≤ 8) : lvX k ≤ 1000000000 ∧ (k ≤ 7 → lvX k ≤ 100000000) := by
  have h : k = 0 ∨ k = 1 ∨ k = 2 ∨ k = 3 ∨ k = 4 ∨ k = 5 ∨ k = 6 ∨ k = 7 ∨ k = 8 := by omega
  rcases h with rfl | rfl | rfl | rfl | rfl | rfl | rfl | rfl | rfl <;> decide
theorem lvs_wt0 {F : Nat → Nat → Rat} {n : Nat} {b : Nat → Rat} (hF : ∀ i j, i < n → j < n → wt (F i j) ≤ 4) (hb : ∀ i, i < n → wt (b i) ≤ 100) : ∀ k, k ≤ n → ∀ i, i < k → wt (lvs F b k i) ≤ lvX k := by
  intro k
  induction k with
  | zero => intro _ i hi; exact absurd hi (Nat.not_lt_zero _)
  | succ k ih =>
    intro hk i hi
    have ih := ih (by omega)
    have hp : 1 ≤ lvX k := by
      cases k with
      | zero => exact Nat.le_refl _
      | succ k => unfold lvX; omega
    have h1 := longer_wt ih hp i
    have h2 : wt (S k fun j => F k j * lvs F b k j) ≤ k * (4 + lvX k + 1) + 1 := wt_sum (K := 4 + lvX k) fun u hu => by
      have h1 := wt_mul (F k u) (lvs F b k u); have h2 := hF k u (by omega) (by omega); have h3 := ih u hu
      omega
    have h3 := hb k (by omega)
    have h4 := wt_sub (b k) (S k fun j => F k j * lvs F b k j)
    have h5 := (lv_wt hF (k + 1) hk i hi).2
    have h6 := wt_mul (-(b k - S k fun j => F k j * lvs F b k j)) (lvl F (k + 1) i)
    rw [wt_neg] at h6
    have h7 := wt_sub (longer k (lvs F b k) i) (-(b k - S k fun j => F k j * lvs F b k j) * lvl F (k + 1) i)
    show wt (longer k (lvs F b k) i - -(b k - S k fun j => F k j * lvs F b k j) * lvl F (k + 1) i) ≤ lvX k + (100 + (k * (4 + lvX k + 1) + 1) + 1) + lvW (k + 1) + 1
    omega
theorem lvs_wt {F : Nat → Nat → Rat} {n : Nat} {b : Nat → Rat} (hF : ∀ i j, i < n → j < n → wt (F i j) ≤ 4) (hn : n ≤ 8) (hb : ∀ i, i < n → wt (b i) ≤ 100) : ∀ k, k < n → ∀ i, i < k → wt (lvs F b k i) ≤ 100000000 := fun k hk i hi =>
  Nat.le_trans (lvs_wt0 hF hb k (by omega) i hi) ((lvX_le (by omega)).2 (by omega))
theorem toe_wt {g : GD} (h : g.OK) (hk : g.k = 1) : ∀ i j, i < g.n → j < g.n → wt (gent g i j) ≤ 4 := fun i j hi hj => by
  obtain ⟨m1, _⟩ := ok_lens h
  have := h.sm.A (i + g.n - 1 - j) (by rw [m1 (.inl hk)]; omega)
  unfold gent; rw [hk]; exact this
theorem lv_solveo {g : GD} {b : Nat → Rat} (h : g.OK) (hk : g.k = 1) (hb : ∀ i, i < g.n → wt (b i) ≤ 100) (hd : ∀ k, k < g.n → lvd (gent g) k ≠ 0) : HasH Tryz.prog 81 [] [g.v, .row false g.n fun i => .q (b i)] (.tup3 (.own 63 0) (.i 0) (.i 0)) ((63, (1, fun _ => .rats g.n fun i => .q (lvs (gent g) b g.n i))) :: PFk g.n (gent g) g.n) := by
  have n8 := h.n8; have n1 := h.n1
  have hF := toe_wt h hk
  have hX := lvs_wt (b := b) hF n8 hb
  refine hasH_of Tryz.func81 (by kernel_rfl) rfl Tryz.ntmps81 Tryz.results81 ⟨rfl, trivial, trivial⟩ rfl rfl ?_
  refine run0 ?_
  ((with_reducible apply st_callH); exact rfl; exact rfl; exact rfl; exact (lv_of' h hk); (first | exact True.intro | exact ⟨rfl, rfl, rfl, True.intro⟩); exact rfl; exact rfl; exact rfl; exact rfl; (focus (repeat (first | exact True.intro | refine ⟨(by first | exact True.intro | rfl | exact ok_none (closed_ok rfl)), ?_⟩))); (first | exact True.intro | exact okf_WH | exact okf_pf (by exact True.intro) (by exact True.intro)))
  refine run0 ?_
  refine awp_no rfl rfl ?_
  refine run0 ?_
  refine awp_no rfl (decide_eq_false fun e => e rfl) ?_
  refine run0 ?_
  refine awp_loop (fun m' s => ∃ k, k ≤ g.n ∧ m' = g.n - k ∧ s = stl [(1, .row false g.n fun i => .q (b i)), (4, .own 63 0), (8, .bnd 116 (.ptr 60 0 0)), (9, .bnd 117 (.ptr 60 0 0)), (31, .i g.n), (32, .i (k : Int))] ((63, (1, fun _ => .rats k fun i => .q (lvs (gent g) b k i))) :: PFk g.n (gent g) k)) g.n _ ((imp_nil 4 63 (.rats 0 fun i => .q (lvs (gent g) b 0 i)) rfl rfl (by exact rfl)).trans (imp_id ?_ ?_)) ⟨0, Nat.zero_le _, rfl, rfl⟩ ?_
  · exact eA
  · exact allh rfl (by decide) (blen rfl fun _ _ => rfl) True.intro (allh rfl (by decide) (pf_le (Le.eq rfl rfl) Le.nilrow Le.nilrow) (fun i _ => prF_ok (by exact True.intro) (by exact True.intro) i) (allz (allz True.intro)))
  rintro m' s ⟨k, hk', rfl, rfl⟩
  refine run0 ?_
  refine awp_if rfl (fun h1 => ?_) (fun h1 => ?_)
  · have h1 : k < g.n := by omega
    skip
    have hkK : k < g.n := by omega
    refine run0 ?_
    ((with_reducible apply st_callH); exact rfl; exact rfl; exact rfl; exact (lv_next hF n8 h1 (hd k hkK)); (first | exact True.intro | exact ⟨rfl, rfl, rfl, True.intro⟩); exact rfl; exact rfl; exact rfl; exact rfl; (focus (repeat (first | exact True.intro | refine ⟨(by first | exact True.intro | rfl | exact ok_none (closed_ok rfl)), ?_⟩))); (first | exact True.intro | exact okf_WH | exact okf_pf (by exact True.intro) (by exact True.intro)))
    refine run0 ?_
    refine awp_no rfl rfl ?_
    repeat(first|(with_reducible first|refine awp_seq ?_|refine awp_block ?_|refine awp_skip ?_|refine awp_exit ?_|refine awp_ret ?_|refine q_then ?_|refine q_block ?_|refine q_then_exit ?_|refine q_then_ret ?_|refine q_block_exit ?_|refine q_block_ret ?_|refine q_loop_exit ?_|refine q_loop_ret ?_)|((with_reducible refine q_block_other ?_ ?_);exact rfl))
    refine awp_imp ((imp_rowv 4 (fun i => .q (lvs (gent g) b k i)) rfl rfl rfl (fun i hi => ?_)).trans (imp_id (e := [(1, .row false g.n fun i => .q (b i)), (4, .row true k fun i => .q (lvs (gent g) b k i)), (8, .bnd 116 (.ptr 60 0 0)), (9, .bnd 117 (.ptr 60 0 0)), (31, .i g.n), (32, .i (k : Int))]) (h := PFk g.n (gent g) (k + 1)) ?_ ?_)) ?_
    · rfl
    · exact eA
    · exact allh rfl (by decide) (pf_le (Le.eq rfl rfl) (Le.eq rfl rfl) (Le.eq rfl rfl)) (fun i _ => prF_ok (by exact True.intro) (by exact True.intro) i) (allz (allz True.intro))
    refine run0 ?_
    ((with_reducible apply st_callH); exact rfl; exact rfl; exact rfl; exact (lv_more hF n8 h1 (fun i hi => hX k (by omega) i hi) hb); (first | exact True.intro | exact ⟨rfl, rfl, rfl, True.intro⟩); exact rfl; exact rfl; exact rfl; exact rfl; (focus (repeat (first | exact True.intro | refine ⟨(by first | exact True.intro | rfl | exact ok_none (closed_ok rfl)), ?_⟩))); (first | exact True.intro | exact okf_WH | exact okf_pf (by exact True.intro) (by exact True.intro)))
    refine run0 ?_
    refine q_loop ?_ (imp_id ?_ ?_) ⟨k + 1, ?_, rfl, rfl⟩
    · omega
    · exact eA
    · exact allh rfl (by decide) (blen rfl fun _ _ => rfl) True.intro (allh rfl (by decide) (pf_le (Le.eq rfl rfl) (Le.eq rfl rfl) (Le.eq rfl rfl)) (fun i _ => prF_ok (by exact True.intro) (by exact True.intro) i) (allz (allz True.intro)))
    · omega
  · obtain ek : k = g.n := by omega
    subst ek
    refine run0 ?_
    refine ⟨.inr rfl, [(4, .own 63 0), (5, .i 0), (6, .i 0)], imp_id ?_ ?_, .three (.tmp rfl) (.tmp rfl) (.tmp rfl)⟩
    · exact eA
    · exact allh rfl (by decide) (blen rfl fun _ _ => rfl) True.intro (allh rfl (by decide) (pf_le (Le.eq rfl rfl) (Le.eq rfl rfl) (Le.eq rfl rfl)) (fun i _ => prF_ok (by exact True.intro) (by exact True.intro) i) (allz (allz True.intro)))
theorem lv_solve_break {g : GD} {b : Nat → Rat} (h : g.OK) (hk : g.k = 1) (hb : ∀ i, i < g.n → wt (b i) ≤ 100) {K : Nat} (hK : K < g.n) (hd : ∀ k, k < K → lvd (gent g) k ≠ 0) (hz : lvd (gent g) K = 0) : Has Tryz.prog 81 [g.v, .row false g.n fun i => .q (b i)] (.tup3 (.v (.slice none 0 0)) (.i ((K + 1 : Nat) : Int)) (.i 8)) := by
  have n8 := h.n8; have n1 := h.n1
  have hF := toe_wt h hk
  have hX := lvs_wt (b := b) hF n8 hb
  refine has_of Tryz.func81 (by kernel_rfl) rfl Tryz.ntmps81 Tryz.results81 rfl rfl rfl ?_
  refine run0 ?_
  ((with_reducible apply st_callH); exact rfl; exact rfl; exact rfl; exact (lv_of' h hk); (first | exact True.intro | exact ⟨rfl, rfl, rfl, True.intro⟩); exact rfl; exact rfl; exact rfl; exact rfl; (focus (repeat (first | exact True.intro | refine ⟨(by first | exact True.intro | rfl | exact ok_none (closed_ok rfl)), ?_⟩))); (first | exact True.intro | exact okf_WH | exact okf_pf (by exact True.intro) (by exact True.intro)))
  refine run0 ?_
  refine awp_no rfl rfl ?_
  refine run0 ?_
  refine awp_no rfl (decide_eq_false fun e => e rfl) ?_
  refine run0 ?_
  refine awp_loop (fun m' s => ∃ k, k ≤ K ∧ m' = g.n - k ∧ s = stl [(1, .row false g.n fun i => .q (b i)), (4, .own 63 0), (8, .bnd 116 (.ptr 60 0 0)), (9, .bnd 117 (.ptr 60 0 0)), (31, .i g.n), (32, .i (k : Int))] ((63, (1, fun _ => .rats k fun i => .q (lvs (gent g) b k i))) :: PFk g.n (gent g) k)) g.n _ ((imp_nil 4 63 (.rats 0 fun i => .q (lvs (gent g) b 0 i)) rfl rfl (by exact rfl)).trans (imp_id ?_ ?_)) ⟨0, Nat.zero_le _, rfl, rfl⟩ ?_
  · exact eA
  · exact allh rfl (by decide) (blen rfl fun _ _ => rfl) True.intro (allh rfl (by decide) (pf_le (Le.eq rfl rfl) Le.nilrow Le.nilrow) (fun i _ => prF_ok (by exact True.intro) (by exact True.intro) i) (allz (allz True.intro)))
  rintro m' s ⟨k, hk', rfl, rfl⟩
  refine run0 ?_
  refine awp_if rfl (fun h1 => ?_) (fun h1 => ?_)
  · have h1 : k < g.n := by omega
    by_cases hkk : k = K
    · subst hkk
      obtain ⟨x, y, H⟩ := lv_next_no hF n8 h1 hz
      refine run0 ?_
      ((with_reducible apply st_callH); exact rfl; exact rfl; exact rfl; exact (H); (first | exact True.intro | exact ⟨rfl, rfl, rfl, True.intro⟩); exact rfl; exact rfl; exact rfl; exact rfl; (focus (repeat (first | exact True.intro | refine ⟨(by first | exact True.intro | rfl | exact ok_none (closed_ok rfl)), ?_⟩))); (first | exact True.intro | exact okf_WH | exact okf_pf (by exact True.intro) (by exact True.intro)))
      refine run0 ?_
      refine awp_yes rfl rfl ?_
      refine run0 ?_
      exact ⟨.inr rfl, _, Imp.refl _, .three (.tmp rfl) (.tmp rfl) (.tmp rfl)⟩
    have hkK : k < K := by omega
    refine run0 ?_
    ((with_reducible apply st_callH); exact rfl; exact rfl; exact rfl; exact (lv_next hF n8 h1 (hd k hkK)); (first | exact True.intro | exact ⟨rfl, rfl, rfl, True.intro⟩); exact rfl; exact rfl; exact rfl; exact rfl; (focus (repeat (first | exact True.intro | refine ⟨(by first | exact True.intro | rfl | exact ok_none (closed_ok rfl)), ?_⟩))); (first | exact True.intro | exact okf_WH | exact okf_pf (by exact True.intro) (by exact True.intro)))
    refine run0 ?_
    refine awp_no rfl rfl ?_
    repeat(first|(with_reducible first|refine awp_seq ?_|refine awp_block ?_|refine awp_skip ?_|refine awp_exit ?_|refine awp_ret ?_|refine q_then ?_|refine q_block ?_|refine q_then_exit ?_|refine q_then_ret ?_|refine q_block_exit ?_|refine q_block_ret ?_|refine q_loop_exit ?_|refine q_loop_ret ?_)|((with_reducible refine q_block_other ?_ ?_);exact rfl))
    refine awp_imp ((imp_rowv 4 (fun i => .q (lvs (gent g) b k i)) rfl rfl rfl (fun i hi => ?_)).trans (imp_id (e := [(1, .row false g.n fun i => .q (b i)), (4, .row true k fun i => .q (lvs (gent g) b k i)), (8, .bnd 116 (.ptr 60 0 0)), (9, .bnd 117 (.ptr 60 0 0)), (31, .i g.n), (32, .i (k : Int))]) (h := PFk g.n (gent g) (k + 1)) ?_ ?_)) ?_
    · rfl
    · exact eA
    · exact allh rfl (by decide) (pf_le (Le.eq rfl rfl) (Le.eq rfl rfl) (Le.eq rfl rfl)) (fun i _ => prF_ok (by exact True.intro) (by exact True.intro) i) (allz (allz True.intro))
    refine run0 ?_
    ((with_reducible apply st_callH); exact rfl; exact rfl; exact rfl; exact (lv_more hF n8 h1 (fun i hi => hX k (by omega) i hi) hb); (first | exact True.intro | exact ⟨rfl, rfl, rfl, True.intro⟩); exact rfl; exact rfl; exact rfl; exact rfl; (focus (repeat (first | exact True.intro | refine ⟨(by first | exact True.intro | rfl | exact ok_none (closed_ok rfl)), ?_⟩))); (first | exact True.intro | exact okf_WH | exact okf_pf (by exact True.intro) (by exact True.intro)))
    refine run0 ?_
    refine q_loop ?_ (imp_id ?_ ?_) ⟨k + 1, ?_, rfl, rfl⟩
    · omega
    · exact eA
    · exact allh rfl (by decide) (blen rfl fun _ _ => rfl) True.intro (allh rfl (by decide) (pf_le (Le.eq rfl rfl) (Le.eq rfl rfl) (Le.eq rfl rfl)) (fun i _ => prF_ok (by exact True.intro) (by exact True.intro) i) (allz (allz True.intro)))
    · omega
  · omega
end Go.Proofs.YtdnmoggifjlbiaaGreat.AM
/- Laws of dense matrices: walks: rows and matrices that are the same; ones. -/
namespace Go.Proofs.YtdnmoggifjlbiaaGreat.AM
open Go Go.RowKit Go.Proofs.YtdnmoggifjlbiaaGreat.PN Go.Proofs.YtdnmoggifjlbiaaGreat.V
open Go.Proofs.YtdnmoggifjlbiaaGreat.LA (S S_succ S_zero S_congr)
set_option linter.unusedVariables false
set_option linter.unusedSimpArgs false
set_option maxRecDepth 4000
set_option maxHeartbeats 4000000
theorem k_rows {n K : Nat} {f g : Nat → Rat} [hf : ∀ i, Wt (f i) K] (hK : K ≤ 1000000000000) (hn : n ≤ 1000) (h : ∀ i, i < n → f i = g i) : Has Tryz.prog 19 [.row false n (fun i => .q (f i)), .row false n (fun i => .q (g i))] (.b true) := by
  refine has_of Tryz.func19 (by kernel_rfl) rfl Tryz.ntmps19 Tryz.results19 rfl rfl rfl ?_
  refine run0 ?_
  refine awp_no rfl (decide_eq_false (fun h => h rfl)) ?_
  refine run0 ?_
  refine awp_loop (fun m s => ∃ k, k ≤ n ∧ m = n - k ∧ s = stl [(0, .row false n (fun i => .q (f i))), (1, .row false n (fun i => .q (g i))), (5, .i (k : Int))] []) n _ (imp_id ?_ ?_) ⟨0, Nat.zero_le _, rfl, rfl⟩ ?_
  · exact eA
  · exact hA
  · rintro m s ⟨k, hk, rfl, rfl⟩
    refine run0 ?_
    refine awp_if rfl (fun h1 => ?_) (fun h1 => ?_)
    · have h1 : k < n := by omega
      have e := h k h1
      have wg : Wt (g k) K := by rw [← e]; exact hf k
      have C := cs_same (p := f k) (q := g k) ⟨hK, hK⟩
      rw [decide_eq_true e] at C
      repeat(first|refine run1 ?_|((with_reducible apply st_call);exact rfl;exact rfl;exact rfl;first|(exact C))|((with_reducible apply st_callg);exact rfl;exact rfl;(first|exact rfl|assumption);exact rfl;exact rfl;exact rfl;first|(exact C)))
      refine awp_no rfl rfl ?_
      refine run0 ?_
      refine q_loop ?_ (imp_id ?_ ?_) ⟨k + 1, ?_, rfl, rfl⟩
      · omega
      · exact eA
      · exact hA
      · omega
    · refine run0 ?_
      refine ⟨.inr rfl, _, Imp.refl _, ?_⟩
      exact .one (.tmp rfl)
end Go.Proofs.YtdnmoggifjlbiaaGreat.AM
/- Dense matrices: walks: made, Turn, Mul. -/
namespace Go.Proofs.YtdnmoggifjlbiaaGreat.AM
open Go Go.RowKit Go.Proofs.YtdnmoggifjlbiaaGreat.PN Go.Proofs.YtdnmoggifjlbiaaGreat.V
open Go.Proofs.YtdnmoggifjlbiaaGreat.LA (S S_succ S_zero S_congr)
set_option linter.unusedVariables false
set_option linter.unusedSimpArgs false
end Go.Proofs.YtdnmoggifjlbiaaGreat.AM
/- Dense matrices: walks: the steps on rows. -/
namespace Go.Proofs.YtdnmoggifjlbiaaGreat.AM
open Go Go.RowKit Go.Proofs.YtdnmoggifjlbiaaGreat.PN Go.Proofs.YtdnmoggifjlbiaaGreat.V
open Go.Proofs.YtdnmoggifjlbiaaGreat.LA (S S_succ S_zero S_congr)
set_option linter.unusedVariables false
set_option linter.unusedSimpArgs false
set_option maxRecDepth 4000
set_option maxHeartbeats 2000000
/-- The variable that bears rows, and a determinant. -/
def wk (d : Rat) : Nat → AV := fun i => match i with
  | 0 => .own 61 0
  | 1 => .rs (.q d)
  | 2 => .rn (.q d)
  | _ => .rd (.q d)
abbrev WH (n m : Nat) (d : Rat) (π : Nat → Nat) (A : Nat → Nat → Rat) : List (Nat × Fam) :=
  [(60, (1, fun _ => .ones 118 4 (wk d))), (61, (1, fun _ => .ones WT n (fun i => .own 62 (π i)))), (62, (n, fun r => .rats m (fun j => .q (A r j))))]
theorem wk_ok {U : Nat → Bool} (hU : U 61 = true) (d : Rat) : ∀ i, (wk d i).ok U := fun i => by
  match i with
  | 0 => exact hU
  | 1 => trivial
  | 2 => trivial
  | _ + 3 => trivial
def swp (π : Nat → Nat) (i j : Nat) : Nat → Nat := updN (updN π i (π j)) j (π i)
theorem swp_own {π : Nat → Nat} {i j g : Nat} (k : Nat) : updN (updN (fun i => AV.own g (π i)) i (.own g (π j))) j (.own g (π i)) k = .own g (swp π i j k) := by
  unfold swp updN
  by_cases h1 : k = j
  · rw [if_pos h1, if_pos h1]
  · rw [if_neg h1, if_neg h1]
    by_cases h2 : k = i
    · rw [if_pos h2, if_pos h2]
    · rw [if_neg h2, if_neg h2]
theorem swp_self (π : Nat → Nat) (i k : Nat) : swp π i i k = π k := by
  unfold swp updN
  by_cases h : k = i
  · rw [if_pos h, h]
  · rw [if_neg h, if_neg h]
theorem swp_at (π : Nat → Nat) (i j : Nat) : swp π i j j = π i := updN_same _ _ _
def det1 (d : Rat) (i at' : Nat) : Rat := if i = at' then d else -d
end Go.Proofs.YtdnmoggifjlbiaaGreat.AM
/- Dense matrices: walks: a row is taken away from another one. -/
namespace Go.Proofs.YtdnmoggifjlbiaaGreat.AM
open Go Go.RowKit Go.Proofs.YtdnmoggifjlbiaaGreat.PN Go.Proofs.YtdnmoggifjlbiaaGreat.V
open Go.Proofs.YtdnmoggifjlbiaaGreat.LA (S S_succ S_zero S_congr)
set_option linter.unusedVariables false
set_option linter.unusedSimpArgs false
set_option maxRecDepth 4000
set_option maxHeartbeats 2000000
/-- A row, less a multiple of another one from a column on, up to k. -/
def clr (A : Nat → Nat → Rat) (q : Rat) (a b col k : Nat) : Nat → Nat → Rat := fun r j => if r = a ∧ col ≤ j ∧ j < k then A a j - q * A b j else A r j
theorem clr_wt {A : Nat → Nat → Rat} {q : Rat} {a b col k K : Nat} [hA : ∀ i j, Wt (A i j) K] [hq : Wt q (K + K)] (r j : Nat) : Wt (clr A q a b col k r j) (4 * K + 1) := by
  unfold clr
  split
  · exact (inferInstance : Wt (A a j - q * A b j) (K + (K + K + K) + 1)).mono (by omega)
  · exact (hA r j).mono (by omega)
theorem clr_step {A : Nat → Nat → Rat} {q : Rat} {a b col k : Nat} (hab : a ≠ b) (hk : col ≤ k) (r j : Nat) : (if r = a ∧ j = k then clr A q a b col k a k - q * clr A q a b col k b k else clr A q a b col k r j) = clr A q a b col (k + 1) r j := by
  unfold clr
  by_cases h1 : r = a
  · subst h1
    by_cases h2 : j = k
    · subst h2
      rw [if_pos ⟨rfl, rfl⟩, if_neg (by omega), if_neg (fun h => hab h.1.symm), if_pos ⟨rfl, hk, by omega⟩]
    · rw [if_neg (by omega)]
      by_cases h3 : col ≤ j ∧ j < k
      · rw [if_pos ⟨rfl, h3⟩, if_pos ⟨rfl, by omega, by omega⟩]
      · rw [if_neg (fun h => h3 h.2), if_neg (by omega)]
  · rw [if_neg (fun h => h1 h.1), if_neg (fun h => h1 h.1), if_neg (fun h => h1 h.1)]
theorem clr_none {A : Nat → Nat → Rat} {q : Rat} {a b col r j : Nat} : clr A q a b col col r j = A r j := by
  unfold clr; rw [if_neg (by omega)]
theorem clr_zero {A : Nat → Nat → Rat} {q : Rat} {a b col k r j : Nat} (h : q = 0) : clr A q a b col k r j = A r j := by
  unfold clr
  split
  · rename_i h1; rw [h, h1.1, Rat.zero_mul]; exact by rw [Rat.sub_eq_add_neg, Rat.neg_zero, Rat.add_zero]
  · rfl
theorem clr_blk {C C' : Nat → Nat → Rat} {m a k : Nat} {x : Rat} (h : ∀ r j, (if r = a ∧ j = k then x else C r j) = C' r j) (r : Nat) : BLe idR (updN (fun r => Blk.rats m fun j => .q (C r j)) a (.rats m (updN (fun j => .q (C a j)) k (.q x))) r) (.rats m fun j => .q (C' r j)) := by
  by_cases e : r = a
  · subst e
    rw [updN_same]
    refine blen rfl fun j hj => ?_
    rw [← h r j]
    unfold updN
    by_cases e2 : j = k
    · rw [if_pos e2, if_pos ⟨rfl, e2⟩]
    · rw [if_neg e2, if_neg (fun h => e2 h.2)]
  · rw [updN_ne _ _ e]
    refine blen rfl fun j hj => ?_
    rw [← h r j, if_neg (fun h => e h.1)]
end Go.Proofs.YtdnmoggifjlbiaaGreat.AM
/- Dense matrices: walks: rows on which steps are done. -/
namespace Go.Proofs.YtdnmoggifjlbiaaGreat.AM
open Go Go.RowKit Go.Proofs.YtdnmoggifjlbiaaGreat.PN Go.Proofs.YtdnmoggifjlbiaaGreat.V
open Go.Proofs.YtdnmoggifjlbiaaGreat.LA (S S_succ S_zero S_congr)
set_option linter.unusedVariables false
set_option linter.unusedSimpArgs false
set_option maxRecDepth 4000
set_option maxHeartbeats 2000000
/-- Rows with something beside each. -/
def aug (n : Nat) (F G : Nat → Nat → Rat) : Nat → Nat → Rat := fun i j => if j < n then F i j else G i (j - n)
/-- The variable, before it bears rows. -/
def wk0 (y : AV) : Nat → AV := fun i => match i with
  | 0 => y
  | 1 => .rs (.q 1)
  | 2 => .rn (.q 1)
  | _ => .rd (.q 1)
def offs (m k : Nat) (A : Nat → Nat → Rat) : List (Nat × Fam) := match k with
  | 0 => [(10, (1, fun _ => .ones 118 4 (wk0 (.v (.slice none 0 0)))))]
  | k + 1 => [(10, (1, fun _ => .ones 118 4 (wk0 (.own 11 0)))), (11, (1, fun _ => .ones WT (k + 1) (fun i => .own 12 i))), (12, (k + 1, fun r => .rats m (fun j => .q (A r j))))]
def sg (k : Nat) : Ren := fun g r => if g = 12 then (if r < k then (12, r) else (32, r - k)) else if g = 11 then (34, r) else (g, r)
def sf : Ren := fun g r => if g = 60 then (10, r) else if g = 61 then (11, r) else if g = 62 then (12, r) else (g, r)
end Go.Proofs.YtdnmoggifjlbiaaGreat.AM
/- Elimination, as plain functions: what the steps on rows make. -/
namespace Go.Proofs.YtdnmoggifjlbiaaGreat.AM
open Go.Proofs.YtdnmoggifjlbiaaGreat.LA (S S_succ S_zero S_congr)
open Classical
set_option linter.unusedVariables false
set_option linter.unusedSimpArgs false
/-- The first number from i on, at most k further, that has p. -/
noncomputable def fnd (p : Nat → Prop) : Nat → Nat → Nat
  | 0, i => i
  | k + 1, i => if p i then i else fnd p k (i + 1)
theorem fnd_le (p : Nat → Prop) : ∀ k i, i ≤ fnd p k i ∧ fnd p k i ≤ i + k ∧ (∀ j, i ≤ j → j < fnd p k i → ¬ p j) ∧ (fnd p k i < i + k → p (fnd p k i))
  | 0, i => ⟨Nat.le_refl _, Nat.le_refl _, fun j h1 h2 => absurd h2 (by unfold fnd; omega), fun h => absurd h (by unfold fnd; omega)⟩
  | k + 1, i => by
    unfold fnd
    by_cases h : p i
    · rw [if_pos h]; exact ⟨Nat.le_refl _, by omega, fun j h1 h2 => by omega, fun _ => h⟩
    · rw [if_neg h]
      obtain ⟨h1, h2, h3, h4⟩ := fnd_le p k (i + 1)
      refine ⟨by omega, by omega, fun j h5 h6 => ?_, fun h5 => h4 (by omega)⟩
      by_cases e : j = i
      · subst e; exact h
      · exact h3 j (by omega) h6
structure ES where
  at' : Nat
  d : Rat
  π : Nat → Nat
  A : Nat → Nat → Rat
/-- Which rows are cleaned. -/
def tst (all : Bool) (at' i : Nat) : Prop := at' < i ∨ (all = true ∧ i < at')
/-- The rows up to k cleaned. -/
noncomputable def cln (A : Nat → Nat → Rat) (π : Nat → Nat) (all : Bool) (at' col m k : Nat) : Nat → Nat → Rat := fun r j =>
  if (∃ i, i < k ∧ tst all at' i ∧ r = π i) ∧ col ≤ j ∧ j < m then A r j - A r col / A (π at') col * A (π at') j else A r j
theorem tst_ne {all : Bool} {at' i : Nat} (h : tst all at' i) : i ≠ at' := by
  rcases h with h | h <;> omega
theorem cln_row {A : Nat → Nat → Rat} {π : Nat → Nat} {all : Bool} {at' col m k n r : Nat} (hr : ∀ i, i < k → tst all at' i → r ≠ π i) (j : Nat) : cln A π all at' col m k r j = A r j := by
  unfold cln
  rw [if_neg]
  rintro ⟨⟨i, h1, h2, h3⟩, _⟩
  exact hr i h1 h2 h3
theorem cln_step {A : Nat → Nat → Rat} {π : Nat → Nat} {all : Bool} {at' col m k n : Nat} (hinj : ∀ i j, i < n → j < n → π i = π j → i = j) (ha : at' < n) (hk : k < n) (ht : tst all at' k) :
    clr (cln A π all at' col m k) (cln A π all at' col m k (π k) col / cln A π all at' col m k (π at') col) (π k) (π at') col m = cln A π all at' col m (k + 1) := by
  have h1 : ∀ j, cln A π all at' col m k (π k) j = A (π k) j := cln_row (n := n) fun i h1 h2 h3 => by
    have := hinj k i hk (by omega) h3
    omega
  have h2 : ∀ j, cln A π all at' col m k (π at') j = A (π at') j := cln_row (n := n) fun i h1 h2 h3 => by
    have := hinj at' i ha (by omega) h3
    exact tst_ne h2 this.symm
  funext r j
  unfold clr
  rw [h1, h1, h2, h2]
  by_cases e : r = π k
  · subst e
    by_cases c : col ≤ j ∧ j < m
    · rw [if_pos ⟨rfl, c⟩]
      unfold cln
      rw [if_pos ⟨⟨k, by omega, ht, rfl⟩, c⟩]
    · rw [if_neg (fun h => c h.2), h1]
      unfold cln
      rw [if_neg (fun h => c h.2)]
  · rw [if_neg (fun h => e h.1)]
    unfold cln
    have e2 : (∃ i, i < k ∧ tst all at' i ∧ r = π i) ↔ (∃ i, i < k + 1 ∧ tst all at' i ∧ r = π i) := by
      constructor
      · rintro ⟨i, h1, h2, h3⟩; exact ⟨i, by omega, h2, h3⟩
      · rintro ⟨i, h1, h2, h3⟩
        refine ⟨i, ?_, h2, h3⟩
        rcases Nat.lt_or_ge i k with h4 | h4
        · exact h4
        · obtain rfl : i = k := by omega
          exact absurd h3 e
    simp only [e2]
/-- One column. -/
noncomputable def stp (n m : Nat) (all : Bool) (s : ES) (col : Nat) : ES :=
  if fnd (fun i => s.A (s.π i) col ≠ 0) (n - s.at') s.at' < n then
    ⟨s.at' + 1, det1 s.d (fnd (fun i => s.A (s.π i) col ≠ 0) (n - s.at') s.at') s.at' * s.A (s.π (fnd (fun i => s.A (s.π i) col ≠ 0) (n - s.at') s.at')) col, swp s.π (fnd (fun i => s.A (s.π i) col ≠ 0) (n - s.at') s.at') s.at',
      cln s.A (swp s.π (fnd (fun i => s.A (s.π i) col ≠ 0) (n - s.at') s.at') s.at') all s.at' col m n⟩
  else s
noncomputable def stps (n m : Nat) (all : Bool) (A : Nat → Nat → Rat) : Nat → ES
  | 0 => ⟨0, 1, fun i => i, A⟩
  | c + 1 => stp n m all (stps n m all A c) c
/-- What holds of the rows at all times. -/
structure EOK (n c X : Nat) (s : ES) : Prop where
  le : s.at' ≤ c
  lt : ∀ i, i < n → s.π i < n
  inj : ∀ i j, i < n → j < n → s.π i = s.π j → i = j
  wd : Wt s.d X
  wA : ∀ i j, Wt (s.A i j) X
theorem swp_lt {π : Nat → Nat} {n i j : Nat} (h : ∀ i, i < n → π i < n) (hi : i < n) (hj : j < n) (k : Nat) (hk : k < n) : swp π i j k < n := by
  unfold swp updN
  split
  · exact h i hi
  · split
    · exact h j hj
    · exact h k hk
theorem swp_inj {π : Nat → Nat} {n i j : Nat} (h : ∀ i j, i < n → j < n → π i = π j → i = j) (hi : i < n) (hj : j < n) (a b : Nat) (ha : a < n) (hb : b < n) (e : swp π i j a = swp π i j b) : a = b := by
  unfold swp updN at e
  split at e <;> split at e <;> (try split at e) <;> (try split at e) <;> (first | omega | (have := h _ _ (by assumption) (by assumption) e; omega))
theorem det1_wt {d : Rat} {X i j : Nat} [h : Wt d X] : Wt (det1 d i j) X := by
  unfold det1; split
  · exact h
  · exact inferInstance
theorem cln_wt {A : Nat → Nat → Rat} {π : Nat → Nat} {all : Bool} {at' col m k X : Nat} [h : ∀ i j, Wt (A i j) X] (r j : Nat) : Wt (cln A π all at' col m k r j) (4 * X + 1) := by
  unfold cln
  split
  · exact (inferInstance : Wt (A r j - A r col / A (π at') col * A (π at') j) (X + (X + X + X) + 1)).mono (by omega)
  · exact (h r j).mono (by omega)
theorem stp_ok {n m c X : Nat} {all : Bool} {s : ES} (hX : 1 ≤ X) (h : EOK n c X s) : EOK n (c + 1) (5 * X) (stp n m all s c) := by
  have hA := h.wA
  have hd := h.wd
  unfold stp
  split
  · rename_i hi
    obtain ⟨h1, h2, _, _⟩ := fnd_le (fun i => s.A (s.π i) c ≠ 0) (n - s.at') s.at'
    have h3 := h.le
    refine ⟨by show s.at' + 1 ≤ c + 1; omega, swp_lt h.lt hi (by omega), swp_inj h.inj hi (by omega), ?_, fun i j => (cln_wt i j).mono (by omega)⟩
    have w1 : Wt (det1 s.d (fnd (fun i => s.A (s.π i) c ≠ 0) (n - s.at') s.at') s.at') X := det1_wt
    exact (inferInstance : Wt (det1 s.d (fnd (fun i => s.A (s.π i) c ≠ 0) (n - s.at') s.at') s.at' * s.A (s.π (fnd (fun i => s.A (s.π i) c ≠ 0) (n - s.at') s.at')) c) (X + X)).mono (by omega)
  · exact ⟨by have := h.le; omega, h.lt, h.inj, h.wd.mono (by omega), fun i j => (h.wA i j).mono (by omega)⟩
theorem stps_ok {n m K : Nat} {all : Bool} {A : Nat → Nat → Rat} [hA : ∀ i j, Wt (A i j) K] : ∀ c, EOK n c (5 ^ c * (K + 1)) (stps n m all A c)
  | 0 => ⟨Nat.le_refl _, fun i hi => hi, fun i j _ _ e => e, (inferInstance : Wt 1 1).mono (by omega), fun i j => (hA i j).mono (by omega)⟩
  | c + 1 => by
    have h := stp_ok (m := m) (all := all) (Nat.mul_pos (Nat.pow_pos (by decide)) (Nat.succ_pos K)) (stps_ok (n := n) (m := m) (all := all) (A := A) c)
    rw [show 5 ^ (c + 1) * (K + 1) = 5 * (5 ^ c * (K + 1)) by rw [Nat.pow_succ]; ac_rfl]
    exact h
end Go.Proofs.YtdnmoggifjlbiaaGreat.AM
/- Dense matrices: walks: all steps. -/
namespace Go.Proofs.YtdnmoggifjlbiaaGreat.AM
open Go Go.RowKit Go.Proofs.YtdnmoggifjlbiaaGreat.PN Go.Proofs.YtdnmoggifjlbiaaGreat.V
open Go.Proofs.YtdnmoggifjlbiaaGreat.LA (S S_succ S_zero S_congr)
set_option linter.unusedVariables false
set_option linter.unusedSimpArgs false
set_option maxRecDepth 4000
set_option maxHeartbeats 4000000
theorem okf_WH {n m : Nat} {d : Rat} {π : Nat → Nat} {A : Nat → Nat → Rat} : okf (fun g => memN g (keys (WH n m d π A))) (WH n m d π A) :=
  ⟨fun _ _ i _ => wk_ok rfl d i, fun _ _ _ _ => rfl, fun _ _ => True.intro, True.intro⟩
theorem stp_yes {n m col : Nat} {all : Bool} {s : ES} (h : fnd (fun i => s.A (s.π i) col ≠ 0) (n - s.at') s.at' < n) : stp n m all s col = ⟨s.at' + 1, det1 s.d (fnd (fun i => s.A (s.π i) col ≠ 0) (n - s.at') s.at') s.at' * s.A (s.π (fnd (fun i => s.A (s.π i) col ≠ 0) (n - s.at') s.at')) col, swp s.π (fnd (fun i => s.A (s.π i) col ≠ 0) (n - s.at') s.at') s.at',
      cln s.A (swp s.π (fnd (fun i => s.A (s.π i) col ≠ 0) (n - s.at') s.at') s.at') all s.at' col m n⟩ := if_pos h
theorem stp_no {n m col : Nat} {all : Bool} {s : ES} (h : ¬ fnd (fun i => s.A (s.π i) col ≠ 0) (n - s.at') s.at' < n) : stp n m all s col = s := if_neg h
end Go.Proofs.YtdnmoggifjlbiaaGreat.AM
/- Dense matrices: walks: determinants, ranks. -/
namespace Go.Proofs.YtdnmoggifjlbiaaGreat.AM
open Go Go.RowKit Go.Proofs.YtdnmoggifjlbiaaGreat.PN Go.Proofs.YtdnmoggifjlbiaaGreat.V
open Go.Proofs.YtdnmoggifjlbiaaGreat.LA (S S_succ S_zero S_congr)
set_option linter.unusedVariables false
set_option linter.unusedSimpArgs false
set_option maxRecDepth 4000
set_option maxHeartbeats 4000000
/-- What the steps make of a matrix. -/
noncomputable def gs (n : Nat) (F : Nat → Nat → Rat) : ES := stps n n false (aug n F fun _ _ => 0) n
noncomputable def gdet (n : Nat) (F : Nat → Nat → Rat) : Rat := if (gs n F).at' < n then 0 else (gs n F).d
end Go.Proofs.YtdnmoggifjlbiaaGreat.AM
/- Laws of dense matrices: walks: what they share. -/
namespace Go.Proofs.YtdnmoggifjlbiaaGreat.AM
open Go Go.RowKit Go.Proofs.YtdnmoggifjlbiaaGreat.PN Go.Proofs.YtdnmoggifjlbiaaGreat.V
open Go.Proofs.YtdnmoggifjlbiaaGreat.LA (S S_succ S_zero S_congr)
set_option linter.unusedVariables false
set_option linter.unusedSimpArgs false
set_option maxRecDepth 4000
set_option maxHeartbeats 4000000
end Go.Proofs.YtdnmoggifjlbiaaGreat.AM
/- Laws of dense matrices: walks: ones from corner to corner. -/
namespace Go.Proofs.YtdnmoggifjlbiaaGreat.AM
open Go Go.RowKit Go.Proofs.YtdnmoggifjlbiaaGreat.PN Go.Proofs.YtdnmoggifjlbiaaGreat.V
open Go.Proofs.YtdnmoggifjlbiaaGreat.LA (S S_succ S_zero S_congr)
set_option linter.unusedVariables false
set_option linter.unusedSimpArgs false
set_option maxRecDepth 4000
set_option maxHeartbeats 4000000
/-- Rows that are gathered in slot t: none, or k of them. -/
def matS (t : Nat) (e : List (Nat × AV)) (v : Nat → AV) : Nat → St
  | 0 => stl ((t, .v (.slice none 0 0)) :: e) []
  | k + 1 => stl ((t, .own t 0) :: e) [(t, (1, fun _ => .ones WT (k + 1) v))]
def idm (i j : Nat) : Rat := if i = j then 1 else 0
instance idm_wt (i j : Nat) : Wt (idm i j) 1 := ⟨by unfold idm; split <;> decide⟩
theorem c_unit : Has Tryz.prog 22 [.i 1] (.q 1) := by
  have h := hs_int 1 (by decide) (by decide)
  rw [show ((1 : Int) : Rat) = 1 from rfl] at h
  exact h
end Go.Proofs.YtdnmoggifjlbiaaGreat.AM
/- Products of matrices: the plain laws that DenseRing asks for. -/
namespace Go.Proofs.YtdnmoggifjlbiaaGreat.AM
open Go.Proofs.YtdnmoggifjlbiaaGreat.LA (S S_succ S_zero S_congr S_mul S_mulr S_swap S_single)
set_option linter.unusedVariables false
set_option linter.unusedSimpArgs false
end Go.Proofs.YtdnmoggifjlbiaaGreat.AM
/- Laws of dense matrices: walks: matrices of small numbers (under way). -/
namespace Go.Proofs.YtdnmoggifjlbiaaGreat.AM
open Go Go.RowKit Go.Proofs.YtdnmoggifjlbiaaGreat.PN Go.Proofs.YtdnmoggifjlbiaaGreat.V
open Go.Proofs.YtdnmoggifjlbiaaGreat.LA (S S_succ S_zero S_congr)
set_option linter.unusedVariables false
set_option linter.unusedSimpArgs false
set_option maxRecDepth 4000
set_option maxHeartbeats 4000000
/-- Rows that are gathered in slot 6, all of them own. -/
def famS (e : List (Nat × AV)) (m : Nat) (A : Nat → Nat → Rat) : Nat → St
  | 0 => stl ((6, .v (.slice none 0 0)) :: e) []
  | k + 1 => stl ((6, .own 6 0) :: e) [(6, (1, fun _ => .ones WT (k + 1) (fun i => .own 3 i))), (3, (k + 1, fun r => .rats m (fun j => .q (A r j))))]
def sm (k : Nat) : Ren := fun g r => if g = 3 then (if r < k then (3, r) else (31, r - k)) else if g = 6 then (33, r) else (g, r)
/-- The rows, as they are drawn. -/
def mbase (n : Nat) (zs : List Int) (i j : Nat) : Rat := rowq zs (i * n + j)
/-- The last row's place, and the one ahead of it. -/
def la (n : Nat) : Nat := ((n : Int) - 1).toNat
def lb2 (n : Nat) : Nat := ((n : Int) - 2).toNat
def nv (n : Nat) (zs : List Int) (c : Nat) : Rat := if 2 < n then mbase n zs 0 c + mbase n zs (lb2 n) c else mbase n zs 0 c
def mx (n : Nat) (zs : List Int) (j : Nat) : Nat → Nat → Rat := fun r c => if r = la n ∧ c < j then nv n zs c else mbase n zs r c
def mc (n : Nat) (zs : List Int) : Prop := 1 < n ∧ 2 < zs.length ∧ wthn (zs.getD 2 0) 3 = 0
open Classical in
/-- The matrix that is made. -/
noncomputable def mkm (n : Nat) (zs : List Int) (i j : Nat) : Rat := if mc n zs then mx n zs n i j else mbase n zs i j
def mx1 (n : Nat) (zs : List Int) (j : Nat) : Nat → Nat → Rat := fun r c => if r = la n ∧ c = j then mx n zs j 0 j else mx n zs j r c
instance mbase_wt (n : Nat) (zs : List Int) (i j : Nat) : Wt (mbase n zs i j) 1 := rowq_wt _ _
end Go.Proofs.YtdnmoggifjlbiaaGreat.AM

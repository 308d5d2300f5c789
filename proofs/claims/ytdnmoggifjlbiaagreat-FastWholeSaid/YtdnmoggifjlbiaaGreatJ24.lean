/- Joined texts, 24: FsC Wthn RowsB EqA GenH LawV LawFa. -/
import Derived.Test.YtdnmoggifjlbiaaGreatJ23
import Derived.Test.YtdnmoggifjlbiaaGreatJ22
import Derived.Test.YtdnmoggifjlbiaaGreatJ19
import Derived.Test.YtdnmoggifjlbiaaGreatJ21
import Derived.Test.YtdnmoggifjlbiaaGreatJ14
import Derived.Test.YtdnmoggifjlbiaaGreatJ0
import Derived.Test.YtdnmoggifjlbiaaGreatJ18
set_option linter.unusedVariables false
set_option linter.unusedSimpArgs false
/- The document's chapter 9: displaced matrices, applied ones; both. -/
namespace Go.Proofs.YtdnmoggifjlbiaaGreat.AM
open Go Go.RowKit Go.Proofs.YtdnmoggifjlbiaaGreat.PN Go.Proofs.YtdnmoggifjlbiaaGreat.V
open Go.Proofs.YtdnmoggifjlbiaaGreat.LA (S S_succ S_zero S_congr)
set_option linter.unusedVariables false
set_option linter.unusedSimpArgs false
set_option maxRecDepth 8000
set_option maxHeartbeats 8000000
theorem r9_at {g : GD} (h : g.OK) {a b : Int} (ha : -1 ≤ a) (hb : -1 ≤ b) : Has Tryz.prog 66 [.mat false g.n (fun _ => g.n) (fun i j => .q (gent g i j)), .i a, .i b] (.q (gat g a b)) := by
  refine has_of Tryz.func66 (by kernel_rfl) rfl Tryz.ntmps66 Tryz.results66 rfl rfl rfl ?_
  by_cases a0 : a < 0
  · have e0 : decide (a < 0) = true := decide_eq_true a0
    have e1 : (decide (a < 0) == false) = false := by rw [e0]; rfl
    refine run0 ?_
    refine awp_yes rfl rfl ?_
    rw [gat_out (.inl a0)]
    repeat(first|refine run1 ?_|((with_reducible apply st_call);exact rfl;exact rfl;exact rfl;first|(exact hs_zero))|((with_reducible apply st_callg);exact rfl;exact rfl;(first|exact rfl|assumption);exact rfl;exact rfl;exact rfl;first|(exact hs_zero)))
    exact ⟨.inr rfl, _, Imp.refl _, .one (.rat rfl rfl (by decide) rfl (by decide) rfl)⟩
  have e0 : decide (a < 0) = false := decide_eq_false a0
  have e1 : (decide (a < 0) == false) = true := by rw [e0]; rfl
  by_cases b0 : b < 0
  · have f0 : decide (b < 0) = true := decide_eq_true b0
    have f1 : (decide (b < 0) == false) = false := by rw [f0]; rfl
    refine run0 ?_
    refine awp_yes rfl rfl ?_
    rw [gat_out (.inr (.inl b0))]
    repeat(first|refine run1 ?_|((with_reducible apply st_call);exact rfl;exact rfl;exact rfl;first|(exact hs_zero))|((with_reducible apply st_callg);exact rfl;exact rfl;(first|exact rfl|assumption);exact rfl;exact rfl;exact rfl;first|(exact hs_zero)))
    exact ⟨.inr rfl, _, Imp.refl _, .one (.rat rfl rfl (by decide) rfl (by decide) rfl)⟩
  have f0 : decide (b < 0) = false := decide_eq_false b0
  have f1 : (decide (b < 0) == false) = true := by rw [f0]; rfl
  by_cases a1 : (g.n : Int) ≤ a
  · have g0 : decide ((g.n : Int) ≤ a) = true := decide_eq_true a1
    have g1 : (decide ((g.n : Int) ≤ a) == false) = false := by rw [g0]; rfl
    refine run0 ?_
    refine awp_yes rfl rfl ?_
    rw [gat_out (.inr (.inr (.inl a1)))]
    repeat(first|refine run1 ?_|((with_reducible apply st_call);exact rfl;exact rfl;exact rfl;first|(exact hs_zero))|((with_reducible apply st_callg);exact rfl;exact rfl;(first|exact rfl|assumption);exact rfl;exact rfl;exact rfl;first|(exact hs_zero)))
    exact ⟨.inr rfl, _, Imp.refl _, .one (.rat rfl rfl (by decide) rfl (by decide) rfl)⟩
  have g0 : decide ((g.n : Int) ≤ a) = false := decide_eq_false a1
  have g1 : (decide ((g.n : Int) ≤ a) == false) = true := by rw [g0]; rfl
  by_cases b1 : (g.n : Int) ≤ b
  · have h0 : decide ((g.n : Int) ≤ b) = true := decide_eq_true b1
    refine run0 ?_
    refine awp_yes rfl h0 ?_
    rw [gat_out (.inr (.inr (.inr b1)))]
    repeat(first|refine run1 ?_|((with_reducible apply st_call);exact rfl;exact rfl;exact rfl;first|(exact hs_zero))|((with_reducible apply st_callg);exact rfl;exact rfl;(first|exact rfl|assumption);exact rfl;exact rfl;exact rfl;first|(exact hs_zero)))
    exact ⟨.inr rfl, _, Imp.refl _, .one (.rat rfl rfl (by decide) rfl (by decide) rfl)⟩
  have h0 : decide ((g.n : Int) ≤ b) = false := decide_eq_false b1
  refine run0 ?_
  refine awp_no rfl h0 ?_
  rw [show gat g a b = gent g a.toNat b.toNat by unfold gat; rw [if_neg (by omega)]]
  refine run0 ?_
  exact ⟨.inr rfl, _, Imp.refl _, .one (.rat rfl rfl (by decide) rfl (by decide) rfl)⟩
theorem r9_disp {g : GD} (h : g.OK) : Has Tryz.prog 27 [g.v] (.mat true g.n (fun _ => g.n) (fun i j => .q (gdis g i j))) := by
  have n8 := h.n8; have n1 := h.n1; have k1 := h.k1; have k7 := h.k7
  have hG := h
  obtain ⟨m1, m2, m3, m4⟩ := ok_lens h
  refine has_of Tryz.func27 (by kernel_rfl) rfl Tryz.ntmps27 Tryz.results27 rfl rfl rfl ?_
  repeat(first|refine run1 ?_|((with_reducible apply st_call);exact rfl;exact rfl;exact rfl;first|(exact Has.ag (g7 rfl rfl rfl rfl rfl rfl rfl) (r5_expand h)))|((with_reducible apply st_callg);exact rfl;exact rfl;(first|exact rfl|assumption);exact rfl;exact rfl;exact rfl;first|(exact Has.ag (g7 rfl rfl rfl rfl rfl rfl rfl) (r5_expand h))))
  refine awp_loop (fun m' s => ∃ r, r ≤ g.n ∧ m' = g.n - r ∧ s = accS 4 (.ones WT r fun i => .row true g.n fun j => .q (gdis g i j)) [(1, .ptr 1 0 0), (3, .mat true g.n (fun _ => g.n) (fun i j => .q (gent g i j))), (5, .i (r : Int))] [(1, (1, fun _ => .ones 26 7 g.f))]) g.n _ (acc_start rfl rfl (by exact ⟨by decide, rfl⟩) rfl (by decide) ?_ ?_) ⟨0, Nat.zero_le _, rfl, rfl⟩ ?_
  · exact eA
  · exact allh rfl (by decide) (bleo rfl fun _ _ => Le.id rfl) (fun i _ => g.fok _ i) True.intro
  · rintro m' s ⟨r, hr, rfl, rfl⟩
    refine run0 ?_
    refine awp_if rfl (fun h => ?_) (fun h => ?_)
    · have h : r < g.n := by omega
      refine run0 ?_
      refine awp_loop (fun m' s => ∃ c, c ≤ g.n ∧ m' = g.n - c ∧ s = accS 6 (.rats c fun j => .q (gdis g r j)) [(1, .ptr 1 0 0), (3, .mat true g.n (fun _ => g.n) (fun i j => .q (gent g i j))), (4, .own 4 0), (5, .i (r : Int)), (7, .i (c : Int))] [(1, (1, fun _ => .ones 26 7 g.f)), (4, (1, fun _ => .ones WT r fun i => .row true g.n fun j => .q (gdis g i j)))]) g.n _ (acc_start rfl rfl (by exact rfl) rfl (by decide) ?_ ?_) ⟨0, Nat.zero_le _, rfl, rfl⟩ ?_
      · exact eA
      · exact allh rfl (by decide) (bleo rfl fun _ _ => Le.id rfl) (fun i _ => g.fok _ i) (allh rfl (by decide) (bleo rfl fun _ _ => Le.id rfl) (fun i _ => True.intro) True.intro)
      · rintro m' s ⟨c, hc, rfl, rfl⟩
        refine run0 ?_
        refine awp_if rfl (fun h1 => ?_) (fun h1 => ?_)
        · have h1 : c < g.n := by omega
          have w0 := gat_wt hG r c; have w1 := gat_wt hG ((r : Int) - 1) ((c : Int) - 1); have w2 := gat_wt hG ((r : Int) - 1) c; have w3 := gat_wt hG r ((c : Int) - 1); have w4 := gat_wt hG r ((c : Int) + 1)
          have cs0 := k_sub (p := gat g r c) (q := gat g ((r : Int) - 1) ((c : Int) - 1)) (by omega) (by omega)
          repeat(first|refine run1 ?_|((with_reducible apply st_call);exact rfl;exact rfl;exact rfl;first|(exact r9_at hG (by omega) (by omega))|(exact cs0))|((with_reducible apply st_callg);exact rfl;exact rfl;(first|exact rfl|assumption);exact rfl;exact rfl;exact rfl;first|(exact r9_at hG (by omega) (by omega))|(exact cs0)))
          refine awp_if rfl (fun h2 => ?_) (fun h2 => ?_)
          · have hk : g.k = 2 := by omega
            have cs : Has Tryz.prog 63 [.q (gat g ((r : Int) - 1) c), .q (gat g r ((c : Int) - 1))] (.q (gdis g r c)) := by
              rw [show gdis g r c = gat g ((r : Int) - 1) c - gat g r ((c : Int) - 1) by unfold gdis; rw [hk]; rfl]
              exact k_sub (by omega) (by omega)
            repeat(first|refine run1 ?_|((with_reducible apply st_call);exact rfl;exact rfl;exact rfl;first|(exact r9_at hG (by omega) (by omega))|(exact cs))|((with_reducible apply st_callg);exact rfl;exact rfl;(first|exact rfl|assumption);exact rfl;exact rfl;exact rfl;first|(exact r9_at hG (by omega) (by omega))|(exact cs)))
            refine q_loop (m' := g.n - (c + 1)) (by omega) (acc_next (a := 89) rfl rfl rfl (glue_one rfl) (by exact True.intro) rfl rfl ?_ ?_) ⟨c + 1, by omega, rfl, rfl⟩
            · refine alle rfl (Le.ptr (s1_ne (by decide))) rfl (alle rfl (Le.eq rfl rfl) True.intro (alle rfl (Le.own (s1_ne (by decide))) rfl (alle rfl (Le.eq rfl rfl) True.intro (alle rfl (Le.eq rfl rfl) True.intro True.intro))))
            · refine allh rfl Nat.zero_lt_one (bleo rfl fun i hi => le_fok g i hi) (fun i _ => g.fok _ i) (allh rfl Nat.zero_lt_one (bleo rfl fun _ _ => Le.eq rfl rfl) (fun _ _ => True.intro) True.intro)
          · refine run0 ?_
            refine awp_if rfl (fun h4 => ?_) (fun h4 => ?_)
            · have hk : g.k = 4 := by omega
              have hl : r < g.la := by omega
              have w5 := hG.sm.A r hl
              have w6 := wt_mul (g.A r) (gat g r c)
              have cm := hs_mul (p := g.A r) (q := gat g r c) (by omega) (by omega)
              have cs : Has Tryz.prog 63 [.q (g.A r * gat g r c), .q (gat g r ((c : Int) + 1))] (.q (gdis g r c)) := by
                rw [show gdis g r c = g.A r * gat g r c - gat g r ((c : Int) + 1) by unfold gdis; rw [hk]; rfl]
                exact k_sub (by omega) (by omega)
              repeat(first|refine run1 ?_|((with_reducible apply st_call);exact rfl;exact rfl;exact rfl;first|(exact r9_at hG (by omega) (by omega))|(exact cm)|(exact cs))|((with_reducible apply st_callg);exact rfl;exact rfl;(first|exact rfl|assumption);exact rfl;exact rfl;exact rfl;first|(exact r9_at hG (by omega) (by omega))|(exact cm)|(exact cs)))
              refine q_loop (m' := g.n - (c + 1)) (by omega) (acc_next (a := 89) rfl rfl rfl (glue_one rfl) (by exact True.intro) rfl rfl ?_ ?_) ⟨c + 1, by omega, rfl, rfl⟩
              · refine alle rfl (Le.ptr (s1_ne (by decide))) rfl (alle rfl (Le.eq rfl rfl) True.intro (alle rfl (Le.own (s1_ne (by decide))) rfl (alle rfl (Le.eq rfl rfl) True.intro (alle rfl (Le.eq rfl rfl) True.intro True.intro))))
              · refine allh rfl Nat.zero_lt_one (bleo rfl fun i hi => le_fok g i hi) (fun i _ => g.fok _ i) (allh rfl Nat.zero_lt_one (bleo rfl fun _ _ => Le.eq rfl rfl) (fun _ _ => True.intro) True.intro)
            · have ap : g.k = 5 ∨ g.k = 7 → wt (g.A r) ≤ 4 ∧ wt (g.B c) ≤ 4 ∧ r < g.la ∧ c < g.lb := fun hk => ⟨hG.sm.A r (by omega), hG.sm.B c (by omega), by omega, by omega⟩
              have w7 := wt_sub (g.A r) (g.B c)
              have cs (hk : g.k = 5 ∨ g.k = 7) : Has Tryz.prog 29 [.q (g.A r - g.B c), .q (gat g r c)] (.q (gdis g r c)) := by
                obtain ⟨a1, a2, _⟩ := ap hk
                rw [show gdis g r c = (g.A r - g.B c) * gat g r c by unfold gdis; rcases hk with hk | hk <;> (rw [hk]; rfl)]
                exact hs_mul (by omega) (by omega)
              refine run0 ?_
              refine awp_if rfl (fun h5 => ?_) (fun h5 => ?_)
              · have hk : g.k = 5 ∨ g.k = 7 := by omega
                obtain ⟨a1, a2, a3, a4⟩ := ap hk
                have cd := k_sub (p := g.A r) (q := g.B c) (by omega) (by omega)
                refine run0 ?_
                refine awp_yes rfl (decide_eq_true h5) ?_
                repeat(first|refine run1 ?_|((with_reducible apply st_call);exact rfl;exact rfl;exact rfl;first|(exact r9_at hG (by omega) (by omega))|(exact cd)|(exact cs hk))|((with_reducible apply st_callg);exact rfl;exact rfl;(first|exact rfl|assumption);exact rfl;exact rfl;exact rfl;first|(exact r9_at hG (by omega) (by omega))|(exact cd)|(exact cs hk)))
                refine q_loop (m' := g.n - (c + 1)) (by omega) (acc_next (a := 89) rfl rfl rfl (glue_one rfl) (by exact True.intro) rfl rfl ?_ ?_) ⟨c + 1, by omega, rfl, rfl⟩
                · refine alle rfl (Le.ptr (s1_ne (by decide))) rfl (alle rfl (Le.eq rfl rfl) True.intro (alle rfl (Le.own (s1_ne (by decide))) rfl (alle rfl (Le.eq rfl rfl) True.intro (alle rfl (Le.eq rfl rfl) True.intro True.intro))))
                · refine allh rfl Nat.zero_lt_one (bleo rfl fun i hi => le_fok g i hi) (fun i _ => g.fok _ i) (allh rfl Nat.zero_lt_one (bleo rfl fun _ _ => Le.eq rfl rfl) (fun _ _ => True.intro) True.intro)
              · refine run0 ?_
                refine awp_if rfl (fun h7 => ?_) (fun h7 => ?_)
                · have hk : g.k = 5 ∨ g.k = 7 := by omega
                  obtain ⟨a1, a2, a3, a4⟩ := ap hk
                  have cd := k_sub (p := g.A r) (q := g.B c) (by omega) (by omega)
                  repeat(first|refine run1 ?_|((with_reducible apply st_call);exact rfl;exact rfl;exact rfl;first|(exact r9_at hG (by omega) (by omega))|(exact cd)|(exact cs hk))|((with_reducible apply st_callg);exact rfl;exact rfl;(first|exact rfl|assumption);exact rfl;exact rfl;exact rfl;first|(exact r9_at hG (by omega) (by omega))|(exact cd)|(exact cs hk)))
                  refine q_loop (m' := g.n - (c + 1)) (by omega) (acc_next (a := 89) rfl rfl rfl (glue_one rfl) (by exact True.intro) rfl rfl ?_ ?_) ⟨c + 1, by omega, rfl, rfl⟩
                  · refine alle rfl (Le.ptr (s1_ne (by decide))) rfl (alle rfl (Le.eq rfl rfl) True.intro (alle rfl (Le.own (s1_ne (by decide))) rfl (alle rfl (Le.eq rfl rfl) True.intro (alle rfl (Le.eq rfl rfl) True.intro True.intro))))
                  · refine allh rfl Nat.zero_lt_one (bleo rfl fun i hi => le_fok g i hi) (fun i _ => g.fok _ i) (allh rfl Nat.zero_lt_one (bleo rfl fun _ _ => Le.eq rfl rfl) (fun _ _ => True.intro) True.intro)
                · have hk : g.k = 1 ∨ g.k = 3 ∨ g.k = 6 := by omega
                  rw [show gat g r c - gat g ((r : Int) - 1) ((c : Int) - 1) = gdis g r c by unfold gdis; rcases hk with hk | hk | hk <;> (rw [hk]; rfl)]
                  refine run0 ?_
                  refine q_loop (m' := g.n - (c + 1)) (by omega) (acc_next (a := 89) rfl rfl rfl (glue_one rfl) (by exact True.intro) rfl rfl ?_ ?_) ⟨c + 1, by omega, rfl, rfl⟩
                  · refine alle rfl (Le.ptr (s1_ne (by decide))) rfl (alle rfl (Le.eq rfl rfl) True.intro (alle rfl (Le.own (s1_ne (by decide))) rfl (alle rfl (Le.eq rfl rfl) True.intro (alle rfl (Le.eq rfl rfl) True.intro True.intro))))
                  · refine allh rfl Nat.zero_lt_one (bleo rfl fun i hi => le_fok g i hi) (fun i _ => g.fok _ i) (allh rfl Nat.zero_lt_one (bleo rfl fun _ _ => Le.eq rfl rfl) (fun _ _ => True.intro) True.intro)
        · have ec : c = g.n := by omega
          subst ec
          refine run0 ?_
          refine q_loop (m' := g.n - (r + 1)) (by omega) (acc_pub (a := 93) (c := 6) rfl rfl rfl (fun i hi => if_pos hi) (by show (if _ then _ else _) = _; rw [if_neg (Nat.lt_irrefl _), Nat.sub_self]; rfl) rfl rfl (fun _ _ => rfl) rfl rfl (fun _ => by exact True.intro) (by decide) rfl rfl ?_ ?_) ⟨r + 1, by omega, rfl, rfl⟩
          · refine alle rfl (Le.ptr (s1_ne (by decide))) rfl (alle rfl (Le.eq rfl rfl) True.intro (alle rfl (Le.eq rfl rfl) True.intro True.intro))
          · exact allh rfl Nat.zero_lt_one (bleo rfl fun i hi => le_fok g i hi) (fun i _ => g.fok _ i) True.intro
    · have er : r = g.n := by omega
      subst er
      refine run0 ?_
      refine ⟨.inr rfl, _, imp_mat 2 (fun _ => g.n) (fun i j => .q (gdis g i j)) rfl rfl rfl (fun _ _ => rfl), ?_⟩
      exact .one (.tmp rfl)
/-- The matrix; nought outside. -/
def gec (g : GD) (i j : Nat) : Rat := if i < g.n ∧ j < g.n then gent g i j else 0
theorem gec_in {g : GD} {i j : Nat} (hi : i < g.n) (hj : j < g.n) : gec g i j = gent g i j := if_pos ⟨hi, hj⟩
theorem gec_wt {g : GD} (h : g.OK) (i j : Nat) : Wt (gec g i j) 300 := by
  unfold gec
  split
  · exact ⟨gent_wt h (by omega) (by omega)⟩
  · exact ⟨by decide⟩
theorem Has.gec {P : Program} {f : FuncId} {g : GD} {xs : List AV} {r : AV} (H : Has P f (.mat false g.n (fun _ => g.n) (fun i j => .q (gec g i j)) :: xs) r) : Has P f (.mat false g.n (fun _ => g.n) (fun i j => .q (gent g i j)) :: xs) r :=
  Has.args H fun S B β w vs hv => rvs_cons (rv_mat fun i hi j hj => by rw [gec_in hi hj]) rvs_same hv
theorem fs_apply {g : GD} {v : Nat → Rat} {n : Nat} (h : g.OK) (hv : ∀ i, Wt (v i) 200) (hn : n ≤ 1000) : Has Tryz.prog 17 [g.v, .row false n (fun i => .q (v i))] (if n = g.n then .tup (.row true g.n fun i => .q (S g.n fun j => gec g i j * v j)) (.i 0) else .tup (.v (.slice none 0 0)) (.i 3)) := by
  have n8 := h.n8; have n1 := h.n1
  have he := gec_wt h
  by_cases hl : n = g.n
  · rw [if_pos hl]
    subst hl
    refine has_of Tryz.func17 (by kernel_rfl) rfl Tryz.ntmps17 Tryz.results17 rfl rfl rfl ?_
    refine run0 ?_
    refine awp_no rfl (decide_eq_false fun e => e rfl) ?_
    repeat(first|refine run1 ?_|((with_reducible apply st_call);exact rfl;exact rfl;exact rfl;first|(exact Has.ag (g7 rfl rfl rfl rfl rfl rfl rfl) (ge_expand h)))|((with_reducible apply st_callg);exact rfl;exact rfl;(first|exact rfl|assumption);exact rfl;exact rfl;exact rfl;first|(exact Has.ag (g7 rfl rfl rfl rfl rfl rfl rfl) (ge_expand h))))
    refine st_eqnil rfl rfl rfl n1 ?_
    refine run0 ?_
    refine awp_no rfl rfl ?_
    repeat(first|refine run1 ?_|((with_reducible apply st_call);exact rfl;exact rfl;exact rfl;first|(exact Has.gec (d_apply (hf := he) (hv := hv) (by decide) (by decide) n1 n8)))|((with_reducible apply st_callg);exact rfl;exact rfl;(first|exact rfl|assumption);exact rfl;exact rfl;exact rfl;first|(exact Has.gec (d_apply (hf := he) (hv := hv) (by decide) (by decide) n1 n8))))
    exact ⟨.inr rfl, _, Imp.refl _, .two (.tmp rfl) (.tmp rfl)⟩
  · rw [if_neg hl]
    refine has_of Tryz.func17 (by kernel_rfl) rfl Tryz.ntmps17 Tryz.results17 rfl rfl rfl ?_
    refine run0 ?_
    refine awp_yes rfl (decide_eq_true fun e => hl (by omega)) ?_
    refine run0 ?_
    exact ⟨.inr rfl, _, Imp.refl _, .two (.tmp rfl) (.tmp rfl)⟩
theorem r9_apply {g : GD} {v : Nat → Rat} {n : Nat} (h : g.OK) (hv : ∀ i, Wt (v i) 200) (hn : n ≤ 1000) : Has Tryz.prog 18 [g.v, .row false n (fun i => .q (v i))] (if n = g.n then .tup (.row true g.n fun i => .q (S g.n fun j => gec g i j * v j)) (.i 0) else .tup (.v (.slice none 0 0)) (.i 3)) := by
  have n8 := h.n8; have n1 := h.n1
  have he := gec_wt h
  by_cases hl : n = g.n
  · rw [if_pos hl]
    subst hl
    have hK : g.n * (300 + 200 + 1) + 1 ≤ 15000 ∧ 300 + 200 ≤ 15000 := by
      have := Nat.mul_le_mul_right (300 + 200 + 1) n8
      omega
    refine has_of Tryz.func18 (by kernel_rfl) rfl Tryz.ntmps18 Tryz.results18 rfl rfl rfl ?_
    refine run0 ?_
    refine awp_no rfl (decide_eq_false fun e => e rfl) ?_
    repeat(first|refine run1 ?_|((with_reducible apply st_call);exact rfl;exact rfl;exact rfl;first|(exact Has.ag (g7 rfl rfl rfl rfl rfl rfl rfl) (r5_expand h))|(exact Has.gec (r7_apply (hf := he) (hv := hv) hK n8 n8)))|((with_reducible apply st_callg);exact rfl;exact rfl;(first|exact rfl|assumption);exact rfl;exact rfl;exact rfl;first|(exact Has.ag (g7 rfl rfl rfl rfl rfl rfl rfl) (r5_expand h))|(exact Has.gec (r7_apply (hf := he) (hv := hv) hK n8 n8))))
    exact ⟨.inr rfl, _, Imp.refl _, .two (.tmp rfl) (.tmp rfl)⟩
  · rw [if_neg hl]
    refine has_of Tryz.func18 (by kernel_rfl) rfl Tryz.ntmps18 Tryz.results18 rfl rfl rfl ?_
    refine run0 ?_
    refine awp_yes rfl (decide_eq_true fun e => hl (by omega)) ?_
    refine run0 ?_
    exact ⟨.inr rfl, _, Imp.refl _, .two (.tmp rfl) (.tmp rfl)⟩
end Go.Proofs.YtdnmoggifjlbiaaGreat.AM
/- Numbers from 0 to n - 1, in each package of laws. -/
namespace Go.Proofs.YtdnmoggifjlbiaaGreat.AM
open Go Go.RowKit Go.Proofs.YtdnmoggifjlbiaaGreat.PN Go.Proofs.YtdnmoggifjlbiaaGreat.V
set_option linter.unusedVariables false
set_option linter.unusedSimpArgs false
theorem k_within9 {a n : Int} (hn : 0 < n) (hn' : n < 1000000000) : Has Tryz.prog 16 [.i a, .i n] (.i (wthn a n)) := by
  refine has_of Tryz.func16 (by kernel_rfl) rfl Tryz.ntmps16 Tryz.results16 rfl rfl rfl ?_
  have h1 := Int.tmod_lt_of_pos a hn
  have h2 : -n < a.tmod n := Int.lt_tmod_of_pos a hn
  refine run0 ?_
  refine awp_if rfl (fun h => ?_) (fun h => ?_)
  · have e : wthn a n = a.tmod n + n := if_pos h
    rw [e]
    refine run0 ?_
    refine ⟨.inr rfl, _, Imp.refl _, ?_⟩
    exact .one (.tmp rfl)
  · have e : wthn a n = a.tmod n := if_neg h
    rw [e]
    refine run0 ?_
    refine ⟨.inr rfl, _, Imp.refl _, ?_⟩
    exact .one (.tmp rfl)
theorem k_within10 {a n : Int} (hn : 0 < n) (hn' : n < 1000000000) : Has Tryz.prog 114 [.i a, .i n] (.i (wthn a n)) := by
  refine has_of Tryz.func114 (by kernel_rfl) rfl Tryz.ntmps114 Tryz.results114 rfl rfl rfl ?_
  have h1 := Int.tmod_lt_of_pos a hn
  have h2 : -n < a.tmod n := Int.lt_tmod_of_pos a hn
  refine run0 ?_
  refine awp_if rfl (fun h => ?_) (fun h => ?_)
  · have e : wthn a n = a.tmod n + n := if_pos h
    rw [e]
    refine run0 ?_
    refine ⟨.inr rfl, _, Imp.refl _, ?_⟩
    exact .one (.tmp rfl)
  · have e : wthn a n = a.tmod n := if_neg h
    rw [e]
    refine run0 ?_
    refine ⟨.inr rfl, _, Imp.refl _, ?_⟩
    exact .one (.tmp rfl)
theorem k_within12 {a n : Int} (hn : 0 < n) (hn' : n < 1000000000) : Has Tryz.prog 41 [.i a, .i n] (.i (wthn a n)) := by
  refine has_of Tryz.func41 (by kernel_rfl) rfl Tryz.ntmps41 Tryz.results41 rfl rfl rfl ?_
  have h1 := Int.tmod_lt_of_pos a hn
  have h2 : -n < a.tmod n := Int.lt_tmod_of_pos a hn
  refine run0 ?_
  refine awp_if rfl (fun h => ?_) (fun h => ?_)
  · have e : wthn a n = a.tmod n + n := if_pos h
    rw [e]
    refine run0 ?_
    refine ⟨.inr rfl, _, Imp.refl _, ?_⟩
    exact .one (.tmp rfl)
  · have e : wthn a n = a.tmod n := if_neg h
    rw [e]
    refine run0 ?_
    refine ⟨.inr rfl, _, Imp.refl _, ?_⟩
    exact .one (.tmp rfl)
end Go.Proofs.YtdnmoggifjlbiaaGreat.AM
/- Rows that are the same: the rest. -/
namespace Go.Proofs.YtdnmoggifjlbiaaGreat.AM
open Go Go.RowKit Go.Proofs.YtdnmoggifjlbiaaGreat.PN Go.Proofs.YtdnmoggifjlbiaaGreat.V
open Go.Proofs.YtdnmoggifjlbiaaGreat.LA (S S_succ S_zero S_congr)
set_option linter.unusedVariables false
set_option linter.unusedSimpArgs false
set_option maxRecDepth 4000
set_option maxHeartbeats 4000000
theorem k_rowsb {n K : Nat} {f g : Nat → Rat} (hf : ∀ i, i < n → Wt (f i) K) (hK1 : 1 ≤ K) (hK : K ≤ 1000000000000) (hn : n ≤ 1000) (h : ∀ i, i < n → f i = g i) : Has Tryz.prog 19 [.row false n (fun i => .q (f i)), .row false n (fun i => .q (g i))] (.b true) := by
  have w : ∀ i, Wt (if i < n then f i else 0) K := fun i => by
    split
    · rename_i h; exact hf i h
    · exact (inferInstance : Wt 0 1).mono hK1
  refine Has.args (k_rows (f := fun i => if i < n then f i else 0) (g := fun i => if i < n then f i else 0) (hf := w) hK hn (fun _ _ => rfl)) fun S B β w vs hv => rvs_cons (rv_row fun i hi => ?_) (fun us hu => rvs_cons (rv_row fun i hi => ?_) (fun us hu => hu) hu) hv
  · rw [if_pos hi]
  · rw [if_pos hi, h i hi]
end Go.Proofs.YtdnmoggifjlbiaaGreat.AM
/- Limbs: two slices are alike. -/
namespace Go.Proofs.YtdnmoggifjlbiaaGreat.V
open Go Go.RowKit Go.Proofs.YtdnmoggifjlbiaaGreat.PN
set_option linter.unusedVariables false
set_option linter.unusedSimpArgs false
end Go.Proofs.YtdnmoggifjlbiaaGreat.V
/- Package gen: two systems are alike; one entry. -/
namespace Go.Proofs.YtdnmoggifjlbiaaGreat.AM
open Go Go.RowKit Go.Proofs.YtdnmoggifjlbiaaGreat.PN Go.Proofs.YtdnmoggifjlbiaaGreat.V
open Go.Proofs.YtdnmoggifjlbiaaGreat.LA (S S_succ S_zero S_congr)
set_option linter.unusedVariables false
set_option linter.unusedSimpArgs false
set_option maxRecDepth 8000
set_option maxHeartbeats 8000000
theorem two2 {f f' : Nat → AV} (h0 : f 0 = f' 0) (h1 : f 1 = f' 1) : ∀ i, i < 2 → f i = f' i := fun i hi => by
  match i, hi with
  | 0, _ => exact h0
  | 1, _ => exact h1
theorem st_buildg {ops : Array Oper} {l : List Oper} {s : St} {acc : List Fp} {K : St → List Fp → Prop} {c : Prop} {d : Option Tmp} {r : Option AV} {upd : List (Nat × Option Fam)} {rd : List Nat} {ty : TypeId} {ps : String} {aft : Array Edge} {T : TypeId} {parts : Array (Nat × Operand)} {j : Nat} {want b : Bool} {t : Tmp} (ht : (ops[j]?).bind (·.dst) = some t) (he : s.env t = some (.v (.bool b))) (hb : (b == want) = true)
    (h : evBuild s T parts.toList = some (⟨r, upd, rd⟩, c)) (hc : c) (k : AOps Tryz.prog ops l (nxt s d r upd) ((rd, upd.map (·.1)) :: acc) K) : AOps Tryz.prog ops (⟨d, .build T parts, ty, ps, aft, some (j, want)⟩ :: l) s acc K :=
  .cons _ (.inl ⟨hb ▸ .some j want t b rfl ht he, evBuild_ok rfl h hc⟩) k
end Go.Proofs.YtdnmoggifjlbiaaGreat.AM
/- Laws of systems: GenEntries. -/
namespace Go.Proofs.YtdnmoggifjlbiaaGreat.AM
open Go Go.RowKit Go.Proofs.YtdnmoggifjlbiaaGreat.PN Go.Proofs.YtdnmoggifjlbiaaGreat.V
open Go.Proofs.YtdnmoggifjlbiaaGreat.LA (S S_succ S_zero S_congr)
set_option linter.unusedVariables false
set_option linter.unusedSimpArgs false
set_option maxRecDepth 8000
set_option maxHeartbeats 8000000
theorem Has.ag2 {P : Program} {f : FuncId} {n : Nat} {u u' v v' : Nat → AV} {r : AV} (h : ∀ i, i < n → u i = u' i) (h' : ∀ i, i < n → v i = v' i) (H : Has P f [.ag n u', .ag n v'] r) : Has P f [.ag n u, .ag n v] r :=
  Has.args H fun S B β w vs hv => rvs_cons (rv_ag h) (fun us hu => rvs_cons (rv_ag h') rvs_same hu) hv
theorem k_allb {n m : Nat} {F G : Nat → Nat → Rat} (hf : ∀ i, i < n → ∀ j, j < m → wt (F i j) ≤ 300) (hn : n ≤ 1000) (hm : m ≤ 1000) (h : ∀ i, i < n → ∀ j, j < m → F i j = G i j) : Has Tryz.prog 26 [.mat false n (fun _ => m) (fun i j => .q (F i j)), .mat false n (fun _ => m) (fun i j => .q (G i j))] (.b true) := by
  refine has_of Tryz.func26 (by kernel_rfl) rfl Tryz.ntmps26 Tryz.results26 rfl rfl rfl ?_
  refine run0 ?_
  refine awp_no rfl (decide_eq_false (fun h => h rfl)) ?_
  refine run0 ?_
  refine awp_loop (fun m' s => ∃ k, k ≤ n ∧ m' = n - k ∧ s = stl [(0, .mat false n (fun _ => m) (fun i j => .q (F i j))), (1, .mat false n (fun _ => m) (fun i j => .q (G i j))), (5, .i (k : Int))] []) n _ (imp_id ?_ ?_) ⟨0, Nat.zero_le _, rfl, rfl⟩ ?_
  · exact eA
  · exact hA
  · rintro m' s ⟨k, hk, rfl, rfl⟩
    refine run0 ?_
    refine awp_if rfl (fun h1 => ?_) (fun h1 => ?_)
    · have h1 : k < n := by omega
      repeat(first|refine run1 ?_|((with_reducible apply st_call);exact rfl;exact rfl;exact rfl;first|(exact k_rowsb (K := 300) (fun i hi => ⟨hf k h1 i hi⟩) (by decide) (by decide) hm (h k h1)))|((with_reducible apply st_callg);exact rfl;exact rfl;(first|exact rfl|assumption);exact rfl;exact rfl;exact rfl;first|(exact k_rowsb (K := 300) (fun i hi => ⟨hf k h1 i hi⟩) (by decide) (by decide) hm (h k h1))))
      refine awp_no rfl rfl ?_
      refine run0 ?_
      refine q_loop ?_ (imp_id ?_ ?_) ⟨k + 1, ?_, rfl, rfl⟩
      · omega
      · exact eA
      · exact hA
      · omega
    · refine run0 ?_
      refine ⟨.inr rfl, _, Imp.refl _, ?_⟩
      exact .one (.tmp rfl)
end Go.Proofs.YtdnmoggifjlbiaaGreat.AM
/- Laws of matrices that are applied: what is known; FastApplies, FastDisp, FastRounds. -/
namespace Go.Proofs.YtdnmoggifjlbiaaGreat.AM
open Go Go.RowKit Go.Proofs.YtdnmoggifjlbiaaGreat.PN Go.Proofs.YtdnmoggifjlbiaaGreat.V
open Go.Proofs.YtdnmoggifjlbiaaGreat.LA (S S_succ S_zero S_congr)
set_option linter.unusedVariables false
set_option linter.unusedSimpArgs false
set_option maxRecDepth 8000
set_option maxHeartbeats 8000000
inductive RowC : AV → Nat → (Nat → Rat) → Prop
  | nil {f : Nat → Rat} : RowC (.v (.slice none 0 0)) 0 f
  | row {n : Nat} {q : Nat → RA} {f : Nat → Rat} (h : ∀ i, i < n → q i = .q (f i)) : RowC (.row false n q) n f
theorem RowC.nil' {x : AV} {f : Nat → Rat} (h : x = .v (.slice none 0 0)) : RowC x 0 f := by rw [h]; exact .nil
theorem RowC.row' {x : AV} {n : Nat} {q : Nat → RA} {f : Nat → Rat} (h : x = .row false n q) (k : ∀ i, i < n → q i = .q (f i)) : RowC x n f := by rw [h]; exact .row k
theorem RowC.one {x : AV} {q : Nat → RA} {f : Nat → Rat} (h : x = .row false 1 q) (k : q 0 = .q (f 0)) : RowC x 1 f := .row' h fun i hi => by
  obtain rfl : i = 0 := by omega
  exact k
theorem RowC.rv {x : AV} {n : Nat} {f : Nat → Rat} (h : RowC x n f) {S : Nat → Prop} {B : Nat} {β : Nat → Nat → Value} {w : World} (v : Value) (hv : RV S B β w x v) : RV S B β w (.row false n fun i => .q (f i)) v := by
  cases h with
  | nil => exact rv_nil0 v hv
  | row h => exact rv_row h v hv
theorem gd_args {g : GD} {S : Nat → Prop} {B : Nat} {β : Nat → Nat → Value} {w : World} {u : Nat → AV} (h0 : u 0 = .i g.k) (h1 : u 1 = .i g.n) (h2 : u 2 = .i g.r) (h3 : RowC (u 3) g.la g.A) (h4 : RowC (u 4) g.lb g.B) (h5 : RowC (u 5) g.lg g.G) (h6 : RowC (u 6) g.lh g.H) : ∀ i, i < 7 → ∀ v, RV S B β w (u i) v → RV S B β w (g.f i) v := by
  intro i hi v hv
  match i, hi with
  | 0, _ => rw [h0] at hv; exact hv
  | 1, _ => rw [h1] at hv; exact hv
  | 2, _ => rw [h2] at hv; exact hv
  | 3, _ => exact h3.rv v hv
  | 4, _ => exact h4.rv v hv
  | 5, _ => exact h5.rv v hv
  | 6, _ => exact h6.rv v hv
def kg9 : GD := ⟨5, 1, 0, 1, 1, 0, 0, fun _ => 3, fun _ => 1, fun _ => 0, fun _ => 0⟩
theorem kg9_ok : kg9.OK := by
  refine ⟨by decide, by decide, by decide, by decide, by decide, fun h => (by cases h), fun _ => rfl, ?_, ⟨fun i _ => by show wt 3 ≤ 4; decide, fun i _ => by show wt 1 ≤ 4; decide, fun i hi => absurd hi (Nat.not_lt_zero _), fun i hi => absurd hi (Nat.not_lt_zero _)⟩, fun i hi j hj => by show (3 : Rat) ≠ 1; decide⟩
  intro i hi
  have hi4 : i = 0 ∨ i = 1 ∨ i = 2 ∨ i = 3 := by omega
  rcases hi4 with rfl | rfl | rfl | rfl <;> decide
theorem k_rows00 : Has Tryz.prog 19 [.v (.slice none 0 0), .v (.slice none 0 0)] (.b true) :=
  Has.args (k_rowsb (n := 0) (K := 1) (f := fun _ => 0) (g := fun _ => 0) (fun i hi => absurd hi (Nat.not_lt_zero _)) (by decide) (by decide) (by decide) fun i hi => absurd hi (Nat.not_lt_zero _)) fun S B β w vs hv => rvs_cons rv_nil0 (fun us hu => rvs_cons rv_nil0 (fun us hu => hu) hu) hv
theorem has_nil1 {P : Program} {f : FuncId} {x r : AV} {q : Nat → RA} (H : Has P f [x, .row false 0 q] r) : Has P f [x, .v (.slice none 0 0)] r :=
  Has.args H fun S B β w vs hv => rvs_cons (fun v hv => hv) (fun us hu => rvs_cons rv_nil0 (fun us hu => hu) hu) hv
theorem k_known9 : Has Tryz.prog 13 [] (.b true) := by
  have e1 : gdis kg9 0 0 = 1 := by decide +kernel
  have cs := hs_same (p := gdis kg9 0 0) (q := 1) (by rw [e1]; decide) (by decide)
  rw [decide_eq_true e1] at cs
  have cd : Has Tryz.prog 25 [kg9.v] (.mat true 1 (fun _ => 1) (fun i j => .q (gdis kg9 i j))) := fs_disp kg9_ok
  have c3 := hs_int 3 (by decide) (by decide)
  have c1 := hs_int 1 (by decide) (by decide)
  have ca := fs_apply (g := kg9) (v := fun _ => 0) (n := 0) kg9_ok (fun i => ⟨by decide⟩) (by decide)
  rw [if_neg (show ¬ (0 = kg9.n) from by decide)] at ca
  refine has_of Tryz.func13 (by kernel_rfl) rfl Tryz.ntmps13 Tryz.results13 rfl rfl rfl ?_
  repeat(first|refine run1p ?_|((with_reducible apply st_call);exact rfl;exact rfl;exact rfl;first|(exact c3)|(exact c1))|((with_reducible apply st_callg);exact rfl;exact rfl;(first|exact rfl|assumption);exact rfl;exact rfl;exact rfl;first|(exact c3)|(exact c1)))
  repeat(first|refine run1p ?_|((with_reducible apply st_call);exact rfl;exact rfl;exact rfl;first|(exact Has.agv (fun S B β w => gd_args (g := kg9) rfl rfl rfl (.one rfl rfl) (.one rfl rfl) (.nil' rfl) (.nil' rfl)) cd)|(exact Has.agv (fun S B β w => gd_args (g := kg9) rfl rfl rfl (.one rfl rfl) (.one rfl rfl) (.nil' rfl) (.nil' rfl)) (has_nil1 ca))|(exact c1)|(exact cs))|((with_reducible apply st_callg);exact rfl;exact rfl;(first|exact rfl|assumption);exact rfl;exact rfl;exact rfl;first|(exact Has.agv (fun S B β w => gd_args (g := kg9) rfl rfl rfl (.one rfl rfl) (.one rfl rfl) (.nil' rfl) (.nil' rfl)) cd)|(exact Has.agv (fun S B β w => gd_args (g := kg9) rfl rfl rfl (.one rfl rfl) (.one rfl rfl) (.nil' rfl) (.nil' rfl)) (has_nil1 ca))|(exact c1)|(exact cs)))
  refine ⟨.inr rfl, _, Imp.refl _, .one (.tmp ?_)⟩
  rfl
theorem app_wt {g : GD} (h : g.OK) {v : Nat → Rat} {L : Nat} (hL : L ≤ 200) (hv : ∀ i, Wt (v i) L) (i : Nat) : wt (S g.n fun j => gec g i j * v j) ≤ 5000 := by
  have n8 := h.n8
  have := wt_sum (n := g.n) (K := 500) (f := fun j => gec g i j * v j) fun u _ => by
    have h1 := wt_mul (gec g i u) (v u); have h2 := (gec_wt h i u).le; have h3 := (hv u).le
    omega
  have h4 := Nat.mul_le_mul_right (500 + 1) n8
  omega
theorem k_applies {kind n size : Int} {ns vs : List Int} (hk : Fits .i64 kind) (hn : Fits .i64 n) (hz : AllFit ns) (hv : AllFit vs) (hs : Fits .i64 size) : Has Tryz.prog 3 [.i kind, .i n, .seq .i64 ns, .seq .i64 vs, .i size] (.b true) := by
  have m := k_mk (kind := kind) (n := n) (most := 8) (zs := ns) hk hn hz (by decide) (by decide)
  have o := mkg_ok (kind := kind) (n := n) (zs := ns) (most := 8) (by decide) (by decide)
  generalize mkg kind n ns 8 = g at *
  have n8 := o.n8; have n1 := o.n1
  have hv1 : ∀ i, Wt (rowq vs i) 200 := fun i => ⟨by have := (rowq_wt vs i).le; omega⟩
  obtain ⟨t1, t2⟩ := wthn_lt (a := size.tdiv 5) (n := 10) (by decide)
  obtain ⟨L, hL⟩ : ∃ L : Nat, wthn (size.tdiv 5) 10 = L := ⟨(wthn (size.tdiv 5) 10).toNat, by omega⟩
  have cw := k_within9 (a := size.tdiv 5) (n := 10) (by decide) (by decide)
  rw [hL] at cw
  have hS : -9223372036854775808 ≤ size ∧ size ≤ 9223372036854775807 := hs
  obtain ⟨h5a, h5b⟩ : -9223372036854775808 ≤ size.tdiv 5 ∧ size.tdiv 5 ≤ 9223372036854775807 := by
    have e1 : (size.tdiv 5).natAbs = size.natAbs / 5 := Int.natAbs_tdiv size 5
    omega
  have rows : Has Tryz.prog 19 [.row false g.n (fun i => .q (S g.n fun j => gec g i j * rowq vs j)), .row false g.n (fun i => .q (S g.n fun j => gec g i j * rowq vs j))] (.b true) :=
    k_rowsb (K := 5000) (fun i _ => ⟨app_wt o (L := 200) (by decide) hv1 i⟩) (by decide) (by decide) (by omega) fun _ _ => rfl
  refine has_of Tryz.func3 (by kernel_rfl) rfl Tryz.ntmps3 Tryz.results3 rfl rfl rfl ?_
  repeat(first|refine run1p ?_|((with_reducible apply st_call);exact rfl;exact rfl;exact rfl;first|(exact k_known9))|((with_reducible apply st_callg);exact rfl;exact rfl;(first|exact rfl|assumption);exact rfl;exact rfl;exact rfl;first|(exact k_known9)))
  refine awp_no rfl rfl ?_
  repeat(first|refine run1p ?_|((with_reducible apply st_call);exact rfl;exact rfl;exact rfl;first|(exact m)|(exact k_row (by omega) hv)|(exact k_within9 (by decide) (by decide)))|((with_reducible apply st_callg);exact rfl;exact rfl;(first|exact rfl|assumption);exact rfl;exact rfl;exact rfl;first|(exact m)|(exact k_row (by omega) hv)|(exact k_within9 (by decide) (by decide))))
  have fin : ∀ k, k < 11 → Has Tryz.prog 17 [g.v, .row false k (fun i => .q (rowq vs i))] (if k = g.n then .tup (.row true g.n fun i => .q (S g.n fun j => gec g i j * rowq vs j)) (.i 0) else .tup (.v (.slice none 0 0)) (.i 3)) ∧ Has Tryz.prog 18 [g.v, .row false k (fun i => .q (rowq vs i))] (if k = g.n then .tup (.row true g.n fun i => .q (S g.n fun j => gec g i j * rowq vs j)) (.i 0) else .tup (.v (.slice none 0 0)) (.i 3)) := fun k hk =>
    ⟨fs_apply o hv1 (by omega), r9_apply o hv1 (by omega)⟩
  refine awp_if rfl (fun h => ?_) (fun h => ?_)
  · repeat(first|refine run1p ?_|((with_reducible apply st_call);exact rfl;exact rfl;exact rfl;first|(exact cw)|(exact k_row (by omega) hv))|((with_reducible apply st_callg);exact rfl;exact rfl;(first|exact rfl|assumption);exact rfl;exact rfl;exact rfl;first|(exact cw)|(exact k_row (by omega) hv)))
    obtain ⟨ca, cb⟩ := fin L (by omega)
    by_cases e : L = g.n
    · rw [if_pos e] at ca cb
      repeat(first|refine run1p ?_|((with_reducible apply st_call);exact rfl;exact rfl;exact rfl;first|(exact Has.ag (u' := g.f) (g7 rfl rfl rfl rfl rfl rfl rfl) ca)|(exact Has.ag (u' := g.f) (g7 rfl rfl rfl rfl rfl rfl rfl) cb)|(exact rows))|((with_reducible apply st_callg);exact rfl;exact rfl;(first|exact rfl|assumption);exact rfl;exact rfl;exact rfl;first|(exact Has.ag (u' := g.f) (g7 rfl rfl rfl rfl rfl rfl rfl) ca)|(exact Has.ag (u' := g.f) (g7 rfl rfl rfl rfl rfl rfl rfl) cb)|(exact rows)))
      exact ⟨.inr rfl, _, Imp.refl _, .one (.tmp rfl)⟩
    · rw [if_neg e] at ca cb
      repeat(first|refine run1p ?_|((with_reducible apply st_call);exact rfl;exact rfl;exact rfl;first|(exact Has.ag (u' := g.f) (g7 rfl rfl rfl rfl rfl rfl rfl) ca)|(exact Has.ag (u' := g.f) (g7 rfl rfl rfl rfl rfl rfl rfl) cb)|(exact k_rows00))|((with_reducible apply st_callg);exact rfl;exact rfl;(first|exact rfl|assumption);exact rfl;exact rfl;exact rfl;first|(exact Has.ag (u' := g.f) (g7 rfl rfl rfl rfl rfl rfl rfl) ca)|(exact Has.ag (u' := g.f) (g7 rfl rfl rfl rfl rfl rfl rfl) cb)|(exact k_rows00)))
      exact ⟨.inr rfl, _, Imp.refl _, .one (.tmp rfl)⟩
  · obtain ⟨ca, cb⟩ := fin g.n (by omega)
    rw [if_pos rfl] at ca cb
    repeat(first|refine run1p ?_|((with_reducible apply st_call);exact rfl;exact rfl;exact rfl;first|(exact Has.ag (u' := g.f) (g7 rfl rfl rfl rfl rfl rfl rfl) ca)|(exact Has.ag (u' := g.f) (g7 rfl rfl rfl rfl rfl rfl rfl) cb)|(exact rows))|((with_reducible apply st_callg);exact rfl;exact rfl;(first|exact rfl|assumption);exact rfl;exact rfl;exact rfl;first|(exact Has.ag (u' := g.f) (g7 rfl rfl rfl rfl rfl rfl rfl) ca)|(exact Has.ag (u' := g.f) (g7 rfl rfl rfl rfl rfl rfl rfl) cb)|(exact rows)))
    exact ⟨.inr rfl, _, Imp.refl _, .one (.tmp rfl)⟩
theorem gdis_wt {g : GD} (h : g.OK) {i j : Nat} (hi : i < g.n) (hj : j < g.n) : wt (gdis g i j) ≤ 700 := by
  have k1 := h.k1; have k7 := h.k7
  obtain ⟨m1, m2, m3, m4⟩ := ok_lens h
  have hb := gat_wt h
  have hsub : wt (gat g i j - gat g ((i : Int) - 1) ((j : Int) - 1)) ≤ 700 := by
    have a := hb i j; have b := hb ((i : Int) - 1) ((j : Int) - 1); have c := wt_sub (gat g i j) (gat g ((i : Int) - 1) ((j : Int) - 1))
    omega
  have hk : g.k = 1 ∨ g.k = 2 ∨ g.k = 3 ∨ g.k = 4 ∨ g.k = 5 ∨ g.k = 6 ∨ g.k = 7 := by omega
  have hap : g.k = 5 ∨ g.k = 7 → wt ((g.A i - g.B j) * gat g i j) ≤ 700 := fun hk => by
    have hA := h.sm.A i (by omega); have hB := h.sm.B j (by omega); have a := hb i j
    have c := wt_mul (g.A i - g.B j) (gat g i j); have d := wt_sub (g.A i) (g.B j)
    omega
  unfold gdis
  rcases hk with hk | hk | hk | hk | hk | hk | hk
  · rw [hk]; exact hsub
  · have a := hb ((i : Int) - 1) j; have b := hb i ((j : Int) - 1); have c := wt_sub (gat g ((i : Int) - 1) j) (gat g i ((j : Int) - 1))
    rw [hk]; show wt (gat g ((i : Int) - 1) j - gat g i ((j : Int) - 1)) ≤ 700; omega
  · rw [hk]; exact hsub
  · have hA := h.sm.A i (by omega); have a := hb i j; have b := hb i ((j : Int) + 1)
    have c := wt_sub (g.A i * gat g i j) (gat g i ((j : Int) + 1)); have d := wt_mul (g.A i) (gat g i j)
    rw [hk]; show wt (g.A i * gat g i j - gat g i ((j : Int) + 1)) ≤ 700; omega
  · rw [hk]; exact hap (.inl hk)
  · rw [hk]; exact hsub
  · rw [hk]; exact hap (.inr hk)
theorem k_allk {n m K : Nat} {F G : Nat → Nat → Rat} (hf : ∀ i, i < n → ∀ j, j < m → wt (F i j) ≤ K) (hK1 : 1 ≤ K) (hK : K ≤ 1000000000000) (hn : n ≤ 1000) (hm : m ≤ 1000) (h : ∀ i, i < n → ∀ j, j < m → F i j = G i j) : Has Tryz.prog 26 [.mat false n (fun _ => m) (fun i j => .q (F i j)), .mat false n (fun _ => m) (fun i j => .q (G i j))] (.b true) := by
  refine has_of Tryz.func26 (by kernel_rfl) rfl Tryz.ntmps26 Tryz.results26 rfl rfl rfl ?_
  refine run0 ?_
  refine awp_no rfl (decide_eq_false (fun h => h rfl)) ?_
  refine run0 ?_
  refine awp_loop (fun m' s => ∃ k, k ≤ n ∧ m' = n - k ∧ s = stl [(0, .mat false n (fun _ => m) (fun i j => .q (F i j))), (1, .mat false n (fun _ => m) (fun i j => .q (G i j))), (5, .i (k : Int))] []) n _ (imp_id ?_ ?_) ⟨0, Nat.zero_le _, rfl, rfl⟩ ?_
  · exact eA
  · exact hA
  · rintro m' s ⟨k, hk, rfl, rfl⟩
    refine run0 ?_
    refine awp_if rfl (fun h1 => ?_) (fun h1 => ?_)
    · have h1 : k < n := by omega
      repeat(first|refine run1 ?_|((with_reducible apply st_call);exact rfl;exact rfl;exact rfl;first|(exact k_rowsb (K := K) (fun i hi => ⟨hf k h1 i hi⟩) hK1 hK hm (h k h1)))|((with_reducible apply st_callg);exact rfl;exact rfl;(first|exact rfl|assumption);exact rfl;exact rfl;exact rfl;first|(exact k_rowsb (K := K) (fun i hi => ⟨hf k h1 i hi⟩) hK1 hK hm (h k h1))))
      refine awp_no rfl rfl ?_
      refine run0 ?_
      refine q_loop ?_ (imp_id ?_ ?_) ⟨k + 1, ?_, rfl, rfl⟩
      · omega
      · exact eA
      · exact hA
      · omega
    · refine run0 ?_
      refine ⟨.inr rfl, _, Imp.refl _, ?_⟩
      exact .one (.tmp rfl)
theorem Has.gdc {P : Program} {f : FuncId} {g : GD} {xs : List AV} {r : AV} (H : Has P f (.mat false g.n (fun _ => g.n) (fun i j => .q (gdc g i j)) :: xs) r) : Has P f (.mat false g.n (fun _ => g.n) (fun i j => .q (gdis g i j)) :: xs) r :=
  Has.args H fun S B β w vs hv => rvs_cons (rv_mat fun i hi j hj => by rw [gdc_in hi hj]) rvs_same hv
theorem dmost_at {g : GD} (h : g.OK) : ([0, 2, 2, 2, 1, 1, (g.r : Int), (g.r : Int)] : List Int).getD ((g.k : Int).toNat) 0 = (dmost g : Int) := by
  have k1 := h.k1; have k7 := h.k7
  have hk : g.k = 1 ∨ g.k = 2 ∨ g.k = 3 ∨ g.k = 4 ∨ g.k = 5 ∨ g.k = 6 ∨ g.k = 7 := by omega
  unfold dmost
  rcases hk with hk | hk | hk | hk | hk | hk | hk <;> (rw [hk]; rfl)
theorem k_disp {kind n : Int} {ns : List Int} (hk : Fits .i64 kind) (hn : Fits .i64 n) (hz : AllFit ns) : Has Tryz.prog 5 [.i kind, .i n, .seq .i64 ns] (.b true) := by
  have m := k_mk (kind := kind) (n := n) (most := 6) (zs := ns) hk hn hz (by decide) (by decide)
  have o := mkg_ok (kind := kind) (n := n) (zs := ns) (most := 6) (by decide) (by decide)
  have s := mkg_sml (kind := kind) (n := n) (zs := ns) (most := 6) (by decide) (by decide)
  generalize mkg kind n ns 6 = g at *
  have n8 := o.n8; have n1 := o.n1; have k1 := o.k1; have k7 := o.k7; have r3 := o.r3; have sr := s.r
  obtain ⟨m1, m2, m3, m4⟩ := ok_lens o
  have hd : dmost g ≤ 2 := by unfold dmost; split <;> omega
  have hB : TB g.n g.n 2400 (gdc g) := TB.low (r := 2) n1 (by decide) (gdc_bt o s) (Nat.le_trans (gdc_rank o) hd) (by decide)
  have cr := r7_rank hB (by decide) n1 n8
  have hr : decide (((dmost g : Nat) : Int) < ((gs g.n (gdc g)).at' : Nat)) = false := decide_eq_false (by have := gdc_rank o; omega)
  have eM := dmost_at o
  have call := k_allk (n := g.n) (m := g.n) (K := 700) (F := gdis g) (G := gdis g) (fun i hi j hj => gdis_wt o hi hj) (by decide) (by decide) (by omega) (by omega) fun _ _ _ _ => rfl
  have row : ∀ u, u < g.n → u * g.r + g.r ≤ g.n * g.r := fun u hu => by rw [← Nat.succ_mul]; exact Nat.mul_le_mul_right _ hu
  refine has_of Tryz.func5 (by kernel_rfl) rfl Tryz.ntmps5 Tryz.results5 rfl rfl rfl ?_
  repeat(first|refine run1p ?_|((with_reducible apply st_call);exact rfl;exact rfl;exact rfl;first|(exact k_known9))|((with_reducible apply st_callg);exact rfl;exact rfl;(first|exact rfl|assumption);exact rfl;exact rfl;exact rfl;first|(exact k_known9)))
  refine awp_no rfl rfl ?_
  repeat(first|refine run1p ?_|((with_reducible apply st_call);exact rfl;exact rfl;exact rfl;first|(exact m)|(exact Has.ag (u' := g.f) (g7 rfl rfl rfl rfl rfl rfl rfl) (fs_disp (g := g) o))|(exact Has.ag (u' := g.f) (g7 rfl rfl rfl rfl rfl rfl rfl) (r9_disp (g := g) o))|(exact call))|((with_reducible apply st_callg);exact rfl;exact rfl;(first|exact rfl|assumption);exact rfl;exact rfl;exact rfl;first|(exact m)|(exact Has.ag (u' := g.f) (g7 rfl rfl rfl rfl rfl rfl rfl) (fs_disp (g := g) o))|(exact Has.ag (u' := g.f) (g7 rfl rfl rfl rfl rfl rfl rfl) (r9_disp (g := g) o))|(exact call)))
  refine awp_no rfl rfl ?_
  refine run0p ?_
  refine st_ev rfl ⟨by omega, by show (g.k : Int) < ((8 : Nat) : Int); omega⟩ ?_
  refine run0p ?_
  rw [eM]
  repeat(first|refine run1p ?_|((with_reducible apply st_call);exact rfl;exact rfl;exact rfl;first|(exact Has.gdc cr))|((with_reducible apply st_callg);exact rfl;exact rfl;(first|exact rfl|assumption);exact rfl;exact rfl;exact rfl;first|(exact Has.gdc cr)))
  refine awp_no rfl hr ?_
  refine run0p ?_
  refine awp_loop (fun m' s => ∃ i, i ≤ g.n ∧ m' = g.n - i ∧ s = stl [(7, .ptr 7 0 0), (8, .mat true g.n (fun _ => g.n) (fun i j => .q (gdis g i j))), (10, .i (i : Int))] [(7, (1, fun _ => .ones 26 7 g.ft))]) g.n _ (imp_id ?_ ?_) ⟨0, Nat.zero_le _, rfl, rfl⟩ ?_
  · exact eA
  · exact allh rfl (by decide) (bleo rfl fun _ _ => Le.id rfl) (fun i _ => g.ftok _ i) True.intro
  · rintro m' st ⟨i, hi, rfl, rfl⟩
    by_cases hin : i < g.n
    · have e0 : decide ((i : Int) < g.n) = true := decide_eq_true (by omega)
      have e1 : (decide ((i : Int) < g.n) == true) = true := by rw [e0]; rfl
      refine run0p ?_
      refine awp_if rfl (fun hr0 => ?_) (fun hr0 => ?_)
      · have hlike : g.k = 6 ∨ g.k = 7 := by
          by_cases h6 : likeB g.k = true
          · unfold likeB at h6; simp at h6; exact h6
          · have := o.r0 (by simpa using h6); omega
        obtain ⟨lg, lh⟩ := m4 hlike
        have row' := row i hin
        have hI : i * g.r ≤ 8 * 3 := Nat.mul_le_mul (by omega) r3
        have eI : (i : Int) * (g.r : Int) = ((i * g.r : Nat) : Int) := (Int.natCast_mul i g.r).symm
        refine run0p ?_
        refine awp_loop (fun m' s => ∃ j, j ≤ g.n ∧ m' = g.n - j ∧ s = stl [(7, .ptr 7 0 0), (8, .mat true g.n (fun _ => g.n) (fun i j => .q (gdis g i j))), (10, .i (i : Int)), (11, .i (j : Int))] [(7, (1, fun _ => .ones 26 7 g.ft))]) g.n _ (imp_id ?_ ?_) ⟨0, Nat.zero_le _, rfl, rfl⟩ ?_
        · exact eA
        · exact allh rfl (by decide) (bleo rfl fun _ _ => Le.id rfl) (fun i _ => g.ftok _ i) True.intro
        · rintro m' st ⟨j, hj, rfl, rfl⟩
          refine run0p ?_
          refine awp_if rfl (fun h1 => ?_) (fun h1 => ?_)
          · have hjn : j < g.n := by omega
            have rowj := row j hjn
            have hJ : j * g.r ≤ 8 * 3 := Nat.mul_le_mul (by omega) r3
            have eJ : (j : Int) * (g.r : Int) = ((j * g.r : Nat) : Int) := (Int.natCast_mul j g.r).symm
            repeat(first|refine run1p ?_|((with_reducible apply st_call);exact rfl;exact rfl;exact rfl;first|(exact hs_zero))|((with_reducible apply st_callg);exact rfl;exact rfl;(first|exact rfl|assumption);exact rfl;exact rfl;exact rfl;first|(exact hs_zero)))
            refine awp_loop (fun m' s => ∃ k, k ≤ g.r ∧ m' = g.r - k ∧ s = stl [(7, .ptr 7 0 0), (8, .mat true g.n (fun _ => g.n) (fun i j => .q (gdis g i j))), (10, .i (i : Int)), (11, .i (j : Int)), (12, .rptr 12 0 0), (13, .i (k : Int))] [(7, (1, fun _ => .ones 26 7 g.ft)), (12, (1, fun _ => .rats 1 (fun _ => .q (S k fun k => g.G (i * g.r + k) * g.H (j * g.r + k)))))]) g.r _ (imp_id ?_ ?_) ⟨0, Nat.zero_le _, rfl, rfl⟩ ?_
            · exact eA
            · exact allh rfl (by decide) (bleo rfl fun _ _ => Le.id rfl) (fun i _ => g.ftok _ i) (by exact hA)
            · rintro m' st ⟨k, hkr, rfl, rfl⟩
              refine run0p ?_
              refine awp_if rfl (fun h2 => ?_) (fun h2 => ?_)
              · have hk2 : k < g.r := by omega
                have w1 : wt (S k fun k => g.G (i * g.r + k) * g.H (j * g.r + k)) ≤ k * 9 + 1 := wt_sum (K := 8) fun u hu => by
                  have h1 := wt_mul (g.G (i * g.r + u)) (g.H (j * g.r + u)); have h2 := o.sm.G (i * g.r + u) (by omega); have h3 := o.sm.H (j * g.r + u) (by omega)
                  omega
                have w2 := o.sm.G (i * g.r + k) (by omega); have w3 := o.sm.H (j * g.r + k) (by omega)
                have w4 := wt_mul (g.G (i * g.r + k)) (g.H (j * g.r + k))
                have q1 : 0 ≤ (i : Int) * (g.r : Int) := by rw [eI]; omega
                have q2 : (i : Int) * (g.r : Int) ≤ 24 := by rw [eI]; omega
                have q3 : (i : Int) * (g.r : Int) + k < g.lg := by rw [eI]; omega
                have q4 : 0 ≤ (j : Int) * (g.r : Int) := by rw [eJ]; omega
                have q5 : (j : Int) * (g.r : Int) ≤ 24 := by rw [eJ]; omega
                have q6 : (j : Int) * (g.r : Int) + k < g.lh := by rw [eJ]; omega
                have e1 : ((i : Int) * (g.r : Int) + (k : Int)).toNat = i * g.r + k := by rw [eI]; omega
                have e2 : ((j : Int) * (g.r : Int) + (k : Int)).toNat = j * g.r + k := by rw [eJ]; omega
                refine run0p ?_
                rw [e1, e2]
                repeat(first|refine run1p ?_|((with_reducible apply st_call);exact rfl;exact rfl;exact rfl;first|(exact hs_mul (by omega) (by omega))|(exact hs_add (by omega) (by omega)))|((with_reducible apply st_callg);exact rfl;exact rfl;(first|exact rfl|assumption);exact rfl;exact rfl;exact rfl;first|(exact hs_mul (by omega) (by omega))|(exact hs_add (by omega) (by omega))))
                refine q_loop ?_ (imp_id ?_ ?_) ⟨k + 1, ?_, rfl, rfl⟩
                · omega
                · exact eA
                · exact allh rfl (by decide) (bleo rfl fun _ _ => Le.id rfl) (fun i _ => g.ftok _ i) (by exact hA)
                · omega
              · have ek : k = g.r := by omega
                have es : (S k fun k => g.G (i * g.r + k) * g.H (j * g.r + k)) = rdot g i j := by rw [ek]; rfl
                have cs := hs_same (p := gdis g i j) (q := rdot g i j) (by have := gdis_wt o hin hjn; omega) (by have := rdot_wt (i := i) (j := j) o.sm (by omega) (by omega) r3; omega)
                rw [decide_eq_true (gdis_like o hlike hin hjn)] at cs
                rw [es]
                repeat(first|refine run1p ?_|((with_reducible apply st_call);exact rfl;exact rfl;exact rfl;first|(exact cs))|((with_reducible apply st_callg);exact rfl;exact rfl;(first|exact rfl|assumption);exact rfl;exact rfl;exact rfl;first|(exact cs)))
                refine awp_no rfl rfl ?_
                refine run0p ?_
                refine q_loop ?_ (imp_id ?_ ?_) ⟨j + 1, ?_, rfl, rfl⟩
                · omega
                · exact eA
                · exact allh rfl (by decide) (bleo rfl fun _ _ => Le.id rfl) (fun i _ => g.ftok _ i) True.intro
                · omega
          · refine run0p ?_
            refine q_loop ?_ (imp_id ?_ ?_) ⟨i + 1, ?_, rfl, rfl⟩
            · omega
            · exact eA
            · exact allh rfl (by decide) (bleo rfl fun _ _ => Le.id rfl) (fun i _ => g.ftok _ i) True.intro
            · omega
      · refine run0p ?_
        exact ⟨.inr rfl, _, Imp.refl _, .one (.tmp rfl)⟩
    · have e0 : decide ((i : Int) < g.n) = false := decide_eq_false (by omega)
      have e1 : (decide ((i : Int) < g.n) == true) = false := by rw [e0]; rfl
      refine run0p ?_
      refine awp_no rfl rfl ?_
      refine run0p ?_
      exact ⟨.inr rfl, _, Imp.refl _, .one (.tmp rfl)⟩
end Go.Proofs.YtdnmoggifjlbiaaGreat.AM

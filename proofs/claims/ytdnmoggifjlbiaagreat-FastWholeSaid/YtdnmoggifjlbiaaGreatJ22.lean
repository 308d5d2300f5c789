/- Joined texts, 22: LawH PBits LawI LawJ PDet PFast MkE. -/
import Derived.Test.YtdnmoggifjlbiaaGreatJ15
import Derived.Test.YtdnmoggifjlbiaaGreatJ21
import Derived.Test.YtdnmoggifjlbiaaGreatJ19
import Derived.Test.YtdnmoggifjlbiaaGreatJ20
set_option linter.unusedVariables false
set_option linter.unusedSimpArgs false
/- The document's elimination: walked. It does what the program's does. -/
namespace Go.Proofs.YtdnmoggifjlbiaaGreat.AM
open Go Go.RowKit Go.Proofs.YtdnmoggifjlbiaaGreat.PN Go.Proofs.YtdnmoggifjlbiaaGreat.V
open Go.Proofs.YtdnmoggifjlbiaaGreat.LA (S S_succ S_zero S_congr)
set_option linter.unusedVariables false
set_option linter.unusedSimpArgs false
set_option maxRecDepth 4000
set_option maxHeartbeats 4000000
/-- How long all numbers are while the steps are done. -/
structure TB (n m X : Nat) (A : Nat → Nat → Rat) : Prop where
  d : ∀ c, c ≤ n → Wt (stps n m false A c).d X
  A : ∀ c, c ≤ n → ∀ i j, Wt ((stps n m false A c).A i j) X
theorem TB.wt {n m X : Nat} {A : Nat → Nat → Rat} (h : TB n m X A) (i j : Nat) : Wt (A i j) X := h.A 0 (Nat.zero_le _) i j
/-- The determinant, as far as it is known. -/
def dd (c : Nat) (s : ES) : Rat := if s.at' < c then 0 else s.d
theorem cln_low {A : Nat → Nat → Rat} {π : Nat → Nat} {at' col m k : Nat} (h : k ≤ at' + 1) (r j : Nat) : cln A π false at' col m k r j = A r j := by
  unfold cln
  rw [if_neg]
  rintro ⟨⟨i, h1, h2, _⟩, _⟩
  rcases h2 with h2 | ⟨h2, _⟩
  · omega
  · cases h2
theorem dd_wt {c X : Nat} {s : ES} [h : Wt s.d X] (hX : 1 ≤ X) : Wt (dd c s) X := by
  unfold dd; split
  · exact (inferInstance : Wt 0 1).mono hX
  · exact h
theorem sub_zero_mul (x y : Rat) {q : Rat} (h : q = 0) : x - q * y = x := by
  rw [h, Rat.zero_mul, Rat.sub_eq_add_neg, Rat.neg_zero, Rat.add_zero]
theorem copy_blk {m : Nat} {σ : Ren} {z f : Nat → RA} {g : Nat → Rat} (h : ∀ j, j < m → f j = .q (g j)) : BLe σ (.rats (0 + m) (glue 0 z f)) (.rats m fun j => .q (g j)) := by
  refine blen (Nat.zero_add m) fun j hj => ?_
  unfold glue
  rw [if_neg (Nat.not_lt_zero _), Nat.sub_zero]
  exact h j (by omega)
section
variable {p q : Rat} {a b : Nat} [hp : Wt p a] [hq : Wt q b]
theorem cs_sub (h : a ≤ 15000 ∧ b ≤ 15000) : Has Tryz.prog 63 [.q p, .q q] (.q (p - q)) := k_sub (Nat.le_trans hp.le h.1) (Nat.le_trans hq.le h.2)
end
theorem cln_mix {A : Nat → Nat → Rat} {π : Nat → Nat} {all : Bool} {at' col m k n : Nat} (h : k ≤ n) (r j : Nat) : cln A π all at' col m k r j = A r j ∨ cln A π all at' col m k r j = cln A π all at' col m n r j := by
  unfold cln
  by_cases e : (∃ i, i < k ∧ tst all at' i ∧ r = π i) ∧ col ≤ j ∧ j < m
  · obtain ⟨⟨i, h1, h2, h3⟩, h4⟩ := e
    rw [if_pos ⟨⟨i, h1, h2, h3⟩, h4⟩, if_pos ⟨⟨i, by omega, h2, h3⟩, h4⟩]
    exact .inr rfl
  · rw [if_neg e]; exact .inl rfl
theorem dd_step {c a p : Nat} {d x : Rat} {π π' : Nat → Nat} {B B' : Nat → Nat → Rat} : det1 (dd c ⟨a, d, π, B⟩) p a * x = dd (c + 1) ⟨a + 1, det1 d p a * x, π', B'⟩ := by
  unfold dd
  show det1 (if a < c then 0 else d) p a * x = if a + 1 < c + 1 then 0 else det1 d p a * x
  by_cases h : a < c
  · rw [if_pos h, if_pos (by omega)]
    unfold det1
    split
    · exact Rat.zero_mul _
    · rw [Rat.neg_zero]; exact Rat.zero_mul _
  · rw [if_neg h, if_neg (by omega)]
theorem r7_triangle {n m X : Nat} {A : Nat → Nat → Rat} (hB : TB n m X A) (hX : X ≤ 2400) (h0 : 0 < n) (hn : n ≤ 8) (hnm : n ≤ m) (hm : m ≤ 9) :
    Has Tryz.prog 67 [.mat false n (fun _ => m) (fun i j => .q (A i j)), .i n] (.tup3 (.mat true n (fun _ => m) (fun i j => .q ((stps n m false A n).A ((stps n m false A n).π i) j))) (.q (dd n (stps n m false A n))) (.i (stps n m false A n).at')) := by
  have hX1 : 1 ≤ X := Nat.le_trans (wt_pos _) (hB.d 0 (Nat.zero_le _)).le
  have hwt := hB.wt
  refine has_of Tryz.func67 (by kernel_rfl) rfl Tryz.ntmps67 Tryz.results67 rfl rfl rfl ?_
  refine run0 ?_
  refine awp_loop (fun m' s => ∃ k, k ≤ n ∧ m' = n - k ∧ s = famT 7 3 [(0, .mat false n (fun _ => m) (fun i j => .q (A i j))), (1, .i n), (5, .rptr 5 0 0), (8, .i (k : Int))] [(5, (1, fun _ => .rats 1 fun _ => ra0))] m A k) n _ (imp_id (h := [(5, (1, fun _ => .rats 1 fun _ => ra0))]) (e := [(7, .v (.slice none 0 0)), (0, .mat false n (fun _ => m) (fun i j => .q (A i j))), (1, .i n), (5, .rptr 5 0 0), (8, .i ((0 : Nat) : Int))]) ?_ ?_) ⟨0, Nat.zero_le _, rfl, rfl⟩ ?_
  · exact eA
  · exact hA
  · rintro m' s ⟨k, hk, rfl, rfl⟩
    rcases k with _ | k
    · refine run0 ?_
      refine awp_if rfl (fun h => ?_) (fun h => absurd (show ((0 : Nat) : Int) < n by omega) h)
      refine run0 ?_
      refine q_loop ?_ (famT_close (k := 0) (a := 30) (b := 28) (F2 := fun _ => .rats 0 fun _ => ra0) rfl rfl rfl (fun i hi => absurd hi (Nat.not_lt_zero _)) rfl (fun h => absurd h (Nat.lt_irrefl _)) (fun r hr => absurd hr (Nat.not_lt_zero _)) rfl (copy_blk fun j hj => rfl) rfl (by decide) rfl ?_ ?_) ⟨0 + 1, ?_, rfl, rfl⟩
      · omega
      · refine alle rfl (Le.eq rfl rfl) True.intro (alle rfl (Le.eq rfl rfl) True.intro (alle rfl (Le.rptr rfl) rfl (alle rfl (Le.eq rfl rfl) True.intro True.intro)))
      · exact allh rfl Nat.zero_lt_one (ble1 rfl) True.intro True.intro
      · omega
    · refine run0 ?_
      refine awp_if rfl (fun h => ?_) (fun h => ?_)
      · have h : k + 1 < n := by omega
        refine run0 ?_
        refine q_loop ?_ (famT_close (k := k + 1) (a := 30) (b := 28) rfl rfl rfl (fun i hi => if_pos hi) ?_ (fun _ => rfl) (fun r hr => blen rfl fun j hj => rfl) rfl (copy_blk fun j hj => rfl) rfl (by decide) rfl ?_ ?_) ⟨k + 1 + 1, ?_, rfl, rfl⟩
        · omega
        · show (if _ then _ else _) = _
          rw [if_neg (Nat.lt_irrefl _), Nat.sub_self]; rfl
        · refine alle rfl (Le.eq rfl rfl) True.intro (alle rfl (Le.eq rfl rfl) True.intro (alle rfl (Le.rptr rfl) rfl (alle rfl (Le.eq rfl rfl) True.intro True.intro)))
        · exact allh rfl Nat.zero_lt_one (ble1 rfl) True.intro True.intro
        · omega
      · obtain rfl : k + 1 = n := by omega
        refine awp_imp (imp_TH (n := k + 1) (t := 7) (g := 3) (m := m) (π := fun i => i) (A := A) (e := [(1, .i ((k + 1 : Nat) : Int)), (5, .rptr 5 0 0), (7, .own 7 0)]) (l := [(5, (1, fun _ => .rats 1 fun _ => ra0))]) rfl rfl (fun _ _ => rfl) rfl (fun r hr => blen rfl fun _ _ => rfl) rfl ?_ ?_) ?_
        · exact eA
        · exact hA
        generalize hN : k + 1 = N at *
        repeat(first|refine run1 ?_|((with_reducible apply st_call);exact rfl;exact rfl;exact rfl;first|(exact c_unit))|((with_reducible apply st_callg);exact rfl;exact rfl;(first|exact rfl|assumption);exact rfl;exact rfl;exact rfl;first|(exact c_unit)))
        refine awp_loop (fun m' s => ∃ c, c ≤ N ∧ m' = N - c ∧ s = stl [(1, .i N), (5, .rptr 5 0 0), (7, .own 7 0), (9, .rptr 9 0 0), (10, .i (stps N m false A c).at'), (11, .i (c : Int))] (TH 7 3 N m (stps N m false A c).π (stps N m false A c).A [(5, (1, fun _ => .rats 1 fun _ => ra0)), (9, (1, fun _ => .rats 1 fun _ => .q (dd c (stps N m false A c))))])) N _ ?_ ⟨0, Nat.zero_le _, rfl, rfl⟩ ?_
        · refine imp_TH rfl rfl (fun _ _ => rfl) rfl (fun r hr => blen rfl fun _ _ => rfl) rfl ?_ ?_
          · exact eA
          · exact hA
        · rintro m' s ⟨c, hc, rfl, rfl⟩
          have hok := stps_ok (n := N) (m := m) (all := false) (hA := hwt) c
          have hnx : stps N m false A (c + 1) = stp N m false (stps N m false A c) c := rfl
          have wd := hB.d c hc
          have wB := hB.A c hc
          generalize hT : stps N m false A c = T at *
          obtain ⟨a, d, π, B⟩ := T
          have hle : a ≤ c := hok.le
          have hlt : ∀ i, i < N → π i < N := hok.lt
          have hinj : ∀ i j, i < N → j < N → π i = π j → i = j := hok.inj
          have wd : Wt d X := wd
          have wB : ∀ i j, Wt (B i j) X := wB
          refine run0 ?_
          refine awp_if rfl (fun h => ?_) (fun h => ?_)
          · have hcn : c < N := by omega
            have han : a < N := by omega
            refine run0 ?_
            obtain ⟨f1, f2, f3, f4⟩ := fnd_le (fun i => B (π i) c ≠ 0) (N - a) a
            have e1 := stp_yes (n := N) (m := m) (all := false) (s := ⟨a, d, π, B⟩) (col := c)
            have e2 := stp_no (n := N) (m := m) (all := false) (s := ⟨a, d, π, B⟩) (col := c)
            dsimp only at e1 e2
            generalize fnd (fun i => B (π i) c ≠ 0) (N - a) a = i0 at *
            have hz : ∀ j, a ≤ j → j < i0 → B (π j) c = 0 := fun j h1 h2 => Classical.byContradiction fun h => f3 j h1 h2 h
            refine awp_loop (fun m' s => ∃ p, a ≤ p ∧ p ≤ i0 ∧ m' = i0 - p ∧ s = stl [(1, .i N), (5, .rptr 5 0 0), (7, .own 7 0), (9, .rptr 9 0 0), (10, .i (a : Int)), (11, .i (c : Int)), (12, .i (p : Int))] (TH 7 3 N m π B [(5, (1, fun _ => .rats 1 fun _ => ra0)), (9, (1, fun _ => .rats 1 fun _ => .q (dd c ⟨a, d, π, B⟩)))])) (i0 - a) _ (imp_TH rfl rfl (fun _ _ => rfl) rfl (fun r hr => blen rfl fun _ _ => rfl) rfl ?_ ?_) ⟨a, Nat.le_refl _, f1, rfl, rfl⟩ ?_
            · exact eA
            · exact hA
            · rintro m' s ⟨p, hp1, hp, rfl, rfl⟩
              by_cases hpN : p < N
              · have hpN' : (p : Int) < (N : Int) := by omega
                have g1 : (decide ((p : Int) < (N : Int)) == true) = true := by rw [decide_eq_true hpN']; rfl
                have g2 : decide ((p : Int) < (N : Int)) = true := decide_eq_true hpN'
                have hpp := hlt p hpN
                repeat(first|refine run1 ?_|((with_reducible apply st_call);exact rfl;exact rfl;exact rfl;first|(exact hs_nought))|((with_reducible apply st_callg);exact rfl;exact rfl;(first|exact rfl|assumption);exact rfl;exact rfl;exact rfl;first|(exact hs_nought)))
                by_cases hpi : p < i0
                · refine awp_yes rfl ?_ ?_
                  · exact decide_eq_true (hz p hp1 hpi)
                  clear g1 g2
                  refine run0 ?_
                  refine q_loop (m' := i0 - (p + 1)) (by omega) (imp_TH rfl rfl (fun _ _ => rfl) rfl (fun r hr => blen rfl fun _ _ => rfl) rfl ?_ ?_) ⟨p + 1, by omega, by omega, rfl, rfl⟩
                  · exact eA
                  · exact hA
                · obtain rfl : p = i0 := by omega
                  have hnz := f4 (by omega)
                  refine awp_no rfl ?_ ?_
                  · exact decide_eq_false hnz
                  clear g1 g2
                  have e3 := e1 hpN
                  refine run0 ?_
                  refine awp_no rfl ?_ ?_
                  · exact decide_eq_false (show ¬ ((N : Int) ≤ p) by omega)
                  have hlt' := swp_lt hlt hpN han
                  have hinj' := swp_inj hinj hpN han
                  have hat : swp π p a a = π p := swp_at π p a
                  have hD : dd (c + 1) (stps N m false A (c + 1)) = det1 (dd c ⟨a, d, π, B⟩) p a * B (π p) c := by
                    rw [hnx.trans e3]; exact dd_step.symm
                  have wD : Wt (dd c ⟨a, d, π, B⟩) X := dd_wt (h := wd) hX1
                  have hfin := hnx.trans e3
                  generalize dd c ⟨a, d, π, B⟩ = D at *
                  have hpa := hlt a han
                  have hpp' := hlt' a han
                  refine run0 ?_
                  refine awp_join (stl [(1, .i N), (5, .rptr 5 0 0), (7, .own 7 0), (9, .rptr 9 0 0), (10, .i (a : Int)), (11, .i (c : Int))] (TH 7 3 N m (swp π p a) B [(5, (1, fun _ => .rats 1 fun _ => ra0)), (9, (1, fun _ => .rats 1 fun _ => .q (det1 D p a)))])) ?_ ?_
                  · refine awp_if rfl (fun h => ?_) (fun h => ?_)
                    · have e4 : det1 D p a = -D := if_neg (by omega)
                      rw [e4]
                      refine run2 ?_
                      refine run3 ?_
                      repeat(first|refine run4 ?_|((with_reducible apply st_call);exact rfl;exact rfl;exact rfl;first|(exact k_neg (Nat.le_trans wD.le (by omega))))|((with_reducible apply st_callg);exact rfl;exact rfl;(first|exact rfl|assumption);exact rfl;exact rfl;exact rfl;first|(exact k_neg (Nat.le_trans wD.le (by omega)))))
                      refine ⟨rfl, imp_TH rfl rfl (fun _ _ => swp_own _) rfl (fun r hr => blen rfl fun _ _ => rfl) rfl ?_ ?_⟩
                      · exact eA
                      · exact hA
                    · obtain rfl : p = a := by omega
                      have e4 : det1 D p p = D := if_pos rfl
                      rw [e4]
                      refine run0 ?_
                      refine ⟨rfl, imp_TH rfl rfl (fun _ _ => congrArg _ (swp_self _ _ _).symm) rfl (fun r hr => blen rfl fun _ _ => rfl) rfl ?_ ?_⟩
                      · exact eA
                      · exact hA
                  · have wD2 : Wt (det1 D p a) X := det1_wt (h := wD)
                    generalize det1 D p a = D2 at *
                    rw [← hat] at hD hnz
                    generalize swp π p a = π' at *
                    repeat(first|refine run1 ?_|((with_reducible apply st_call);exact rfl;exact rfl;exact rfl;first|(exact cs_mul ⟨by omega, by omega⟩))|((with_reducible apply st_callg);exact rfl;exact rfl;(first|exact rfl|assumption);exact rfl;exact rfl;exact rfl;first|(exact cs_mul ⟨by omega, by omega⟩)))
                    have wn : ∀ i j, Wt ((stps N m false A (c + 1)).A i j) X := hB.A (c + 1) (by omega)
                    rw [hfin] at wn
                    have wn : ∀ i j, Wt (cln B π' false a c m N i j) X := wn
                    refine awp_loop (fun m' s => ∃ k, a + 1 ≤ k ∧ k ≤ N ∧ m' = N - k ∧ s = stl [(1, .i N), (5, .rptr 5 0 0), (7, .own 7 0), (9, .rptr 9 0 0), (10, .i (a : Int)), (11, .i (c : Int)), (13, .i (k : Int))] (TH 7 3 N m π' (cln B π' false a c m k) [(5, (1, fun _ => .rats 1 fun _ => ra0)), (9, (1, fun _ => .rats 1 fun _ => .q (D2 * B (π' a) c)))])) (N - (a + 1)) _ (imp_TH rfl rfl (fun _ _ => rfl) rfl (fun r hr => blen rfl fun j _ => congrArg RA.q (cln_low (Nat.le_refl _) r j).symm) rfl ?_ ?_) ⟨a + 1, Nat.le_refl _, by omega, rfl, rfl⟩ ?_
                    · exact eA
                    · exact hA
                    · rintro m' s ⟨k, hk1, hk, rfl, rfl⟩
                      refine run0 ?_
                      refine awp_if rfl (fun h => ?_) (fun h => ?_)
                      · have h' : (k : Int) < (N : Int) := h
                        have hkN : k < N := by omega
                        have hpk := hlt' k hkN
                        have wC : ∀ r j, Wt (cln B π' false a c m k r j) X := fun r j => by
                          rcases cln_mix (A := B) (π := π') (all := false) (at' := a) (col := c) (m := m) hk r j with e | e
                          · rw [e]; exact wB r j
                          · rw [e]; exact wn r j
                        have ht : tst false a k := .inl (by omega)
                        have hne : π' k ≠ π' a := fun e => tst_ne ht (hinj' k a hkN han e)
                        have est := cln_step (m := m) (all := false) (A := B) (col := c) hinj' han hkN ht
                        have hrow : cln B π' false a c m k (π' a) c = B (π' a) c := cln_row (n := N) (fun i h1 h2 h3 => tst_ne h2 (hinj' a i han (by omega) h3).symm) c
                        have hne0 : cln B π' false a c m k (π' a) c ≠ 0 := by rw [hrow]; exact hnz
                        generalize cln B π' false a c m k = C at *
                        repeat(first|refine run1 ?_|((with_reducible apply st_call);exact rfl;exact rfl;exact rfl;first|(exact hs_nought))|((with_reducible apply st_callg);exact rfl;exact rfl;(first|exact rfl|assumption);exact rfl;exact rfl;exact rfl;first|(exact hs_nought)))
                        refine awp_if rfl (fun hq => ?_) (fun hq => ?_)
                        · have hq' : C (π' k) c = 0 := hq
                          rw [hq', show (0 : Rat) / C (π' a) c = 0 by rw [Rat.div_def, Rat.zero_mul]] at est
                          refine run0 ?_
                          refine q_loop (m' := N - (k + 1)) (by omega) (imp_TH rfl rfl (fun _ _ => rfl) rfl (fun r hr => blen rfl fun j _ => congrArg RA.q ?_) rfl ?_ ?_) ⟨k + 1, by omega, by omega, rfl, rfl⟩
                          · rw [← est, clr_zero rfl]
                          · exact eA
                          · exact hA
                        · repeat(first|refine run1 ?_|((with_reducible apply st_call);exact rfl;exact rfl;exact rfl;first|(exact cs_over ⟨by omega, by omega⟩ hne0))|((with_reducible apply st_callg);exact rfl;exact rfl;(first|exact rfl|assumption);exact rfl;exact rfl;exact rfl;first|(exact cs_over ⟨by omega, by omega⟩ hne0)))
                          have wq : Wt (C (π' k) c / C (π' a) c) (X + X) := inferInstance
                          generalize hq2 : C (π' k) c / C (π' a) c = q at *
                          refine awp_loop (fun m' s => ∃ u, c ≤ u ∧ u ≤ m ∧ m' = m - u ∧ s = stl [(1, .i N), (5, .rptr 5 0 0), (7, .own 7 0), (9, .rptr 9 0 0), (10, .i (a : Int)), (11, .i (c : Int)), (13, .i (k : Int)), (14, .rptr 14 0 0), (15, .i (u : Int))] (TH 7 3 N m π' (clr C q (π' k) (π' a) c u) [(5, (1, fun _ => .rats 1 fun _ => ra0)), (9, (1, fun _ => .rats 1 fun _ => .q (D2 * B (π' a) c))), (14, (1, fun _ => .rats 1 fun _ => .q q))])) (m - c) _ (imp_TH rfl rfl (fun _ _ => rfl) rfl (fun r hr => blen rfl fun j _ => congrArg RA.q clr_none.symm) rfl ?_ ?_) ⟨c, Nat.le_refl _, by omega, rfl, rfl⟩ ?_
                          · exact eA
                          · refine allh rfl (by decide) (ble1 rfl) True.intro (allh rfl (by decide) (ble1 rfl) True.intro (allh rfl (by decide) (ble1 (congrArg RA.q hq2)) True.intro True.intro))
                          · rintro m' s ⟨u, hu1, hu, rfl, rfl⟩
                            refine run0 ?_
                            refine awp_if rfl (fun h => ?_) (fun h => ?_)
                            · have h' : (u : Int) < m := h
                              have hum : u < m := by omega
                              have wk : ∀ r j, Wt (clr C q (π' k) (π' a) c u r j) (4 * X + 1) := fun r j => clr_wt r j
                              repeat(first|refine run1 ?_|((with_reducible apply st_call);exact rfl;exact rfl;exact rfl;first|(exact cs_mul ⟨by omega, by omega⟩)|(exact cs_sub ⟨by omega, by omega⟩))|((with_reducible apply st_callg);exact rfl;exact rfl;(first|exact rfl|assumption);exact rfl;exact rfl;exact rfl;first|(exact cs_mul ⟨by omega, by omega⟩)|(exact cs_sub ⟨by omega, by omega⟩)))
                              refine q_loop (m' := m - (u + 1)) (by omega) (imp_TH (t := 7) (g := 3) (n := N) (m := m) (π := π') (A := clr C q (π' k) (π' a) c (u + 1)) (e := [(1, .i N), (5, .rptr 5 0 0), (7, .own 7 0), (9, .rptr 9 0 0), (10, .i (a : Int)), (11, .i (c : Int)), (13, .i (k : Int)), (14, .rptr 14 0 0), (15, .i ((u + 1 : Nat) : Int))]) (l := [(5, (1, fun _ => .rats 1 fun _ => ra0)), (9, (1, fun _ => .rats 1 fun _ => .q (D2 * B (π' a) c))), (14, (1, fun _ => .rats 1 fun _ => .q q))]) rfl rfl (fun _ _ => rfl) rfl (fun r hr => clr_blk (clr_step hne hu1) r) rfl ?_ ?_) ⟨u + 1, by omega, by omega, rfl, rfl⟩
                              · exact eA
                              · exact hA
                            · have h' : ¬ (u : Int) < m := h
                              obtain rfl : u = m := by omega
                              refine run0 ?_
                              refine q_loop (m' := N - (k + 1)) (by omega) (imp_TH rfl rfl (fun _ _ => rfl) rfl (fun r hr => blen rfl fun j _ => congrArg RA.q (by rw [est])) rfl ?_ ?_) ⟨k + 1, by omega, by omega, rfl, rfl⟩
                              · exact eA
                              · exact hA
                      · have h' : ¬ (k : Int) < (N : Int) := h
                        obtain rfl : k = N := by omega
                        refine run0 ?_
                        refine q_loop (m' := k - (c + 1)) (by omega) (imp_TH (e := [(1, .i k), (5, .rptr 5 0 0), (7, .own 7 0), (9, .rptr 9 0 0), (10, .i ((a + 1 : Nat) : Int)), (11, .i ((c + 1 : Nat) : Int))]) (t := 7) (g := 3) (n := k) (m := m) (π := π') (A := cln B π' false a c m k) (l := [(5, (1, fun _ => .rats 1 fun _ => ra0)), (9, (1, fun _ => .rats 1 fun _ => .q (D2 * B (π' a) c)))]) rfl rfl (fun _ _ => rfl) rfl (fun r hr => blen rfl fun _ _ => rfl) rfl ?_ ?_) ⟨c + 1, by omega, rfl, ?_⟩
                        · exact eA
                        · exact hA
                        · rw [hD, hfin]
              · have hpN' : ¬ (p : Int) < (N : Int) := by omega
                have g1 : (decide ((p : Int) < (N : Int)) == true) = false := by rw [decide_eq_false hpN']; rfl
                have g2 : decide ((p : Int) < (N : Int)) = false := decide_eq_false hpN'
                obtain rfl : p = i0 := by omega
                have e3 := hnx.trans (e2 hpN)
                refine run0 ?_
                refine awp_no rfl rfl ?_
                refine run0 ?_
                refine awp_yes rfl ?_ ?_
                · exact decide_eq_true (show (N : Int) ≤ p by omega)
                clear g1 g2
                repeat(first|refine run1 ?_|((with_reducible apply st_call);exact rfl;exact rfl;exact rfl;first|(exact hs_zero))|((with_reducible apply st_callg);exact rfl;exact rfl;(first|exact rfl|assumption);exact rfl;exact rfl;exact rfl;first|(exact hs_zero)))
                refine q_loop (m' := N - (c + 1)) (by omega) (imp_TH (e := [(1, .i N), (5, .rptr 5 0 0), (7, .own 7 0), (9, .rptr 9 0 0), (10, .i (a : Int)), (11, .i ((c + 1 : Nat) : Int))]) (t := 7) (g := 3) (n := N) (m := m) (π := π) (A := B) (l := [(5, (1, fun _ => .rats 1 fun _ => ra0)), (9, (1, fun _ => .rats 1 fun _ => .q 0))]) rfl rfl (fun _ _ => rfl) rfl (fun r hr => blen rfl fun _ _ => rfl) rfl ?_ ?_) ⟨c + 1, by omega, rfl, ?_⟩
                · exact eA
                · exact hA
                · rw [e3, show dd (c + 1) ⟨a, d, π, B⟩ = 0 from if_pos (show a < c + 1 by omega)]
          · obtain rfl : c = N := by omega
            rw [hT]
            refine run0 ?_
            refine ⟨.inr rfl, _, (imp_stl (h := [(7, (1, fun _ => .ones WT c (fun i => .own 3 i))), (3, (c, fun r => .rats m (fun j => .q (B (π r) j)))), (5, (1, fun _ => .rats 1 fun _ => .q (dd c ⟨a, d, π, B⟩)))]) (e := [(4, .own 7 0), (5, .rptr 5 0 0), (6, .i (a : Int))]) (sP 3 c π) (fun h => by cases h) (fun g r g' r' _ _ => sP_inj hlt hinj g r g' r') ?_ ?_).trans (imp_mat2 4 (fun _ => m) (fun i j => .q (B (π i) j)) rfl rfl rfl (fun _ _ => rfl) rfl (fun _ _ => rfl) (by decide)), .three (.tmp rfl) (.rat rfl rfl (by decide) rfl (by decide) rfl) (.tmp rfl)⟩
            · exact alle rfl (Le.own (sP_ne (by decide) 0)) rfl (alle rfl (Le.rptr (sP_ne (by decide) 0)) rfl (alle rfl (Le.eq rfl rfl) True.intro True.intro))
            · refine ⟨fun r hr => ?_, fun r hr => ?_, fun r hr => ?_, True.intro⟩
              · obtain rfl : r = 0 := by omega
                rw [sP_ne (by decide)]
                exact ⟨1, _, rfl, Nat.zero_lt_one, bleo rfl fun i hi => Le.own (sP_g hi), fun i hi => rfl⟩
              · rw [sP_g hr]
                exact ⟨c, _, rfl, hlt r hr, blen rfl fun _ _ => rfl, True.intro⟩
              · obtain rfl : r = 0 := by omega
                rw [sP_ne (by decide)]
                exact ⟨1, _, rfl, Nat.zero_lt_one, ble1 rfl, True.intro⟩
end Go.Proofs.YtdnmoggifjlbiaaGreat.AM
/- How long numbers are, by bits: while the steps are done. -/
namespace Go.Proofs.YtdnmoggifjlbiaaGreat.AM
open Go.Proofs.YtdnmoggifjlbiaaGreat.PN
open Go.Proofs.YtdnmoggifjlbiaaGreat.LA (S S_succ S_zero S_congr)
set_option linter.unusedVariables false
set_option linter.unusedSimpArgs false
/-- How many bits numbers have when a pivots are found. -/
def gb (n K a : Nat) : Nat := 4 ^ (min a (n - 1)) * (K + 1)
theorem gb_pos (n K a : Nat) : K + 1 ≤ gb n K a := Nat.le_mul_of_pos_left _ (Nat.pow_pos (by decide))
theorem gb_last {n K a : Nat} (h : ¬ a + 1 ≤ n - 1) : gb n K (a + 1) = gb n K a ∨ a + 1 ≤ n - 1 := by
  unfold gb
  exact .inl (by rw [show min (a + 1) (n - 1) = min a (n - 1) by omega])
theorem gb_step {n K a : Nat} (h : a + 1 ≤ n - 1) : gb n K (a + 1) = 4 * gb n K a := by
  unfold gb
  rw [show min (a + 1) (n - 1) = min a (n - 1) + 1 by omega, Nat.pow_succ]
  ac_rfl
structure EB (n K : Nat) (s : ES) : Prop where
  A : ∀ i j, Bt (s.A i j) (gb n K s.at' - 1)
  d : Bt s.d (3 * gb n K s.at')
  d' : s.at' < n → Bt s.d (2 * gb n K s.at')
theorem det1_bt {d : Rat} {X i j : Nat} [h : Bt d X] : Bt (det1 d i j) X := by
  unfold det1; split
  · exact h
  · exact inferInstance
theorem stp_eb {n m c K : Nat} {s : ES} (hn : 0 < n) (h : EB n K s) : EB n K (stp n m false s c) := by
  unfold stp
  split
  · rename_i hi
    obtain ⟨h1, h2, _, _⟩ := fnd_le (fun i => s.A (s.π i) c ≠ 0) (n - s.at') s.at'
    generalize fnd (fun i => s.A (s.π i) c ≠ 0) (n - s.at') s.at' = i0 at *
    have han : s.at' < n := by omega
    have w1 := det1_bt (i := i0) (j := s.at') (h := h.d' han)
    have w2 := h.A (s.π i0) c
    have hp := gb_pos n K s.at'
    have w3 := Bt.mul (h := w1) (k := w2)
    by_cases hl : s.at' + 1 ≤ n - 1
    · have e := gb_step (K := K) hl
      refine ⟨fun i j => ?_, w3.mono ?_, fun _ => w3.mono ?_⟩
      · show Bt (cln _ _ _ _ _ _ _ i j) (gb n K (s.at' + 1) - 1)
        rw [e]
        unfold cln
        split
        · have hA := h.A
          exact (inferInstance : Bt (s.A i j - s.A i c / s.A (swp s.π i0 s.at' s.at') c * s.A (swp s.π i0 s.at' s.at') j) _).mono (by omega)
        · exact (h.A i j).mono (by omega)
      · show _ ≤ 3 * gb n K (s.at' + 1); omega
      · show _ ≤ 2 * gb n K (s.at' + 1); omega
    · have e : gb n K (s.at' + 1) = gb n K s.at' := (gb_last hl).resolve_right hl
      refine ⟨fun i j => ?_, w3.mono ?_, fun hlt => ?_⟩
      · show Bt (cln _ _ _ _ _ _ _ i j) (gb n K (s.at' + 1) - 1)
        rw [e]
        unfold cln
        rw [if_neg]
        · exact h.A i j
        · rintro ⟨⟨k, h3, h4, _⟩, _⟩
          rcases h4 with h4 | ⟨h4, _⟩
          · omega
          · cases h4
      · show _ ≤ 3 * gb n K (s.at' + 1); omega
      · have hlt : s.at' + 1 < n := hlt
        omega
  · exact h
theorem stps_eb {n m K : Nat} {A : Nat → Nat → Rat} (hn : 0 < n) (hK : 1 ≤ K) [hA : ∀ i j, Bt (A i j) K] : ∀ c, EB n K (stps n m false A c)
  | 0 => by
    have e : gb n K 0 = K + 1 := by unfold gb; rw [Nat.zero_min, Nat.pow_zero, Nat.one_mul]
    have h1 : Bt (1 : Rat) 1 := inferInstance
    refine ⟨fun i j => ?_, ?_, fun _ => ?_⟩
    · show Bt (A i j) (gb n K 0 - 1); rw [e]; exact hA i j
    · show Bt (1 : Rat) (3 * gb n K 0); rw [e]; exact h1.mono (by omega)
    · show Bt (1 : Rat) (2 * gb n K 0); rw [e]; exact h1.mono (by omega)
  | c + 1 => stp_eb hn (stps_eb hn hK c)
theorem gb_le (n K a : Nat) : gb n K a ≤ 4 ^ (n - 1) * (K + 1) := Nat.mul_le_mul_right _ (Nat.pow_le_pow_right (by decide) (Nat.min_le_right _ _))
theorem TB.of {n m K X : Nat} {A : Nat → Nat → Rat} (hn : 0 < n) (hK : 1 ≤ K) [hA : ∀ i j, Bt (A i j) K] (hX : (3 * (4 ^ (n - 1) * (K + 1))) / 32 + 1 ≤ X) : TB n m X A := by
  refine ⟨fun c _ => ?_, fun c _ i j => ?_⟩
  · have h := (stps_eb (m := m) hn hK (hA := hA) c).d
    have := gb_le n K (stps n m false A c).at'
    exact (h.mono (show _ ≤ 3 * (4 ^ (n - 1) * (K + 1)) by omega)).wt hX
  · have h := (stps_eb (m := m) hn hK (hA := hA) c).A i j
    have := gb_le n K (stps n m false A c).at'
    exact (h.mono (show _ ≤ 3 * (4 ^ (n - 1) * (K + 1)) by omega)).wt hX
end Go.Proofs.YtdnmoggifjlbiaaGreat.AM
/- The document's dense matrices: walked. -/
namespace Go.Proofs.YtdnmoggifjlbiaaGreat.AM
open Go Go.RowKit Go.Proofs.YtdnmoggifjlbiaaGreat.PN Go.Proofs.YtdnmoggifjlbiaaGreat.V
open Go.Proofs.YtdnmoggifjlbiaaGreat.LA (S S_succ S_zero S_congr)
set_option linter.unusedVariables false
set_option linter.unusedSimpArgs false
set_option maxRecDepth 4000
set_option maxHeartbeats 4000000
theorem Wt.sumn {K : Nat} {f : Nat → Rat} : ∀ {n : Nat}, (∀ i, i < n → Wt (f i) K) → Wt (S n f) (n * (K + 1) + 1)
  | 0, _ => by rw [S_zero, Nat.zero_mul]; exact (inferInstance : Wt 0 1)
  | n + 1, h => by
    have h1 := Wt.sumn (n := n) (fun i hi => h i (by omega))
    have h2 := h n (Nat.lt_succ_self n)
    rw [S_succ]
    exact (inferInstance : Wt (S n f + f n) _).mono (by rw [Nat.succ_mul]; omega)
theorem r7_apply {n m K L : Nat} {F : Nat → Nat → Rat} {v : Nat → Rat} [hf : ∀ i j, Wt (F i j) K] [hv : ∀ i, Wt (v i) L] (hK : m * (K + L + 1) + 1 ≤ 15000 ∧ K + L ≤ 15000) (hn : n ≤ 8) (hm : m ≤ 8) : Has Tryz.prog 40 [.mat false n (fun _ => m) (fun i j => .q (F i j)), .row false m (fun i => .q (v i))] (.row true n (fun i => .q (S m fun j => F i j * v j))) := by
  refine has_of Tryz.func40 (by kernel_rfl) rfl Tryz.ntmps40 Tryz.results40 rfl rfl rfl ?_
  refine run0 ?_
  refine awp_loop (fun m' s => ∃ k, k ≤ n ∧ m' = n - k ∧ s = accS 5 (.rats k (fun i => .q (S m fun j => F i j * v j))) [(0, .mat false n (fun _ => m) (fun i j => .q (F i j))), (1, .row false m (fun i => .q (v i))), (6, .i (k : Int))] []) n _ (acc_start rfl rfl (by exact rfl) rfl (by decide) ?_ ?_) ⟨0, Nat.zero_le _, rfl, rfl⟩ ?_
  · exact eA
  · exact hA
  · rintro m' s ⟨k, hk, rfl, rfl⟩
    refine run0 ?_
    refine awp_if rfl (fun h => ?_) (fun h => ?_)
    · have h : k < n := by omega
      repeat(first|refine run1 ?_|((with_reducible apply st_call);exact rfl;exact rfl;exact rfl;first|(exact hs_zero))|((with_reducible apply st_callg);exact rfl;exact rfl;(first|exact rfl|assumption);exact rfl;exact rfl;exact rfl;first|(exact hs_zero)))
      refine awp_loop (fun m' s => ∃ j, j ≤ m ∧ m' = m - j ∧ s = accS 5 (.rats k (fun i => .q (S m fun j => F i j * v j))) [(0, .mat false n (fun _ => m) (fun i j => .q (F i j))), (1, .row false m (fun i => .q (v i))), (6, .i (k : Int)), (7, .rptr 7 0 0), (8, .i (j : Int))] [(7, (1, fun _ => .rats 1 fun _ => .q (S j fun j => F k j * v j)))]) m _ (imp_id ?_ ?_) ⟨0, Nat.zero_le _, rfl, rfl⟩ ?_
      · exact eA
      · exact hA
      · rintro m' s ⟨j, hj, rfl, rfl⟩
        have w1 : Wt (S j fun j => F k j * v j) (m * (K + L + 1) + 1) := (Wt.sumn fun i _ => inferInstance).mono (Nat.succ_le_succ (Nat.mul_le_mul_right _ hj))
        refine run0 ?_
        refine awp_if rfl (fun h1 => ?_) (fun h1 => ?_)
        · have h1 : j < m := by omega
          repeat(first|refine run1 ?_|((with_reducible apply st_call);exact rfl;exact rfl;exact rfl;first|(exact cs_mul ⟨by omega, by omega⟩)|(exact cs_add ⟨by omega, by omega⟩))|((with_reducible apply st_callg);exact rfl;exact rfl;(first|exact rfl|assumption);exact rfl;exact rfl;exact rfl;first|(exact cs_mul ⟨by omega, by omega⟩)|(exact cs_add ⟨by omega, by omega⟩)))
          refine q_loop (m' := m - (j + 1)) (by omega) (imp_id (e := (5, .own 5 0) :: [(0, .mat false n (fun _ => m) (fun i j => .q (F i j))), (1, .row false m (fun i => .q (v i))), (6, .i (k : Int)), (7, .rptr 7 0 0), (8, .i ((j + 1 : Nat) : Int))]) (h := (5, (1, fun _ => .rats k (fun i => .q (S m fun j => F i j * v j)))) :: [(7, (1, fun _ => .rats 1 fun _ => .q (S (j + 1) fun j => F k j * v j)))]) ?_ ?_) ⟨j + 1, by omega, rfl, rfl⟩
          · exact eA
          · exact hA
        · obtain rfl : j = m := by omega
          refine run0 ?_
          refine q_loop (m' := n - (k + 1)) (by omega) (acc_next (a := 39) rfl rfl rfl (glue_one rfl) (by exact True.intro) rfl rfl ?_ (by exact True.intro)) ⟨k + 1, by omega, rfl, rfl⟩
          refine alle rfl (Le.eq rfl rfl) True.intro (alle rfl (Le.eq rfl rfl) True.intro (alle rfl (Le.eq rfl rfl) True.intro True.intro))
    · obtain rfl : k = n := by omega
      refine run0 ?_
      refine ⟨.inr rfl, _, imp_row 4 rfl rfl rfl, ?_⟩
      exact .one (.tmp rfl)
end Go.Proofs.YtdnmoggifjlbiaaGreat.AM
/- The document's dense matrices: the rest; leading minors: walked. -/
namespace Go.Proofs.YtdnmoggifjlbiaaGreat.AM
open Go Go.RowKit Go.Proofs.YtdnmoggifjlbiaaGreat.PN Go.Proofs.YtdnmoggifjlbiaaGreat.V
open Go.Proofs.YtdnmoggifjlbiaaGreat.LA (S S_succ S_zero S_congr)
set_option linter.unusedVariables false
set_option linter.unusedSimpArgs false
set_option maxRecDepth 4000
set_option maxHeartbeats 4000000
theorem stps_congr {n m : Nat} {all : Bool} {A A' : Nat → Nat → Rat} (h : ∀ i j, j < m → A i j = A' i j) : ∀ c, c ≤ m → (stps n m all A c).at' = (stps n m all A' c).at' ∧ (stps n m all A c).d = (stps n m all A' c).d ∧ (stps n m all A c).π = (stps n m all A' c).π ∧ ∀ i j, j < m → (stps n m all A c).A i j = (stps n m all A' c).A i j
  | 0, _ => ⟨rfl, rfl, rfl, h⟩
  | c + 1, hc => by
    obtain ⟨h1, h2, h3, h4⟩ := stps_congr h c (by omega)
    show (stp n m all (stps n m all A c) c).at' = (stp n m all (stps n m all A' c) c).at' ∧ (stp n m all (stps n m all A c) c).d = (stp n m all (stps n m all A' c) c).d ∧ (stp n m all (stps n m all A c) c).π = (stp n m all (stps n m all A' c) c).π ∧ ∀ i j, j < m → (stp n m all (stps n m all A c) c).A i j = (stp n m all (stps n m all A' c) c).A i j
    generalize stps n m all A c = s at *
    generalize stps n m all A' c = s' at *
    obtain ⟨a, d, π, B⟩ := s
    obtain ⟨a', d', π', B'⟩ := s'
    have h1 : a = a' := h1
    have h2 : d = d' := h2
    have h3 : π = π' := h3
    have k4 : ∀ i j, j < m → B i j = B' i j := h4
    clear h4
    subst h1; subst h2; subst h3
    have hp : (fun i => B (π i) c ≠ 0) = (fun i => B' (π i) c ≠ 0) := by funext i; rw [k4 _ _ (by omega)]
    unfold stp
    simp only [hp]
    split
    · refine ⟨rfl, ?_, rfl, fun i j hj => ?_⟩
      · show _ * B _ c = _ * B' _ c
        rw [k4 _ _ (by omega)]
      · show cln B _ _ _ _ _ _ i j = cln B' _ _ _ _ _ _ i j
        unfold cln
        rw [k4 i j hj, k4 i c (by omega), k4 _ c (by omega), k4 _ j hj]
    · exact ⟨rfl, rfl, rfl, k4⟩
theorem gs_eq (n : Nat) (F : Nat → Nat → Rat) : (stps n n false F n).at' = (gs n F).at' ∧ (stps n n false F n).d = (gs n F).d := by
  have h := stps_congr (n := n) (m := n) (all := false) (A := F) (A' := aug n F fun _ _ => 0) (fun i j hj => by unfold aug; rw [if_pos hj]) n (Nat.le_refl n)
  exact ⟨h.1, h.2.1⟩
theorem dd_gdet (n : Nat) (F : Nat → Nat → Rat) : dd n (stps n n false F n) = gdet n F := by
  obtain ⟨h1, h2⟩ := gs_eq n F
  unfold dd gdet
  rw [h1, h2]
theorem r7_det {n X : Nat} {F : Nat → Nat → Rat} (hB : TB n n X F) (hX : X ≤ 2400) (h0 : 0 < n) (hn : n ≤ 8) : Has Tryz.prog 39 [.mat false n (fun _ => n) (fun i j => .q (F i j))] (.q (gdet n F)) := by
  refine has_of Tryz.func39 (by kernel_rfl) rfl Tryz.ntmps39 Tryz.results39 rfl rfl rfl ?_
  have c := r7_triangle hB hX h0 hn (Nat.le_refl n) (by omega)
  rw [dd_gdet] at c
  repeat(first|refine run1 ?_|((with_reducible apply st_call);exact rfl;exact rfl;exact rfl;first|(exact c))|((with_reducible apply st_callg);exact rfl;exact rfl;(first|exact rfl|assumption);exact rfl;exact rfl;exact rfl;first|(exact c)))
  refine ⟨.inr rfl, _, Imp.refl _, ?_⟩
  exact .one (.rat rfl rfl (by decide) rfl (by decide) rfl)
theorem r7_rank {n X : Nat} {F : Nat → Nat → Rat} (hB : TB n n X F) (hX : X ≤ 2400) (h0 : 0 < n) (hn : n ≤ 8) : Has Tryz.prog 28 [.mat false n (fun _ => n) (fun i j => .q (F i j))] (.i (gs n F).at') := by
  refine has_of Tryz.func28 (by kernel_rfl) rfl Tryz.ntmps28 Tryz.results28 rfl rfl rfl ?_
  have c := r7_triangle hB hX h0 hn (Nat.le_refl n) (by omega)
  rw [(gs_eq n F).1] at c
  repeat(first|refine run1 ?_|((with_reducible apply st_call);exact rfl;exact rfl;exact rfl;first|(exact c))|((with_reducible apply st_callg);exact rfl;exact rfl;(first|exact rfl|assumption);exact rfl;exact rfl;exact rfl;first|(exact c)))
  refine ⟨.inr rfl, _, Imp.refl _, ?_⟩
  exact .one (.tmp rfl)
theorem r7_cut {n m k : Nat} {F : Nat → Nat → Rat} (hk : k ≤ n) (hm : k ≤ m) (hn : n ≤ 8) : Has Tryz.prog 118 [.mat false n (fun _ => m) (fun i j => .q (F i j)), .i k] (.mat true k (fun _ => k) (fun i j => .q (F i j))) := by
  refine has_of Tryz.func118 (by kernel_rfl) rfl Tryz.ntmps118 Tryz.results118 rfl rfl rfl ?_
  refine run0 ?_
  refine awp_loop (fun m' s => ∃ u, u ≤ k ∧ m' = k - u ∧ s = accS 5 (.ones WT u (fun i => .row true k fun j => .q (F i j))) [(0, .mat false n (fun _ => m) (fun i j => .q (F i j))), (1, .i k), (6, .i (u : Int))] []) k _ (acc_start rfl rfl (by exact ⟨by decide, rfl⟩) rfl (by decide) ?_ ?_) ⟨0, Nat.zero_le _, rfl, rfl⟩ ?_
  · exact eA
  · exact hA
  · rintro m' s ⟨u, hu, rfl, rfl⟩
    refine run0 ?_
    refine awp_if rfl (fun h => ?_) (fun h => ?_)
    · have h : u < k := by omega
      refine run0 ?_
      refine q_loop (m' := k - (u + 1)) (by omega) (acc_pub (a := 22) (c := 20) rfl rfl rfl (fun i hi => if_pos hi) (by show (if _ then _ else _) = _; rw [if_neg (Nat.lt_irrefl _), Nat.sub_self]; rfl) rfl rfl ?_ rfl (by omega) (fun _ => by exact True.intro) (by decide) rfl rfl ?_ (by exact True.intro)) ⟨u + 1, by omega, rfl, rfl⟩
      · intro j hj
        show glue _ _ _ j = _
        unfold glue
        rw [if_neg (Nat.not_lt_zero _), Nat.sub_zero]
        show RA.q (F u (0 + j)) = _
        rw [Nat.zero_add]
      · refine alle rfl (Le.eq rfl rfl) True.intro (alle rfl (Le.eq rfl rfl) True.intro (alle rfl (Le.eq rfl rfl) True.intro True.intro))
    · obtain rfl : u = k := by omega
      refine run0 ?_
      refine ⟨.inr rfl, _, imp_mat 4 (fun _ => u) (fun i j => .q (F i j)) rfl rfl rfl (fun _ _ => rfl), ?_⟩
      exact .one (.tmp rfl)
end Go.Proofs.YtdnmoggifjlbiaaGreat.AM
/- Determinants and ranks: the plain laws. -/
namespace Go.Proofs.YtdnmoggifjlbiaaGreat.AM
open Go.Proofs.YtdnmoggifjlbiaaGreat.LA (Mt S S_succ S_zero S_congr det det_congr det_swp det_mul det_tr det_one HasRank rank_full rank_unique rank_tr)
set_option linter.unusedVariables false
set_option linter.unusedSimpArgs false
theorem gdet_det (n : Nat) (F : Nat → Nat → Rat) : gdet n F = det n F := by rw [← dd_gdet]; exact fin_det (Nat.le_refl n)
theorem gs_rank (n : Nat) (F : Nat → Nat → Rat) : HasRank n F (gs n F).at' := by rw [← (gs_eq n F).1]; exact fin_rank (Nat.le_refl n)
theorem gs_le (n : Nat) (F : Nat → Nat → Rat) : (gs n F).at' ≤ n := (rank_full (gs_rank n F)).1
theorem gs_of {n r : Nat} {F : Nat → Nat → Rat} (h : HasRank n F r) : (gs n F).at' = r := rank_unique (gs_rank n F) h
theorem gdet_mul (n : Nat) (A B : Nat → Nat → Rat) : gdet n (fun i j => S n fun k => A i k * B k j) = gdet n A * gdet n B := by
  rw [gdet_det, gdet_det, gdet_det]; exact det_mul n A B
theorem gdet_turn (n : Nat) (A : Nat → Nat → Rat) : gdet n (fun i j => A j i) = gdet n A := by
  rw [gdet_det, gdet_det]; exact det_tr n A
theorem rank_turn (n : Nat) (A : Nat → Nat → Rat) : (gs n fun i j => A j i).at' = (gs n A).at' := gs_of (rank_tr (gs_rank n A))
theorem gdet_zero (n : Nat) (A : Nat → Nat → Rat) : gdet n A = 0 ↔ (gs n A).at' < n := by
  obtain ⟨h1, h2⟩ := rank_full (gs_rank n A)
  rw [gdet_det]
  constructor
  · intro h
    rcases Nat.lt_or_ge (gs n A).at' n with h3 | h3
    · exact h3
    · exact absurd h (h2.1 (by omega))
  · intro h
    exact Classical.byContradiction fun h3 => by have := h2.2 h3; omega
theorem gdet_swap {n : Nat} (A : Nat → Nat → Rat) {i j : Nat} (hi : i < n) (hj : j < n) : gdet n (fun r c => A (swp (fun i => i) i j r) c) = if i = j then gdet n A else - gdet n A := by
  rw [gdet_det, gdet_det]
  by_cases e : i = j
  · subst e; rw [if_pos rfl]
    exact det_congr fun r c _ _ => by rw [swp_self]
  · rw [if_neg e, ← det_swp A hi hj e]
    refine det_congr fun r c _ _ => ?_
    unfold swp updN LA.swp
    by_cases e1 : r = j
    · subst e1; rw [if_pos rfl, if_neg (Ne.symm e), if_pos rfl]
    · rw [if_neg e1]
      by_cases e2 : r = i
      · subst e2; rw [if_pos rfl, if_pos rfl]
      · rw [if_neg e2, if_neg e2, if_neg e1]
theorem gdet_id (n : Nat) : gdet n idm = 1 := by rw [gdet_det]; exact det_one n
theorem rank_id (n : Nat) : (gs n idm).at' = n := by
  have h := (rank_full (gs_rank n idm)).2
  refine h.2 ?_
  rw [← gdet_det, gdet_id]; decide
end Go.Proofs.YtdnmoggifjlbiaaGreat.AM
/- Displaced matrices: the plain laws. -/
namespace Go.Proofs.YtdnmoggifjlbiaaGreat.AM
open Go.Proofs.YtdnmoggifjlbiaaGreat.PN
open Go.Proofs.YtdnmoggifjlbiaaGreat.LA (S S_succ S_zero S_congr S_first S_null Mt HasRank rank_le)
set_option linter.unusedVariables false
set_option linter.unusedSimpArgs false
set_option maxRecDepth 8000
set_option maxHeartbeats 8000000
/-- An entry; nought outside. -/
def gat (g : GD) (a b : Int) : Rat := if a < 0 ∨ b < 0 ∨ (g.n : Int) ≤ a ∨ (g.n : Int) ≤ b then 0 else gent g a.toNat b.toNat
/-- The displaced matrix. -/
def gdis (g : GD) (i j : Nat) : Rat :=
  match g.k with
  | 2 => gat g ((i : Int) - 1) j - gat g i ((j : Int) - 1)
  | 4 => g.A i * gat g i j - gat g i ((j : Int) + 1)
  | 5 => (g.A i - g.B j) * gat g i j
  | 7 => (g.A i - g.B j) * gat g i j
  | _ => gat g i j - gat g ((i : Int) - 1) ((j : Int) - 1)
theorem gat_in {g : GD} {i j : Nat} (hi : i < g.n) (hj : j < g.n) : gat g i j = gent g i j := by
  unfold gat
  rw [if_neg (by omega)]; rfl
theorem gat_at {g : GD} {a b : Int} {i j : Nat} (hi : i < g.n) (hj : j < g.n) (ha : a = i) (hb : b = j) : gat g a b = gent g i j := by rw [ha, hb, gat_in hi hj]
theorem gat_out {g : GD} {a b : Int} (h : a < 0 ∨ b < 0 ∨ (g.n : Int) ≤ a ∨ (g.n : Int) ≤ b) : gat g a b = 0 := if_pos h
theorem gat_bt {g : GD} (h : g.OK) (s : Sml5 g) (a b : Int) : Bt (gat g a b) 41 := by
  unfold gat
  split
  · exact Bt.zero.mono (by decide)
  · exact gent_bt h s (by omega) (by omega)
theorem sub_ne {x y : Rat} (h : x ≠ y) : x - y ≠ 0 := fun e => h (by rw [← Rat.sub_add_cancel (a := x) (b := y), e, Rat.zero_add])
theorem gdis_like {g : GD} (h : g.OK) (hk : g.k = 6 ∨ g.k = 7) {i j : Nat} (hi : i < g.n) (hj : j < g.n) : gdis g i j = rdot g i j := by
  obtain ⟨m1, m2, m3, m4⟩ := ok_lens h
  rcases hk with hk | hk
  · have e6 : ∀ i j, gent g i j = S (min i j + 1) fun m => rdot g (i - m) (j - m) := fun i j => by unfold gent; rw [hk]; rfl
    have e0 : gdis g i j = gat g i j - gat g ((i : Int) - 1) ((j : Int) - 1) := by unfold gdis; rw [hk]; rfl
    rw [e0, gat_in hi hj]
    by_cases h0 : i = 0 ∨ j = 0
    · rw [gat_out (by omega), e6, show min i j = 0 by omega, S_succ, S_zero, Rat.zero_add, Rat.sub_eq_add_neg, Rat.neg_zero, Rat.add_zero]; rfl
    · obtain ⟨a, rfl⟩ : ∃ a, i = a + 1 := ⟨i - 1, by omega⟩
      obtain ⟨b, rfl⟩ : ∃ b, j = b + 1 := ⟨j - 1, by omega⟩
      rw [gat_at (i := a) (j := b) (by omega) (by omega) (by omega) (by omega), e6, e6, show min (a + 1) (b + 1) + 1 = (min a b + 1) + 1 by omega, S_first]
      rw [S_congr (g := fun m => rdot g (a - m) (b - m)) (fun m _ => by rw [Nat.add_sub_add_right, Nat.add_sub_add_right])]
      show rdot g (a + 1) (b + 1) + _ - _ = _
      generalize S (min a b + 1) (fun m => rdot g (a - m) (b - m)) = x
      rw [Rat.sub_eq_add_neg, Rat.add_assoc, Rat.add_neg_cancel, Rat.add_zero]
  · have e0 : gdis g i j = (g.A i - g.B j) * gat g i j := by unfold gdis; rw [hk]; rfl
    have hne := sub_ne (h.ne i (by omega) j (by omega))
    rw [e0, gat_in hi hj]
    show _ * gent g i j = _
    have : gent g i j = rdot g i j / (g.A i - g.B j) := by unfold gent; rw [hk]; rfl
    rw [this, Rat.div_def, Rat.mul_comm (rdot g i j), ← Rat.mul_assoc, Rat.mul_inv_cancel _ hne, Rat.one_mul]
def dmost (g : GD) : Nat := match g.k with
  | 1 | 2 | 3 => 2
  | 4 | 5 => 1
  | _ => g.r
/-- Rows that are nought but for the first, and the first column. -/
theorem hook {n : Nat} {F : Mt} (h : ∀ i j, i < n → j < n → 0 < i → 0 < j → F i j = 0) : ∃ U V : Mt, ∀ i j, i < n → j < n → F i j = S 2 (fun q => U i q * V q j) := by
  refine ⟨fun i q => if q = 0 then (if i = 0 then 1 else 0) else (if i = 0 then 0 else F i 0), fun q j => if q = 0 then F 0 j else (if j = 0 then 1 else 0), fun i j hi hj => ?_⟩
  rw [S_succ, S_succ, S_zero]
  by_cases h0 : i = 0
  · subst h0; simp [Rat.zero_add, Rat.add_zero]
  · by_cases h1 : j = 0
    · subst h1; simp [h0, Rat.zero_add, Rat.add_zero]
    · rw [h i j hi hj (by omega) (by omega)]; simp [h0, h1, Rat.add_zero]
theorem gdis_low {g : GD} (h : g.OK) : ∃ U V : Mt, ∀ i j, i < g.n → j < g.n → gdis g i j = S (dmost g) (fun q => U i q * V q j) := by
  have h1 := h.k1; have h7 := h.k7; have n1 := h.n1
  obtain ⟨m1, m2, m3, m4⟩ := ok_lens h
  have hk : g.k = 1 ∨ g.k = 2 ∨ g.k = 3 ∨ g.k = 4 ∨ g.k = 5 ∨ g.k = 6 ∨ g.k = 7 := by omega
  have sub0 : ∀ x : Rat, x - x = 0 := fun x => Rat.sub_self
  rcases hk with hk | hk | hk | hk | hk | hk | hk
  · rw [show dmost g = 2 by unfold dmost; rw [hk]; rfl]
    refine hook fun i j hi hj h0 h0' => ?_
    have e0 : gdis g i j = gat g i j - gat g ((i : Int) - 1) ((j : Int) - 1) := by unfold gdis; rw [hk]; rfl
    have e : ∀ i j, gent g i j = g.A (i + g.n - 1 - j) := fun i j => by unfold gent; rw [hk]; rfl
    rw [e0, gat_in hi hj, gat_at (i := i - 1) (j := j - 1) (by omega) (by omega) (by omega) (by omega), e, e, show i - 1 + g.n - 1 - (j - 1) = i + g.n - 1 - j by omega, sub0]
  · rw [show dmost g = 2 by unfold dmost; rw [hk]; rfl]
    refine hook fun i j hi hj h0 h0' => ?_
    have e0 : gdis g i j = gat g ((i : Int) - 1) j - gat g i ((j : Int) - 1) := by unfold gdis; rw [hk]; rfl
    have e : ∀ i j, gent g i j = g.A (i + j) := fun i j => by unfold gent; rw [hk]; rfl
    rw [e0, gat_at (i := i - 1) (j := j) (by omega) (by omega) (by omega) rfl, gat_at (i := i) (j := j - 1) (by omega) (by omega) rfl (by omega), e, e, show i - 1 + j = i + (j - 1) by omega, sub0]
  · rw [show dmost g = 2 by unfold dmost; rw [hk]; rfl]
    refine hook fun i j hi hj h0 h0' => ?_
    have e0 : gdis g i j = gat g i j - gat g ((i : Int) - 1) ((j : Int) - 1) := by unfold gdis; rw [hk]; rfl
    have e : ∀ i j, gent g i j = g.A ((i + g.n - j) % g.n) := fun i j => by unfold gent; rw [hk]; rfl
    rw [e0, gat_in hi hj, gat_at (i := i - 1) (j := j - 1) (by omega) (by omega) (by omega) (by omega), e, e, show i - 1 + g.n - (j - 1) = i + g.n - j by omega, sub0]
  · rw [show dmost g = 1 by unfold dmost; rw [hk]; rfl]
    refine ⟨fun i _ => gdis g i (g.n - 1), fun _ j => if j + 1 = g.n then 1 else 0, fun i j hi hj => ?_⟩
    rw [S_succ, S_zero, Rat.zero_add]
    by_cases ej : j + 1 = g.n
    · show _ = gdis g i (g.n - 1) * (if j + 1 = g.n then 1 else 0)
      rw [if_pos ej, Rat.mul_one, show g.n - 1 = j by omega]
    · show _ = gdis g i (g.n - 1) * (if j + 1 = g.n then 1 else 0)
      rw [if_neg ej, Rat.mul_zero]
      have e0 : gdis g i j = g.A i * gat g i j - gat g i ((j : Int) + 1) := by unfold gdis; rw [hk]; rfl
      have e : ∀ i j, gent g i j = g.A i ^ j := fun i j => by unfold gent; rw [hk]; rfl
      rw [e0, gat_in hi hj, gat_at (i := i) (j := j + 1) (by omega) (by omega) rfl (by omega), e, e, Rat.pow_succ, Rat.mul_comm, sub0]
  · rw [show dmost g = 1 by unfold dmost; rw [hk]; rfl]
    refine ⟨fun _ _ => 1, fun _ _ => 1, fun i j hi hj => ?_⟩
    rw [S_succ, S_zero, Rat.zero_add, Rat.mul_one]
    have e0 : gdis g i j = (g.A i - g.B j) * gat g i j := by unfold gdis; rw [hk]; rfl
    have hne := sub_ne (h.ne i (by omega) j (by omega))
    have e : gent g i j = 1 / (g.A i - g.B j) := by unfold gent; rw [hk]; rfl
    rw [e0, gat_in hi hj, e, Rat.div_def, Rat.one_mul, Rat.mul_inv_cancel _ hne]
  · rw [show dmost g = g.r by unfold dmost; rw [hk]; rfl]
    exact ⟨fun i q => g.G (i * g.r + q), fun q j => g.H (j * g.r + q), fun i j hi hj => gdis_like h (.inl hk) hi hj⟩
  · rw [show dmost g = g.r by unfold dmost; rw [hk]; rfl]
    exact ⟨fun i q => g.G (i * g.r + q), fun q j => g.H (j * g.r + q), fun i j hi hj => gdis_like h (.inr hk) hi hj⟩
theorem gdis_bt {g : GD} (h : g.OK) (s : Sml5 g) {i j : Nat} (hi : i < g.n) (hj : j < g.n) : Bt (gdis g i j) 100 := by
  have h1 := h.k1; have h7 := h.k7
  obtain ⟨m1, m2, m3, m4⟩ := ok_lens h
  have hb := gat_bt h s
  have hsub : Bt (gat g i j - gat g ((i : Int) - 1) ((j : Int) - 1)) 100 := by
    have a := hb i j; have b := hb ((i : Int) - 1) ((j : Int) - 1)
    exact (inferInstance : Bt (gat g i j - gat g ((i : Int) - 1) ((j : Int) - 1)) (41 + 41 + 1)).mono (by decide)
  have hk : g.k = 1 ∨ g.k = 2 ∨ g.k = 3 ∨ g.k = 4 ∨ g.k = 5 ∨ g.k = 6 ∨ g.k = 7 := by omega
  have hap : g.k = 5 ∨ g.k = 7 → Bt ((g.A i - g.B j) * gat g i j) 100 := fun hk => by
    have hA := s.A i (by omega); have hB := s.B j (by omega); have a := hb i j
    exact (inferInstance : Bt ((g.A i - g.B j) * gat g i j) (5 + 13 + 1 + 41)).mono (by decide)
  unfold gdis
  rcases hk with hk | hk | hk | hk | hk | hk | hk
  · rw [hk]; exact hsub
  · have a := hb ((i : Int) - 1) j; have b := hb i ((j : Int) - 1)
    rw [hk]; exact (inferInstance : Bt (gat g ((i : Int) - 1) j - gat g i ((j : Int) - 1)) (41 + 41 + 1)).mono (by decide)
  · rw [hk]; exact hsub
  · have hA := s.A i (by omega); have a := hb i j; have b := hb i ((j : Int) + 1)
    rw [hk]; exact (inferInstance : Bt (g.A i * gat g i j - gat g i ((j : Int) + 1)) (5 + 41 + 41 + 1)).mono (by decide)
  · rw [hk]; exact hap (.inl hk)
  · rw [hk]; exact hsub
  · rw [hk]; exact hap (.inr hk)
/-- .. as a whole matrix. -/
def gdc (g : GD) (i j : Nat) : Rat := if i < g.n ∧ j < g.n then gdis g i j else 0
theorem gdc_in {g : GD} {i j : Nat} (hi : i < g.n) (hj : j < g.n) : gdc g i j = gdis g i j := if_pos ⟨hi, hj⟩
theorem gdc_bt {g : GD} (h : g.OK) (s : Sml5 g) (i j : Nat) : Bt (gdc g i j) 100 := by
  unfold gdc
  split
  · exact gdis_bt h s (by omega) (by omega)
  · exact Bt.zero.mono (by decide)
theorem gdc_rank {g : GD} (h : g.OK) : (gs g.n (gdc g)).at' ≤ dmost g := by
  obtain ⟨U, V, hUV⟩ := gdis_low h
  exact rank_le (gs_rank g.n (gdc g)) ⟨U, V, fun i j hi hj => by rw [gdc_in hi hj]; exact hUV i j hi hj⟩
theorem stps_mono {n m : Nat} {all : Bool} {A : Nat → Nat → Rat} : ∀ {c d : Nat}, c ≤ d → (stps n m all A c).at' ≤ (stps n m all A d).at' := by
  intro c d h
  induction d with
  | zero => rw [show c = 0 by omega]; exact Nat.le_refl _
  | succ d ih =>
    by_cases e : c = d + 1
    · rw [e]; exact Nat.le_refl _
    · refine Nat.le_trans (ih (by omega)) ?_
      show _ ≤ (stp n m all (stps n m all A d) d).at'
      unfold stp
      split
      · exact Nat.le_succ _
      · exact Nat.le_refl _
/-- Of low rank the numbers do not grow. -/
theorem TB.low {n K X r : Nat} {F : Nat → Nat → Rat} (hn : 0 < n) (hK : 1 ≤ K) (hA : ∀ i j, Bt (F i j) K) (hr : (gs n F).at' ≤ r) (hX : (3 * (4 ^ r * (K + 1))) / 32 + 1 ≤ X) : TB n n X F := by
  have key : ∀ c, c ≤ n → gb n K (stps n n false F c).at' ≤ 4 ^ r * (K + 1) := fun c hc => by
    have h1 := stps_mono (n := n) (m := n) (all := false) (A := F) hc
    rw [(gs_eq n F).1] at h1
    exact Nat.mul_le_mul_right _ (Nat.pow_le_pow_right (by decide) (by omega))
  refine ⟨fun c hc => ?_, fun c hc i j => ?_⟩
  · have h := (stps_eb (m := n) hn hK (hA := hA) c).d
    have := key c hc
    exact (h.mono (show _ ≤ 3 * (4 ^ r * (K + 1)) by omega)).wt hX
  · have h := (stps_eb (m := n) hn hK (hA := hA) c).A i j
    have := key c hc
    exact (h.mono (show _ ≤ 3 * (4 ^ r * (K + 1)) by omega)).wt hX
/-- Summed along diagonals it is the matrix again. -/
theorem gdis_sum {g : GD} (hk : g.k = 1 ∨ g.k = 3 ∨ g.k = 6) : ∀ {i j : Nat}, i < g.n → j < g.n → S (min i j + 1) (fun k => gdis g (i - k) (j - k)) = gent g i j := by
  have e0 : ∀ i j : Nat, gdis g i j = gat g i j - gat g ((i : Int) - 1) ((j : Int) - 1) := fun i j => by
    unfold gdis
    rcases hk with hk | hk | hk <;> (rw [hk]; rfl)
  intro i
  induction i with
  | zero =>
    intro j hi hj
    rw [show min 0 j + 1 = 1 by omega, S_succ, S_zero, Rat.zero_add, e0, gat_in (by omega) (by omega), gat_out (by omega)]
    show _ - 0 = _
    rw [Rat.sub_eq_add_neg, Rat.neg_zero, Rat.add_zero]; rfl
  | succ i ih =>
    intro j hi hj
    cases j with
    | zero =>
      rw [show min (i + 1) 0 + 1 = 1 by omega, S_succ, S_zero, Rat.zero_add, e0, gat_in (by omega) (by omega), gat_out (by omega), Rat.sub_eq_add_neg, Rat.neg_zero, Rat.add_zero]; rfl
    | succ j =>
      rw [show min (i + 1) (j + 1) + 1 = (min i j + 1) + 1 by omega, S_first, S_congr (g := fun k => gdis g (i - k) (j - k)) (fun k _ => by rw [Nat.add_sub_add_right, Nat.add_sub_add_right]), ih (by omega) (by omega)]
      show gdis g (i + 1) (j + 1) + _ = _
      rw [e0, gat_in (i := i + 1) (j := j + 1) hi hj, gat_at (i := i) (j := j) (by omega) (by omega) (by omega) (by omega), Rat.sub_add_cancel]
end Go.Proofs.YtdnmoggifjlbiaaGreat.AM
/- Laws of systems: entries' weights; matrices of drawn systems. -/
namespace Go.Proofs.YtdnmoggifjlbiaaGreat.AM
open Go Go.RowKit Go.Proofs.YtdnmoggifjlbiaaGreat.PN Go.Proofs.YtdnmoggifjlbiaaGreat.V
open Go.Proofs.YtdnmoggifjlbiaaGreat.LA (S S_succ S_zero S_congr)
set_option linter.unusedVariables false
set_option linter.unusedSimpArgs false
set_option maxRecDepth 8000
set_option maxHeartbeats 8000000
theorem GD.ftok (g : GD) (U : Nat → Bool) : ∀ i, (g.ft i).ok U
  | 0 | 1 | 2 | 3 | 4 | 5 | 6 => trivial
  | _ + 7 => trivial
theorem le7 {σ : Ren} {T : TypeId} {f f' : Nat → AV} (h0 : Le σ (f 0) (f' 0)) (h1 : Le σ (f 1) (f' 1)) (h2 : Le σ (f 2) (f' 2)) (h3 : Le σ (f 3) (f' 3)) (h4 : Le σ (f 4) (f' 4)) (h5 : Le σ (f 5) (f' 5)) (h6 : Le σ (f 6) (f' 6)) : BLe σ (.ones T 7 f) (.ones T 7 f') :=
  bleo rfl fun i hi => by
    match i, hi with
    | 0, _ => exact h0
    | 1, _ => exact h1
    | 2, _ => exact h2
    | 3, _ => exact h3
    | 4, _ => exact h4
    | 5, _ => exact h5
    | 6, _ => exact h6
theorem GD.le_ft (g : GD) {σ : Ren} {T : TypeId} : BLe σ (.ones T 7 g.ft) (.ones T 7 g.ft) := le7 (Le.eq rfl rfl) (Le.eq rfl rfl) (Le.eq rfl rfl) (Le.eq rfl rfl) (Le.eq rfl rfl) (Le.eq rfl rfl) (Le.eq rfl rfl)
theorem pow_wt {p : Rat} (hp : wt p ≤ 4) : ∀ k, wt (p ^ k) ≤ 4 * k + 1 := by
  intro k
  induction k with
  | zero => rw [Rat.pow_zero]; decide
  | succ k ih => rw [Rat.pow_succ]; have := wt_mul (p ^ k) p; omega
theorem gent_wt {g : GD} (h : g.OK) {i j : Nat} (hi : i < g.n) (hj : j < g.n) : wt (gent g i j) ≤ 300 := by
  have n8 := h.n8; have r3 := h.r3; have k1 := h.k1; have k7 := h.k7; have sm := h.sm
  obtain ⟨m1, m2, m3, m4⟩ := ok_lens h
  have hk : g.k = 1 ∨ g.k = 2 ∨ g.k = 3 ∨ g.k = 4 ∨ g.k = 5 ∨ g.k = 6 ∨ g.k = 7 := by omega
  have row : ∀ u, u < g.n → u * g.r + g.r ≤ g.n * g.r := fun u hu => by rw [← Nat.succ_mul]; exact Nat.mul_le_mul_right _ hu
  have hne : g.k = 5 ∨ g.k = 7 → g.A i - g.B j ≠ 0 := fun hk e => h.ne i (by omega) j (by omega) (by rw [← Rat.sub_add_cancel (a := g.A i) (b := g.B j), e, Rat.zero_add])
  unfold gent
  rcases hk with hk | hk | hk | hk | hk | hk | hk
  · rw [hk]; have := sm.A (i + g.n - 1 - j) (by omega); show wt (g.A (i + g.n - 1 - j)) ≤ 300; omega
  · rw [hk]; have := sm.A (i + j) (by omega); show wt (g.A (i + j)) ≤ 300; omega
  · have hlt : (i + g.n - j) % g.n < g.n := Nat.mod_lt _ (by omega)
    rw [hk]; have := sm.A ((i + g.n - j) % g.n) (by omega); show wt (g.A ((i + g.n - j) % g.n)) ≤ 300; omega
  · rw [hk]; have := pow_wt (sm.A i (by omega)) j; show wt (g.A i ^ j) ≤ 300; omega
  · have h1 := wt_div 1 (g.A i - g.B j) (hne (.inl hk)); have h2 := wt_sub (g.A i) (g.B j); have h3 := sm.A i (by omega); have h4 := sm.B j (by omega)
    have h5 : wt 1 ≤ 1 := by decide
    rw [hk]; show wt (1 / (g.A i - g.B j)) ≤ 300; omega
  · obtain ⟨hg, hh⟩ := m4 (.inl hk)
    have := wt_sum (n := min i j + 1) (K := 28) (f := fun m => rdot g (i - m) (j - m)) fun u hu => by
      have h1 := row (i - u) (by omega); have h2 := row (j - u) (by omega)
      exact rdot_wt sm (by omega) (by omega) r3
    rw [hk]; show wt (S (min i j + 1) fun m => rdot g (i - m) (j - m)) ≤ 300; omega
  · obtain ⟨hg, hh⟩ := m4 (.inr hk)
    have h0 := row i hi; have h0' := row j hj
    have h1 := wt_div (rdot g i j) (g.A i - g.B j) (hne (.inr hk)); have h2 := wt_sub (g.A i) (g.B j); have h3 := sm.A i (by omega); have h4 := sm.B j (by omega)
    have h5 := rdot_wt (i := i) (j := j) sm (by omega) (by omega) r3
    rw [hk]; show wt (rdot g i j / (g.A i - g.B j)) ≤ 300; omega
/-- The matrix of a drawn system. -/
theorem ex_mk {kind n most : Int} {zs : List Int} (m1 : 1 ≤ most) (m8 : most ≤ 8) : Has Tryz.prog 53 [.ag 7 fun i => ((mkg kind n zs most).ft i).old] (.mat true (mkN n most) (fun _ => mkN n most) (fun i j => .q (gent (mkg kind n zs most) i j))) :=
  Has.ag (u' := (mkg kind n zs most).f) (g7 rfl rfl rfl rfl rfl rfl rfl) (ge_expand (g := mkg kind n zs most) (mkg_ok m1 m8))
theorem mkN_le {n most : Int} (m1 : 1 ≤ most) : 1 ≤ mkN n most ∧ (mkN n most : Int) ≤ most ∧ ((mkN n most : Nat) : Int) = 1 + wthn n most := by
  obtain ⟨b1, b2⟩ := wthn_lt (a := n) (n := most) (by omega)
  unfold mkN
  omega
end Go.Proofs.YtdnmoggifjlbiaaGreat.AM

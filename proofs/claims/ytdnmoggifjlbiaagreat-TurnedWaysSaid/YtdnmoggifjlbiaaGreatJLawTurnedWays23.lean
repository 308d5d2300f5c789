/- Joined texts, 23: LawH PBt PBits PGauss LawI LawJ PDet. -/
import Derived.Test.YtdnmoggifjlbiaaGreatJLawTurnedWays14
import Derived.Test.YtdnmoggifjlbiaaGreatJLawTurnedWays22
import Derived.Test.YtdnmoggifjlbiaaGreatJLawTurnedWays19
import Derived.Test.YtdnmoggifjlbiaaGreatJLawTurnedWays13
import Derived.Test.YtdnmoggifjlbiaaGreatJLawTurnedWays15
set_option linter.unusedVariables false
set_option linter.unusedSimpArgs false
/- The document's elimination: walked. It does what the program's does. -/
namespace Go.Proofs.YtdnmoggifjlbiaaGreat.AM
open Go Go.RowKit Go.Proofs.YtdnmoggifjlbiaaGreat.PN Go.Proofs.YtdnmoggifjlbiaaGreat.V
open Go.Proofs.YtdnmoggifjlbiaaGreat.LA (S S_succ S_zero S_congr)
set_option linter.unusedVariables false
set_option linter.unusedSimpArgs false
set_option maxRecDepth 4000
set_option maxHeartbeats 4000000
/-- How long all numbers are while the steps are done. -/
structure TB (n m X : Nat) (A : Nat → Nat → Rat) : Prop where
  d : ∀ c, c ≤ n → Wt (stps n m false A c).d X
  A : ∀ c, c ≤ n → ∀ i j, Wt ((stps n m false A c).A i j) X
theorem TB.wt {n m X : Nat} {A : Nat → Nat → Rat} (h : TB n m X A) (i j : Nat) : Wt (A i j) X := h.A 0 (Nat.zero_le _) i j
/-- The determinant, as far as it is known. -/
def dd (c : Nat) (s : ES) : Rat := if s.at' < c then 0 else s.d
theorem cln_low {A : Nat → Nat → Rat} {π : Nat → Nat} {at' col m k : Nat} (h : k ≤ at' + 1) (r j : Nat) : cln A π false at' col m k r j = A r j := by
  unfold cln
  rw [if_neg]
  rintro ⟨⟨i, h1, h2, _⟩, _⟩
  rcases h2 with h2 | ⟨h2, _⟩
  · omega
  · cases h2
theorem dd_wt {c X : Nat} {s : ES} [h : Wt s.d X] (hX : 1 ≤ X) : Wt (dd c s) X := by
  unfold dd; split
  · exact (inferInstance : Wt 0 1).mono hX
  · exact h
theorem copy_blk {m : Nat} {σ : Ren} {z f : Nat → RA} {g : Nat → Rat} (h : ∀ j, j < m → f j = .q (g j)) : BLe σ (.rats (0 + m) (glue 0 z f)) (.rats m fun j => .q (g j)) := by
  refine blen (Nat.zero_add m) fun j hj => ?_
  unfold glue
  rw [if_neg (Nat.not_lt_zero _), Nat.sub_zero]
  exact h j (by omega)
section
variable {p q : Rat} {a b : Nat} [hp : Wt p a] [hq : Wt q b]
theorem cs_sub (h : a ≤ 15000 ∧ b ≤ 15000) : Has Tryz.prog 63 [.q p, .q q] (.q (p - q)) := k_sub (Nat.le_trans hp.le h.1) (Nat.le_trans hq.le h.2)
end
theorem cln_mix {A : Nat → Nat → Rat} {π : Nat → Nat} {all : Bool} {at' col m k n : Nat} (h : k ≤ n) (r j : Nat) : cln A π all at' col m k r j = A r j ∨ cln A π all at' col m k r j = cln A π all at' col m n r j := by
  unfold cln
  by_cases e : (∃ i, i < k ∧ tst all at' i ∧ r = π i) ∧ col ≤ j ∧ j < m
  · obtain ⟨⟨i, h1, h2, h3⟩, h4⟩ := e
    rw [if_pos ⟨⟨i, h1, h2, h3⟩, h4⟩, if_pos ⟨⟨i, by omega, h2, h3⟩, h4⟩]
    exact .inr rfl
  · rw [if_neg e]; exact .inl rfl
theorem dd_step {c a p : Nat} {d x : Rat} {π π' : Nat → Nat} {B B' : Nat → Nat → Rat} : det1 (dd c ⟨a, d, π, B⟩) p a * x = dd (c + 1) ⟨a + 1, det1 d p a * x, π', B'⟩ := by
  unfold dd
  show det1 (if a < c then 0 else d) p a * x = if a + 1 < c + 1 then 0 else det1 d p a * x
  by_cases h : a < c
  · rw [if_pos h, if_pos (by omega)]
    unfold det1
    split
    · exact Rat.zero_mul _
    · rw [Rat.neg_zero]; exact Rat.zero_mul _
  · rw [if_neg h, if_neg (by omega)]
theorem r7_triangle {n m X : Nat} {A : Nat → Nat → Rat} (hB : TB n m X A) (hX : X ≤ 2400) (h0 : 0 < n) (hn : n ≤ 8) (hnm : n ≤ m) (hm : m ≤ 9) :
    Has Tryz.prog 67 [.mat false n (fun _ => m) (fun i j => .q (A i j)), .i n] (.tup3 (.mat true n (fun _ => m) (fun i j => .q ((stps n m false A n).A ((stps n m false A n).π i) j))) (.q (dd n (stps n m false A n))) (.i (stps n m false A n).at')) := by
  have hX1 : 1 ≤ X := Nat.le_trans (wt_pos _) (hB.d 0 (Nat.zero_le _)).le
  have hwt := hB.wt
  refine has_of Tryz.func67 (by kernel_rfl) rfl Tryz.ntmps67 Tryz.results67 rfl rfl rfl ?_
  refine run0 ?_
  refine awp_loop (fun m' s => ∃ k, k ≤ n ∧ m' = n - k ∧ s = famT 7 3 [(0, .mat false n (fun _ => m) (fun i j => .q (A i j))), (1, .i n), (5, .rptr 5 0 0), (8, .i (k : Int))] [(5, (1, fun _ => .rats 1 fun _ => ra0))] m A k) n _ (imp_id (h := [(5, (1, fun _ => .rats 1 fun _ => ra0))]) (e := [(7, .v (.slice none 0 0)), (0, .mat false n (fun _ => m) (fun i j => .q (A i j))), (1, .i n), (5, .rptr 5 0 0), (8, .i ((0 : Nat) : Int))]) ?_ ?_) ⟨0, Nat.zero_le _, rfl, rfl⟩ ?_
  · exact eA
  · exact hA
  · rintro m' s ⟨k, hk, rfl, rfl⟩
    rcases k with _ | k
    · refine run0 ?_
      refine awp_if rfl (fun h => ?_) (fun h => absurd (show ((0 : Nat) : Int) < n by omega) h)
      refine run0 ?_
      refine q_loop ?_ (famT_close (k := 0) (a := 30) (b := 28) (F2 := fun _ => .rats 0 fun _ => ra0) rfl rfl rfl (fun i hi => absurd hi (Nat.not_lt_zero _)) rfl (fun h => absurd h (Nat.lt_irrefl _)) (fun r hr => absurd hr (Nat.not_lt_zero _)) rfl (copy_blk fun j hj => rfl) rfl (by decide) rfl ?_ ?_) ⟨0 + 1, ?_, rfl, rfl⟩
      · omega
      · refine alle rfl (Le.eq rfl rfl) True.intro (alle rfl (Le.eq rfl rfl) True.intro (alle rfl (Le.rptr rfl) rfl (alle rfl (Le.eq rfl rfl) True.intro True.intro)))
      · exact allh rfl Nat.zero_lt_one (ble1 rfl) True.intro True.intro
      · omega
    · refine run0 ?_
      refine awp_if rfl (fun h => ?_) (fun h => ?_)
      · have h : k + 1 < n := by omega
        refine run0 ?_
        refine q_loop ?_ (famT_close (k := k + 1) (a := 30) (b := 28) rfl rfl rfl (fun i hi => if_pos hi) ?_ (fun _ => rfl) (fun r hr => blen rfl fun j hj => rfl) rfl (copy_blk fun j hj => rfl) rfl (by decide) rfl ?_ ?_) ⟨k + 1 + 1, ?_, rfl, rfl⟩
        · omega
        · show (if _ then _ else _) = _
          rw [if_neg (Nat.lt_irrefl _), Nat.sub_self]; rfl
        · refine alle rfl (Le.eq rfl rfl) True.intro (alle rfl (Le.eq rfl rfl) True.intro (alle rfl (Le.rptr rfl) rfl (alle rfl (Le.eq rfl rfl) True.intro True.intro)))
        · exact allh rfl Nat.zero_lt_one (ble1 rfl) True.intro True.intro
        · omega
      · obtain rfl : k + 1 = n := by omega
        refine awp_imp (imp_TH (n := k + 1) (t := 7) (g := 3) (m := m) (π := fun i => i) (A := A) (e := [(1, .i ((k + 1 : Nat) : Int)), (5, .rptr 5 0 0), (7, .own 7 0)]) (l := [(5, (1, fun _ => .rats 1 fun _ => ra0))]) rfl rfl (fun _ _ => rfl) rfl (fun r hr => blen rfl fun _ _ => rfl) rfl ?_ ?_) ?_
        · exact eA
        · exact hA
        generalize hN : k + 1 = N at *
        repeat(first|refine run1 ?_|((with_reducible apply st_call);exact rfl;exact rfl;exact rfl;first|(exact c_unit))|((with_reducible apply st_callg);exact rfl;exact rfl;(first|exact rfl|assumption);exact rfl;exact rfl;exact rfl;first|(exact c_unit)))
        refine awp_loop (fun m' s => ∃ c, c ≤ N ∧ m' = N - c ∧ s = stl [(1, .i N), (5, .rptr 5 0 0), (7, .own 7 0), (9, .rptr 9 0 0), (10, .i (stps N m false A c).at'), (11, .i (c : Int))] (TH 7 3 N m (stps N m false A c).π (stps N m false A c).A [(5, (1, fun _ => .rats 1 fun _ => ra0)), (9, (1, fun _ => .rats 1 fun _ => .q (dd c (stps N m false A c))))])) N _ ?_ ⟨0, Nat.zero_le _, rfl, rfl⟩ ?_
        · refine imp_TH rfl rfl (fun _ _ => rfl) rfl (fun r hr => blen rfl fun _ _ => rfl) rfl ?_ ?_
          · exact eA
          · exact hA
        · rintro m' s ⟨c, hc, rfl, rfl⟩
          have hok := stps_ok (n := N) (m := m) (all := false) (hA := hwt) c
          have hnx : stps N m false A (c + 1) = stp N m false (stps N m false A c) c := rfl
          have wd := hB.d c hc
          have wB := hB.A c hc
          generalize hT : stps N m false A c = T at *
          obtain ⟨a, d, π, B⟩ := T
          have hle : a ≤ c := hok.le
          have hlt : ∀ i, i < N → π i < N := hok.lt
          have hinj : ∀ i j, i < N → j < N → π i = π j → i = j := hok.inj
          have wd : Wt d X := wd
          have wB : ∀ i j, Wt (B i j) X := wB
          refine run0 ?_
          refine awp_if rfl (fun h => ?_) (fun h => ?_)
          · have hcn : c < N := by omega
            have han : a < N := by omega
            refine run0 ?_
            obtain ⟨f1, f2, f3, f4⟩ := fnd_le (fun i => B (π i) c ≠ 0) (N - a) a
            have e1 := stp_yes (n := N) (m := m) (all := false) (s := ⟨a, d, π, B⟩) (col := c)
            have e2 := stp_no (n := N) (m := m) (all := false) (s := ⟨a, d, π, B⟩) (col := c)
            dsimp only at e1 e2
            generalize fnd (fun i => B (π i) c ≠ 0) (N - a) a = i0 at *
            have hz : ∀ j, a ≤ j → j < i0 → B (π j) c = 0 := fun j h1 h2 => Classical.byContradiction fun h => f3 j h1 h2 h
            refine awp_loop (fun m' s => ∃ p, a ≤ p ∧ p ≤ i0 ∧ m' = i0 - p ∧ s = stl [(1, .i N), (5, .rptr 5 0 0), (7, .own 7 0), (9, .rptr 9 0 0), (10, .i (a : Int)), (11, .i (c : Int)), (12, .i (p : Int))] (TH 7 3 N m π B [(5, (1, fun _ => .rats 1 fun _ => ra0)), (9, (1, fun _ => .rats 1 fun _ => .q (dd c ⟨a, d, π, B⟩)))])) (i0 - a) _ (imp_TH rfl rfl (fun _ _ => rfl) rfl (fun r hr => blen rfl fun _ _ => rfl) rfl ?_ ?_) ⟨a, Nat.le_refl _, f1, rfl, rfl⟩ ?_
            · exact eA
            · exact hA
            · rintro m' s ⟨p, hp1, hp, rfl, rfl⟩
              by_cases hpN : p < N
              · have hpN' : (p : Int) < (N : Int) := by omega
                have g1 : (decide ((p : Int) < (N : Int)) == true) = true := by rw [decide_eq_true hpN']; rfl
                have g2 : decide ((p : Int) < (N : Int)) = true := decide_eq_true hpN'
                have hpp := hlt p hpN
                repeat(first|refine run1 ?_|((with_reducible apply st_call);exact rfl;exact rfl;exact rfl;first|(exact hs_nought))|((with_reducible apply st_callg);exact rfl;exact rfl;(first|exact rfl|assumption);exact rfl;exact rfl;exact rfl;first|(exact hs_nought)))
                by_cases hpi : p < i0
                · refine awp_yes rfl ?_ ?_
                  · exact decide_eq_true (hz p hp1 hpi)
                  clear g1 g2
                  refine run0 ?_
                  refine q_loop (m' := i0 - (p + 1)) (by omega) (imp_TH rfl rfl (fun _ _ => rfl) rfl (fun r hr => blen rfl fun _ _ => rfl) rfl ?_ ?_) ⟨p + 1, by omega, by omega, rfl, rfl⟩
                  · exact eA
                  · exact hA
                · obtain rfl : p = i0 := by omega
                  have hnz := f4 (by omega)
                  refine awp_no rfl ?_ ?_
                  · exact decide_eq_false hnz
                  clear g1 g2
                  have e3 := e1 hpN
                  refine run0 ?_
                  refine awp_no rfl ?_ ?_
                  · exact decide_eq_false (show ¬ ((N : Int) ≤ p) by omega)
                  have hlt' := swp_lt hlt hpN han
                  have hinj' := swp_inj hinj hpN han
                  have hat : swp π p a a = π p := swp_at π p a
                  have hD : dd (c + 1) (stps N m false A (c + 1)) = det1 (dd c ⟨a, d, π, B⟩) p a * B (π p) c := by
                    rw [hnx.trans e3]; exact dd_step.symm
                  have wD : Wt (dd c ⟨a, d, π, B⟩) X := dd_wt (h := wd) hX1
                  have hfin := hnx.trans e3
                  generalize dd c ⟨a, d, π, B⟩ = D at *
                  have hpa := hlt a han
                  have hpp' := hlt' a han
                  refine run0 ?_
                  refine awp_join (stl [(1, .i N), (5, .rptr 5 0 0), (7, .own 7 0), (9, .rptr 9 0 0), (10, .i (a : Int)), (11, .i (c : Int))] (TH 7 3 N m (swp π p a) B [(5, (1, fun _ => .rats 1 fun _ => ra0)), (9, (1, fun _ => .rats 1 fun _ => .q (det1 D p a)))])) ?_ ?_
                  · refine awp_if rfl (fun h => ?_) (fun h => ?_)
                    · have e4 : det1 D p a = -D := if_neg (by omega)
                      rw [e4]
                      refine run2 ?_
                      refine run3 ?_
                      repeat(first|refine run4 ?_|((with_reducible apply st_call);exact rfl;exact rfl;exact rfl;first|(exact k_neg (Nat.le_trans wD.le (by omega))))|((with_reducible apply st_callg);exact rfl;exact rfl;(first|exact rfl|assumption);exact rfl;exact rfl;exact rfl;first|(exact k_neg (Nat.le_trans wD.le (by omega)))))
                      refine ⟨rfl, imp_TH rfl rfl (fun _ _ => swp_own _) rfl (fun r hr => blen rfl fun _ _ => rfl) rfl ?_ ?_⟩
                      · exact eA
                      · exact hA
                    · obtain rfl : p = a := by omega
                      have e4 : det1 D p p = D := if_pos rfl
                      rw [e4]
                      refine run0 ?_
                      refine ⟨rfl, imp_TH rfl rfl (fun _ _ => congrArg _ (swp_self _ _ _).symm) rfl (fun r hr => blen rfl fun _ _ => rfl) rfl ?_ ?_⟩
                      · exact eA
                      · exact hA
                  · have wD2 : Wt (det1 D p a) X := det1_wt (h := wD)
                    generalize det1 D p a = D2 at *
                    rw [← hat] at hD hnz
                    generalize swp π p a = π' at *
                    repeat(first|refine run1 ?_|((with_reducible apply st_call);exact rfl;exact rfl;exact rfl;first|(exact cs_mul ⟨by omega, by omega⟩))|((with_reducible apply st_callg);exact rfl;exact rfl;(first|exact rfl|assumption);exact rfl;exact rfl;exact rfl;first|(exact cs_mul ⟨by omega, by omega⟩)))
                    have wn : ∀ i j, Wt ((stps N m false A (c + 1)).A i j) X := hB.A (c + 1) (by omega)
                    rw [hfin] at wn
                    have wn : ∀ i j, Wt (cln B π' false a c m N i j) X := wn
                    refine awp_loop (fun m' s => ∃ k, a + 1 ≤ k ∧ k ≤ N ∧ m' = N - k ∧ s = stl [(1, .i N), (5, .rptr 5 0 0), (7, .own 7 0), (9, .rptr 9 0 0), (10, .i (a : Int)), (11, .i (c : Int)), (13, .i (k : Int))] (TH 7 3 N m π' (cln B π' false a c m k) [(5, (1, fun _ => .rats 1 fun _ => ra0)), (9, (1, fun _ => .rats 1 fun _ => .q (D2 * B (π' a) c)))])) (N - (a + 1)) _ (imp_TH rfl rfl (fun _ _ => rfl) rfl (fun r hr => blen rfl fun j _ => congrArg RA.q (cln_low (Nat.le_refl _) r j).symm) rfl ?_ ?_) ⟨a + 1, Nat.le_refl _, by omega, rfl, rfl⟩ ?_
                    · exact eA
                    · exact hA
                    · rintro m' s ⟨k, hk1, hk, rfl, rfl⟩
                      refine run0 ?_
                      refine awp_if rfl (fun h => ?_) (fun h => ?_)
                      · have h' : (k : Int) < (N : Int) := h
                        have hkN : k < N := by omega
                        have hpk := hlt' k hkN
                        have wC : ∀ r j, Wt (cln B π' false a c m k r j) X := fun r j => by
                          rcases cln_mix (A := B) (π := π') (all := false) (at' := a) (col := c) (m := m) hk r j with e | e
                          · rw [e]; exact wB r j
                          · rw [e]; exact wn r j
                        have ht : tst false a k := .inl (by omega)
                        have hne : π' k ≠ π' a := fun e => tst_ne ht (hinj' k a hkN han e)
                        have est := cln_step (m := m) (all := false) (A := B) (col := c) hinj' han hkN ht
                        have hrow : cln B π' false a c m k (π' a) c = B (π' a) c := cln_row (n := N) (fun i h1 h2 h3 => tst_ne h2 (hinj' a i han (by omega) h3).symm) c
                        have hne0 : cln B π' false a c m k (π' a) c ≠ 0 := by rw [hrow]; exact hnz
                        generalize cln B π' false a c m k = C at *
                        repeat(first|refine run1 ?_|((with_reducible apply st_call);exact rfl;exact rfl;exact rfl;first|(exact hs_nought))|((with_reducible apply st_callg);exact rfl;exact rfl;(first|exact rfl|assumption);exact rfl;exact rfl;exact rfl;first|(exact hs_nought)))
                        refine awp_if rfl (fun hq => ?_) (fun hq => ?_)
                        · have hq' : C (π' k) c = 0 := hq
                          rw [hq', show (0 : Rat) / C (π' a) c = 0 by rw [Rat.div_def, Rat.zero_mul]] at est
                          refine run0 ?_
                          refine q_loop (m' := N - (k + 1)) (by omega) (imp_TH rfl rfl (fun _ _ => rfl) rfl (fun r hr => blen rfl fun j _ => congrArg RA.q ?_) rfl ?_ ?_) ⟨k + 1, by omega, by omega, rfl, rfl⟩
                          · rw [← est, clr_zero rfl]
                          · exact eA
                          · exact hA
                        · repeat(first|refine run1 ?_|((with_reducible apply st_call);exact rfl;exact rfl;exact rfl;first|(exact cs_over ⟨by omega, by omega⟩ hne0))|((with_reducible apply st_callg);exact rfl;exact rfl;(first|exact rfl|assumption);exact rfl;exact rfl;exact rfl;first|(exact cs_over ⟨by omega, by omega⟩ hne0)))
                          have wq : Wt (C (π' k) c / C (π' a) c) (X + X) := inferInstance
                          generalize hq2 : C (π' k) c / C (π' a) c = q at *
                          refine awp_loop (fun m' s => ∃ u, c ≤ u ∧ u ≤ m ∧ m' = m - u ∧ s = stl [(1, .i N), (5, .rptr 5 0 0), (7, .own 7 0), (9, .rptr 9 0 0), (10, .i (a : Int)), (11, .i (c : Int)), (13, .i (k : Int)), (14, .rptr 14 0 0), (15, .i (u : Int))] (TH 7 3 N m π' (clr C q (π' k) (π' a) c u) [(5, (1, fun _ => .rats 1 fun _ => ra0)), (9, (1, fun _ => .rats 1 fun _ => .q (D2 * B (π' a) c))), (14, (1, fun _ => .rats 1 fun _ => .q q))])) (m - c) _ (imp_TH rfl rfl (fun _ _ => rfl) rfl (fun r hr => blen rfl fun j _ => congrArg RA.q clr_none.symm) rfl ?_ ?_) ⟨c, Nat.le_refl _, by omega, rfl, rfl⟩ ?_
                          · exact eA
                          · refine allh rfl (by decide) (ble1 rfl) True.intro (allh rfl (by decide) (ble1 rfl) True.intro (allh rfl (by decide) (ble1 (congrArg RA.q hq2)) True.intro True.intro))
                          · rintro m' s ⟨u, hu1, hu, rfl, rfl⟩
                            refine run0 ?_
                            refine awp_if rfl (fun h => ?_) (fun h => ?_)
                            · have h' : (u : Int) < m := h
                              have hum : u < m := by omega
                              have wk : ∀ r j, Wt (clr C q (π' k) (π' a) c u r j) (4 * X + 1) := fun r j => clr_wt r j
                              repeat(first|refine run1 ?_|((with_reducible apply st_call);exact rfl;exact rfl;exact rfl;first|(exact cs_mul ⟨by omega, by omega⟩)|(exact cs_sub ⟨by omega, by omega⟩))|((with_reducible apply st_callg);exact rfl;exact rfl;(first|exact rfl|assumption);exact rfl;exact rfl;exact rfl;first|(exact cs_mul ⟨by omega, by omega⟩)|(exact cs_sub ⟨by omega, by omega⟩)))
                              refine q_loop (m' := m - (u + 1)) (by omega) (imp_TH (t := 7) (g := 3) (n := N) (m := m) (π := π') (A := clr C q (π' k) (π' a) c (u + 1)) (e := [(1, .i N), (5, .rptr 5 0 0), (7, .own 7 0), (9, .rptr 9 0 0), (10, .i (a : Int)), (11, .i (c : Int)), (13, .i (k : Int)), (14, .rptr 14 0 0), (15, .i ((u + 1 : Nat) : Int))]) (l := [(5, (1, fun _ => .rats 1 fun _ => ra0)), (9, (1, fun _ => .rats 1 fun _ => .q (D2 * B (π' a) c))), (14, (1, fun _ => .rats 1 fun _ => .q q))]) rfl rfl (fun _ _ => rfl) rfl (fun r hr => clr_blk (clr_step hne hu1) r) rfl ?_ ?_) ⟨u + 1, by omega, by omega, rfl, rfl⟩
                              · exact eA
                              · exact hA
                            · have h' : ¬ (u : Int) < m := h
                              obtain rfl : u = m := by omega
                              refine run0 ?_
                              refine q_loop (m' := N - (k + 1)) (by omega) (imp_TH rfl rfl (fun _ _ => rfl) rfl (fun r hr => blen rfl fun j _ => congrArg RA.q (by rw [est])) rfl ?_ ?_) ⟨k + 1, by omega, by omega, rfl, rfl⟩
                              · exact eA
                              · exact hA
                      · have h' : ¬ (k : Int) < (N : Int) := h
                        obtain rfl : k = N := by omega
                        refine run0 ?_
                        refine q_loop (m' := k - (c + 1)) (by omega) (imp_TH (e := [(1, .i k), (5, .rptr 5 0 0), (7, .own 7 0), (9, .rptr 9 0 0), (10, .i ((a + 1 : Nat) : Int)), (11, .i ((c + 1 : Nat) : Int))]) (t := 7) (g := 3) (n := k) (m := m) (π := π') (A := cln B π' false a c m k) (l := [(5, (1, fun _ => .rats 1 fun _ => ra0)), (9, (1, fun _ => .rats 1 fun _ => .q (D2 * B (π' a) c)))]) rfl rfl (fun _ _ => rfl) rfl (fun r hr => blen rfl fun _ _ => rfl) rfl ?_ ?_) ⟨c + 1, by omega, rfl, ?_⟩
                        · exact eA
                        · exact hA
                        · rw [hD, hfin]
              · have hpN' : ¬ (p : Int) < (N : Int) := by omega
                have g1 : (decide ((p : Int) < (N : Int)) == true) = false := by rw [decide_eq_false hpN']; rfl
                have g2 : decide ((p : Int) < (N : Int)) = false := decide_eq_false hpN'
                obtain rfl : p = i0 := by omega
                have e3 := hnx.trans (e2 hpN)
                refine run0 ?_
                refine awp_no rfl rfl ?_
                refine run0 ?_
                refine awp_yes rfl ?_ ?_
                · exact decide_eq_true (show (N : Int) ≤ p by omega)
                clear g1 g2
                repeat(first|refine run1 ?_|((with_reducible apply st_call);exact rfl;exact rfl;exact rfl;first|(exact hs_zero))|((with_reducible apply st_callg);exact rfl;exact rfl;(first|exact rfl|assumption);exact rfl;exact rfl;exact rfl;first|(exact hs_zero)))
                refine q_loop (m' := N - (c + 1)) (by omega) (imp_TH (e := [(1, .i N), (5, .rptr 5 0 0), (7, .own 7 0), (9, .rptr 9 0 0), (10, .i (a : Int)), (11, .i ((c + 1 : Nat) : Int))]) (t := 7) (g := 3) (n := N) (m := m) (π := π) (A := B) (l := [(5, (1, fun _ => .rats 1 fun _ => ra0)), (9, (1, fun _ => .rats 1 fun _ => .q 0))]) rfl rfl (fun _ _ => rfl) rfl (fun r hr => blen rfl fun _ _ => rfl) rfl ?_ ?_) ⟨c + 1, by omega, rfl, ?_⟩
                · exact eA
                · exact hA
                · rw [e3, show dd (c + 1) ⟨a, d, π, B⟩ = 0 from if_pos (show a < c + 1 by omega)]
          · obtain rfl : c = N := by omega
            rw [hT]
            refine run0 ?_
            refine ⟨.inr rfl, _, (imp_stl (h := [(7, (1, fun _ => .ones WT c (fun i => .own 3 i))), (3, (c, fun r => .rats m (fun j => .q (B (π r) j)))), (5, (1, fun _ => .rats 1 fun _ => .q (dd c ⟨a, d, π, B⟩)))]) (e := [(4, .own 7 0), (5, .rptr 5 0 0), (6, .i (a : Int))]) (sP 3 c π) (fun h => by cases h) (fun g r g' r' _ _ => sP_inj hlt hinj g r g' r') ?_ ?_).trans (imp_mat2 4 (fun _ => m) (fun i j => .q (B (π i) j)) rfl rfl rfl (fun _ _ => rfl) rfl (fun _ _ => rfl) (by decide)), .three (.tmp rfl) (.rat rfl rfl (by decide) rfl (by decide) rfl) (.tmp rfl)⟩
            · exact alle rfl (Le.own (sP_ne (by decide) 0)) rfl (alle rfl (Le.rptr (sP_ne (by decide) 0)) rfl (alle rfl (Le.eq rfl rfl) True.intro True.intro))
            · refine ⟨fun r hr => ?_, fun r hr => ?_, fun r hr => ?_, True.intro⟩
              · obtain rfl : r = 0 := by omega
                rw [sP_ne (by decide)]
                exact ⟨1, _, rfl, Nat.zero_lt_one, bleo rfl fun i hi => Le.own (sP_g hi), fun i hi => rfl⟩
              · rw [sP_g hr]
                exact ⟨c, _, rfl, hlt r hr, blen rfl fun _ _ => rfl, True.intro⟩
              · obtain rfl : r = 0 := by omega
                rw [sP_ne (by decide)]
                exact ⟨1, _, rfl, Nat.zero_lt_one, ble1 rfl, True.intro⟩
end Go.Proofs.YtdnmoggifjlbiaaGreat.AM
/- How long numbers are, by bits. -/
namespace Go.Proofs.YtdnmoggifjlbiaaGreat.AM
open Go.Proofs.YtdnmoggifjlbiaaGreat.PN
set_option linter.unusedVariables false
set_option linter.unusedSimpArgs false
class Bt (q : Rat) (k : outParam Nat) : Prop where
  n : nm q < 2 ^ k
  d : q.den < 2 ^ k
theorem Bt.mono {q : Rat} {a b : Nat} (h : Bt q a) (k : a ≤ b) : Bt q b :=
  ⟨Nat.lt_of_lt_of_le h.n (Nat.pow_le_pow_right (by decide) k), Nat.lt_of_lt_of_le h.d (Nat.pow_le_pow_right (by decide) k)⟩
theorem Bt.of_mk {n d k : Nat} (s : Bool) (hd : d ≠ 0) (h1 : n < 2 ^ k) (h2 : d < 2 ^ k) : Bt (PN.mk s n d) k :=
  ⟨by rw [mk_num s hd]; exact Nat.lt_of_le_of_lt (Nat.div_le_self _ _) h1, by rw [mk_den s hd]; exact Nat.lt_of_le_of_lt (Nat.div_le_self _ _) h2⟩
theorem lt_mul {x y a b : Nat} (h : x < 2 ^ a) (k : y < 2 ^ b) : x * y < 2 ^ (a + b) := by rw [Nat.pow_add]; exact Nat.mul_lt_mul'' h k
instance Bt.mul {p q : Rat} {a b : Nat} [h : Bt p a] [k : Bt q b] : Bt (p * q) (a + b) := by
  rw [mul_parts]
  exact Bt.of_mk _ (Nat.mul_ne_zero (den_ne p) (den_ne q)) (lt_mul h.n k.n) (lt_mul h.d k.d)
theorem Bt.pos {q : Rat} {a : Nat} (h : Bt q a) : 0 < a := by
  rcases Nat.eq_zero_or_pos a with rfl | h0
  · have := h.d; have := q.den_pos; omega
  · exact h0
instance Bt.zero : Bt 0 1 := ⟨by decide, by decide⟩
instance Bt.one : Bt 1 1 := ⟨by decide, by decide⟩
instance Bt.div {p q : Rat} {a b : Nat} [h : Bt p a] [k : Bt q b] : Bt (p / q) (a + b) := by
  by_cases e : q = 0
  · rw [e, Rat.div_def, Rat.inv_zero, Rat.mul_zero]
    exact Bt.zero.mono (by have := h.pos; omega)
  · rw [div_parts p q e]
    exact Bt.of_mk _ (Nat.mul_ne_zero (den_ne p) (fun e' => e (nm_eq_zero.1 e'))) (lt_mul h.n k.d) (lt_mul h.d k.n)
instance Bt.add {p q : Rat} {a b : Nat} [h : Bt p a] [k : Bt q b] : Bt (p + q) (a + b + 1) := by
  have h1 := lt_mul h.n k.d
  have h2 : nm q * p.den < 2 ^ (a + b) := by rw [Nat.add_comm]; exact lt_mul k.n h.d
  have h3 := lt_mul h.d k.d
  have hp : 2 ^ (a + b + 1) = 2 ^ (a + b) * 2 := Nat.pow_succ ..
  have hd := Nat.mul_ne_zero (den_ne p) (den_ne q)
  by_cases e : ng p = ng q
  · rw [add_parts_same p q e]; exact Bt.of_mk _ hd (by omega) (by omega)
  · rcases Nat.le_total (nm q * p.den) (nm p * q.den) with hle | hle
    · rw [add_parts_ge p q e hle]; exact Bt.of_mk _ hd (by omega) (by omega)
    · rw [add_parts_lt p q e hle]; exact Bt.of_mk _ hd (by omega) (by omega)
instance Bt.neg {p : Rat} {a : Nat} [h : Bt p a] : Bt (-p) a := ⟨by rw [neg_nm]; exact h.n, by rw [neg_den]; exact h.d⟩
instance Bt.sub {p q : Rat} {a b : Nat} [h : Bt p a] [k : Bt q b] : Bt (p - q) (a + b + 1) := by
  rw [Rat.sub_eq_add_neg]; exact inferInstance
theorem Bt.wt {q : Rat} {k X : Nat} (h : Bt q k) (hX : k / 32 + 1 ≤ X) : Wt q X := by
  have hB : 2 ^ k ≤ B ^ (k / 32 + 1) := by
    rw [show B ^ (k / 32 + 1) = 2 ^ (32 * (k / 32 + 1)) by rw [Nat.pow_mul]]
    exact Nat.pow_le_pow_right (by decide) (by omega)
  refine ⟨Nat.le_trans ?_ hX⟩
  have h1 := (lt_iff (nm q) _).1 (Nat.lt_of_lt_of_le h.n hB)
  have h2 := (lt_iff q.den _).1 (Nat.lt_of_lt_of_le h.d hB)
  unfold PN.wt
  omega
theorem smal_bits : ∀ x : _root_.Fin 41, ∀ y : _root_.Fin 5, nm ((((x.val : Int) - 20 : Int) : Rat) / ((1 + (y.val : Int) : Int) : Rat)) < 2 ^ 5 ∧ ((((x.val : Int) - 20 : Int) : Rat) / ((1 + (y.val : Int) : Int) : Rat)).den < 2 ^ 5 := by decide +kernel
instance smal_bt (a : Int) : Bt (smal a) 5 := by
  obtain ⟨h1, h2⟩ := wthn_lt (a := a) (n := 41) (by decide)
  obtain ⟨h3, h4⟩ := wthn_lt (a := a.tdiv 41) (n := 5) (by decide)
  have := smal_bits ⟨(wthn a 41).toNat, by omega⟩ ⟨(wthn (a.tdiv 41) 5).toNat, by omega⟩
  rw [show (((wthn a 41).toNat : Nat) : Int) = wthn a 41 by omega, show (((wthn (a.tdiv 41) 5).toNat : Nat) : Int) = wthn (a.tdiv 41) 5 by omega] at this
  exact ⟨this.1, this.2⟩
instance rowq_bt (zs : List Int) (i : Nat) : Bt (rowq zs i) 5 := smal_bt _
end Go.Proofs.YtdnmoggifjlbiaaGreat.AM
/- How long numbers are, by bits: while the steps are done. -/
namespace Go.Proofs.YtdnmoggifjlbiaaGreat.AM
open Go.Proofs.YtdnmoggifjlbiaaGreat.PN
open Go.Proofs.YtdnmoggifjlbiaaGreat.LA (S S_succ S_zero S_congr)
set_option linter.unusedVariables false
set_option linter.unusedSimpArgs false
/-- How many bits numbers have when a pivots are found. -/
def gb (n K a : Nat) : Nat := 4 ^ (min a (n - 1)) * (K + 1)
theorem gb_pos (n K a : Nat) : K + 1 ≤ gb n K a := Nat.le_mul_of_pos_left _ (Nat.pow_pos (by decide))
theorem gb_last {n K a : Nat} (h : ¬ a + 1 ≤ n - 1) : gb n K (a + 1) = gb n K a ∨ a + 1 ≤ n - 1 := by
  unfold gb
  exact .inl (by rw [show min (a + 1) (n - 1) = min a (n - 1) by omega])
theorem gb_step {n K a : Nat} (h : a + 1 ≤ n - 1) : gb n K (a + 1) = 4 * gb n K a := by
  unfold gb
  rw [show min (a + 1) (n - 1) = min a (n - 1) + 1 by omega, Nat.pow_succ]
  ac_rfl
structure EB (n K : Nat) (s : ES) : Prop where
  A : ∀ i j, Bt (s.A i j) (gb n K s.at' - 1)
  d : Bt s.d (3 * gb n K s.at')
  d' : s.at' < n → Bt s.d (2 * gb n K s.at')
theorem det1_bt {d : Rat} {X i j : Nat} [h : Bt d X] : Bt (det1 d i j) X := by
  unfold det1; split
  · exact h
  · exact inferInstance
theorem stp_eb {n m c K : Nat} {s : ES} (hn : 0 < n) (h : EB n K s) : EB n K (stp n m false s c) := by
  unfold stp
  split
  · rename_i hi
    obtain ⟨h1, h2, _, _⟩ := fnd_le (fun i => s.A (s.π i) c ≠ 0) (n - s.at') s.at'
    generalize fnd (fun i => s.A (s.π i) c ≠ 0) (n - s.at') s.at' = i0 at *
    have han : s.at' < n := by omega
    have w1 := det1_bt (i := i0) (j := s.at') (h := h.d' han)
    have w2 := h.A (s.π i0) c
    have hp := gb_pos n K s.at'
    have w3 := Bt.mul (h := w1) (k := w2)
    by_cases hl : s.at' + 1 ≤ n - 1
    · have e := gb_step (K := K) hl
      refine ⟨fun i j => ?_, w3.mono ?_, fun _ => w3.mono ?_⟩
      · show Bt (cln _ _ _ _ _ _ _ i j) (gb n K (s.at' + 1) - 1)
        rw [e]
        unfold cln
        split
        · have hA := h.A
          exact (inferInstance : Bt (s.A i j - s.A i c / s.A (swp s.π i0 s.at' s.at') c * s.A (swp s.π i0 s.at' s.at') j) _).mono (by omega)
        · exact (h.A i j).mono (by omega)
      · show _ ≤ 3 * gb n K (s.at' + 1); omega
      · show _ ≤ 2 * gb n K (s.at' + 1); omega
    · have e : gb n K (s.at' + 1) = gb n K s.at' := (gb_last hl).resolve_right hl
      refine ⟨fun i j => ?_, w3.mono ?_, fun hlt => ?_⟩
      · show Bt (cln _ _ _ _ _ _ _ i j) (gb n K (s.at' + 1) - 1)
        rw [e]
        unfold cln
        rw [if_neg]
        · exact h.A i j
        · rintro ⟨⟨k, h3, h4, _⟩, _⟩
          rcases h4 with h4 | ⟨h4, _⟩
          · omega
          · cases h4
      · show _ ≤ 3 * gb n K (s.at' + 1); omega
      · have hlt : s.at' + 1 < n := hlt
        omega
  · exact h
theorem stps_eb {n m K : Nat} {A : Nat → Nat → Rat} (hn : 0 < n) (hK : 1 ≤ K) [hA : ∀ i j, Bt (A i j) K] : ∀ c, EB n K (stps n m false A c)
  | 0 => by
    have e : gb n K 0 = K + 1 := by unfold gb; rw [Nat.zero_min, Nat.pow_zero, Nat.one_mul]
    have h1 : Bt (1 : Rat) 1 := inferInstance
    refine ⟨fun i j => ?_, ?_, fun _ => ?_⟩
    · show Bt (A i j) (gb n K 0 - 1); rw [e]; exact hA i j
    · show Bt (1 : Rat) (3 * gb n K 0); rw [e]; exact h1.mono (by omega)
    · show Bt (1 : Rat) (2 * gb n K 0); rw [e]; exact h1.mono (by omega)
  | c + 1 => stp_eb hn (stps_eb hn hK c)
theorem gb_le (n K a : Nat) : gb n K a ≤ 4 ^ (n - 1) * (K + 1) := Nat.mul_le_mul_right _ (Nat.pow_le_pow_right (by decide) (Nat.min_le_right _ _))
theorem TB.of {n m K X : Nat} {A : Nat → Nat → Rat} (hn : 0 < n) (hK : 1 ≤ K) [hA : ∀ i j, Bt (A i j) K] (hX : (3 * (4 ^ (n - 1) * (K + 1))) / 32 + 1 ≤ X) : TB n m X A := by
  refine ⟨fun c _ => ?_, fun c _ i j => ?_⟩
  · have h := (stps_eb (m := m) hn hK (hA := hA) c).d
    have := gb_le n K (stps n m false A c).at'
    exact (h.mono (show _ ≤ 3 * (4 ^ (n - 1) * (K + 1)) by omega)).wt hX
  · have h := (stps_eb (m := m) hn hK (hA := hA) c).A i j
    have := gb_le n K (stps n m false A c).at'
    exact (h.mono (show _ ≤ 3 * (4 ^ (n - 1) * (K + 1)) by omega)).wt hX
end Go.Proofs.YtdnmoggifjlbiaaGreat.AM
/- What elimination tells: the determinant, the rank; what it leaves. -/
namespace Go.Proofs.YtdnmoggifjlbiaaGreat.AM
open Go.Proofs.YtdnmoggifjlbiaaGreat.LA (Mt S S_succ S_zero S_congr S_add S_mul S_mulr S_single S_null S_cut det det_congr det_swp det_addr det_low HasRank rank_swp rank_addr rank_congr addr upd upd_at upd_ne one inverse Eqn mul tr)
set_option linter.unusedVariables false
set_option linter.unusedSimpArgs false
/-- Rows exchanged, multiples of rows added to others: of n rows, m columns. -/
inductive RE (n m : Nat) : Mt → Mt → Rat → Prop where
  | refl {A B : Mt} (h : ∀ i j, i < n → j < m → A i j = B i j) : RE n m A B 1
  | swp {A B C : Mt} {σ : Rat} (a b : Nat) (ha : a < n) (hb : b < n) (hab : a ≠ b) (h : RE n m A B σ) (hC : ∀ i j, i < n → j < m → C i j = LA.swp B a b i j) : RE n m A C (-σ)
  | addr {A B C : Mt} {σ : Rat} (a b : Nat) (f : Rat) (ha : a < n) (hb : b < n) (hab : a ≠ b) (h : RE n m A B σ) (hC : ∀ i j, i < n → j < m → C i j = LA.addr B a b f i j) : RE n m A C σ
theorem RE.congr {n m : Nat} {A B C : Mt} {σ : Rat} (h : RE n m A B σ) (hc : ∀ i j, i < n → j < m → B i j = C i j) : RE n m A C σ := by
  cases h with
  | refl h => exact .refl fun i j hi hj => (h i j hi hj).trans (hc i j hi hj)
  | swp a b ha hb hab h hC => exact .swp a b ha hb hab h fun i j hi hj => (hc i j hi hj).symm.trans (hC i j hi hj)
  | addr a b f ha hb hab h hC => exact .addr a b f ha hb hab h fun i j hi hj => (hc i j hi hj).symm.trans (hC i j hi hj)
theorem RE.det {n m : Nat} {A B : Mt} {σ : Rat} (hnm : n ≤ m) (h : RE n m A B σ) : det n B = σ * det n A := by
  induction h with
  | refl h => rw [Rat.one_mul]; exact det_congr fun i j hi hj => (h i j hi (by omega)).symm
  | swp a b ha hb hab h hC ih => rw [det_congr (B := LA.swp _ a b) fun i j hi hj => hC i j hi (by omega), det_swp _ ha hb hab, ih, Rat.neg_mul]
  | addr a b f ha hb hab h hC ih => rw [det_congr (B := LA.addr _ a b f) fun i j hi hj => hC i j hi (by omega), det_addr _ ha hb hab, ih]
theorem RE.rank {n m : Nat} {A B : Mt} {σ : Rat} (hnm : n ≤ m) (h : RE n m A B σ) : ∀ {r : Nat}, HasRank n B r → HasRank n A r := by
  induction h with
  | refl h => exact fun k => rank_congr (fun i j hi hj => (h i j hi (by omega)).symm) k
  | swp a b ha hb hab h hC ih =>
    refine fun k => ih (rank_congr (fun i j hi hj => ?_) (rank_swp ha hb hab k))
    unfold LA.swp
    by_cases e1 : i = a
    · subst e1
      rw [if_pos rfl, hC b j hb (by omega)]
      unfold LA.swp
      rw [if_neg (Ne.symm hab), if_pos rfl]
    · rw [if_neg e1]
      by_cases e2 : i = b
      · subst e2
        rw [if_pos rfl, hC a j ha (by omega)]
        unfold LA.swp
        rw [if_pos rfl]
      · rw [if_neg e2, hC i j hi (by omega)]
        unfold LA.swp
        rw [if_neg e1, if_neg e2]
  | addr a b f ha hb hab h hC ih =>
    refine fun k => ih (rank_congr (fun i j hi hj => ?_) (rank_addr ha hb hab (-f) k))
    unfold LA.addr
    by_cases e1 : i = a
    · subst e1
      rw [upd_at, hC i j hi (by omega), hC b j hb (by omega)]
      unfold LA.addr
      rw [upd_at, upd_ne _ _ _ (Ne.symm hab)]
      grind
    · rw [upd_ne _ _ _ e1, hC i j hi (by omega)]
      unfold LA.addr
      rw [upd_ne _ _ _ e1]
/-- What all rows send to nought. -/
def Ker (n m : Nat) (A : Mt) (y : Nat → Rat) : Prop := ∀ r, r < n → S m (fun j => A r j * y j) = 0
theorem RE.ker {n m : Nat} {A B : Mt} {σ : Rat} (h : RE n m A B σ) {y : Nat → Rat} : Ker n m B y → Ker n m A y := by
  induction h with
  | refl h => intro k r hr; rw [S_congr fun j hj => by rw [h r j hr hj]]; exact k r hr
  | swp a b ha hb hab h hC ih =>
    rename_i B C σ
    intro k
    refine ih fun r hr => ?_
    have key : ∀ r r', r < n → r' < n → (∀ j, j < m → C r j = B r' j) → S m (fun j => B r' j * y j) = 0 := fun r r' h1 h2 h3 => by
      rw [S_congr (g := fun j => C r j * y j) fun j hj => by rw [h3 j hj]]; exact k r h1
    by_cases e1 : r = a
    · subst e1; exact key b r hb hr fun j hj => by rw [hC b j hb hj]; unfold LA.swp; rw [if_neg (Ne.symm hab), if_pos rfl]
    · by_cases e2 : r = b
      · subst e2; exact key a r ha hr fun j hj => by rw [hC a j ha hj]; unfold LA.swp; rw [if_pos rfl]
      · exact key r r hr hr fun j hj => by rw [hC r j hr hj]; unfold LA.swp; rw [if_neg e1, if_neg e2]
  | addr a b f ha hb hab h hC ih =>
    rename_i B C σ
    intro k
    refine ih fun r hr => ?_
    have kb : S m (fun j => B b j * y j) = 0 := by
      rw [S_congr (g := fun j => C b j * y j) fun j hj => by rw [hC b j hb hj]; unfold LA.addr; rw [upd_ne _ _ _ (Ne.symm hab)]]
      exact k b hb
    by_cases e1 : r = a
    · subst e1
      have k1 := k r hr
      rw [S_congr (g := fun j => B r j * y j + f * (B b j * y j)) fun j hj => by rw [hC r j hr hj]; unfold LA.addr; rw [upd_at]; grind, S_add, S_mul, kb] at k1
      grind
    · rw [S_congr (g := fun j => C r j * y j) fun j hj => by rw [hC r j hr hj]; unfold LA.addr; rw [upd_ne _ _ _ e1]]
      exact k r hr
theorem RE.sq {n m : Nat} {A B : Mt} {σ : Rat} (h : RE n m A B σ) : σ * σ = 1 := by
  induction h with
  | refl h => exact Rat.one_mul 1
  | swp a b ha hb hab h hC ih => rw [Rat.neg_mul, Rat.mul_neg, Rat.neg_neg]; exact ih
  | addr a b f ha hb hab h hC ih => exact ih
def prodP (f : Nat → Rat) : Nat → Rat
  | 0 => 1
  | k + 1 => prodP f k * f k
theorem prodP_congr {f g : Nat → Rat} : ∀ {k : Nat}, (∀ i, i < k → f i = g i) → prodP f k = prodP g k
  | 0, _ => rfl
  | k + 1, h => by unfold prodP; rw [prodP_congr fun i hi => h i (by omega), h k (Nat.lt_succ_self k)]
/-- The rows in their order. -/
def PR (s : ES) : Mt := fun r j => s.A (s.π r) j
/-- What holds behind c columns. -/
structure GI (n m c : Nat) (all : Bool) (A : Mt) (s : ES) (σ : Rat) (col : Nat → Nat) : Prop where
  re : RE n m A (PR s) σ
  d : s.d = σ * prodP (fun i => PR s i (col i)) s.at'
  low : ∀ r j, s.at' ≤ r → r < n → j < c → PR s r j = 0
  lt : ∀ i, i < s.at' → col i < c
  nz : ∀ i, i < s.at' → PR s i (col i) ≠ 0
  ahead : ∀ i, i < s.at' → ∀ j, j < col i → PR s i j = 0
  inc : ∀ i j, i < j → j < s.at' → col i < col j
  cl : all = true → ∀ i r, i < s.at' → r < n → r ≠ i → PR s r (col i) = 0
theorem cln_at {B : Nat → Nat → Rat} {π : Nat → Nat} {all : Bool} {a c m n r : Nat} (hinj : ∀ i j, i < n → j < n → π i = π j → i = j) (hr : r < n) (j : Nat) (hj : tst all a r ∧ c ≤ j ∧ j < m) : cln B π all a c m n (π r) j = B (π r) j - B (π r) c / B (π a) c * B (π a) j := by
  unfold cln; rw [if_pos ⟨⟨r, hr, hj.1, rfl⟩, hj.2⟩]
theorem cln_not {B : Nat → Nat → Rat} {π : Nat → Nat} {all : Bool} {a c m n r : Nat} (hinj : ∀ i j, i < n → j < n → π i = π j → i = j) (hr : r < n) (j : Nat) (hj : ¬ (tst all a r ∧ c ≤ j ∧ j < m)) : cln B π all a c m n (π r) j = B (π r) j := by
  unfold cln; rw [if_neg]
  rintro ⟨⟨i, h1, h2, h3⟩, h4⟩
  exact hj ⟨by rw [hinj r i hr h1 h3]; exact h2, h4⟩
/-- Rows from the one at a place on, cleaned, one by one. -/
theorem re_clean {n m c a : Nat} {all : Bool} {A Q : Mt} {σ : Rat} (h : RE n m A Q σ) (ha : a < n) (hz : ∀ j, j < c → Q a j = 0) (C : Mt)
    (h1 : ∀ r j, r < n → j < m → tst all a r → c ≤ j → C r j = Q r j - Q r c / Q a c * Q a j) (h2 : ∀ r j, r < n → j < m → ¬ (tst all a r ∧ c ≤ j) → C r j = Q r j) : RE n m A C σ := by
  have key : ∀ k, k ≤ n → RE n m A (fun r j => if r < k then C r j else Q r j) σ := by
    intro k
    induction k with
    | zero => intro _; exact h
    | succ k ih =>
      intro hk
      by_cases ht : tst all a k
      · refine .addr k a (-(Q k c / Q a c)) (by omega) ha (tst_ne ht) (ih (by omega)) fun i j hi hj => ?_
        unfold LA.addr
        have hCa : ∀ j, j < m → (if a < k then C a j else Q a j) = Q a j := fun j hj => by
          split
          · exact h2 a j ha hj fun e => tst_ne e.1 rfl
          · rfl
        by_cases e : i = k
        · subst e
          rw [upd_at]
          dsimp only
          rw [if_pos (Nat.lt_succ_self i), if_neg (Nat.lt_irrefl _), hCa j hj]
          by_cases hcj : c ≤ j
          · rw [h1 i j hi hj ht hcj]; grind
          · rw [h2 i j hi hj (fun e => hcj e.2), hz j (by omega)]; grind
        · rw [upd_ne _ _ _ e]
          by_cases e2 : i < k
          · rw [if_pos (by omega), if_pos e2]
          · rw [if_neg (by omega), if_neg e2]
      · refine (ih (by omega)).congr fun i j hi hj => ?_
        by_cases e : i = k
        · subst e; rw [if_neg (Nat.lt_irrefl _), if_pos (by omega), h2 i j hi hj (fun e => ht e.1)]
        · by_cases e2 : i < k
          · rw [if_pos e2, if_pos (by omega)]
          · rw [if_neg e2, if_neg (by omega)]
  exact (key n (Nat.le_refl n)).congr fun i j hi _ => if_pos hi
theorem det1_swp {d : Rat} {i a : Nat} : det1 d i a = (if i = a then 1 else -1) * d := by
  unfold det1
  split
  · rw [Rat.one_mul]
  · rw [Rat.neg_mul, Rat.one_mul]
theorem gi_step {n m c : Nat} {all : Bool} {A : Mt} {s : ES} {σ : Rat} {col : Nat → Nat} (hm : c < m) (hlt : ∀ i, i < n → s.π i < n) (hinj : ∀ i j, i < n → j < n → s.π i = s.π j → i = j) (h : GI n m c all A s σ col) :
    ∃ σ' col', GI n m (c + 1) all A (stp n m all s c) σ' col' := by
  obtain ⟨f1, f2, f3, f4⟩ := fnd_le (fun i => s.A (s.π i) c ≠ 0) (n - s.at') s.at'
  by_cases hfn : fnd (fun i => s.A (s.π i) c ≠ 0) (n - s.at') s.at' < n
  · have e : stp n m all s c = ⟨s.at' + 1, det1 s.d (fnd (fun i => s.A (s.π i) c ≠ 0) (n - s.at') s.at') s.at' * s.A (s.π (fnd (fun i => s.A (s.π i) c ≠ 0) (n - s.at') s.at')) c, swp s.π (fnd (fun i => s.A (s.π i) c ≠ 0) (n - s.at') s.at') s.at',
      cln s.A (swp s.π (fnd (fun i => s.A (s.π i) c ≠ 0) (n - s.at') s.at') s.at') all s.at' c m n⟩ := if_pos hfn
    rw [e]
    have hnz := f4 (by omega)
    clear e f2 f3 f4
    obtain ⟨a, d, π, B⟩ := s
    dsimp only at *
    generalize fnd (fun i => B (π i) c ≠ 0) (n - a) a = i0 at *
    have han : a < n := by omega
    have hinj' := swp_inj hinj hfn han
    have hP : ∀ r j, PR ⟨a, d, π, B⟩ r j = B (π r) j := fun _ _ => rfl
    -- the rows behind the exchange
    have hQa : ∀ j, B (swp π i0 a a) j = B (π i0) j := fun j => by rw [swp_at]
    have hQ : ∀ r, r ≠ a → ∃ r', (r' = if r = i0 then a else r) ∧ ∀ j, B (swp π i0 a r) j = B (π r') j := fun r hr => by
      refine ⟨_, rfl, fun j => ?_⟩
      unfold swp updN
      rw [if_neg hr]
      by_cases e : r = i0
      · rw [if_pos e, if_pos e]
      · rw [if_neg e, if_neg e]
    have hQi : ∀ r, r < a → ∀ j, B (swp π i0 a r) j = B (π r) j := fun r hr j => by
      obtain ⟨r', e, h2⟩ := hQ r (by omega)
      rw [if_neg (by omega)] at e
      rw [h2, e]
    have hQz : ∀ r j, a ≤ r → r < n → j < c → B (swp π i0 a r) j = 0 := fun r j h1 h2 h3 => by
      by_cases e : r = a
      · subst e; rw [hQa]; exact h.low i0 j f1 hfn h3
      · obtain ⟨r', e2, h4⟩ := hQ r e
        rw [h4]
        refine h.low r' j ?_ ?_ h3
        · show a ≤ r'; rw [e2]; split <;> omega
        · rw [e2]; split <;> omega
    have hre : RE n m A (fun r j => B (swp π i0 a r) j) ((if i0 = a then 1 else -1) * σ) := by
      by_cases e : i0 = a
      · rw [if_pos e, Rat.one_mul]
        exact h.re.congr fun i j _ _ => by rw [hP, e, swp_self]
      · rw [if_neg e, show (-1 : Rat) * σ = -σ by rw [Rat.neg_mul, Rat.one_mul]]
        refine .swp i0 a hfn han e h.re fun i j hi hj => ?_
        unfold LA.swp
        show B (swp π i0 a i) j = if i = i0 then B (π a) j else if i = a then B (π i0) j else B (π i) j
        unfold swp updN
        by_cases e1 : i = a
        · rw [if_pos e1]
          by_cases e2 : i = i0
          · exact absurd (e2.symm.trans e1) e
          · rw [if_neg e2, if_pos e1]
        · rw [if_neg e1]
          by_cases e2 : i = i0
          · rw [if_pos e2, if_pos e2]
          · rw [if_neg e2, if_neg e2, if_neg e1]
    have hpv : B (swp π i0 a a) c ≠ 0 := by rw [hQa]; exact hnz
    have hC1 : ∀ r j, r < n → j < m → tst all a r → c ≤ j → cln B (swp π i0 a) all a c m n (swp π i0 a r) j = B (swp π i0 a r) j - B (swp π i0 a r) c / B (swp π i0 a a) c * B (swp π i0 a a) j := fun r j hr hj ht hcj => cln_at hinj' hr j ⟨ht, hcj, hj⟩
    have hC2 : ∀ r j, r < n → ¬ (tst all a r ∧ c ≤ j) → cln B (swp π i0 a) all a c m n (swp π i0 a r) j = B (swp π i0 a r) j := fun r j hr hn => cln_not hinj' hr j fun e => hn ⟨e.1, e.2.1⟩
    have hcl0 : ∀ r, r < n → tst all a r → cln B (swp π i0 a) all a c m n (swp π i0 a r) c = 0 := fun r hr ht => by
      rw [hC1 r c hr hm ht (Nat.le_refl c), Rat.div_mul_cancel hpv]; grind
    have hPn : ∀ r j, PR ⟨a + 1, det1 d i0 a * B (π i0) c, swp π i0 a, cln B (swp π i0 a) all a c m n⟩ r j = cln B (swp π i0 a) all a c m n (swp π i0 a r) j := fun _ _ => rfl
    have hsame : ∀ i, i < a → ∀ j, j < c → cln B (swp π i0 a) all a c m n (swp π i0 a i) j = B (π i) j := fun i hi j hj => by
      rw [hC2 i j (by omega) (fun e => by omega), hQi i hi]
    have hrow : ∀ j, cln B (swp π i0 a) all a c m n (swp π i0 a a) j = B (π i0) j := fun j => by
      rw [hC2 a j han (fun e => tst_ne e.1 rfl), hQa]
    refine ⟨(if i0 = a then 1 else -1) * σ, fun i => if i = a then c else col i, ?_, ?_, ?_, ?_, ?_, ?_, ?_, ?_⟩
    · exact (re_clean hre han (fun j hj => hQz a j (Nat.le_refl a) han hj) (fun r j => cln B (swp π i0 a) all a c m n (swp π i0 a r) j) hC1 (fun r j hr _ hn => hC2 r j hr hn)).congr fun _ _ _ _ => rfl
    · show det1 d i0 a * B (π i0) c = (if i0 = a then 1 else -1) * σ * (prodP (fun i => cln B (swp π i0 a) all a c m n (swp π i0 a i) (if i = a then c else col i)) a * cln B (swp π i0 a) all a c m n (swp π i0 a a) (if a = a then c else col a))
      have hd : d = σ * prodP (fun i => B (π i) (col i)) a := h.d
      have e1 : prodP (fun i => cln B (swp π i0 a) all a c m n (swp π i0 a i) (if i = a then c else col i)) a = prodP (fun i => B (π i) (col i)) a := prodP_congr fun i hi => by
        rw [if_neg (show ¬ i = a by omega)]; exact hsame i hi _ (h.lt i hi)
      rw [e1, if_pos rfl, hrow, det1_swp, hd]
      grind
    · intro r j h1 h2 h3
      have h1 : a + 1 ≤ r := h1
      rw [hPn]
      by_cases e : j = c
      · subst e; exact hcl0 r h2 (.inl (by omega))
      · rw [hC2 r j h2 (fun e => by omega)]; exact hQz r j (by omega) h2 (by omega)
    · intro i hi
      have hi : i < a + 1 := hi
      split
      · omega
      · have := h.lt i (show i < a by omega); omega
    · intro i hi
      have hi : i < a + 1 := hi
      rw [hPn]
      by_cases e : i = a
      · subst e; rw [if_pos rfl, hrow]; exact hnz
      · rw [if_neg e, hsame i (by omega) _ (h.lt i (show i < a by omega))]; exact h.nz i (show i < a by omega)
    · intro i hi j hj
      have hi : i < a + 1 := hi
      rw [hPn]
      by_cases e : i = a
      · subst e; rw [if_pos rfl] at hj; rw [hrow]; exact h.low i0 j f1 hfn hj
      · rw [if_neg e] at hj
        have hia : i < a := by omega
        rw [hsame i hia j (by have := h.lt i hia; omega)]; exact h.ahead i hia j hj
    · intro i j hij hj
      have hj : j < a + 1 := hj
      rw [if_neg (show ¬ i = a by omega)]
      split
      · exact h.lt i (show i < a by omega)
      · exact h.inc i j hij (show j < a by omega)
    · intro hall i r hi hr hri
      have hi : i < a + 1 := hi
      rw [hPn]
      by_cases e : i = a
      · subst e
        rw [if_pos rfl]
        exact hcl0 r hr (by
          rcases Nat.lt_or_ge i r with h1 | h1
          · exact .inl h1
          · exact .inr ⟨hall, by omega⟩)
      · have hia : i < a := by omega
        have hci := h.lt i hia
        rw [if_neg e, hC2 r _ hr (fun e => by omega)]
        by_cases e2 : r < a
        · rw [hQi r e2]; exact h.cl hall i r hia hr hri
        · exact hQz r _ (by omega) hr hci
  · have e : stp n m all s c = s := if_neg hfn
    rw [e]
    refine ⟨σ, col, h.re, h.d, fun r j h1 h2 h3 => ?_, fun i hi => Nat.lt_succ_of_lt (h.lt i hi), h.nz, h.ahead, h.inc, h.cl⟩
    by_cases e : j = c
    · subst e; exact Classical.byContradiction fun hne => f3 r h1 (by omega) hne
    · exact h.low r j h1 h2 (by omega)
theorem stps_perm {n m : Nat} {all : Bool} {A : Nat → Nat → Rat} : ∀ c, (stps n m all A c).at' ≤ c ∧ (∀ i, i < n → (stps n m all A c).π i < n) ∧ ∀ i j, i < n → j < n → (stps n m all A c).π i = (stps n m all A c).π j → i = j
  | 0 => ⟨Nat.le_refl _, fun i hi => hi, fun i j _ _ e => e⟩
  | c + 1 => by
    obtain ⟨h1, h2, h3⟩ := stps_perm (n := n) (m := m) (all := all) (A := A) c
    show (stp n m all (stps n m all A c) c).at' ≤ c + 1 ∧ (∀ i, i < n → (stp n m all (stps n m all A c) c).π i < n) ∧ ∀ i j, i < n → j < n → (stp n m all (stps n m all A c) c).π i = (stp n m all (stps n m all A c) c).π j → i = j
    generalize stps n m all A c = s at *
    unfold stp
    split
    · rename_i hi
      have h4 := (fnd_le (fun i => s.A (s.π i) c ≠ 0) (n - s.at') s.at').1
      exact ⟨by show s.at' + 1 ≤ c + 1; omega, swp_lt h2 hi (by omega), swp_inj h3 hi (by omega)⟩
    · exact ⟨by omega, h2, h3⟩
theorem stps_gi {n m : Nat} {all : Bool} {A : Mt} : ∀ c, c ≤ m → ∃ σ col, GI n m c all A (stps n m all A c) σ col
  | 0, _ => ⟨1, fun _ => 0, .refl fun _ _ _ _ => rfl, (Rat.one_mul 1).symm, fun r j _ _ h => absurd h (Nat.not_lt_zero _), fun i h => absurd h (Nat.not_lt_zero _), fun i h => absurd h (Nat.not_lt_zero _), fun i h => absurd h (Nat.not_lt_zero _), fun i j _ h => absurd h (Nat.not_lt_zero _), fun _ i r h => absurd h (Nat.not_lt_zero _)⟩
  | c + 1, hc => by
    obtain ⟨σ, col, h⟩ := stps_gi (n := n) (m := m) (all := all) (A := A) c (by omega)
    obtain ⟨_, h2, h3⟩ := stps_perm (n := n) (m := m) (all := all) (A := A) c
    exact gi_step (by omega) h2 h3 h
theorem GI.le {n m c : Nat} {all : Bool} {A : Mt} {s : ES} {σ : Rat} {col : Nat → Nat} (h : GI n m c all A s σ col) : ∀ i, i < s.at' → i ≤ col i
  | 0, _ => Nat.zero_le _
  | i + 1, hi => by
    have h1 := h.le i (by omega)
    have h2 := h.inc i (i + 1) (by omega) hi
    omega
/-- Where all columns have a pivot each stands in its row. -/
theorem GI.full {n m : Nat} {all : Bool} {A : Mt} {s : ES} {σ : Rat} {col : Nat → Nat} (h : GI n m n all A s σ col) (hf : s.at' = n) : ∀ i, i < n → col i = i := by
  have hge : ∀ k i, i + k + 1 = n → col i ≤ i := by
    intro k
    induction k with
    | zero => intro i hi; have := h.lt i (by omega); omega
    | succ k ih =>
      intro i hi
      have h1 := ih (i + 1) (by omega)
      have h2 := h.inc i (i + 1) (by omega) (by omega)
      omega
  intro i hi
  have h1 := h.le i (by omega)
  have h2 := hge (n - 1 - i) i (by omega)
  omega
theorem prodP_fold (f : Nat → Rat) (n : Nat) : (List.range n).foldl (fun p i => p * f i) 1 = prodP f n := by
  induction n with
  | zero => rfl
  | succ n ih => rw [List.range_succ, List.foldl_append, ih]; rfl
theorem fin_det {n m : Nat} {all : Bool} {A : Mt} (hnm : n ≤ m) : (if (stps n m all A n).at' < n then 0 else (stps n m all A n).d) = det n A := by
  obtain ⟨σ, col, h⟩ := stps_gi (n := n) (m := m) (all := all) (A := A) n hnm
  obtain ⟨hle, _, _⟩ := stps_perm (n := n) (m := m) (all := all) (A := A) n
  generalize stps n m all A n = s at *
  have h1 := h.re.det hnm
  have h2 := h.re.sq
  split
  · rename_i hlt
    have h3 : det n (PR s) = 0 := LA.det_zero_row _ (a := n - 1) (by omega) fun j hj => h.low (n - 1) j (by omega) (by omega) hj
    rw [h3] at h1
    have : det n A = σ * (σ * det n A) := by rw [← Rat.mul_assoc, h2, Rat.one_mul]
    rw [this, ← h1, Rat.mul_zero]
  · have hf : s.at' = n := by omega
    have hcol := h.full hf
    have h3 : det n (PR s) = prodP (fun i => PR s i i) n := by
      rw [det_low n _ (fun i j hi hj => h.ahead i (by omega) j (by rw [hcol i hi]; exact hj)), prodP_fold]
    have h4 := h.d
    rw [hf, prodP_congr (g := fun i => PR s i i) (fun i hi => by rw [hcol i hi]), ← h3, h1] at h4
    rw [h4, ← Rat.mul_assoc, h2, Rat.one_mul]
theorem fin_rank {n m : Nat} {all : Bool} {A : Mt} (hnm : n ≤ m) : HasRank n A (stps n m all A n).at' := by
  obtain ⟨σ, col, h⟩ := stps_gi (n := n) (m := m) (all := all) (A := A) n hnm
  obtain ⟨hle, _, _⟩ := stps_perm (n := n) (m := m) (all := all) (A := A) n
  generalize stps n m all A n = s at *
  refine h.re.rank hnm ⟨⟨one, PR s, fun i j hi hj => ?_⟩, ?_⟩
  · by_cases e : i < s.at'
    · rw [S_single e (fun k hk hne => by unfold one; rw [if_neg (Ne.symm hne), Rat.zero_mul])]
      unfold one; rw [if_pos rfl, Rat.one_mul]
    · rw [h.low i j (by omega) hi (by omega), S_null fun k hk => by unfold one; rw [if_neg (by omega), Rat.zero_mul]]
  · -- the pivots' columns have a right inverse
    have hd : det s.at' (tr fun i k => PR s i (col k)) ≠ 0 := by
      rw [LA.det_tr, det_low s.at' _ (fun i j hi hj => h.ahead i hi (col j) (h.inc j i hj hi))]
      rw [prodP_fold]
      have : ∀ k, k ≤ s.at' → prodP (fun i => PR s i (col i)) k ≠ 0 := by
        intro k
        induction k with
        | zero => intro _; show (1 : Rat) ≠ 0; decide
        | succ k ih => intro hk; exact fun e => (Rat.mul_eq_zero.1 e).elim (ih (by omega)) (h.nz k (by omega))
      exact this s.at' (Nat.le_refl _)
    obtain ⟨X, hX⟩ := inverse _ hd
    refine ⟨one, fun j b => S s.at' fun k => if j = col k then X b k else 0, fun a b ha hb => ?_⟩
    have e1 : S n (fun i => S n (fun j => one a i * PR s i j * S s.at' fun k => if j = col k then X b k else 0)) = S n (fun j => PR s a j * S s.at' fun k => if j = col k then X b k else 0) := by
      rw [S_single (k := a) (by omega) (fun i _ hne => S_null fun j _ => by unfold one; rw [if_neg (Ne.symm hne), Rat.zero_mul, Rat.zero_mul])]
      exact S_congr fun j _ => by unfold one; rw [if_pos rfl, Rat.one_mul]
    rw [e1]
    have e2 : S n (fun j => PR s a j * S s.at' fun k => if j = col k then X b k else 0) = S s.at' (fun k => S n fun j => PR s a j * (if j = col k then X b k else 0)) := by
      rw [← LA.S_swap]
      exact S_congr fun j _ => (S_mul _ _ _).symm
    rw [e2]
    have e3 : S s.at' (fun k => S n fun j => PR s a j * (if j = col k then X b k else 0)) = S s.at' (fun k => X b k * PR s a (col k)) := S_congr fun k hk => by
      rw [S_single (k := col k) (h.lt k hk) (fun j _ hne => by rw [if_neg hne, Rat.mul_zero]), if_pos rfl, Rat.mul_comm]
    rw [e3, LA.one_symm]
    exact hX b a hb ha
end Go.Proofs.YtdnmoggifjlbiaaGreat.AM
/- The document's dense matrices: walked. -/
namespace Go.Proofs.YtdnmoggifjlbiaaGreat.AM
open Go Go.RowKit Go.Proofs.YtdnmoggifjlbiaaGreat.PN Go.Proofs.YtdnmoggifjlbiaaGreat.V
open Go.Proofs.YtdnmoggifjlbiaaGreat.LA (S S_succ S_zero S_congr)
set_option linter.unusedVariables false
set_option linter.unusedSimpArgs false
set_option maxRecDepth 4000
set_option maxHeartbeats 4000000
end Go.Proofs.YtdnmoggifjlbiaaGreat.AM
/- The document's dense matrices: the rest; leading minors: walked. -/
namespace Go.Proofs.YtdnmoggifjlbiaaGreat.AM
open Go Go.RowKit Go.Proofs.YtdnmoggifjlbiaaGreat.PN Go.Proofs.YtdnmoggifjlbiaaGreat.V
open Go.Proofs.YtdnmoggifjlbiaaGreat.LA (S S_succ S_zero S_congr)
set_option linter.unusedVariables false
set_option linter.unusedSimpArgs false
set_option maxRecDepth 4000
set_option maxHeartbeats 4000000
theorem stps_congr {n m : Nat} {all : Bool} {A A' : Nat → Nat → Rat} (h : ∀ i j, j < m → A i j = A' i j) : ∀ c, c ≤ m → (stps n m all A c).at' = (stps n m all A' c).at' ∧ (stps n m all A c).d = (stps n m all A' c).d ∧ (stps n m all A c).π = (stps n m all A' c).π ∧ ∀ i j, j < m → (stps n m all A c).A i j = (stps n m all A' c).A i j
  | 0, _ => ⟨rfl, rfl, rfl, h⟩
  | c + 1, hc => by
    obtain ⟨h1, h2, h3, h4⟩ := stps_congr h c (by omega)
    show (stp n m all (stps n m all A c) c).at' = (stp n m all (stps n m all A' c) c).at' ∧ (stp n m all (stps n m all A c) c).d = (stp n m all (stps n m all A' c) c).d ∧ (stp n m all (stps n m all A c) c).π = (stp n m all (stps n m all A' c) c).π ∧ ∀ i j, j < m → (stp n m all (stps n m all A c) c).A i j = (stp n m all (stps n m all A' c) c).A i j
    generalize stps n m all A c = s at *
    generalize stps n m all A' c = s' at *
    obtain ⟨a, d, π, B⟩ := s
    obtain ⟨a', d', π', B'⟩ := s'
    have h1 : a = a' := h1
    have h2 : d = d' := h2
    have h3 : π = π' := h3
    have k4 : ∀ i j, j < m → B i j = B' i j := h4
    clear h4
    subst h1; subst h2; subst h3
    have hp : (fun i => B (π i) c ≠ 0) = (fun i => B' (π i) c ≠ 0) := by funext i; rw [k4 _ _ (by omega)]
    unfold stp
    simp only [hp]
    split
    · refine ⟨rfl, ?_, rfl, fun i j hj => ?_⟩
      · show _ * B _ c = _ * B' _ c
        rw [k4 _ _ (by omega)]
      · show cln B _ _ _ _ _ _ i j = cln B' _ _ _ _ _ _ i j
        unfold cln
        rw [k4 i j hj, k4 i c (by omega), k4 _ c (by omega), k4 _ j hj]
    · exact ⟨rfl, rfl, rfl, k4⟩
theorem gs_eq (n : Nat) (F : Nat → Nat → Rat) : (stps n n false F n).at' = (gs n F).at' ∧ (stps n n false F n).d = (gs n F).d := by
  have h := stps_congr (n := n) (m := n) (all := false) (A := F) (A' := aug n F fun _ _ => 0) (fun i j hj => by unfold aug; rw [if_pos hj]) n (Nat.le_refl n)
  exact ⟨h.1, h.2.1⟩
theorem dd_gdet (n : Nat) (F : Nat → Nat → Rat) : dd n (stps n n false F n) = gdet n F := by
  obtain ⟨h1, h2⟩ := gs_eq n F
  unfold dd gdet
  rw [h1, h2]
theorem r7_det {n X : Nat} {F : Nat → Nat → Rat} (hB : TB n n X F) (hX : X ≤ 2400) (h0 : 0 < n) (hn : n ≤ 8) : Has Tryz.prog 39 [.mat false n (fun _ => n) (fun i j => .q (F i j))] (.q (gdet n F)) := by
  refine has_of Tryz.func39 (by kernel_rfl) rfl Tryz.ntmps39 Tryz.results39 rfl rfl rfl ?_
  have c := r7_triangle hB hX h0 hn (Nat.le_refl n) (by omega)
  rw [dd_gdet] at c
  repeat(first|refine run1 ?_|((with_reducible apply st_call);exact rfl;exact rfl;exact rfl;first|(exact c))|((with_reducible apply st_callg);exact rfl;exact rfl;(first|exact rfl|assumption);exact rfl;exact rfl;exact rfl;first|(exact c)))
  refine ⟨.inr rfl, _, Imp.refl _, ?_⟩
  exact .one (.rat rfl rfl (by decide) rfl (by decide) rfl)
theorem r7_cut {n m k : Nat} {F : Nat → Nat → Rat} (hk : k ≤ n) (hm : k ≤ m) (hn : n ≤ 8) : Has Tryz.prog 118 [.mat false n (fun _ => m) (fun i j => .q (F i j)), .i k] (.mat true k (fun _ => k) (fun i j => .q (F i j))) := by
  refine has_of Tryz.func118 (by kernel_rfl) rfl Tryz.ntmps118 Tryz.results118 rfl rfl rfl ?_
  refine run0 ?_
  refine awp_loop (fun m' s => ∃ u, u ≤ k ∧ m' = k - u ∧ s = accS 5 (.ones WT u (fun i => .row true k fun j => .q (F i j))) [(0, .mat false n (fun _ => m) (fun i j => .q (F i j))), (1, .i k), (6, .i (u : Int))] []) k _ (acc_start rfl rfl (by exact ⟨by decide, rfl⟩) rfl (by decide) ?_ ?_) ⟨0, Nat.zero_le _, rfl, rfl⟩ ?_
  · exact eA
  · exact hA
  · rintro m' s ⟨u, hu, rfl, rfl⟩
    refine run0 ?_
    refine awp_if rfl (fun h => ?_) (fun h => ?_)
    · have h : u < k := by omega
      refine run0 ?_
      refine q_loop (m' := k - (u + 1)) (by omega) (acc_pub (a := 22) (c := 20) rfl rfl rfl (fun i hi => if_pos hi) (by show (if _ then _ else _) = _; rw [if_neg (Nat.lt_irrefl _), Nat.sub_self]; rfl) rfl rfl ?_ rfl (by omega) (fun _ => by exact True.intro) (by decide) rfl rfl ?_ (by exact True.intro)) ⟨u + 1, by omega, rfl, rfl⟩
      · intro j hj
        show glue _ _ _ j = _
        unfold glue
        rw [if_neg (Nat.not_lt_zero _), Nat.sub_zero]
        show RA.q (F u (0 + j)) = _
        rw [Nat.zero_add]
      · refine alle rfl (Le.eq rfl rfl) True.intro (alle rfl (Le.eq rfl rfl) True.intro (alle rfl (Le.eq rfl rfl) True.intro True.intro))
    · obtain rfl : u = k := by omega
      refine run0 ?_
      refine ⟨.inr rfl, _, imp_mat 4 (fun _ => u) (fun i j => .q (F i j)) rfl rfl rfl (fun _ _ => rfl), ?_⟩
      exact .one (.tmp rfl)
end Go.Proofs.YtdnmoggifjlbiaaGreat.AM
/- Determinants and ranks: the plain laws. -/
namespace Go.Proofs.YtdnmoggifjlbiaaGreat.AM
open Go.Proofs.YtdnmoggifjlbiaaGreat.LA (Mt S S_succ S_zero S_congr det det_congr det_swp det_mul det_tr det_one HasRank rank_full rank_unique rank_tr)
set_option linter.unusedVariables false
set_option linter.unusedSimpArgs false
theorem gdet_det (n : Nat) (F : Nat → Nat → Rat) : gdet n F = det n F := by rw [← dd_gdet]; exact fin_det (Nat.le_refl n)
end Go.Proofs.YtdnmoggifjlbiaaGreat.AM

/- Joined texts, 19: DnE DnF DnG PElim DnH DnI LawA LawD PRing LawE LawH PBt. -/
import Derived.Test.YtdnmoggifjlbiaaGreatJLawTurnedKnown18
import Derived.Test.YtdnmoggifjlbiaaGreatJLawTurnedKnown13
import Derived.Test.YtdnmoggifjlbiaaGreatJLawTurnedKnown17
set_option linter.unusedVariables false
set_option linter.unusedSimpArgs false
/- Dense matrices: walks: the steps on rows. -/
namespace Go.Proofs.YtdnmoggifjlbiaaGreat.AM
open Go Go.RowKit Go.Proofs.YtdnmoggifjlbiaaGreat.PN Go.Proofs.YtdnmoggifjlbiaaGreat.V
open Go.Proofs.YtdnmoggifjlbiaaGreat.LA (S S_succ S_zero S_congr)
set_option linter.unusedVariables false
set_option linter.unusedSimpArgs false
set_option maxRecDepth 4000
set_option maxHeartbeats 2000000
theorem d_nought {p : Rat} : Has Tryz.prog 169 [.q p] (.b (decide (p = 0))) := by
  refine has_of Tryz.func169 (by kernel_rfl) rfl Tryz.ntmps169 Tryz.results169 rfl rfl rfl ?_
  refine run0 ?_
  refine ⟨.inr rfl, _, Imp.refl _, ?_⟩
  have e : decide ((size (nm p) : Int) = 0) = decide (p = 0) := by simp [size_eq_zero, nm_eq_zero]
  refine .one (.tmp ?_)
  exact congrArg (fun b => some (AV.b b)) e
/-- The variable that bears rows, and a determinant. -/
def wk (d : Rat) : Nat → AV := fun i => match i with
  | 0 => .own 61 0
  | 1 => .rs (.q d)
  | 2 => .rn (.q d)
  | _ => .rd (.q d)
abbrev WH (n m : Nat) (d : Rat) (π : Nat → Nat) (A : Nat → Nat → Rat) : List (Nat × Fam) :=
  [(60, (1, fun _ => .ones 118 4 (wk d))), (61, (1, fun _ => .ones WT n (fun i => .own 62 (π i)))), (62, (n, fun r => .rats m (fun j => .q (A r j))))]
theorem wk_upd {d d' : Rat} : ∀ i, i < 4 → upd3 (wk d) 1 (.q d') i = wk d' i := fun i hi => by
  match i, hi with
  | 0, _ => rfl
  | 1, _ => rfl
  | 2, _ => rfl
  | 3, _ => rfl
theorem wk_ok {U : Nat → Bool} (hU : U 61 = true) (d : Rat) : ∀ i, (wk d i).ok U := fun i => by
  match i with
  | 0 => exact hU
  | 1 => trivial
  | 2 => trivial
  | _ + 3 => trivial
theorem imp_WH {s : St} {e : List (Nat × AV)} {n m : Nat} {d : Rat} {π : Nat → Nat} {A : Nat → Nat → Rat} {F0 F1 F2 : Nat → Blk} {f0 f1 : Nat → AV} (h0 : s.heap 60 = some (1, F0)) (e0 : F0 0 = .ones 118 4 f0) (g0 : ∀ i, i < 4 → f0 i = wk d i)
    (h1 : s.heap 61 = some (1, F1)) (e1 : F1 0 = .ones WT n f1) (g1 : ∀ i, i < n → f1 i = .own 62 (π i)) (h2 : s.heap 62 = some (n, F2)) (g2 : ∀ r, r < n → BLe idR (F2 r) (.rats m fun j => .q (A r j)))
    (he : AllE s idR (fun g => memN g [60, 61, 62]) e) : Imp s (stl e (WH n m d π A)) := by
  refine imp_id (h := WH n m d π A) he ⟨fun r hr => ?_, fun r hr => ?_, fun r hr => ?_, trivial⟩ (by cases s.used 60 <;> rfl)
  · obtain rfl : r = 0 := by omega
    refine ⟨1, F0, h0, by decide, ?_, fun i hi => wk_ok rfl d i⟩
    show BLe idR (F0 0) _
    rw [e0]; exact bleo rfl fun i hi => Le.id (g0 i hi)
  · obtain rfl : r = 0 := by omega
    refine ⟨1, F1, h1, by decide, ?_, fun i hi => rfl⟩
    show BLe idR (F1 0) _
    rw [e1]; exact bleo rfl fun i hi => Le.id (g1 i hi)
  · exact ⟨n, F2, h2, hr, g2 r hr, trivial⟩
theorem d_pivot_no {n m at' col : Nat} {d : Rat} {π : Nat → Nat} {A : Nat → Nat → Rat} (hn : n ≤ 8) (hm : m ≤ 9) (hc : col < m) (hπ : ∀ i, i < n → π i < n) (ha : at' ≤ n) (h0 : ∀ i, at' ≤ i → i < n → A (π i) col = 0) :
    HasH Tryz.prog 145 (WH n m d π A) [.ptr 60 0 0, .i at', .i col] (.b false) (WH n m d π A) := by
  refine hasH_of Tryz.func145 (by kernel_rfl) rfl Tryz.ntmps145 Tryz.results145 True.intro rfl rfl ?_
  refine run0 ?_
  refine awp_loop (fun m' s => ∃ k, at' ≤ k ∧ k ≤ n ∧ m' = n - k ∧ s = stl [(0, .ptr 60 0 0), (1, .i at'), (2, .i col), (7, .i (k : Int))] (WH n m d π A)) (n - at') _ (imp_WH rfl rfl (fun _ _ => rfl) rfl rfl (fun _ _ => rfl) rfl (fun r hr => blen rfl fun _ _ => rfl) ?_) ⟨at', Nat.le_refl _, ha, rfl, rfl⟩ ?_
  · exact eA
  · rintro m' s ⟨k, hk1, hk, rfl, rfl⟩
    refine run0 ?_
    refine awp_if rfl (fun h => ?_) (fun h => ?_)
    · have h' : (k : Int) < n := h
      have h : k < n := by omega
      have hp := hπ k h
      repeat(first|refine run1 ?_|((with_reducible apply st_call);exact rfl;exact rfl;exact rfl;first|(exact d_nought))|((with_reducible apply st_callg);exact rfl;exact rfl;(first|exact rfl|assumption);exact rfl;exact rfl;exact rfl;first|(exact d_nought)))
      refine awp_yes rfl ?_ ?_
      · exact decide_eq_true (h0 k hk1 h)
      refine run0 ?_
      refine q_loop ?_ (imp_WH rfl rfl (fun _ _ => rfl) rfl rfl (fun _ _ => rfl) rfl (fun r hr => blen rfl fun _ _ => rfl) ?_) ⟨k + 1, ?_, ?_, rfl, rfl⟩
      · omega
      · exact eA
      · omega
      · omega
    · refine run0 ?_
      refine ⟨.inr rfl, [(6, .b false)], imp_WH rfl rfl (fun _ _ => rfl) rfl rfl (fun _ _ => rfl) rfl (fun r hr => blen rfl fun _ _ => rfl) ?_, .one (.tmp rfl)⟩
      exact eA
def swp (π : Nat → Nat) (i j : Nat) : Nat → Nat := updN (updN π i (π j)) j (π i)
theorem swp_own {π : Nat → Nat} {i j g : Nat} (k : Nat) : updN (updN (fun i => AV.own g (π i)) i (.own g (π j))) j (.own g (π i)) k = .own g (swp π i j k) := by
  unfold swp updN
  by_cases h1 : k = j
  · rw [if_pos h1, if_pos h1]
  · rw [if_neg h1, if_neg h1]
    by_cases h2 : k = i
    · rw [if_pos h2, if_pos h2]
    · rw [if_neg h2, if_neg h2]
theorem swp_self (π : Nat → Nat) (i k : Nat) : swp π i i k = π k := by
  unfold swp updN
  by_cases h : k = i
  · rw [if_pos h, h]
  · rw [if_neg h, if_neg h]
theorem swp_at (π : Nat → Nat) (i j : Nat) : swp π i j j = π i := updN_same _ _ _
def det1 (d : Rat) (i at' : Nat) : Rat := if i = at' then d else -d
theorem d_pivot_yes {n m at' col K L i : Nat} {d : Rat} {π : Nat → Nat} {A : Nat → Nat → Rat} [hA : ∀ i j, Wt (A i j) K] [hd : Wt d L] (hK : K ≤ 1000000000) (hL : L ≤ 1000000000) (hn : n ≤ 8) (hm : m ≤ 9) (hc : col < m) (hπ : ∀ i, i < n → π i < n) (ha : at' ≤ i) (hi : i < n) (h0 : ∀ j, at' ≤ j → j < i → A (π j) col = 0) (h1 : A (π i) col ≠ 0) :
    HasH Tryz.prog 145 (WH n m d π A) [.ptr 60 0 0, .i at', .i col] (.b true) (WH n m (det1 d i at' * A (π i) col) (swp π i at') A) := by
  refine hasH_of Tryz.func145 (by kernel_rfl) rfl Tryz.ntmps145 Tryz.results145 True.intro rfl rfl ?_
  refine run0 ?_
  refine awp_loop (fun m' s => ∃ k, at' ≤ k ∧ k ≤ i ∧ m' = n - k ∧ s = stl [(0, .ptr 60 0 0), (1, .i at'), (2, .i col), (7, .i (k : Int))] (WH n m d π A)) (n - at') _ (imp_WH rfl rfl (fun _ _ => rfl) rfl rfl (fun _ _ => rfl) rfl (fun r hr => blen rfl fun _ _ => rfl) ?_) ⟨at', Nat.le_refl _, ha, rfl, rfl⟩ ?_
  · exact eA
  · rintro m' s ⟨k, hk1, hk, rfl, rfl⟩
    refine run0 ?_
    refine awp_if rfl (fun h => ?_) (fun h => ?_)
    · have hp := hπ k (by omega)
      repeat(first|refine run1 ?_|((with_reducible apply st_call);exact rfl;exact rfl;exact rfl;first|(exact d_nought))|((with_reducible apply st_callg);exact rfl;exact rfl;(first|exact rfl|assumption);exact rfl;exact rfl;exact rfl;first|(exact d_nought)))
      by_cases hki : k = i
      · subst hki
        refine awp_no rfl ?_ ?_
        · exact decide_eq_false h1
        refine run0 ?_
        have hpa := hπ at' (by omega)
        have hps : swp π k at' at' < n := by rw [swp_at]; exact hp
        refine awp_if rfl (fun h => ?_) (fun h => ?_)
        · have e1 : det1 d k at' = -d := if_neg (by omega)
          rw [e1, ← swp_at π k at']
          refine run2 ?_
          refine run3 ?_
          repeat(first|refine run4 ?_|((with_reducible apply st_call);exact rfl;exact rfl;exact rfl;first|(exact c_neg (by omega)))|((with_reducible apply st_callg);exact rfl;exact rfl;(first|exact rfl|assumption);exact rfl;exact rfl;exact rfl;first|(exact c_neg (by omega))))
          refine awp_imp (imp_WH (n := n) (m := m) (d := -d) (π := swp π k at') (A := A) (e := [(0, .ptr 60 0 0), (1, .i at'), (2, .i col)]) rfl rfl wk_upd rfl rfl (fun _ _ => swp_own _) rfl (fun r hr => blen rfl fun _ _ => rfl) ?_) ?_
          · exact eA
          repeat(first|refine run1 ?_|((with_reducible apply st_call);exact rfl;exact rfl;exact rfl;first|(exact c_mul ⟨by omega, by omega⟩))|((with_reducible apply st_callg);exact rfl;exact rfl;(first|exact rfl|assumption);exact rfl;exact rfl;exact rfl;first|(exact c_mul ⟨by omega, by omega⟩)))
          refine ⟨.inr rfl, [(6, .b true)], imp_WH rfl rfl wk_upd rfl rfl (fun _ _ => rfl) rfl (fun r hr => blen rfl fun _ _ => rfl) ?_, .one (.tmp rfl)⟩
          exact eA
        · obtain rfl : k = at' := by omega
          have e1 : det1 d k k = d := if_pos rfl
          rw [e1]
          repeat(first|refine run1 ?_|((with_reducible apply st_call);exact rfl;exact rfl;exact rfl;first|(exact c_mul ⟨by omega, by omega⟩))|((with_reducible apply st_callg);exact rfl;exact rfl;(first|exact rfl|assumption);exact rfl;exact rfl;exact rfl;first|(exact c_mul ⟨by omega, by omega⟩)))
          refine ⟨.inr rfl, [(6, .b true)], imp_WH rfl rfl wk_upd rfl rfl (fun _ _ => congrArg _ (swp_self _ _ _).symm) rfl (fun r hr => blen rfl fun _ _ => rfl) ?_, .one (.tmp rfl)⟩
          exact eA
      · have hlt : k < i := by omega
        refine awp_yes rfl ?_ ?_
        · exact decide_eq_true (h0 k hk1 hlt)
        refine run0 ?_
        refine q_loop ?_ (imp_WH rfl rfl (fun _ _ => rfl) rfl rfl (fun _ _ => rfl) rfl (fun r hr => blen rfl fun _ _ => rfl) ?_) ⟨k + 1, ?_, ?_, rfl, rfl⟩
        · omega
        · exact eA
        · omega
        · omega
    · exact absurd (show (k : Int) < n by omega) h
end Go.Proofs.YtdnmoggifjlbiaaGreat.AM
/- Dense matrices: walks: a row is taken away from another one. -/
namespace Go.Proofs.YtdnmoggifjlbiaaGreat.AM
open Go Go.RowKit Go.Proofs.YtdnmoggifjlbiaaGreat.PN Go.Proofs.YtdnmoggifjlbiaaGreat.V
open Go.Proofs.YtdnmoggifjlbiaaGreat.LA (S S_succ S_zero S_congr)
set_option linter.unusedVariables false
set_option linter.unusedSimpArgs false
set_option maxRecDepth 4000
set_option maxHeartbeats 2000000
theorem imp_WHt {s : St} {e : List (Nat × AV)} {t : List (Nat × Fam)} {n m : Nat} {d : Rat} {π : Nat → Nat} {A : Nat → Nat → Rat} {F0 F1 F2 : Nat → Blk} {f0 f1 : Nat → AV} (h0 : s.heap 60 = some (1, F0)) (e0 : F0 0 = .ones 118 4 f0) (g0 : ∀ i, i < 4 → f0 i = wk d i)
    (h1 : s.heap 61 = some (1, F1)) (e1 : F1 0 = .ones WT n f1) (g1 : ∀ i, i < n → f1 i = .own 62 (π i)) (h2 : s.heap 62 = some (n, F2)) (g2 : ∀ r, r < n → BLe idR (F2 r) (.rats m fun j => .q (A r j)))
    (he : AllE s idR (fun g => memN g (60 :: 61 :: 62 :: keys t)) e) (ht : AllH s idR (fun g => memN g (60 :: 61 :: 62 :: keys t)) t) : Imp s (stl e (WH n m d π A ++ t)) := by
  refine imp_id (h := WH n m d π A ++ t) he ⟨fun r hr => ?_, fun r hr => ?_, fun r hr => ?_, ht⟩ (by cases s.used 60 <;> rfl)
  · obtain rfl : r = 0 := by omega
    refine ⟨1, F0, h0, by decide, ?_, fun i hi => wk_ok rfl d i⟩
    show BLe idR (F0 0) _
    rw [e0]; exact bleo rfl fun i hi => Le.id (g0 i hi)
  · obtain rfl : r = 0 := by omega
    refine ⟨1, F1, h1, by decide, ?_, fun i hi => rfl⟩
    show BLe idR (F1 0) _
    rw [e1]; exact bleo rfl fun i hi => Le.id (g1 i hi)
  · exact ⟨n, F2, h2, hr, g2 r hr, trivial⟩
/-- A row, less a multiple of another one from a column on, up to k. -/
def clr (A : Nat → Nat → Rat) (q : Rat) (a b col k : Nat) : Nat → Nat → Rat := fun r j => if r = a ∧ col ≤ j ∧ j < k then A a j - q * A b j else A r j
theorem clr_wt {A : Nat → Nat → Rat} {q : Rat} {a b col k K : Nat} [hA : ∀ i j, Wt (A i j) K] [hq : Wt q (K + K)] (r j : Nat) : Wt (clr A q a b col k r j) (4 * K + 1) := by
  unfold clr
  split
  · exact (inferInstance : Wt (A a j - q * A b j) (K + (K + K + K) + 1)).mono (by omega)
  · exact (hA r j).mono (by omega)
theorem clr_step {A : Nat → Nat → Rat} {q : Rat} {a b col k : Nat} (hab : a ≠ b) (hk : col ≤ k) (r j : Nat) : (if r = a ∧ j = k then clr A q a b col k a k - q * clr A q a b col k b k else clr A q a b col k r j) = clr A q a b col (k + 1) r j := by
  unfold clr
  by_cases h1 : r = a
  · subst h1
    by_cases h2 : j = k
    · subst h2
      rw [if_pos ⟨rfl, rfl⟩, if_neg (by omega), if_neg (fun h => hab h.1.symm), if_pos ⟨rfl, hk, by omega⟩]
    · rw [if_neg (by omega)]
      by_cases h3 : col ≤ j ∧ j < k
      · rw [if_pos ⟨rfl, h3⟩, if_pos ⟨rfl, by omega, by omega⟩]
      · rw [if_neg (fun h => h3 h.2), if_neg (by omega)]
  · rw [if_neg (fun h => h1 h.1), if_neg (fun h => h1 h.1), if_neg (fun h => h1 h.1)]
theorem clr_none {A : Nat → Nat → Rat} {q : Rat} {a b col r j : Nat} : clr A q a b col col r j = A r j := by
  unfold clr; rw [if_neg (by omega)]
theorem clr_zero {A : Nat → Nat → Rat} {q : Rat} {a b col k r j : Nat} (h : q = 0) : clr A q a b col k r j = A r j := by
  unfold clr
  split
  · rename_i h1; rw [h, h1.1, Rat.zero_mul]; exact by rw [Rat.sub_eq_add_neg, Rat.neg_zero, Rat.add_zero]
  · rfl
theorem clr_blk {C C' : Nat → Nat → Rat} {m a k : Nat} {x : Rat} (h : ∀ r j, (if r = a ∧ j = k then x else C r j) = C' r j) (r : Nat) : BLe idR (updN (fun r => Blk.rats m fun j => .q (C r j)) a (.rats m (updN (fun j => .q (C a j)) k (.q x))) r) (.rats m fun j => .q (C' r j)) := by
  by_cases e : r = a
  · subst e
    rw [updN_same]
    refine blen rfl fun j hj => ?_
    rw [← h r j]
    unfold updN
    by_cases e2 : j = k
    · rw [if_pos e2, if_pos ⟨rfl, e2⟩]
    · rw [if_neg e2, if_neg (fun h => e2 h.2)]
  · rw [updN_ne _ _ e]
    refine blen rfl fun j hj => ?_
    rw [← h r j, if_neg (fun h => e h.1)]
theorem d_clean {n m i at' col K : Nat} {d : Rat} {π : Nat → Nat} {A : Nat → Nat → Rat} [hA : ∀ i j, Wt (A i j) K] (hK : K ≤ 1000000000) (hn : n ≤ 8) (hm : m ≤ 9) (hc : col < m) (hi : i < n) (ha : at' < n) (hpi : π i < n) (hpa : π at' < n) (hne : π i ≠ π at') (h0 : A (π at') col ≠ 0) :
    HasH Tryz.prog 146 (WH n m d π A) [.ptr 60 0 0, .i i, .i at', .i col] (.v (.tuple #[])) (WH n m d π (clr A (A (π i) col / A (π at') col) (π i) (π at') col m)) := by
  refine hasH_of Tryz.func146 (by kernel_rfl) rfl Tryz.ntmps146 Tryz.results146 True.intro rfl rfl ?_
  repeat(first|refine run1 ?_|((with_reducible apply st_call);exact rfl;exact rfl;exact rfl;first|(exact c_quo ⟨by omega, by omega⟩ h0)|(exact d_nought))|((with_reducible apply st_callg);exact rfl;exact rfl;(first|exact rfl|assumption);exact rfl;exact rfl;exact rfl;first|(exact c_quo ⟨by omega, by omega⟩ h0)|(exact d_nought)))
  have wq : Wt (A (π i) col / A (π at') col) (K + K) := inferInstance
  refine awp_if rfl (fun h => ?_) (fun h => ?_)
  · refine run0 ?_
    refine ⟨.inr rfl, [], imp_WH rfl rfl (fun _ _ => rfl) rfl rfl (fun _ _ => rfl) rfl (fun r hr => blen rfl fun _ _ => congrArg RA.q (clr_zero h).symm) ?_, .none⟩
    exact eA
  · refine run0 ?_
    generalize hq : A (π i) col / A (π at') col = q at *
    have w : ∀ k r j, Wt (clr A q (π i) (π at') col k r j) (4 * K + 1) := fun k r j => clr_wt r j
    refine awp_loop (fun m' s => ∃ k, col ≤ k ∧ k ≤ m ∧ m' = m - k ∧ s = stl [(0, .ptr 60 0 0), (1, .i i), (2, .i at'), (3, .i col), (8, .rptr 8 0 0), (10, .i (k : Int))] (WH n m d π (clr A q (π i) (π at') col k) ++ [(8, (1, fun _ => .rats 1 fun _ => .q q))])) (m - col) _ (imp_WHt rfl rfl (fun _ _ => rfl) rfl rfl (fun _ _ => rfl) rfl (fun r hr => blen rfl fun _ _ => congrArg RA.q clr_none.symm) ?_ ?_) ⟨col, Nat.le_refl _, by omega, rfl, rfl⟩ ?_
    · exact eA
    · refine allh rfl (by decide) (ble1 (congrArg RA.q hq)) True.intro True.intro
    · rintro m' s ⟨k, hk1, hk, rfl, rfl⟩
      have hwk := w k
      refine run0 ?_
      refine awp_if rfl (fun h => ?_) (fun h => ?_)
      · have h' : (k : Int) < m := h
        have h : k < m := by omega
        repeat(first|refine run1 ?_|((with_reducible apply st_call);exact rfl;exact rfl;exact rfl;first|(exact c_mul ⟨by omega, by omega⟩)|(exact c_sub ⟨by omega, by omega⟩))|((with_reducible apply st_callg);exact rfl;exact rfl;(first|exact rfl|assumption);exact rfl;exact rfl;exact rfl;first|(exact c_mul ⟨by omega, by omega⟩)|(exact c_sub ⟨by omega, by omega⟩)))
        refine q_loop ?_ (imp_WHt rfl rfl (fun _ _ => rfl) rfl rfl (fun _ _ => rfl) rfl (fun r hr => clr_blk (clr_step hne hk1) r) ?_ ?_) ⟨k + 1, ?_, ?_, rfl, rfl⟩
        · omega
        · exact eA
        · refine allh rfl (by decide) (ble1 rfl) True.intro True.intro
        · omega
        · omega
      · have h' : ¬ (k : Int) < m := h
        obtain rfl : k = m := by omega
        refine run0 ?_
        refine ⟨.inl rfl, [], imp_WH rfl rfl (fun _ _ => rfl) rfl rfl (fun _ _ => rfl) rfl (fun r hr => blen rfl fun _ _ => rfl) ?_, .none⟩
        exact eA
end Go.Proofs.YtdnmoggifjlbiaaGreat.AM
/- Dense matrices: walks: rows on which steps are done. -/
namespace Go.Proofs.YtdnmoggifjlbiaaGreat.AM
open Go Go.RowKit Go.Proofs.YtdnmoggifjlbiaaGreat.PN Go.Proofs.YtdnmoggifjlbiaaGreat.V
open Go.Proofs.YtdnmoggifjlbiaaGreat.LA (S S_succ S_zero S_congr)
set_option linter.unusedVariables false
set_option linter.unusedSimpArgs false
set_option maxRecDepth 4000
set_option maxHeartbeats 2000000
/-- Rows with something beside each. -/
def aug (n : Nat) (F G : Nat → Nat → Rat) : Nat → Nat → Rat := fun i j => if j < n then F i j else G i (j - n)
/-- The variable, before it bears rows. -/
def wk0 (y : AV) : Nat → AV := fun i => match i with
  | 0 => y
  | 1 => .rs (.q 1)
  | 2 => .rn (.q 1)
  | _ => .rd (.q 1)
theorem wk0_ok {U : Nat → Bool} {y : AV} (hy : y.ok U) : ∀ i, (wk0 y i).ok U := fun i => by
  match i with
  | 0 => exact hy
  | 1 => trivial
  | 2 => trivial
  | _ + 3 => trivial
def offs (m k : Nat) (A : Nat → Nat → Rat) : List (Nat × Fam) := match k with
  | 0 => [(10, (1, fun _ => .ones 118 4 (wk0 (.v (.slice none 0 0)))))]
  | k + 1 => [(10, (1, fun _ => .ones 118 4 (wk0 (.own 11 0)))), (11, (1, fun _ => .ones WT (k + 1) (fun i => .own 12 i))), (12, (k + 1, fun r => .rats m (fun j => .q (A r j))))]
def sg (k : Nat) : Ren := fun g r => if g = 12 then (if r < k then (12, r) else (32, r - k)) else if g = 11 then (34, r) else (g, r)
theorem sg_inj (k : Nat) (g r g' r' : Nat) (hg : memN g [10, 11, 12] = true) (hg' : memN g' [10, 11, 12] = true) (e : sg k g r = sg k g' r') : g = g' ∧ r = r' := by
  have m1 := memN_spec hg
  have m2 := memN_spec hg'
  simp only [List.mem_cons, List.not_mem_nil, or_false] at m1 m2
  unfold sg at e
  rcases m1 with rfl | rfl | rfl <;> rcases m2 with rfl | rfl | rfl <;> simp at e ⊢
  · exact e
  · split at e <;> simp at e
  · exact e
  · split at e <;> simp at e
  · split at e <;> simp at e
  · split at e <;> simp at e
  · split at e <;> split at e <;> simp at e <;> omega
theorem of_close {s : St} {e : List (Nat × AV)} {k m : Nat} {A : Nat → Nat → Rat} {F0 F1 F2 F3 : Nat → Blk} {f0 f1 : Nat → AV} (h10 : s.heap 10 = some (1, F0)) (e10 : F0 0 = .ones 118 4 f0) (g10 : ∀ i, i < 4 → f0 i = wk0 (.own 34 0) i)
    (h34 : s.heap 34 = some (1, F1)) (e34 : F1 0 = .ones WT (k + 1) f1) (g34 : ∀ i, i < k → f1 i = .own 12 i) (g34' : f1 k = .own 32 0) (h12 : 0 < k → s.heap 12 = some (k, F2)) (g12 : ∀ r, r < k → BLe (sg k) (F2 r) (.rats m fun j => .q (A r j)))
    (h32 : s.heap 32 = some (1, F3)) (g32 : BLe (sg k) (F3 0) (.rats m fun j => .q (A k j))) (h60 : s.used 60 = false) (he : AllE s (sg k) (fun g => memN g [10, 11, 12]) e) : Imp s (stl e (offs m (k + 1) A)) := by
  refine imp_stl (h := offs m (k + 1) A) (sg k) (fun h => by rw [h60] at h; cases h) (fun g r g' r' h1 h2 => sg_inj k g r g' r' h1 h2) he ⟨fun r hr => ?_, fun r hr => ?_, fun r hr => ?_, trivial⟩ (by rw [h60]; rfl)
  · obtain rfl : r = 0 := by omega
    refine ⟨1, F0, h10, Nat.zero_lt_one, ?_, fun i hi => wk0_ok (U := fun g => memN g [10, 11, 12]) (y := .own 11 0) rfl i⟩
    show BLe (sg k) (F0 0) _
    rw [e10]
    refine bleo rfl fun i hi => ?_
    rw [g10 i hi]
    match i, hi with
    | 0, _ => exact Le.own rfl
    | 1, _ => exact Le.same trivial
    | 2, _ => exact Le.same trivial
    | 3, _ => exact Le.same trivial
  · obtain rfl : r = 0 := by omega
    refine ⟨1, F1, h34, Nat.zero_lt_one, ?_, fun i hi => rfl⟩
    show BLe (sg k) (F1 0) _
    rw [e34]
    refine bleo rfl fun i hi => ?_
    by_cases e : i < k
    · rw [g34 i e]; exact Le.own (by unfold sg; rw [if_pos rfl, if_pos e])
    · obtain rfl : i = k := by omega
      rw [g34']; exact Le.own (by unfold sg; rw [if_pos rfl, if_neg e, Nat.sub_self])
  · by_cases e : r < k
    · have e1 : sg k 12 r = (12, r) := by unfold sg; rw [if_pos rfl, if_pos e]
      rw [e1]
      exact ⟨k, F2, h12 (by omega), e, g12 r e, trivial⟩
    · obtain rfl : r = k := by omega
      have e1 : sg r 12 r = (32, 0) := by unfold sg; rw [if_pos rfl, if_neg e, Nat.sub_self]
      rw [e1]
      exact ⟨1, F3, h32, by decide, g32, trivial⟩
def sf : Ren := fun g r => if g = 60 then (10, r) else if g = 61 then (11, r) else if g = 62 then (12, r) else (g, r)
theorem sf_inj (g r g' r' : Nat) (hg : memN g [60, 61, 62] = true) (hg' : memN g' [60, 61, 62] = true) (e : sf g r = sf g' r') : g = g' ∧ r = r' := by
  have m1 := memN_spec hg
  have m2 := memN_spec hg'
  simp only [List.mem_cons, List.not_mem_nil, or_false] at m1 m2
  unfold sf at e
  rcases m1 with rfl | rfl | rfl <;> rcases m2 with rfl | rfl | rfl <;> simp at e ⊢
  · exact e
  · exact e
  · exact e
theorem of_end {s : St} {e : List (Nat × AV)} {k m : Nat} {A : Nat → Nat → Rat} (h10 : s.heap 10 = some (1, fun _ => .ones 118 4 (wk0 (.own 11 0)))) (h11 : s.heap 11 = some (1, fun _ => .ones WT (k + 1) (fun i => .own 12 i))) (h12 : s.heap 12 = some (k + 1, fun r => .rats m (fun j => .q (A r j)))) (h60 : s.used 60 = false)
    (he : AllE s sf (fun g => memN g [60, 61, 62]) e) : Imp s (stl e (WH (k + 1) m 1 (fun i => i) A)) := by
  refine imp_stl (h := WH (k + 1) m 1 (fun i => i) A) sf (fun h => by rw [h60] at h; cases h) sf_inj he ⟨fun r hr => ?_, fun r hr => ?_, fun r hr => ?_, trivial⟩ (by rw [h60]; rfl)
  · obtain rfl : r = 0 := by omega
    refine ⟨1, _, h10, Nat.zero_lt_one, bleo rfl fun i hi => ?_, fun i hi => wk_ok rfl 1 i⟩
    match i, hi with
    | 0, _ => exact Le.own rfl
    | 1, _ => exact Le.same trivial
    | 2, _ => exact Le.same trivial
    | 3, _ => exact Le.same trivial
  · obtain rfl : r = 0 := by omega
    exact ⟨1, _, h11, Nat.zero_lt_one, bleo rfl fun i hi => Le.own rfl, fun i hi => rfl⟩
  · exact ⟨k + 1, _, h12, hr, blen rfl fun j hj => rfl, trivial⟩
theorem d_of {n e mm : Nat} {g : FuncId} {c : Nat → AV} {F G : Nat → Nat → Rat} (hn : n ≤ 8) (h0 : 0 < n) (he : e ≤ 1) (hc : (AV.clo g mm c).closed = true) (H : ∀ i, i < n → Has Tryz.prog g (([AV.i i] ++ (List.range mm).map c).map AV.old) (.row false e (fun j => .q (G i j)))) :
    HasH Tryz.prog 110 [] [.mat false n (fun _ => n) (fun i j => .q (F i j)), .clo g mm c] (.ptr 60 0 0) (WH n (n + e) 1 (fun i => i) (aug n F G)) := by
  refine hasH_of Tryz.func110 (by kernel_rfl) rfl Tryz.ntmps110 Tryz.results110 rfl rfl rfl ?_
  repeat(first|refine run1 ?_|((with_reducible apply st_call);exact rfl;exact rfl;exact rfl;first|(exact d_one))|((with_reducible apply st_callg);exact rfl;exact rfl;(first|exact rfl|assumption);exact rfl;exact rfl;exact rfl;first|(exact d_one)))
  have hcl := closed_ok hc
  refine awp_loop (fun m' s => ∃ k, k ≤ n ∧ m' = n - k ∧ s = stl [(0, .mat false n (fun _ => n) (fun i j => .q (F i j))), (1, .clo g mm c), (5, .ptr 10 0 0), (11, .mat false n (fun _ => n) (fun i j => .q (F i j))), (12, .i n), (13, .i (k : Int))] (offs (n + e) k (aug n F G))) n _ (imp_id ?_ ?_) ⟨0, Nat.zero_le _, rfl, rfl⟩ ?_
  · refine alle rfl (Le.id rfl) True.intro (alle rfl (Le.id rfl) (ok_none hcl) ?_)
    exact eA
  · refine allh rfl (by decide) (bleo rfl fun i hi => Le.id ?_) (fun i hi => wk0_ok (y := .v (.slice none 0 0)) True.intro i) True.intro
    match i, hi with
    | 0, _ => rfl
    | 1, _ => rfl
    | 2, _ => rfl
    | 3, _ => rfl
  · rintro m' s ⟨k, hk, rfl, rfl⟩
    have hsz : 0 + n + e = n + e := by omega
    have hrow : ∀ k, BLe (sg k) (.rats (0 + n + e) (glue (0 + n) (glue 0 (fun _ => ra0) (fun j => .q (F k j))) (fun j => .q (G k j)))) (.rats (n + e) fun j => .q (aug n F G k j)) := fun k => blen hsz fun j hj => by
      unfold glue aug
      rw [Nat.zero_add, if_neg (Nat.not_lt_zero _), Nat.sub_zero]
      split <;> rfl
    rcases k with _ | k
    · refine run0 ?_
      refine awp_if rfl (fun h => ?_) (fun h => absurd (show ((0 : Nat) : Int) < n by omega) h)
      have H0 := H 0 h0
      repeat(first|refine run1 ?_|((with_reducible apply st_call);exact rfl;exact rfl;exact rfl;first|(exact H0))|((with_reducible apply st_callg);exact rfl;exact rfl;(first|exact rfl|assumption);exact rfl;exact rfl;exact rfl;first|(exact H0)))
      refine q_loop ?_ (of_close (F2 := fun _ => .rats 0 fun _ => ra0) rfl rfl ?_ rfl rfl (fun i hi => absurd hi (Nat.not_lt_zero _)) rfl (fun h => absurd h (Nat.lt_irrefl _)) (fun r hr => absurd hr (Nat.not_lt_zero _)) rfl (hrow 0) rfl ?_) ⟨0 + 1, ?_, rfl, rfl⟩
      · omega
      · intro i hi
        match i, hi with
        | 0, _ => rfl
        | 1, _ => rfl
        | 2, _ => rfl
        | 3, _ => rfl
      · refine alle rfl (Le.eq rfl rfl) True.intro (alle rfl (Le.same hcl) (ok_none hcl) (alle rfl (Le.ptr rfl) rfl (alle rfl (Le.eq rfl rfl) True.intro (alle rfl (Le.eq rfl rfl) True.intro (alle rfl (Le.eq rfl rfl) True.intro True.intro)))))
      · omega
    · refine run0 ?_
      refine awp_if rfl (fun h => ?_) (fun h => ?_)
      · have h : k + 1 < n := by omega
        have H1 := H (k + 1) h
        repeat(first|refine run1 ?_|((with_reducible apply st_call);exact rfl;exact rfl;exact rfl;first|(exact H1))|((with_reducible apply st_callg);exact rfl;exact rfl;(first|exact rfl|assumption);exact rfl;exact rfl;exact rfl;first|(exact H1)))
        refine q_loop ?_ (of_close (k := k + 1) rfl rfl ?_ rfl rfl ?_ ?_ (fun _ => rfl) ?_ rfl (hrow (k + 1)) rfl ?_) ⟨k + 1 + 1, ?_, rfl, rfl⟩
        · omega
        · intro i hi
          match i, hi with
          | 0, _ => rfl
          | 1, _ => rfl
          | 2, _ => rfl
          | 3, _ => rfl
        · intro i hi
          exact if_pos hi
        · show (if _ then _ else _) = _
          rw [if_neg (Nat.lt_irrefl _), Nat.sub_self]; rfl
        · intro r hr
          exact blen rfl fun j hj => rfl
        · refine alle rfl (Le.eq rfl rfl) True.intro (alle rfl (Le.same hcl) (ok_none hcl) (alle rfl (Le.ptr rfl) rfl (alle rfl (Le.eq rfl rfl) True.intro (alle rfl (Le.eq rfl rfl) True.intro (alle rfl (Le.eq rfl rfl) True.intro True.intro)))))
        · omega
      · obtain rfl : k + 1 = n := by omega
        refine run0 ?_
        refine ⟨.inr rfl, [(4, .ptr 60 0 0)], of_end (k := k) rfl rfl rfl rfl (alle rfl (Le.ptr rfl) rfl True.intro), .one (.tmp rfl)⟩
end Go.Proofs.YtdnmoggifjlbiaaGreat.AM
/- Elimination, as plain functions: what the steps on rows make. -/
namespace Go.Proofs.YtdnmoggifjlbiaaGreat.AM
open Go.Proofs.YtdnmoggifjlbiaaGreat.LA (S S_succ S_zero S_congr)
open Classical
set_option linter.unusedVariables false
set_option linter.unusedSimpArgs false
/-- The first number from i on, at most k further, that has p. -/
noncomputable def fnd (p : Nat → Prop) : Nat → Nat → Nat
  | 0, i => i
  | k + 1, i => if p i then i else fnd p k (i + 1)
theorem fnd_le (p : Nat → Prop) : ∀ k i, i ≤ fnd p k i ∧ fnd p k i ≤ i + k ∧ (∀ j, i ≤ j → j < fnd p k i → ¬ p j) ∧ (fnd p k i < i + k → p (fnd p k i))
  | 0, i => ⟨Nat.le_refl _, Nat.le_refl _, fun j h1 h2 => absurd h2 (by unfold fnd; omega), fun h => absurd h (by unfold fnd; omega)⟩
  | k + 1, i => by
    unfold fnd
    by_cases h : p i
    · rw [if_pos h]; exact ⟨Nat.le_refl _, by omega, fun j h1 h2 => by omega, fun _ => h⟩
    · rw [if_neg h]
      obtain ⟨h1, h2, h3, h4⟩ := fnd_le p k (i + 1)
      refine ⟨by omega, by omega, fun j h5 h6 => ?_, fun h5 => h4 (by omega)⟩
      by_cases e : j = i
      · subst e; exact h
      · exact h3 j (by omega) h6
structure ES where
  at' : Nat
  d : Rat
  π : Nat → Nat
  A : Nat → Nat → Rat
/-- Which rows are cleaned. -/
def tst (all : Bool) (at' i : Nat) : Prop := at' < i ∨ (all = true ∧ i < at')
/-- The rows up to k cleaned. -/
noncomputable def cln (A : Nat → Nat → Rat) (π : Nat → Nat) (all : Bool) (at' col m k : Nat) : Nat → Nat → Rat := fun r j =>
  if (∃ i, i < k ∧ tst all at' i ∧ r = π i) ∧ col ≤ j ∧ j < m then A r j - A r col / A (π at') col * A (π at') j else A r j
theorem tst_ne {all : Bool} {at' i : Nat} (h : tst all at' i) : i ≠ at' := by
  rcases h with h | h <;> omega
theorem cln_zero (A : Nat → Nat → Rat) (π : Nat → Nat) (all : Bool) (at' col m : Nat) : cln A π all at' col m 0 = A := by
  funext r j
  unfold cln
  rw [if_neg]
  rintro ⟨⟨i, h, _⟩, _⟩
  omega
theorem cln_skip {A : Nat → Nat → Rat} {π : Nat → Nat} {all : Bool} {at' col m k : Nat} (h : ¬ tst all at' k) : cln A π all at' col m k = cln A π all at' col m (k + 1) := by
  funext r j
  unfold cln
  have e : (∃ i, i < k ∧ tst all at' i ∧ r = π i) ↔ (∃ i, i < k + 1 ∧ tst all at' i ∧ r = π i) := by
    constructor
    · rintro ⟨i, h1, h2, h3⟩; exact ⟨i, by omega, h2, h3⟩
    · rintro ⟨i, h1, h2, h3⟩
      refine ⟨i, ?_, h2, h3⟩
      rcases Nat.lt_or_ge i k with h4 | h4
      · exact h4
      · obtain rfl : i = k := by omega
        exact absurd h2 h
  simp only [e]
theorem cln_row {A : Nat → Nat → Rat} {π : Nat → Nat} {all : Bool} {at' col m k n r : Nat} (hr : ∀ i, i < k → tst all at' i → r ≠ π i) (j : Nat) : cln A π all at' col m k r j = A r j := by
  unfold cln
  rw [if_neg]
  rintro ⟨⟨i, h1, h2, h3⟩, _⟩
  exact hr i h1 h2 h3
theorem cln_step {A : Nat → Nat → Rat} {π : Nat → Nat} {all : Bool} {at' col m k n : Nat} (hinj : ∀ i j, i < n → j < n → π i = π j → i = j) (ha : at' < n) (hk : k < n) (ht : tst all at' k) :
    clr (cln A π all at' col m k) (cln A π all at' col m k (π k) col / cln A π all at' col m k (π at') col) (π k) (π at') col m = cln A π all at' col m (k + 1) := by
  have h1 : ∀ j, cln A π all at' col m k (π k) j = A (π k) j := cln_row (n := n) fun i h1 h2 h3 => by
    have := hinj k i hk (by omega) h3
    omega
  have h2 : ∀ j, cln A π all at' col m k (π at') j = A (π at') j := cln_row (n := n) fun i h1 h2 h3 => by
    have := hinj at' i ha (by omega) h3
    exact tst_ne h2 this.symm
  funext r j
  unfold clr
  rw [h1, h1, h2, h2]
  by_cases e : r = π k
  · subst e
    by_cases c : col ≤ j ∧ j < m
    · rw [if_pos ⟨rfl, c⟩]
      unfold cln
      rw [if_pos ⟨⟨k, by omega, ht, rfl⟩, c⟩]
    · rw [if_neg (fun h => c h.2), h1]
      unfold cln
      rw [if_neg (fun h => c h.2)]
  · rw [if_neg (fun h => e h.1)]
    unfold cln
    have e2 : (∃ i, i < k ∧ tst all at' i ∧ r = π i) ↔ (∃ i, i < k + 1 ∧ tst all at' i ∧ r = π i) := by
      constructor
      · rintro ⟨i, h1, h2, h3⟩; exact ⟨i, by omega, h2, h3⟩
      · rintro ⟨i, h1, h2, h3⟩
        refine ⟨i, ?_, h2, h3⟩
        rcases Nat.lt_or_ge i k with h4 | h4
        · exact h4
        · obtain rfl : i = k := by omega
          exact absurd h3 e
    simp only [e2]
/-- One column. -/
noncomputable def stp (n m : Nat) (all : Bool) (s : ES) (col : Nat) : ES :=
  if fnd (fun i => s.A (s.π i) col ≠ 0) (n - s.at') s.at' < n then
    ⟨s.at' + 1, det1 s.d (fnd (fun i => s.A (s.π i) col ≠ 0) (n - s.at') s.at') s.at' * s.A (s.π (fnd (fun i => s.A (s.π i) col ≠ 0) (n - s.at') s.at')) col, swp s.π (fnd (fun i => s.A (s.π i) col ≠ 0) (n - s.at') s.at') s.at',
      cln s.A (swp s.π (fnd (fun i => s.A (s.π i) col ≠ 0) (n - s.at') s.at') s.at') all s.at' col m n⟩
  else s
noncomputable def stps (n m : Nat) (all : Bool) (A : Nat → Nat → Rat) : Nat → ES
  | 0 => ⟨0, 1, fun i => i, A⟩
  | c + 1 => stp n m all (stps n m all A c) c
/-- What holds of the rows at all times. -/
structure EOK (n c X : Nat) (s : ES) : Prop where
  le : s.at' ≤ c
  lt : ∀ i, i < n → s.π i < n
  inj : ∀ i j, i < n → j < n → s.π i = s.π j → i = j
  wd : Wt s.d X
  wA : ∀ i j, Wt (s.A i j) X
theorem swp_lt {π : Nat → Nat} {n i j : Nat} (h : ∀ i, i < n → π i < n) (hi : i < n) (hj : j < n) (k : Nat) (hk : k < n) : swp π i j k < n := by
  unfold swp updN
  split
  · exact h i hi
  · split
    · exact h j hj
    · exact h k hk
theorem swp_inj {π : Nat → Nat} {n i j : Nat} (h : ∀ i j, i < n → j < n → π i = π j → i = j) (hi : i < n) (hj : j < n) (a b : Nat) (ha : a < n) (hb : b < n) (e : swp π i j a = swp π i j b) : a = b := by
  unfold swp updN at e
  split at e <;> split at e <;> (try split at e) <;> (try split at e) <;> (first | omega | (have := h _ _ (by assumption) (by assumption) e; omega))
theorem det1_wt {d : Rat} {X i j : Nat} [h : Wt d X] : Wt (det1 d i j) X := by
  unfold det1; split
  · exact h
  · exact inferInstance
theorem cln_wt {A : Nat → Nat → Rat} {π : Nat → Nat} {all : Bool} {at' col m k X : Nat} [h : ∀ i j, Wt (A i j) X] (r j : Nat) : Wt (cln A π all at' col m k r j) (4 * X + 1) := by
  unfold cln
  split
  · exact (inferInstance : Wt (A r j - A r col / A (π at') col * A (π at') j) (X + (X + X + X) + 1)).mono (by omega)
  · exact (h r j).mono (by omega)
theorem stp_ok {n m c X : Nat} {all : Bool} {s : ES} (hX : 1 ≤ X) (h : EOK n c X s) : EOK n (c + 1) (5 * X) (stp n m all s c) := by
  have hA := h.wA
  have hd := h.wd
  unfold stp
  split
  · rename_i hi
    obtain ⟨h1, h2, _, _⟩ := fnd_le (fun i => s.A (s.π i) c ≠ 0) (n - s.at') s.at'
    have h3 := h.le
    refine ⟨by show s.at' + 1 ≤ c + 1; omega, swp_lt h.lt hi (by omega), swp_inj h.inj hi (by omega), ?_, fun i j => (cln_wt i j).mono (by omega)⟩
    have w1 : Wt (det1 s.d (fnd (fun i => s.A (s.π i) c ≠ 0) (n - s.at') s.at') s.at') X := det1_wt
    exact (inferInstance : Wt (det1 s.d (fnd (fun i => s.A (s.π i) c ≠ 0) (n - s.at') s.at') s.at' * s.A (s.π (fnd (fun i => s.A (s.π i) c ≠ 0) (n - s.at') s.at')) c) (X + X)).mono (by omega)
  · exact ⟨by have := h.le; omega, h.lt, h.inj, h.wd.mono (by omega), fun i j => (h.wA i j).mono (by omega)⟩
theorem stps_ok {n m K : Nat} {all : Bool} {A : Nat → Nat → Rat} [hA : ∀ i j, Wt (A i j) K] : ∀ c, EOK n c (5 ^ c * (K + 1)) (stps n m all A c)
  | 0 => ⟨Nat.le_refl _, fun i hi => hi, fun i j _ _ e => e, (inferInstance : Wt 1 1).mono (by omega), fun i j => (hA i j).mono (by omega)⟩
  | c + 1 => by
    have h := stp_ok (m := m) (all := all) (Nat.mul_pos (Nat.pow_pos (by decide)) (Nat.succ_pos K)) (stps_ok (n := n) (m := m) (all := all) (A := A) c)
    rw [show 5 ^ (c + 1) * (K + 1) = 5 * (5 ^ c * (K + 1)) by rw [Nat.pow_succ]; ac_rfl]
    exact h
end Go.Proofs.YtdnmoggifjlbiaaGreat.AM
/- Dense matrices: walks: all steps. -/
namespace Go.Proofs.YtdnmoggifjlbiaaGreat.AM
open Go Go.RowKit Go.Proofs.YtdnmoggifjlbiaaGreat.PN Go.Proofs.YtdnmoggifjlbiaaGreat.V
open Go.Proofs.YtdnmoggifjlbiaaGreat.LA (S S_succ S_zero S_congr)
set_option linter.unusedVariables false
set_option linter.unusedSimpArgs false
set_option maxRecDepth 4000
set_option maxHeartbeats 4000000
theorem okf_WH {n m : Nat} {d : Rat} {π : Nat → Nat} {A : Nat → Nat → Rat} : okf (fun g => memN g (keys (WH n m d π A))) (WH n m d π A) :=
  ⟨fun _ _ i _ => wk_ok rfl d i, fun _ _ _ _ => rfl, fun _ _ => True.intro, True.intro⟩
theorem stp_yes {n m col : Nat} {all : Bool} {s : ES} (h : fnd (fun i => s.A (s.π i) col ≠ 0) (n - s.at') s.at' < n) : stp n m all s col = ⟨s.at' + 1, det1 s.d (fnd (fun i => s.A (s.π i) col ≠ 0) (n - s.at') s.at') s.at' * s.A (s.π (fnd (fun i => s.A (s.π i) col ≠ 0) (n - s.at') s.at')) col, swp s.π (fnd (fun i => s.A (s.π i) col ≠ 0) (n - s.at') s.at') s.at',
      cln s.A (swp s.π (fnd (fun i => s.A (s.π i) col ≠ 0) (n - s.at') s.at') s.at') all s.at' col m n⟩ := if_pos h
theorem stp_no {n m col : Nat} {all : Bool} {s : ES} (h : ¬ fnd (fun i => s.A (s.π i) col ≠ 0) (n - s.at') s.at' < n) : stp n m all s col = s := if_neg h
theorem d_steps {n m K : Nat} {all : Bool} {A : Nat → Nat → Rat} [hA : ∀ i j, Wt (A i j) K] (hK : K ≤ 400) (hn : n ≤ 8) (hm : m ≤ 9) (hnm : n ≤ m) :
    HasH Tryz.prog 112 (WH n m 1 (fun i => i) A) [.ptr 60 0 0, .b all] (.i (stps n m all A n).at') (WH n m (stps n m all A n).d (stps n m all A n).π (stps n m all A n).A) := by
  refine hasH_of Tryz.func112 (by kernel_rfl) rfl Tryz.ntmps112 Tryz.results112 True.intro rfl rfl ?_
  refine run0 ?_
  refine awp_loop (fun m' s => ∃ c, c ≤ n ∧ m' = n - c ∧ s = stl [(0, .ptr 60 0 0), (1, .b all), (5, .i (stps n m all A c).at'), (6, .i (c : Int))] (WH n m (stps n m all A c).d (stps n m all A c).π (stps n m all A c).A)) n _ (imp_WH rfl rfl (fun _ _ => rfl) rfl rfl (fun _ _ => rfl) rfl (fun r hr => blen rfl fun _ _ => rfl) ?_) ⟨0, Nat.zero_le _, rfl, rfl⟩ ?_
  · exact eA
  · rintro m' s ⟨c, hc, rfl, rfl⟩
    have hok := stps_ok (n := n) (m := m) (all := all) (A := A) c
    have hnx : stps n m all A (c + 1) = stp n m all (stps n m all A c) c := rfl
    have hX : 5 ^ c * (K + 1) ≤ 390625 * 401 := Nat.mul_le_mul (Nat.pow_le_pow_right (by decide) (show c ≤ 8 by omega)) (by omega)
    generalize 5 ^ c * (K + 1) = X at hok hX
    generalize hT : stps n m all A c = T at *
    obtain ⟨a, d, π, B⟩ := T
    have hle : a ≤ c := hok.le
    have hlt : ∀ i, i < n → π i < n := hok.lt
    have hinj : ∀ i j, i < n → j < n → π i = π j → i = j := hok.inj
    have wd : Wt d X := hok.wd
    have wB : ∀ i j, Wt (B i j) X := hok.wA
    by_cases hcn : c < n
    · have hcn' : (c : Int) < (n : Int) := by omega
      have g1 : (decide ((c : Int) < (n : Int)) == true) = true := by rw [decide_eq_true hcn']; rfl
      have g2 : decide ((c : Int) < (n : Int)) = true := decide_eq_true hcn'
      refine run0 ?_
      refine awp_yes rfl ?_ ?_
      · exact decide_eq_true (show (a : Int) < n by omega)
      clear g1 g2
      refine run0 ?_
      have han : a < n := by omega
      obtain ⟨f1, f2, f3, f4⟩ := fnd_le (fun i => B (π i) c ≠ 0) (n - a) a
      by_cases hfn : fnd (fun i => B (π i) c ≠ 0) (n - a) a < n
      · have e1 := stp_yes (m := m) (all := all) (s := ⟨a, d, π, B⟩) (col := c) hfn
        have hnz := f4 (by omega)
        dsimp only at e1 hnz
        generalize fnd (fun i => B (π i) c ≠ 0) (n - a) a = i at *
        have hz : ∀ j, a ≤ j → j < i → B (π j) c = 0 := fun j h1 h2 => Classical.byContradiction fun h => f3 j h1 h2 h
        ((with_reducible apply st_callH); exact rfl; exact rfl; exact rfl; exact (d_pivot_yes (hA := wB) (hd := wd) (by omega) (by omega) hn hm (by omega) hlt f1 hfn hz hnz); (first | exact True.intro | exact ⟨rfl, rfl, rfl, True.intro⟩); exact rfl; exact rfl; exact rfl; exact rfl; (focus (repeat (first | exact True.intro | refine ⟨(by first | exact True.intro | rfl | exact ok_none (closed_ok rfl)), ?_⟩))); (first | exact True.intro | exact okf_WH | exact okf_pf (by exact True.intro) (by exact True.intro)))
        refine run0 ?_
        refine awp_no rfl rfl ?_
        refine run0 ?_
        have hlt' := swp_lt hlt hfn han
        have hinj' := swp_inj hinj hfn han
        have hat : swp π i a a = π i := swp_at π i a
        generalize swp π i a = π' at *
        generalize det1 d i a * B (π i) c = d' at *
        refine awp_loop (fun m' s => ∃ k, k ≤ n ∧ m' = n - k ∧ s = stl [(0, .ptr 60 0 0), (1, .b all), (5, .i (a : Int)), (6, .i (c : Int)), (35, .i (n : Int)), (36, .i (k : Int))] (WH n m d' π' (cln B π' all a c m k))) n _ (imp_WH rfl rfl (fun _ _ => rfl) rfl rfl (fun _ _ => rfl) rfl (fun r hr => blen rfl fun j _ => congrArg RA.q (congrFun (congrFun (cln_zero B π' all a c m).symm r) j)) ?_) ⟨0, Nat.zero_le _, rfl, rfl⟩ ?_
        · exact eA
        · rintro m' s ⟨k, hk, rfl, rfl⟩
          refine run0 ?_
          refine awp_if rfl (fun h => ?_) (fun h => ?_)
          · have hkn : k < n := by omega
            have wC : ∀ r j, Wt (cln B π' all a c m k r j) (4 * X + 1) := fun r j => cln_wt (h := wB) r j
            have hpk := hlt' k hkn
            have hpa := hlt' a han
            have hrow : cln B π' all a c m k (π' a) c = B (π' a) c := cln_row (n := n) (fun i h1 h2 h3 => tst_ne h2 (hinj' a i han (by omega) h3).symm) c
            have hne0 : cln B π' all a c m k (π' a) c ≠ 0 := by rw [hrow, hat]; exact hnz
            by_cases ht : tst all a k
            · have hne : π' k ≠ π' a := fun e => tst_ne ht (hinj' k a hkn han e)
              have est := cln_step (m := m) (all := all) (A := B) (col := c) hinj' han hkn ht
              rcases ht with h1 | ⟨hall, h1⟩
              · have hi1 : (a : Int) < (k : Int) := by omega
                have gA : (decide ((a : Int) < (k : Int)) == false) = false := by rw [decide_eq_true hi1]; rfl
                have pA : decide ((a : Int) < (k : Int)) = true := decide_eq_true hi1
                refine run0 ?_
                refine awp_yes rfl rfl ?_
                refine run0 ?_
                ((with_reducible apply st_callH); exact rfl; exact rfl; exact rfl; exact (d_clean (d := d') (hA := wC) (by omega) hn hm (by omega) hkn han hpk hpa hne hne0); (first | exact True.intro | exact ⟨rfl, rfl, rfl, True.intro⟩); exact rfl; exact rfl; exact rfl; exact rfl; (focus (repeat (first | exact True.intro | refine ⟨(by first | exact True.intro | rfl | exact ok_none (closed_ok rfl)), ?_⟩))); (first | exact True.intro | exact okf_WH | exact okf_pf (by exact True.intro) (by exact True.intro)))
                refine run0 ?_
                refine q_loop (m' := n - (k + 1)) (by omega) (imp_WH (e := [(0, .ptr 60 0 0), (1, .b all), (5, .i (a : Int)), (6, .i (c : Int)), (35, .i (n : Int)), (36, .i ((k + 1 : Nat) : Int))]) (n := n) (m := m) (d := d') (π := π') (A := cln B π' all a c m (k + 1)) rfl rfl (fun _ _ => rfl) rfl rfl (fun _ _ => rfl) rfl (fun r hr => blen rfl fun j _ => congrArg RA.q (congrFun (congrFun est r) j)) ?_) ⟨k + 1, by omega, rfl, rfl⟩
                exact eA
              · subst hall
                have hi1 : ¬ (a : Int) < (k : Int) := by omega
                have gA : (decide ((a : Int) < (k : Int)) == false) = true := by rw [decide_eq_false hi1]; rfl
                have pA : decide ((a : Int) < (k : Int)) = false := decide_eq_false hi1
                refine run0 ?_
                refine awp_yes rfl ?_ ?_
                · exact decide_eq_true (show (k : Int) < (a : Int) by omega)
                refine run0 ?_
                ((with_reducible apply st_callH); exact rfl; exact rfl; exact rfl; exact (d_clean (d := d') (hA := wC) (by omega) hn hm (by omega) hkn han hpk hpa hne hne0); (first | exact True.intro | exact ⟨rfl, rfl, rfl, True.intro⟩); exact rfl; exact rfl; exact rfl; exact rfl; (focus (repeat (first | exact True.intro | refine ⟨(by first | exact True.intro | rfl | exact ok_none (closed_ok rfl)), ?_⟩))); (first | exact True.intro | exact okf_WH | exact okf_pf (by exact True.intro) (by exact True.intro)))
                refine run0 ?_
                refine q_loop (m' := n - (k + 1)) (by omega) (imp_WH (e := [(0, .ptr 60 0 0), (1, .b true), (5, .i (a : Int)), (6, .i (c : Int)), (35, .i (n : Int)), (36, .i ((k + 1 : Nat) : Int))]) (n := n) (m := m) (d := d') (π := π') (A := cln B π' true a c m (k + 1)) rfl rfl (fun _ _ => rfl) rfl rfl (fun _ _ => rfl) rfl (fun r hr => blen rfl fun j _ => congrArg RA.q (congrFun (congrFun est r) j)) ?_) ⟨k + 1, by omega, rfl, rfl⟩
                exact eA
            · have est := cln_skip (A := B) (π := π') (col := c) (m := m) ht
              have hi1 : ¬ (a : Int) < (k : Int) := fun h => ht (.inl (by omega))
              have gA : (decide ((a : Int) < (k : Int)) == false) = true := by rw [decide_eq_false hi1]; rfl
              have pA : decide ((a : Int) < (k : Int)) = false := decide_eq_false hi1
              cases all with
              | false =>
                refine run0 ?_
                refine awp_no rfl rfl ?_
                refine run0 ?_
                refine q_loop (m' := n - (k + 1)) (by omega) (imp_WH (e := [(0, .ptr 60 0 0), (1, .b false), (5, .i (a : Int)), (6, .i (c : Int)), (35, .i (n : Int)), (36, .i ((k + 1 : Nat) : Int))]) (n := n) (m := m) (d := d') (π := π') (A := cln B π' false a c m (k + 1)) rfl rfl (fun _ _ => rfl) rfl rfl (fun _ _ => rfl) rfl (fun r hr => blen rfl fun j _ => congrArg RA.q (congrFun (congrFun est r) j)) ?_) ⟨k + 1, by omega, rfl, rfl⟩
                exact eA
              | true =>
                refine run0 ?_
                refine awp_no rfl ?_ ?_
                · exact decide_eq_false (show ¬ (k : Int) < (a : Int) from fun h => ht (.inr ⟨rfl, by omega⟩))
                refine run0 ?_
                refine q_loop (m' := n - (k + 1)) (by omega) (imp_WH (e := [(0, .ptr 60 0 0), (1, .b true), (5, .i (a : Int)), (6, .i (c : Int)), (35, .i (n : Int)), (36, .i ((k + 1 : Nat) : Int))]) (n := n) (m := m) (d := d') (π := π') (A := cln B π' true a c m (k + 1)) rfl rfl (fun _ _ => rfl) rfl rfl (fun _ _ => rfl) rfl (fun r hr => blen rfl fun j _ => congrArg RA.q (congrFun (congrFun est r) j)) ?_) ⟨k + 1, by omega, rfl, rfl⟩
                exact eA
          · obtain rfl : k = n := by omega
            refine run0 ?_
            refine q_loop (m' := k - (c + 1)) (by omega) (imp_WH (e := [(0, .ptr 60 0 0), (1, .b all), (5, .i ((a + 1 : Nat) : Int)), (6, .i ((c + 1 : Nat) : Int))]) (n := k) (m := m) (d := d') (π := π') (A := cln B π' all a c m k) rfl rfl (fun _ _ => rfl) rfl rfl (fun _ _ => rfl) rfl (fun r hr => blen rfl fun _ _ => rfl) ?_) ⟨c + 1, by omega, rfl, ?_⟩
            · exact eA
            · have e := hnx.trans e1
              rw [e]
      · have e1 := stp_no (m := m) (all := all) (s := ⟨a, d, π, B⟩) (col := c) hfn
        have hz : ∀ j, a ≤ j → j < n → B (π j) c = 0 := fun j h1 h2 => Classical.byContradiction fun h => f3 j h1 (by omega) h
        ((with_reducible apply st_callH); exact rfl; exact rfl; exact rfl; exact (d_pivot_no (d := d) (at' := a) (col := c) hn hm (by omega) hlt (by omega) hz); (first | exact True.intro | exact ⟨rfl, rfl, rfl, True.intro⟩); exact rfl; exact rfl; exact rfl; exact rfl; (focus (repeat (first | exact True.intro | refine ⟨(by first | exact True.intro | rfl | exact ok_none (closed_ok rfl)), ?_⟩))); (first | exact True.intro | exact okf_WH | exact okf_pf (by exact True.intro) (by exact True.intro)))
        refine run0 ?_
        refine awp_yes rfl rfl ?_
        refine run0 ?_
        refine q_loop (m' := n - (c + 1)) (by omega) (imp_WH (e := [(0, .ptr 60 0 0), (1, .b all), (5, .i (a : Int)), (6, .i ((c + 1 : Nat) : Int))]) (n := n) (m := m) (d := d) (π := π) (A := B) rfl rfl (fun _ _ => rfl) rfl rfl (fun _ _ => rfl) rfl (fun r hr => blen rfl fun _ _ => rfl) ?_) ⟨c + 1, by omega, rfl, ?_⟩
        · exact eA
        · have e := hnx.trans e1
          rw [e]
    · obtain rfl : c = n := by omega
      have hcn' : ¬ (c : Int) < (c : Int) := by omega
      have g1 : (decide ((c : Int) < (c : Int)) == true) = false := by rw [decide_eq_false hcn']; rfl
      have g2 : decide ((c : Int) < (c : Int)) = false := decide_eq_false hcn'
      refine run0 ?_
      refine awp_no rfl rfl ?_
      refine run0 ?_
      refine ⟨.inr rfl, [(4, .i (a : Int))], ?_, ?_⟩
      · rw [hT]
        refine imp_WH rfl rfl (fun _ _ => rfl) rfl rfl (fun _ _ => rfl) rfl (fun r hr => blen rfl fun _ _ => rfl) ?_
        exact eA
      · rw [hT]; exact .one (.tmp rfl)
end Go.Proofs.YtdnmoggifjlbiaaGreat.AM
/- Dense matrices: walks: determinants, ranks. -/
namespace Go.Proofs.YtdnmoggifjlbiaaGreat.AM
open Go Go.RowKit Go.Proofs.YtdnmoggifjlbiaaGreat.PN Go.Proofs.YtdnmoggifjlbiaaGreat.V
open Go.Proofs.YtdnmoggifjlbiaaGreat.LA (S S_succ S_zero S_congr)
set_option linter.unusedVariables false
set_option linter.unusedSimpArgs false
set_option maxRecDepth 4000
set_option maxHeartbeats 4000000
/-- What the steps make of a matrix. -/
noncomputable def gs (n : Nat) (F : Nat → Nat → Rat) : ES := stps n n false (aug n F fun _ _ => 0) n
noncomputable def gdet (n : Nat) (F : Nat → Nat → Rat) : Rat := if (gs n F).at' < n then 0 else (gs n F).d
end Go.Proofs.YtdnmoggifjlbiaaGreat.AM
/- Laws of dense matrices: walks: what they share. -/
namespace Go.Proofs.YtdnmoggifjlbiaaGreat.AM
open Go Go.RowKit Go.Proofs.YtdnmoggifjlbiaaGreat.PN Go.Proofs.YtdnmoggifjlbiaaGreat.V
open Go.Proofs.YtdnmoggifjlbiaaGreat.LA (S S_succ S_zero S_congr)
set_option linter.unusedVariables false
set_option linter.unusedSimpArgs false
set_option maxRecDepth 4000
set_option maxHeartbeats 4000000
end Go.Proofs.YtdnmoggifjlbiaaGreat.AM
/- Laws of dense matrices: walks: ones from corner to corner. -/
namespace Go.Proofs.YtdnmoggifjlbiaaGreat.AM
open Go Go.RowKit Go.Proofs.YtdnmoggifjlbiaaGreat.PN Go.Proofs.YtdnmoggifjlbiaaGreat.V
open Go.Proofs.YtdnmoggifjlbiaaGreat.LA (S S_succ S_zero S_congr)
set_option linter.unusedVariables false
set_option linter.unusedSimpArgs false
set_option maxRecDepth 4000
set_option maxHeartbeats 4000000
/-- Rows that are gathered in slot t: none, or k of them. -/
def matS (t : Nat) (e : List (Nat × AV)) (v : Nat → AV) : Nat → St
  | 0 => stl ((t, .v (.slice none 0 0)) :: e) []
  | k + 1 => stl ((t, .own t 0) :: e) [(t, (1, fun _ => .ones WT (k + 1) v))]
def idm (i j : Nat) : Rat := if i = j then 1 else 0
instance idm_wt (i j : Nat) : Wt (idm i j) 1 := ⟨by unfold idm; split <;> decide⟩
end Go.Proofs.YtdnmoggifjlbiaaGreat.AM
/- Products of matrices: the plain laws that DenseRing asks for. -/
namespace Go.Proofs.YtdnmoggifjlbiaaGreat.AM
open Go.Proofs.YtdnmoggifjlbiaaGreat.LA (S S_succ S_zero S_congr S_mul S_mulr S_swap S_single)
set_option linter.unusedVariables false
set_option linter.unusedSimpArgs false
end Go.Proofs.YtdnmoggifjlbiaaGreat.AM
/- Laws of dense matrices: walks: matrices of small numbers (under way). -/
namespace Go.Proofs.YtdnmoggifjlbiaaGreat.AM
open Go Go.RowKit Go.Proofs.YtdnmoggifjlbiaaGreat.PN Go.Proofs.YtdnmoggifjlbiaaGreat.V
open Go.Proofs.YtdnmoggifjlbiaaGreat.LA (S S_succ S_zero S_congr)
set_option linter.unusedVariables false
set_option linter.unusedSimpArgs false
set_option maxRecDepth 4000
set_option maxHeartbeats 4000000
/-- Rows that are gathered in slot 6, all of them own. -/
def famS (e : List (Nat × AV)) (m : Nat) (A : Nat → Nat → Rat) : Nat → St
  | 0 => stl ((6, .v (.slice none 0 0)) :: e) []
  | k + 1 => stl ((6, .own 6 0) :: e) [(6, (1, fun _ => .ones WT (k + 1) (fun i => .own 3 i))), (3, (k + 1, fun r => .rats m (fun j => .q (A r j))))]
def sm (k : Nat) : Ren := fun g r => if g = 3 then (if r < k then (3, r) else (31, r - k)) else if g = 6 then (33, r) else (g, r)
/-- The rows, as they are drawn. -/
def mbase (n : Nat) (zs : List Int) (i j : Nat) : Rat := rowq zs (i * n + j)
/-- The last row's place, and the one ahead of it. -/
def la (n : Nat) : Nat := ((n : Int) - 1).toNat
def lb2 (n : Nat) : Nat := ((n : Int) - 2).toNat
def nv (n : Nat) (zs : List Int) (c : Nat) : Rat := if 2 < n then mbase n zs 0 c + mbase n zs (lb2 n) c else mbase n zs 0 c
def mx (n : Nat) (zs : List Int) (j : Nat) : Nat → Nat → Rat := fun r c => if r = la n ∧ c < j then nv n zs c else mbase n zs r c
def mc (n : Nat) (zs : List Int) : Prop := 1 < n ∧ 2 < zs.length ∧ wthn (zs.getD 2 0) 3 = 0
open Classical in
/-- The matrix that is made. -/
noncomputable def mkm (n : Nat) (zs : List Int) (i j : Nat) : Rat := if mc n zs then mx n zs n i j else mbase n zs i j
def mx1 (n : Nat) (zs : List Int) (j : Nat) : Nat → Nat → Rat := fun r c => if r = la n ∧ c = j then mx n zs j 0 j else mx n zs j r c
instance mbase_wt (n : Nat) (zs : List Int) (i j : Nat) : Wt (mbase n zs i j) 1 := rowq_wt _ _
end Go.Proofs.YtdnmoggifjlbiaaGreat.AM
/- The document's elimination: walked. It does what the program's does. -/
namespace Go.Proofs.YtdnmoggifjlbiaaGreat.AM
open Go Go.RowKit Go.Proofs.YtdnmoggifjlbiaaGreat.PN Go.Proofs.YtdnmoggifjlbiaaGreat.V
open Go.Proofs.YtdnmoggifjlbiaaGreat.LA (S S_succ S_zero S_congr)
set_option linter.unusedVariables false
set_option linter.unusedSimpArgs false
set_option maxRecDepth 4000
set_option maxHeartbeats 4000000
/-- How long all numbers are while the steps are done. -/
structure TB (n m X : Nat) (A : Nat → Nat → Rat) : Prop where
  d : ∀ c, c ≤ n → Wt (stps n m false A c).d X
  A : ∀ c, c ≤ n → ∀ i j, Wt ((stps n m false A c).A i j) X
theorem TB.wt {n m X : Nat} {A : Nat → Nat → Rat} (h : TB n m X A) (i j : Nat) : Wt (A i j) X := h.A 0 (Nat.zero_le _) i j
/-- The determinant, as far as it is known. -/
def dd (c : Nat) (s : ES) : Rat := if s.at' < c then 0 else s.d
section
variable {p q : Rat} {a b : Nat} [hp : Wt p a] [hq : Wt q b]
end
end Go.Proofs.YtdnmoggifjlbiaaGreat.AM
/- How long numbers are, by bits. -/
namespace Go.Proofs.YtdnmoggifjlbiaaGreat.AM
open Go.Proofs.YtdnmoggifjlbiaaGreat.PN
set_option linter.unusedVariables false
set_option linter.unusedSimpArgs false
class Bt (q : Rat) (k : outParam Nat) : Prop where
  n : nm q < 2 ^ k
  d : q.den < 2 ^ k
theorem Bt.mono {q : Rat} {a b : Nat} (h : Bt q a) (k : a ≤ b) : Bt q b :=
  ⟨Nat.lt_of_lt_of_le h.n (Nat.pow_le_pow_right (by decide) k), Nat.lt_of_lt_of_le h.d (Nat.pow_le_pow_right (by decide) k)⟩
theorem Bt.of_mk {n d k : Nat} (s : Bool) (hd : d ≠ 0) (h1 : n < 2 ^ k) (h2 : d < 2 ^ k) : Bt (PN.mk s n d) k :=
  ⟨by rw [mk_num s hd]; exact Nat.lt_of_le_of_lt (Nat.div_le_self _ _) h1, by rw [mk_den s hd]; exact Nat.lt_of_le_of_lt (Nat.div_le_self _ _) h2⟩
theorem lt_mul {x y a b : Nat} (h : x < 2 ^ a) (k : y < 2 ^ b) : x * y < 2 ^ (a + b) := by rw [Nat.pow_add]; exact Nat.mul_lt_mul'' h k
instance Bt.mul {p q : Rat} {a b : Nat} [h : Bt p a] [k : Bt q b] : Bt (p * q) (a + b) := by
  rw [mul_parts]
  exact Bt.of_mk _ (Nat.mul_ne_zero (den_ne p) (den_ne q)) (lt_mul h.n k.n) (lt_mul h.d k.d)
theorem Bt.pos {q : Rat} {a : Nat} (h : Bt q a) : 0 < a := by
  rcases Nat.eq_zero_or_pos a with rfl | h0
  · have := h.d; have := q.den_pos; omega
  · exact h0
instance Bt.zero : Bt 0 1 := ⟨by decide, by decide⟩
instance Bt.one : Bt 1 1 := ⟨by decide, by decide⟩
instance Bt.div {p q : Rat} {a b : Nat} [h : Bt p a] [k : Bt q b] : Bt (p / q) (a + b) := by
  by_cases e : q = 0
  · rw [e, Rat.div_def, Rat.inv_zero, Rat.mul_zero]
    exact Bt.zero.mono (by have := h.pos; omega)
  · rw [div_parts p q e]
    exact Bt.of_mk _ (Nat.mul_ne_zero (den_ne p) (fun e' => e (nm_eq_zero.1 e'))) (lt_mul h.n k.d) (lt_mul h.d k.n)
instance Bt.add {p q : Rat} {a b : Nat} [h : Bt p a] [k : Bt q b] : Bt (p + q) (a + b + 1) := by
  have h1 := lt_mul h.n k.d
  have h2 : nm q * p.den < 2 ^ (a + b) := by rw [Nat.add_comm]; exact lt_mul k.n h.d
  have h3 := lt_mul h.d k.d
  have hp : 2 ^ (a + b + 1) = 2 ^ (a + b) * 2 := Nat.pow_succ ..
  have hd := Nat.mul_ne_zero (den_ne p) (den_ne q)
  by_cases e : ng p = ng q
  · rw [add_parts_same p q e]; exact Bt.of_mk _ hd (by omega) (by omega)
  · rcases Nat.le_total (nm q * p.den) (nm p * q.den) with hle | hle
    · rw [add_parts_ge p q e hle]; exact Bt.of_mk _ hd (by omega) (by omega)
    · rw [add_parts_lt p q e hle]; exact Bt.of_mk _ hd (by omega) (by omega)
instance Bt.neg {p : Rat} {a : Nat} [h : Bt p a] : Bt (-p) a := ⟨by rw [neg_nm]; exact h.n, by rw [neg_den]; exact h.d⟩
instance Bt.sub {p q : Rat} {a b : Nat} [h : Bt p a] [k : Bt q b] : Bt (p - q) (a + b + 1) := by
  rw [Rat.sub_eq_add_neg]; exact inferInstance
theorem Bt.wt {q : Rat} {k X : Nat} (h : Bt q k) (hX : k / 32 + 1 ≤ X) : Wt q X := by
  have hB : 2 ^ k ≤ B ^ (k / 32 + 1) := by
    rw [show B ^ (k / 32 + 1) = 2 ^ (32 * (k / 32 + 1)) by rw [Nat.pow_mul]]
    exact Nat.pow_le_pow_right (by decide) (by omega)
  refine ⟨Nat.le_trans ?_ hX⟩
  have h1 := (lt_iff (nm q) _).1 (Nat.lt_of_lt_of_le h.n hB)
  have h2 := (lt_iff q.den _).1 (Nat.lt_of_lt_of_le h.d hB)
  unfold PN.wt
  omega
theorem smal_bits : ∀ x : _root_.Fin 41, ∀ y : _root_.Fin 5, nm ((((x.val : Int) - 20 : Int) : Rat) / ((1 + (y.val : Int) : Int) : Rat)) < 2 ^ 5 ∧ ((((x.val : Int) - 20 : Int) : Rat) / ((1 + (y.val : Int) : Int) : Rat)).den < 2 ^ 5 := by decide +kernel
instance smal_bt (a : Int) : Bt (smal a) 5 := by
  obtain ⟨h1, h2⟩ := wthn_lt (a := a) (n := 41) (by decide)
  obtain ⟨h3, h4⟩ := wthn_lt (a := a.tdiv 41) (n := 5) (by decide)
  have := smal_bits ⟨(wthn a 41).toNat, by omega⟩ ⟨(wthn (a.tdiv 41) 5).toNat, by omega⟩
  rw [show (((wthn a 41).toNat : Nat) : Int) = wthn a 41 by omega, show (((wthn (a.tdiv 41) 5).toNat : Nat) : Int) = wthn (a.tdiv 41) 5 by omega] at this
  exact ⟨this.1, this.2⟩
instance rowq_bt (zs : List Int) (i : Nat) : Bt (rowq zs i) 5 := smal_bt _
end Go.Proofs.YtdnmoggifjlbiaaGreat.AM

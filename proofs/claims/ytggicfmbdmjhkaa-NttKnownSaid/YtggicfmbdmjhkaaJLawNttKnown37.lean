/- Joined texts, 37: LMul LSys LLev AmQ AmR AmT AmU AmV AmX AmW AmY AmZ. -/
import Derived.Test.YtggicfmbdmjhkaaJLawNttKnown36
set_option linter.unusedVariables false
set_option linter.unusedSimpArgs false
/- Determinants of products, of turned matrices; systems; ranks. -/
namespace Go.Proofs.Ytggicfmbdmjhkaa.LA
def Eqn (n : Nat) (A B : Mt) : Prop := ∀ i j, i < n → j < n → A i j = B i j
/-- What holds of ones from corner to corner and of each matrix with a row of noughts, and goes back over row steps, holds of each. -/
theorem by_rows {n : Nat} {P : Mt → Prop} (h0 : ∀ A B, Eqn n A B → P A → P B) (h1 : P one) (h2 : ∀ A a, a < n → (∀ j, j < n → A a j = 0) → P A)
    (h3 : ∀ A a b f, a < n → b < n → a ≠ b → P (addr A a b f) → P A) (h4 : ∀ A a f, a < n → f ≠ 0 → P (scl A a f) → P A) : ∀ A, P A := by
  have hs : ∀ A a b, a < n → b < n → a ≠ b → P (swp A a b) → P A := by
    intro A a b ha hb hab h
    refine h3 A a b 1 ha hb hab (h3 _ b a (-1) hb ha (Ne.symm hab) (h3 _ a b 1 ha hb hab (h4 _ b (-1) hb (by decide) (h0 _ _ ?_ h))))
    intro i j _ _
    unfold swp scl addr upd
    by_cases e1 : i = a
    · subst e1; simp only [if_pos, if_neg hab, if_neg (Ne.symm hab)]; grind
    · by_cases e2 : i = b
      · subst e2; simp only [if_pos, if_neg hab, if_neg (Ne.symm hab)]; grind
      · simp only [if_neg e1, if_neg e2]
  -- a row that makes others nought in a column
  have clean : ∀ (c r : Nat), r < n → ∀ (k : Nat), k ≤ n → ∀ (A : Mt) (lo : Nat), A r c ≠ 0 →
      (∀ B : Mt, (∀ i j, (i < lo ∨ i = r) → B i j = A i j) → (∀ i, lo ≤ i → i < k → i ≠ r → B i c = 0) → (∀ i, k ≤ i → ∀ j, B i j = A i j) → (∀ i j, A r j = 0 → B i j = A i j) → P B) → P A := by
    intro c r hr k
    induction k with
    | zero => intro _ A lo hA H; exact H A (fun _ _ _ => rfl) (fun i _ h _ => by omega) (fun _ _ _ => rfl) (fun _ _ _ => rfl)
    | succ k ih =>
      intro hk A lo hA H
      refine ih (by omega) A lo hA fun B hB1 hB2 hB3 hB4 => ?_
      by_cases e : k < lo ∨ k = r
      · exact H B hB1 (fun i hi1 hi2 hne => hB2 i hi1 (by omega) hne) (fun i hi j => hB3 i (by omega) j) hB4
      · have hBr : ∀ j, B r j = A r j := fun j => hB1 r j (.inr rfl)
        have hAr : B r c ≠ 0 := by rw [hBr]; exact hA
        have hkr : k ≠ r := fun h => e (.inr h)
        refine h3 B k r (-(B k c / B r c)) (by omega) hr hkr (H _ ?_ ?_ ?_ ?_)
        · intro i j hi
          unfold addr
          rw [upd_ne _ _ _ (by omega)]
          exact hB1 i j hi
        · intro i hi1 hi2 hne
          unfold addr
          by_cases ek : i = k
          · subst ek
            rw [upd_at]
            have : B i c / B r c * B r c = B i c := Rat.div_mul_cancel hAr
            grind
          · rw [upd_ne _ _ _ ek]; exact hB2 i hi1 (by omega) hne
        · intro i hi j
          unfold addr
          rw [upd_ne _ _ _ (by omega)]; exact hB3 i (by omega) j
        · intro i j hj
          unfold addr
          by_cases ek : i = k
          · subst ek
            rw [upd_at, hBr j, hj, hB4 i j hj]; grind
          · rw [upd_ne _ _ _ ek]; exact hB4 i j hj
  -- fewer rows than columns before: a row of noughts comes
  have Z : ∀ (d j r : Nat), j + d = n → r < j → ∀ A : Mt, (∀ i, r ≤ i → i < n → ∀ q, q < j → A i q = 0) → P A := by
    intro d
    induction d with
    | zero => intro j r hj hr A hA; exact h2 A r (by omega) (fun q hq => hA r (Nat.le_refl _) (by omega) q (by omega))
    | succ d ih =>
      intro j r hj hr A hA
      by_cases hex : ∃ i, r ≤ i ∧ i < n ∧ A i j ≠ 0
      · obtain ⟨i, hi1, hi2, hi3⟩ := hex
        have go : ∀ B : Mt, B r j ≠ 0 → (∀ i, r ≤ i → i < n → ∀ q, q < j → B i q = 0) → P B := by
          intro B hB1 hB2
          refine clean j r (by omega) n (Nat.le_refl _) B (r + 1) hB1 fun C hC1 hC2 _ hC4 => ?_
          refine ih (j + 1) (r + 1) (by omega) (by omega) C fun i hi1 hi2 q hq => ?_
          by_cases eq : q = j
          · subst eq; exact hC2 i hi1 hi2 (by omega)
          · rw [hC4 i q (hB2 r (Nat.le_refl _) (by omega) q (by omega))]; exact hB2 i (by omega) hi2 q (by omega)
        by_cases er : i = r
        · subst er; exact go A hi3 hA
        · refine hs A r i (by omega) hi2 (Ne.symm er) (go _ ?_ ?_)
          · unfold swp; rw [if_pos rfl]; exact hi3
          · intro p hp1 hp2 q hq
            unfold swp
            split
            · exact hA i hi1 hi2 q hq
            · split
              · exact hA r (Nat.le_refl _) (by omega) q hq
              · exact hA p hp1 hp2 q hq
      · refine ih (j + 1) r (by omega) (by omega) A fun i hi1 hi2 q hq => ?_
        by_cases eq : q = j
        · subst eq
          apply Classical.byContradiction
          intro hne; exact hex ⟨i, hi1, hi2, hne⟩
        · exact hA i hi1 hi2 q (by omega)
  -- the first c columns are those of one
  have Q : ∀ (d c : Nat), c + d = n → ∀ A : Mt, (∀ i j, i < n → j < c → A i j = one i j) → P A := by
    intro d
    induction d with
    | zero => intro c hc A hA; exact h0 one A (fun i j hi hj => (hA i j hi (by omega)).symm) h1
    | succ d ih =>
      intro c hc A hA
      by_cases hex : ∃ i, c ≤ i ∧ i < n ∧ A i c ≠ 0
      · obtain ⟨i, hi1, hi2, hi3⟩ := hex
        have go2 : ∀ B : Mt, B c c = 1 → (∀ i j, i < n → j < c → B i j = one i j) → P B := by
          intro B hB1 hB2
          refine clean c c (by omega) n (Nat.le_refl _) B 0 (by rw [hB1]; decide) fun C hC1 hC2 _ hC4 => ?_
          refine ih (c + 1) (by omega) C fun i j hi hj => ?_
          by_cases ej : j = c
          · subst ej
            by_cases ei : i = j
            · subst ei; rw [hC1 i i (.inr rfl), hB1]; unfold one; rw [if_pos rfl]
            · rw [hC2 i (by omega) hi ei]; unfold one; rw [if_neg ei]
          · have hz : B c j = 0 := by rw [hB2 c j (by omega) (by omega)]; unfold one; rw [if_neg (by omega)]
            rw [hC4 i j hz]; exact hB2 i j hi (by omega)
        have go : ∀ B : Mt, B c c ≠ 0 → (∀ i j, i < n → j < c → B i j = one i j) → P B := by
          intro B hB1 hB2
          refine h4 B c (1 / B c c) (by omega) ?_ (go2 _ ?_ ?_)
          · intro h
            have : 1 / B c c * B c c = 1 := Rat.div_mul_cancel hB1
            rw [h] at this; grind
          · unfold scl; rw [upd_at]; exact Rat.div_mul_cancel hB1
          · intro i j hi hj
            unfold scl
            by_cases ei : i = c
            · subst ei; rw [upd_at, hB2 i j hi hj]; unfold one; rw [if_neg (by omega)]; grind
            · rw [upd_ne _ _ _ ei]; exact hB2 i j hi hj
        by_cases er : i = c
        · subst er; exact go A hi3 hA
        · refine hs A c i (by omega) hi2 (Ne.symm er) (go _ ?_ ?_)
          · unfold swp; rw [if_pos rfl]; exact hi3
          · intro p q hp hq
            unfold swp
            split
            · next e => rw [hA i q hi2 hq]; unfold one; rw [if_neg (by omega), if_neg (by omega)]
            · split
              · next e => rw [hA c q (by omega) hq]; unfold one; rw [if_neg (by omega), if_neg (by omega)]
              · exact hA p q hp hq
      · refine Z d (c + 1) c (by omega) (by omega) A fun i hi1 hi2 q hq => ?_
        by_cases eq : q = c
        · subst eq
          apply Classical.byContradiction
          intro hne; exact hex ⟨i, hi1, hi2, hne⟩
        · rw [hA i q hi2 (by omega)]; unfold one; rw [if_neg (by omega)]
  intro A
  exact Q n 0 (by omega) A (fun i j _ hj => by omega)
def mul (n : Nat) (A B : Mt) : Mt := fun i j => S n (fun k => A i k * B k j)
def tr (A : Mt) : Mt := fun i j => A j i
theorem det_mul (n : Nat) (A B : Mt) : det n (mul n A B) = det n A * det n B := by
  refine by_rows (n := n) (P := fun A => det n (mul n A B) = det n A * det n B) ?_ ?_ ?_ ?_ ?_ A
  · intro A C h hA
    rw [← det_congr h, ← hA]
    refine det_congr fun i j hi hj => ?_
    unfold mul; exact S_congr fun k hk => by rw [h i k hi hk]
  · rw [det_one]
    have : det n (mul n one B) = det n B := det_congr fun i j hi hj => by
      unfold mul
      rw [S_single hi (fun k _ hne => by unfold one; rw [if_neg (Ne.symm hne)]; grind)]
      unfold one; rw [if_pos rfl]; grind
    rw [this]; grind
  · intro A a ha h
    rw [det_zero_row A ha h, det_zero_row _ ha (fun j _ => by unfold mul; exact S_null fun k hk => by rw [h k hk]; grind)]; grind
  · intro A a b f ha hb hab h
    rw [det_addr A ha hb hab] at h
    rw [← h, ← det_addr (mul n A B) ha hb hab f]
    refine det_congr fun i j hi hj => ?_
    unfold mul addr upd
    by_cases e : i = a
    · simp only [if_pos e]
      rw [← S_mul, ← S_add]; exact S_congr fun k _ => by grind
    · simp only [if_neg e]
  · intro A a f ha hf h
    rw [det_scl A ha] at h
    have h2 : det n (mul n (scl A a f) B) = f * det n (mul n A B) := by
      rw [← det_scl (mul n A B) ha f]
      refine det_congr fun i j hi hj => ?_
      unfold mul scl upd
      by_cases e : i = a
      · simp only [if_pos e]
        rw [← S_mul]; exact S_congr fun k _ => by grind
      · simp only [if_neg e]
    rw [h2] at h
    have hc : ∀ x y : Rat, f * x = f * y → x = y := fun x y hxy => by
      have : f * (x - y) = 0 := by grind
      rcases Rat.mul_eq_zero.mp this with h1 | h1
      · exact absurd h1 hf
      · grind
    exact hc _ _ (by rw [h]; grind)
theorem det_tr (n : Nat) (A : Mt) : det n (tr A) = det n A := by
  -- a row step is a product
  have ad : ∀ (A : Mt) (a b : Nat) (f : Rat), a < n → b < n → Eqn n (addr A a b f) (mul n (addr one a b f) A) := by
    intro A a b f ha hb i j hi hj
    unfold mul addr
    by_cases e : i = a
    · subst e
      rw [upd_at, S_congr (g := fun k => one i k * A k j + f * (one b k * A k j)) (fun k _ => by rw [upd_at]; grind), S_add, S_mul]
      rw [S_single hi (fun k _ hne => by unfold one; rw [if_neg (Ne.symm hne)]; grind), S_single hb (fun k _ hne => by unfold one; rw [if_neg (Ne.symm hne)]; grind)]
      unfold one; rw [if_pos rfl, if_pos rfl]; grind
    · rw [upd_ne _ _ _ e, S_single hi (fun k _ hne => by rw [upd_ne _ _ _ e]; unfold one; rw [if_neg (Ne.symm hne)]; grind), upd_ne _ _ _ e]
      unfold one; rw [if_pos rfl]; grind
  have sc : ∀ (A : Mt) (a : Nat) (f : Rat), a < n → Eqn n (scl A a f) (mul n (scl one a f) A) := by
    intro A a f ha i j hi hj
    unfold mul scl
    by_cases e : i = a
    · subst e
      rw [upd_at, S_single hi (fun k _ hne => by rw [upd_at]; unfold one; rw [if_neg (Ne.symm hne)]; grind), upd_at]
      unfold one; rw [if_pos rfl]; grind
    · rw [upd_ne _ _ _ e, S_single hi (fun k _ hne => by rw [upd_ne _ _ _ e]; unfold one; rw [if_neg (Ne.symm hne)]; grind), upd_ne _ _ _ e]
      unfold one; rw [if_pos rfl]; grind
  have trm : ∀ A B : Mt, det n (tr (mul n A B)) = det n (tr A) * det n (tr B) := by
    intro A B
    rw [show det n (tr A) * det n (tr B) = det n (tr B) * det n (tr A) from by grind, ← det_mul]
    refine det_congr fun i j _ _ => ?_
    unfold tr mul; exact S_congr fun k _ => by grind
  refine by_rows (n := n) (P := fun A => det n (tr A) = det n A) ?_ ?_ ?_ ?_ ?_ A
  · intro A C h hA
    rw [← det_congr h, ← hA]
    exact det_congr fun i j hi hj => (h j i hj hi).symm
  · refine det_congr fun i j _ _ => ?_
    unfold tr one
    by_cases e : i = j
    · rw [if_pos e, if_pos e.symm]
    · rw [if_neg e, if_neg (Ne.symm e)]
  · intro A a ha h
    rw [det_zero_row A ha h]
    -- a column of noughts: a product with a matrix that has a row of noughts
    have e : det n (tr A) = det n (mul n (tr A) (scl one a 0)) := det_congr fun i j hi hj => by
      unfold mul
      by_cases ej : j = a
      · subst ej
        rw [S_null]
        · unfold tr; exact h i hi
        · intro k hk
          unfold scl
          by_cases ek : k = j
          · subst ek; rw [upd_at]; grind
          · rw [upd_ne _ _ _ ek]; unfold one; rw [if_neg ek]; grind
      · rw [S_single hj (fun k _ hne => by
          unfold scl
          by_cases ek : k = a
          · subst ek; rw [upd_at]; grind
          · rw [upd_ne _ _ _ ek]; unfold one; rw [if_neg hne]; grind)]
        unfold scl; rw [upd_ne _ _ _ ej]; unfold one; rw [if_pos rfl]; grind
    rw [e, det_mul, det_scl _ ha]; grind
  · intro A a b f ha hb hab h
    rw [det_addr A ha hb hab] at h
    have e1 : det n (tr (addr A a b f)) = det n (tr (mul n (addr one a b f) A)) := det_congr fun i j hi hj => ad A a b f ha hb j i hj hi
    have e2 : det n (tr (addr one a b f)) = 1 := by
      have : Eqn n (tr (addr one a b f)) (addr one b a f) := by
        intro i j hi hj
        unfold tr addr upd one
        by_cases e1 : j = a
        · by_cases e2 : i = b
          · subst e1 e2; simp only [if_pos, if_neg hab, if_neg (Ne.symm hab)]
          · simp only [if_pos e1, if_neg e2, if_neg (Ne.symm e2)]; subst e1
            by_cases e3 : i = j
            · simp only [if_pos e3, if_pos e3.symm]; grind
            · simp only [if_neg e3, if_neg (Ne.symm e3)]; grind
        · simp only [if_neg e1, if_neg (Ne.symm e1)]
          by_cases e2 : i = b
          · simp only [if_pos e2]; subst e2
            by_cases e3 : j = i
            · simp only [if_pos e3, if_pos e3.symm]; grind
            · simp only [if_neg e3, if_neg (Ne.symm e3)]; grind
          · simp only [if_neg e2]
            by_cases e3 : j = i
            · simp only [if_pos e3, if_pos e3.symm]
            · simp only [if_neg e3, if_neg (Ne.symm e3)]
      rw [det_congr this, det_addr _ hb ha (Ne.symm hab), det_one]
    rw [e1, trm, e2] at h
    rw [← h]; grind
  · intro A a f ha hf h
    rw [det_scl A ha] at h
    have e1 : det n (tr (scl A a f)) = det n (tr (mul n (scl one a f) A)) := det_congr fun i j hi hj => sc A a f ha j i hj hi
    have e2 : det n (tr (scl one a f)) = f := by
      have : Eqn n (tr (scl one a f)) (scl one a f) := by
        intro i j hi hj
        unfold tr scl upd one
        by_cases e3 : i = j
        · subst e3; rfl
        · by_cases e1 : j = a
          · simp only [if_pos e1, if_neg e3, if_neg (show ¬ i = a from by omega), if_neg (show ¬ a = i from by omega)]; grind
          · by_cases e2 : i = a
            · simp only [if_neg e1, if_pos e2, if_neg (show ¬ j = i from by omega), if_neg (show ¬ a = j from by omega)]; grind
            · simp only [if_neg e1, if_neg e2, if_neg e3, if_neg (Ne.symm e3)]
      rw [det_congr this, det_scl _ ha, det_one]; grind
    rw [e1, trm, e2] at h
    have : f * (det n (tr A) - det n A) = 0 := by grind
    rcases Rat.mul_eq_zero.mp this with h1 | h1
    · exact absurd h1 hf
    · grind
end Go.Proofs.Ytggicfmbdmjhkaa.LA
/- Systems, inverses, ranks. -/
namespace Go.Proofs.Ytggicfmbdmjhkaa.LA
def app (n : Nat) (A : Mt) (x : Nat → Rat) (i : Nat) : Rat := S n (fun j => A i j * x j)
def cupd (A : Mt) (c : Nat) (v : Nat → Rat) : Mt := fun i j => if j = c then v i else A i j
theorem cupd_at (A : Mt) (c : Nat) (v : Nat → Rat) (i : Nat) : cupd A c v i c = v i := by unfold cupd; rw [if_pos rfl]
theorem cupd_ne (A : Mt) {c j : Nat} (v : Nat → Rat) (i : Nat) (h : j ≠ c) : cupd A c v i j = A i j := by unfold cupd; rw [if_neg h]
theorem mul_assoc (n : Nat) (A B C : Mt) (i j : Nat) : mul n (mul n A B) C i j = mul n A (mul n B C) i j := by
  unfold mul
  rw [S_congr (g := fun k => S n (fun l => A i l * (B l k * C k j))) (fun k _ => by rw [← S_mulr]; exact S_congr fun l _ => by grind), S_swap]
  exact S_congr fun k _ => by rw [S_mul]
theorem mul_congr {n : Nat} {A B C D : Mt} (h1 : Eqn n A B) (h2 : Eqn n C D) : Eqn n (mul n A C) (mul n B D) := by
  intro i j hi hj; unfold mul; exact S_congr fun k hk => by rw [h1 i k hi hk, h2 k j hk hj]
theorem mul_one (n : Nat) (A : Mt) : Eqn n (mul n A one) A := by
  intro i j hi hj; unfold mul
  rw [S_single hj (fun k _ hne => by unfold one; rw [if_neg hne]; grind)]
  unfold one; rw [if_pos rfl]; grind
theorem one_mul (n : Nat) (A : Mt) : Eqn n (mul n one A) A := by
  intro i j hi hj; unfold mul
  rw [S_single hi (fun k _ hne => by unfold one; rw [if_neg (Ne.symm hne)]; grind)]
  unfold one; rw [if_pos rfl]; grind
/-- Ones from corner to corner, but for a column. -/
theorem det_col (n : Nat) (c : Nat) (hc : c < n) (x : Nat → Rat) : det n (cupd one c x) = x c := by
  rw [← det_tr]
  have e : Eqn n (tr (cupd one c x)) (upd one c x) := by
    intro i j _ _
    unfold tr cupd upd one
    by_cases e : i = c
    · rw [if_pos e, if_pos e]
    · rw [if_neg e, if_neg e]
      by_cases e2 : i = j
      · rw [if_pos e2, if_pos e2.symm]
      · rw [if_neg e2, if_neg (Ne.symm e2)]
  rw [det_congr e]
  -- row c is the sum of x j times row j of one
  have hrow : ∀ m, m ≤ n → det n (upd one c (fun j => S m (fun k => x k * one k j))) = if c < m then x c else 0 := by
    intro m
    induction m with
    | zero => intro _; rw [if_neg (by omega)]; exact det_zero_row _ hc (fun j _ => by rw [upd_at]; rfl)
    | succ m ih =>
      intro hm
      have es : upd one c (fun j => S (m + 1) (fun k => x k * one k j)) = upd one c (fun j => S m (fun k => x k * one k j) + x m * one m j) := rfl
      rw [es, det_upd_add _ hc, ih (by omega), det_upd_mul _ hc]
      by_cases e : m = c
      · subst e
        rw [upd_self, det_one, if_neg (by omega), if_pos (by omega)]; grind
      · rw [det_same (upd one c (one m)) hc (show m < n from by omega) (Ne.symm e) (fun j _ => by rw [upd_at, upd_ne _ _ _ e])]
        by_cases e2 : c < m
        · rw [if_pos e2, if_pos (by omega)]; grind
        · rw [if_neg e2, if_neg (by omega)]; grind
  have h := hrow n (Nat.le_refl _)
  rw [if_pos hc] at h
  rw [← h]
  refine det_congr fun i j hi hj => ?_
  by_cases e : i = c
  · subst e
    rw [upd_at, upd_at, S_single hj (fun k _ hne => by unfold one; rw [if_neg hne]; grind)]
    unfold one; rw [if_pos rfl]; grind
  · rw [upd_ne _ _ _ e, upd_ne _ _ _ e]
/-- Cramer. -/
theorem cramer (n : Nat) (A : Mt) (x : Nat → Rat) {c : Nat} (hc : c < n) : det n (cupd A c (app n A x)) = det n A * x c := by
  rw [← det_col n c hc x, ← det_mul]
  refine det_congr fun i j hi hj => ?_
  unfold mul
  by_cases e : j = c
  · subst e; rw [cupd_at]; unfold app; exact S_congr fun k _ => by rw [cupd_at]
  · rw [cupd_ne _ _ _ e, S_single hj (fun k _ hne => by rw [cupd_ne _ _ _ e]; unfold one; rw [if_neg hne]; grind), cupd_ne _ _ _ e]
    unfold one; rw [if_pos rfl]; grind
theorem unique {n : Nat} {A : Mt} (hd : det n A ≠ 0) {x y : Nat → Rat} (h : ∀ i, i < n → app n A x i = app n A y i) : ∀ c, c < n → x c = y c := by
  intro c hc
  have e : det n (cupd A c (app n A x)) = det n (cupd A c (app n A y)) := det_congr fun i j hi _ => by
    unfold cupd; split
    · exact h i hi
    · rfl
  rw [cramer n A x hc, cramer n A y hc] at e
  have : det n A * (x c - y c) = 0 := by grind
  rcases Rat.mul_eq_zero.mp this with h1 | h1
  · exact absurd h1 hd
  · grind
theorem kernel {n : Nat} {A : Mt} {x : Nat → Rat} (h : ∀ i, i < n → app n A x i = 0) {c : Nat} (hc : c < n) (hx : x c ≠ 0) : det n A = 0 := by
  apply Classical.byContradiction
  intro hd
  have := unique hd (y := fun _ => 0) (x := x) (fun i hi => by rw [h i hi]; unfold app; rw [S_null (fun j _ => by grind)]) c hc
  exact hx this
/-- A matrix whose determinant is not nought has one that takes it to ones. -/
theorem inverse {n : Nat} (A : Mt) : det n A ≠ 0 → ∃ B, Eqn n (mul n B A) one := by
  refine by_rows (n := n) (P := fun A => det n A ≠ 0 → ∃ B, Eqn n (mul n B A) one) ?_ ?_ ?_ ?_ ?_ A
  · intro A C h hA hd
    obtain ⟨B, hB⟩ := hA (by rw [det_congr h]; exact hd)
    exact ⟨B, fun i j hi hj => by rw [← hB i j hi hj]; exact mul_congr (fun _ _ _ _ => rfl) (fun p q hp hq => (h p q hp hq).symm) i j hi hj⟩
  · intro _; exact ⟨one, one_mul n one⟩
  · intro A a ha h hd; exact absurd (det_zero_row A ha h) hd
  · intro A a b f ha hb hab h hd
    obtain ⟨B, hB⟩ := h (by rw [det_addr A ha hb hab]; exact hd)
    refine ⟨fun i k => B i k + (if k = b then f * B i a else 0), fun i j hi hj => ?_⟩
    rw [← hB i j hi hj]
    unfold mul
    rw [S_congr (g := fun k => B i k * A k j + (if k = b then f * B i a else 0) * A k j) (fun k _ => by grind), S_add]
    rw [S_congr (f := fun k => B i k * addr A a b f k j) (g := fun k => B i k * A k j + (if k = a then f * B i a * A b j else 0)) (fun k _ => by
      unfold addr upd
      by_cases e : k = a
      · subst e; rw [if_pos rfl, if_pos rfl]; grind
      · rw [if_neg e, if_neg e]; grind), S_add]
    have s1 : S n (fun k => (if k = b then f * B i a else 0) * A k j) = f * B i a * A b j := by
      rw [S_single (k := b) hb (fun k _ hne => by rw [if_neg hne]; grind), if_pos rfl]
    have s2 : S n (fun k => if k = a then f * B i a * A b j else 0) = f * B i a * A b j := by
      rw [S_single (k := a) ha (fun k _ hne => by rw [if_neg hne]), if_pos rfl]
    rw [s1, s2]
  · intro A a f ha hf h hd
    obtain ⟨B, hB⟩ := h (by
      rw [det_scl A ha]
      intro h0
      rcases Rat.mul_eq_zero.mp h0 with h1 | h1
      · exact hf h1
      · exact hd h1)
    refine ⟨fun i k => if k = a then B i k * f else B i k, fun i j hi hj => ?_⟩
    rw [← hB i j hi hj]
    unfold mul
    refine S_congr fun k _ => ?_
    show (if k = a then B i k * f else B i k) * A k j = B i k * (if k = a then f * A a j else A k j)
    by_cases e : k = a
    · subst e; rw [if_pos rfl, if_pos rfl]; grind
    · rw [if_neg e, if_neg e]
/-- A matrix whose rank is r: a product with r between, and one that is taken to r ones. -/
def HasRank (n : Nat) (A : Mt) (r : Nat) : Prop :=
  (∃ U V : Mt, ∀ i j, i < n → j < n → A i j = S r (fun k => U i k * V k j)) ∧
  ∃ L R : Mt, ∀ a b, a < r → b < r → S n (fun i => S n (fun j => L a i * A i j * R j b)) = one a b
end Go.Proofs.Ytggicfmbdmjhkaa.LA
/- Toeplitz matrices by leading parts. -/
namespace Go.Proofs.Ytggicfmbdmjhkaa.LA
/-- The same along diagonals. -/
def Toe (n : Nat) (m : Mt) : Prop := ∀ i j, i + 1 < n → j + 1 < n → m (i + 1) (j + 1) = m i j
/-- What the leading part of k rows sends to a one ahead of noughts, and behind them. -/
def Two (m : Mt) (k : Nat) (f l : Nat → Rat) : Prop := (∀ i, i < k → app k m f i = if i = 0 then 1 else 0) ∧ ∀ i, i < k → app k m l i = if i + 1 = k then 1 else 0
def longer (k : Nat) (f : Nat → Rat) : Nat → Rat := fun i => if i < k then f i else 0
def later (l : Nat → Rat) : Nat → Rat := fun i => if i = 0 then 0 else l (i - 1)
end Go.Proofs.Ytggicfmbdmjhkaa.LA
/- How long numbers are; helps for walks. -/
namespace Go.Proofs.Ytggicfmbdmjhkaa.AM
open Go Go.RowKit Go.Proofs.Ytggicfmbdmjhkaa.PN Go.Proofs.Ytggicfmbdmjhkaa.V
open Go.Proofs.Ytggicfmbdmjhkaa.LA (S S_succ S_zero S_congr)
set_option linter.unusedVariables false
set_option linter.unusedSimpArgs false
class Wt (q : Rat) (k : outParam Nat) : Prop where
  le : wt q ≤ k
instance Wt.mul {p q : Rat} {a b : Nat} [h : Wt p a] [k : Wt q b] : Wt (p * q) (a + b) := ⟨Nat.le_trans (wt_mul p q) (Nat.add_le_add h.le k.le)⟩
instance Wt.add {p q : Rat} {a b : Nat} [h : Wt p a] [k : Wt q b] : Wt (p + q) (a + b + 1) := ⟨Nat.le_trans (wt_add p q) (Nat.add_le_add_right (Nat.add_le_add h.le k.le) 1)⟩
instance Wt.sub {p q : Rat} {a b : Nat} [h : Wt p a] [k : Wt q b] : Wt (p - q) (a + b + 1) := ⟨Nat.le_trans (wt_sub p q) (Nat.add_le_add_right (Nat.add_le_add h.le k.le) 1)⟩
instance Wt.neg {p : Rat} {a : Nat} [h : Wt p a] : Wt (-p) a := ⟨by rw [wt_neg]; exact h.le⟩
instance Wt.div {p q : Rat} {a b : Nat} [h : Wt p a] [k : Wt q b] : Wt (p / q) (a + b) := ⟨by
  by_cases e : q = 0
  · have e0 : p / q = 0 := by rw [e, Rat.div_def, Rat.inv_zero, Rat.mul_zero]
    have h1 : wt 0 ≤ 1 := by decide
    have := wt_pos p; have := h.le
    rw [e0]; omega
  · exact Nat.le_trans (wt_div p q e) (Nat.add_le_add h.le k.le)⟩
instance Wt.zero : Wt 0 1 := ⟨by decide⟩
instance Wt.one : Wt 1 1 := ⟨by decide⟩
theorem Wt.of {q : Rat} {k : Nat} (h : wt q ≤ k) : Wt q k := ⟨h⟩
theorem Wt.mono {q : Rat} {a b : Nat} (h : Wt q a) (k : a ≤ b) : Wt q b := ⟨Nat.le_trans h.le k⟩
/-- A sum of at most eight numbers. -/
theorem Wt.sum {n K : Nat} {f : Nat → Rat} (hn : n ≤ 8) (h : ∀ i, i < n → Wt (f i) K) : Wt (S n f) (8 * (K + 1) + 1) := by
  have key : ∀ m, m ≤ n → wt (S m f) ≤ m * (K + 1) + 1 := by
    intro m hm
    induction m with
    | zero =>
        rw [S_zero]
        have : wt 0 ≤ 1 := by decide
        omega
    | succ m ih =>
      rw [S_succ]
      have h1 := wt_add (S m f) (f m)
      have h2 := (h m (by omega)).le
      have h3 := ih (by omega)
      rw [Nat.succ_mul]
      omega
  refine ⟨Nat.le_trans (key n (Nat.le_refl _)) ?_⟩
  have := Nat.mul_le_mul_right (K + 1) hn
  omega
section
variable {p q : Rat} {a b : Nat} [hp : Wt p a] [hq : Wt q b]
end
section
variable {p : Rat} {a : Nat} [hp : Wt p a]
end
/-! ### For loops -/
theorem awp_no {P : Program} {N : Nat} {Q : Exit → St → Prop} {s : St} {c : Operand} {x y : Code} {b : Bool} (hc : avo s c = some (.v (.bool b))) (hb : b = false) (h : AWP P N y Q s) : AWP P N (.cond c x y) Q s :=
  awp_cond hc (fun e => by rw [hb] at e; cases e) (fun _ => h)
theorem allh {s : St} {σ : Ren} {U : Nat → Bool} {g n' : Nat} {F F' : Nat → Blk} {l : List (Nat × Fam)} (h : s.heap (σ g 0).1 = some (n', F')) (hn : (σ g 0).2 < n') (hb : BLe σ (F' (σ g 0).2) (F 0)) (ho : (F 0).ok U) (k : AllH s σ U l) : AllH s σ U ((g, (1, F)) :: l) :=
  ⟨fun r hr => by
    obtain rfl : r = 0 := by omega
    exact ⟨n', F', h, hn, hb, ho⟩, k⟩
theorem ble1 {σ : Ren} {f f' : Nat → RA} (h : f 0 = f' 0) : BLe σ (.rats 1 f) (.rats 1 f') := by
  refine ⟨rfl, fun i hi => ?_⟩
  obtain rfl : i = 0 := by omega
  exact h
theorem blen {σ : Ren} {n n' : Nat} {f f' : Nat → RA} (hn : n = n') (h : ∀ i, i < n → f i = f' i) : BLe σ (.rats n f) (.rats n' f') := ⟨hn, h⟩
theorem bleo {σ : Ren} {T : TypeId} {n n' : Nat} {f f' : Nat → AV} (hn : n = n') (h : ∀ i, i < n → Le σ (f i) (f' i)) : BLe σ (.ones T n f) (.ones T n' f') := ⟨rfl, hn, h⟩
theorem hA {G : Prop} (h : G := by repeat (first | exact True.intro | refine allh rfl (by decide) (by first | exact ble1 rfl | exact blen rfl (fun _ _ => rfl) | exact bleo rfl (fun _ _ => Le.id rfl)) (by first | exact True.intro | (intro i hi; exact True.intro)) ?_)) : G := h
end Go.Proofs.Ytggicfmbdmjhkaa.AM
/- An own row that lies in another own slice is written no more. -/
namespace Go.Proofs.Ytggicfmbdmjhkaa.AM
open Go Go.RowKit Go.Proofs.Ytggicfmbdmjhkaa.PN Go.Proofs.Ytggicfmbdmjhkaa.V
set_option linter.unusedVariables false
set_option linter.unusedSimpArgs false
/-- Numbers that are put, one by one, in the place of z. -/
def grow {α : Type} (v : Nat → α) (z : α) (k : Nat) : Nat → α := fun i => bif Nat.ble (i + 1) k then v i else z
end Go.Proofs.Ytggicfmbdmjhkaa.AM
/- Calls that are handed own memory, and hand own memory back. -/
namespace Go.Proofs.Ytggicfmbdmjhkaa.AM
open Go Go.RowKit Go.Proofs.Ytggicfmbdmjhkaa.PN Go.Proofs.Ytggicfmbdmjhkaa.V
set_option linter.unusedVariables false
set_option linter.unusedSimpArgs false
def entH (xs : List AV) (h : List (Nat × Fam)) : St := ⟨lk xs, lkp h, fun g => memN g (keys h)⟩
def okK (h : List (Nat × Fam)) : Bool := (keys h).isEmpty || (memN 60 (keys h) && memN 61 (keys h) && memN 62 (keys h) && !(memN 77 (keys h)))
theorem okK_mem {h : List (Nat × Fam)} (hk : okK h = true) (hne : (keys h).isEmpty = false) {g : Nat} (hg : fx3 g = true) : memN g (keys h) = true := by
  unfold okK at hk
  rw [hne] at hk
  simp only [Bool.false_or, Bool.and_eq_true] at hk
  unfold fx3 at hg
  rw [Bool.or_eq_true, Bool.or_eq_true] at hg
  rcases hg with (hg | hg) | hg
  · rw [Nat.eq_of_beq_eq_true hg]; exact hk.1.1.1
  · rw [Nat.eq_of_beq_eq_true hg]; exact hk.1.1.2
  · rw [Nat.eq_of_beq_eq_true hg]; exact hk.1.2
/-- A call that begins with the families h, and ends with h'. -/
structure HasH (P : Program) (f : FuncId) (h : List (Nat × Fam)) (xs : List AV) (r : AV) (h' : List (Nat × Fam)) : Prop where
  b : callB P f = true
  run : ∀ (W : Wd) (β : Nat → Nat → Value) (w : World) (vs : List Value), xs.length = vs.length → ((keys h).isEmpty = false → W.F = some β) → Sim W vs.length β w ⟨vs.toArray, []⟩ (entH xs h) →
    Calls P f vs.toArray w fun e w' => ∃ v β', e = .returned v ∧ Sim W 1 β' w' ⟨#[v], []⟩ (stl [(0, r)] h') ∧ ∀ g, memN g (keys h) = true → β' g = β g
def oks (U : Nat → Bool) : List AV → Prop
  | [] => True
  | x :: l => x.ok U ∧ oks U l
def FinH (rs : Array ResultVar) (r : AV) (h' : List (Nat × Fam)) (e : Exit) (s : St) : Prop := (e = .normal ∨ e = .ret) ∧ ∃ env, Imp s (stl env h') ∧ Back (stl env h') rs r
theorem own_stl {s : St} {β : Nat → Nat → Value} {e : List (Nat × AV)} {h : List (Nat × Fam)} (hh : ∀ g fam, lkp h g = some fam → s.heap g = some fam) {k : Nat} (ho : Own (stl e h) β k) : Own s β k := by
  obtain ⟨g, n, F, r, h1, h2, h3⟩ := ho
  exact ⟨g, n, F, r, hh g _ h1, h2, h3⟩
/-- The callee's words of what it finds. -/
def subW {W : Wd} {N : Nat} {β : Nat → Nat → Value} {w : World} {a : Act} {s : St} (hs : Sim W N β w a s) (h : List (Nat × Fam)) (hh : ∀ g fam, lkp h g = some fam → s.heap g = some fam) : Wd :=
  ⟨W.w, fun k => (k < W.w1.heap.size → W.S k) ∧ (Own s β k → Own (stl [] h) β k), w, fun k => k < w.heap.size ∧ ¬ Own (stl [] h) β k,
    fun k h1 h2 h3 => by
      have ho : Own (stl [] h) β k := Classical.byContradiction fun ho => h3 ⟨h2, ho⟩
      exact ⟨fun hlt => W.law k h1 hlt (hs.pin k (own_stl hh ho)), fun _ => ho⟩,
    fun k hk => hk.1, if (keys h).isEmpty = true then none else some β⟩
theorem Sim.into {W : Wd} {N : Nat} {β : Nat → Nat → Value} {w : World} {a : Act} {s : St} (hs : Sim W N β w a s) {h : List (Nat × Fam)} (hh : ∀ g fam, lkp h g = some fam → s.heap g = some fam) (hk : okK h = true) {xs : List AV} {vs : List Value} (hl : xs.length = vs.length)
    (hx : ∀ (t : Nat) (x : AV) (v : Value), xs[t]? = some x → vs[t]? = some v → x.ok (fun g => memN g (keys h)) ∧ RV (notOwn W s β) W.w.heap.size β w x v) (hf : ∀ g n F r, lkp h g = some (n, F) → r < n → (F r).ok (fun g => memN g (keys h))) :
    Sim (subW hs h hh) vs.length β w ⟨vs.toArray, []⟩ (entH xs h) := by
  have kf : Fwd (notOwn W s β) (notOwn (subW hs h hh) (entH xs h) β) W.w.heap.size W.w.heap.size s.used β β (fun _ => False) w w :=
    ⟨Ext.refl _ _, fun _ _ h => h, fun b hb _ => ⟨fun _ => ⟨hb.1, fun ho => absurd ho hb.2⟩, fun ho => hb.2 (own_stl (e := []) hh ho)⟩, Nat.le_refl _, fun _ _ _ => rfl⟩
  refine ⟨hs.kept, rfl, rfl, fun t x hx' => ?_, fun g n F r h1 h2 => ?_, fun g n F h1 => lkp_key h1, fun g n F r g' n' F' r' k h1 h2 h3 h4 h5 h6 => hs.inj _ _ _ _ _ _ _ _ k (hh _ _ h1) h2 (hh _ _ h3) h4 h5 h6, Fix.refl _ _, fun k ho hP => hP.2 ho, fun u hu g hg => ?_, fun u hu g hg => ?_⟩
  · have hx' : lk xs t = some x := hx'
    rw [lk_get] at hx'
    have hlt : t < vs.length := by rw [← hl]; exact (List.getElem?_eq_some_iff.1 hx').1
    obtain ⟨h1, h2⟩ := hx t x _ hx' (List.getElem?_eq_getElem hlt)
    refine ⟨h1, ?_⟩
    rw [show (vs.toArray.getD t undef) = vs[t] from by rw [Array.getD_eq_getD_getElem?]; simp [hlt]]
    refine RV.fwd (U := fun g => memN g (keys h)) (O := fun _ => False) ?_ h1 h2
    exact ⟨kf.ext, kf.out, kf.set, kf.base, fun _ _ _ => rfl⟩
  · have h1 : lkp h g = some (n, F) := h1
    obtain ⟨q1, q2⟩ := hs.heap _ _ _ _ (hh _ _ h1) h2
    exact ⟨hf g n F r h1 h2, RB.fwd kf q1 (fun _ _ h => h) q2⟩
  · have hu : (if (keys h).isEmpty = true then none else some β) = some u := hu
    split at hu
    · cases hu
    · cases hu; rfl
  · have hu : (if (keys h).isEmpty = true then none else some β) = some u := hu
    split at hu
    · cases hu
    · rename_i e
      exact okK_mem hk (by simpa using e) hg
def mixβ (h' : List (Nat × Fam)) (β β' : Nat → Nat → Value) : Nat → Nat → Value := fun g => if memN g (keys h') = true then β' g else β g
theorem Sim.back {W : Wd} {N : Nat} {β β' : Nat → Nat → Value} {w w' : World} {a : Act} {s s' : St} (hs : Sim W N β w a s) {h h' : List (Nat × Fam)} {r : AV} {v : Value} (hh : ∀ g fam, lkp h g = some fam → s.heap g = some fam) (hnl : ∀ g n F q, lkp h g = some (n, F) → q < n → ∀ m f, F q ≠ .lims m f)
    (hsub : ∀ g, memN g (keys h) = true → memN g (keys h') = true) (hnew : ∀ g, memN g (keys h') = true → memN g (keys h) = true ∨ s.used g = false)
    (hr : Sim (subW hs h hh) 1 β' w' ⟨#[v], []⟩ (stl [(0, r)] h')) (hβ : ∀ g, memN g (keys h) = true → β' g = β g)
    (henv : s'.env = s.env) (hheap : ∀ g, s'.heap g = if memN g (keys h') = true then lkp h' g else s.heap g) (hused : ∀ g, s'.used g = (memN g (keys h') || s.used g)) :
    Sim W N (mixβ h' β β') w' a s' ∧ r.ok s'.used ∧ RV (notOwn W s' (mixβ h' β β')) W.w.heap.size (mixβ h' β β') w' r v := by
  have hu1 : ∀ g, s.used g = true → s'.used g = true := fun g hg => by rw [hused, hg]; simp
  have hu2 : ∀ g, memN g (keys h') = true → s'.used g = true := fun g hg => by rw [hused, hg]; rfl
  have hb1 : ∀ g, memN g (keys h') = true → mixβ h' β β' g = β' g := fun g hg => if_pos hg
  have hb2 : ∀ g, ¬ memN g (keys h') = true → mixβ h' β β' g = β g := fun g hg => if_neg hg
  have hb3 : ∀ g, s.used g = true → mixβ h' β β' g = β g := fun g hg => by
    by_cases e : memN g (keys h') = true
    · rcases hnew g e with h1 | h1
      · rw [hb1 g e]; exact hβ g h1
      · rw [hg] at h1; cases h1
    · exact hb2 g e
  have hsz : w.heap.size ≤ w'.heap.size := hr.fix.size
  -- blocks of families
  have hold : ∀ i, i < w.heap.size → (∃ g n F r, lkp h' g = some (n, F) ∧ r < n ∧ ub (β' g r) = some i) → Own (stl [] h) β i := fun i hi ⟨g, n, F, q, h1, h2, h3⟩ =>
    Classical.byContradiction fun hn => hr.pin i ⟨g, n, F, q, h1, h2, h3⟩ ⟨hi, hn⟩
  have hfr : ∀ g n F q i, ¬ memN g (keys h') = true → s.heap g = some (n, F) → q < n → ub (β g q) = some i → ¬ Own (stl [] h) β i := by
    rintro g n F q i hg h1 h2 h3 ⟨g1, n1, F1, q1, k1, k2, k3⟩
    have := (hs.inj _ _ _ _ _ _ _ _ i h1 h2 (hh _ _ k1) k2 h3 k3).1
    exact hg (by rw [this]; exact hsub _ (lkp_key k1))
  have hsplit : ∀ i, Own s' (mixβ h' β β') i → (∃ g n F q, lkp h' g = some (n, F) ∧ q < n ∧ ub (β' g q) = some i) ∨ (∃ g n F q, ¬ memN g (keys h') = true ∧ s.heap g = some (n, F) ∧ q < n ∧ ub (β g q) = some i) := by
    rintro i ⟨g, n, F, q, h1, h2, h3⟩
    rw [hheap] at h1
    by_cases e : memN g (keys h') = true
    · rw [if_pos e] at h1; rw [hb1 g e] at h3; exact .inl ⟨g, n, F, q, h1, h2, h3⟩
    · rw [if_neg e] at h1; rw [hb2 g e] at h3; exact .inr ⟨g, n, F, q, e, h1, h2, h3⟩
  have hext : Ext (fun k => Own (stl [] h) β k) w w' := ⟨hr.fix.size, fun i hi ho => hr.fix.block i hi ⟨hi, ho⟩, fun i cs hrow => by
    have hi := hrow.lt
    by_cases ho : Own (stl [] h) β i
    · exfalso
      obtain ⟨g, n, F, q, k1, k2, k3⟩ := ho
      have hb := (hs.heap g n F q (hh _ _ k1) k2).2
      have hl := hnl g n F q k1 k2
      cases hF : F q with
      | rats m f =>
        rw [hF] at hb
        obtain ⟨cs', _, h5, _⟩ := rb_rats hb k3
        unfold Row? at hrow h5
        rw [hrow] at h5
        injection h5 with h5
        injection h5 with _ h5
        exact absurd h5 (by decide)
      | ones T m f =>
        rw [hF] at hb
        obtain ⟨hT, cs', _, h5, _⟩ := rb_ones hb k3
        unfold Row? at hrow h5
        rw [hrow] at h5
        injection h5 with h5
        injection h5 with _ h5
        exact hT h5.symm
      | lims m f => exact hl m f hF
    · exact (hr.fix.block i hi ⟨hi, ho⟩).trans hrow⟩
  have kf : Fwd (notOwn W s β) (notOwn W s' (mixβ h' β β')) W.w.heap.size W.w.heap.size s.used β (mixβ h' β β') (fun k => Own (stl [] h) β k) w w' := by
    refine ⟨hext, fun b hb ho => hb.2 (own_stl hh ho), fun b hb hlt => ⟨hb.1, fun ho => ?_⟩, Nat.le_refl _, fun g q hg => by rw [hb3 g hg]⟩
    rcases hsplit b ho with h1 | ⟨g, n, F, q, h1, h2, h3, h4⟩
    · exact hb.2 (own_stl hh (hold b hlt h1))
    · exact hb.2 ⟨g, n, F, q, h2, h3, h4⟩
  have kf2 : Fwd (notOwn (subW hs h hh) (stl [(0, r)] h') β') (notOwn W s' (mixβ h' β β')) W.w.heap.size W.w.heap.size (fun g => memN g (keys h')) β' (mixβ h' β β') (fun _ => False) w' w' := by
    refine ⟨Ext.refl _ _, fun _ _ h => h, fun b hb _ => ⟨fun hlt => ?_, fun ho => ?_⟩, Nat.le_refl _, fun g q hg => by rw [hb1 g hg]⟩
    · exact (hb.1 (Nat.lt_of_lt_of_le hlt hs.fix.size)).1 hlt
    · rcases hsplit b ho with ⟨g, n, F, q, h1, h2, h3⟩ | ⟨g, n, F, q, h1, h2, h3, h4⟩
      · exact hb.2 ⟨g, n, F, q, h1, h2, h3⟩
      · have hown : Own s β b := ⟨g, n, F, q, h2, h3, h4⟩
        exact hfr g n F q b h1 h2 h3 h4 ((hb.1 (own_lt hs hown).2).2 hown)
  have hres : r.ok s'.used ∧ RV (notOwn W s' (mixβ h' β β')) W.w.heap.size (mixβ h' β β') w' r v := by
    obtain ⟨h1, h2⟩ := hr.env 0 r rfl
    exact ⟨AV.ok_mono hu2 h1, RV.fwd kf2 h1 h2⟩
  refine ⟨⟨hr.kept, hs.nodef, hs.size, fun t x hx => ?_, fun g n F q h1 h2 => ?_, fun g n F h1 => ?_, fun g1 n1 F1 r1 g2 n2 F2 r2 i h1 h2 h3 h4 h5 h6 => ?_, hs.fix.trans hext (fun i hi => hs.pin i (own_stl hh hi)), fun i ho => ?_, fun u hu g hg => ?_, fun u hu g hg => hu1 g (hs.keep u hu g hg)⟩, hres⟩
  · rw [henv] at hx
    obtain ⟨h1, h2⟩ := hs.env t x hx
    exact ⟨AV.ok_mono hu1 h1, h2.fwd kf h1⟩
  · rw [hheap] at h1
    by_cases e : memN g (keys h') = true
    · rw [if_pos e] at h1
      obtain ⟨q1, q2⟩ := hr.heap g n F q h1 h2
      rw [hb1 g e]
      exact ⟨Blk.ok_mono hu2 q1, RB.fwd kf2 q1 (fun _ _ h => h) q2⟩
    · rw [if_neg e] at h1
      obtain ⟨q1, q2⟩ := hs.heap g n F q h1 h2
      rw [hb2 g e]
      exact ⟨Blk.ok_mono hu1 q1, RB.fwd kf q1 (fun i hi ho => hfr g n F q i e h1 h2 hi ho) q2⟩
  · rw [hheap] at h1
    by_cases e : memN g (keys h') = true
    · exact hu2 g e
    · rw [if_neg e] at h1; exact hu1 g (hs.live _ _ _ h1)
  · rw [hheap] at h1 h3
    by_cases e1 : memN g1 (keys h') = true <;> by_cases e2 : memN g2 (keys h') = true
    · rw [if_pos e1] at h1; rw [if_pos e2] at h3; rw [hb1 _ e1] at h5; rw [hb1 _ e2] at h6
      exact hr.inj _ _ _ _ _ _ _ _ i h1 h2 h3 h4 h5 h6
    · rw [if_pos e1] at h1; rw [if_neg e2] at h3; rw [hb1 _ e1] at h5; rw [hb2 _ e2] at h6
      exact absurd (hold i (own_lt hs ⟨g2, n2, F2, r2, h3, h4, h6⟩).2 ⟨g1, n1, F1, r1, h1, h2, h5⟩) (hfr g2 n2 F2 r2 i e2 h3 h4 h6)
    · rw [if_neg e1] at h1; rw [if_pos e2] at h3; rw [hb2 _ e1] at h5; rw [hb1 _ e2] at h6
      exact absurd (hold i (own_lt hs ⟨g1, n1, F1, r1, h1, h2, h5⟩).2 ⟨g2, n2, F2, r2, h3, h4, h6⟩) (hfr g1 n1 F1 r1 i e1 h1 h2 h5)
    · rw [if_neg e1] at h1; rw [if_neg e2] at h3; rw [hb2 _ e1] at h5; rw [hb2 _ e2] at h6
      exact hs.inj _ _ _ _ _ _ _ _ i h1 h2 h3 h4 h5 h6
  · rcases hsplit i ho with h1 | ⟨g, n, F, q, h1, h2, h3, h4⟩
    · intro hP
      have hlt := Nat.lt_of_lt_of_le (W.lt i hP) hs.fix.size
      exact hs.pin i (own_stl hh (hold i hlt h1)) hP
    · exact hs.pin i ⟨g, n, F, q, h2, h3, h4⟩
  · rw [hb3 g (hs.keep u hu g hg)]; exact hs.fixd u hu g hg
def upds : List (Nat × Fam) → List (Nat × Option Fam)
  | [] => []
  | (g, F) :: l => (g, some F) :: upds l
def noDup : List Nat → Bool
  | [] => true
  | a :: l => !(memN a l) && noDup l
def famAt (s : St) : List (Nat × Fam) → Prop
  | [] => True
  | (g, F) :: l => s.heap g = some F ∧ famAt s l
theorem famAt.get {s : St} : ∀ {l : List (Nat × Fam)}, famAt s l → ∀ g fam, lkp l g = some fam → s.heap g = some fam
  | [], _, g, fam, h => by cases h
  | (k, F) :: l, hf, g, fam, h => by
    unfold lkp at h
    cases e : Nat.beq g k with
    | true => rw [e] at h; cases h; rw [Nat.eq_of_beq_eq_true e]; exact hf.1
    | false => rw [e] at h; exact famAt.get hf.2 g fam h
def okf (U : Nat → Bool) : List (Nat × Fam) → Prop
  | [] => True
  | (_, (n, F)) :: l => (∀ r, r < n → (F r).ok U) ∧ okf U l
theorem okf.get {U : Nat → Bool} : ∀ {l : List (Nat × Fam)}, okf U l → ∀ g n F r, lkp l g = some (n, F) → r < n → (F r).ok U
  | [], _, g, n, F, r, h, _ => by cases h
  | (k, (n0, F0)) :: l, hf, g, n, F, r, h, hr => by
    unfold lkp at h
    cases e : Nat.beq g k with
    | true => rw [e] at h; cases h; exact hf.1 r hr
    | false => rw [e] at h; exact okf.get hf.2 g n F r h hr
theorem oks.get {U : Nat → Bool} : ∀ {l : List AV}, oks U l → ∀ (t : Nat) (x : AV), l[t]? = some x → x.ok U
  | [], _, t, x, h => by cases h
  | y :: l, hf, 0, x, h => by cases h; exact hf.1
  | y :: l, hf, t + 1, x, h => oks.get hf.2 t x (by simpa using h)
theorem ev_pick {s : St} {d : Option Tmp} {ty : TypeId} {ps : String} {aft : Array Edge} {gd : Option (Nat × Bool)} {c x y : Operand} {b v : Bool} {z : AV} (hc : avo s c = some (.v (.bool b))) (hb : b = v) (hx : avo s (bif v then x else y) = some z) : ev ⟨d, .pick c x y, ty, ps, aft, gd⟩ s = some (⟨some z, [], []⟩, True) := by
  subst hb
  show evPick s c x y = _
  unfold evPick
  rw [hc]
  simp only []
  rw [hx]
  rfl
section
variable {ops : Array Oper} {l : List Oper} {s : St} {acc : List Fp} {K : St → List Fp → Prop} {d : Option Tmp} {ty : TypeId} {ps : String} {aft : Array Edge} {c x y : Operand} {b : Bool} {z : AV}
theorem st_pickt (hc : avo s c = some (.v (.bool b))) (hb : b = true) (hx : avo s x = some z) (k : AOps Try.prog ops l (nxt s d (some z) []) (([], []) :: acc) K) : AOps Try.prog ops (⟨d, .pick c x y, ty, ps, aft, none⟩ :: l) s acc K :=
  st_ev (ev_pick hc hb hx) True.intro k
theorem st_pickf (hc : avo s c = some (.v (.bool b))) (hb : b = false) (hx : avo s y = some z) (k : AOps Try.prog ops l (nxt s d (some z) []) (([], []) :: acc) K) : AOps Try.prog ops (⟨d, .pick c x y, ty, ps, aft, none⟩ :: l) s acc K :=
  st_ev (ev_pick hc hb hx) True.intro k
theorem st_pickgt {j : Nat} {want b0 : Bool} {t : Tmp} (ht : (ops[j]?).bind (·.dst) = some t) (he : s.env t = some (.v (.bool b0))) (h0 : (b0 == want) = true) (hc : avo s c = some (.v (.bool b))) (hb : b = true) (hx : avo s x = some z) (k : AOps Try.prog ops l (nxt s d (some z) []) (([], []) :: acc) K) : AOps Try.prog ops (⟨d, .pick c x y, ty, ps, aft, some (j, want)⟩ :: l) s acc K :=
  st_evg ht he h0 (ev_pick hc hb hx) True.intro k
theorem st_pickgf {j : Nat} {want b0 : Bool} {t : Tmp} (ht : (ops[j]?).bind (·.dst) = some t) (he : s.env t = some (.v (.bool b0))) (h0 : (b0 == want) = true) (hc : avo s c = some (.v (.bool b))) (hb : b = false) (hx : avo s y = some z) (k : AOps Try.prog ops l (nxt s d (some z) []) (([], []) :: acc) K) : AOps Try.prog ops (⟨d, .pick c x y, ty, ps, aft, some (j, want)⟩ :: l) s acc K :=
  st_evg ht he h0 (ev_pick hc hb hx) True.intro k
end
end Go.Proofs.Ytggicfmbdmjhkaa.AM
/- Own slices that are handed to a call that only reads them. -/
namespace Go.Proofs.Ytggicfmbdmjhkaa.AM
open Go Go.RowKit Go.Proofs.Ytggicfmbdmjhkaa.PN Go.Proofs.Ytggicfmbdmjhkaa.V
set_option linter.unusedVariables false
set_option linter.unusedSimpArgs false
/-- A row, as it is or own. -/
inductive RView (s : St) (rd : List Nat) : AV → Nat → (Nat → RA) → Prop where
  | row {fr : Bool} {n : Nat} {f : Nat → RA} : RView s rd (.row fr n f) n f
  | own {g r n m : Nat} {F : Nat → Blk} {f f0 : Nat → RA} (hg : s.heap g = some (n, F)) (hr : r < n) (hF : F r = .rats m f0) (hrd : g ∈ rd) (he : ∀ i, i < m → f0 i = f i) : RView s rd (.own g r) m f
/-- What a reader may take a value for. -/
inductive View (s : St) (rd : List Nat) : AV → AV → Prop where
  | old {x y : AV} (h : x.old = y) : View s rd x y
  | row {x : AV} {n : Nat} {f : Nat → RA} (h : RView s rd x n f) : View s rd x (.row false n f)
  | mat {g r n n' : Nat} {F : Nat → Blk} {f : Nat → AV} {m : Nat → Nat} {G : Nat → Nat → RA} (hg : s.heap g = some (n', F)) (hr : r < n') (hF : F r = .ones WT n f) (hrd : g ∈ rd) (h : ∀ i, i < n → RView s rd (f i) (m i) (G i)) : View s rd (.own g r) (.mat false n m G)
def safe : AV → Bool
  | .v _ | .nat _ | .lb _ | .ra _ | .rs _ | .rn _ | .rd _ => true
  | .row fr _ _ => fr
  | .mat fr _ _ _ => fr
  | .tup a b => safe a && safe b
  | .tup3 a b c => safe a && (safe b && safe c)
  | _ => false
inductive Views (s : St) (rd : List Nat) : List AV → List AV → Prop where
  | nil : Views s rd [] []
  | cons {x y : AV} {xs ys : List AV} (h : View s rd x y) (k : Views s rd xs ys) : Views s rd (x :: xs) (y :: ys)
theorem Views.get {s : St} {rd : List Nat} : ∀ {xs ys : List AV}, Views s rd xs ys → xs.length = ys.length ∧ ∀ (i : Nat) (y : AV), ys[i]? = some y → ∃ x, xs[i]? = some x ∧ View s rd x y
  | _, _, .nil => ⟨rfl, fun i y h => by cases h⟩
  | _, _, .cons h k => by
    obtain ⟨h1, h2⟩ := k.get
    refine ⟨by simp [h1], fun i y hy => ?_⟩
    cases i with
    | zero => cases hy; exact ⟨_, rfl, h⟩
    | succ i => exact h2 i y (by simpa using hy)
end Go.Proofs.Ytggicfmbdmjhkaa.AM
/- Limbs behind none: new limbs. -/
namespace Go.Proofs.Ytggicfmbdmjhkaa.AM
open Go Go.RowKit Go.Proofs.Ytggicfmbdmjhkaa.PN Go.Proofs.Ytggicfmbdmjhkaa.V
set_option linter.unusedVariables false
set_option linter.unusedSimpArgs false
theorem ok_build0 {o : Oper} {s : St} (ho : o.op = .buildSlice 22 0 #[]) : LOK Try.prog o s ⟨some .e0, [], []⟩ := by
  refine lok_kept fun s2 hl W N β w a hs K Q hK => ?_
  obtain ⟨i0, hi, hz0, hz1, hz2⟩ := info_parts info_u32
  have hrun : (Instr.buildSlice 22 0 (#[] : Array (Nat × Value))).run Try.prog w = .ok (.slice (some ⟨w.heap.size, 0, none⟩) 0 0) (w.alloc (.cells #[] U32)) :=
    run_buildSlice w Try.underlying22 hi hz0 hz1 (by omega) (by simp [Instr.fill, madeCells])
  unfold Oper.wp
  have he : (execOp a.eval o).run Try.prog w = .ok (.value (.slice (some ⟨w.heap.size, 0, none⟩) 0 0)) (w.alloc (.cells #[] U32)) := by
    unfold execOp; rw [ho]; simp only [Sem.run_bind]
    rw [show ((#[] : Array (Nat × Operand)).map fun p => (p.1, a.eval p.2)) = #[] from by simp, hrun]
    rfl
  rw [he]
  exact hK _ _ (Kept.alloc _ _) fun x hx => by cases hx; exact ⟨trivial, _, rfl, row_new w #[] U32⟩
theorem run_app0 {w : World} {g : Nat} {v : Value} {n : Nat} (hr : Row? w g #[] U32) (hn : NatS w (fun _ => True) v n) (hs : size n ≤ 1000000000000) (ty : TypeId) :
    ∃ v' w', (Builtin.append_ #[22, 22] ty #[.slice (some ⟨g, 0, none⟩) 0 0, v]).run Try.prog w = .ok v' w' ∧ Kept w w' ∧ NatS w' (fun _ => True) v' n := by
  obtain ⟨i0, hi, hz0, hz1, hz2⟩ := info_parts info_u32
  obtain ⟨A, c, rfl, hc, hx⟩ := hn
  by_cases h0 : size n = 0
  · refine ⟨.slice (some ⟨g, 0, none⟩) 0 0, w, ?_, Below.refl _ _, ?_⟩
    · rw [h0]
      cases A with
      | none => simp [Builtin.append_, run_underlying Try.underlying22, sizeOf, typeInfo, hi, Builtin.lenOf, Builtin.firstCells, storeCells]
      | some a => simp [Builtin.append_, run_underlying Try.underlying22, sizeOf, typeInfo, hi, Builtin.lenOf, Builtin.firstCells, storeCells, loadCells, loadCellsFrom, World.setCells]
    · show Dg w _ _ n (size n)
      rw [h0]
      exact ⟨_, _, rfl, Nat.le_refl _, fun i hi => absurd hi (Nat.not_lt_zero _)⟩
  · obtain ⟨A', c', e, _, hat⟩ := Dg.at (s := n) (⟨A, c, rfl, hc, hx⟩ : Dg w (fun _ => True) (.slice A (size n) c) n (size n))
    cases e
    obtain ⟨b, off, e1, _⟩ := hat 0 (by omega)
    subst e1
    obtain ⟨v', w', h1, h2, h3⟩ := run_append_arg_grows (P := Try.prog) w 22 ty U32 i0 (.int .u32 0) 1 4 Try.underlying22 hi hz0 hz1 hz2 rfl (by decide) ⟨g, 0, none⟩ 0 0 [] rfl (by simp) ⟨b, off, none⟩ (size n) c (lim n (size n)) (by rw [lim_length, Nat.mul_one]) (hat.cells_any) (by omega) (by unfold maxLen; omega) (by omega)
    refine ⟨v', w', h1, Kept.grown (Below.refl _ _) h3 (fun k hk => by cases hk), ?_⟩
    have h4 := Dg.of_own (s := n) (n := size n) h2 (by omega) rfl
    obtain ⟨A2, c2, q1, q2, q3⟩ := h4
    exact ⟨A2, c2, q1, q2, fun i hi => by obtain ⟨b, off, cs, a1, a2, a3, a4⟩ := q3 i hi; exact ⟨b, off, cs, a1, trivial, a3, a4⟩⟩
/-- The whole number whose limbs a value is. -/
def numA : AV → Option Nat
  | .nat n => some n
  | .rn (.q p) => some (nm p)
  | .rd (.q p) => some p.den
  | _ => none
theorem numA_rv {y : AV} {n : Nat} (h : numA y = some n) {S : Nat → Prop} {B : Nat} {β : Nat → Nat → Value} {w : World} {v : Value} : RV S B β w y v ↔ NatS w (fun _ => True) v n := by
  unfold numA at h
  split at h <;> cases h <;> exact Iff.rfl
theorem numA_ok {y : AV} {n : Nat} (h : numA y = some n) (U : Nat → Bool) : y.ok U := by
  unfold numA at h
  split at h <;> cases h <;> trivial
theorem ok_app0 {o : Oper} {s : St} {x y : Operand} {Y : AV} {n : Nat} (ho : o.op = .call { callee := .builtin .append, args := #[x, y], argTypes := #[22, 22] }) (hx : avo s x = some .e0) (hy : avo s y = some Y) (hn : numA Y = some n) (hs : size n ≤ 1000000000000) : LOK Try.prog o s ⟨some Y, [], []⟩ := by
  refine lok_kept fun s2 hl W N β w a hsim K Q hK => ?_
  obtain ⟨_, g, h1, hr⟩ := hsim.opd (x := x) (by rw [hl.avo (by rw [ho]; simp [Op.operands, Call.operands])]; exact hx)
  obtain ⟨_, h2⟩ := hsim.opd (x := y) (by rw [hl.avo (by rw [ho]; simp [Op.operands, Call.operands])]; exact hy)
  obtain ⟨v', w', hrun, hk, hv⟩ := run_app0 hr ((numA_rv hn).1 h2) hs o.type
  have he : (execOp a.eval o).run Try.prog w = .ok (.value v') w' := by
    unfold execOp; rw [ho]; simp only [resolve, List.map_toArray, List.map_cons, List.map_nil]; rw [h1]
    simp only [Sem.run_bind, Sem.run_pure, Result.andThen_ok, invoke, builtin, hrun]
  unfold Oper.wp
  rw [he]
  exact hK _ _ hk fun x hx => by cases hx; exact ⟨numA_ok hn _, (numA_rv hn).2 hv⟩
section
variable {ops : Array Oper} {l : List Oper} {s : St} {acc : List Fp} {K : St → List Fp → Prop} {d : Option Tmp} {ty : TypeId} {ps : String} {aft : Array Edge}
theorem st_build0 (k : AOps Try.prog ops l (nxt s d (some .e0) []) (([], []) :: acc) K) : AOps Try.prog ops (⟨d, .buildSlice 22 0 #[], ty, ps, aft, none⟩ :: l) s acc K := st_lok (ok_build0 rfl) k
theorem st_app0 {x y : Operand} {Y : AV} {n : Nat} (hx : avo s x = some .e0) (hy : avo s y = some Y) (hn : numA Y = some n) (hs : size n ≤ 1000000000000) (k : AOps Try.prog ops l (nxt s d (some Y) []) (([], []) :: acc) K) : AOps Try.prog ops (⟨d, .call ⟨.builtin .append, #[x, y], #[22, 22]⟩, ty, ps, aft, none⟩ :: l) s acc K := st_lok (ok_app0 rfl hx hy hn hs) k
end
end Go.Proofs.Ytggicfmbdmjhkaa.AM
/- A matrix of own rows that is written no more. -/
namespace Go.Proofs.Ytggicfmbdmjhkaa.AM
open Go Go.RowKit Go.Proofs.Ytggicfmbdmjhkaa.PN Go.Proofs.Ytggicfmbdmjhkaa.V
set_option linter.unusedVariables false
set_option linter.unusedSimpArgs false
end Go.Proofs.Ytggicfmbdmjhkaa.AM
/- What a law is called with. -/
namespace Go.Proofs.Ytggicfmbdmjhkaa.V
open Go
def IsRow (k : IntKind) (w : World) (a : Option Addr) (len cap : Nat) (zs : List Int) : Prop :=
  (a = none ∧ len = 0 ∧ cap = 0 ∧ zs = []) ∨
  ∃ x, a = some x ∧ len ≤ cap ∧ cap ≤ maxLen ∧ zs.length = cap ∧ (∀ i, i < zs.length → w.cell? (x.add i) = some (.int k (zs.getD i 0))) ∧ ∀ n ∈ zs, (Lit.int k n).wf = true
end Go.Proofs.Ytggicfmbdmjhkaa.V
namespace Go.Proofs.Ytggicfmbdmjhkaa.AM
open Go Go.RowKit Go.Proofs.Ytggicfmbdmjhkaa.PN Go.Proofs.Ytggicfmbdmjhkaa.V
set_option linter.unusedVariables false
set_option linter.unusedSimpArgs false
def AllFit (zs : List Int) : Prop := ∀ i, i < zs.length → Fits .i64 (zs.getD i 0)
theorem fit_wf {n : Int} (h : (Lit.int .i64 n).wf = true) : Fits .i64 n := by
  unfold Lit.wf at h
  rw [Bool.and_eq_true] at h
  exact ⟨of_decide_eq_true h.1, of_decide_eq_true h.2⟩
/-- The same of arguments that say no less. -/
theorem Has.args {P : Program} {f : FuncId} {xs xs' : List AV} {r : AV} (H : Has P f xs' r) (h : ∀ S B β w vs, RVs S B β w xs vs → RVs S B β w xs' vs) : Has P f xs r :=
  ⟨H.b, H.ok, fun w S β vs hv => H.run w S β vs (h _ _ _ _ _ hv)⟩
theorem rvs_cons {S : Nat → Prop} {B : Nat} {β : Nat → Nat → Value} {w : World} {x x' : AV} {xs xs' : List AV} {vs : List Value} (hx : ∀ v, RV S B β w x v → RV S B β w x' v) (h : ∀ us, RVs S B β w xs us → RVs S B β w xs' us) (k : RVs S B β w (x :: xs) vs) : RVs S B β w (x' :: xs') vs := by
  match vs, k with
  | [], k => exact absurd k.1 (by simp)
  | v :: us, k =>
    have k2 := h us ⟨by simpa using k.1, fun i y u hy hu => k.2 (i + 1) y u hy hu⟩
    refine ⟨by simpa using k2.1, fun i y u hy hu => ?_⟩
    cases i with
    | zero => cases hy; cases hu; exact hx _ (k.2 0 x v rfl rfl)
    | succ i => exact k2.2 i y u hy hu
end Go.Proofs.Ytggicfmbdmjhkaa.AM
/- Rows that are gathered, all of them own: in whatever slot. -/
namespace Go.Proofs.Ytggicfmbdmjhkaa.AM
open Go Go.RowKit Go.Proofs.Ytggicfmbdmjhkaa.PN Go.Proofs.Ytggicfmbdmjhkaa.V
set_option linter.unusedVariables false
set_option linter.unusedSimpArgs false
/-- Family g of one block, named anew: it was a. -/
def s1 (g a : Nat) : Ren := fun g' r => if g' = g then (a, r) else (g', r)
theorem AllE.env {s s' : St} {σ : Ren} {U : Nat → Bool} (h : s'.env = s.env) : ∀ {l : List (Nat × AV)}, AllE s σ U l → AllE s' σ U l
  | [], _ => True.intro
  | (t, y) :: l, ⟨⟨x, h1, h2⟩, k⟩ => ⟨⟨x, by rw [h]; exact h1, h2⟩, AllE.env h k⟩
/-- k rows of m numbers, gathered in slot t: family t bears them, family g is them. -/
def famT (t g : Nat) (e : List (Nat × AV)) (l : List (Nat × Fam)) (m : Nat) (A : Nat → Nat → Rat) : Nat → St
  | 0 => stl ((t, .v (.slice none 0 0)) :: e) l
  | k + 1 => stl ((t, .own t 0) :: e) ((t, (1, fun _ => .ones WT (k + 1) (fun i => .own g i))) :: (g, (k + 1, fun r => .rats m (fun j => .q (A r j)))) :: l)
def sT (t g a b k : Nat) : Ren := fun g' r => if g' = g then (if r < k then (g, r) else (b, r - k)) else if g' = t then (a, r) else (g', r)
def farL (t g a b : Nat) : List Nat → Bool
  | [] => true
  | x :: l => !(Nat.beq x t) && (!(Nat.beq x g) && (!(Nat.beq x a) && (!(Nat.beq x b) && farL t g a b l)))
/-- Rows in whatever order, with more memory beside. -/
abbrev TH (t g n m : Nat) (π : Nat → Nat) (A : Nat → Nat → Rat) (l : List (Nat × Fam)) : List (Nat × Fam) :=
  (t, (1, fun _ => .ones WT n (fun i => .own g (π i)))) :: (g, (n, fun r => .rats m (fun j => .q (A r j)))) :: l
/-- The rows, brought into the order in which they lie. -/
def sP (g n : Nat) (π : Nat → Nat) : Ren := fun g' r => if g' = g ∧ r < n then (g, π r) else (g', r)
end Go.Proofs.Ytggicfmbdmjhkaa.AM
/- Slices that are gathered from none, in one form. -/
namespace Go.Proofs.Ytggicfmbdmjhkaa.AM
open Go Go.RowKit Go.Proofs.Ytggicfmbdmjhkaa.PN Go.Proofs.Ytggicfmbdmjhkaa.V
set_option linter.unusedVariables false
set_option linter.unusedSimpArgs false
def nilB : Blk → Prop
  | .rats n _ => n = 0
  | .ones T n _ => T ≠ U32 ∧ n = 0
  | .lims _ _ => False
def notIn (t a : Nat) : List Nat → Bool
  | [] => true
  | x :: l => !(Nat.beq x t) && (!(Nat.beq x a) && notIn t a l)
/-- A slice in slot t, its block b; more memory beside. -/
abbrev accS (t : Nat) (b : Blk) (e : List (Nat × AV)) (l : List (Nat × Fam)) : St := stl ((t, .own t 0) :: e) ((t, (1, fun _ => b)) :: l)
/-- Rows that others have, too. -/
theorem imp_matf {s : St} (t : Nat) {g n : Nat} {F : Nat → Blk} {f : Nat → AV} (m : Nat → Nat) (G : Nat → Nat → RA) (hx : s.env t = some (.own g 0)) (hg : s.heap g = some (1, F)) (hF : F 0 = .ones WT n f) (hf : ∀ i, i < n → ∃ fr, f i = .row fr (m i) (G i)) : Imp s ⟨put s.env t (some (.mat false n m G)), put s.heap g none, s.used⟩ :=
  imp_turn1 hx hg trivial fun W N β w a hs v hv hok hb S' h1 h2 => by
    rw [hF] at hb
    obtain ⟨e0, A, n', c, e⟩ := hv
    rcases hb.2 with ⟨e', rfl⟩ | ⟨k, cs, hB, hr, hat, hx⟩
    · exact ⟨none, 0, e0.trans e', Nat.le_refl _, Nat.zero_le _, fun i hi => absurd hi (Nat.not_lt_zero _)⟩
    · have hub := ub_at hat
      rcases hat with ⟨e', _⟩ | ⟨cap, e', h3, h4, _⟩
      · rw [← e0, e] at e'; cases e'
      · refine ⟨_, cap, e0.trans e', h3, h4, fun i hi => ?_⟩
        obtain ⟨y, a0, a1, a2⟩ := hx i hi
        obtain ⟨fr, hfi⟩ := hf i hi
        rw [hfi] at a2
        refine ⟨k, 0, cs, y, rfl, h2 k hub, (fun e => by cases e), hr, by rw [Nat.zero_add]; exact a0, ?_⟩
        obtain ⟨A2, c2, b1, b2, b3, b4⟩ := a2
        exact ⟨A2, c2, b1, b2, b3, fun j hj => by obtain ⟨bb, off, d1, d2, d3, d4⟩ := b4 j hj; exact ⟨bb, off, d1, h1 _ d2, (fun e => by cases e), d4⟩⟩
end Go.Proofs.Ytggicfmbdmjhkaa.AM

/- Joined texts, 12: AmP LDet LMul LSys LLev AmQ AmR. -/
import Derived.Test.YtpclkgjhfhhddaaJLawGenChecks9
import Derived.Test.YtpclkgjhfhhddaaJLawGenChecks10
import Derived.Test.YtpclkgjhfhhddaaJLawGenChecks11
set_option linter.unusedVariables false
set_option linter.unusedSimpArgs false
/- The contracts of rational numbers, in the abstract state's words. -/
namespace Go.Proofs.Ytpclkgjhfhhddaa.AM
open Go Go.RowKit Go.Proofs.Ytpclkgjhfhhddaa.PN Go.Proofs.Ytpclkgjhfhhddaa.V
set_option linter.unusedVariables false
set_option linter.unusedSimpArgs false
/-- A number, as a value. -/
abbrev AV.q (p : Rat) : AV := .ra (.q p)
/-- An integer, as a value. -/
abbrev AV.i (n : Int) : AV := .v (.int .i64 n)
abbrev AV.b (b : Bool) : AV := .v (.bool b)
theorem rvs1 {S : Nat → Prop} {B : Nat} {β : Nat → Nat → Value} {w : World} {x : AV} {vs : List Value} (h : RVs S B β w [x] vs) : ∃ v, vs = [v] ∧ RV S B β w x v := by
  match vs, h with
  | [v], h => exact ⟨v, rfl, h.2 0 x v rfl rfl⟩
  | [], h => exact absurd h.1 (by simp)
  | _ :: _ :: _, h => exact absurd h.1 (by simp)
theorem rvs2 {S : Nat → Prop} {B : Nat} {β : Nat → Nat → Value} {w : World} {x y : AV} {vs : List Value} (h : RVs S B β w [x, y] vs) : ∃ v u, vs = [v, u] ∧ RV S B β w x v ∧ RV S B β w y u := by
  match vs, h with
  | [v, u], h => exact ⟨v, u, rfl, h.2 0 x v rfl rfl, h.2 1 y u rfl rfl⟩
  | [], h => exact absurd h.1 (by simp)
  | [_], h => exact absurd h.1 (by simp)
  | _ :: _ :: _ :: _, h => exact absurd h.1 (by simp)
theorem rat_at {S : Nat → Prop} {B : Nat} {β : Nat → Nat → Value} {w : World} {p : Rat} {v : Value} (h : RV S B β w (.q p) v) : ∃ s vn vd, v = .agg #[.bool s, vn, vd] ∧ RatAt w s vn vd p := by
  obtain ⟨s, vn, vd, e, h1, h2, h3⟩ := h
  exact ⟨s, vn, vd, e, ⟨h1, h2, h3⟩⟩
theorem rat_rv {S : Nat → Prop} {B : Nat} {β : Nat → Nat → Value} {w : World} {p : Rat} {s : Bool} {vn vd : Value} (h : RatS w (fun _ => True) s vn vd p) : RV S B β w (.q p) (.agg #[.bool s, vn, vd]) := ⟨s, vn, vd, rfl, h.1, h.2.1, h.2.2⟩
theorem has_rat2 {f : FuncId} {p q r : Rat} (hB : callB Try.prog f = true) (h : ∀ w s vn vd s' vn' vd', RatAt w s vn vd p → RatAt w s' vn' vd' q → Calls Try.prog f #[.agg #[.bool s, vn, vd], .agg #[.bool s', vn', vd']] w (MadeRat w r)) : Has Try.prog f [.q p, .q q] (.q r) := by
  refine ⟨hB, trivial, fun w S β vs hv => ?_⟩
  obtain ⟨v, u, rfl, h1, h2⟩ := rvs2 hv
  obtain ⟨s, vn, vd, rfl, hp⟩ := rat_at h1
  obtain ⟨s', vn', vd', rfl, hq⟩ := rat_at h2
  refine (h w s vn vd s' vn' vd' hp hq).mono ?_
  rintro e w' ⟨s, vn, vd, rfl, h1, h2⟩
  exact ⟨_, rfl, h2, rat_rv h1⟩
theorem h_mul {p q : Rat} (hs : wt p ≤ 1000000000000) (hs' : wt q ≤ 1000000000000) : Has Try.prog 105 [.q p, .q q] (.q (p * q)) := has_rat2 (by kernel_rfl) fun w s vn vd s' vn' vd' hp hq => mul_rat hs hs'
theorem h_add {p q : Rat} (hs : wt p ≤ 1000000000000) (hs' : wt q ≤ 1000000000000) : Has Try.prog 83 [.q p, .q q] (.q (p + q)) := has_rat2 (by kernel_rfl) fun w s vn vd s' vn' vd' hp hq => add_rat hs hs'
theorem h_sub {p q : Rat} (hs : wt p ≤ 1000000000000) (hs' : wt q ≤ 1000000000000) : Has Try.prog 107 [.q p, .q q] (.q (p - q)) := has_rat2 (by kernel_rfl) fun w s vn vd s' vn' vd' hp hq => sub_rat hs hs'
theorem h_right {p : Rat} (hs : wt p ≤ 1000000000000) : Has Try.prog 79 [.q p] (.b true) := by
  refine ⟨by kernel_rfl, trivial, fun w S β vs hv => ?_⟩
  obtain ⟨v, rfl, h1⟩ := rvs1 hv
  obtain ⟨s, vn, vd, rfl, hp⟩ := rat_at h1
  refine (right_rat hs).mono ?_
  rintro e w' ⟨rfl, h2⟩
  exact ⟨_, rfl, h2, rfl⟩
theorem h_quo {p q : Rat} (hs : wt p ≤ 1000000000000) (hs' : wt q ≤ 1000000000000) (h0 : q ≠ 0) : Has Try.prog 106 [.q p, .q q] (.tup (.q (p / q)) (.i 0)) := by
  refine ⟨by kernel_rfl, ⟨trivial, trivial⟩, fun w S β vs hv => ?_⟩
  obtain ⟨v, u, rfl, h1, h2⟩ := rvs2 hv
  obtain ⟨s, vn, vd, rfl, hp⟩ := rat_at h1
  obtain ⟨s', vn', vd', rfl, hq⟩ := rat_at h2
  refine (quo_rat hs hs' h0).mono ?_
  rintro e w' ⟨s, vn, vd, rfl, h1, h2⟩
  exact ⟨_, rfl, h2, _, _, rfl, rat_rv h1, rfl⟩
theorem hs_add {p q : Rat} (hs : wt p ≤ 15000) (hs' : wt q ≤ 15000) : Has Try.prog 34 [.q p, .q q] (.q (p + q)) := has_rat2 (by kernel_rfl) fun w s vn vd s' vn' vd' hp hq => s_add hs hs'
theorem hs_int (n : Int) (h1 : -9223372036854775808 ≤ n) (h2 : n < 9223372036854775808) : Has Try.prog 25 [.i n] (.q (n : Rat)) := by
  refine ⟨by kernel_rfl, trivial, fun w S β vs hv => ?_⟩
  obtain ⟨v, rfl, h3⟩ := rvs1 hv
  have h3 : v = .int .i64 n := h3
  subst h3
  refine (s_int n w h1 h2).mono ?_
  rintro e w' ⟨s, vn, vd, rfl, h1, h2⟩
  exact ⟨_, rfl, h2, rat_rv h1⟩
theorem hs_same {p q : Rat} (hs : wt p ≤ 1000000000000) (hs' : wt q ≤ 1000000000000) : Has Try.prog 33 [.q p, .q q] (.b (decide (p = q))) := by
  refine ⟨by kernel_rfl, trivial, fun w S β vs hv => ?_⟩
  obtain ⟨v, u, rfl, h1, h2⟩ := rvs2 hv
  obtain ⟨s, vn, vd, rfl, hp⟩ := rat_at h1
  obtain ⟨s', vn', vd', rfl, hq⟩ := rat_at h2
  refine (s_same hs hs').mono ?_
  rintro e w' ⟨rfl, h2⟩
  exact ⟨_, rfl, h2, rfl⟩
end Go.Proofs.Ytpclkgjhfhhddaa.AM
/- Determinants of matrices of rational numbers, by the first column; what row steps do to them. -/
namespace Go.Proofs.Ytpclkgjhfhhddaa.LA
abbrev Mt := Nat → Nat → Rat
def S : Nat → (Nat → Rat) → Rat
  | 0, _ => 0
  | n + 1, f => S n f + f n
theorem S_zero (f : Nat → Rat) : S 0 f = 0 := rfl
theorem S_succ (n : Nat) (f : Nat → Rat) : S (n + 1) f = S n f + f n := rfl
theorem S_congr {n : Nat} {f g : Nat → Rat} (h : ∀ i, i < n → f i = g i) : S n f = S n g := by
  induction n with
  | zero => rfl
  | succ n ih => rw [S_succ, S_succ, ih (fun i hi => h i (by omega)), h n (by omega)]
theorem S_nought (n : Nat) : S n (fun _ => 0) = 0 := by
  induction n with
  | zero => rfl
  | succ n ih => rw [S_succ, ih]; grind
theorem S_null {n : Nat} {f : Nat → Rat} (h : ∀ i, i < n → f i = 0) : S n f = 0 := by rw [S_congr (g := fun _ => 0) h, S_nought]
theorem S_add (n : Nat) (f g : Nat → Rat) : S n (fun i => f i + g i) = S n f + S n g := by
  induction n with
  | zero => simp only [S_zero]; grind
  | succ n ih => simp only [S_succ, ih]; grind
theorem S_mul (n : Nat) (c : Rat) (f : Nat → Rat) : S n (fun i => c * f i) = c * S n f := by
  induction n with
  | zero => simp only [S_zero]; grind
  | succ n ih => simp only [S_succ, ih]; grind
theorem S_mulr (n : Nat) (c : Rat) (f : Nat → Rat) : S n (fun i => f i * c) = S n f * c := by
  induction n with
  | zero => simp only [S_zero]; grind
  | succ n ih => simp only [S_succ, ih]; grind
theorem S_swap (n m : Nat) (f : Nat → Nat → Rat) : S n (fun i => S m (fun j => f i j)) = S m (fun j => S n (fun i => f i j)) := by
  induction n with
  | zero => simp only [S_zero]; rw [S_nought]
  | succ n ih => simp only [S_succ, ih]; rw [S_add]
theorem S_append (m n : Nat) (f : Nat → Rat) : S (m + n) f = S m f + S n (fun i => f (m + i)) := by
  induction n with
  | zero => simp only [S_zero, Nat.add_zero]; grind
  | succ n ih => rw [← Nat.add_assoc, S_succ, S_succ, ih]; grind
theorem S_first (n : Nat) (f : Nat → Rat) : S (n + 1) f = f 0 + S n (fun i => f (i + 1)) := by
  rw [Nat.add_comm n 1, S_append]
  rw [S_congr (n := n) (f := fun i => f (1 + i)) (g := fun i => f (i + 1)) (fun i _ => by rw [Nat.add_comm])]
  simp only [S_succ, S_zero]; grind
theorem S_single {n k : Nat} (hk : k < n) {f : Nat → Rat} (h : ∀ i, i < n → i ≠ k → f i = 0) : S n f = f k := by
  induction n with
  | zero => omega
  | succ n ih =>
    rw [S_succ]
    by_cases e : k = n
    · subst e
      rw [S_null (fun i hi => h i (by omega) (by omega))]; grind
    · rw [ih (by omega) (fun i hi hne => h i (by omega) hne), h n (by omega) (by omega)]; grind
theorem S_pair {n k l : Nat} (hkl : k < l) (hl : l < n) {f : Nat → Rat} (h : ∀ i, i < n → i ≠ k → i ≠ l → f i = 0) : S n f = f k + f l := by
  obtain ⟨d, rfl⟩ : ∃ d, n = l + d := ⟨n - l, by omega⟩
  rw [S_append, S_single hkl (fun i hi hne => h i (by omega) hne (by omega)), S_single (k := 0) (by omega) (fun i hi hne => h (l + i) (by omega) (by omega) (by omega))]
  rfl
def sg (i : Nat) : Rat := if i % 2 = 0 then 1 else -1
theorem sg_succ (i : Nat) : sg (i + 1) = - sg i := by
  unfold sg
  by_cases e : i % 2 = 0
  · rw [if_pos e, if_neg (by omega)]
  · rw [if_neg e, if_pos (by omega)]; rfl
def skip (i r : Nat) : Nat := if r < i then r else r + 1
def del (i : Nat) (A : Mt) : Mt := fun r c => A (skip i r) (c + 1)
def det : Nat → Mt → Rat
  | 0, _ => 1
  | n + 1, A => S (n + 1) (fun i => sg i * A i 0 * det n (del i A))
def upd (A : Mt) (a : Nat) (v : Nat → Rat) : Mt := fun i j => if i = a then v j else A i j
theorem upd_at (A : Mt) (a : Nat) (v : Nat → Rat) (j : Nat) : upd A a v a j = v j := by unfold upd; rw [if_pos rfl]
theorem upd_ne (A : Mt) {a i : Nat} (v : Nat → Rat) (j : Nat) (h : i ≠ a) : upd A a v i j = A i j := by unfold upd; rw [if_neg h]
theorem det_congr {n : Nat} : ∀ {A B : Mt}, (∀ i j, i < n → j < n → A i j = B i j) → det n A = det n B := by
  induction n with
  | zero => intro A B _; rfl
  | succ n ih =>
    intro A B h
    unfold det
    refine S_congr fun i hi => ?_
    rw [h i 0 hi (by omega), ih (A := del i A) (B := del i B)]
    intro r c hr hc
    unfold del skip
    split <;> exact h _ _ (by omega) (by omega)
theorem del_upd_ne (A : Mt) (a : Nat) (v : Nat → Rat) {i : Nat} (h : i ≠ a) : del i (upd A a v) = upd (del i A) (if a < i then a else a - 1) (fun j => v (j + 1)) := by
  funext r c
  show (if skip i r = a then v (c + 1) else A (skip i r) (c + 1)) = (if r = (if a < i then a else a - 1) then v (c + 1) else A (skip i r) (c + 1))
  have : (skip i r = a) ↔ (r = (if a < i then a else a - 1)) := by unfold skip; split <;> split <;> omega
  simp only [this]
theorem del_upd_at (A : Mt) (a : Nat) (v : Nat → Rat) : del a (upd A a v) = del a A := by
  funext r c
  unfold del upd skip
  by_cases h2 : r < a
  · rw [if_pos h2, if_neg (by omega)]
  · rw [if_neg h2, if_neg (by omega)]
theorem det_lin (n : Nat) : ∀ (A : Mt) (a : Nat), a < n → ∀ (f g : Rat) (u v : Nat → Rat), det n (upd A a (fun j => f * u j + g * v j)) = f * det n (upd A a u) + g * det n (upd A a v) := by
  induction n with
  | zero => intro A a h; omega
  | succ n ih =>
    intro A a ha f g u v
    unfold det
    rw [← S_mul, ← S_mul, ← S_add]
    refine S_congr fun i hi => ?_
    by_cases e : i = a
    · subst e
      rw [del_upd_at, del_upd_at, del_upd_at, upd_at, upd_at, upd_at]; grind
    · rw [del_upd_ne A a _ e, del_upd_ne A a _ e, del_upd_ne A a _ e, upd_ne A _ _ e, upd_ne A _ _ e, upd_ne A _ _ e]
      have ha' : (if a < i then a else a - 1) < n := by split <;> omega
      rw [ih (del i A) _ ha' f g (fun j => u (j + 1)) (fun j => v (j + 1))]; grind
theorem det_adj (n : Nat) : ∀ (A : Mt) (a : Nat), a + 1 < n → (∀ j, j < n → A a j = A (a + 1) j) → det n A = 0 := by
  induction n with
  | zero => intro A a h; omega
  | succ n ih =>
    intro A a ha heq
    unfold det
    rw [S_pair (k := a) (l := a + 1) (by omega) ha]
    · have hd : det n (del a A) = det n (del (a + 1) A) := by
        refine det_congr fun r c hr hc => ?_
        unfold del skip
        by_cases h1 : r < a
        · rw [if_pos h1, if_pos (by omega)]
        · rw [if_neg h1]
          by_cases h2 : r = a
          · subst h2; rw [if_pos (by omega)]; exact (heq (c + 1) (by omega)).symm
          · rw [if_neg (by omega)]
      rw [sg_succ, hd, heq 0 (by omega)]; grind
    · intro i hi h1 h2
      have : det n (del i A) = 0 := by
        by_cases h3 : i < a
        · refine ih (del i A) (a - 1) (by omega) fun j hj => ?_
          unfold del skip
          rw [if_neg (by omega), if_neg (by omega), show a - 1 + 1 = a from by omega]
          exact heq (j + 1) (by omega)
        · refine ih (del i A) a (by omega) fun j hj => ?_
          unfold del skip
          rw [if_pos (by omega), if_pos (by omega)]
          exact heq (j + 1) (by omega)
      rw [this]; grind
theorem upd_self (A : Mt) (a : Nat) : upd A a (A a) = A := by
  funext i j; unfold upd; split
  · next h => rw [h]
  · rfl
theorem det_upd_add {n : Nat} (A : Mt) {a : Nat} (ha : a < n) (u v : Nat → Rat) : det n (upd A a (fun j => u j + v j)) = det n (upd A a u) + det n (upd A a v) := by
  have h := det_lin n A a ha 1 1 u v
  rw [det_congr (B := upd A a (fun j => 1 * u j + 1 * v j)) (fun i j _ _ => by unfold upd; split <;> grind), h]; grind
theorem det_upd_mul {n : Nat} (A : Mt) {a : Nat} (ha : a < n) (f : Rat) (u : Nat → Rat) : det n (upd A a (fun j => f * u j)) = f * det n (upd A a u) := by
  have h := det_lin n A a ha f 0 u u
  rw [det_congr (B := upd A a (fun j => f * u j + 0 * u j)) (fun i j _ _ => by unfold upd; split <;> grind), h]; grind
def swp (A : Mt) (a b : Nat) : Mt := fun i j => if i = a then A b j else if i = b then A a j else A i j
theorem det_swp_adj {n : Nat} (A : Mt) {a : Nat} (ha : a + 1 < n) : det n (swp A a (a + 1)) = - det n A := by
  have two : ∀ u v : Nat → Rat, det n (upd (upd A a u) (a + 1) v) = - det n (upd (upd A a v) (a + 1) u) := by
    intro u v
    have e : ∀ w : Nat → Rat, det n (upd (upd A a w) (a + 1) w) = 0 := fun w => by
      refine det_adj n _ a ha fun j _ => ?_
      rw [upd_at, upd_ne _ _ _ (by omega), upd_at]
    have c : ∀ p q r : Nat → Rat, det n (upd (upd A a (fun j => p j + q j)) (a + 1) r) = det n (upd (upd A a p) (a + 1) r) + det n (upd (upd A a q) (a + 1) r) := by
      intro p q r
      have cm : ∀ p : Nat → Rat, upd (upd A a p) (a + 1) r = upd (upd A (a + 1) r) a p := fun p => by
        funext i j; unfold upd
        by_cases h1 : i = a
        · rw [if_neg (by omega), if_pos h1, if_pos h1]
        · rw [if_neg h1, if_neg h1]
      rw [cm, cm, cm]; exact det_upd_add _ (by omega) p q
    have h := e (fun j => u j + v j)
    rw [c, det_upd_add _ ha, det_upd_add _ ha, e u, e v] at h
    grind
  have h1 : swp A a (a + 1) = upd (upd A a (A (a + 1))) (a + 1) (A a) := by
    funext i j; unfold swp upd
    by_cases h : i = a
    · rw [if_pos h, if_neg (by omega), if_pos h]
    · rw [if_neg h, if_neg h]
  have h2 : upd (upd A a (A a)) (a + 1) (A (a + 1)) = A := by rw [upd_self, upd_self]
  rw [h1, two, h2]
theorem det_eq_rows {n : Nat} : ∀ (d : Nat) (A : Mt) (a : Nat), a + d + 1 < n → (∀ j, j < n → A a j = A (a + d + 1) j) → det n A = 0 := by
  intro d
  induction d with
  | zero => intro A a h he; exact det_adj n A a h he
  | succ d ih =>
    intro A a h he
    have hs := det_swp_adj A (a := a + d + 1) (n := n) (by omega)
    have h0 := ih (swp A (a + d + 1) (a + d + 1 + 1)) a (by omega) (fun j hj => by
      have hj2 := he j hj
      unfold swp
      rw [if_neg (by omega), if_neg (by omega), if_pos rfl, hj2]; rfl)
    rw [h0] at hs; grind
theorem det_same {n : Nat} (A : Mt) {a b : Nat} (ha : a < n) (hb : b < n) (hab : a ≠ b) (he : ∀ j, j < n → A a j = A b j) : det n A = 0 := by
  rcases Nat.lt_or_gt_of_ne hab with h | h
  · exact det_eq_rows (b - a - 1) A a (by omega) (fun j hj => by rw [show a + (b - a - 1) + 1 = b from by omega]; exact he j hj)
  · exact det_eq_rows (a - b - 1) A b (by omega) (fun j hj => by rw [show b + (a - b - 1) + 1 = a from by omega]; exact (he j hj).symm)
/-- A row's multiple added to another one. -/
def addr (A : Mt) (a b : Nat) (f : Rat) : Mt := upd A a (fun j => A a j + f * A b j)
/-- A row, times a number. -/
def scl (A : Mt) (a : Nat) (f : Rat) : Mt := upd A a (fun j => f * A a j)
theorem det_addr {n : Nat} (A : Mt) {a b : Nat} (ha : a < n) (hb : b < n) (hab : a ≠ b) (f : Rat) : det n (addr A a b f) = det n A := by
  unfold addr
  rw [det_upd_add A ha, det_upd_mul A ha, upd_self, det_same (upd A a (A b)) ha hb hab (fun j _ => by rw [upd_at, upd_ne _ _ _ (Ne.symm hab)])]; grind
theorem det_scl {n : Nat} (A : Mt) {a : Nat} (ha : a < n) (f : Rat) : det n (scl A a f) = f * det n A := by
  unfold scl; rw [det_upd_mul A ha, upd_self]
theorem det_zero_row {n : Nat} (A : Mt) {a : Nat} (ha : a < n) (h : ∀ j, j < n → A a j = 0) : det n A = 0 := by
  have := det_scl A ha 0
  rw [det_congr (B := A) (fun i j _ hj => by
    unfold scl upd
    by_cases e : i = a
    · subst e; rw [if_pos rfl, h j hj]; grind
    · rw [if_neg e])] at this
  rw [this]; grind
def one : Mt := fun i j => if i = j then 1 else 0
theorem det_one (n : Nat) : det n one = 1 := by
  induction n with
  | zero => rfl
  | succ n ih =>
    unfold det
    rw [S_single (k := 0) (by omega) (fun i hi hne => by unfold one; rw [if_neg hne]; grind)]
    have : det n (del 0 one) = det n one := det_congr fun i j _ _ => by
      have hs : skip 0 i = i + 1 := by unfold skip; rw [if_neg (by omega)]
      show (if skip 0 i = j + 1 then (1 : Rat) else 0) = (if i = j then 1 else 0)
      rw [hs]
      by_cases e : i = j
      · rw [if_pos e, if_pos (by omega)]
      · rw [if_neg e, if_neg (by omega)]
    rw [this, ih]
    have e1 : sg 0 = 1 := rfl
    have e2 : one 0 0 = 1 := rfl
    rw [e1, e2]; grind
end Go.Proofs.Ytpclkgjhfhhddaa.LA
/- Determinants of products, of turned matrices; systems; ranks. -/
namespace Go.Proofs.Ytpclkgjhfhhddaa.LA
def Eqn (n : Nat) (A B : Mt) : Prop := ∀ i j, i < n → j < n → A i j = B i j
/-- What holds of ones from corner to corner and of each matrix with a row of noughts, and goes back over row steps, holds of each. -/
theorem by_rows {n : Nat} {P : Mt → Prop} (h0 : ∀ A B, Eqn n A B → P A → P B) (h1 : P one) (h2 : ∀ A a, a < n → (∀ j, j < n → A a j = 0) → P A)
    (h3 : ∀ A a b f, a < n → b < n → a ≠ b → P (addr A a b f) → P A) (h4 : ∀ A a f, a < n → f ≠ 0 → P (scl A a f) → P A) : ∀ A, P A := by
  have hs : ∀ A a b, a < n → b < n → a ≠ b → P (swp A a b) → P A := by
    intro A a b ha hb hab h
    refine h3 A a b 1 ha hb hab (h3 _ b a (-1) hb ha (Ne.symm hab) (h3 _ a b 1 ha hb hab (h4 _ b (-1) hb (by decide) (h0 _ _ ?_ h))))
    intro i j _ _
    unfold swp scl addr upd
    by_cases e1 : i = a
    · subst e1; simp only [if_pos, if_neg hab, if_neg (Ne.symm hab)]; grind
    · by_cases e2 : i = b
      · subst e2; simp only [if_pos, if_neg hab, if_neg (Ne.symm hab)]; grind
      · simp only [if_neg e1, if_neg e2]
  -- a row that makes others nought in a column
  have clean : ∀ (c r : Nat), r < n → ∀ (k : Nat), k ≤ n → ∀ (A : Mt) (lo : Nat), A r c ≠ 0 →
      (∀ B : Mt, (∀ i j, (i < lo ∨ i = r) → B i j = A i j) → (∀ i, lo ≤ i → i < k → i ≠ r → B i c = 0) → (∀ i, k ≤ i → ∀ j, B i j = A i j) → (∀ i j, A r j = 0 → B i j = A i j) → P B) → P A := by
    intro c r hr k
    induction k with
    | zero => intro _ A lo hA H; exact H A (fun _ _ _ => rfl) (fun i _ h _ => by omega) (fun _ _ _ => rfl) (fun _ _ _ => rfl)
    | succ k ih =>
      intro hk A lo hA H
      refine ih (by omega) A lo hA fun B hB1 hB2 hB3 hB4 => ?_
      by_cases e : k < lo ∨ k = r
      · exact H B hB1 (fun i hi1 hi2 hne => hB2 i hi1 (by omega) hne) (fun i hi j => hB3 i (by omega) j) hB4
      · have hBr : ∀ j, B r j = A r j := fun j => hB1 r j (.inr rfl)
        have hAr : B r c ≠ 0 := by rw [hBr]; exact hA
        have hkr : k ≠ r := fun h => e (.inr h)
        refine h3 B k r (-(B k c / B r c)) (by omega) hr hkr (H _ ?_ ?_ ?_ ?_)
        · intro i j hi
          unfold addr
          rw [upd_ne _ _ _ (by omega)]
          exact hB1 i j hi
        · intro i hi1 hi2 hne
          unfold addr
          by_cases ek : i = k
          · subst ek
            rw [upd_at]
            have : B i c / B r c * B r c = B i c := Rat.div_mul_cancel hAr
            grind
          · rw [upd_ne _ _ _ ek]; exact hB2 i hi1 (by omega) hne
        · intro i hi j
          unfold addr
          rw [upd_ne _ _ _ (by omega)]; exact hB3 i (by omega) j
        · intro i j hj
          unfold addr
          by_cases ek : i = k
          · subst ek
            rw [upd_at, hBr j, hj, hB4 i j hj]; grind
          · rw [upd_ne _ _ _ ek]; exact hB4 i j hj
  -- fewer rows than columns before: a row of noughts comes
  have Z : ∀ (d j r : Nat), j + d = n → r < j → ∀ A : Mt, (∀ i, r ≤ i → i < n → ∀ q, q < j → A i q = 0) → P A := by
    intro d
    induction d with
    | zero => intro j r hj hr A hA; exact h2 A r (by omega) (fun q hq => hA r (Nat.le_refl _) (by omega) q (by omega))
    | succ d ih =>
      intro j r hj hr A hA
      by_cases hex : ∃ i, r ≤ i ∧ i < n ∧ A i j ≠ 0
      · obtain ⟨i, hi1, hi2, hi3⟩ := hex
        have go : ∀ B : Mt, B r j ≠ 0 → (∀ i, r ≤ i → i < n → ∀ q, q < j → B i q = 0) → P B := by
          intro B hB1 hB2
          refine clean j r (by omega) n (Nat.le_refl _) B (r + 1) hB1 fun C hC1 hC2 _ hC4 => ?_
          refine ih (j + 1) (r + 1) (by omega) (by omega) C fun i hi1 hi2 q hq => ?_
          by_cases eq : q = j
          · subst eq; exact hC2 i hi1 hi2 (by omega)
          · rw [hC4 i q (hB2 r (Nat.le_refl _) (by omega) q (by omega))]; exact hB2 i (by omega) hi2 q (by omega)
        by_cases er : i = r
        · subst er; exact go A hi3 hA
        · refine hs A r i (by omega) hi2 (Ne.symm er) (go _ ?_ ?_)
          · unfold swp; rw [if_pos rfl]; exact hi3
          · intro p hp1 hp2 q hq
            unfold swp
            split
            · exact hA i hi1 hi2 q hq
            · split
              · exact hA r (Nat.le_refl _) (by omega) q hq
              · exact hA p hp1 hp2 q hq
      · refine ih (j + 1) r (by omega) (by omega) A fun i hi1 hi2 q hq => ?_
        by_cases eq : q = j
        · subst eq
          apply Classical.byContradiction
          intro hne; exact hex ⟨i, hi1, hi2, hne⟩
        · exact hA i hi1 hi2 q (by omega)
  -- the first c columns are those of one
  have Q : ∀ (d c : Nat), c + d = n → ∀ A : Mt, (∀ i j, i < n → j < c → A i j = one i j) → P A := by
    intro d
    induction d with
    | zero => intro c hc A hA; exact h0 one A (fun i j hi hj => (hA i j hi (by omega)).symm) h1
    | succ d ih =>
      intro c hc A hA
      by_cases hex : ∃ i, c ≤ i ∧ i < n ∧ A i c ≠ 0
      · obtain ⟨i, hi1, hi2, hi3⟩ := hex
        have go2 : ∀ B : Mt, B c c = 1 → (∀ i j, i < n → j < c → B i j = one i j) → P B := by
          intro B hB1 hB2
          refine clean c c (by omega) n (Nat.le_refl _) B 0 (by rw [hB1]; decide) fun C hC1 hC2 _ hC4 => ?_
          refine ih (c + 1) (by omega) C fun i j hi hj => ?_
          by_cases ej : j = c
          · subst ej
            by_cases ei : i = j
            · subst ei; rw [hC1 i i (.inr rfl), hB1]; unfold one; rw [if_pos rfl]
            · rw [hC2 i (by omega) hi ei]; unfold one; rw [if_neg ei]
          · have hz : B c j = 0 := by rw [hB2 c j (by omega) (by omega)]; unfold one; rw [if_neg (by omega)]
            rw [hC4 i j hz]; exact hB2 i j hi (by omega)
        have go : ∀ B : Mt, B c c ≠ 0 → (∀ i j, i < n → j < c → B i j = one i j) → P B := by
          intro B hB1 hB2
          refine h4 B c (1 / B c c) (by omega) ?_ (go2 _ ?_ ?_)
          · intro h
            have : 1 / B c c * B c c = 1 := Rat.div_mul_cancel hB1
            rw [h] at this; grind
          · unfold scl; rw [upd_at]; exact Rat.div_mul_cancel hB1
          · intro i j hi hj
            unfold scl
            by_cases ei : i = c
            · subst ei; rw [upd_at, hB2 i j hi hj]; unfold one; rw [if_neg (by omega)]; grind
            · rw [upd_ne _ _ _ ei]; exact hB2 i j hi hj
        by_cases er : i = c
        · subst er; exact go A hi3 hA
        · refine hs A c i (by omega) hi2 (Ne.symm er) (go _ ?_ ?_)
          · unfold swp; rw [if_pos rfl]; exact hi3
          · intro p q hp hq
            unfold swp
            split
            · next e => rw [hA i q hi2 hq]; unfold one; rw [if_neg (by omega), if_neg (by omega)]
            · split
              · next e => rw [hA c q (by omega) hq]; unfold one; rw [if_neg (by omega), if_neg (by omega)]
              · exact hA p q hp hq
      · refine Z d (c + 1) c (by omega) (by omega) A fun i hi1 hi2 q hq => ?_
        by_cases eq : q = c
        · subst eq
          apply Classical.byContradiction
          intro hne; exact hex ⟨i, hi1, hi2, hne⟩
        · rw [hA i q hi2 (by omega)]; unfold one; rw [if_neg (by omega)]
  intro A
  exact Q n 0 (by omega) A (fun i j _ hj => by omega)
def mul (n : Nat) (A B : Mt) : Mt := fun i j => S n (fun k => A i k * B k j)
def tr (A : Mt) : Mt := fun i j => A j i
theorem det_mul (n : Nat) (A B : Mt) : det n (mul n A B) = det n A * det n B := by
  refine by_rows (n := n) (P := fun A => det n (mul n A B) = det n A * det n B) ?_ ?_ ?_ ?_ ?_ A
  · intro A C h hA
    rw [← det_congr h, ← hA]
    refine det_congr fun i j hi hj => ?_
    unfold mul; exact S_congr fun k hk => by rw [h i k hi hk]
  · rw [det_one]
    have : det n (mul n one B) = det n B := det_congr fun i j hi hj => by
      unfold mul
      rw [S_single hi (fun k _ hne => by unfold one; rw [if_neg (Ne.symm hne)]; grind)]
      unfold one; rw [if_pos rfl]; grind
    rw [this]; grind
  · intro A a ha h
    rw [det_zero_row A ha h, det_zero_row _ ha (fun j _ => by unfold mul; exact S_null fun k hk => by rw [h k hk]; grind)]; grind
  · intro A a b f ha hb hab h
    rw [det_addr A ha hb hab] at h
    rw [← h, ← det_addr (mul n A B) ha hb hab f]
    refine det_congr fun i j hi hj => ?_
    unfold mul addr upd
    by_cases e : i = a
    · simp only [if_pos e]
      rw [← S_mul, ← S_add]; exact S_congr fun k _ => by grind
    · simp only [if_neg e]
  · intro A a f ha hf h
    rw [det_scl A ha] at h
    have h2 : det n (mul n (scl A a f) B) = f * det n (mul n A B) := by
      rw [← det_scl (mul n A B) ha f]
      refine det_congr fun i j hi hj => ?_
      unfold mul scl upd
      by_cases e : i = a
      · simp only [if_pos e]
        rw [← S_mul]; exact S_congr fun k _ => by grind
      · simp only [if_neg e]
    rw [h2] at h
    have hc : ∀ x y : Rat, f * x = f * y → x = y := fun x y hxy => by
      have : f * (x - y) = 0 := by grind
      rcases Rat.mul_eq_zero.mp this with h1 | h1
      · exact absurd h1 hf
      · grind
    exact hc _ _ (by rw [h]; grind)
theorem det_tr (n : Nat) (A : Mt) : det n (tr A) = det n A := by
  -- a row step is a product
  have ad : ∀ (A : Mt) (a b : Nat) (f : Rat), a < n → b < n → Eqn n (addr A a b f) (mul n (addr one a b f) A) := by
    intro A a b f ha hb i j hi hj
    unfold mul addr
    by_cases e : i = a
    · subst e
      rw [upd_at, S_congr (g := fun k => one i k * A k j + f * (one b k * A k j)) (fun k _ => by rw [upd_at]; grind), S_add, S_mul]
      rw [S_single hi (fun k _ hne => by unfold one; rw [if_neg (Ne.symm hne)]; grind), S_single hb (fun k _ hne => by unfold one; rw [if_neg (Ne.symm hne)]; grind)]
      unfold one; rw [if_pos rfl, if_pos rfl]; grind
    · rw [upd_ne _ _ _ e, S_single hi (fun k _ hne => by rw [upd_ne _ _ _ e]; unfold one; rw [if_neg (Ne.symm hne)]; grind), upd_ne _ _ _ e]
      unfold one; rw [if_pos rfl]; grind
  have sc : ∀ (A : Mt) (a : Nat) (f : Rat), a < n → Eqn n (scl A a f) (mul n (scl one a f) A) := by
    intro A a f ha i j hi hj
    unfold mul scl
    by_cases e : i = a
    · subst e
      rw [upd_at, S_single hi (fun k _ hne => by rw [upd_at]; unfold one; rw [if_neg (Ne.symm hne)]; grind), upd_at]
      unfold one; rw [if_pos rfl]; grind
    · rw [upd_ne _ _ _ e, S_single hi (fun k _ hne => by rw [upd_ne _ _ _ e]; unfold one; rw [if_neg (Ne.symm hne)]; grind), upd_ne _ _ _ e]
      unfold one; rw [if_pos rfl]; grind
  have trm : ∀ A B : Mt, det n (tr (mul n A B)) = det n (tr A) * det n (tr B) := by
    intro A B
    rw [show det n (tr A) * det n (tr B) = det n (tr B) * det n (tr A) from by grind, ← det_mul]
    refine det_congr fun i j _ _ => ?_
    unfold tr mul; exact S_congr fun k _ => by grind
  refine by_rows (n := n) (P := fun A => det n (tr A) = det n A) ?_ ?_ ?_ ?_ ?_ A
  · intro A C h hA
    rw [← det_congr h, ← hA]
    exact det_congr fun i j hi hj => (h j i hj hi).symm
  · refine det_congr fun i j _ _ => ?_
    unfold tr one
    by_cases e : i = j
    · rw [if_pos e, if_pos e.symm]
    · rw [if_neg e, if_neg (Ne.symm e)]
  · intro A a ha h
    rw [det_zero_row A ha h]
    -- a column of noughts: a product with a matrix that has a row of noughts
    have e : det n (tr A) = det n (mul n (tr A) (scl one a 0)) := det_congr fun i j hi hj => by
      unfold mul
      by_cases ej : j = a
      · subst ej
        rw [S_null]
        · unfold tr; exact h i hi
        · intro k hk
          unfold scl
          by_cases ek : k = j
          · subst ek; rw [upd_at]; grind
          · rw [upd_ne _ _ _ ek]; unfold one; rw [if_neg ek]; grind
      · rw [S_single hj (fun k _ hne => by
          unfold scl
          by_cases ek : k = a
          · subst ek; rw [upd_at]; grind
          · rw [upd_ne _ _ _ ek]; unfold one; rw [if_neg hne]; grind)]
        unfold scl; rw [upd_ne _ _ _ ej]; unfold one; rw [if_pos rfl]; grind
    rw [e, det_mul, det_scl _ ha]; grind
  · intro A a b f ha hb hab h
    rw [det_addr A ha hb hab] at h
    have e1 : det n (tr (addr A a b f)) = det n (tr (mul n (addr one a b f) A)) := det_congr fun i j hi hj => ad A a b f ha hb j i hj hi
    have e2 : det n (tr (addr one a b f)) = 1 := by
      have : Eqn n (tr (addr one a b f)) (addr one b a f) := by
        intro i j hi hj
        unfold tr addr upd one
        by_cases e1 : j = a
        · by_cases e2 : i = b
          · subst e1 e2; simp only [if_pos, if_neg hab, if_neg (Ne.symm hab)]
          · simp only [if_pos e1, if_neg e2, if_neg (Ne.symm e2)]; subst e1
            by_cases e3 : i = j
            · simp only [if_pos e3, if_pos e3.symm]; grind
            · simp only [if_neg e3, if_neg (Ne.symm e3)]; grind
        · simp only [if_neg e1, if_neg (Ne.symm e1)]
          by_cases e2 : i = b
          · simp only [if_pos e2]; subst e2
            by_cases e3 : j = i
            · simp only [if_pos e3, if_pos e3.symm]; grind
            · simp only [if_neg e3, if_neg (Ne.symm e3)]; grind
          · simp only [if_neg e2]
            by_cases e3 : j = i
            · simp only [if_pos e3, if_pos e3.symm]
            · simp only [if_neg e3, if_neg (Ne.symm e3)]
      rw [det_congr this, det_addr _ hb ha (Ne.symm hab), det_one]
    rw [e1, trm, e2] at h
    rw [← h]; grind
  · intro A a f ha hf h
    rw [det_scl A ha] at h
    have e1 : det n (tr (scl A a f)) = det n (tr (mul n (scl one a f) A)) := det_congr fun i j hi hj => sc A a f ha j i hj hi
    have e2 : det n (tr (scl one a f)) = f := by
      have : Eqn n (tr (scl one a f)) (scl one a f) := by
        intro i j hi hj
        unfold tr scl upd one
        by_cases e3 : i = j
        · subst e3; rfl
        · by_cases e1 : j = a
          · simp only [if_pos e1, if_neg e3, if_neg (show ¬ i = a from by omega), if_neg (show ¬ a = i from by omega)]; grind
          · by_cases e2 : i = a
            · simp only [if_neg e1, if_pos e2, if_neg (show ¬ j = i from by omega), if_neg (show ¬ a = j from by omega)]; grind
            · simp only [if_neg e1, if_neg e2, if_neg e3, if_neg (Ne.symm e3)]
      rw [det_congr this, det_scl _ ha, det_one]; grind
    rw [e1, trm, e2] at h
    have : f * (det n (tr A) - det n A) = 0 := by grind
    rcases Rat.mul_eq_zero.mp this with h1 | h1
    · exact absurd h1 hf
    · grind
end Go.Proofs.Ytpclkgjhfhhddaa.LA
/- Systems, inverses, ranks. -/
namespace Go.Proofs.Ytpclkgjhfhhddaa.LA
def app (n : Nat) (A : Mt) (x : Nat → Rat) (i : Nat) : Rat := S n (fun j => A i j * x j)
def cupd (A : Mt) (c : Nat) (v : Nat → Rat) : Mt := fun i j => if j = c then v i else A i j
theorem cupd_at (A : Mt) (c : Nat) (v : Nat → Rat) (i : Nat) : cupd A c v i c = v i := by unfold cupd; rw [if_pos rfl]
theorem cupd_ne (A : Mt) {c j : Nat} (v : Nat → Rat) (i : Nat) (h : j ≠ c) : cupd A c v i j = A i j := by unfold cupd; rw [if_neg h]
theorem app_add (n : Nat) (A : Mt) (x y : Nat → Rat) (i : Nat) : app n A (fun j => x j + y j) i = app n A x i + app n A y i := by
  unfold app; rw [← S_add]; exact S_congr fun j _ => by grind
theorem app_mul (n : Nat) (A : Mt) (f : Rat) (x : Nat → Rat) (i : Nat) : app n A (fun j => f * x j) i = f * app n A x i := by
  unfold app; rw [← S_mul]; exact S_congr fun j _ => by grind
theorem app_sub (n : Nat) (A : Mt) (x y : Nat → Rat) (i : Nat) : app n A (fun j => x j - y j) i = app n A x i - app n A y i := by
  have h := app_add n A (fun j => x j - y j) y i
  rw [show (fun j => x j - y j + y j) = x from by funext j; grind] at h
  rw [h]; grind
theorem mul_assoc (n : Nat) (A B C : Mt) (i j : Nat) : mul n (mul n A B) C i j = mul n A (mul n B C) i j := by
  unfold mul
  rw [S_congr (g := fun k => S n (fun l => A i l * (B l k * C k j))) (fun k _ => by rw [← S_mulr]; exact S_congr fun l _ => by grind), S_swap]
  exact S_congr fun k _ => by rw [S_mul]
theorem mul_one (n : Nat) (A : Mt) : Eqn n (mul n A one) A := by
  intro i j hi hj; unfold mul
  rw [S_single hj (fun k _ hne => by unfold one; rw [if_neg hne]; grind)]
  unfold one; rw [if_pos rfl]; grind
theorem one_mul (n : Nat) (A : Mt) : Eqn n (mul n one A) A := by
  intro i j hi hj; unfold mul
  rw [S_single hi (fun k _ hne => by unfold one; rw [if_neg (Ne.symm hne)]; grind)]
  unfold one; rw [if_pos rfl]; grind
/-- Ones from corner to corner, but for a column. -/
theorem det_col (n : Nat) (c : Nat) (hc : c < n) (x : Nat → Rat) : det n (cupd one c x) = x c := by
  rw [← det_tr]
  have e : Eqn n (tr (cupd one c x)) (upd one c x) := by
    intro i j _ _
    unfold tr cupd upd one
    by_cases e : i = c
    · rw [if_pos e, if_pos e]
    · rw [if_neg e, if_neg e]
      by_cases e2 : i = j
      · rw [if_pos e2, if_pos e2.symm]
      · rw [if_neg e2, if_neg (Ne.symm e2)]
  rw [det_congr e]
  -- row c is the sum of x j times row j of one
  have hrow : ∀ m, m ≤ n → det n (upd one c (fun j => S m (fun k => x k * one k j))) = if c < m then x c else 0 := by
    intro m
    induction m with
    | zero => intro _; rw [if_neg (by omega)]; exact det_zero_row _ hc (fun j _ => by rw [upd_at]; rfl)
    | succ m ih =>
      intro hm
      have es : upd one c (fun j => S (m + 1) (fun k => x k * one k j)) = upd one c (fun j => S m (fun k => x k * one k j) + x m * one m j) := rfl
      rw [es, det_upd_add _ hc, ih (by omega), det_upd_mul _ hc]
      by_cases e : m = c
      · subst e
        rw [upd_self, det_one, if_neg (by omega), if_pos (by omega)]; grind
      · rw [det_same (upd one c (one m)) hc (show m < n from by omega) (Ne.symm e) (fun j _ => by rw [upd_at, upd_ne _ _ _ e])]
        by_cases e2 : c < m
        · rw [if_pos e2, if_pos (by omega)]; grind
        · rw [if_neg e2, if_neg (by omega)]; grind
  have h := hrow n (Nat.le_refl _)
  rw [if_pos hc] at h
  rw [← h]
  refine det_congr fun i j hi hj => ?_
  by_cases e : i = c
  · subst e
    rw [upd_at, upd_at, S_single hj (fun k _ hne => by unfold one; rw [if_neg hne]; grind)]
    unfold one; rw [if_pos rfl]; grind
  · rw [upd_ne _ _ _ e, upd_ne _ _ _ e]
/-- Cramer. -/
theorem cramer (n : Nat) (A : Mt) (x : Nat → Rat) {c : Nat} (hc : c < n) : det n (cupd A c (app n A x)) = det n A * x c := by
  rw [← det_col n c hc x, ← det_mul]
  refine det_congr fun i j hi hj => ?_
  unfold mul
  by_cases e : j = c
  · subst e; rw [cupd_at]; unfold app; exact S_congr fun k _ => by rw [cupd_at]
  · rw [cupd_ne _ _ _ e, S_single hj (fun k _ hne => by rw [cupd_ne _ _ _ e]; unfold one; rw [if_neg hne]; grind), cupd_ne _ _ _ e]
    unfold one; rw [if_pos rfl]; grind
theorem unique {n : Nat} {A : Mt} (hd : det n A ≠ 0) {x y : Nat → Rat} (h : ∀ i, i < n → app n A x i = app n A y i) : ∀ c, c < n → x c = y c := by
  intro c hc
  have e : det n (cupd A c (app n A x)) = det n (cupd A c (app n A y)) := det_congr fun i j hi _ => by
    unfold cupd; split
    · exact h i hi
    · rfl
  rw [cramer n A x hc, cramer n A y hc] at e
  have : det n A * (x c - y c) = 0 := by grind
  rcases Rat.mul_eq_zero.mp this with h1 | h1
  · exact absurd h1 hd
  · grind
theorem kernel {n : Nat} {A : Mt} {x : Nat → Rat} (h : ∀ i, i < n → app n A x i = 0) {c : Nat} (hc : c < n) (hx : x c ≠ 0) : det n A = 0 := by
  apply Classical.byContradiction
  intro hd
  have := unique hd (y := fun _ => 0) (x := x) (fun i hi => by rw [h i hi]; unfold app; rw [S_null (fun j _ => by grind)]) c hc
  exact hx this
/-- A matrix whose rank is r: a product with r between, and one that is taken to r ones. -/
def HasRank (n : Nat) (A : Mt) (r : Nat) : Prop :=
  (∃ U V : Mt, ∀ i j, i < n → j < n → A i j = S r (fun k => U i k * V k j)) ∧
  ∃ L R : Mt, ∀ a b, a < r → b < r → S n (fun i => S n (fun j => L a i * A i j * R j b)) = one a b
end Go.Proofs.Ytpclkgjhfhhddaa.LA
/- Toeplitz matrices by leading parts. -/
namespace Go.Proofs.Ytpclkgjhfhhddaa.LA
/-- The same along diagonals. -/
def Toe (n : Nat) (m : Mt) : Prop := ∀ i j, i + 1 < n → j + 1 < n → m (i + 1) (j + 1) = m i j
/-- What the leading part of k rows sends to a one ahead of noughts, and behind them. -/
def Two (m : Mt) (k : Nat) (f l : Nat → Rat) : Prop := (∀ i, i < k → app k m f i = if i = 0 then 1 else 0) ∧ ∀ i, i < k → app k m l i = if i + 1 = k then 1 else 0
def longer (k : Nat) (f : Nat → Rat) : Nat → Rat := fun i => if i < k then f i else 0
def later (l : Nat → Rat) : Nat → Rat := fun i => if i = 0 then 0 else l (i - 1)
theorem app_longer (m : Mt) (k : Nat) (f : Nat → Rat) (i : Nat) : app (k + 1) m (longer k f) i = app k m f i := by
  unfold app longer
  rw [S_succ, if_neg (by omega), S_congr (g := fun j => m i j * f j) (fun j hj => by rw [if_pos hj])]; grind
theorem app_later (m : Mt) (k : Nat) (l : Nat → Rat) (i : Nat) : app (k + 1) m (later l) i = S k (fun j => m i (j + 1) * l j) := by
  unfold app later
  rw [S_first, if_pos rfl, S_congr (g := fun j => m i (j + 1) * l j) (fun j hj => by rw [if_neg (by omega), Nat.add_sub_cancel])]; grind
theorem two_longer {n k : Nat} {m : Mt} {f l : Nat → Rat} (hk : 0 < k) (h : Two m k f l) : ∀ i, i ≤ k → app (k + 1) m (longer k f) i = if i = 0 then 1 else if i = k then S k (fun j => m k j * f j) else 0 := by
  intro i hi
  rw [app_longer]
  by_cases e : i = k
  · subst e; rw [if_neg (by omega), if_pos rfl]; rfl
  · rw [h.1 i (by omega), if_neg e]
theorem two_later {n k : Nat} {m : Mt} {f l : Nat → Rat} (hk : 0 < k) (hn : k < n) (ht : Toe n m) (h : Two m k f l) : ∀ i, i ≤ k → app (k + 1) m (later l) i = if i = 0 then S k (fun j => m 0 (j + 1) * l j) else if i = k then 1 else 0 := by
  intro i hi
  rw [app_later]
  by_cases e : i = 0
  · subst e; rw [if_pos rfl]
  · obtain ⟨p, rfl⟩ : ∃ p, i = p + 1 := ⟨i - 1, by omega⟩
    rw [if_neg e, S_congr (g := fun j => m p j * l j) (fun j hj => by rw [ht p j (by omega) (by omega)])]
    have := h.2 p (by omega)
    unfold app at this
    rw [this]
theorem two_next {n k : Nat} {m : Mt} {f l : Nat → Rat} (hk : 0 < k) (hn : k < n) (ht : Toe n m) (h : Two m k f l)
    {x y : Rat} (hx : x = S k (fun j => m k j * f j)) (hy : y = S k (fun j => m 0 (j + 1) * l j)) :
    (∀ i, i ≤ k → app (k + 1) m (fun j => longer k f j - x * later l j) i = if i = 0 then 1 - x * y else 0) ∧
    (∀ i, i ≤ k → app (k + 1) m (fun j => later l j - y * longer k f j) i = if i = k then 1 - x * y else 0) := by
  have hu := two_longer (n := n) hk h
  have hv := two_later hk hn ht h
  rw [← hx] at hu
  rw [← hy] at hv
  constructor
  · intro i hi
    rw [app_sub, app_mul, hu i hi, hv i hi]
    by_cases e : i = 0
    · simp only [if_pos e]
    · simp only [if_neg e]
      by_cases e2 : i = k
      · simp only [if_pos e2]; grind
      · simp only [if_neg e2]; grind
  · intro i hi
    rw [app_sub, app_mul, hu i hi, hv i hi]
    by_cases e : i = 0
    · simp only [if_pos e, if_neg (show ¬ i = k from by omega)]; grind
    · simp only [if_neg e]
      by_cases e2 : i = k
      · simp only [if_pos e2]; grind
      · simp only [if_neg e2]; grind
theorem two_step {n k : Nat} {m : Mt} {f l : Nat → Rat} (hk : 0 < k) (hn : k < n) (ht : Toe n m) (h : Two m k f l)
    {x y by_ : Rat} (hx : x = S k (fun j => m k j * f j)) (hy : y = S k (fun j => m 0 (j + 1) * l j)) (hby : by_ * (1 - x * y) = 1) :
    Two m (k + 1) (fun j => (longer k f j - x * later l j) * by_) (fun j => (later l j - y * longer k f j) * by_) := by
  obtain ⟨h1, h2⟩ := two_next hk hn ht h hx hy
  constructor
  · intro i hi
    rw [show (fun j => (longer k f j - x * later l j) * by_) = (fun j => by_ * (longer k f j - x * later l j)) from by funext j; grind, app_mul, h1 i (by omega)]
    by_cases e : i = 0
    · simp only [if_pos e]; exact hby
    · simp only [if_neg e]; grind
  · intro i hi
    rw [show (fun j => (later l j - y * longer k f j) * by_) = (fun j => by_ * (later l j - y * longer k f j)) from by funext j; grind, app_mul, h2 i (by omega)]
    by_cases e : i = k
    · simp only [if_pos e, if_pos (show i + 1 = k + 1 from by omega)]; exact hby
    · simp only [if_neg e, if_neg (show ¬ i + 1 = k + 1 from by omega)]; grind
end Go.Proofs.Ytpclkgjhfhhddaa.LA
/- How long numbers are; helps for walks. -/
namespace Go.Proofs.Ytpclkgjhfhhddaa.AM
open Go Go.RowKit Go.Proofs.Ytpclkgjhfhhddaa.PN Go.Proofs.Ytpclkgjhfhhddaa.V
open Go.Proofs.Ytpclkgjhfhhddaa.LA (S S_succ S_zero S_congr)
set_option linter.unusedVariables false
set_option linter.unusedSimpArgs false
class Wt (q : Rat) (k : outParam Nat) : Prop where
  le : wt q ≤ k
instance Wt.mul {p q : Rat} {a b : Nat} [h : Wt p a] [k : Wt q b] : Wt (p * q) (a + b) := ⟨Nat.le_trans (wt_mul p q) (Nat.add_le_add h.le k.le)⟩
instance Wt.add {p q : Rat} {a b : Nat} [h : Wt p a] [k : Wt q b] : Wt (p + q) (a + b + 1) := ⟨Nat.le_trans (wt_add p q) (Nat.add_le_add_right (Nat.add_le_add h.le k.le) 1)⟩
instance Wt.sub {p q : Rat} {a b : Nat} [h : Wt p a] [k : Wt q b] : Wt (p - q) (a + b + 1) := ⟨Nat.le_trans (wt_sub p q) (Nat.add_le_add_right (Nat.add_le_add h.le k.le) 1)⟩
instance Wt.neg {p : Rat} {a : Nat} [h : Wt p a] : Wt (-p) a := ⟨by rw [wt_neg]; exact h.le⟩
instance Wt.div {p q : Rat} {a b : Nat} [h : Wt p a] [k : Wt q b] : Wt (p / q) (a + b) := ⟨by
  by_cases e : q = 0
  · have e0 : p / q = 0 := by rw [e, Rat.div_def, Rat.inv_zero, Rat.mul_zero]
    have h1 : wt 0 ≤ 1 := by decide
    have := wt_pos p; have := h.le
    rw [e0]; omega
  · exact Nat.le_trans (wt_div p q e) (Nat.add_le_add h.le k.le)⟩
instance Wt.zero : Wt 0 1 := ⟨by decide⟩
instance Wt.one : Wt 1 1 := ⟨by decide⟩
theorem Wt.of {q : Rat} {k : Nat} (h : wt q ≤ k) : Wt q k := ⟨h⟩
theorem Wt.mono {q : Rat} {a b : Nat} (h : Wt q a) (k : a ≤ b) : Wt q b := ⟨Nat.le_trans h.le k⟩
/-- A sum of at most eight numbers. -/
theorem Wt.sum {n K : Nat} {f : Nat → Rat} (hn : n ≤ 8) (h : ∀ i, i < n → Wt (f i) K) : Wt (S n f) (8 * (K + 1) + 1) := by
  have key : ∀ m, m ≤ n → wt (S m f) ≤ m * (K + 1) + 1 := by
    intro m hm
    induction m with
    | zero =>
        rw [S_zero]
        have : wt 0 ≤ 1 := by decide
        omega
    | succ m ih =>
      rw [S_succ]
      have h1 := wt_add (S m f) (f m)
      have h2 := (h m (by omega)).le
      have h3 := ih (by omega)
      rw [Nat.succ_mul]
      omega
  refine ⟨Nat.le_trans (key n (Nat.le_refl _)) ?_⟩
  have := Nat.mul_le_mul_right (K + 1) hn
  omega
section
variable {p q : Rat} {a b : Nat} [hp : Wt p a] [hq : Wt q b]
end
section
variable {p : Rat} {a : Nat} [hp : Wt p a]
end
/-! ### For loops -/
theorem awp_if {P : Program} {N : Nat} {Q : Exit → St → Prop} {s : St} {c : Operand} {x y : Code} {p : Prop} [Decidable p] (hc : avo s c = some (.v (.bool (decide p)))) (ht : p → AWP P N x Q s) (hf : ¬ p → AWP P N y Q s) : AWP P N (.cond c x y) Q s :=
  awp_cond hc (fun h => ht (of_decide_eq_true h)) (fun h => hf (of_decide_eq_false h))
theorem awp_yes {P : Program} {N : Nat} {Q : Exit → St → Prop} {s : St} {c : Operand} {x y : Code} {b : Bool} (hc : avo s c = some (.v (.bool b))) (hb : b = true) (h : AWP P N x Q s) : AWP P N (.cond c x y) Q s :=
  awp_cond hc (fun _ => h) (fun e => by rw [hb] at e; cases e)
theorem awp_no {P : Program} {N : Nat} {Q : Exit → St → Prop} {s : St} {c : Operand} {x y : Code} {b : Bool} (hc : avo s c = some (.v (.bool b))) (hb : b = false) (h : AWP P N y Q s) : AWP P N (.cond c x y) Q s :=
  awp_cond hc (fun e => by rw [hb] at e; cases e) (fun _ => h)
theorem alle {s : St} {σ : Ren} {U : Nat → Bool} {t : Nat} {x y : AV} {l : List (Nat × AV)} (h : s.env t = some x) (hl : Le σ x y) (ho : y.ok U) (k : AllE s σ U l) : AllE s σ U ((t, y) :: l) := ⟨⟨x, h, hl, ho⟩, k⟩
theorem allh {s : St} {σ : Ren} {U : Nat → Bool} {g n' : Nat} {F F' : Nat → Blk} {l : List (Nat × Fam)} (h : s.heap (σ g 0).1 = some (n', F')) (hn : (σ g 0).2 < n') (hb : BLe σ (F' (σ g 0).2) (F 0)) (ho : (F 0).ok U) (k : AllH s σ U l) : AllH s σ U ((g, (1, F)) :: l) :=
  ⟨fun r hr => by
    obtain rfl : r = 0 := by omega
    exact ⟨n', F', h, hn, hb, ho⟩, k⟩
theorem ble1 {σ : Ren} {f f' : Nat → RA} (h : f 0 = f' 0) : BLe σ (.rats 1 f) (.rats 1 f') := by
  refine ⟨rfl, fun i hi => ?_⟩
  obtain rfl : i = 0 := by omega
  exact h
theorem blen {σ : Ren} {n n' : Nat} {f f' : Nat → RA} (hn : n = n') (h : ∀ i, i < n → f i = f' i) : BLe σ (.rats n f) (.rats n' f') := ⟨hn, h⟩
theorem bleo {σ : Ren} {T : TypeId} {n n' : Nat} {f f' : Nat → AV} (hn : n = n') (h : ∀ i, i < n → Le σ (f i) (f' i)) : BLe σ (.ones T n f) (.ones T n' f') := ⟨rfl, hn, h⟩
theorem eA {G : Prop} (h : G := by repeat (first | exact True.intro | refine alle rfl (Le.id rfl) (by first | exact True.intro | rfl) ?_)) : G := h
theorem hA {G : Prop} (h : G := by repeat (first | exact True.intro | refine allh rfl (by decide) (by first | exact ble1 rfl | exact blen rfl (fun _ _ => rfl) | exact bleo rfl (fun _ _ => Le.id rfl)) (by first | exact True.intro | (intro i hi; exact True.intro)) ?_)) : G := h
end Go.Proofs.Ytpclkgjhfhhddaa.AM
/- An own row that lies in another own slice is written no more. -/
namespace Go.Proofs.Ytpclkgjhfhhddaa.AM
open Go Go.RowKit Go.Proofs.Ytpclkgjhfhhddaa.PN Go.Proofs.Ytpclkgjhfhhddaa.V
set_option linter.unusedVariables false
set_option linter.unusedSimpArgs false
theorem imp_pub {s : St} (g' i : Nat) {g n m : Nat} {T : TypeId} {F F' : Nat → Blk} {f : Nat → AV} {q : Nat → RA} (hg' : s.heap g' = some (1, F')) (hF' : F' 0 = .ones T n f) (hi : i < n) (hfi : f i = .own g 0) (hg : s.heap g = some (1, F)) (hF : F 0 = .rats m q) (hne : g ≠ g') :
    Imp s ⟨s.env, put (put s.heap g none) g' (some (1, fun _ => .ones T n (updN f i (.row true m q)))), s.used⟩ := by
  intro W N β w a hs
  have hheap : ∀ h n1 F1 r, put (put s.heap g none) g' (some (1, fun _ => .ones T n (updN f i (.row true m q)))) h = some (n1, F1) → r < n1 → ∃ n2 F2, s.heap h = some (n2, F2) ∧ r < n2 ∧ h ≠ g ∧ (h = g' → F1 r = .ones T n (updN f i (.row true m q)) ∧ r = 0) ∧ (h ≠ g' → F1 = F2) := by
    intro h n1 F1 r e1 e2
    by_cases c1 : h = g'
    · subst c1
      rw [put_same] at e1; cases e1
      obtain rfl : r = 0 := by omega
      exact ⟨1, F', hg', by decide, fun e => hne e.symm, fun _ => ⟨rfl, rfl⟩, fun e => absurd rfl e⟩
    · rw [put_ne _ _ c1] at e1
      by_cases c2 : h = g
      · subst c2; rw [put_same] at e1; cases e1
      · rw [put_ne _ _ c2] at e1
        exact ⟨n1, F1, e1, e2, c2, fun e => absurd e c1, fun _ => rfl⟩
  generalize hs' : (⟨s.env, put (put s.heap g none) g' (some (1, fun _ => .ones T n (updN f i (.row true m q)))), s.used⟩ : St) = s'
  have hown : ∀ k, Own s' β k → Own s β k ∧ ub (β g 0) ≠ some k := by
    rintro k ⟨h, n1, F1, r, h1, h2, h3⟩
    subst hs'
    obtain ⟨n2, F2, a1, a2, a3, _⟩ := hheap h n1 F1 r h1 h2
    exact ⟨⟨h, n2, F2, r, a1, a2, h3⟩, fun e => a3 (hs.inj _ _ _ _ _ _ _ _ k a1 a2 hg (by decide) h3 e).1⟩
  have kf : Fwd (notOwn W s β) (notOwn W s' β) W.w.heap.size W.w.heap.size s.used β β (fun _ => False) w w :=
    ⟨Ext.refl _ _, fun _ _ h => h, fun b hb _ => ⟨hb.1, fun ho => hb.2 (hown b ho).1⟩, Nat.le_refl _, fun _ _ _ => rfl⟩
  have hpub : ∀ b, ub (β g 0) = some b → notOwn W s' β b := fun b hb => ⟨fun hlt => W.law b (own_lt hs ⟨g, 1, F, 0, hg, by decide, hb⟩).1 hlt (hs.pin b ⟨g, 1, F, 0, hg, by decide, hb⟩), fun ho => (hown b ho).2 hb⟩
  refine ⟨β, hs.kept, hs.nodef, hs.size, fun t z hz => ?_, fun h n1 F1 r h1 h2 => ?_, fun h n1 F1 h1 => ?_, fun g1 n1 F1 r1 g2 n2 F2 r2 k h1 h2 h3 h4 h5 h6 => ?_, hs.fix, fun i ho => hs.pin i (hown i ho).1, by subst hs'; exact hs.fixd, by subst hs'; exact hs.keep⟩
  · subst hs'
    exact ⟨(hs.env t z hz).1, (hs.env t z hz).2.fwd kf (hs.env t z hz).1⟩
  · have h1' : put (put s.heap g none) g' (some (1, fun _ => .ones T n (updN f i (.row true m q)))) h = some (n1, F1) := by subst hs'; exact h1
    have hu : s'.used = s.used := by subst hs'; rfl
    rw [hu]
    obtain ⟨n2, F2, a1, a2, a3, a4, a5⟩ := hheap h n1 F1 r h1' h2
    obtain ⟨q1, q2⟩ := hs.heap h n2 F2 r a1 a2
    by_cases c1 : h = g'
    · obtain ⟨e1, rfl⟩ := a4 c1
      subst c1
      rw [hg'] at a1; cases a1
      rw [hF'] at q1 q2
      have q3 := RB.fwd kf q1 (fun _ _ h => h) q2
      rw [e1]
      refine ⟨fun j hj => ?_, q3.1, ?_⟩
      · by_cases c2 : j = i
        · subst c2; rw [updN_same]; exact True.intro
        · rw [updN_ne _ _ c2]; exact q1 j hj
      · rcases q3.2 with e | ⟨k, cs, hB, hr, hat, hx⟩
        · exact .inl e
        · refine .inr ⟨k, cs, hB, hr, hat, fun j hj => ?_⟩
          obtain ⟨y, b1, b2, b3⟩ := hx j hj
          by_cases c2 : j = i
          · subst c2
            rw [hfi] at b3
            refine ⟨y, b1, b2, ?_⟩
            rw [updN_same]
            have hb := (hs.heap g 1 F 0 hg (by decide)).2
            rw [hF] at hb
            exact own_row b3 hb hpub
          · exact ⟨y, b1, b2, by rw [updN_ne _ _ c2]; exact b3⟩
    · rw [a5 c1]
      exact ⟨q1, RB.fwd kf q1 (fun _ _ h => h) q2⟩
  · subst hs'
    by_cases c1 : h = g'
    · subst c1; exact hs.live _ _ _ hg'
    · have h1 : put (put s.heap g none) g' _ h = _ := h1
      rw [put_ne _ _ c1] at h1
      by_cases c2 : h = g
      · subst c2; rw [put_same] at h1; cases h1
      · rw [put_ne _ _ c2] at h1; exact hs.live _ _ _ h1
  · subst hs'
    obtain ⟨m1, G1, a1, a2, _⟩ := hheap g1 n1 F1 r1 h1 h2
    obtain ⟨m2, G2, b1, b2, _⟩ := hheap g2 n2 F2 r2 h3 h4
    exact hs.inj _ _ _ _ _ _ _ _ k a1 a2 b1 b2 h5 h6
/-- Numbers that are put, one by one, in the place of z. -/
def grow {α : Type} (v : Nat → α) (z : α) (k : Nat) : Nat → α := fun i => bif Nat.ble (i + 1) k then v i else z
theorem grow_step {α : Type} (v : Nat → α) (z : α) (k i : Nat) : updN (grow v z k) k (v k) i = grow v z (k + 1) i := by
  unfold updN
  by_cases h : i = k
  · subst h
    rw [if_pos rfl]; unfold grow
    rw [Nat.ble_eq_true_of_le (Nat.le_refl (i + 1))]; rfl
  · rw [if_neg h]; unfold grow
    by_cases h3 : i + 1 ≤ k
    · have h4 : i + 1 ≤ k + 1 := by omega
      rw [Nat.ble_eq_true_of_le h3, Nat.ble_eq_true_of_le h4]
    · have h4 : ¬ i + 1 ≤ k + 1 := by omega
      have e3 : Nat.ble (i + 1) k = false := by cases e : Nat.ble (i + 1) k with
        | true => exact absurd (Nat.le_of_ble_eq_true e) h3
        | false => rfl
      have e4 : Nat.ble (i + 1) (k + 1) = false := by cases e : Nat.ble (i + 1) (k + 1) with
        | true => exact absurd (Nat.le_of_ble_eq_true e) h4
        | false => rfl
      rw [e3, e4]
theorem grow_full {α : Type} (v : Nat → α) (z : α) {k i : Nat} (h : i < k) : grow v z k i = v i := by
  unfold grow; rw [Nat.ble_eq_true_of_le (show i + 1 ≤ k from h)]; rfl
end Go.Proofs.Ytpclkgjhfhhddaa.AM

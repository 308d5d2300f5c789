/- Joined texts, 28: NSpecD NSpecE PureNttProducts. -/
import Derived.Test.YtggicfmbdmjhkaaJLawNttProducts25
import Derived.Test.YtggicfmbdmjhkaaJLawNttProducts26
import Derived.Test.YtggicfmbdmjhkaaJLawNttProducts27
set_option linter.unusedVariables false
set_option linter.unusedSimpArgs false
/- What the document's own transform answers, and that both answer alike. -/
namespace Go.Proofs.Ytggicfmbdmjhkaa.F
open Go.RowKit Go.Proofs.YtggicfmbdmjhkaaW.PrintWords Go.Proofs.YtggicfmbdmjhkaaW.PrintLast Go.Proofs.YtggicfmbdmjhkaaW.PrintMore
open Go.Proofs.Ytggicfmbdmjhkaa.NM (F S pw fp W WI X rev dft conv nf)
set_option linter.unusedVariables false
set_option linter.unusedSimpArgs false
namespace Spec
theorem small_l0 (l : List Int) (hlen : l.length < 4611686018427387904) : ∀ (d i : Nat), i + d = l.length →
    Ev (fun k => anticlineref8_small.l0 k l i) ((l.drop i).all fun x => decide (x < 998244353)) := by
  intro d
  induction d with
  | zero =>
    intro i hi
    refine Ev.step (f := fun k => some true) (fun k => by rw [anticlineref8_small.l0]; rw [if_neg (by omega)]) ?_
    rw [List.drop_eq_nil_of_le (by omega)]; exact Ev.now _
  | succ d ih =>
    intro i hi
    have hget : rd l i = l[i]'(by omega) := by simp [rd, List.getD, show i < l.length by omega]
    have hdrop : l.drop i = l[i]'(by omega) :: l.drop (i + 1) := List.drop_eq_getElem_cons (by omega)
    rw [hdrop, List.all_cons]
    by_cases hx : l[i]'(by omega) < 998244353
    · rw [decide_eq_true hx, Bool.true_and]
      refine Ev.step (f := fun k => anticlineref8_small.l0 k l ((i + 1 : Nat) : Int)) (fun k => ?_) (ih (i + 1) (by omega))
      rw [anticlineref8_small.l0, if_pos (by omega), if_pos (by omega), hget, if_neg (by omega), w64 (by omega) (by omega)]; rfl
    · rw [decide_eq_false hx, Bool.false_and]
      refine Ev.step (f := fun k => some false) (fun k => ?_) (Ev.now _)
      rw [anticlineref8_small.l0, if_pos (by omega), if_pos (by omega), hget, if_pos (by omega)]
theorem small (l : List Int) (hlen : l.length < 4611686018427387904) : Ev (fun k => anticlineref8_small.f k l) (under l) := by
  have := small_l0 l hlen l.length 0 (by omega)
  exact this
theorem same_l0 (l : List Int) (hlen : l.length < 4611686018427387904) : ∀ (d i : Nat), i + d = l.length → Ev (fun k => anticlineref8_Same.l0 k l l i) true := by
  intro d
  induction d with
  | zero =>
    intro i hi
    exact Ev.step (f := fun k => some true) (fun k => by rw [anticlineref8_Same.l0]; rw [if_neg (by omega)]) (Ev.now _)
  | succ d ih =>
    intro i hi
    refine Ev.step (f := fun k => anticlineref8_Same.l0 k l l ((i + 1 : Nat) : Int)) (fun k => ?_) (ih (i + 1) (by omega))
    rw [anticlineref8_Same.l0, if_pos (by omega), if_pos (by omega), if_pos (by omega), if_pos rfl, w64 (by omega) (by omega)]; rfl
theorem same (l : List Int) (hlen : l.length < 4611686018427387904) : Ev (fun k => anticlineref8_Same.f k l l) true := by
  unfold anticlineref8_Same.f
  simp only [if_true]
  have := same_l0 l hlen l.length 0 (by omega)
  exact this
theorem rt_one (m : Nat) (hm : m < 11) : pw (W m) (2 ^ m) = 1 := NM.W_pow m (by omega)
/-- There and back. -/
theorem tr_back (m : Nat) (hm : m < 11) (x : Nat → F) (i : Nat) (hi : i < 2 ^ m) : tr true m (tr false m x) i = x i := by
  have hb : 2 ^ m ≤ 2 ^ 10 := Nat.pow_le_pow_right (by omega) (by omega)
  have hp : 0 < 2 ^ m := Nat.pos_of_ne_zero (by simp)
  have h1 : tr false m x = dft (2 ^ m) (W m) x := by
    funext q; unfold tr lastBy rt
    rw [if_neg (by simp), if_neg (by simp)]; grind
  have hne : nf (2 ^ m) ≠ 0 := fun h => by
    have := v_nf (2 ^ m)
    rw [h, v_zero] at this; omega
  have hf := NM.fermat (nf (2 ^ m)) hne
  rw [NM.pw_succ] at hf
  rw [h1]
  unfold tr lastBy rt
  rw [if_pos rfl, if_pos rfl, NM.dft_back m (W m) (WI m) (NM.W_WI m (by omega)) (fun j hj => by subst hj; exact NM.W_neg j (by omega)) (fun h => by subst h; exact NM.W_one) (rt_one m hm) x i hi]
  have e : (Fin.ofNat 998244353 (2 ^ m) : F) = nf (2 ^ m) := rfl
  rw [e]
  grind
end Spec
end Go.Proofs.Ytggicfmbdmjhkaa.F
/- What the products answer. -/
namespace Go.Proofs.Ytggicfmbdmjhkaa.F
open Go.RowKit Go.Proofs.YtggicfmbdmjhkaaW.PrintWords Go.Proofs.YtggicfmbdmjhkaaW.PrintLast Go.Proofs.YtggicfmbdmjhkaaW.PrintMore
open Go.Proofs.Ytggicfmbdmjhkaa.NM (F S pw fp W WI X rev dft conv nf)
set_option linter.unusedVariables false
set_option linter.unusedSimpArgs false
namespace Spec
theorem tr_false (m : Nat) (x : Nat → F) : tr false m x = dft (2 ^ m) (W m) x := by
  funext q; unfold tr lastBy rt
  rw [if_neg (by simp), if_neg (by simp)]; grind
theorem clone (l : List Int) (h : l.length < 35184372088832) : slices_Clone_uint32_uint32.f l = some l := by
  unfold slices_Clone_uint32_uint32.f; rw [if_pos h]
theorem enc_pad {p n : Nat} {a : Nat → F} (ha : ∀ i, p ≤ i → a i = 0) (h : p ≤ n) : enc p a ++ List.replicate (n - p) 0 = enc n a := by
  apply List.ext_getElem
  · simp [enc]; omega
  · intro i h1 h2
    rw [enc_length] at h2
    simp only [enc, List.getElem_map, List.getElem_range]
    by_cases e : i < p
    · rw [List.getElem_append_left (by simpa using e)]; simp
    · rw [List.getElem_append_right (by simp; omega), List.getElem_replicate, ha i (by omega)]; rfl
theorem enc_take {p n : Nat} (a : Nat → F) (h : p ≤ n) : (enc n a).take p = enc p a := by
  unfold enc; rw [← List.map_take, List.take_range, Nat.min_eq_left h]
theorem len_size_ : ∀ a : Nat, a < 32 → ∀ b : Nat, b < 32 → (match bits_Len.f 5 (IntKind.u64.wrap ((32 * a + b : Nat) : Int)) with | some m => decide (0 ≤ m ∧ m < 11 ∧ 32 * a + b < 2 ^ m.toNat) | none => false) = true := by decide +kernel
theorem len_size (n : Nat) (h : n < 1024) : ∃ m : Nat, m < 11 ∧ n < 2 ^ m ∧ bits_Len.f 5 (IntKind.u64.wrap (n : Int)) = some (m : Int) := by
  have := len_size_ (n / 32) (by omega) (n % 32) (by omega)
  rw [Nat.div_add_mod] at this
  cases hb : bits_Len.f 5 (IntKind.u64.wrap (n : Int)) with
  | none => rw [hb] at this; cases this
  | some m =>
    rw [hb] at this
    obtain ⟨h1, h2, h3⟩ := of_decide_eq_true this
    exact ⟨m.toNat, by omega, h3, by rw [Int.toNat_of_nonneg h1]⟩
theorem shl_nat (m : Nat) (h : m < 60) : shl .i64 1 (m : Int) = ((2 ^ m : Nat) : Int) := by
  have : ∀ m : Nat, m < 60 → shl .i64 1 (m : Int) = ((2 ^ m : Nat) : Int) := by decide +kernel
  exact this m h
/-- The middle: number by number, and back. -/
theorem conv_l0 (m : Nat) (hm : m < 11) (n : Nat) (hn : n ≤ 2 ^ m) (A B C : Nat → F) (hC : ∀ i, i < 2 ^ m → A i * B i = dft (2 ^ m) (W m) C i) : ∀ (d i : Nat) (Y : Nat → F), i + d = 2 ^ m →
    (∀ j, j < i → Y j = A j * B j) → (∀ j, i ≤ j → Y j = A j) →
    Ev (fun k => ntt_Conv.l0 k (n : Int) (enc (2 ^ m) Y) (enc (2 ^ m) B) ((2 ^ m : Nat) : Int) i) (enc n C, 0) := by
  have hb : 2 ^ m ≤ 2 ^ 10 := Nat.pow_le_pow_right (by omega) (by omega)
  have hp : 0 < 2 ^ m := Nat.pos_of_ne_zero (by simp)
  intro d
  induction d with
  | zero =>
    intro i Y hi hd _
    refine up ?_
    simp only [ntt_Conv.l0]
    have t := transform m hm true (dft (2 ^ m) (W m) C)
    have hbk := tr_back m hm C
    rw [tr_false] at hbk
    rw [enc_congr hbk] at t
    have e : enc (2 ^ m) Y = enc (2 ^ m) (dft (2 ^ m) (W m) C) := enc_congr fun j hj => by rw [hd j (by omega), hC j hj]
    rw [e]
    generalize 2 ^ m = N at *
    simp only [if_neg (show ¬ (i : Int) < (N : Int) by omega)]
    refine Ev.bind t ?_
    simp only [if_true, if_pos (show (0 : Int) ≤ (n : Int) by omega), enc_length, if_pos (show (n : Int) ≤ (N : Int) by omega), Int.toNat_natCast, enc_take C hn]
    rw [clone _ (by rw [enc_length]; omega)]
    exact Ev.now _
  | succ d ih =>
    intro i Y hi hd hr
    refine up ?_
    simp only [ntt_Conv.l0]
    have := ih (i + 1) (fun q => if q = i then A i * B i else Y q) (by omega) (fun j hj => by
      try dsimp only
      by_cases e : j = i
      · rw [if_pos e, e]
      · rw [if_neg e, hd j (by omega)]) (fun j hj => by
      try dsimp only
      rw [if_neg (by omega), hr j (by omega)])
    generalize 2 ^ m = N at *
    simp only [if_pos (show (i : Int) < (N : Int) by omega), if_pos (show (0 : Int) ≤ (i : Int) by omega), enc_length, rd_enc N _ (i : Int) (by omega) (by omega), Int.toNat_natCast, times, Option.bind_some, hr i (by omega), enc_set, w64 (x := (i : Int) + 1) (by omega) (by omega)]
    exact this
theorem conv_fast (p q : Nat) (hp : 0 < p) (hq : 0 < q) (hpq : p + q ≤ 1025) (a b : Nat → F) (ha : ∀ i, p ≤ i → a i = 0) (hb : ∀ i, q ≤ i → b i = 0) :
    Ev (fun k => ntt_Conv.f k (enc p a) (enc q b)) (enc (p + q - 1) (conv a b), 0) := by
  obtain ⟨m, hm, hlt, hlen⟩ := len_size (p + q - 1 - 1) (by omega)
  have hbd : 2 ^ m ≤ 2 ^ 10 := Nat.pow_le_pow_right (by omega) (by omega)
  unfold ntt_Conv.f
  have e1 : wrap64 ((p : Int) + (q : Int)) = ((p + q : Nat) : Int) := by rw [w64 (by omega) (by omega)]; omega
  have e2 : wrap64 (((p + q : Nat) : Int) - 1) = ((p + q - 1 : Nat) : Int) := by rw [w64 (by omega) (by omega)]; omega
  have e3 : wrap64 (((p + q - 1 : Nat) : Int) - 1) = ((p + q - 1 - 1 : Nat) : Int) := by rw [w64 (by omega) (by omega)]; omega
  simp only [enc_length, if_neg (show ¬ (p : Int) = 0 by omega), if_neg (show ¬ (q : Int) = 0 by omega), e1, show decide (((p + q : Nat) : Int) > 1025) = false from decide_eq_false (by omega)]
  refine up ?_
  simp only [ntt_Conv.j0, if_neg (show ¬ false = true by simp)]
  have wa := whole (enc p a) (enc_wf _ _) (by rw [enc_length]; omega)
  have wb := whole (enc q b) (enc_wf _ _) (by rw [enc_length]; omega)
  rw [enc_under] at wa wb
  refine Ev.bind wa ?_
  simp only [if_true]
  refine Ev.bind wb ?_
  simp only [if_true, enc_length, e1, e2, e3]
  refine Ev.bind (Ev.of (fun k => bits_Len.mono _ k) hlen) ?_
  have t1 := transform m hm false a
  have t2 := transform m hm false b
  rw [tr_false] at t1 t2
  have hc : ∀ i, i < 2 ^ m → dft (2 ^ m) (W m) a i * dft (2 ^ m) (W m) b i = dft (2 ^ m) (W m) (conv a b) i := fun i _ => (NM.dft_conv (W m) ha hb (by omega) i).symm
  have hl := conv_l0 m hm (p + q - 1) (by omega) _ _ _ hc (2 ^ m) 0 (dft (2 ^ m) (W m) a) (by omega) (fun j hj => absurd hj (by omega)) (fun _ _ => rfl)
  simp only [if_pos (show (0 : Int) ≤ (m : Int) by omega), shl_nat m (by omega)]
  generalize 2 ^ m = N at *
  have e4 : wrap64 ((N : Int) - (p : Int)) = ((N - p : Nat) : Int) := by rw [w64 (by omega) (by omega)]; omega
  have e5 : wrap64 ((N : Int) - (q : Int)) = ((N - q : Nat) : Int) := by rw [w64 (by omega) (by omega)]; omega
  simp only [clone (enc p a) (by rw [enc_length]; omega), clone (enc q b) (by rw [enc_length]; omega), Option.bind_some, e4, e5, if_pos (show (0 : Int) ≤ ((N - p : Nat) : Int) by omega), if_pos (show (0 : Int) ≤ ((N - q : Nat) : Int) by omega), Int.toNat_natCast, enc_length,
    if_pos (show p + (N - p) < 35184372088832 by omega), if_pos (show q + (N - q) < 35184372088832 by omega), enc_pad ha (show p ≤ N by omega), enc_pad hb (show q ≤ N by omega)]
  refine Ev.bind t1 (Ev.bind t2 ?_)
  simp only [enc_length]
  exact hl
/-- Rows' products, up to a row. -/
def part (a b : Nat → F) (i k : Nat) : F := S i (fun j => if j ≤ k then a j * b (k - j) else 0)
theorem part_all {p : Nat} {a b : Nat → F} (ha : ∀ i, p ≤ i → a i = 0) (k : Nat) : part a b p k = conv a b k := by
  unfold part conv
  by_cases h : p ≤ k + 1
  · rw [NM.S_cut h (fun i h1 h2 => by rw [ha i h1]; grind)]
    exact NM.S_congr fun i hi => by rw [if_pos (by omega)]
  · rw [NM.S_cut (show k + 1 ≤ p by omega) (fun i h1 h2 => by rw [if_neg (by omega)])]
    exact NM.S_congr fun i hi => by rw [if_pos (by omega)]
theorem conv_ref_l1 (p q : Nat) (hpq : p + q ≤ 1025) (a b : Nat → F) (hb : ∀ i, q ≤ i → b i = 0) (i : Nat) (hi : i < p) (r : List Int × Int)
    (hend : Ev (fun k => anticlineref8_Conv.l0 k (enc p a) (enc q b) (enc (p + q - 1) (part a b (i + 1))) ((i + 1 : Nat) : Int)) r) :
    ∀ (d j : Nat), j + d = q → Ev (fun k => anticlineref8_Conv.l1 k (enc p a) (enc q b) (enc (p + q - 1) (fun c => part a b i c + (if i ≤ c ∧ c < i + j then a i * b (c - i) else 0))) i j) r := by
  intro d
  induction d with
  | zero =>
    intro j hj
    obtain rfl : j = q := by omega
    refine up ?_
    simp only [anticlineref8_Conv.l1]
    simp only [enc_length, if_neg (show ¬ (j : Int) < (j : Int) by omega), w64 (x := (i : Int) + 1) (by omega) (by omega)]
    have e : enc (p + j - 1) (fun c => part a b i c + (if i ≤ c ∧ c < i + j then a i * b (c - i) else 0)) = enc (p + j - 1) (part a b (i + 1)) := enc_congr fun c _ => by
      try dsimp only
      have : part a b (i + 1) c = part a b i c + (if i ≤ c then a i * b (c - i) else 0) := rfl
      rw [this]
      by_cases h1 : i ≤ c
      · by_cases h2 : c < i + j
        · rw [if_pos ⟨h1, h2⟩, if_pos h1]
        · rw [if_neg (by omega), if_pos h1, hb (c - i) (by omega)]; grind
      · rw [if_neg (by omega), if_neg h1]
    rw [e]
    exact hend
  | succ d ih =>
    intro j hj
    refine up ?_
    simp only [anticlineref8_Conv.l1]
    have e1 : wrap64 ((i : Int) + (j : Int)) = ((i + j : Nat) : Int) := by rw [w64 (by omega) (by omega)]; omega
    have e3 : ∀ y : F, IntKind.u64.wrap (v y) = v y := fun y => u64w (v_nonneg y) (by have := v_lt y; omega)
    have e4 : ∀ y z : F, (Int.tmod (IntKind.u64.wrap (v y + v z)) 998244353) % 4294967296 = v (y + z) := fun y z => by
      have g0 := v_nonneg y; have g1 := v_lt y; have g2 := v_nonneg z; have g3 := v_lt z
      rw [u64w (by omega) (by omega), tmod_p (by omega), v_add, small32 (by omega) (by omega)]
    simp only [enc_length, e1, if_pos (show (j : Int) < (q : Int) by omega), if_pos (show (0 : Int) ≤ ((i + j : Nat) : Int) by omega), if_pos (show ((i + j : Nat) : Int) < ((p + q - 1 : Nat) : Int) by omega),
      if_pos (show (0 : Int) ≤ (i : Int) by omega), if_pos (show (i : Int) < (p : Int) by omega), if_pos (show (0 : Int) ≤ (j : Int) by omega), rd_enc p _ (i : Int) (by omega) (by omega), rd_enc q _ (j : Int) (by omega) (by omega),
      rd_enc (p + q - 1) _ ((i + j : Nat) : Int) (by omega) (by omega), Int.toNat_natCast, rtimes, Option.bind_some, e3, e4, enc_set, w64 (x := (j : Int) + 1) (by omega) (by omega)]
    have := ih (j + 1) (by omega)
    have e : enc (p + q - 1) (fun c => if c = i + j then part a b i (i + j) + (if i ≤ i + j ∧ i + j < i + j then a i * b (i + j - i) else 0) + a i * b j else part a b i c + (if i ≤ c ∧ c < i + j then a i * b (c - i) else 0)) =
        enc (p + q - 1) (fun c => part a b i c + (if i ≤ c ∧ c < i + (j + 1) then a i * b (c - i) else 0)) := enc_congr fun c _ => by
      try dsimp only
      by_cases h : c = i + j
      · subst h
        rw [if_pos rfl, if_neg (by omega), if_pos (by omega), show i + j - i = j from by omega]; grind
      · rw [if_neg h]
        by_cases h2 : i ≤ c ∧ c < i + j
        · rw [if_pos h2, if_pos (by omega)]
        · rw [if_neg h2, if_neg (by omega)]
    rw [e]
    exact this
theorem conv_ref_l0 (p q : Nat) (hpq : p + q ≤ 1025) (a b : Nat → F) (ha : ∀ i, p ≤ i → a i = 0) (hb : ∀ i, q ≤ i → b i = 0) :
    ∀ (d i : Nat), i + d = p → Ev (fun k => anticlineref8_Conv.l0 k (enc p a) (enc q b) (enc (p + q - 1) (part a b i)) i) (enc (p + q - 1) (conv a b), 0) := by
  intro d
  induction d with
  | zero =>
    intro i hi
    obtain rfl : i = p := by omega
    refine up ?_
    simp only [anticlineref8_Conv.l0]
    simp only [enc_length, if_neg (show ¬ (i : Int) < (i : Int) by omega)]
    rw [enc_congr (fun c _ => part_all ha c)]
    exact Ev.now _
  | succ d ih =>
    intro i hi
    refine up ?_
    simp only [anticlineref8_Conv.l0]
    simp only [enc_length, if_pos (show (i : Int) < (p : Int) by omega)]
    have := conv_ref_l1 p q hpq a b hb i (by omega) _ (ih (i + 1) (by omega)) q 0 (by omega)
    have e : enc (p + q - 1) (fun c => part a b i c + (if i ≤ c ∧ c < i + 0 then a i * b (c - i) else 0)) = enc (p + q - 1) (part a b i) := enc_congr fun c _ => by
      try dsimp only
      rw [if_neg (by omega)]; grind
    rw [e] at this
    exact this
theorem conv_ref (p q : Nat) (hp : 0 < p) (hq : 0 < q) (hpq : p + q ≤ 1025) (a b : Nat → F) (ha : ∀ i, p ≤ i → a i = 0) (hb : ∀ i, q ≤ i → b i = 0) :
    Ev (fun k => anticlineref8_Conv.f k (enc p a) (enc q b)) (enc (p + q - 1) (conv a b), 0) := by
  unfold anticlineref8_Conv.f
  have e1 : wrap64 ((p : Int) + (q : Int)) = ((p + q : Nat) : Int) := by rw [w64 (by omega) (by omega)]; omega
  have e2 : wrap64 (((p + q : Nat) : Int) - 1) = ((p + q - 1 : Nat) : Int) := by rw [w64 (by omega) (by omega)]; omega
  simp only [enc_length, if_neg (show ¬ (p : Int) = 0 by omega), if_neg (show ¬ (q : Int) = 0 by omega), e1, e2, show decide (((p + q - 1 : Nat) : Int) > 1024) = false from decide_eq_false (by omega)]
  refine up ?_
  simp only [anticlineref8_Conv.j0, if_neg (show ¬ false = true by simp)]
  have wa := small (enc p a) (by rw [enc_length]; omega)
  have wb := small (enc q b) (by rw [enc_length]; omega)
  rw [enc_under] at wa wb
  refine Ev.bind wa ?_
  simp only [if_true]
  refine Ev.bind wb ?_
  refine up ?_
  simp only [anticlineref8_Conv.j1]
  simp only [Bool.not_true, if_neg (show ¬ false = true by simp), enc_length, e1, e2, if_pos (show (0 : Int) ≤ ((p + q - 1 : Nat) : Int) by omega), Int.toNat_natCast, if_pos (show p + q - 1 ≤ 70368744177664 by omega), enc_zero]
  have := conv_ref_l0 p q hpq a b ha hb p 0 (by omega)
  have e : enc (p + q - 1) (part a b 0) = enc (p + q - 1) (fun _ => 0) := rfl
  rw [e] at this
  exact this
end Spec
end Go.Proofs.Ytggicfmbdmjhkaa.F
/- Both products answer alike, whatever comes in. -/
namespace Go.Proofs.Ytggicfmbdmjhkaa.Pure
open Go.RowKit Go.Proofs.Ytggicfmbdmjhkaa.F Go.Proofs.YtggicfmbdmjhkaaW.PrintWords Go.Proofs.YtggicfmbdmjhkaaW.PrintLast Go.Proofs.YtggicfmbdmjhkaaW.PrintMore
open Go.Proofs.Ytggicfmbdmjhkaa.NM (F S pw W WI dft nf conv)
open Go.Proofs.Ytggicfmbdmjhkaa.F.Spec
namespace Both
def cut (p : Nat) (a : Nat → NM.F) (i : Nat) : NM.F := if i < p then a i else 0
theorem cut_enc (p : Nat) (a : Nat → NM.F) : enc p a = enc p (cut p a) := enc_congr fun i hi => by unfold cut; rw [if_pos hi]
theorem cut_over (p : Nat) (a : Nat → NM.F) (i : Nat) (h : p ≤ i) : cut p a i = 0 := by unfold cut; rw [if_neg (by omega)]
theorem enc_nonneg (n : Nat) (a : Nat → NM.F) : ∀ x ∈ enc n a, 0 ≤ x := fun x hx => by
  unfold enc at hx
  obtain ⟨i, _, rfl⟩ := List.mem_map.1 hx
  exact v_nonneg _
theorem conv_any (l0 l1 : List Int) (w0 : ∀ x ∈ l0, (Lit.int .u32 x).wf = true) (w1 : ∀ x ∈ l1, (Lit.int .u32 x).wf = true) (n0 : l0.length ≤ 512) (n1 : l1.length ≤ 512) :
    ∃ c e, Ev (fun k => ntt_Conv.f k l0 l1) (c, e) ∧ Ev (fun k => anticlineref8_Conv.f k l0 l1) (c, e) ∧ c.length ≤ 1024 ∧ ∀ x ∈ c, 0 ≤ x := by
  by_cases h0 : (l0.length : Int) = 0
  · refine ⟨[], 3, ?_, ?_, by simp, by simp⟩
    · unfold ntt_Conv.f; simp only [if_pos h0]; refine up ?_; simp only [ntt_Conv.j0, if_true]; exact Ev.now _
    · unfold anticlineref8_Conv.f; simp only [if_pos h0]; refine up ?_; simp only [anticlineref8_Conv.j0, if_true]; exact Ev.now _
  by_cases h1 : (l1.length : Int) = 0
  · refine ⟨[], 3, ?_, ?_, by simp, by simp⟩
    · unfold ntt_Conv.f; simp only [if_neg h0, if_pos h1]; refine up ?_; simp only [ntt_Conv.j0, if_true]; exact Ev.now _
    · unfold anticlineref8_Conv.f; simp only [if_neg h0, if_pos h1]; refine up ?_; simp only [anticlineref8_Conv.j0, if_true]; exact Ev.now _
  have e1 : wrap64 ((l0.length : Int) + (l1.length : Int)) = ((l0.length + l1.length : Nat) : Int) := by rw [w64 (by omega) (by omega)]; omega
  have e2 : wrap64 (((l0.length + l1.length : Nat) : Int) - 1) = ((l0.length + l1.length - 1 : Nat) : Int) := by rw [w64 (by omega) (by omega)]; omega
  have d1 : decide (((l0.length + l1.length : Nat) : Int) > 1025) = false := decide_eq_false (by omega)
  have d2 : decide (((l0.length + l1.length - 1 : Nat) : Int) > 1024) = false := decide_eq_false (by omega)
  have a0 := whole l0 w0 (by omega); have a1 := whole l1 w1 (by omega)
  have b0 := small l0 (by omega); have b1 := small l1 (by omega)
  by_cases u0 : under l0 = true
  · by_cases u1 : under l1 = true
    · have q0 := under_enc l0 w0 u0; have q1 := under_enc l1 w1 u1
      rw [cut_enc] at q0 q1
      have c0 := cut_over l0.length (fun i => nf (l0.getD i 0).toNat); have c1 := cut_over l1.length (fun i => nf (l1.getD i 0).toNat)
      have f1 := conv_fast l0.length l1.length (by omega) (by omega) (by omega) _ _ c0 c1
      have f2 := conv_ref l0.length l1.length (by omega) (by omega) (by omega) _ _ c0 c1
      rw [← q0, ← q1] at f1 f2
      exact ⟨_, _, f1, f2, by rw [enc_length]; omega, enc_nonneg _ _⟩
    · have u1' : under l1 = false := by simpa using u1
      refine ⟨[], 1, ?_, ?_, by simp, by simp⟩
      · unfold ntt_Conv.f; simp only [if_neg h0, if_neg h1, e1, d1]; refine up ?_
        simp only [ntt_Conv.j0, if_neg (show ¬ false = true by simp)]
        refine Ev.bind a0 ?_
        simp only [u0, if_true]
        refine Ev.bind a1 ?_
        simp only [u1', if_neg (show ¬ false = true by simp)]
        exact Ev.now _
      · unfold anticlineref8_Conv.f; simp only [if_neg h0, if_neg h1, e1, e2, d2]; refine up ?_
        simp only [anticlineref8_Conv.j0, if_neg (show ¬ false = true by simp)]
        refine Ev.bind b0 ?_
        simp only [u0, if_true]
        refine Ev.bind b1 ?_
        simp only [u1', Bool.not_false]
        refine up ?_
        simp only [anticlineref8_Conv.j1, if_true]
        exact Ev.now _
  · have u0' : under l0 = false := by simpa using u0
    refine ⟨[], 1, ?_, ?_, by simp, by simp⟩
    · unfold ntt_Conv.f; simp only [if_neg h0, if_neg h1, e1, d1]; refine up ?_
      simp only [ntt_Conv.j0, if_neg (show ¬ false = true by simp)]
      refine Ev.bind a0 ?_
      simp only [u0', if_neg (show ¬ false = true by simp)]
      exact Ev.now _
    · unfold anticlineref8_Conv.f; simp only [if_neg h0, if_neg h1, e1, e2, d2]; refine up ?_
      simp only [anticlineref8_Conv.j0, if_neg (show ¬ false = true by simp)]
      refine Ev.bind b0 ?_
      simp only [u0', if_neg (show ¬ false = true by simp)]
      refine up ?_
      simp only [anticlineref8_Conv.j1, if_true]
      exact Ev.now _
end Both
end Go.Proofs.Ytggicfmbdmjhkaa.Pure

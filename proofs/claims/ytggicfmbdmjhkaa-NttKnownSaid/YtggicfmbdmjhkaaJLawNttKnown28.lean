/- Joined texts, 28: NSpecE PureNttProducts. -/
import Derived.Test.YtggicfmbdmjhkaaJLawNttKnown25
import Derived.Test.YtggicfmbdmjhkaaJLawNttKnown26
import Derived.Test.YtggicfmbdmjhkaaJLawNttKnown27
set_option linter.unusedVariables false
set_option linter.unusedSimpArgs false
/- What the products answer. -/
namespace Go.Proofs.Ytggicfmbdmjhkaa.F
open Go.RowKit Go.Proofs.YtggicfmbdmjhkaaW.PrintWords Go.Proofs.YtggicfmbdmjhkaaW.PrintLast Go.Proofs.YtggicfmbdmjhkaaW.PrintMore
open Go.Proofs.Ytggicfmbdmjhkaa.NM (F S pw fp W WI X rev dft conv nf)
set_option linter.unusedVariables false
set_option linter.unusedSimpArgs false
namespace Spec
theorem tr_false (m : Nat) (x : Nat → F) : tr false m x = dft (2 ^ m) (W m) x := by
  funext q; unfold tr lastBy rt
  rw [if_neg (by simp), if_neg (by simp)]; grind
theorem clone (l : List Int) (h : l.length < 35184372088832) : slices_Clone_uint32_uint32.f l = some l := by
  unfold slices_Clone_uint32_uint32.f; rw [if_pos h]
theorem enc_pad {p n : Nat} {a : Nat → F} (ha : ∀ i, p ≤ i → a i = 0) (h : p ≤ n) : enc p a ++ List.replicate (n - p) 0 = enc n a := by
  apply List.ext_getElem
  · simp [enc]; omega
  · intro i h1 h2
    rw [enc_length] at h2
    simp only [enc, List.getElem_map, List.getElem_range]
    by_cases e : i < p
    · rw [List.getElem_append_left (by simpa using e)]; simp
    · rw [List.getElem_append_right (by simp; omega), List.getElem_replicate, ha i (by omega)]; rfl
theorem enc_take {p n : Nat} (a : Nat → F) (h : p ≤ n) : (enc n a).take p = enc p a := by
  unfold enc; rw [← List.map_take, List.take_range, Nat.min_eq_left h]
theorem len_size_ : ∀ a : Nat, a < 32 → ∀ b : Nat, b < 32 → (match bits_Len.f 5 (IntKind.u64.wrap ((32 * a + b : Nat) : Int)) with | some m => decide (0 ≤ m ∧ m < 11 ∧ 32 * a + b < 2 ^ m.toNat) | none => false) = true := by decide +kernel
theorem len_size (n : Nat) (h : n < 1024) : ∃ m : Nat, m < 11 ∧ n < 2 ^ m ∧ bits_Len.f 5 (IntKind.u64.wrap (n : Int)) = some (m : Int) := by
  have := len_size_ (n / 32) (by omega) (n % 32) (by omega)
  rw [Nat.div_add_mod] at this
  cases hb : bits_Len.f 5 (IntKind.u64.wrap (n : Int)) with
  | none => rw [hb] at this; cases this
  | some m =>
    rw [hb] at this
    obtain ⟨h1, h2, h3⟩ := of_decide_eq_true this
    exact ⟨m.toNat, by omega, h3, by rw [Int.toNat_of_nonneg h1]⟩
theorem shl_nat (m : Nat) (h : m < 60) : shl .i64 1 (m : Int) = ((2 ^ m : Nat) : Int) := by
  have : ∀ m : Nat, m < 60 → shl .i64 1 (m : Int) = ((2 ^ m : Nat) : Int) := by decide +kernel
  exact this m h
/-- The middle: number by number, and back. -/
theorem conv_l0 (m : Nat) (hm : m < 11) (n : Nat) (hn : n ≤ 2 ^ m) (A B C : Nat → F) (hC : ∀ i, i < 2 ^ m → A i * B i = dft (2 ^ m) (W m) C i) : ∀ (d i : Nat) (Y : Nat → F), i + d = 2 ^ m →
    (∀ j, j < i → Y j = A j * B j) → (∀ j, i ≤ j → Y j = A j) →
    Ev (fun k => ntt_Conv.l0 k (n : Int) (enc (2 ^ m) Y) (enc (2 ^ m) B) ((2 ^ m : Nat) : Int) i) (enc n C, 0) := by
  have hb : 2 ^ m ≤ 2 ^ 10 := Nat.pow_le_pow_right (by omega) (by omega)
  have hp : 0 < 2 ^ m := Nat.pos_of_ne_zero (by simp)
  intro d
  induction d with
  | zero =>
    intro i Y hi hd _
    refine up ?_
    simp only [ntt_Conv.l0]
    have t := transform m hm true (dft (2 ^ m) (W m) C)
    have hbk := tr_back m hm C
    rw [tr_false] at hbk
    rw [enc_congr hbk] at t
    have e : enc (2 ^ m) Y = enc (2 ^ m) (dft (2 ^ m) (W m) C) := enc_congr fun j hj => by rw [hd j (by omega), hC j hj]
    rw [e]
    generalize 2 ^ m = N at *
    simp only [if_neg (show ¬ (i : Int) < (N : Int) by omega)]
    refine Ev.bind t ?_
    simp only [if_true, if_pos (show (0 : Int) ≤ (n : Int) by omega), enc_length, if_pos (show (n : Int) ≤ (N : Int) by omega), Int.toNat_natCast, enc_take C hn]
    rw [clone _ (by rw [enc_length]; omega)]
    exact Ev.now _
  | succ d ih =>
    intro i Y hi hd hr
    refine up ?_
    simp only [ntt_Conv.l0]
    have := ih (i + 1) (fun q => if q = i then A i * B i else Y q) (by omega) (fun j hj => by
      try dsimp only
      by_cases e : j = i
      · rw [if_pos e, e]
      · rw [if_neg e, hd j (by omega)]) (fun j hj => by
      try dsimp only
      rw [if_neg (by omega), hr j (by omega)])
    generalize 2 ^ m = N at *
    simp only [if_pos (show (i : Int) < (N : Int) by omega), if_pos (show (0 : Int) ≤ (i : Int) by omega), enc_length, rd_enc N _ (i : Int) (by omega) (by omega), Int.toNat_natCast, times, Option.bind_some, hr i (by omega), enc_set, w64 (x := (i : Int) + 1) (by omega) (by omega)]
    exact this
theorem conv_fast (p q : Nat) (hp : 0 < p) (hq : 0 < q) (hpq : p + q ≤ 1025) (a b : Nat → F) (ha : ∀ i, p ≤ i → a i = 0) (hb : ∀ i, q ≤ i → b i = 0) :
    Ev (fun k => ntt_Conv.f k (enc p a) (enc q b)) (enc (p + q - 1) (conv a b), 0) := by
  obtain ⟨m, hm, hlt, hlen⟩ := len_size (p + q - 1 - 1) (by omega)
  have hbd : 2 ^ m ≤ 2 ^ 10 := Nat.pow_le_pow_right (by omega) (by omega)
  unfold ntt_Conv.f
  have e1 : wrap64 ((p : Int) + (q : Int)) = ((p + q : Nat) : Int) := by rw [w64 (by omega) (by omega)]; omega
  have e2 : wrap64 (((p + q : Nat) : Int) - 1) = ((p + q - 1 : Nat) : Int) := by rw [w64 (by omega) (by omega)]; omega
  have e3 : wrap64 (((p + q - 1 : Nat) : Int) - 1) = ((p + q - 1 - 1 : Nat) : Int) := by rw [w64 (by omega) (by omega)]; omega
  simp only [enc_length, if_neg (show ¬ (p : Int) = 0 by omega), if_neg (show ¬ (q : Int) = 0 by omega), e1, show decide (((p + q : Nat) : Int) > 1025) = false from decide_eq_false (by omega)]
  refine up ?_
  simp only [ntt_Conv.j0, if_neg (show ¬ false = true by simp)]
  have wa := whole (enc p a) (enc_wf _ _) (by rw [enc_length]; omega)
  have wb := whole (enc q b) (enc_wf _ _) (by rw [enc_length]; omega)
  rw [enc_under] at wa wb
  refine Ev.bind wa ?_
  simp only [if_true]
  refine Ev.bind wb ?_
  simp only [if_true, enc_length, e1, e2, e3]
  refine Ev.bind (Ev.of (fun k => bits_Len.mono _ k) hlen) ?_
  have t1 := transform m hm false a
  have t2 := transform m hm false b
  rw [tr_false] at t1 t2
  have hc : ∀ i, i < 2 ^ m → dft (2 ^ m) (W m) a i * dft (2 ^ m) (W m) b i = dft (2 ^ m) (W m) (conv a b) i := fun i _ => (NM.dft_conv (W m) ha hb (by omega) i).symm
  have hl := conv_l0 m hm (p + q - 1) (by omega) _ _ _ hc (2 ^ m) 0 (dft (2 ^ m) (W m) a) (by omega) (fun j hj => absurd hj (by omega)) (fun _ _ => rfl)
  simp only [if_pos (show (0 : Int) ≤ (m : Int) by omega), shl_nat m (by omega)]
  generalize 2 ^ m = N at *
  have e4 : wrap64 ((N : Int) - (p : Int)) = ((N - p : Nat) : Int) := by rw [w64 (by omega) (by omega)]; omega
  have e5 : wrap64 ((N : Int) - (q : Int)) = ((N - q : Nat) : Int) := by rw [w64 (by omega) (by omega)]; omega
  simp only [clone (enc p a) (by rw [enc_length]; omega), clone (enc q b) (by rw [enc_length]; omega), Option.bind_some, e4, e5, if_pos (show (0 : Int) ≤ ((N - p : Nat) : Int) by omega), if_pos (show (0 : Int) ≤ ((N - q : Nat) : Int) by omega), Int.toNat_natCast, enc_length,
    if_pos (show p + (N - p) < 35184372088832 by omega), if_pos (show q + (N - q) < 35184372088832 by omega), enc_pad ha (show p ≤ N by omega), enc_pad hb (show q ≤ N by omega)]
  refine Ev.bind t1 (Ev.bind t2 ?_)
  simp only [enc_length]
  exact hl
/-- Rows' products, up to a row. -/
def part (a b : Nat → F) (i k : Nat) : F := S i (fun j => if j ≤ k then a j * b (k - j) else 0)
theorem part_all {p : Nat} {a b : Nat → F} (ha : ∀ i, p ≤ i → a i = 0) (k : Nat) : part a b p k = conv a b k := by
  unfold part conv
  by_cases h : p ≤ k + 1
  · rw [NM.S_cut h (fun i h1 h2 => by rw [ha i h1]; grind)]
    exact NM.S_congr fun i hi => by rw [if_pos (by omega)]
  · rw [NM.S_cut (show k + 1 ≤ p by omega) (fun i h1 h2 => by rw [if_neg (by omega)])]
    exact NM.S_congr fun i hi => by rw [if_pos (by omega)]
end Spec
end Go.Proofs.Ytggicfmbdmjhkaa.F
/- Both products answer alike, whatever comes in. -/
namespace Go.Proofs.Ytggicfmbdmjhkaa.Pure
open Go.RowKit Go.Proofs.Ytggicfmbdmjhkaa.F Go.Proofs.YtggicfmbdmjhkaaW.PrintWords Go.Proofs.YtggicfmbdmjhkaaW.PrintLast Go.Proofs.YtggicfmbdmjhkaaW.PrintMore
open Go.Proofs.Ytggicfmbdmjhkaa.NM (F S pw W WI dft nf conv)
open Go.Proofs.Ytggicfmbdmjhkaa.F.Spec
namespace Both
def cut (p : Nat) (a : Nat → NM.F) (i : Nat) : NM.F := if i < p then a i else 0
theorem enc_nonneg (n : Nat) (a : Nat → NM.F) : ∀ x ∈ enc n a, 0 ≤ x := fun x hx => by
  unfold enc at hx
  obtain ⟨i, _, rfl⟩ := List.mem_map.1 hx
  exact v_nonneg _
end Both
end Go.Proofs.Ytggicfmbdmjhkaa.Pure

/- Rules of transforms: the law's answer. -/
import Derived.Test.YtbmmjnmfinjdeaaF9
import Derived.Test.YtbmmjnmfinjdeaaNSpecE
namespace Go.Proofs.Ytbmmjnmfinjdeaa.Pure
open Go.RowKit Go.Proofs.Ytbmmjnmfinjdeaa.F Go.Proofs.YtbmmjnmfinjdeaaW.PrintWords Go.Proofs.YtbmmjnmfinjdeaaW.PrintLast Go.Proofs.YtbmmjnmfinjdeaaW.PrintMore
open Go.Proofs.Ytbmmjnmfinjdeaa.NM (F S pw W WI dft nf conv)
open Go.Proofs.Ytbmmjnmfinjdeaa.F.Spec
def cut (p : Nat) (a : Nat → NM.F) (i : Nat) : NM.F := if i < p then a i else 0
theorem cut_enc (p : Nat) (a : Nat → NM.F) : enc p a = enc p (cut p a) := enc_congr fun i hi => by unfold cut; rw [if_pos hi]
theorem cut_over (p : Nat) (a : Nat → NM.F) (i : Nat) (h : p ≤ i) : cut p a i = 0 := by unfold cut; rw [if_neg (by omega)]
theorem cut_row (l : List Int) (hl : ∀ x ∈ l, (Lit.int .u32 x).wf = true) (p : Nat) (hp : p < 100000) : Ev (fun k => anticlinelaw8_Row.f k l (p : Int)) (enc p (cut p (rowF l))) := by
  have := row l hl (p : Int) (by omega) (by omega)
  rwa [Int.toNat_natCast, cut_enc] at this
theorem sum_mod (y z : NM.F) : ((v y + v z) % 4294967296) % 998244353 = v (y + z) := by
  have g0 := v_nonneg y; have g1 := v_lt y; have g2 := v_nonneg z; have g3 := v_lt z
  rw [v_add]; omega
theorem rules_l1 (m : Nat) (hm : m < 7) (A B C D : Nat → NM.F) (h1 : ∀ i, A i * B i = C i) (h2 : ∀ i, A i + B i = D i) : ∀ (d i : Nat), i + d = 2 ^ m →
    Ev (fun k => anticlinelaw8_NttRules.l1 k ((2 ^ m : Nat) : Int) (enc (2 ^ m) A) (enc (2 ^ m) B) (enc (2 ^ m) C) (enc (2 ^ m) D) i) true := by
  have hb : 2 ^ m ≤ 2 ^ 6 := Nat.pow_le_pow_right (by omega) (by omega)
  generalize 2 ^ m = n at *
  intro d
  induction d with
  | zero =>
    intro i hi
    refine up ?_
    simp only [anticlinelaw8_NttRules.l1]
    simp only [if_neg (show ¬ (i : Int) < (n : Int) by omega)]
    exact Ev.now _
  | succ d ih =>
    intro i hi
    refine up ?_
    simp only [anticlinelaw8_NttRules.l1]
    have e3 : ∀ y : NM.F, IntKind.u64.wrap (v y) = v y := fun y => u64w (v_nonneg y) (by have := v_lt y; omega)
    have e6 : ∀ y z : NM.F, Int.tmod (IntKind.u64.wrap (v y * v z)) 998244353 = v (y * z) := fun y z => by
      have := mulmod y z
      rwa [e3, e3] at this
    simp only [if_pos (show (i : Int) < (n : Int) by omega), if_pos (show (0 : Int) ≤ (i : Int) by omega), enc_length, rd_enc n _ (i : Int) (by omega) (by omega), Int.toNat_natCast, e6, sum_mod, h1, h2, e3, if_true, w64 (x := (i : Int) + 1) (by omega) (by omega)]
    exact ih (i + 1) (by omega)
theorem rules_l0 (m : Nat) (hm : m < 7) (p q : Nat) (hp : 0 < p) (hq : 0 < q) (hpq : p + q ≤ 2 ^ m) (a b : Nat → NM.F) (ha : ∀ i, p ≤ i → a i = 0) (hb : ∀ i, q ≤ i → b i = 0) : ∀ (d i : Nat), i + d = 2 ^ m →
    Ev (fun k => anticlinelaw8_NttRules.l0 k ((2 ^ m : Nat) : Int) (enc p a) (enc q b) (enc (p + q - 1) (conv a b)) (enc i a) (enc i b) (enc i (conv a b)) (enc i (fun j => a j + b j)) i) true := by
  have hbd : 2 ^ m ≤ 2 ^ 6 := Nat.pow_le_pow_right (by omega) (by omega)
  have t1 := transform m (by omega) false a
  have t2 := transform m (by omega) false b
  have t3 := transform m (by omega) false (conv a b)
  have t4 := transform m (by omega) false (fun j => a j + b j)
  rw [tr_false] at t1 t2 t3 t4
  have hab : ∀ i, p + q - 1 ≤ i → conv a b i = 0 := fun i hi => NM.conv_over ha hb i (by omega)
  have hl := rules_l1 m hm (dft (2 ^ m) (W m) a) (dft (2 ^ m) (W m) b) (dft (2 ^ m) (W m) (conv a b)) (dft (2 ^ m) (W m) (fun j => a j + b j)) (fun i => (NM.dft_conv (W m) ha hb (by omega) i).symm) (fun i => (NM.dft_add (2 ^ m) (W m) a b i).symm) (2 ^ m) 0 (by omega)
  generalize 2 ^ m = n at *
  intro d
  induction d with
  | zero =>
    intro i hi
    obtain rfl : i = n := by omega
    refine up ?_
    simp only [anticlinelaw8_NttRules.l0]
    simp only [if_neg (show ¬ (i : Int) < (i : Int) by omega)]
    refine Ev.bind t1 (Ev.bind t2 (Ev.bind t3 (Ev.bind t4 ?_)))
    simp only [if_true, enc_length]
    exact hl
  | succ d ih =>
    intro i hi
    refine up ?_
    simp only [anticlinelaw8_NttRules.l0]
    simp only [if_pos (show (i : Int) < (n : Int) by omega), enc_length, if_pos (show (0 : Int) ≤ (i : Int) by omega)]
    have next := ih (i + 1) (by omega)
    rw [enc_succ, enc_succ, enc_succ, enc_succ] at next
    have j4 : Ev (fun k => anticlinelaw8_NttRules.j3 k (n : Int) (enc p a) (enc q b) (enc (p + q - 1) (conv a b)) (enc i a) (enc i b) (enc i (conv a b)) (enc i (fun j => a j + b j)) i (v (a i)) (v (b i)) (v (conv a b i))) true := by
      refine up ?_
      simp only [anticlinelaw8_NttRules.j3, enc_length, if_pos (show i < 35184372088832 by omega), sum_mod, w64 (x := (i : Int) + 1) (by omega) (by omega)]
      exact next
    have j3 : Ev (fun k => anticlinelaw8_NttRules.j2 k (n : Int) (enc p a) (enc q b) (enc (p + q - 1) (conv a b)) (enc i a) (enc i b) (enc i (conv a b)) (enc i (fun j => a j + b j)) i (v (a i)) (v (b i)) 0) true := by
      refine up ?_
      simp only [anticlinelaw8_NttRules.j2, enc_length]
      by_cases h : (i : Int) < ((p + q - 1 : Nat) : Int)
      · simp only [if_pos h, if_pos (show (0 : Int) ≤ (i : Int) by omega), rd_enc (p + q - 1) _ (i : Int) (by omega) h, Int.toNat_natCast]
        exact j4
      · simp only [if_neg h]
        have : (0 : Int) = v (conv a b i) := by rw [hab i (by omega)]; rfl
        rw [this]
        exact j4
    have j2 : Ev (fun k => anticlinelaw8_NttRules.j1 k (n : Int) (enc p a) (enc q b) (enc (p + q - 1) (conv a b)) (enc i a) (enc i b) (enc i (conv a b)) (enc i (fun j => a j + b j)) i (v (a i)) 0 0) true := by
      refine up ?_
      simp only [anticlinelaw8_NttRules.j1, enc_length]
      by_cases h : (i : Int) < (q : Int)
      · simp only [if_pos h, if_pos (show (0 : Int) ≤ (i : Int) by omega), rd_enc q _ (i : Int) (by omega) h, Int.toNat_natCast]
        exact j3
      · simp only [if_neg h]
        rw [hb i (by omega), v_zero] at j3
        exact j3
    by_cases h : (i : Int) < (p : Int)
    · simp only [if_pos h, rd_enc p _ (i : Int) (by omega) h, Int.toNat_natCast]
      exact j2
    · simp only [if_neg h]
      rw [ha i (by omega), v_zero] at j2
      exact j2
theorem both_lengths (p q : Nat) (h0 : 0 < p) (h : p + q ≤ 2000) : wrap64 (wrap64 ((p : Int) + (q : Int)) - 1) = ((p + q - 1 : Nat) : Int) := by
  rw [w64 (x := (p : Int) + (q : Int)) (by omega) (by omega), w64 (by omega) (by omega)]; omega
theorem NttRules : anticlinelaw8_NttRules.Pure := by
  intro l0 l1 a2 a3 a4 _ _ h0 _ _ h1 w2 w3 w4
  refine Ev.rounds ?_
  unfold anticlinelaw8_NttRules.f
  refine Ev.bind known ?_
  simp only [if_true]
  have d1 := within a2 5 (by omega) (by omega)
  obtain ⟨m, hm, hm0, hm1⟩ : ∃ m : Nat, wrap64 (1 + a2 % 5) = m ∧ 0 < m ∧ m ≤ 5 := ⟨(1 + a2 % 5).toNat, by rw [w64 (by omega) (by omega)]; omega, by omega, by omega⟩
  have hbd : 2 ^ m ≤ 2 ^ 6 := Nat.pow_le_pow_right (by omega) (by omega)
  have hu : 0 ≤ IntKind.u64.wrap (m : Int) := by rw [u64w (by omega) (by omega)]; omega
  have hhalf : 2 ^ m = 2 * 2 ^ (m - 1) := by
    obtain ⟨j, rfl⟩ : ∃ j, m = j + 1 := ⟨m - 1, by omega⟩
    rw [Nat.pow_succ, Nat.add_sub_cancel]; omega
  have hpos : 0 < 2 ^ (m - 1) := Nat.pos_of_ne_zero (by simp)
  have lz : ∀ (p q : Nat), 0 < p → 0 < q → p + q ≤ 2 ^ m → ∀ (a b : Nat → NM.F), (∀ i, p ≤ i → a i = 0) → (∀ i, q ≤ i → b i = 0) →
      Ev (fun k => anticlinelaw8_NttRules.l0 k ((2 ^ m : Nat) : Int) (enc p a) (enc q b) (enc (p + q - 1) (conv a b)) [] [] [] [] 0) true := fun p q hp hq hpq a b ha hb => by
    have e0 : ∀ x, enc 0 x = [] := fun _ => rfl
    have := rules_l0 m (by omega) p q hp hq hpq a b ha hb (2 ^ m) 0 (by omega)
    rw [e0, e0, e0, e0] at this
    exact this
  have hs := Aside0.mk (shl_one m (by omega))
  generalize hH : 2 ^ (m - 1) = H at *
  generalize hN : 2 ^ m = N at *
  have ht : Aside0 (wrap64 (Int.tdiv ((N : Nat) : Int) 2) = (H : Int)) := ⟨by
    rw [Int.tdiv_eq_ediv_of_nonneg (by omega), w64 (by omega) (by omega)]; omega⟩
  have d2 := within a3 (H : Int) (by omega) (by omega)
  have d3 := within a4 (H : Int) (by omega) (by omega)
  have hHne : (H : Int) ≠ 0 := by omega
  have hHp : (0 : Int) < (H : Int) := by omega
  have m3 := Int.emod_nonneg a3 hHne
  have m4 := Int.emod_nonneg a4 hHne
  have n3 := Int.emod_lt_of_pos a3 hHp
  have n4 := Int.emod_lt_of_pos a4 hHp
  generalize a3 % (H : Int) = u3 at *
  generalize a4 % (H : Int) = u4 at *
  obtain ⟨p, hp, hp0, hp1⟩ : ∃ p : Nat, wrap64 (1 + u3) = p ∧ 0 < p ∧ p ≤ H := ⟨(1 + u3).toNat, by rw [w64 (by omega) (by omega)]; omega, by omega, by omega⟩
  obtain ⟨q, hq, hq0, hq1⟩ : ∃ q : Nat, wrap64 (1 + u4) = q ∧ 0 < q ∧ q ≤ H := ⟨(1 + u4).toNat, by rw [w64 (by omega) (by omega)]; omega, by omega, by omega⟩
  simp only [d1, Option.bind_some, hm, if_pos hu, hs.out, ht.out, d2, d3, hp, hq]
  clear hm hp hq hu d1 d2 d3 hs ht
  refine Ev.bind (cut_row l0 h0 p (by omega)) (Ev.bind (cut_row l1 h1 q (by omega)) ?_)
  have ha := cut_over p (rowF l0); have hb := cut_over q (rowF l1)
  generalize cut p (rowF l0) = a at *
  generalize cut q (rowF l1) = b at *
  refine Ev.bind (conv_fast p q hp0 hq0 (by omega) a b ha hb) ?_
  have e2 := both_lengths p q hp0 (by omega)
  simp only [if_true, enc_length, e2]
  exact lz p q hp0 hq0 (by omega) a b ha hb
end Go.Proofs.Ytbmmjnmfinjdeaa.Pure

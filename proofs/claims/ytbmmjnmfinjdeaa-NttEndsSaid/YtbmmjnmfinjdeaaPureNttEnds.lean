/- Ends: the law's answer. -/
import Derived.Test.YtbmmjnmfinjdeaaF6
import Derived.Test.YtbmmjnmfinjdeaaNSpecD
namespace Go.Proofs.Ytbmmjnmfinjdeaa.Pure
open Go.RowKit Go.Proofs.Ytbmmjnmfinjdeaa.F Go.Proofs.YtbmmjnmfinjdeaaW.PrintWords Go.Proofs.YtbmmjnmfinjdeaaW.PrintLast Go.Proofs.YtbmmjnmfinjdeaaW.PrintMore
open Go.Proofs.Ytbmmjnmfinjdeaa.NM (F S pw W WI dft nf)
open Go.Proofs.Ytbmmjnmfinjdeaa.F.Spec
theorem tr_false (m : Nat) (x : Nat → NM.F) : tr false m x = dft (2 ^ m) (W m) x := by
  funext q; unfold tr lastBy rt
  rw [if_neg (by simp), if_neg (by simp)]; grind
theorem ends_l1 (n : Nat) (hn : n ≤ 1024) (x : Nat → NM.F) (h1 : ∀ i, i < n → x i = 1) : ∀ (d i : Nat), i + d = n →
    Ev (fun k => anticlinelaw8_NttEnds.l1 k (n : Int) (enc n x) i) true := by
  intro d
  induction d with
  | zero =>
    intro i hi
    refine up ?_
    simp only [anticlinelaw8_NttEnds.l1]
    simp only [if_neg (show ¬ (i : Int) < (n : Int) by omega)]
    exact Ev.now _
  | succ d ih =>
    intro i hi
    refine up ?_
    simp only [anticlinelaw8_NttEnds.l1]
    simp only [if_pos (show (i : Int) < (n : Int) by omega), enc_length, if_pos (show (0 : Int) ≤ (i : Int) by omega), rd_enc n _ (i : Int) (by omega) (by omega), Int.toNat_natCast, h1 i (by omega), v_one, if_true, w64 (x := (i : Int) + 1) (by omega) (by omega)]
    exact ih (i + 1) (by omega)
theorem ends_l0 (m : Nat) (hm : m < 9) (x : Nat → NM.F) : ∀ (d i : Nat), i + d = 2 ^ m →
    Ev (fun k => anticlinelaw8_NttEnds.l0 k ((2 ^ m : Nat) : Int) (enc (2 ^ m) x) (v (S i x)) i) true := by
  have hb : 2 ^ m ≤ 2 ^ 8 := Nat.pow_le_pow_right (by omega) (by omega)
  have hp : 0 < 2 ^ m := Nat.pos_of_ne_zero (by simp)
  have t1 := transform m (by omega) false x
  have t2 := transform m (by omega) false (fun j => if j = 0 then 1 else 0)
  rw [tr_false] at t1 t2
  have hone := fun k => NM.dft_one (2 ^ m) hp (W m) k
  have hfirst := NM.dft_first (2 ^ m) (W m) x
  have hl1 := ends_l1 (2 ^ m) (by omega) (dft (2 ^ m) (W m) (fun j => if j = 0 then 1 else 0)) (fun i _ => hone i) (2 ^ m) 0 (by omega)
  have e3 : ∀ y : NM.F, IntKind.u64.wrap (v y) = v y := fun y => u64w (v_nonneg y) (by have := v_lt y; omega)
  generalize hn : 2 ^ m = n at *
  intro d
  induction d with
  | zero =>
    intro i hi
    obtain rfl : i = n := by omega
    refine up ?_
    simp only [anticlinelaw8_NttEnds.l0]
    simp only [if_neg (show ¬ (i : Int) < (i : Int) by omega)]
    refine Ev.bind t1 ?_
    have ez : (List.replicate (i : Int).toNat (0 : Int)).set (0 : Int).toNat 1 = enc i (fun j => if j = 0 then 1 else 0) := by
      rw [Int.toNat_natCast, enc_zero, show ((0 : Int).toNat) = 0 from rfl, ← v_one, enc_set]
    simp only [if_pos (show (0 : Int) ≤ (i : Int) by omega), if_pos (show (i : Int).toNat ≤ 70368744177664 by omega), Option.bind_some, List.length_replicate, if_pos (show (0 : Int) < ((i : Int).toNat : Int) by omega), ez]
    refine Ev.bind t2 ?_
    have e4 : rd (enc i (dft i (W m) x)) 0 = v (S i x) := by
      rw [rd_enc i _ 0 (by omega) (by omega), ← hfirst]; rfl
    simp only [if_true, enc_length, if_pos (show (0 : Int) < (i : Int) by omega), e4, e3, bne_self_eq_false]
    refine up ?_
    simp only [anticlinelaw8_NttEnds.j1]
    simp only [if_neg (show ¬ false = true by simp)]
    exact hl1
  | succ d ih =>
    intro i hi
    refine up ?_
    simp only [anticlinelaw8_NttEnds.l0]
    have g0 := v_nonneg (S i x); have g1 := v_lt (S i x); have g2 := v_nonneg (x i); have g3 := v_lt (x i)
    have e1 : Int.tmod (IntKind.u64.wrap (v (S i x) + v (x i))) 998244353 = v (S (i + 1) x) := by
      rw [u64w (by omega) (by omega), tmod_p (by omega), NM.S_succ, v_add]
    simp only [if_pos (show (i : Int) < (n : Int) by omega), enc_length, if_pos (show (0 : Int) ≤ (i : Int) by omega), rd_enc n _ (i : Int) (by omega) (by omega), Int.toNat_natCast, e3, e1, w64 (x := (i : Int) + 1) (by omega) (by omega)]
    exact ih (i + 1) (by omega)
theorem NttEnds : anticlinelaw8_NttEnds.Pure := by
  intro l0 a1 _ _ hl w1
  refine Ev.rounds ?_
  unfold anticlinelaw8_NttEnds.f
  refine Ev.bind known ?_
  simp only [if_true]
  have e7 := within a1 8 (by omega) (by omega)
  obtain ⟨m, hm⟩ : ∃ m : Nat, a1 % 8 = m := ⟨(a1 % 8).toNat, by omega⟩
  have h0 : 0 ≤ IntKind.u64.wrap (m : Int) := by rw [u64w (by omega) (by omega)]; omega
  rw [hm] at e7
  simp only [e7, Option.bind_some, if_pos h0, shl_one m (by omega)]
  have hb : 2 ^ m ≤ 2 ^ 8 := Nat.pow_le_pow_right (by omega) (by omega)
  have hr := row l0 hl ((2 ^ m : Nat) : Int) (Int.natCast_nonneg _) (by omega)
  rw [Int.toNat_natCast] at hr
  refine Ev.bind hr ?_
  exact ends_l0 m (by omega) (rowF l0) (2 ^ m) 0 (by omega)
end Go.Proofs.Ytbmmjnmfinjdeaa.Pure

/- Turns: the law's answer. -/
import Derived.Test.YtbmmjnmfinjdeaaF5
import Derived.Test.YtbmmjnmfinjdeaaNSpecD
namespace Go.Proofs.Ytbmmjnmfinjdeaa.Pure
open Go.RowKit Go.Proofs.Ytbmmjnmfinjdeaa.F Go.Proofs.YtbmmjnmfinjdeaaW.PrintWords Go.Proofs.YtbmmjnmfinjdeaaW.PrintLast Go.Proofs.YtbmmjnmfinjdeaaW.PrintMore
open Go.Proofs.Ytbmmjnmfinjdeaa.NM (F S pw W WI dft nf)
open Go.Proofs.Ytbmmjnmfinjdeaa.F.Spec
theorem tr_false (m : Nat) (x : Nat → NM.F) : tr false m x = dft (2 ^ m) (W m) x := by
  funext q; unfold tr lastBy rt
  rw [if_neg (by simp), if_neg (by simp)]; grind
theorem turns_l1 (m : Nat) (hm : m < 8) (x T U V : Nat → NM.F) (h1 : ∀ i, i < 2 ^ m → U i = T i * pw (W m) i) (h2 : ∀ i, i < 2 ^ m → V i = x ((2 ^ m - i) % 2 ^ m) * nf (2 ^ m)) :
    ∀ (d i : Nat), i + d = 2 ^ m → Ev (fun k => anticlinelaw8_NttTurns.l1 k ((2 ^ m : Nat) : Int) (enc (2 ^ m) x) (enc (2 ^ m) T) (enc (2 ^ m) U) (enc (2 ^ m) V) (v (W m)) i) true := by
  have hb : 2 ^ m ≤ 2 ^ 7 := Nat.pow_le_pow_right (by omega) (by omega)
  have hp : 0 < 2 ^ m := Nat.pos_of_ne_zero (by simp)
  generalize hn : 2 ^ m = n at *
  intro d
  induction d with
  | zero =>
    intro i hi
    refine up ?_
    simp only [anticlinelaw8_NttTurns.l1]
    simp only [if_neg (show ¬ (i : Int) < (n : Int) by omega)]
    exact Ev.now _
  | succ d ih =>
    intro i hi
    refine up ?_
    simp only [anticlinelaw8_NttTurns.l1]
    have hd : (n - i) % n < n := Nat.mod_lt _ hp
    have e1 : Int.tmod (wrap64 ((n : Int) - (i : Int))) (n : Int) = (((n - i) % n : Nat) : Int) := by
      rw [w64 (by omega) (by omega), Int.tmod_eq_emod_of_nonneg (by omega), show (n : Int) - (i : Int) = ((n - i : Nat) : Int) by omega]; rfl
    simp only [if_pos (show (i : Int) < (n : Int) by omega), enc_length, if_pos (show (0 : Int) ≤ (i : Int) by omega), e1, rd_enc n _ (i : Int) (by omega) (by omega), rd_enc n _ (((n - i) % n : Nat) : Int) (by omega) (by omega), Int.toNat_natCast, if_neg (show ¬ (n : Int) = 0 by omega),
      if_pos (show (0 : Int) ≤ (((n - i) % n : Nat) : Int) by omega), if_pos (show (((n - i) % n : Nat) : Int) < (n : Int) by omega)]
    have hpw := rpow (W m) (i : Int) (by omega) (by omega) (v (W m)) (v_tmod _)
    rw [if_neg (by omega), Int.toNat_natCast] at hpw
    refine Ev.bind hpw ?_
    have e2 : IntKind.u64.wrap (n : Int) = IntKind.u64.wrap (v (nf n)) := by
      rw [v_nf, Nat.mod_eq_of_lt (by omega)]
    have e3 : ∀ y : NM.F, IntKind.u64.wrap (v y) = v y := fun y => u64w (v_nonneg y) (by have := v_lt y; omega)
    have e4 : Int.tmod (IntKind.u64.wrap ((IntKind.u64.wrap (v (T i))) * (IntKind.u64.wrap (v (pw (W m) i))))) 998244353 = IntKind.u64.wrap (v (U i)) := by
      rw [mulmod, e3, h1 i (by omega)]
    have e5 : IntKind.u64.wrap (v (V i)) = Int.tmod (IntKind.u64.wrap ((IntKind.u64.wrap (v (x ((n - i) % n)))) * (IntKind.u64.wrap (n : Int)))) 998244353 := by
      rw [e2, mulmod, e3, h2 i (by omega)]
    simp only [if_pos e4, if_pos e5, w64 (x := (i : Int) + 1) (by omega) (by omega)]
    exact ih (i + 1) (by omega)
theorem turns_l0 (m : Nat) (hm : m < 8) (x : Nat → NM.F) : ∀ (d i : Nat), i + d = 2 ^ m →
    Ev (fun k => anticlinelaw8_NttTurns.l0 k ((2 ^ m : Nat) : Int) (enc (2 ^ m) x) (enc i (fun i => x ((i + 2 ^ m - 1) % 2 ^ m))) i) true := by
  have hb : 2 ^ m ≤ 2 ^ 7 := Nat.pow_le_pow_right (by omega) (by omega)
  have hp : 0 < 2 ^ m := Nat.pos_of_ne_zero (by simp)
  have hmove := fun k => NM.dft_moved m (W m) (rt_one m (by omega)) x k
  have htwice := fun i hi => NM.dft_twice m (W m) (fun j hj => by subst hj; exact NM.W_neg j (by omega)) (fun h => by subst h; exact NM.W_one) x i hi
  have t1 := transform m (by omega) false x
  have t2 := transform m (by omega) false (fun i => x ((i + 2 ^ m - 1) % 2 ^ m))
  have t3 := transform m (by omega) false (dft (2 ^ m) (W m) x)
  have hl1 := turns_l1 m hm x (dft (2 ^ m) (W m) x) (dft (2 ^ m) (W m) (fun i => x ((i + 2 ^ m - 1) % 2 ^ m))) (dft (2 ^ m) (W m) (dft (2 ^ m) (W m) x)) (fun i _ => hmove i) (fun i hi => htwice i hi) (2 ^ m) 0 (by omega)
  rw [tr_false] at t1 t2 t3
  have hw : W m = pw 3 (998244352 / 2 ^ m) := rfl
  generalize hn : 2 ^ m = n at *
  have hq2 : 998244352 / n ≤ 998244352 := Nat.div_le_self _ _
  have hroot : Ev (fun k => anticlineref8_Pow.f k 3 (wrap64 (Int.tdiv (998244352 : Int) (n : Int)))) (v (W m)) := by
    have e : Int.tdiv (998244352 : Int) (n : Int) = ((998244352 / n : Nat) : Int) := by
      rw [Int.tdiv_eq_ediv_of_nonneg (by omega)]; exact (Int.natCast_ediv 998244352 n).symm
    rw [e, hw]
    generalize 998244352 / n = q at hq2
    rw [w64 (by omega) (by omega)]
    have := rpow 3 (q : Int) (by omega) (by omega) 3 rfl
    rwa [if_neg (by omega), Int.toNat_natCast] at this
  intro d
  induction d with
  | zero =>
    intro i hi
    obtain rfl : i = n := by omega
    refine up ?_
    simp only [anticlinelaw8_NttTurns.l0]
    simp only [if_neg (show ¬ (i : Int) < (i : Int) by omega)]
    refine Ev.bind t1 (Ev.bind t2 (Ev.bind t3 ?_))
    simp only [if_true, enc_length]
    refine up ?_
    simp only [anticlinelaw8_NttTurns.j1]
    simp only [bne_self_eq_false, if_neg (show ¬ false = true by simp), if_neg (show ¬ (i : Int) = 0 by omega)]
    exact Ev.bind hroot hl1
  | succ d ih =>
    intro i hi
    refine up ?_
    simp only [anticlinelaw8_NttTurns.l0]
    have hd : (i + n - 1) % n < n := Nat.mod_lt _ hp
    have e1 : Int.tmod (wrap64 (wrap64 ((i : Int) + (n : Int)) - 1)) (n : Int) = (((i + n - 1) % n : Nat) : Int) := by
      rw [w64 (x := (i : Int) + (n : Int)) (by omega) (by omega), w64 (by omega) (by omega), Int.tmod_eq_emod_of_nonneg (by omega), show (i : Int) + (n : Int) - 1 = ((i + n - 1 : Nat) : Int) by omega]; rfl
    simp only [if_pos (show (i : Int) < (n : Int) by omega), enc_length, e1, rd_enc n _ (((i + n - 1) % n : Nat) : Int) (by omega) (by omega), Int.toNat_natCast, if_neg (show ¬ (n : Int) = 0 by omega),
      if_pos (show (0 : Int) ≤ (((i + n - 1) % n : Nat) : Int) by omega), if_pos (show (((i + n - 1) % n : Nat) : Int) < (n : Int) by omega), if_pos (show i < 35184372088832 by omega), w64 (x := (i : Int) + 1) (by omega) (by omega)]
    have := ih (i + 1) (by omega)
    rw [enc_succ] at this
    exact this
theorem NttTurns : anticlinelaw8_NttTurns.Pure := by
  intro l0 a1 _ _ hl w1
  refine Ev.rounds ?_
  unfold anticlinelaw8_NttTurns.f
  refine Ev.bind known ?_
  simp only [if_true]
  have e7 := within a1 7 (by omega) (by omega)
  obtain ⟨m, hm⟩ : ∃ m : Nat, a1 % 7 = m := ⟨(a1 % 7).toNat, by omega⟩
  have h0 : 0 ≤ IntKind.u64.wrap (m : Int) := by rw [u64w (by omega) (by omega)]; omega
  rw [hm] at e7
  simp only [e7, Option.bind_some, if_pos h0, shl_one m (by omega)]
  have hb : 2 ^ m ≤ 2 ^ 7 := Nat.pow_le_pow_right (by omega) (by omega)
  have hr := row l0 hl ((2 ^ m : Nat) : Int) (Int.natCast_nonneg _) (by omega)
  rw [Int.toNat_natCast] at hr
  refine Ev.bind hr ?_
  exact turns_l0 m (by omega) (rowF l0) (2 ^ m) 0 (by omega)
end Go.Proofs.Ytbmmjnmfinjdeaa.Pure

/- Powers: the law's answer. -/
import Derived.Test.YtbmmjnmfinjdeaaF2
import Derived.Test.YtbmmjnmfinjdeaaNSpecB
namespace Go.Proofs.Ytbmmjnmfinjdeaa.Pure
open Go.RowKit Go.Proofs.Ytbmmjnmfinjdeaa.F Go.Proofs.YtbmmjnmfinjdeaaW.PrintWords Go.Proofs.YtbmmjnmfinjdeaaW.PrintLast Go.Proofs.YtbmmjnmfinjdeaaW.PrintMore
open Go.Proofs.Ytbmmjnmfinjdeaa.NM (F pw nf)
open Go.Proofs.Ytbmmjnmfinjdeaa.F.Spec
theorem both (a : NM.F) (x n : Int) (hx : Int.tmod x 998244353 = v a) (h0 : -9223372036854775808 < n) (h1 : n < 9223372036854775808) : ∃ y, Ev (fun k => ntt_Pow.f k x n) (v y) ∧ Ev (fun k => anticlineref8_Pow.f k x n) (v y) ∧
    y = (if n < 0 then pw (pw a 998244351) (-n).toNat else pw a n.toNat) :=
  ⟨_, pow a n h0 h1 x hx, rpow a n h0 h1 x hx, rfl⟩
theorem prod (a : NM.F) (n : Int) : (if n < 0 then pw (pw a 998244351) (-n).toNat else pw a n.toNat) * (if -n < 0 then pw (pw a 998244351) (- -n).toNat else pw a (-n).toNat) =
    if a = 0 then (if n = 0 then 1 else 0) else 1 := by
  have h0 : ∀ m : Nat, 0 < m → pw (0 : NM.F) m = 0 := fun m hm => by
    obtain ⟨j, rfl⟩ : ∃ j, m = j + 1 := ⟨m - 1, by omega⟩
    rw [NM.pw_succ]; grind
  have hp : ∀ m : Nat, pw (pw a 998244351) m * pw a m = if a = 0 then (if m = 0 then 1 else 0) else 1 := fun m => by
    rw [← NM.mul_pw, ← NM.pw_succ]
    by_cases ha : a = 0
    · rw [if_pos ha, ha]
      by_cases hm : m = 0
      · rw [if_pos hm, hm, NM.pw_zero]
      · rw [if_neg hm, h0 _ (by omega), h0 _ (by omega)]
    · rw [if_neg ha, NM.fermat a ha, NM.one_pw]
  rcases Int.lt_trichotomy n 0 with h | h | h
  · rw [if_pos h, if_neg (by omega), hp]
    have : ((-n).toNat = 0) = (n = 0) := by apply propext; omega
    simp only [this]
  · subst h
    simp only [NM.pw_zero, if_true, Int.neg_zero, Int.toNat_zero, if_neg (show ¬ (0 : Int) < 0 by omega)]
    split <;> grind
  · rw [if_neg (by omega), if_pos (by omega), show - -n = n from by omega]
    have e := hp n.toNat
    have : (n.toNat = 0) = (n = 0) := by apply propext; omega
    simp only [this] at e
    rw [← e]; grind
theorem NttPowers : anticlinelaw8_NttPowers.Pure := by
  intro a0 a1 a2 w0 w1 w2
  have r0 := u32_of w0; have r1 := i64_of w1; have r2 := i64_of w2
  obtain ⟨a, ha⟩ : ∃ a : NM.F, Int.tmod a0 998244353 = v a := ⟨_, val a0 r0.1 r0.2⟩
  have b1 := tmod_cases a1 1099511627776 (by omega)
  have b2 := tmod_cases a2 1000 (by omega)
  have c1 := Int.emod_nonneg a1 (b := 1099511627776) (by omega)
  have c2 := Int.emod_nonneg a2 (b := 1000) (by omega)
  have d1 := Int.emod_lt_of_pos a1 (b := 1099511627776) (by omega)
  have d2 := Int.emod_lt_of_pos a2 (b := 1000) (by omega)
  generalize hn : Int.tmod a1 1099511627776 = n at b1
  generalize hm : Int.tmod a2 1000 = m at b2
  obtain ⟨y1, p1, q1, _⟩ := both a a0 n ha (by omega) (by omega)
  obtain ⟨y2, p2, q2, e2⟩ := both a a0 m ha (by omega) (by omega)
  obtain ⟨y3, p3, _, e3⟩ := both a a0 (-m) ha (by omega) (by omega)
  refine Ev.rounds ?_
  unfold anticlinelaw8_NttPowers.f
  rw [hn, hm]
  refine Ev.bind known ?_
  simp only [if_true]
  refine Ev.bind p1 (Ev.bind q1 ?_)
  simp only [if_true]
  refine Ev.bind p2 (Ev.bind q2 ?_)
  have hpr := prod a m
  rw [← e2, ← e3] at hpr
  have hc : (Int.tmod (IntKind.u64.wrap ((IntKind.u64.wrap (v y3)) * (IntKind.u64.wrap (v y2)))) 998244353 == 1) = decide (if a = 0 then m = 0 else True) := by
    rw [mulmod, show y3 * y2 = y2 * y3 from by grind, hpr]
    by_cases za : a = 0
    · rw [if_pos za]; simp only [if_pos za]
      by_cases zm : m = 0
      · simp [if_pos zm, v_one, zm]
      · simp [if_neg zm, v_zero, zm]
    · rw [if_neg za]; simp only [if_neg za]; rfl
  refine Ev.step (f := fun k => (ntt_Pow.f k a0 (-m)).bind fun t141 => ((ntt_Pow.f k a0 m).bind fun t142 => (if (Int.tmod a0 998244353) = 0 then (if ((m == 0) == ((Int.tmod (IntKind.u64.wrap ((IntKind.u64.wrap (t141)) * (IntKind.u64.wrap (t142)))) 998244353) == 1)) = true then (some true) else (none)) else (some ((Int.tmod (IntKind.u64.wrap ((IntKind.u64.wrap (t141)) * (IntKind.u64.wrap (t142)))) 998244353) == 1))))) (fun k => by
    rw [anticlinelaw8_NttPowers.j0, if_neg (by simp), w64 (x := -m) (by omega) (by omega)]) ?_
  refine Ev.bind p3 (Ev.bind p2 ?_)
  rw [hc, ha]
  by_cases za : a = 0
  · rw [if_pos (by rw [za]; rfl)]
    simp only [if_pos za]
    rw [if_pos (by by_cases zm : m = 0 <;> simp [zm])]
    exact Ev.now _
  · rw [if_neg (fun h => za (v_inj (h.trans v_zero.symm)))]
    simp only [if_neg za]
    exact Ev.now _
end Go.Proofs.Ytbmmjnmfinjdeaa.Pure

/- The order of products: the law's answer. -/
import Derived.Test.YtbmmjnmfinjdeaaF10
import Derived.Test.YtbmmjnmfinjdeaaNSpecE
namespace Go.Proofs.Ytbmmjnmfinjdeaa.Pure
open Go.RowKit Go.Proofs.Ytbmmjnmfinjdeaa.F Go.Proofs.YtbmmjnmfinjdeaaW.PrintWords Go.Proofs.YtbmmjnmfinjdeaaW.PrintLast Go.Proofs.YtbmmjnmfinjdeaaW.PrintMore
open Go.Proofs.Ytbmmjnmfinjdeaa.NM (F S pw W WI dft nf conv)
open Go.Proofs.Ytbmmjnmfinjdeaa.F.Spec
def cut (p : Nat) (a : Nat → NM.F) (i : Nat) : NM.F := if i < p then a i else 0
theorem cut_enc (p : Nat) (a : Nat → NM.F) : enc p a = enc p (cut p a) := enc_congr fun i hi => by unfold cut; rw [if_pos hi]
theorem cut_over (p : Nat) (a : Nat → NM.F) (i : Nat) (h : p ≤ i) : cut p a i = 0 := by unfold cut; rw [if_neg (by omega)]
theorem cut_row (l : List Int) (hl : ∀ x ∈ l, (Lit.int .u32 x).wf = true) (p : Nat) (hp : p < 100000) : Ev (fun k => anticlinelaw8_Row.f k l (p : Int)) (enc p (cut p (rowF l))) := by
  have := row l hl (p : Int) (by omega) (by omega)
  rwa [Int.toNat_natCast, cut_enc] at this
theorem NttOrder : anticlinelaw8_NttOrder.Pure := by
  intro l0 l1 l2 a3 a4 _ _ h0 _ _ h1 _ _ h2 w3 w4
  have r3 := i64_of w3
  refine Ev.rounds ?_
  unfold anticlinelaw8_NttOrder.f
  refine Ev.bind known ?_
  simp only [if_true]
  have d1 := within a3 20 (by omega) (by omega)
  have d2 := within a4 20 (by omega) (by omega)
  have d3 := within (wrap64 (Int.tdiv a3 20)) 9 (by omega) (by omega)
  obtain ⟨p, hp, hp0, hp1⟩ : ∃ p : Nat, wrap64 (1 + a3 % 20) = p ∧ 0 < p ∧ p ≤ 20 := ⟨(1 + a3 % 20).toNat, by rw [w64 (by omega) (by omega)]; omega, by omega, by omega⟩
  obtain ⟨q, hq, hq0, hq1⟩ : ∃ q : Nat, wrap64 (1 + a4 % 20) = q ∧ 0 < q ∧ q ≤ 20 := ⟨(1 + a4 % 20).toNat, by rw [w64 (by omega) (by omega)]; omega, by omega, by omega⟩
  obtain ⟨r, hr, hr0, hr1⟩ : ∃ r : Nat, wrap64 (1 + wrap64 (Int.tdiv a3 20) % 9) = r ∧ 0 < r ∧ r ≤ 9 := ⟨(1 + wrap64 (Int.tdiv a3 20) % 9).toNat, by rw [w64 (x := 1 + _) (by omega) (by omega)]; omega, by omega, by omega⟩
  simp only [d1, d2, d3, Option.bind_some, hp, hq, hr]
  refine Ev.bind (cut_row l0 h0 p (by omega)) (Ev.bind (cut_row l1 h1 q (by omega)) (Ev.bind (cut_row l2 h2 r (by omega)) ?_))
  have ha := cut_over p (rowF l0); have hb := cut_over q (rowF l1); have hc := cut_over r (rowF l2)
  generalize cut p (rowF l0) = a at *
  generalize cut q (rowF l1) = b at *
  generalize cut r (rowF l2) = c at *
  have c1 := conv_fast p q hp0 hq0 (by omega) a b ha hb
  have c2 := conv_fast q p hq0 hp0 (by omega) b a hb ha
  have hone : ∀ i, 1 ≤ i → (fun i => if i = 0 then (1 : NM.F) else 0) i = 0 := fun i hi => by
    try dsimp only
    rw [if_neg (by omega)]
  have c3 := conv_fast p 1 hp0 (by omega) (by omega) a (fun i => if i = 0 then 1 else 0) ha hone
  have eone : enc 1 (fun i => if i = 0 then (1 : NM.F) else 0) = [1] := rfl
  rw [enc_congr (fun i _ => NM.conv_comm b a i), Nat.add_comm q p] at c2
  rw [eone, enc_congr (fun i _ => NM.conv_one a i), Nat.add_sub_cancel] at c3
  refine Ev.bind c1 (Ev.bind c2 (Ev.bind c3 ?_))
  simp only [if_true]
  refine Ev.bind (same _ (by rw [enc_length]; omega)) ?_
  simp only [if_true]
  refine Ev.bind (same _ (by rw [enc_length]; omega)) ?_
  simp only [if_true, enc_length]
  have hne : (((p + q - 1 : Nat) : Int) == 0) = false := by simp; omega
  rw [hne]
  refine up ?_
  simp only [anticlinelaw8_NttOrder.j0, if_neg (show ¬ false = true by simp)]
  have hab : ∀ i, p + q - 1 ≤ i → conv a b i = 0 := fun i hi => NM.conv_over ha hb i (by omega)
  have hbc : ∀ i, q + r - 1 ≤ i → conv b c i = 0 := fun i hi => NM.conv_over hb hc i (by omega)
  have c4 := conv_fast (p + q - 1) r (by omega) hr0 (by omega) (conv a b) c hab hc
  have c5 := conv_ref q r hq0 hr0 (by omega) b c hb hc
  have c6 := conv_fast p (q + r - 1) hp0 (by omega) (by omega) a (conv b c) ha hbc
  rw [enc_congr (fun i _ => NM.conv_assoc a b c i), show p + q - 1 + r - 1 = p + (q + r - 1) - 1 from by omega] at c4
  refine Ev.bind c4 (Ev.bind c5 (Ev.bind c6 ?_))
  simp only [if_true]
  refine Ev.bind (same _ (by rw [enc_length]; omega)) ?_
  have s1 : wrap64 (((p + q - 1 : Nat) : Int) - 1) = ((p + q - 1 - 1 : Nat) : Int) := by rw [w64 (by omega) (by omega)]; omega
  have s2 : wrap64 ((p : Int) - 1) = ((p - 1 : Nat) : Int) := by rw [w64 (by omega) (by omega)]; omega
  have s3 : wrap64 ((q : Int) - 1) = ((q - 1 : Nat) : Int) := by rw [w64 (by omega) (by omega)]; omega
  have last : conv a b (p + q - 1 - 1) = a (p - 1) * b (q - 1) := by
    have := NM.conv_last (a := a) (b := b) (m := p - 1) (n := q - 1) (fun i hi => ha i (by omega)) (fun i hi => hb i (by omega))
    rwa [show p - 1 + (q - 1) = p + q - 1 - 1 from by omega] at this
  have e3 : ∀ y : NM.F, IntKind.u64.wrap (v y) = v y := fun y => u64w (v_nonneg y) (by have := v_lt y; omega)
  have e6 : ∀ y z : NM.F, Int.tmod (IntKind.u64.wrap (v y * v z)) 998244353 = v (y * z) := fun y z => by
    have := mulmod y z
    rwa [e3, e3] at this
  simp only [if_true, enc_length, s1, s2, s3, if_pos (show (0 : Int) ≤ ((p + q - 1 - 1 : Nat) : Int) by omega), if_pos (show ((p + q - 1 - 1 : Nat) : Int) < ((p + q - 1 : Nat) : Int) by omega),
    if_pos (show (0 : Int) ≤ ((p - 1 : Nat) : Int) by omega), if_pos (show ((p - 1 : Nat) : Int) < (p : Int) by omega), if_pos (show (0 : Int) ≤ ((q - 1 : Nat) : Int) by omega), if_pos (show ((q - 1 : Nat) : Int) < (q : Int) by omega),
    rd_enc (p + q - 1) _ ((p + q - 1 - 1 : Nat) : Int) (by omega) (by omega), rd_enc p _ ((p - 1 : Nat) : Int) (by omega) (by omega), rd_enc q _ ((q - 1 : Nat) : Int) (by omega) (by omega), Int.toNat_natCast, e3, e6, last, beq_self_eq_true]
  exact Ev.now _
end Go.Proofs.Ytbmmjnmfinjdeaa.Pure

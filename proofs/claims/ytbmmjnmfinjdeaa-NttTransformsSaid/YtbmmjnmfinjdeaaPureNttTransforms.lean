/- Transforms: the law's answer. -/
import Derived.Test.YtbmmjnmfinjdeaaF4
import Derived.Test.YtbmmjnmfinjdeaaNSpecD
namespace Go.Proofs.Ytbmmjnmfinjdeaa.Pure
open Go.RowKit Go.Proofs.Ytbmmjnmfinjdeaa.F Go.Proofs.YtbmmjnmfinjdeaaW.PrintWords Go.Proofs.YtbmmjnmfinjdeaaW.PrintLast Go.Proofs.YtbmmjnmfinjdeaaW.PrintMore
open Go.Proofs.Ytbmmjnmfinjdeaa.F.Spec
theorem NttTransforms : anticlinelaw8_NttTransforms.Pure := by
  intro l0 a1 a2 l3 _ _ hl w1 w2 _ _ hl3
  refine Ev.rounds ?_
  unfold anticlinelaw8_NttTransforms.f
  refine Ev.bind known ?_
  simp only [if_true]
  by_cases h40 : (l3.length : Int) > 40
  · simp only [if_pos h40]; exact Ev.now _
  simp only [if_neg h40]
  have e7 := within a1 7 (by omega) (by omega)
  have e2 := within a2 2 (by omega) (by omega)
  have e70 := within a2 70 (by omega) (by omega)
  obtain ⟨m, hm⟩ : ∃ m : Nat, a1 % 7 = m := ⟨(a1 % 7).toNat, by omega⟩
  have h0 : 0 ≤ IntKind.u64.wrap (m : Int) := by rw [u64w (by omega) (by omega)]; omega
  rw [hm] at e7
  simp only [e7, e2, e70, Option.bind_some, if_pos h0, shl_one m (by omega)]
  have hb : 2 ^ m ≤ 2 ^ 7 := Nat.pow_le_pow_right (by omega) (by omega)
  have hr := row l0 hl ((2 ^ m : Nat) : Int) (Int.natCast_nonneg _) (by omega)
  rw [Int.toNat_natCast] at hr
  have hr2 := row l0 hl (a2 % 70) (by omega) (by omega)
  have tf := transform m (by omega) false (rowF l0)
  have rf := ref_transform m (by omega) false (rowF l0)
  have tb := transform m (by omega) true (rowF l0)
  have rb := ref_transform m (by omega) true (rowF l0)
  have tt := transform m (by omega) true (tr false m (rowF l0))
  rw [enc_congr (fun i hi => tr_back m (by omega) (rowF l0) i hi)] at tt
  obtain ⟨y1, c1, l1, p1, q1⟩ := alike l3 hl3 (by omega) (a2 % 2 == 0)
  obtain ⟨y2, c2, l2, p2, q2⟩ := alike (enc (a2 % 70).toNat (rowF l0)) (enc_wf _ _) (by rw [enc_length]; omega) false
  have s : ∀ x, Ev (fun k => anticlineref8_Same.f k (enc (2 ^ m) x) (enc (2 ^ m) x)) true := fun x => same _ (by rw [enc_length]; omega)
  have s1 := same y1 (by omega)
  have s2 := same y2 (by omega)
  refine Ev.bind hr (Ev.bind tf (Ev.bind rf (Ev.bind tt (Ev.bind rb (Ev.bind tb (Ev.bind p1 (Ev.bind q1 (Ev.bind hr2 (Ev.bind p2 (Ev.bind q2 ?_))))))))))
  simp only [if_true]
  refine Ev.bind (s _) ?_
  simp only [if_true]
  refine Ev.bind (s _) ?_
  simp only [if_true]
  refine Ev.bind (s _) ?_
  simp only [if_true]
  refine Ev.bind s1 ?_
  simp only [if_true]
  exact Ev.bind s2 (Ev.now _)
end Go.Proofs.Ytbmmjnmfinjdeaa.Pure

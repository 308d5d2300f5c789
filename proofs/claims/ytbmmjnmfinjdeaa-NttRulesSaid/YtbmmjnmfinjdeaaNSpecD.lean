/- What the document's own transform answers, and that both answer alike. -/
import Derived.Test.YtbmmjnmfinjdeaaF3
import Derived.Test.YtbmmjnmfinjdeaaF3
import Derived.Test.YtbmmjnmfinjdeaaF3
import Derived.Test.YtbmmjnmfinjdeaaNSpecC
namespace Go.Proofs.Ytbmmjnmfinjdeaa.F
open Go.RowKit Go.Proofs.YtbmmjnmfinjdeaaW.PrintWords Go.Proofs.YtbmmjnmfinjdeaaW.PrintLast Go.Proofs.YtbmmjnmfinjdeaaW.PrintMore
open Go.Proofs.Ytbmmjnmfinjdeaa.NM (F S pw fp W WI X rev dft conv nf)
set_option linter.unusedVariables false
set_option linter.unusedSimpArgs false
namespace Spec
theorem small_l0 (l : List Int) (hlen : l.length < 4611686018427387904) : ∀ (d i : Nat), i + d = l.length →
    Ev (fun k => anticlineref8_small.l0 k l i) ((l.drop i).all fun x => decide (x < 998244353)) := by
  intro d
  induction d with
  | zero =>
    intro i hi
    refine Ev.step (f := fun k => some true) (fun k => by rw [anticlineref8_small.l0]; rw [if_neg (by omega)]) ?_
    rw [List.drop_eq_nil_of_le (by omega)]; exact Ev.now _
  | succ d ih =>
    intro i hi
    have hget : rd l i = l[i]'(by omega) := by simp [rd, List.getD, show i < l.length by omega]
    have hdrop : l.drop i = l[i]'(by omega) :: l.drop (i + 1) := List.drop_eq_getElem_cons (by omega)
    rw [hdrop, List.all_cons]
    by_cases hx : l[i]'(by omega) < 998244353
    · rw [decide_eq_true hx, Bool.true_and]
      refine Ev.step (f := fun k => anticlineref8_small.l0 k l ((i + 1 : Nat) : Int)) (fun k => ?_) (ih (i + 1) (by omega))
      rw [anticlineref8_small.l0, if_pos (by omega), if_pos (by omega), hget, if_neg (by omega), w64 (by omega) (by omega)]; rfl
    · rw [decide_eq_false hx, Bool.false_and]
      refine Ev.step (f := fun k => some false) (fun k => ?_) (Ev.now _)
      rw [anticlineref8_small.l0, if_pos (by omega), if_pos (by omega), hget, if_pos (by omega)]
theorem small (l : List Int) (hlen : l.length < 4611686018427387904) : Ev (fun k => anticlineref8_small.f k l) (under l) := by
  have := small_l0 l hlen l.length 0 (by omega)
  exact this
theorem same_l0 (l : List Int) (hlen : l.length < 4611686018427387904) : ∀ (d i : Nat), i + d = l.length → Ev (fun k => anticlineref8_Same.l0 k l l i) true := by
  intro d
  induction d with
  | zero =>
    intro i hi
    exact Ev.step (f := fun k => some true) (fun k => by rw [anticlineref8_Same.l0]; rw [if_neg (by omega)]) (Ev.now _)
  | succ d ih =>
    intro i hi
    refine Ev.step (f := fun k => anticlineref8_Same.l0 k l l ((i + 1 : Nat) : Int)) (fun k => ?_) (ih (i + 1) (by omega))
    rw [anticlineref8_Same.l0, if_pos (by omega), if_pos (by omega), if_pos (by omega), if_pos rfl, w64 (by omega) (by omega)]; rfl
theorem same (l : List Int) (hlen : l.length < 4611686018427387904) : Ev (fun k => anticlineref8_Same.f k l l) true := by
  unfold anticlineref8_Same.f
  simp only [if_true]
  have := same_l0 l hlen l.length 0 (by omega)
  exact this
/-- The inner loop: a sum, not yet taken by the prime. -/
theorem ref_l1 (n : Nat) (hn : n ≤ 1024) (x : Nat → F) (r b : F) (out : List Int) (i : Nat) (y : List Int × Int) (hend : ∀ s : Int, 0 ≤ s → s < 1100000000000 → s % 998244353 = v (S n (fun j => x j * pw (pw r i) j)) →
      ∀ pwr, Ev (fun k => anticlineref8_Transform.l1 k (enc n x) n (v r) (v b) out (v (pw r i)) i s pwr n) y) :
    ∀ (d j : Nat) (s : Int), j + d = n → 0 ≤ s → s ≤ j * 998244352 → s % 998244353 = v (S j (fun j => x j * pw (pw r i) j)) →
      Ev (fun k => anticlineref8_Transform.l1 k (enc n x) n (v r) (v b) out (v (pw r i)) i s (v (pw (pw r i) j)) j) y := by
  intro d
  induction d with
  | zero =>
    intro j s hj h0 h1 h2
    obtain rfl : j = n := by omega
    exact hend s h0 (by omega) h2 _
  | succ d ih =>
    intro j s hj h0 h1 h2
    have hv0 := v_nonneg (x j * pw (pw r i) j)
    have hv1 := v_lt (x j * pw (pw r i) j)
    refine Ev.step (f := fun k => anticlineref8_Transform.l1 k (enc n x) n (v r) (v b) out (v (pw r i)) i (s + v (x j * pw (pw r i) j)) (v (pw (pw r i) (j + 1))) ((j + 1 : Nat) : Int)) (fun k => ?_)
      (ih (j + 1) _ (by omega) (by omega) (by omega) (by rw [NM.S_succ, v_add, ← h2]; omega))
    rw [anticlineref8_Transform.l1, if_pos (by omega), if_pos (by omega), enc_length, if_pos (by omega), rd_enc _ _ _ (by omega) (by omega), Int.toNat_natCast, rtimes, rtimes]
    simp only [Option.bind_some]
    rw [u64w hv0 (by omega), u64w (by omega) (by omega), w64 (by omega) (by omega), ← NM.pw_succ]; rfl
theorem ref_l0 (n : Nat) (hn : n ≤ 1024) (x : Nat → F) (r b : F) : ∀ (d i : Nat), i + d = n →
    Ev (fun k => anticlineref8_Transform.l0 k (enc n x) n (v r) (v b) (enc i (fun q => dft n r x q * b)) (v (pw r i)) i) (enc n (fun q => dft n r x q * b), 0) := by
  intro d
  induction d with
  | zero =>
    intro i hi
    obtain rfl : i = n := by omega
    exact Ev.step (f := fun k => some (enc i (fun q => dft i r x q * b), 0)) (fun k => by rw [anticlineref8_Transform.l0]; rw [if_neg (by omega)]) (Ev.now _)
  | succ d ih =>
    intro i hi
    refine Ev.step (f := fun k => anticlineref8_Transform.l1 k (enc n x) n (v r) (v b) (enc i (fun q => dft n r x q * b)) (v (pw r i)) i 0 (v (pw (pw r i) 0)) ((0 : Nat) : Int)) (fun k => by
      rw [anticlineref8_Transform.l0, if_pos (by omega)]; rfl) ?_
    refine ref_l1 n hn x r b _ i _ (fun s h0 h1 h2 pwr => ?_) n 0 0 (by omega) (by omega) (by omega) (by rw [NM.S_zero]; rfl)
    have hd : S n (fun j => x j * pw (pw r i) j) = dft n r x i := by
      unfold dft; exact NM.S_congr fun j _ => by rw [← NM.pw_mul, Nat.mul_comm]
    rw [hd] at h2
    refine Ev.step (f := fun k => anticlineref8_Transform.l0 k (enc n x) n (v r) (v b) (enc (i + 1) (fun q => dft n r x q * b)) (v (pw r (i + 1))) ((i + 1 : Nat) : Int)) (fun k => ?_) (ih (i + 1) (by omega))
    have hl := v_lt (dft n r x i); have hg := v_nonneg (dft n r x i)
    rw [anticlineref8_Transform.l1, if_neg (by omega), tmod_p h0, h2, small32 hg hl, rtimes, rtimes]
    simp only [Option.bind_some]
    rw [enc_length, if_pos (by omega), enc_succ, w64 (by omega) (by omega), ← NM.pw_succ]; rfl
theorem v_tmod (y : F) : Int.tmod (v y) 998244353 = v y := by rw [tmod_p (v_nonneg y)]; have := v_nonneg y; have := v_lt y; omega
theorem ref_transform (m : Nat) (hm : m < 11) (back : Bool) (x : Nat → F) : Ev (fun k => anticlineref8_Transform.f k (enc (2 ^ m) x) back) (enc (2 ^ m) (tr back m x), 0) := by
  have hb : 2 ^ m ≤ 2 ^ 10 := Nat.pow_le_pow_right (by omega) (by omega)
  have hp : 0 < 2 ^ m := Nat.pos_of_ne_zero (by simp)
  have hq : (998244352 : Int) / ((2 ^ m : Nat) : Int) = ((998244352 / 2 ^ m : Nat) : Int) := (Int.natCast_ediv 998244352 (2 ^ m)).symm
  have hq2 : 998244352 / 2 ^ m ≤ 998244352 := Nat.div_le_self _ _
  have hs := small (enc (2 ^ m) x) (by rw [enc_length]; omega)
  rw [enc_under] at hs
  have hroot : Ev (fun k => anticlineref8_Pow.f k 3 ((998244352 / 2 ^ m : Nat) : Int)) (v (pw 3 (998244352 / 2 ^ m))) := by
    generalize 998244352 / 2 ^ m = q at hq2
    have := rpow 3 (q : Int) (by omega) (by omega) 3 rfl
    rwa [if_neg (by omega), Int.toNat_natCast] at this
  unfold anticlineref8_Transform.f
  simp only [enc_length, if_neg (show ¬ ((2 ^ m : Nat) : Int) = 0 by omega), if_pos (and_pow m hm), if_neg (show ¬ ((2 ^ m : Nat) : Int) > 1024 by omega), hq]
  refine Ev.bind hs ?_
  simp only [if_true]
  refine Ev.bind hroot ?_
  have go : ∀ r b, Ev (fun k => anticlineref8_Transform.l0 k (enc (2 ^ m) x) ((2 ^ m : Nat) : Int) (v r) (v b) ([] : List Int) 1 0) (enc (2 ^ m) (fun q => dft (2 ^ m) r x q * b), 0) := fun r b => by
    have := ref_l0 (2 ^ m) (by omega) x r b (2 ^ m) 0 (by omega)
    rw [NM.pw_zero, v_one] at this
    exact this
  have ht : tr back m x = fun q => dft (2 ^ m) (rt back m) x q * lastBy back (2 ^ m) := rfl
  rw [ht]
  cases back
  · simp only [if_neg (show ¬ false = true by simp)]
    have e : lastBy false (2 ^ m) = 1 := by unfold lastBy; rw [if_neg (by simp)]
    have e2 : rt false m = W m := by unfold rt; rw [if_neg (by simp)]
    have g := go (W m) 1
    rw [v_one] at g
    rw [e, e2]
    exact g
  · simp only [if_true]
    have e : lastBy true (2 ^ m) = pw (nf (2 ^ m)) 998244351 := by unfold lastBy; rw [if_pos rfl]
    have e2 : rt true m = WI m := by unfold rt; rw [if_pos rfl]
    rw [e, e2]
    have h1 := rpow (W m) 998244351 (by omega) (by omega) (v (W m)) (v_tmod _)
    have h2 := rpow (nf (2 ^ m)) 998244351 (by omega) (by omega) (((2 ^ m : Nat) : Int) % 4294967296) (by rw [tmod_p (by omega), v_nf]; omega)
    rw [if_neg (by omega)] at h1 h2
    exact Ev.bind h1 (Ev.bind h2 (go (WI m) (pw (nf (2 ^ m)) 998244351)))
theorem ref_bad (l : List Int) (hlen : l.length < 4611686018427387904) (back : Bool) (h : code l ≠ 0) :
    Ev (fun k => anticlineref8_Transform.f k l back) ([], code l) := by
  unfold anticlineref8_Transform.f
  by_cases h0 : (l.length : Int) = 0
  · simp only [if_pos h0]
    rw [code, if_pos (Or.inl (by omega))]
    exact Ev.now _
  · simp only [if_neg h0]
    by_cases h1 : 1024 < l.length
    · rw [code, if_pos (Or.inr (Or.inl h1))]
      simp only [if_pos (show (l.length : Int) > 1024 by omega)]
      exact Ev.now _
    · simp only [if_neg (show ¬ (l.length : Int) > 1024 by omega)]
      by_cases h2 : Go.bits .and .i64 (l.length : Int) (wrap64 ((l.length : Int) - 1)) = 0
      · have hp := pow_and l.length (by omega) (by omega) h2
        have hc : code l = if under l then 0 else 1 := by
          rw [code, if_neg]
          rintro (e | e | e)
          · omega
          · omega
          · exact e hp.1
        simp only [if_pos h2]
        rw [hc] at h ⊢
        have hu : under l = false := by
          cases hh : under l
          · rfl
          · rw [hh] at h; exact absurd rfl h
        have hs := small l hlen
        rw [hu] at hs ⊢
        refine Ev.bind hs ?_
        simp only [if_neg (show ¬ false = true by simp)]
        exact Ev.now _
      · have hc : code l = 3 := by
          rw [code, if_pos]
          refine Or.inr (Or.inr fun e => h2 ?_)
          have : Nat.log2 l.length < 11 := (Nat.log2_lt (by omega)).mpr (by omega)
          rw [e]; exact and_pow _ this
        simp only [if_neg h2]
        rw [hc]
        exact Ev.now _
/-- Both answer alike, on every list. -/
theorem alike (l : List Int) (hl : ∀ x ∈ l, (Lit.int .u32 x).wf = true) (hlen : l.length < 4611686018427387904) (back : Bool) :
    ∃ y c, y.length ≤ 1024 ∧ Ev (fun k => ntt_Transform.f k l back) (y, c) ∧ Ev (fun k => anticlineref8_Transform.f k l back) (y, c) := by
  by_cases h : code l = 0
  · unfold code at h
    by_cases hq : l.length = 0 ∨ 1024 < l.length ∨ l.length ≠ 2 ^ Nat.log2 l.length
    · rw [if_pos hq] at h; omega
    · rw [if_neg hq] at h
      have hu : under l = true := by
        cases hh : under l
        · rw [hh] at h; simp at h
        · rfl
      have hn : l.length = 2 ^ Nat.log2 l.length := Classical.byContradiction fun e => hq (Or.inr (Or.inr e))
      have h1 : l.length ≠ 0 := fun e => hq (Or.inl e)
      have h2 : ¬ 1024 < l.length := fun e => hq (Or.inr (Or.inl e))
      have hm : Nat.log2 l.length < 11 := (Nat.log2_lt (by omega)).mpr (by omega)
      have e := under_enc l hl hu
      rw [hn] at e
      generalize Nat.log2 l.length = m at *
      rw [e]
      exact ⟨_, 0, by rw [enc_length]; omega, transform m hm back _, ref_transform m hm back _⟩
  · exact ⟨[], code l, by simp, transform_bad l hl hlen back h, ref_bad l hlen back h⟩
theorem rt_one (m : Nat) (hm : m < 11) : pw (W m) (2 ^ m) = 1 := NM.W_pow m (by omega)
/-- There and back. -/
theorem tr_back (m : Nat) (hm : m < 11) (x : Nat → F) (i : Nat) (hi : i < 2 ^ m) : tr true m (tr false m x) i = x i := by
  have hb : 2 ^ m ≤ 2 ^ 10 := Nat.pow_le_pow_right (by omega) (by omega)
  have hp : 0 < 2 ^ m := Nat.pos_of_ne_zero (by simp)
  have h1 : tr false m x = dft (2 ^ m) (W m) x := by
    funext q; unfold tr lastBy rt
    rw [if_neg (by simp), if_neg (by simp)]; grind
  have hne : nf (2 ^ m) ≠ 0 := fun h => by
    have := v_nf (2 ^ m)
    rw [h, v_zero] at this; omega
  have hf := NM.fermat (nf (2 ^ m)) hne
  rw [NM.pw_succ] at hf
  rw [h1]
  unfold tr lastBy rt
  rw [if_pos rfl, if_pos rfl, NM.dft_back m (W m) (WI m) (NM.W_WI m (by omega)) (fun j hj => by subst hj; exact NM.W_neg j (by omega)) (fun h => by subst h; exact NM.W_one) (rt_one m hm) x i hi]
  have e : (Fin.ofNat 998244353 (2 ^ m) : F) = nf (2 ^ m) := rfl
  rw [e]
  grind
end Spec
end Go.Proofs.Ytbmmjnmfinjdeaa.F

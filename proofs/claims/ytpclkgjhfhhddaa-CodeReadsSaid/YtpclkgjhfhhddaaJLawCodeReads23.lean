/- Joined texts, 23: CdS CdX CdT CdU EqA GenH LawC RowsB GenI. -/
import Derived.Test.YtpclkgjhfhhddaaJLawCodeReads22
import Derived.Test.YtpclkgjhfhhddaaJLawCodeReads21
import Derived.Test.YtpclkgjhfhhddaaJLawCodeReads0
import Derived.Test.YtpclkgjhfhhddaaJLawCodeReads16
import Derived.Test.YtpclkgjhfhhddaaJLawCodeReads13
set_option linter.unusedVariables false
set_option linter.unusedSimpArgs false
/- Both parsers tell the same. -/
namespace Go.Proofs.Ytpclkgjhfhhddaa.AM
open Go Go.RowKit Go.Proofs.Ytpclkgjhfhhddaa.PN Go.Proofs.Ytpclkgjhfhhddaa.V
set_option linter.unusedVariables false
set_option linter.unusedSimpArgs false
/-- The same error; and where there is none, the same is left. -/
def RL (b : List Int) (x : List Int × Int) (y : Nat × Int) : Prop := x.2 = y.2 ∧ (x.2 = 0 → x.1 = b.drop y.1)
theorem drop_getD {b : List Int} {p : Nat} (i : Nat) : (b.drop p).getD i 0 = b.getD (p + i) 0 := by
  rw [List.getD_eq_getElem?_getD, List.getElem?_drop, ← List.getD_eq_getElem?_getD]
theorem take_getD {b : List Int} {n i : Nat} (h : i < n) : (b.take n).getD i 0 = b.getD i 0 := by
  rw [List.getD_eq_getElem?_getD, List.getElem?_take, if_pos h, ← List.getD_eq_getElem?_getD]
/-- So many bytes, one after the other. -/
def byI (b : List Int) (p : Nat) (e : Int) : Nat → Nat × Int
  | 0 => (p, e)
  | k + 1 => (byP b (byI b p e k).1 (byI b p e k).2).2
theorem byI_err {b : List Int} {p : Nat} {e : Int} (h : e ≠ 0) : ∀ k, byI b p e k = (p, e)
  | 0 => rfl
  | k + 1 => by
    show (byP b (byI b p e k).1 (byI b p e k).2).2 = _
    rw [byI_err h k]
    unfold byP
    rw [if_neg h]
theorem byI_ok {b : List Int} {p : Nat} : ∀ k, p + k ≤ b.length → byI b p 0 k = (p + k, 0)
  | 0, _ => rfl
  | k + 1, h => by
    show (byP b (byI b p 0 k).1 (byI b p 0 k).2).2 = _
    rw [byI_ok k (by omega)]
    unfold byP
    rw [if_pos rfl, if_neg (by show ¬ b.length ≤ p + k; omega)]
    rfl
theorem byI_cut {b : List Int} {p : Nat} (hp : p ≤ b.length) : ∀ k, b.length < p + k → byI b p 0 k = (b.length, 6)
  | 0, h => by omega
  | k + 1, h => by
    show (byP b (byI b p 0 k).1 (byI b p 0 k).2).2 = _
    by_cases c : b.length < p + k
    · rw [byI_cut hp k c]
      unfold byP
      rw [if_neg (by show ¬ (6 : Int) = 0; decide)]
    · rw [byI_ok k (by omega)]
      unfold byP
      rw [if_pos rfl, if_pos (by show b.length ≤ p + k; omega)]
      show (p + k, (6 : Int)) = _
      rw [show p + k = b.length by omega]
theorem tk_byI {b l : List Int} {p : Nat} {e : Int} (n : Nat) (hp : p ≤ b.length) (h : RL b (l, e) (p, e)) : RL b (tkP n l e).2 (byI b p e n) ∧ ((tkP n l e).2.2 = 0 → ∀ i, i < n → (tkP n l e).1.getD i 0 = b.getD (p + i) 0 ∧ byI b p e i = (p + i, 0)) := by
  by_cases h0 : e = 0
  · subst h0
    have hl : l = b.drop p := h.2 rfl
    unfold tkP
    rw [if_pos rfl]
    have hlen : l.length = b.length - p := by rw [hl, List.length_drop]
    by_cases c : l.length < n
    · rw [if_pos c, byI_cut hp n (by omega)]
      exact ⟨⟨rfl, fun e => by cases e⟩, fun e => by cases e⟩
    · rw [if_neg c, byI_ok n (by omega)]
      refine ⟨⟨rfl, fun _ => by rw [hl, List.drop_drop]⟩, fun _ i hi => ⟨?_, byI_ok i (by omega)⟩⟩
      show (l.take n).getD i 0 = _
      rw [take_getD hi, hl, drop_getD]
  · rw [tk_err h0, byI_err h0 n]
    exact ⟨⟨rfl, fun e => absurd e h0⟩, fun e => absurd e h0⟩
theorem sm_bl {b l : List Int} {p : Nat} {e m : Int} (hp : p ≤ b.length) (h : RL b (l, e) (p, e)) : RL b (smP m l e).2 (blP m b p e).2 ∧ ((smP m l e).2.2 = 0 → (smP m l e).1 = (blP m b p e).1) := by
  obtain ⟨h1, h2⟩ := tk_byI 1 hp h
  have hy : byI b p e 1 = (byP b p e).2 := rfl
  rw [hy] at h1
  have hv : (tkP 1 l e).2.2 = 0 → (tkP 1 l e).1.getD 0 0 = (byP b p e).1 := fun c => by
    obtain ⟨h3, h4⟩ := h2 c 0 (by decide)
    have he : e = 0 := by
      have : (p, e) = (p + 0, (0 : Int)) := h4
      exact congrArg (fun z : Nat × Int => z.2) this
    have hc : (byP b p e).2.2 = 0 := h1.1.symm.trans c
    rw [h3]
    unfold byP at hc ⊢
    subst he
    rw [if_pos rfl] at hc ⊢
    by_cases d : b.length ≤ p
    · rw [if_pos d] at hc; cases hc
    · rw [if_neg d]; rfl
  unfold smP blP
  by_cases c : (tkP 1 l e).2.2 = 0
  · have c' : (byP b p e).2.2 = 0 := h1.1.symm.trans c
    rw [if_pos c, hv c]
    by_cases d : m < (byP b p e).1
    · rw [if_pos d, if_pos ⟨c', d⟩]
      exact ⟨⟨rfl, fun e => by cases e⟩, fun e => by cases e⟩
    · rw [if_neg d, if_neg (fun z => d z.2)]
      exact ⟨⟨c'.symm, fun _ => h1.2 c⟩, fun _ => rfl⟩
  · have c' : (byP b p e).2.2 ≠ 0 := fun z => c (h1.1.trans z)
    rw [if_neg c, if_neg (fun z => c' z.1)]
    exact ⟨⟨h1.1, fun z => absurd z c⟩, fun z => absurd z c⟩
theorem bor_z {x : Int} (h : 0 ≤ x ∧ x ≤ 255) : borN 0 (shlN x 0) = x := by
  have h1 : shlN x 0 = x := by
    unfold shlN
    show x * 1 % 4294967296 = x
    omega
  rw [h1]
  unfold borN
  have h2 : BitVec.ofInt 32 0 = 0#32 := rfl
  rw [h2, BitVec.zero_or, BitVec.toNat_ofInt]
  show ((x % ((2 ^ 32 : Nat) : Int)).toNat : Int) = x
  omega
theorem xb_snd {b : List Int} {p : Nat} {e : Int} : ∀ k, (xbI b p e k).2 = byI b p e k
  | 0 => rfl
  | k + 1 => by
    show (byP b (xbI b p e k).2.1 (xbI b p e k).2.2).2 = (byP b (byI b p e k).1 (byI b p e k).2).2
    rw [xb_snd k]
theorem tk_xb {b l : List Int} {p : Nat} {e : Int} (hb : By b) (hp : p ≤ b.length) (h : RL b (l, e) (p, e)) : RL b (tkP 4 l e).2 (xbI b p e 4).2 ∧ ((tkP 4 l e).2.2 = 0 → w4 (tkP 4 l e).1 = (xbI b p e 4).1.toNat) := by
  obtain ⟨h1, h2⟩ := tk_byI 4 hp h
  rw [xb_snd]
  refine ⟨h1, fun c => ?_⟩
  have hz : (byI b p e 4).2 = 0 := h1.1.symm.trans c
  obtain ⟨v0, y0⟩ := h2 c 0 (by decide)
  obtain ⟨v1, y1⟩ := h2 c 1 (by decide)
  obtain ⟨v2, y2⟩ := h2 c 2 (by decide)
  obtain ⟨v3, y3⟩ := h2 c 3 (by decide)
  have he : e = 0 := congrArg (fun z : Nat × Int => z.2) (show (p, e) = (p + 0, (0 : Int)) from y0)
  subst he
  have hlen : p + 4 ≤ b.length := by
    rcases Nat.lt_or_ge b.length (p + 4) with d | d
    · rw [byI_cut hp 4 d] at hz; cases hz
    · exact d
  have val : ∀ k, k < 4 → (byP b (xbI b p 0 k).2.1 (xbI b p 0 k).2.2).1 = b.getD (p + k) 0 := by
    intro k hk
    rw [xb_snd, byI_ok k (by omega)]
    unfold byP
    rw [if_pos rfl, if_neg (by show ¬ b.length ≤ p + k; omega)]
  have x4 : (xbI b p 0 4).1 = borN (borN (borN (borN 0 (shlN (b.getD (p + 0) 0) 0)) (shlN (b.getD (p + 1) 0) 8)) (shlN (b.getD (p + 2) 0) 16)) (shlN (b.getD (p + 3) 0) 24) := by
    show borN (borN (borN (borN 0 (shlN (byP b (xbI b p 0 0).2.1 (xbI b p 0 0).2.2).1 _)) (shlN (byP b (xbI b p 0 1).2.1 (xbI b p 0 1).2.2).1 _)) (shlN (byP b (xbI b p 0 2).2.1 (xbI b p 0 2).2.2).1 _)) (shlN (byP b (xbI b p 0 3).2.1 (xbI b p 0 3).2.2).1 _) = _
    rw [val 0 (by decide), val 1 (by decide), val 2 (by decide), val 3 (by decide)]
    rfl
  rw [x4, bor_z (hb _)]
  unfold w4
  rw [v0, v1, v2, v3]
/-- Rounds until there is an error, and rounds that go on. -/
theorem loop_rel {α : Type} {b : List Int} (C : Nat → α × List Int × Int) (R : Nat → α × Nat × Int) (h0 : RL b (C 0).2 (R 0).2 ∧ ((C 0).2.2 = 0 → (C 0).1 = (R 0).1))
    (hs : ∀ i, (R i).2.2 = 0 → (RL b (C i).2 (R i).2 ∧ ((C i).2.2 = 0 → (C i).1 = (R i).1)) → RL b (C (i + 1)).2 (R (i + 1)).2 ∧ ((C (i + 1)).2.2 = 0 → (C (i + 1)).1 = (R (i + 1)).1)) (he : ∀ i, (C i).2.2 ≠ 0 → (C (i + 1)).2 = (C i).2) :
    ∀ n, RL b (C n).2 (R (cutN (fun i => (R i).2.2) n)).2 ∧ ((C n).2.2 = 0 → cutN (fun i => (R i).2.2) n = n ∧ (C n).1 = (R n).1)
  | 0 => ⟨h0.1, fun c => ⟨rfl, h0.2 c⟩⟩
  | n + 1 => by
    obtain ⟨h1, h2⟩ := loop_rel C R h0 hs he n
    by_cases c : (C n).2.2 = 0
    · obtain ⟨k1, k2⟩ := h2 c
      rw [k1] at h1
      have hz : (R n).2.2 = 0 := h1.1.symm.trans c
      have hcut : cutN (fun i => (R i).2.2) (n + 1) = n + 1 := by
        show (if _ then _ else _) = _
        rw [if_pos ⟨k1, hz⟩]
      obtain ⟨s1, s2⟩ := hs n hz ⟨h1, fun _ => k2⟩
      rw [hcut]
      exact ⟨s1, fun d => ⟨rfl, s2 d⟩⟩
    · have hcut : cutN (fun i => (R i).2.2) (n + 1) = cutN (fun i => (R i).2.2) n := by
        show (if _ then _ else _) = _
        rw [if_neg]
        rintro ⟨k1, k2⟩
        rw [k1] at h1
        exact c (h1.1.trans k2)
      rw [hcut, he n c]
      exact ⟨h1, fun d => absurd d c⟩
theorem RL.re {b : List Int} {x : List Int × Int} {y : Nat × Int} (h : RL b x y) : RL b (x.1, y.2) (y.1, y.2) := ⟨rfl, fun c => h.2 (h.1.trans c)⟩
theorem lm_lb {b l : List Int} {p : Nat} {e : Int} (hb : By b) (hp : p ≤ b.length) (h : RL b (l, e) (p, e)) : RL b (lmP l e).2 (lbP b p e).2 ∧ ((lmP l e).2.2 = 0 → (lmP l e).1 = (lbP b p e).1) := by
  obtain ⟨h1, h2⟩ := sm_bl (m := 4) hp h
  have hp1 := (bl_ok (m := 4) (e := e) hb hp).2
  unfold lmP lbP
  by_cases c : (smP 4 l e).2.2 = 0
  · have hn : (smP 4 l e).1.toNat = (blP 4 b p e).1.toNat := congrArg Int.toNat (h2 c)
    rw [hn]
    obtain ⟨l1, e1⟩ : ∃ l1 e1, (smP 4 l e).2 = (l1, e1) := ⟨_, _, rfl⟩
    have k := loop_rel (b := b) (fun i => lmI (smP 4 l e).2.1 (smP 4 l e).2.2 i) (fun i => lbI b (blP 4 b p e).2.1 (blP 4 b p e).2.2 i) ⟨h1, fun _ => rfl⟩ (fun i hz hq => by
      have hp2 := (lb_ok (e := (blP 4 b p e).2.2) hb hp1 i).1
      have he2 : (lmI (smP 4 l e).2.1 (smP 4 l e).2.2 i).2.2 = 0 := hq.1.1.trans hz
      have hr : RL b ((lmI (smP 4 l e).2.1 (smP 4 l e).2.2 i).2.1, (lmI (smP 4 l e).2.1 (smP 4 l e).2.2 i).2.2) ((lbI b (blP 4 b p e).2.1 (blP 4 b p e).2.2 i).2.1, (lmI (smP 4 l e).2.1 (smP 4 l e).2.2 i).2.2) := ⟨rfl, hq.1.2⟩
      obtain ⟨t1, t2⟩ := tk_xb hb hp2 hr
      have ee : (lmI (smP 4 l e).2.1 (smP 4 l e).2.2 i).2.2 = (lbI b (blP 4 b p e).2.1 (blP 4 b p e).2.2 i).2.2 := hq.1.1
      refine ⟨?_, fun z => ?_⟩
      · show RL b (tkP 4 _ _).2 (xbI b _ (lbI b (blP 4 b p e).2.1 (blP 4 b p e).2.2 i).2.2 4).2
        rw [← ee]; exact t1
      · show (lmI (smP 4 l e).2.1 (smP 4 l e).2.2 i).1 ++ [w4 _] = (lbI b (blP 4 b p e).2.1 (blP 4 b p e).2.2 i).1 ++ [_]
        rw [hq.2 he2, t2 z, ← ee]) (fun i hz => by
      show (tkP 4 _ _).2 = _
      rw [tk_err hz]) (blP 4 b p e).1.toNat
    refine ⟨k.1, fun z => ?_⟩
    obtain ⟨k1, k2⟩ := k.2 z
    rw [k1]
    exact k2
  · have c' : (blP 4 b p e).2.2 ≠ 0 := fun z => c (h1.1.trans z)
    have e1 : (lmI (smP 4 l e).2.1 (smP 4 l e).2.2 (smP 4 l e).1.toNat).2 = (smP 4 l e).2 := by
      have key : ∀ i, (lmI (smP 4 l e).2.1 (smP 4 l e).2.2 i).2 = (smP 4 l e).2 := by
        intro i
        induction i with
        | zero => rfl
        | succ i ih =>
          show (tkP 4 (lmI (smP 4 l e).2.1 (smP 4 l e).2.2 i).2.1 (lmI (smP 4 l e).2.1 (smP 4 l e).2.2 i).2.2).2 = _
          rw [ih, tk_err c]
      exact key _
    have e2 : cutN (fun i => (lbI b (blP 4 b p e).2.1 (blP 4 b p e).2.2 i).2.2) (blP 4 b p e).1.toNat = 0 := by
      have := cutN_at (f := fun i => (lbI b (blP 4 b p e).2.1 (blP 4 b p e).2.2 i).2.2) (i := 0) (fun j hj => absurd hj (Nat.not_lt_zero _)) c' (blP 4 b p e).1.toNat
      rwa [Nat.zero_add] at this
    rw [e1, e2]
    exact ⟨h1, fun z => absurd z c⟩
theorem nm_nb {b l : List Int} {p : Nat} {e : Int} (hb : By b) (hp : p ≤ b.length) (h : RL b (l, e) (p, e)) : RL b (nmP l e).2 (nbP b p e).2 ∧ ((nmP l e).2.2 = 0 → (nmP l e).1 = (nbP b p e).1) := by
  obtain ⟨h1, h2⟩ := sm_bl (m := 1) hp h
  have hp1 := (bl_ok (m := 1) (e := e) hb hp).2
  have e1 : (smP 1 l e).2.2 = (blP 1 b p e).2.2 := h1.1
  obtain ⟨k1, k2⟩ := lm_lb (l := (smP 1 l e).2.1) (p := (blP 1 b p e).2.1) (e := (blP 1 b p e).2.2) hb hp1 h1.re
  have hp2 := lbP_ok (e := (blP 1 b p e).2.2) hb hp1
  have e2 : (lmP (smP 1 l e).2.1 (blP 1 b p e).2.2).2.2 = (lbP b (blP 1 b p e).2.1 (blP 1 b p e).2.2).2.2 := k1.1
  obtain ⟨m1, m2⟩ := lm_lb (l := (lmP (smP 1 l e).2.1 (blP 1 b p e).2.2).2.1) (p := (lbP b (blP 1 b p e).2.1 (blP 1 b p e).2.2).2.1) (e := (lbP b (blP 1 b p e).2.1 (blP 1 b p e).2.2).2.2) hb hp2 k1.re
  unfold nmP nbP
  rw [e1, e2]
  refine ⟨m1, fun c => ?_⟩
  have c2 : (lbP b (blP 1 b p e).2.1 (blP 1 b p e).2.2).2.2 = 0 := Classical.byContradiction fun d => by
    have c : (lmP (lmP (smP 1 l e).2.1 (blP 1 b p e).2.2).2.1 (lbP b (blP 1 b p e).2.1 (blP 1 b p e).2.2).2.2).2.2 = 0 := c
    rw [lm_err d] at c
    exact d c
  have c1 : (blP 1 b p e).2.2 = 0 := Classical.byContradiction fun d => by
    rw [← e2, lm_err d] at c2
    exact d c2
  show RA.raw _ _ _ = RA.raw _ _ _
  rw [h2 (e1.trans c1), k2 (e2.trans c2), m2 c]
theorem rw_rb {b l : List Int} {p : Nat} {e : Int} (hb : By b) (hp : p ≤ b.length) (h : RL b (l, e) (p, e)) (n : Nat) : RL b (rwI l e n).2 (rbI b p e (rbN b p e n)).2 ∧ ((rwI l e n).2.2 = 0 → rbN b p e n = n ∧ rwN l e n = n ∧ (rwI l e n).1 = (rbI b p e n).1) := by
  have k := loop_rel (b := b) (fun i => rwI l e i) (fun i => rbI b p e i) ⟨h, fun _ => rfl⟩ (fun i hz hq => by
      have hp2 := (rb_ok (e := e) hb hp i).1
      have ee : (rwI l e i).2.2 = (rbI b p e i).2.2 := hq.1.1
      have he2 : (rwI l e i).2.2 = 0 := ee.trans hz
      obtain ⟨t1, t2⟩ := nm_nb (l := (rwI l e i).2.1) (p := (rbI b p e i).2.1) (e := (rbI b p e i).2.2) hb hp2 hq.1.re
      refine ⟨?_, fun z => ?_⟩
      · show RL b (nmP (rwI l e i).2.1 (rwI l e i).2.2).2 (nbP b (rbI b p e i).2.1 (rbI b p e i).2.2).2
        rw [ee]; exact t1
      · have z : (nmP (rwI l e i).2.1 (rwI l e i).2.2).2.2 = 0 := z
        rw [ee] at z
        show (rwI l e i).1 ++ [(nmP (rwI l e i).2.1 (rwI l e i).2.2).1] = (rbI b p e i).1 ++ [(nbP b (rbI b p e i).2.1 (rbI b p e i).2.2).1]
        rw [hq.2 he2, ee, t2 z]) (fun i hz => by
      show (nmP _ _).2 = _
      rw [nm_err hz]) n
  refine ⟨k.1, fun z => ?_⟩
  obtain ⟨k1, k2⟩ := k.2 z
  refine ⟨k1, if_pos fun j hj => Classical.byContradiction fun d => ?_, k2⟩
  have := rw_err d (n - j)
  rw [show j + (n - j) = n by omega] at this
  have z : (rwI l e n).2.2 = 0 := z
  rw [this] at z
  exact d z
theorem rwF_eq {b l : List Int} {p : Nat} {e : Int} (hb : By b) (hp : p ≤ b.length) (h : RL b (l, e) (p, e)) (n : Nat) (hz : (rwI l e n).2.2 = 0) : rwF l e n = rbF b p e n := by
  obtain ⟨k1, k2, k3⟩ := (rw_rb hb hp h n).2 hz
  funext i
  unfold rwF rbF
  rw [k1, k3]
/-- The first three. -/
theorem hd_eq {b : List Int} (hb : By b) : RL b (tkP 3 b 0).2 (q3 b).2 ∧ ((tkP 3 b 0).2.2 = 0 → psk b = (q1 b).1 ∧ psn b = (q2 b).1 ∧ psr b = (q3 b).1) := by
  obtain ⟨h1, h2⟩ := tk_byI (b := b) (l := b) (p := 0) (e := 0) 3 (Nat.zero_le _) ⟨rfl, fun _ => rfl⟩
  refine ⟨h1, fun c => ?_⟩
  have hz : (byI b 0 0 3).2 = 0 := h1.1.symm.trans c
  have hlen : 3 ≤ b.length := by
    rcases Nat.lt_or_ge b.length 3 with d | d
    · rw [byI_cut (Nat.zero_le _) 3 (by omega)] at hz; cases hz
    · exact d
  have val : ∀ k, k < 3 → (byP b (byI b 0 0 k).1 (byI b 0 0 k).2).1 = b.getD (0 + k) 0 := by
    intro k hk
    rw [byI_ok k (by omega)]
    unfold byP
    rw [if_pos rfl, if_neg (by show ¬ b.length ≤ 0 + k; omega)]
  exact ⟨(h2 c 0 (by decide)).1.trans (val 0 (by decide)).symm, (h2 c 1 (by decide)).1.trans (val 1 (by decide)).symm, (h2 c 2 (by decide)).1.trans (val 2 (by decide)).symm⟩
theorem q3_le {b : List Int} (hb : By b) : (q3 b).2.1 ≤ b.length :=
  (by_ok hb (by_ok hb (by_ok (e := 0) hb (Nat.zero_le _)).2).2).2
theorem rows_eq {b : List Int} (hb : By b) (hz : (tkP 3 b 0).2.2 = 0) : ∀ i, RL b (psS b i) (qS b i) ∧ (qS b i).1 ≤ b.length ∧ psC b i = qC b i
  | 0 => by
    obtain ⟨h1, h2⟩ := hd_eq hb
    obtain ⟨e1, e2, e3⟩ := h2 hz
    exact ⟨⟨rfl, fun _ => h1.2 hz⟩, q3_le hb, by unfold psC qC; rw [e1, e2, e3]⟩
  | i + 1 => by
    obtain ⟨k1, k2, k3⟩ := rows_eq hb hz i
    obtain ⟨h1, h2⟩ := hd_eq hb
    obtain ⟨e1, e2, e3⟩ := h2 hz
    have ee : (psS b i).2 = (qS b i).2 := k1.1
    refine ⟨?_, (rb_ok hb k2 _).1, by unfold psC qC; rw [e1, e2, e3]⟩
    show RL b (rwI (psS b i).1 (psS b i).2 (psC b i)).2 (rbI b (qS b i).1 (qS b i).2 (rbN b (qS b i).1 (qS b i).2 (qC b i))).2
    rw [ee, k3]
    exact (rw_rb hb k2 k1.re (qC b i)).1
theorem ps_stick {b : List Int} {i : Nat} (h : (psS b i).2 ≠ 0) : psS b (i + 1) = psS b i := by
  show (rwI (psS b i).1 (psS b i).2 (psC b i)).2 = _
  have := rw_err (l := (psS b i).1) (e := (psS b i).2) (i := 0) h (psC b i)
  rw [Nat.zero_add] at this
  exact this
theorem ps_zero {b : List Int} {i : Nat} (h : (psS b (i + 1)).2 = 0) : (psS b i).2 = 0 := Classical.byContradiction fun d => d (by rw [← ps_stick d]; exact h)
/-- What is told is the same. -/
theorem parse_eq {b : List Int} (hb : By b) : psE b = qE b ∧ (psE b = 0 → psk b = (q1 b).1 ∧ psn b = (q2 b).1 ∧ psr b = (q3 b).1 ∧ ∀ i, i < 4 → psM b i = qM b i ∧ psF b i = qF b i ∧ psM b i = psC b i) := by
  obtain ⟨h1, h2⟩ := hd_eq hb
  unfold psE qE
  by_cases c0 : (tkP 3 b 0).2.2 = 0
  · have c0' : (q3 b).2.2 = 0 := h1.1.symm.trans c0
    obtain ⟨e1, e2, e3⟩ := h2 c0
    have n0 : ¬ (tkP 3 b 0).2.2 ≠ 0 := fun c => c c0
    have n0' : ¬ (q3 b).2.2 ≠ 0 := fun c => c c0'
    rw [if_neg n0, if_neg n0', e1, e2, e3]
    by_cases c1 : headV (q1 b).1 (q2 b).1 (q3 b).1 = 0
    · have n1 : ¬ headV (q1 b).1 (q2 b).1 (q3 b).1 ≠ 0 := fun c => c c1
      rw [if_neg n1, if_neg n1]
      obtain ⟨k1, k2, k3⟩ := rows_eq hb c0 4
      have k1e : (psS b 4).2 = (qS b 4).2 := k1.1
      by_cases c2 : (psS b 4).2 = 0
      · have c2' : (qS b 4).2 = 0 := k1e.symm.trans c2
        have n2 : ¬ (psS b 4).2 ≠ 0 := fun c => c c2
        have n2' : ¬ (qS b 4).2 ≠ 0 := fun c => c c2'
        rw [if_neg n2, if_neg n2']
        have hz : ∀ i, i ≤ 4 → (psS b i).2 = 0 := by
          have z3 := ps_zero c2
          have z2 := ps_zero z3
          have z1 := ps_zero z2
          have z0 := ps_zero z1
          intro i hi
          match i, hi with
          | 0, _ => exact z0
          | 1, _ => exact z1
          | 2, _ => exact z2
          | 3, _ => exact z3
          | 4, _ => exact c2
        have hrow : ∀ i, i < 4 → psM b i = qM b i ∧ psF b i = qF b i ∧ psM b i = psC b i := by
          intro i hi
          obtain ⟨j1, j2, j3⟩ := rows_eq hb c0 i
          have ee : (psS b i).2 = (qS b i).2 := j1.1
          have z := hz (i + 1) hi
          have z : (rwI (psS b i).1 (psS b i).2 (psC b i)).2.2 = 0 := z
          unfold psM qM psF qF
          rw [ee, j3] at z ⊢
          obtain ⟨t1, t2, t3⟩ := (rw_rb hb j2 j1.re (qC b i)).2 z
          exact ⟨t2.trans t1.symm, rwF_eq hb j2 j1.re (qC b i) z, t2⟩
        have hlen : (psS b 4).1.length = b.length - (qS b 4).1 := by
          rw [k1.2 c2, List.length_drop]
        have hG : psG b = qG b := by
          unfold psG qG
          rw [e1, e2, e3, (hrow 0 (by decide)).1, (hrow 0 (by decide)).2.1, (hrow 1 (by decide)).1, (hrow 1 (by decide)).2.1, (hrow 2 (by decide)).1, (hrow 2 (by decide)).2.1, (hrow 3 (by decide)).1, (hrow 3 (by decide)).2.1]
        by_cases c3 : 0 < (psS b 4).1.length
        · rw [if_pos c3, if_pos (by omega : (qS b 4).1 < b.length)]
          exact ⟨rfl, fun c => by cases c⟩
        · rw [if_neg c3, if_neg (by omega : ¬ (qS b 4).1 < b.length), hG]
          exact ⟨rfl, fun _ => ⟨rfl, rfl, rfl, hrow⟩⟩
      · have c2' : (qS b 4).2 ≠ 0 := fun z => c2 (k1e.trans z)
        rw [if_pos c2, if_pos c2']
        exact ⟨k1e, fun c => absurd c c2⟩
    · rw [if_pos c1, if_pos c1]
      exact ⟨rfl, fun c => absurd c c1⟩
  · have c0' : (q3 b).2.2 ≠ 0 := fun z => c0 (h1.1.trans z)
    rw [if_pos c0, if_pos c0']
    exact ⟨h1.1, fun c => absurd c c0⟩
end Go.Proofs.Ytpclkgjhfhhddaa.AM
/- ref6: bytes are laid. -/
namespace Go.Proofs.Ytpclkgjhfhhddaa.AM
open Go Go.RowKit Go.Proofs.Ytpclkgjhfhhddaa.PN Go.Proofs.Ytpclkgjhfhhddaa.V
set_option linter.unusedVariables false
set_option linter.unusedSimpArgs false
set_option maxRecDepth 8000
set_option maxHeartbeats 8000000
/-- A limb's first bytes. -/
def encK (x k : Nat) : List Int := (List.range k).map fun q => (x : Int) / 2 ^ (8 * q) % 256
theorem encK_succ {x k : Nat} : encK x (k + 1) = encK x k ++ [(x : Int) / 2 ^ (8 * k) % 256] := by
  unfold encK
  rw [List.range_succ, List.map_append]
  rfl
theorem encK_four {x : Nat} : encK x 4 = encW x := by
  show [(x : Int) / 2 ^ 0 % 256, _, _, _] = _
  simp [encW]
theorem encK_len {x k : Nat} : (encK x k).length = k := by simp [encK]
theorem x_limbs {b : List Int} {l : List Nat} (hb : b.length ≤ 100000000) (hl : l.length ≤ 1000) : HasC Try.prog 69 b [.lb l] (b ++ encL l) := by
  refine hasC_of Try.func69 (by kernel_rfl) rfl Try.ntmps69 Try.results69 rfl ?_
  have hb' : ((l.length : Nat) : Int) ≤ 1000 := by omega
  refine run0p ?_
  refine st_appbb 20 rfl rfl rfl rfl rfl rfl rfl (show b.length + 1 ≤ 1000000000 by omega) ?_
  refine run0p ?_
  refine awp_loop (fun m' s => ∃ i, i ≤ l.length ∧ m' = l.length - i ∧ s = stl [(0, .own 11 0), (1, .lb l), (5, .i (i : Int))] [(11, (1, fun _ => bb (b ++ ((l.length : Int) % 256) :: (l.take i).flatMap encW)))]) l.length _ ?_ ⟨0, by omega, rfl, rfl⟩ ?_
  · refine fld_next (t := 11) (a := 20) rfl rfl (bb_eq bb_same (by simp)) (bb_ok _ _) rfl rfl ?_ True.intro
    exact alle rfl (Le.own s1_t) rfl (alle rfl (Le.eq rfl rfl) True.intro (alle rfl (Le.eq rfl rfl) True.intro True.intro))
  rintro m' s ⟨i, hi, rfl, rfl⟩
  have hi' : (i : Int) ≤ 1000 := by omega
  have hl4 : ((l.take i).flatMap encW).length ≤ 4 * i := by rw [List.length_flatMap]; exact len4 _ i hi
  refine run0p ?_
  refine awp_if rfl (fun h => ?_) (fun h => ?_)
  · have h : (i : Int) < (l.length : Int) := h
    have e1 : ((i : Nat) : Int).toNat = i := by omega
    refine run0p ?_
    refine awp_loop (fun m' s => ∃ k, k ≤ 4 ∧ m' = 4 - k ∧ s = stl [(0, .own 11 0), (1, .lb l), (5, .i (i : Int)), (6, .i (k : Int))] [(11, (1, fun _ => bb (b ++ ((l.length : Int) % 256) :: (l.take i).flatMap encW ++ encK (l.getD i 0) k)))]) 4 _ ?_ ⟨0, by omega, rfl, rfl⟩ ?_
    · refine imp_id ?_ ?_
      · exact eA
      · exact allh rfl (by decide) (bb_eq bb_same (by simp [encK])) (bb_ok _ _) True.intro
    rintro m' s ⟨k, hk, rfl, rfl⟩
    have hk' : (k : Int) ≤ 4 := by omega
    refine run0p ?_
    refine awp_if rfl (fun h2 => ?_) (fun h2 => ?_)
    · have h2 : (k : Int) < 4 := h2
      have e2 : (8 * ((k : Nat) : Int)).toNat = 8 * k := by omega
      refine run0p ?_
      refine st_ev2 rfl ⟨by omega, .inr (show (8 * ((k : Nat) : Int)).toNat ≤ 32 by omega)⟩ ?_
      refine run0p ?_
      refine st_appbb 20 rfl rfl rfl rfl rfl rfl rfl (show (b ++ ((l.length : Int) % 256) :: (l.take i).flatMap encW ++ encK (l.getD i 0) k).length + 1 ≤ 1000000000 by rw [List.length_append, List.length_append, List.length_cons, encK_len]; omega) ?_
      refine run0p ?_
      refine q_loop (m' := 4 - (k + 1)) (by omega) ?_ ⟨k + 1, by omega, rfl, rfl⟩
      refine fld_next (t := 11) (a := 20) rfl rfl (bb_eq bb_same (by rw [encK_succ, e1, e2, List.append_assoc])) (bb_ok _ _) rfl rfl ?_ True.intro
      exact alle rfl (Le.own s1_t) rfl (alle rfl (Le.eq rfl rfl) True.intro (alle rfl (Le.eq rfl rfl) True.intro (alle rfl (Le.eq rfl rfl) True.intro True.intro)))
    · have h2 : ¬ (k : Int) < 4 := h2
      have e : k = 4 := by omega
      subst e
      refine run0p ?_
      refine q_loop (m' := l.length - (i + 1)) (by omega) ?_ ⟨i + 1, by omega, rfl, rfl⟩
      refine imp_id ?_ ?_
      · exact eA
      · exact allh rfl (by decide) (bb_eq bb_same (by rw [flat_take (by omega), encK_four, List.append_assoc, List.cons_append])) (bb_ok _ _) True.intro
  · have h : ¬ (i : Int) < (l.length : Int) := h
    have e : i = l.length := by omega
    subst e
    refine run0p ?_
    refine ⟨.inr rfl, [(4, .own 11 0)], imp_id ?_ ?_, .one (.tmp rfl)⟩
    · exact alle rfl (Le.id rfl) rfl True.intro
    · refine allh rfl (by decide) (bb_eq bb_same ?_) (bb_ok _ _) True.intro
      unfold encL
      rw [List.take_length]
theorem x_row {b : List Int} {n : Nat} {F : Nat → RA} (hb : b.length ≤ 4000000) (hF : ∀ j, (raN (F j)).length ≤ 1000 ∧ (raD (F j)).length ≤ 1000) (hn : n ≤ 100) : HasC Try.prog 40 b [.row false n F] (b ++ encRow n F) := by
  have hn' : (n : Int) ≤ 100 := by omega
  refine hasC_of Try.func40 (by kernel_rfl) rfl Try.ntmps40 Try.results40 rfl ?_
  refine run0p ?_
  refine awp_loop (fun m' s => ∃ i, i ≤ n ∧ m' = n - i ∧ s = stl [(0, .own 11 0), (1, .row false n F), (5, .i (i : Int))] [(11, (1, fun _ => bb (b ++ encRow i F)))]) n _ ?_ ⟨0, by omega, rfl, rfl⟩ ?_
  · refine fld_next (t := 11) (a := 10) rfl rfl (bb_eq bb_same (by simp [encRow])) (bb_ok _ _) rfl rfl ?_ True.intro
    exact alle rfl (Le.own s1_t) rfl (alle rfl (Le.eq rfl rfl) True.intro (alle rfl (Le.eq rfl rfl) True.intro True.intro))
  rintro m' s ⟨i, hi, rfl, rfl⟩
  have hi' : (i : Int) ≤ 100 := by omega
  have hri := encRow_len (n := i) hF
  have e1 : ((i : Nat) : Int).toNat = i := by omega
  have hbl : (b ++ encRow i F).length ≤ 10000000 := by rw [List.length_append]; omega
  refine run0p ?_
  refine awp_if rfl (fun h => ?_) (fun h => ?_)
  · have h : (i : Int) < (n : Int) := h
    have c1 : HasC Try.prog 69 (b ++ encRow i F ++ [sgB (F i).sgn]) [((F i).field 1).old] (b ++ encRow i F ++ [sgB (F i).sgn] ++ encL (raN (F i))) :=
      (x_limbs (by rw [List.length_append, List.length_singleton]; omega) (hF i).1).args rfl fun t x' hx => by
        match t, hx with
        | 0, hx => cases hx; exact ⟨trivial, _, rfl, fun S B β w v => le_rn⟩
        | t + 1, hx => cases hx
    have c2 : HasC Try.prog 69 (b ++ encRow i F ++ [sgB (F i).sgn] ++ encL (raN (F i))) [((F i).field 2).old] (b ++ encRow i F ++ [sgB (F i).sgn] ++ encL (raN (F i)) ++ encL (raD (F i))) :=
      (x_limbs (by have := (hF i).1; rw [List.length_append, List.length_append, List.length_singleton, encL_len]; omega) (hF i).2).args rfl fun t x' hx => by
        match t, hx with
        | 0, hx => cases hx; exact ⟨trivial, _, rfl, fun S B β w v => le_rd⟩
        | t + 1, hx => cases hx
    have fin : b ++ encRow i F ++ [sgB (F i).sgn] ++ encL (raN (F i)) ++ encL (raD (F i)) = b ++ encRow (i + 1) F := by rw [encRow_succ]; simp [encR]
    refine run0p ?_
    rcases Bool.eq_false_or_eq_true (F i).sgn with hs | hs
    · rw [hs] at c1 c2 fin
      refine awp_yes rfl hs ?_
      refine run0p ?_
      refine st_appbb 50 rfl rfl rfl rfl rfl rfl rfl (show (b ++ encRow i F).length + 1 ≤ 1000000000 by omega) ?_
      refine run0p ?_
      refine st_callC 51 rfl rfl rfl rfl rfl c1 rfl rfl rfl rfl rfl ⟨ok_rn, True.intro⟩ ?_
      refine run0p ?_
      refine st_callC 52 rfl rfl rfl rfl rfl c2 rfl rfl rfl rfl rfl ⟨ok_rd, True.intro⟩ ?_
      refine run0p ?_
      refine q_loop (m' := n - (i + 1)) (by omega) ?_ ⟨i + 1, by omega, rfl, rfl⟩
      refine fld_next (t := 11) (a := 52) rfl rfl (bb_eq bb_same fin) (bb_ok _ _) rfl rfl ?_ True.intro
      exact alle rfl (Le.own s1_t) rfl (alle rfl (Le.eq rfl rfl) True.intro (alle rfl (Le.eq rfl rfl) True.intro True.intro))
    · rw [hs] at c1 c2 fin
      refine awp_no rfl hs ?_
      refine run0p ?_
      refine st_appbb 50 rfl rfl rfl rfl rfl rfl rfl (show (b ++ encRow i F).length + 1 ≤ 1000000000 by omega) ?_
      refine run0p ?_
      refine st_callC 51 rfl rfl rfl rfl rfl c1 rfl rfl rfl rfl rfl ⟨ok_rn, True.intro⟩ ?_
      refine run0p ?_
      refine st_callC 52 rfl rfl rfl rfl rfl c2 rfl rfl rfl rfl rfl ⟨ok_rd, True.intro⟩ ?_
      refine run0p ?_
      refine q_loop (m' := n - (i + 1)) (by omega) ?_ ⟨i + 1, by omega, rfl, rfl⟩
      refine fld_next (t := 11) (a := 52) rfl rfl (bb_eq bb_same fin) (bb_ok _ _) rfl rfl ?_ True.intro
      exact alle rfl (Le.own s1_t) rfl (alle rfl (Le.eq rfl rfl) True.intro (alle rfl (Le.eq rfl rfl) True.intro True.intro))
  · have h : ¬ (i : Int) < (n : Int) := h
    have e : i = n := by omega
    subst e
    refine run0p ?_
    refine ⟨.inr rfl, [(4, .own 11 0)], imp_id ?_ ?_, .one (.tmp rfl)⟩
    · exact alle rfl (Le.id rfl) rfl True.intro
    · exact allh rfl (by decide) (bb_eq bb_same rfl) (bb_ok _ _) True.intro
theorem x_bytes {k n r : Int} {m : Nat → Nat} {F : Nat → Nat → RA} (hF : ∀ i j, (raN (F i j)).length ≤ 1000 ∧ (raD (F i j)).length ≤ 1000) (hm : ∀ i, m i ≤ 100) : Has Try.prog 15 [.ag 7 (gF k n r m F)] (.seq .u8 (encG k n r m F)) := by
  have l1 := encRow_len (n := m 0) (hF 0)
  have l2 := encRow_len (n := m 1) (hF 1)
  have l3 := encRow_len (n := m 2) (hF 2)
  have m0 := hm 0
  have m1 := hm 1
  have m2 := hm 2
  have c1 : HasC Try.prog 40 (encH k n r) [.row false (m 0) (F 0)] (encH k n r ++ encRow (m 0) (F 0)) := x_row (by show 3 ≤ _; omega) (hF 0) m0
  have c2 : HasC Try.prog 40 (encH k n r ++ encRow (m 0) (F 0)) [.row false (m 1) (F 1)] (encH k n r ++ encRow (m 0) (F 0) ++ encRow (m 1) (F 1)) := x_row (by rw [List.length_append]; show 3 + _ ≤ _; omega) (hF 1) m1
  have c3 : HasC Try.prog 40 (encH k n r ++ encRow (m 0) (F 0) ++ encRow (m 1) (F 1)) [.row false (m 2) (F 2)] (encH k n r ++ encRow (m 0) (F 0) ++ encRow (m 1) (F 1) ++ encRow (m 2) (F 2)) := x_row (by rw [List.length_append, List.length_append]; show 3 + _ + _ ≤ _; omega) (hF 2) m2
  have c4 : HasC Try.prog 40 (encH k n r ++ encRow (m 0) (F 0) ++ encRow (m 1) (F 1) ++ encRow (m 2) (F 2)) [.row false (m 3) (F 3)] (encG k n r m F) := by
    have := x_row (b := encH k n r ++ encRow (m 0) (F 0) ++ encRow (m 1) (F 1) ++ encRow (m 2) (F 2)) (by rw [List.length_append, List.length_append, List.length_append]; show 3 + _ + _ + _ ≤ _; omega) (hF 3) (hm 3)
    have e : encG k n r m F = encH k n r ++ encRow (m 0) (F 0) ++ encRow (m 1) (F 1) ++ encRow (m 2) (F 2) ++ encRow (m 3) (F 3) := by
      unfold encG
      rw [encRows_succ, encRows_succ, encRows_succ, encRows_succ]
      simp [encRows]
    rw [e]
    exact this
  refine has_of Try.func15 (by kernel_rfl) rfl Try.ntmps15 Try.results15 rfl rfl rfl ?_
  refine run0 ?_
  refine st_ev2 rfl True.intro ?_
  refine run0 ?_
  refine st_ev2 rfl True.intro ?_
  refine run0 ?_
  refine st_ev2 rfl True.intro ?_
  refine st_litbb 50 rfl rfl (by decide) rfl rfl rfl rfl ?_
  refine run0p ?_
  refine st_callC 51 rfl rfl rfl rfl rfl c1 rfl rfl rfl rfl rfl ⟨True.intro, True.intro⟩ ?_
  refine run0p ?_
  refine st_callC 52 rfl rfl rfl rfl rfl c2 rfl rfl rfl rfl rfl ⟨True.intro, True.intro⟩ ?_
  refine run0p ?_
  refine st_callC 53 rfl rfl rfl rfl rfl c3 rfl rfl rfl rfl rfl ⟨True.intro, True.intro⟩ ?_
  refine run0p ?_
  refine st_callC 54 rfl rfl rfl rfl rfl c4 rfl rfl rfl rfl rfl ⟨True.intro, True.intro⟩ ?_
  refine run0p ?_
  exact ⟨.inr rfl, _, imp_seq 2 (encG k n r m F) rfl rfl rfl rfl (fun _ _ => rfl), .one (.tmp rfl)⟩
end Go.Proofs.Ytpclkgjhfhhddaa.AM
/- What was laid is taken as it was. -/
namespace Go.Proofs.Ytpclkgjhfhhddaa.AM
open Go Go.RowKit Go.Proofs.Ytpclkgjhfhhddaa.PN Go.Proofs.Ytpclkgjhfhhddaa.V
set_option linter.unusedVariables false
set_option linter.unusedSimpArgs false
theorem borN_nat {a y : Nat} (ha : a < 4294967296) (hy : y < 4294967296) : borN a y = ((a ||| y : Nat) : Int) := by
  unfold borN
  have h1 : BitVec.ofInt 32 (a : Int) = BitVec.ofNat 32 a := by simp
  have h2 : BitVec.ofInt 32 (y : Int) = BitVec.ofNat 32 y := by simp
  rw [h1, h2, BitVec.toNat_or, BitVec.toNat_ofNat, BitVec.toNat_ofNat, Nat.mod_eq_of_lt (by simpa using ha), Nat.mod_eq_of_lt (by simpa using hy)]
theorem bor_add {a c k : Nat} (ha : a < 2 ^ k) (hk : k ≤ 24) (hc : c < 256) : borN a (shlN c (k : Nat)) = ((a + c * 2 ^ k : Nat) : Int) := by
  have hp : 2 ^ k ≤ 16777216 := Nat.pow_le_pow_right (n := 2) (by decide) hk
  have hck : c * 2 ^ k ≤ 255 * 16777216 := Nat.mul_le_mul (by omega) hp
  have hs : shlN c (k : Nat) = ((c * 2 ^ k : Nat) : Int) := by
    unfold shlN
    rw [Int.toNat_natCast]
    have : ((c : Int) * 2 ^ k) = ((c * 2 ^ k : Nat) : Int) := by simp
    rw [this]
    omega
  rw [hs, borN_nat (by omega) (by omega), Nat.or_comm, Nat.mul_comm, ← Nat.two_pow_add_eq_or_of_lt ha, Nat.add_comm, Nat.mul_comm]
theorem w4_enc {x : Nat} (hx : x < B) : w4 (encW x) = x := by
  have hB : B = 4294967296 := rfl
  rw [hB] at hx
  have e0 : (encW x).getD 0 0 = ((x % 256 : Nat) : Int) := by show (x : Int) % 256 = _; omega
  have e1 : (encW x).getD 1 0 = ((x / 256 % 256 : Nat) : Int) := by show (x : Int) / 2 ^ 8 % 256 = _; omega
  have e2 : (encW x).getD 2 0 = ((x / 65536 % 256 : Nat) : Int) := by show (x : Int) / 2 ^ 16 % 256 = _; omega
  have e3 : (encW x).getD 3 0 = ((x / 16777216 % 256 : Nat) : Int) := by show (x : Int) / 2 ^ 24 % 256 = _; omega
  unfold w4
  rw [e0, e1, e2, e3]
  rw [show (8 : Int) = ((8 : Nat) : Int) from rfl, show (16 : Int) = ((16 : Nat) : Int) from rfl, show (24 : Int) = ((24 : Nat) : Int) from rfl]
  rw [bor_add (by omega) (by decide) (by omega), bor_add (by omega) (by decide) (by omega), bor_add (by omega) (by decide) (by omega), Int.toNat_natCast]
  omega
theorem tk_app {a t : List Int} {n : Nat} (h : a.length = n) : tkP n (a ++ t) 0 = (a, t, 0) := by
  unfold tkP
  rw [if_pos rfl, if_neg (by rw [List.length_append]; omega), List.take_left' h, List.drop_left' h]
theorem sm_cons {c m : Int} {t : List Int} (h : c ≤ m) : smP m (c :: t) 0 = (c, t, 0) := by
  unfold smP
  have e : tkP 1 (c :: t) 0 = ([c], t, 0) := tk_app (a := [c]) rfl
  rw [e]
  show (if (0 : Int) = 0 then (if m < c then _ else _) else _) = _
  rw [if_pos rfl, if_neg (by omega)]
  rfl
theorem lmI_enc {l : List Nat} (hl : LF l) : ∀ i, i ≤ l.length → ∀ t, lmI ((l.take i).flatMap encW ++ t) 0 i = (l.take i, t, 0)
  | 0, _, t => rfl
  | i + 1, hi, t => by
    rw [flat_take (by omega), List.append_assoc]
    show ((lmI _ 0 i).1 ++ [w4 (tkP 4 (lmI _ 0 i).2.1 (lmI _ 0 i).2.2).1], (tkP 4 (lmI _ 0 i).2.1 (lmI _ 0 i).2.2).2) = _
    rw [lmI_enc hl i (by omega)]
    show ((l.take i) ++ [w4 (tkP 4 (encW (l.getD i 0) ++ t) 0).1], (tkP 4 (encW (l.getD i 0) ++ t) 0).2) = _
    rw [tk_app (n := 4) (a := encW (l.getD i 0)) rfl]
    show (l.take i ++ [w4 (encW (l.getD i 0))], t, (0 : Int)) = _
    have hx : l.getD i 0 < B := by
      rw [List.getD_eq_getElem?_getD, List.getElem?_eq_getElem (by omega)]
      exact hl _ (List.getElem_mem _)
    rw [w4_enc hx, List.take_add_one, List.getElem?_eq_getElem (by omega), List.getD_eq_getElem?_getD, List.getElem?_eq_getElem (by omega)]
    rfl
theorem lm_enc {l : List Nat} (hl : LF l) (h4 : l.length ≤ 4) (t : List Int) : lmP (encL l ++ t) 0 = (l, t, 0) := by
  unfold lmP encL
  have e : ((l.length : Nat) : Int) % 256 = l.length := by omega
  rw [List.cons_append, e, sm_cons (by omega)]
  show lmI (l.flatMap encW ++ t) 0 ((l.length : Nat) : Int).toNat = _
  have := lmI_enc hl l.length (Nat.le_refl _) t
  rw [List.take_length] at this
  rw [Int.toNat_natCast]
  exact this
/-- A number that may be laid. -/
def Enc (r : RA) : Prop := RAf r ∧ (raN r).length ≤ 4 ∧ (raD r).length ≤ 4
def rawOf (r : RA) : RA := .raw r.sgn (raN r) (raD r)
theorem nm_enc {r : RA} (h : Enc r) (t : List Int) : nmP (encR r ++ t) 0 = (rawOf r, t, 0) := by
  obtain ⟨⟨h1, h2⟩, h3, h4⟩ := h
  have e0 : smP 1 (encR r ++ t) 0 = (sgB r.sgn, encL (raN r) ++ (encL (raD r) ++ t), 0) := by
    unfold encR
    rw [List.cons_append, List.append_assoc]
    exact sm_cons (by unfold sgB; split <;> decide)
  unfold nmP
  rw [e0]
  simp only []
  rw [lm_enc h1 h3]
  simp only []
  rw [lm_enc h2 h4]
  have : decide (sgB r.sgn = 1) = r.sgn := by cases r.sgn <;> decide
  rw [this]
  rfl
theorem rw_enc {F : Nat → RA} (h : ∀ j, Enc (F j)) : ∀ n t, rwI (encRow n F ++ t) 0 n = ((List.range n).map fun j => rawOf (F j), t, 0)
  | 0, t => rfl
  | n + 1, t => by
    rw [encRow_succ, List.append_assoc]
    show ((rwI _ 0 n).1 ++ [(nmP (rwI _ 0 n).2.1 (rwI _ 0 n).2.2).1], (nmP (rwI _ 0 n).2.1 (rwI _ 0 n).2.2).2) = _
    rw [rw_enc h n]
    show (_ ++ [(nmP (encR (F n) ++ t) 0).1], (nmP (encR (F n) ++ t) 0).2) = _
    rw [nm_enc (h n), List.range_succ, List.map_append]
    rfl
theorem rwN_enc {F : Nat → RA} (h : ∀ j, Enc (F j)) (n : Nat) (t : List Int) : rwN (encRow n F ++ t) 0 n = n := by
  refine if_pos fun j hj => Classical.byContradiction fun d => ?_
  have := rw_err d (n - j)
  rw [show j + (n - j) = n by omega, rw_enc h] at this
  exact d (by rw [← this])
theorem rwF_enc {F : Nat → RA} (h : ∀ j, Enc (F j)) {n j : Nat} (hj : j < n) (t : List Int) : rwF (encRow n F ++ t) 0 n j = rawOf (F j) := by
  unfold rwF
  rw [rw_enc h, List.getD_eq_getElem?_getD, List.getElem?_map, List.getElem?_range hj]
  rfl
section
variable {k n r : Nat} {m : Nat → Nat} {F : Nat → Nat → RA} (hk : k ≤ 255) (hn : n ≤ 255) (hr : r ≤ 255) (hF : ∀ i j, Enc (F i j)) (hm : m 0 = cnA k n ∧ m 1 = cnB k n ∧ m 2 = cnH k n r ∧ m 3 = cnH k n r)
theorem ps_tk (k n r : Nat) (m : Nat → Nat) (F : Nat → Nat → RA) : tkP 3 (encG k n r m F) 0 = (encH k n r, encRows 4 m F, 0) := tk_app rfl
include hk hn hr
theorem ps_hd : psk (encG k n r m F) = k ∧ psn (encG k n r m F) = n ∧ psr (encG k n r m F) = r := by
  unfold psk psn psr
  rw [ps_tk]
  refine ⟨?_, ?_, ?_⟩
  · show (k : Int) % 256 = k; omega
  · show (n : Int) % 256 = n; omega
  · show (r : Int) % 256 = r; omega
include hm
theorem ps_cnt : ∀ i, i < 4 → psC (encG k n r m F) i = m i := by
  obtain ⟨e1, e2, e3⟩ := ps_hd (m := m) (F := F) hk hn hr
  intro i hi
  unfold psC
  rw [e1, e2, e3]
  match i, hi with
  | 0, _ => exact hm.1.symm
  | 1, _ => exact hm.2.1.symm
  | 2, _ => exact hm.2.2.1.symm
  | 3, _ => exact hm.2.2.2.symm
include hF
/-- The rows behind so many. -/
theorem ps_rows : ∀ i, i ≤ 4 → psS (encG k n r m F) i = (((List.range (4 - i)).flatMap fun j => encRow (m (i + j)) (F (i + j))), 0)
  | 0, _ => by
    show ((tkP 3 (encG k n r m F) 0).2.1, (0 : Int)) = _
    rw [ps_tk]
    show (encRows 4 m F, (0 : Int)) = _
    unfold encRows
    simp only [Nat.zero_add, Nat.sub_zero]
  | i + 1, hi => by
    show (rwI (psS (encG k n r m F) i).1 (psS (encG k n r m F) i).2 (psC (encG k n r m F) i)).2 = _
    rw [ps_cnt hk hn hr hm i (by omega), ps_rows i (by omega)]
    have e : ((List.range (4 - i)).flatMap fun j => encRow (m (i + j)) (F (i + j))) = encRow (m i) (F i) ++ ((List.range (4 - (i + 1))).flatMap fun j => encRow (m (i + 1 + j)) (F (i + 1 + j))) := by
      rw [show 4 - i = (4 - (i + 1)) + 1 by omega, List.range_succ_eq_map, List.flatMap_cons, List.flatMap_map]
      simp only [Nat.add_zero]
      congr 1
      congr 1
      funext j
      rw [show i + (j + 1) = i + 1 + j by omega]
    simp only []
    rw [e, rw_enc (hF i)]
theorem ps_row {i : Nat} (hi : i < 4) : psM (encG k n r m F) i = m i ∧ ∀ j, j < m i → psF (encG k n r m F) i j = rawOf (F i j) := by
  unfold psM psF
  rw [ps_cnt hk hn hr hm i hi, ps_rows hk hn hr hF hm i (by omega)]
  have e : ((List.range (4 - i)).flatMap fun j => encRow (m (i + j)) (F (i + j))) = encRow (m i) (F i) ++ ((List.range (4 - (i + 1))).flatMap fun j => encRow (m (i + 1 + j)) (F (i + 1 + j))) := by
    rw [show 4 - i = (4 - (i + 1)) + 1 by omega, List.range_succ_eq_map, List.flatMap_cons, List.flatMap_map]
    simp only [Nat.add_zero]
    congr 1
    congr 1
    funext j
    rw [show i + (j + 1) = i + 1 + j by omega]
  simp only []
  rw [e]
  exact ⟨rwN_enc (hF i) _ _, fun j hj => rwF_enc (hF i) hj _⟩
theorem ps_enc (hd : headV k n r = 0) : psE (encG k n r m F) = chk (psG (encG k n r m F)) := by
  obtain ⟨e1, e2, e3⟩ := ps_hd (m := m) (F := F) hk hn hr
  have h4 := ps_rows hk hn hr hF hm 4 (Nat.le_refl _)
  have z1 : ¬ (tkP 3 (encG k n r m F) 0).2.2 ≠ 0 := fun c => c (by rw [ps_tk])
  have z2 : ¬ headV (psk (encG k n r m F)) (psn (encG k n r m F)) (psr (encG k n r m F)) ≠ 0 := fun c => c (by rw [e1, e2, e3]; exact hd)
  have z3 : ¬ (psS (encG k n r m F) 4).2 ≠ 0 := fun c => c (by rw [h4])
  have z4 : ¬ 0 < (psS (encG k n r m F) 4).1.length := by rw [h4]; exact Nat.lt_irrefl 0
  unfold psE
  rw [if_neg z1, if_neg z2, if_neg z3, if_neg z4]
end
end Go.Proofs.Ytpclkgjhfhhddaa.AM
/- Systems that may be are taken. -/
namespace Go.Proofs.Ytpclkgjhfhhddaa.AM
open Go Go.RowKit Go.Proofs.Ytpclkgjhfhhddaa.PN Go.Proofs.Ytpclkgjhfhhddaa.V
set_option linter.unusedVariables false
set_option linter.unusedSimpArgs false
/-- A system's rows, whatever they are. -/
def grGD (g : GD) : GR := ⟨g.k, g.n, g.r, prR g.la (fun i => .q (g.A i)), prR g.lb (fun i => .q (g.B i)), prR g.lg (fun i => .q (g.G i)), prR g.lh (fun i => .q (g.H i))⟩
theorem isp_q {p : Rat} (h : wt p ≤ 4) : IsP (limbsOf (nm p)) (limbsOf p.den) p := by
  have h1 := wt_num p
  have h2 := wt_den p
  exact ⟨limbsOf_lf _, limbsOf_lf _, trim_limbsOf _, trim_limbsOf _, lval_limbsOf _, lval_limbsOf _, by rw [limbsOf_len]; omega, by rw [limbsOf_len]; omega⟩
theorem smB_q {p : Rat} (h : wt p ≤ 4) : smB (ng p) (limbsOf (nm p)) (limbsOf p.den) = true := by
  have h1 := wt_num p
  have h2 := wt_den p
  have hd : (limbsOf p.den).length ≠ 0 := fun e => p.den_nz (by
    have := (lval_nil (trim_limbsOf p.den)).1 e
    rwa [lval_limbsOf] at this)
  have hz : (limbsOf (nm p)).length = 0 → ng p = false := fun e => by
    have := (lval_nil (trim_limbsOf (nm p))).1 e
    rw [lval_limbsOf] at this
    have hn : p.num = 0 := Int.natAbs_eq_zero.1 this
    show decide (p.num < 0) = false
    rw [hn]; rfl
  unfold smB rgtB
  rw [trim_limbsOf, trim_limbsOf, lval_limbsOf, lval_limbsOf, decide_eq_true (by rw [limbsOf_len]; omega : (limbsOf (nm p)).length ≤ 4), decide_eq_true (by rw [limbsOf_len]; omega : (limbsOf p.den).length ≤ 4), decide_eq_true hd]
  have hg : gcd1 (nm p) p.den = true := by
    rw [gcd1, Nat.beq_eq]
    exact p.reduced
  rw [hg]
  by_cases e : (limbsOf (nm p)).length = 0
  · rw [hz e]; simp
  · rw [decide_eq_false e]; rfl
theorem sm_q {m : Nat} {f : Nat → Rat} (h : ∀ i, i < m → wt (f i) ≤ 4) : (prR m fun i => .q (f i)).sm = true := decide_eq_true fun i hi => smB_q (h i hi)
theorem head_gd {g : GD} (o : g.OK) : headV g.k g.n g.r = 0 := by
  have h1 := o.k1
  have h7 := o.k7
  have n1 := o.n1
  have n8 := o.n8
  have r3 := o.r3
  unfold headV
  have e1 : kindB (g.k : Int) = false := by unfold kindB; rw [decide_eq_false (by omega), decide_eq_false (by omega)]; rfl
  have e2 : sizedB (g.k : Int) g.n g.r = true := by
    unfold sizedB
    rw [decide_eq_false (by omega), decide_eq_false (by omega), likeZ_nat]
    cases e : likeB g.k with
    | true => have := o.rk e; rw [cond_true, decide_eq_true (by omega), decide_eq_true (by omega)]; rfl
    | false => have := o.r0 e; rw [cond_false, decide_eq_true (by omega)]; rfl
  rw [e1, e2]; rfl
theorem chk_gd {g : GD} (o : g.OK) : chk (grGD g) = 0 := by
  have hh := head_gd o
  unfold headV at hh
  unfold chk
  show (bif kindB (g.k : Int) then (2 : Int) else bif sizedB (g.k : Int) g.n g.r then chkR (grGD g) else 1) = 0
  cases e1 : kindB (g.k : Int) with
  | true => rw [e1] at hh; cases hh
  | false =>
    rw [e1, cond_false] at hh
    cases e2 : sizedB (g.k : Int) g.n g.r with
    | false => rw [e2] at hh; cases hh
    | true =>
      rw [cond_false, cond_true]
      unfold chkR
      have l0 : (grGD g).A.len (cnt (grGD g).k (grGD g).n (grGD g).r 0) = true := decide_eq_true (o.len 0 (by decide))
      have l1 : (grGD g).B.len (cnt (grGD g).k (grGD g).n (grGD g).r 1) = true := decide_eq_true (o.len 1 (by decide))
      have l2 : (grGD g).G.len (cnt (grGD g).k (grGD g).n (grGD g).r 2) = true := decide_eq_true (o.len 2 (by decide))
      have l3 : (grGD g).H.len (cnt (grGD g).k (grGD g).n (grGD g).r 3) = true := decide_eq_true (o.len 3 (by decide))
      have m : (grGD g).A.meets (grGD g).B = false := by
        show (!decide (∀ i, i < g.la → (grGD g).B.has (ng (g.A i)) (limbsOf (nm (g.A i))) (limbsOf (g.A i).den) = false)) = false
        rw [decide_eq_true]
        · rfl
        · intro i hi
          show (!decide (∀ j, j < g.lb → eqB (ng (g.A i)) (limbsOf (nm (g.A i))) (limbsOf (g.A i).den) (ng (g.B j)) (limbsOf (nm (g.B j))) (limbsOf (g.B j).den) = false)) = false
          rw [decide_eq_true]
          · rfl
          · intro j hj
            rw [isp_eq (isp_q (o.sm.A i hi)) (isp_q (o.sm.B j hj))]
            exact decide_eq_false (o.ne i hi j hj)
      rw [l0, l1, l2, l3, m, show (grGD g).A.sm = true from sm_q o.sm.A, show (grGD g).B.sm = true from sm_q o.sm.B, show (grGD g).G.sm = true from sm_q o.sm.G, show (grGD g).H.sm = true from sm_q o.sm.H]
      rfl
/-- The same numbers. -/
structure PR.Eq (x y : PR) : Prop where
  m : x.m = y.m
  e : ∀ i, i < x.m → x.s i = y.s i ∧ x.f i = y.f i ∧ x.g i = y.g i
theorem PR.Eq.sm {x y : PR} (h : x.Eq y) : x.sm = y.sm := by
  unfold PR.sm
  rw [decide_eq_decide, ← h.m]
  exact ⟨fun k i hi => by obtain ⟨a, b, c⟩ := h.e i hi; rw [← a, ← b, ← c]; exact k i hi, fun k i hi => by obtain ⟨a, b, c⟩ := h.e i hi; rw [a, b, c]; exact k i hi⟩
theorem PR.Eq.has {x y : PR} (h : x.Eq y) (s : Bool) (n d : List Nat) : x.has s n d = y.has s n d := by
  unfold PR.has
  congr 1
  rw [decide_eq_decide, ← h.m]
  exact ⟨fun k i hi => by obtain ⟨a, b, c⟩ := h.e i hi; rw [← a, ← b, ← c]; exact k i hi, fun k i hi => by obtain ⟨a, b, c⟩ := h.e i hi; rw [a, b, c]; exact k i hi⟩
theorem PR.Eq.meets {x y x' y' : PR} (h : x.Eq y) (h' : x'.Eq y') : x.meets x' = y.meets y' := by
  unfold PR.meets
  congr 1
  rw [decide_eq_decide, ← h.m]
  exact ⟨fun k i hi => by obtain ⟨a, b, c⟩ := h.e i hi; rw [← a, ← b, ← c, ← h'.has]; exact k i hi, fun k i hi => by obtain ⟨a, b, c⟩ := h.e i hi; rw [a, b, c, h'.has]; exact k i hi⟩
theorem chk_congr {k n r : Int} {A B G H A' B' G' H' : PR} (hA : A.Eq A') (hB : B.Eq B') (hG : G.Eq G') (hH : H.Eq H') : chk ⟨k, n, r, A, B, G, H⟩ = chk ⟨k, n, r, A', B', G', H'⟩ := by
  unfold chk chkR
  simp only []
  rw [hA.sm, hB.sm, hG.sm, hH.sm, hA.meets hB]
  unfold PR.len
  rw [hA.m, hB.m, hG.m, hH.m]
/-- A system's rows, one behind the other. -/
def GD.m (g : GD) (i : Nat) : Nat := [g.la, g.lb, g.lg, g.lh].getD i 0
def GD.F (g : GD) (i j : Nat) : RA := .q ([if j < g.la then g.A j else 0, if j < g.lb then g.B j else 0, if j < g.lg then g.G j else 0, if j < g.lh then g.H j else 0].getD i 0)
theorem enc_q {p : Rat} (h : wt p ≤ 4) : Enc (.q p) := by
  have h1 := wt_num p
  have h2 := wt_den p
  exact ⟨⟨limbsOf_lf _, limbsOf_lf _⟩, by show (limbsOf _).length ≤ 4; rw [limbsOf_len]; omega, by show (limbsOf _).length ≤ 4; rw [limbsOf_len]; omega⟩
theorem GD.encF {g : GD} (o : g.OK) (i j : Nat) : Enc (g.F i j) := by
  have z : wt (0 : Rat) ≤ 4 := by decide
  refine enc_q ?_
  match i with
  | 0 => show wt (if j < g.la then g.A j else 0) ≤ 4; split; exact o.sm.A j (by assumption); exact z
  | 1 => show wt (if j < g.lb then g.B j else 0) ≤ 4; split; exact o.sm.B j (by assumption); exact z
  | 2 => show wt (if j < g.lg then g.G j else 0) ≤ 4; split; exact o.sm.G j (by assumption); exact z
  | 3 => show wt (if j < g.lh then g.H j else 0) ≤ 4; split; exact o.sm.H j (by assumption); exact z
  | i + 4 => exact z
theorem raw_nat {w : World} {v : Value} {n : Nat} (h : Lbs w v (limbsOf n)) : NatS w (fun _ => True) v n := by
  obtain ⟨A, c, e, hc, hx⟩ := h
  rw [limbsOf_len] at e hc hx
  refine ⟨A, c, e, hc, fun i hi => ?_⟩
  obtain ⟨b, off, cs, e1, hr, e2⟩ := hx i hi
  exact ⟨b, off, cs, e1, trivial, hr, by rw [← limbsOf_get n i hi]; exact e2⟩
theorem raw_r3 {w : World} {p : Rat} {s : Bool} {vn vd : Value} (h : R3 w (rawOf (.q p)) s vn vd) : R3 w (.q p) s vn vd := ⟨h.1, raw_nat h.2.1, raw_nat h.2.2⟩
theorem raw_row {S : Nat → Prop} {B : Nat} {w : World} {fr : Bool} {n n' : Nat} {f : Nat → RA} {q : Nat → Rat} {v : Value} (hn : n = n') (hf : ∀ i, i < n → f i = rawOf (.q (q i))) (h : RowV S B w fr n f v) : RowV S B w fr n' (fun i => .q (q i)) v := by
  subst hn
  obtain ⟨A, c, e, hc, hm, hx⟩ := h
  refine ⟨A, c, e, hc, hm, fun i hi => ?_⟩
  obtain ⟨b, off, a1, a2, a3, cs, s, vn, vd, k1, k2, k3, k4, k5⟩ := hx i hi
  rw [hf i hi] at k5
  exact ⟨b, off, a1, a2, a3, cs, s, vn, vd, k1, k2, k3, k4, raw_r3 k5⟩
end Go.Proofs.Ytpclkgjhfhhddaa.AM
/- Limbs: two slices are alike. -/
namespace Go.Proofs.Ytpclkgjhfhhddaa.V
open Go Go.RowKit Go.Proofs.Ytpclkgjhfhhddaa.PN
set_option linter.unusedVariables false
set_option linter.unusedSimpArgs false
end Go.Proofs.Ytpclkgjhfhhddaa.V
/- Package gen: two systems are alike; one entry. -/
namespace Go.Proofs.Ytpclkgjhfhhddaa.AM
open Go Go.RowKit Go.Proofs.Ytpclkgjhfhhddaa.PN Go.Proofs.Ytpclkgjhfhhddaa.V
open Go.Proofs.Ytpclkgjhfhhddaa.LA (S S_succ S_zero S_congr)
set_option linter.unusedVariables false
set_option linter.unusedSimpArgs false
set_option maxRecDepth 8000
set_option maxHeartbeats 8000000
theorem st_buildg {ops : Array Oper} {l : List Oper} {s : St} {acc : List Fp} {K : St → List Fp → Prop} {c : Prop} {d : Option Tmp} {r : Option AV} {upd : List (Nat × Option Fam)} {rd : List Nat} {ty : TypeId} {ps : String} {aft : Array Edge} {T : TypeId} {parts : Array (Nat × Operand)} {j : Nat} {want b : Bool} {t : Tmp} (ht : (ops[j]?).bind (·.dst) = some t) (he : s.env t = some (.v (.bool b))) (hb : (b == want) = true)
    (h : evBuild s T parts.toList = some (⟨r, upd, rd⟩, c)) (hc : c) (k : AOps Try.prog ops l (nxt s d r upd) ((rd, upd.map (·.1)) :: acc) K) : AOps Try.prog ops (⟨d, .build T parts, ty, ps, aft, some (j, want)⟩ :: l) s acc K :=
  .cons _ (.inl ⟨hb ▸ .some j want t b rfl ht he, evBuild_ok rfl h hc⟩) k
end Go.Proofs.Ytpclkgjhfhhddaa.AM
/- Laws of dense matrices: walks: rows and matrices that are the same; ones. -/
namespace Go.Proofs.Ytpclkgjhfhhddaa.AM
open Go Go.RowKit Go.Proofs.Ytpclkgjhfhhddaa.PN Go.Proofs.Ytpclkgjhfhhddaa.V
open Go.Proofs.Ytpclkgjhfhhddaa.LA (S S_succ S_zero S_congr)
set_option linter.unusedVariables false
set_option linter.unusedSimpArgs false
set_option maxRecDepth 4000
set_option maxHeartbeats 4000000
theorem k_rows {n K : Nat} {f g : Nat → Rat} [hf : ∀ i, Wt (f i) K] (hK : K ≤ 1000000000000) (hn : n ≤ 1000) (h : ∀ i, i < n → f i = g i) : Has Try.prog 41 [.row false n (fun i => .q (f i)), .row false n (fun i => .q (g i))] (.b true) := by
  refine has_of Try.func41 (by kernel_rfl) rfl Try.ntmps41 Try.results41 rfl rfl rfl ?_
  refine run0 ?_
  refine awp_no rfl (decide_eq_false (fun h => h rfl)) ?_
  refine run0 ?_
  refine awp_loop (fun m s => ∃ k, k ≤ n ∧ m = n - k ∧ s = stl [(0, .row false n (fun i => .q (f i))), (1, .row false n (fun i => .q (g i))), (5, .i (k : Int))] []) n _ (imp_id ?_ ?_) ⟨0, Nat.zero_le _, rfl, rfl⟩ ?_
  · exact eA
  · exact hA
  · rintro m s ⟨k, hk, rfl, rfl⟩
    refine run0 ?_
    refine awp_if rfl (fun h1 => ?_) (fun h1 => ?_)
    · have h1 : k < n := by omega
      have e := h k h1
      have wg : Wt (g k) K := by rw [← e]; exact hf k
      have C := cs_same (p := f k) (q := g k) ⟨hK, hK⟩
      rw [decide_eq_true e] at C
      repeat(first|refine run1 ?_|((with_reducible apply st_call);exact rfl;exact rfl;exact rfl;first|(exact C))|((with_reducible apply st_callg);exact rfl;exact rfl;(first|exact rfl|assumption);exact rfl;exact rfl;exact rfl;first|(exact C)))
      refine awp_no rfl rfl ?_
      refine run0 ?_
      refine q_loop ?_ (imp_id ?_ ?_) ⟨k + 1, ?_, rfl, rfl⟩
      · omega
      · exact eA
      · exact hA
      · omega
    · refine run0 ?_
      refine ⟨.inr rfl, _, Imp.refl _, ?_⟩
      exact .one (.tmp rfl)
end Go.Proofs.Ytpclkgjhfhhddaa.AM
/- Rows that are the same: the rest. -/
namespace Go.Proofs.Ytpclkgjhfhhddaa.AM
open Go Go.RowKit Go.Proofs.Ytpclkgjhfhhddaa.PN Go.Proofs.Ytpclkgjhfhhddaa.V
open Go.Proofs.Ytpclkgjhfhhddaa.LA (S S_succ S_zero S_congr)
set_option linter.unusedVariables false
set_option linter.unusedSimpArgs false
set_option maxRecDepth 4000
set_option maxHeartbeats 4000000
theorem k_rowsb {n K : Nat} {f g : Nat → Rat} (hf : ∀ i, i < n → Wt (f i) K) (hK1 : 1 ≤ K) (hK : K ≤ 1000000000000) (hn : n ≤ 1000) (h : ∀ i, i < n → f i = g i) : Has Try.prog 41 [.row false n (fun i => .q (f i)), .row false n (fun i => .q (g i))] (.b true) := by
  have w : ∀ i, Wt (if i < n then f i else 0) K := fun i => by
    split
    · rename_i h; exact hf i h
    · exact (inferInstance : Wt 0 1).mono hK1
  refine Has.args (k_rows (f := fun i => if i < n then f i else 0) (g := fun i => if i < n then f i else 0) (hf := w) hK hn (fun _ _ => rfl)) fun S B β w vs hv => rvs_cons (rv_row fun i hi => ?_) (fun us hu => rvs_cons (rv_row fun i hi => ?_) (fun us hu => hu) hu) hv
  · rw [if_pos hi]
  · rw [if_pos hi, h i hi]
end Go.Proofs.Ytpclkgjhfhhddaa.AM
/- Two systems are alike, or not. -/
namespace Go.Proofs.Ytpclkgjhfhhddaa.AM
open Go Go.RowKit Go.Proofs.Ytpclkgjhfhhddaa.PN Go.Proofs.Ytpclkgjhfhhddaa.V
open Go.Proofs.Ytpclkgjhfhhddaa.LA (S S_succ S_zero S_congr)
set_option linter.unusedVariables false
set_option linter.unusedSimpArgs false
set_option maxRecDepth 8000
set_option maxHeartbeats 8000000
/-- Two rows are alike. -/
def alld (n : Nat) (f g : Nat → Rat) : Bool := decide (∀ i, i < n → f i = g i)
theorem first_ne {f g : Nat → Rat} : ∀ n, (∃ i, i < n ∧ f i ≠ g i) → ∃ k, k < n ∧ f k ≠ g k ∧ ∀ i, i < k → f i = g i
  | 0, h => by obtain ⟨i, hi, _⟩ := h; exact absurd hi (Nat.not_lt_zero _)
  | n + 1, h => by
    by_cases e : ∃ i, i < n ∧ f i ≠ g i
    · obtain ⟨k, h1, h2, h3⟩ := first_ne n e
      exact ⟨k, by omega, h2, h3⟩
    · obtain ⟨i, hi, hne⟩ := h
      have hin : i = n := by
        by_cases e2 : i < n
        · exact absurd ⟨i, e2, hne⟩ e
        · omega
      subst hin
      exact ⟨i, hi, hne, fun j hj => Classical.byContradiction fun h' => e ⟨j, hj, h'⟩⟩
theorem not_alld {n : Nat} {f g : Nat → Rat} (h : ¬ ∀ i, i < n → f i = g i) : ∃ k, k < n ∧ f k ≠ g k ∧ ∀ i, i < k → f i = g i :=
  first_ne n (Classical.byContradiction fun h' => h fun i hi => Classical.byContradiction fun h2 => h' ⟨i, hi, h2⟩)
theorem k_rowsd {n : Nat} {f g : Nat → Rat} (hf : ∀ i, i < n → wt (f i) ≤ 1000000) (hg : ∀ i, i < n → wt (g i) ≤ 1000000) (hn : n ≤ 1000) : Has Try.prog 41 [.row false n (fun i => .q (f i)), .row false n (fun i => .q (g i))] (.b (alld n f g)) := by
  by_cases hall : ∀ i, i < n → f i = g i
  · rw [show alld n f g = true from decide_eq_true hall]
    exact k_rowsb (K := 1000000) (fun i hi => ⟨hf i hi⟩) (by decide) (by decide) hn hall
  rw [show alld n f g = false from decide_eq_false hall]
  obtain ⟨k0, hk0, hne, hlt⟩ := not_alld hall
  refine has_of Try.func41 (by kernel_rfl) rfl Try.ntmps41 Try.results41 rfl rfl rfl ?_
  refine run0 ?_
  refine awp_no rfl (decide_eq_false (fun h => h rfl)) ?_
  refine run0 ?_
  refine awp_loop (fun m s => ∃ k, k ≤ k0 ∧ m = n - k ∧ s = stl [(0, .row false n (fun i => .q (f i))), (1, .row false n (fun i => .q (g i))), (5, .i (k : Int))] []) n _ (imp_id ?_ ?_) ⟨0, Nat.zero_le _, rfl, rfl⟩ ?_
  · exact eA
  · exact hA
  · rintro m s ⟨k, hk, rfl, rfl⟩
    have h' : k < n := by omega
    have c := hs_same (p := f k) (q := g k) (Nat.le_trans (hf k h') (by decide)) (Nat.le_trans (hg k h') (by decide))
    refine run0 ?_
    refine awp_yes rfl (decide_eq_true (by omega)) ?_
    by_cases e : k = k0
    · subst e
      rw [decide_eq_false hne] at c
      repeat(first|refine run1 ?_|((with_reducible apply st_call);exact rfl;exact rfl;exact rfl;first|(exact c))|((with_reducible apply st_callg);exact rfl;exact rfl;(first|exact rfl|assumption);exact rfl;exact rfl;exact rfl;first|(exact c)))
      refine awp_yes rfl rfl ?_
      refine run0 ?_
      exact ⟨.inr rfl, _, Imp.refl _, .one (.tmp rfl)⟩
    · rw [decide_eq_true (hlt k (by omega))] at c
      repeat(first|refine run1 ?_|((with_reducible apply st_call);exact rfl;exact rfl;exact rfl;first|(exact c))|((with_reducible apply st_callg);exact rfl;exact rfl;(first|exact rfl|assumption);exact rfl;exact rfl;exact rfl;first|(exact c)))
      refine awp_no rfl rfl ?_
      refine run0 ?_
      refine q_loop ?_ (imp_id ?_ ?_) ⟨k + 1, ?_, rfl, rfl⟩
      · omega
      · exact eA
      · exact hA
      · omega
/-- Two systems of one shape. -/
structure Shp (g h : GD) : Prop where
  k : h.k = g.k
  n : h.n = g.n
  r : h.r = g.r
  la : h.la = g.la
  lb : h.lb = g.lb
  lg : h.lg = g.lg
  lh : h.lh = g.lh
  le : g.la ≤ 1000 ∧ g.lb ≤ 1000 ∧ g.lg ≤ 1000 ∧ g.lh ≤ 1000
  s : g.Sm
  s' : h.Sm
def sameB (g h : GD) : Bool := alld g.la g.A h.A && (alld g.lb g.B h.B && (alld g.lg g.G h.G && alld g.lh g.H h.H))
end Go.Proofs.Ytpclkgjhfhhddaa.AM

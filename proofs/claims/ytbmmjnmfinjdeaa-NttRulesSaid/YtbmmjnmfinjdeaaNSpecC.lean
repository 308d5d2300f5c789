/- What the fast transform answers: the transform by its sums. -/
import Derived.Test.YtbmmjnmfinjdeaaF2
import Derived.Test.YtbmmjnmfinjdeaaNSpecB
namespace Go.Proofs.Ytbmmjnmfinjdeaa.F
open Go.RowKit Go.Proofs.YtbmmjnmfinjdeaaW.PrintWords Go.Proofs.YtbmmjnmfinjdeaaW.PrintLast Go.Proofs.YtbmmjnmfinjdeaaW.PrintMore
open Go.Proofs.Ytbmmjnmfinjdeaa.NM (F S pw fp W WI X rev dft conv nf)
set_option linter.unusedVariables false
set_option linter.unusedSimpArgs false
namespace Spec
/-- One block: the step's two halves. -/
theorem cross_go (n off h : Nat) (r : F) (x0 T : Nat → F) (hn : off + 2 * h ≤ n)
    (h1 : ∀ j, j < h → T (off + j) = x0 (off + j) + x0 (off + h + j) * pw r j)
    (h2 : ∀ j, j < h → T (off + h + j) = x0 (off + j) - x0 (off + h + j) * pw r j) :
    ∀ (k i : Nat) (x : Nat → F), i + k = h → (∀ j, j < i → x (off + j) = T (off + j) ∧ x (off + h + j) = T (off + h + j)) →
      (∀ j, i ≤ j → j < h → x (off + j) = x0 (off + j) ∧ x (off + h + j) = x0 (off + h + j)) →
      ∃ y, crossGo off h (v r) k (enc n x) i (v (pw r i)) = enc n y ∧ (∀ q, off ≤ q → q < off + 2 * h → y q = T q) ∧ (∀ q, q < off ∨ off + 2 * h ≤ q → y q = x q) := by
  intro k
  induction k with
  | zero =>
    intro i x hi hd _
    refine ⟨x, rfl, fun q p1 p2 => ?_, fun _ _ => rfl⟩
    by_cases e : q < off + h
    · have := (hd (q - off) (by omega)).1
      rwa [show off + (q - off) = q from by omega] at this
    · have := (hd (q - off - h) (by omega)).2
      rwa [show off + h + (q - off - h) = q from by omega] at this
  | succ k ih =>
    intro i x hi hd hr
    have ha := hr i (by omega) (by omega)
    unfold crossGo
    try dsimp only
    rw [enc_get n x (off + i) (by omega), enc_get n x (off + h + i) (by omega), times, Option.getD_some, plus, less, Option.getD_some, Option.getD_some, enc_set, enc_set, times, Option.getD_some, ← NM.pw_succ]
    obtain ⟨y, e, f1, f2⟩ := ih (i + 1) (fun q => if q = off + h + i then x (off + i) - x (off + h + i) * pw r i else if q = off + i then x (off + i) + x (off + h + i) * pw r i else x q) (by omega)
      (fun j hj => by
        by_cases e : j = i
        · subst e
          try dsimp only
          rw [if_neg (by omega), if_pos rfl, if_pos rfl, h1 j (by omega), h2 j (by omega), ha.1, ha.2]
          exact ⟨rfl, rfl⟩
        · have := hd j (by omega)
          try dsimp only
          rw [if_neg (by omega), if_neg (by omega), if_neg (by omega), if_neg (by omega)]
          exact this)
      (fun j hj hh => by
        have := hr j (by omega) hh
        try dsimp only
        rw [if_neg (by omega), if_neg (by omega), if_neg (by omega), if_neg (by omega)]
        exact this)
    refine ⟨y, e, f1, fun q hq => ?_⟩
    rw [f2 q hq, if_neg (by omega), if_neg (by omega)]
/-- The roots that a way uses. -/
def rt (back : Bool) (s : Nat) : F := if back then WI s else W s
theorem rootW_at : ∀ s, s < 23 → rootW s = v (fp 30 3 (998244352 / 2 ^ s) 1) := by decide +kernel
theorem rootV_at : ∀ s, s < 23 → rootV s = v (fp 30 (fp 30 3 (998244352 / 2 ^ s) 1) 998244351 1) := by decide +kernel
theorem root_at (back : Bool) (s : Nat) (h : s < 23) : rootAt back s = v (rt back s) := by
  unfold rootAt rt
  cases back
  · rw [if_neg (by simp), if_neg (by simp), NM.W_fp]; exact rootW_at s h
  · rw [if_pos rfl, if_pos rfl, NM.WI_fp]; exact rootV_at s h
theorem pw_swap (a : F) (m n : Nat) : pw (pw a m) n = pw (pw a n) m := by rw [← NM.pw_mul, ← NM.pw_mul, Nat.mul_comm]
theorem neg_odd : pw (-1) 998244351 = -1 := by
  have h := NM.fp_pw 30 (-1) 998244351 1 (by decide)
  have : fp 30 (-1) 998244351 1 = -1 := by decide +kernel
  rw [this] at h
  rw [h]; grind
theorem rt_sq (back : Bool) (s : Nat) (h : s < 22) : rt back (s + 1) * rt back (s + 1) = rt back s := by
  unfold rt
  cases back
  · rw [if_neg (by simp), if_neg (by simp)]; exact NM.W_sq s h
  · rw [if_pos rfl, if_pos rfl]; unfold WI; rw [← NM.mul_pw, NM.W_sq s h]
theorem rt_neg (back : Bool) (s : Nat) (h : s < 22) : pw (rt back (s + 1)) (2 ^ s) = -1 := by
  unfold rt
  cases back
  · rw [if_neg (by simp)]; exact NM.W_neg s h
  · rw [if_pos rfl]; unfold WI; rw [pw_swap, NM.W_neg s h, neg_odd]
/-- All blocks of a step. -/
theorem blocks (n s : Nat) (back : Bool) (Y : Nat → F) (hs : s < 22) : ∀ (k b : Nat) (x : Nat → F), (b + k) * 2 ^ (s + 1) = n →
    (∀ q, q < b * 2 ^ (s + 1) → x q = X Y (rt back) (s + 1) q) → (∀ q, b * 2 ^ (s + 1) ≤ q → q < n → x q = X Y (rt back) s q) →
    trBlocks (2 ^ s) (v (rt back (s + 1))) k (enc n x) (b * 2 ^ (s + 1)) = enc n (X Y (rt back) (s + 1)) := by
  intro k
  induction k with
  | zero =>
    intro b x hk hd _
    unfold trBlocks
    refine enc_congr fun q hq => hd q (by rw [Nat.add_zero] at hk; omega)
  | succ k ih =>
    intro b x hk hd hr
    have e2 : 2 ^ (s + 1) = 2 * 2 ^ s := by rw [Nat.pow_succ]; omega
    have e3 : (b + 1) * 2 ^ (s + 1) = b * 2 ^ (s + 1) + 2 * 2 ^ s := by rw [Nat.add_mul, e2]; omega
    have hle : b * 2 ^ (s + 1) + 2 * 2 ^ s ≤ n := by
      rw [← hk, ← e3]; exact Nat.mul_le_mul_right _ (by omega)
    unfold trBlocks
    obtain ⟨y, e, f1, f2⟩ := cross_go n (b * 2 ^ (s + 1)) (2 ^ s) (rt back (s + 1)) (X Y (rt back) s) (X Y (rt back) (s + 1)) hle
      (fun j hj => NM.X_low Y (rt back) s b j (rt_sq back s hs) hj)
      (fun j hj => NM.X_high Y (rt back) s b j (rt_sq back s hs) (rt_neg back s hs) hj)
      (2 ^ s) 0 x (by omega) (fun j hj => absurd hj (by omega)) (fun j _ hj => ⟨hr _ (by omega) (by omega), hr _ (by omega) (by omega)⟩)
    rw [NM.pw_zero, v_one] at e
    rw [e, ← e3]
    refine ih (b + 1) y (by rw [← hk]; congr 1; omega) (fun q hq => ?_) (fun q h1 h2 => ?_)
    · by_cases e4 : q < b * 2 ^ (s + 1)
      · rw [f2 q (Or.inl e4), hd q e4]
      · exact f1 q (by omega) (by omega)
    · rw [f2 q (Or.inr (by omega)), hr q (by omega) h2]
theorem steps (m : Nat) (hm : m ≤ 22) (back : Bool) (Y : Nat → F) : ∀ (k s : Nat), s + k = m →
    trSteps back (2 ^ m) k (enc (2 ^ m) (X Y (rt back) s)) s = enc (2 ^ m) (X Y (rt back) m) := by
  intro k
  induction k with
  | zero => intro s h; unfold trSteps; rw [show s = m from by omega]
  | succ k ih =>
    intro s h
    unfold trSteps
    have e : 2 ^ m = 2 ^ k * 2 ^ (s + 1) := by rw [← Nat.pow_add]; congr 1; omega
    have := blocks (2 ^ m) s back Y (by omega) (2 ^ m / 2 ^ (s + 1)) 0 (X Y (rt back) s) (by rw [e, Nat.mul_div_cancel _ (Nat.pos_of_ne_zero (by simp)), Nat.zero_add]) (fun q hq => absurd hq (by omega)) (fun _ _ _ => rfl)
    rw [Nat.zero_mul] at this
    rw [root_at back (s + 1) (by omega), this]
    exact ih (s + 1) (by omega)
theorem all (m : Nat) (hm : m ≤ 22) (back : Bool) (x Y : Nat → F) (hY : ∀ j, j < 2 ^ m → Y (rev m j) = x j) :
    trAll back (enc (2 ^ m) Y) = enc (2 ^ m) (dft (2 ^ m) (rt back m) x) := by
  unfold trAll
  rw [enc_length, Nat.log2_two_pow]
  have : enc (2 ^ m) Y = enc (2 ^ m) (X Y (rt back) 0) := enc_congr fun q _ => (NM.X_zero Y (rt back) q).symm
  rw [this, steps m hm back Y m 0 (by omega)]
  exact enc_congr fun q hq => NM.X_end x Y (rt back) m q hY hq
/-- Turned about. -/
theorem rev_at : ∀ m : Nat, m < 11 → ∀ i : Nat, i < 2 ^ m → ((bits_Reverse64.f (IntKind.u64.wrap (i : Int))).bind fun t => some (shr .u64 (t / 2) (wrap64 (63 - (m : Int))))) = some ((rev m i : Nat) : Int) := by decide +kernel
theorem len_at : ∀ m : Nat, m < 11 → bits_Len.f 5 (IntKind.u64.wrap ((2 ^ m : Nat) : Int)) = some ((m + 1 : Nat) : Int) := by decide +kernel
theorem turned_l0 (m : Nat) (hm : m < 11) (x : Nat → F) : ∀ (d i : Nat) (y : Nat → F), i + d = 2 ^ m → (∀ j, j < i → y (rev m j) = x j) →
    ∃ Y, (∀ j, j < 2 ^ m → Y (rev m j) = x j) ∧ Ev (fun k => ntt_turned.l0 k (enc (2 ^ m) y) m (enc (2 ^ m) x) ((2 ^ m : Nat) : Int) i) (enc (2 ^ m) Y) := by
  have hb : 2 ^ m ≤ 2 ^ 10 := Nat.pow_le_pow_right (by omega) (by omega)
  intro d
  induction d with
  | zero =>
    intro i y hi hd
    refine ⟨y, fun j hj => hd j (by omega), ?_⟩
    refine Ev.step (f := fun k => some (enc (2 ^ m) y)) (fun k => by rw [ntt_turned.l0]; rw [if_neg (by omega)]) (Ev.now _)
  | succ d ih =>
    intro i y hi hd
    have hlt := NM.rev_lt m i
    obtain ⟨Y, e1, e2⟩ := ih (i + 1) (fun q => if q = rev m i then x i else y q) (by omega) (fun j hj => by
      try dsimp only
      by_cases e : j = i
      · rw [e, if_pos rfl]
      · rw [if_neg (fun h => e (NM.rev_inj m j i (by omega) (by omega) h)), hd j (by omega)])
    refine ⟨Y, e1, ?_⟩
    refine Ev.step (f := fun k => ntt_turned.l0 k (enc (2 ^ m) (fun q => if q = rev m i then x i else y q)) m (enc (2 ^ m) x) ((2 ^ m : Nat) : Int) ((i + 1 : Nat) : Int)) (fun k => ?_) e2
    have hr := rev_at m hm i (by omega)
    obtain ⟨t, ht, hs⟩ := Option.bind_eq_some_iff.mp hr
    have hs2 := Option.some.inj hs
    rw [ntt_turned.l0, if_pos (by omega), if_pos (by omega), enc_length, if_pos (by omega), ht]
    simp only [Option.bind_some]
    rw [if_pos (by rw [w64 (by omega) (by omega)]; omega), hs2, if_pos (by omega), enc_length, if_pos (by omega), Int.toNat_natCast, rd_enc _ _ _ (by omega) (by omega), Int.toNat_natCast, enc_set, w64 (by omega) (by omega)]
    rfl
theorem enc_zero (n : Nat) : List.replicate n (0 : Int) = enc n (fun _ => 0) := by
  apply List.ext_getElem
  · simp [enc]
  · intro i h1 h2; simp [enc, v_zero]
theorem turned (m : Nat) (hm : m < 11) (x : Nat → F) : ∃ Y, (∀ j, j < 2 ^ m → Y (rev m j) = x j) ∧ Ev (fun k => ntt_turned.f k (enc (2 ^ m) x)) (enc (2 ^ m) Y) := by
  have hb : 2 ^ m ≤ 2 ^ 10 := Nat.pow_le_pow_right (by omega) (by omega)
  obtain ⟨Y, e1, e2⟩ := turned_l0 m hm x (2 ^ m) 0 (fun _ => 0) (by omega) (fun j hj => absurd hj (by omega))
  refine ⟨Y, e1, ?_⟩
  unfold ntt_turned.f
  rw [enc_length]
  simp only [if_pos (Int.natCast_nonneg (2 ^ m)), Int.toNat_natCast, if_pos (show 2 ^ m ≤ 70368744177664 by omega)]
  refine Ev.bind (Ev.of (fun k => bits_Len.mono _ k) (len_at m hm)) ?_
  rw [w64 (by omega) (by omega), show ((m + 1 : Nat) : Int) - 1 = m from by omega, enc_zero]
  exact e2
/-- Whole: numbers under the prime. -/
theorem index_l0 (l : List Int) (hl : ∀ x ∈ l, (Lit.int .u32 x).wf = true) (hlen : l.length < 4611686018427387904) : ∀ (d i : Nat), i + d = l.length →
    ∃ t, Ev (fun k => slices_IndexFunc_uint32_uint32_ntt_whole_1.l0 k l (l.length : Int) i) t ∧ (decide (t ≥ 0) = !(l.drop i).all fun x => decide (x < 998244353)) := by
  intro d
  induction d with
  | zero =>
    intro i hi
    refine ⟨-1, Ev.step (f := fun k => some (-1)) (fun k => by rw [slices_IndexFunc_uint32_uint32_ntt_whole_1.l0]; rw [if_neg (by omega)]) (Ev.now _), ?_⟩
    rw [List.drop_eq_nil_of_le (by omega)]; rfl
  | succ d ih =>
    intro i hi
    have hget : rd l i = l[i]'(by omega) := by simp [rd, List.getD, show i < l.length by omega]
    have hdrop : l.drop i = l[i]'(by omega) :: l.drop (i + 1) := List.drop_eq_getElem_cons (by omega)
    by_cases hx : l[i]'(by omega) < 998244353
    · obtain ⟨t, e, f⟩ := ih (i + 1) (by omega)
      refine ⟨t, Ev.step (f := fun k => slices_IndexFunc_uint32_uint32_ntt_whole_1.l0 k l (l.length : Int) ((i + 1 : Nat) : Int)) (fun k => ?_) e, ?_⟩
      · rw [slices_IndexFunc_uint32_uint32_ntt_whole_1.l0, if_pos (by omega), if_pos (by omega), if_pos (by omega), hget]
        unfold ntt_whole_1.f
        simp only [Option.bind_some]
        rw [if_neg (by simp; omega), w64 (by omega) (by omega)]; rfl
      · rw [f, hdrop, List.all_cons, decide_eq_true hx, Bool.true_and]
    · refine ⟨i, Ev.step (f := fun k => some (i : Int)) (fun k => ?_) (Ev.now _), ?_⟩
      · rw [slices_IndexFunc_uint32_uint32_ntt_whole_1.l0, if_pos (by omega), if_pos (by omega), if_pos (by omega), hget]
        unfold ntt_whole_1.f
        simp only [Option.bind_some]
        rw [if_pos (by simp; omega)]
      · rw [hdrop, List.all_cons, decide_eq_false hx, Bool.false_and]; simp
def under (l : List Int) : Bool := l.all fun x => decide (x < 998244353)
theorem whole (l : List Int) (hl : ∀ x ∈ l, (Lit.int .u32 x).wf = true) (hlen : l.length < 4611686018427387904) : Ev (fun k => ntt_whole.f k l) (under l) := by
  obtain ⟨t, e, f⟩ := index_l0 l hl hlen l.length 0 (by omega)
  unfold ntt_whole.f slices_ContainsFunc_uint32_uint32_ntt_whole_1.f slices_IndexFunc_uint32_uint32_ntt_whole_1.f
  have e' : Ev (fun k => slices_IndexFunc_uint32_uint32_ntt_whole_1.l0 k l (l.length : Int) 0) t := e
  have hu : under l = !decide (t ≥ 0) := by rw [f]; simp [under]
  rw [hu]
  exact Ev.bind (Ev.bind e' (Ev.now _)) (Ev.now _)
theorem enc_wf (n : Nat) (x : Nat → F) : ∀ y ∈ enc n x, (Lit.int .u32 y).wf = true := fun y hy => by
  obtain ⟨i, _, rfl⟩ := List.mem_map.mp hy
  exact Go.WalkArith.wf_u32 ⟨v_nonneg _, by have := v_lt (x i); omega⟩
theorem enc_under (n : Nat) (x : Nat → F) : under (enc n x) = true := by
  unfold under; rw [List.all_eq_true]; intro y hy
  obtain ⟨i, _, rfl⟩ := List.mem_map.mp hy
  simp [v_lt]
/-- A list under the prime is a list of numbers. -/
theorem under_enc (l : List Int) (hl : ∀ x ∈ l, (Lit.int .u32 x).wf = true) (h : under l = true) : l = enc l.length (fun i => nf (l.getD i 0).toNat) := by
  apply List.ext_getElem
  · rw [enc_length]
  · intro i h1 h2
    have hu := List.all_eq_true.mp h (l[i]) (List.getElem_mem h1)
    have hw := u32_of (hl _ (List.getElem_mem h1))
    simp only [decide_eq_true_eq] at hu
    simp only [enc, List.getElem_map, List.getElem_range, v_nf]
    have : l.getD i 0 = l[i] := by simp [List.getD, h1]
    rw [this]; omega
theorem last_l0 (n : Nat) (hn : n ≤ 1024) (x : Nat → F) (b : F) : ∀ (d i : Nat) (y : Nat → F), i + d = n → (∀ j, j < i → y j = x j * b) →
    Ev (fun k => ntt_Transform.l0 k (enc n x) (v b) (enc n y) (n : Int) i) (enc n (fun j => x j * b), 0) := by
  intro d
  induction d with
  | zero =>
    intro i y hi hd
    refine Ev.step (f := fun k => some (enc n y, 0)) (fun k => by rw [ntt_Transform.l0]; rw [if_neg (by omega)]) ?_
    rw [enc_congr (fun j hj => hd j (by omega))]
    exact Ev.now _
  | succ d ih =>
    intro i y hi hd
    refine Ev.step (f := fun k => ntt_Transform.l0 k (enc n x) (v b) (enc n (fun q => if q = i then x i * b else y q)) (n : Int) ((i + 1 : Nat) : Int)) (fun k => ?_) (ih (i + 1) _ (by omega) (fun j hj => by
      try dsimp only
      by_cases e : j = i
      · rw [if_pos e, e]
      · rw [if_neg e, hd j (by omega)]))
    rw [ntt_Transform.l0, if_pos (by omega), if_pos (by omega), enc_length, if_pos (by omega), rd_enc _ _ _ (by omega) (by omega), Int.toNat_natCast, times]
    simp only [Option.bind_some]
    rw [enc_length, if_pos (by omega), enc_set, w64 (by omega) (by omega)]
    rfl
/-- A way's last factor. -/
def lastBy (back : Bool) (n : Nat) : F := if back then pw (nf n) 998244351 else 1
/-- The transform of 2^m numbers, of either way. -/
def tr (back : Bool) (m : Nat) (x : Nat → F) (q : Nat) : F := dft (2 ^ m) (rt back m) x q * lastBy back (2 ^ m)
theorem and_pow : ∀ m : Nat, m < 11 → Go.bits .and .i64 ((2 ^ m : Nat) : Int) (wrap64 (((2 ^ m : Nat) : Int) - 1)) = 0 := by decide +kernel
theorem pow_and_ : ∀ a : Nat, a < 33 → ∀ b : Nat, b < 32 → ((32 * a + b == 0) || !(Go.bits .and .i64 ((32 * a + b : Nat) : Int) (wrap64 (((32 * a + b : Nat) : Int) - 1)) == 0) || [1, 2, 4, 8, 16, 32, 64, 128, 256, 512, 1024].contains (32 * a + b)) = true := by decide +kernel
theorem pow_and (n : Nat) (h : n < 1025) (hn : n ≠ 0) (hb : Go.bits .and .i64 (n : Int) (wrap64 ((n : Int) - 1)) = 0) : n = 2 ^ Nat.log2 n ∧ Nat.log2 n < 11 := by
  have := pow_and_ (n / 32) (by omega) (n % 32) (by omega)
  rw [Nat.div_add_mod, hb] at this
  simp only [beq_self_eq_true, Bool.not_true, Bool.or_false, Bool.or_eq_true, beq_iff_eq, hn, false_or, List.contains_iff_mem, List.mem_cons, List.not_mem_nil, or_false] at this
  rcases this with rfl | rfl | rfl | rfl | rfl | rfl | rfl | rfl | rfl | rfl | rfl <;> decide
theorem transform (m : Nat) (hm : m < 11) (back : Bool) (x : Nat → F) : Ev (fun k => ntt_Transform.f k (enc (2 ^ m) x) back) (enc (2 ^ m) (tr back m x), 0) := by
  have hb : 2 ^ m ≤ 2 ^ 10 := Nat.pow_le_pow_right (by omega) (by omega)
  have hp : 0 < 2 ^ m := Nat.pos_of_ne_zero (by simp)
  obtain ⟨Y, e1, e2⟩ := turned m hm x
  have hl : (998244353 : Nat) > 1024 := by omega
  have hend : Ev (fun k => ntt_Transform.j1 k ((2 ^ m : Nat) : Int) (enc (2 ^ m) (dft (2 ^ m) (rt back m) x)) (v (lastBy back (2 ^ m)))) (enc (2 ^ m) (tr back m x), 0) := by
    refine Ev.step (f := fun k => ntt_Transform.l0 k (enc (2 ^ m) (dft (2 ^ m) (rt back m) x)) (v (lastBy back (2 ^ m))) (enc (2 ^ m) (fun _ => 0)) ((2 ^ m : Nat) : Int) ((0 : Nat) : Int)) (fun k => ?_)
      (last_l0 (2 ^ m) (by omega) _ _ (2 ^ m) 0 _ (by omega) (fun j hj => absurd hj (by omega)))
    rw [ntt_Transform.j1, if_pos (by omega), Int.toNat_natCast, if_pos (by omega), enc_zero]
    simp only [Option.bind_some, enc_length]
    rfl
  unfold ntt_Transform.f
  rw [enc_length]
  simp only [if_neg (show ¬ ((2 ^ m : Nat) : Int) = 0 by omega), if_pos (and_pow m hm), show decide (((2 ^ m : Nat) : Int) > 1024) = false from decide_eq_false (by omega)]
  refine Ev.step (f := fun k => ((ntt_whole.f k (enc (2 ^ m) x)).bind fun t122 => (if t122 = true then ((ntt_turned.f k (enc (2 ^ m) x)).bind fun t123 => ((some (trAll back t123)).bind fun t124 => (if back = true then ((ntt_field_inverse.f k ((((2 ^ m : Nat) : Int)) % 4294967296)).bind fun t126 => (ntt_Transform.j1 k ((2 ^ m : Nat) : Int) t124 t126)) else (ntt_Transform.j1 k ((2 ^ m : Nat) : Int) t124 1)))) else (some (([] : List Int), 1)))))
    (fun k => by rw [ntt_Transform.j0, if_neg (by simp)]) ?_
  have hw := whole (enc (2 ^ m) x) (enc_wf _ _) (by rw [enc_length]; omega)
  rw [enc_under] at hw
  refine Ev.bind hw ?_
  simp only [if_true]
  refine Ev.bind e2 ?_
  rw [all m (by omega) back x Y e1]
  simp only [Option.bind_some]
  have h2 : ((2 ^ m : Nat) : Int) % 4294967296 = v (nf (2 ^ m)) := by rw [v_nf]; omega
  cases back
  · simp only [if_neg (show ¬ false = true by simp)]
    have e : v (lastBy false (2 ^ m)) = 1 := by unfold lastBy; rw [if_neg (by simp), v_one]
    rw [e] at hend
    exact hend
  · simp only [if_true]
    rw [h2]
    have e : lastBy true (2 ^ m) = pw (nf (2 ^ m)) 998244351 := by unfold lastBy; rw [if_pos rfl]
    rw [e] at hend
    exact Ev.bind (inverse _) hend
/-- The code that a list gets. -/
def code (l : List Int) : Int := if l.length = 0 ∨ 1024 < l.length ∨ l.length ≠ 2 ^ Nat.log2 l.length then 3 else if under l then 0 else 1
theorem transform_bad (l : List Int) (hl : ∀ x ∈ l, (Lit.int .u32 x).wf = true) (hlen : l.length < 4611686018427387904) (back : Bool) (h : code l ≠ 0) :
    Ev (fun k => ntt_Transform.f k l back) ([], code l) := by
  have j3 : ∀ n, Ev (fun k => ntt_Transform.j0 k l back n true) ([], 3) := fun n =>
    Ev.step (f := fun k => some ([], 3)) (fun k => by rw [ntt_Transform.j0, if_pos rfl]) (Ev.now _)
  unfold ntt_Transform.f
  by_cases h0 : (l.length : Int) = 0
  · simp only [if_pos h0]
    rw [code, if_pos (Or.inl (by omega))]
    exact j3 _
  · simp only [if_neg h0]
    by_cases h1 : 1024 < l.length
    · rw [code, if_pos (Or.inr (Or.inl h1))]
      by_cases h2 : Go.bits .and .i64 (l.length : Int) (wrap64 ((l.length : Int) - 1)) = 0
      · simp only [if_pos h2, show decide ((l.length : Int) > 1024) = true from decide_eq_true (by omega)]
        exact j3 _
      · simp only [if_neg h2]
        exact j3 _
    · by_cases h2 : Go.bits .and .i64 (l.length : Int) (wrap64 ((l.length : Int) - 1)) = 0
      · have hp := pow_and l.length (by omega) (by omega) h2
        have hc : code l = if under l then 0 else 1 := by
          rw [code, if_neg]
          rintro (e | e | e)
          · omega
          · omega
          · exact e hp.1
        simp only [if_pos h2, show decide ((l.length : Int) > 1024) = false from decide_eq_false (by omega)]
        rw [hc] at h ⊢
        have hu : under l = false := by
          cases hh : under l
          · rfl
          · rw [hh] at h; exact absurd rfl h
        rw [hu]
        have hw := whole l hl hlen
        rw [hu] at hw
        refine Ev.step (f := fun k => ((ntt_whole.f k l).bind fun t122 => (if t122 = true then ((ntt_turned.f k l).bind fun t123 => ((some (trAll back t123)).bind fun t124 => (if back = true then ((ntt_field_inverse.f k ((((l.length : Nat) : Int)) % 4294967296)).bind fun t126 => (ntt_Transform.j1 k ((l.length : Nat) : Int) t124 t126)) else (ntt_Transform.j1 k ((l.length : Nat) : Int) t124 1)))) else (some (([] : List Int), 1)))))
          (fun k => by rw [ntt_Transform.j0, if_neg (by simp)]) ?_
        refine Ev.bind hw ?_
        simp only [if_neg (show ¬ false = true by simp)]
        exact Ev.now _
      · have hc : code l = 3 := by
          rw [code, if_pos]
          refine Or.inr (Or.inr fun e => h2 ?_)
          have : Nat.log2 l.length < 11 := (Nat.log2_lt (by omega)).mpr (by omega)
          rw [e]; exact and_pow _ this
        simp only [if_neg h2]
        rw [hc]
        exact j3 _
end Spec
end Go.Proofs.Ytbmmjnmfinjdeaa.F

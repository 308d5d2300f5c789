/- Products of polynomials. -/
import Derived.Test.YtbmmjnmfinjdeaaNDft
namespace Go.Proofs.Ytbmmjnmfinjdeaa.NM
def conv (a b : Nat → F) (k : Nat) : F := S (k + 1) (fun i => a i * b (k - i))
theorem tri (g : Nat → Nat → F) (n : Nat) : S n (fun c => S (c + 1) (fun i => g i (c - i))) = S n (fun i => S (n - i) (fun j => g i j)) := by
  induction n with
  | zero => rfl
  | succ n ih =>
    rw [S_succ, ih, S_succ n (fun i => S (n + 1 - i) (fun j => g i j)), S_succ n (fun i => g i (n - i))]
    have e1 : S n (fun i => S (n + 1 - i) (fun j => g i j)) = S n (fun i => S (n - i) (fun j => g i j)) + S n (fun i => g i (n - i)) := by
      rw [← S_add]; exact S_congr fun i hi => by rw [show n + 1 - i = n - i + 1 from by omega, S_succ]
    rw [e1, show n + 1 - n = 1 from by omega, show n - n = 0 from by omega]
    simp only [S_succ, S_zero]; grind
theorem conv_comm (a b : Nat → F) (k : Nat) : conv a b k = conv b a k := by
  unfold conv
  rw [← S_rev (k + 1) (fun i => b i * a (k - i))]
  exact S_congr fun i hi => by rw [show k + 1 - 1 - i = k - i from by omega, show k - (k - i) = i from by omega]; grind
theorem conv_congr {a b c d : Nat → F} (k : Nat) (h1 : ∀ i, i ≤ k → a i = c i) (h2 : ∀ i, i ≤ k → b i = d i) : conv a b k = conv c d k := by
  unfold conv; exact S_congr fun i hi => by rw [h1 i (by omega), h2 (k - i) (by omega)]
theorem conv_over {a b : Nat → F} {m n : Nat} (ha : ∀ i, m ≤ i → a i = 0) (hb : ∀ i, n ≤ i → b i = 0) (k : Nat) (h : m + n ≤ k + 1) : conv a b k = 0 := by
  unfold conv
  rw [S_congr (g := fun _ => 0) (fun i hi => ?_), S_nought]
  by_cases e : i < m
  · rw [hb (k - i) (by omega)]; grind
  · rw [ha i (by omega)]; grind
theorem conv_one (a : Nat → F) (k : Nat) : conv a (fun i => if i = 0 then 1 else 0) k = a k := by
  unfold conv
  rw [S_single (k := k) (by omega)]
  · simp only [Nat.sub_self, if_true]; grind
  · intro i hi hne; dsimp only; rw [if_neg (by omega)]; grind
theorem conv_assoc (a b c : Nat → F) (k : Nat) : conv (conv a b) c k = conv a (conv b c) k := by
  unfold conv
  have e1 : S (k + 1) (fun i => S (i + 1) (fun j => a j * b (i - j)) * c (k - i)) = S (k + 1) (fun i => S (i + 1) (fun j => (fun p q => a p * b q * c (k - (p + q))) j (i - j))) :=
    S_congr fun i hi => by
      rw [← S_mulr]; exact S_congr fun j hj => by dsimp only; rw [show j + (i - j) = i from by omega]
  rw [e1, tri (fun p q => a p * b q * c (k - (p + q)))]
  refine S_congr fun i hi => ?_
  rw [← S_mul, show k + 1 - i = k - i + 1 from by omega]
  exact S_congr fun j hj => by rw [show k - (i + j) = k - i - j from by omega]; grind
theorem dft_conv {a b : Nat → F} {m n N : Nat} (w : F) (ha : ∀ i, m ≤ i → a i = 0) (hb : ∀ i, n ≤ i → b i = 0) (hN : m + n ≤ N + 1) (k : Nat) :
    dft N w (conv a b) k = dft N w a k * dft N w b k := by
  unfold dft conv
  have e1 : S N (fun j => S (j + 1) (fun i => a i * b (j - i)) * pw w (j * k)) = S N (fun j => S (j + 1) (fun i => (fun p q => a p * pw w (p * k) * (b q * pw w (q * k))) i (j - i))) :=
    S_congr fun j hj => by
      rw [← S_mulr]; exact S_congr fun i hi => by
        dsimp only
        rw [show pw w (j * k) = pw w (i * k) * pw w ((j - i) * k) from by rw [← pw_add, ← Nat.add_mul, show i + (j - i) = j from by omega]]; grind
  rw [e1, tri (fun p q => a p * pw w (p * k) * (b q * pw w (q * k))), ← S_mulr]
  refine S_congr fun i hi => ?_
  rw [← S_mul]
  by_cases e : i < m
  · refine (S_cut (by omega) fun j h1 h2 => ?_).symm
    rw [hb j (by omega)]; grind
  · rw [ha i (by omega)]
    rw [S_congr (g := fun _ => 0) (fun j hj => by grind), S_nought, S_congr (g := fun _ => 0) (fun j hj => by grind), S_nought]
theorem conv_last {a b : Nat → F} {m n : Nat} (ha : ∀ i, m + 1 ≤ i → a i = 0) (hb : ∀ i, n + 1 ≤ i → b i = 0) : conv a b (m + n) = a m * b n := by
  unfold conv
  rw [S_single (k := m) (by omega), show m + n - m = n from by omega]
  intro i hi hne
  by_cases e : i < m
  · rw [hb _ (by omega)]; grind
  · rw [ha i (by omega)]; grind
end Go.Proofs.Ytbmmjnmfinjdeaa.NM

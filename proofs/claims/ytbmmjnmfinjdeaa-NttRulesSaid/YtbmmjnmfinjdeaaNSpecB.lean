/- What the laws' common functions answer: known, within, Row. -/
import Derived.Test.YtbmmjnmfinjdeaaF2
import Derived.Test.YtbmmjnmfinjdeaaF3
import Derived.Test.YtbmmjnmfinjdeaaF3
import Derived.Test.YtbmmjnmfinjdeaaNSpecA
namespace Go.Proofs.Ytbmmjnmfinjdeaa.F
open Go.RowKit Go.Proofs.YtbmmjnmfinjdeaaW.PrintWords Go.Proofs.YtbmmjnmfinjdeaaW.PrintLast Go.Proofs.YtbmmjnmfinjdeaaW.PrintMore
open Go.Proofs.Ytbmmjnmfinjdeaa.NM (F S pw fp W WI X rev dft conv nf)
set_option linter.unusedVariables false
set_option linter.unusedSimpArgs false
namespace Spec
theorem up {α : Type} {g : Nat → Option α} {r : α} (h : Ev (fun k => g (k + 1)) r) : Ev g r := Ev.step (fun _ => rfl) h
theorem known_ : anticlinelaw8_known.f 80 = some true := by decide +kernel
theorem known : Ev (fun k => anticlinelaw8_known.f k) true := Ev.of (fun k => anticlinelaw8_known.mono k) known_
theorem u32_of {x : Int} (h : (Lit.int .u32 x).wf = true) : 0 ≤ x ∧ x < 4294967296 := by
  simp [Lit.wf, IntKind.min, IntKind.max, IntKind.signed, IntKind.bits] at h; omega
theorem i64_of {x : Int} (h : (Lit.int .i64 x).wf = true) : -9223372036854775808 ≤ x ∧ x < 9223372036854775808 := by
  simp [Lit.wf, IntKind.min, IntKind.max, IntKind.signed, IntKind.bits] at h; omega
theorem tmod_cases (a n : Int) (h : 0 < n) : (0 ≤ Int.tmod a n ∧ Int.tmod a n = a % n) ∨ (Int.tmod a n < 0 ∧ Int.tmod a n = a % n - n) := by
  by_cases ha : 0 ≤ a
  · left; rw [Int.tmod_eq_emod_of_nonneg ha]; exact ⟨Int.emod_nonneg _ (by omega), rfl⟩
  · have h1 := Int.tmod_eq_emod (a := a) (b := n)
    have h2 := Int.emod_nonneg a (b := n) (by omega)
    have h3 := Int.emod_lt_of_pos a h
    by_cases hd : n ∣ a
    · left
      rw [if_pos (Or.inr hd)] at h1
      constructor <;> omega
    · right
      rw [if_neg (by rintro (h | h); exact ha h; exact hd h)] at h1
      constructor <;> omega
theorem within (a n : Int) (h0 : 0 < n) (h1 : n < 4611686018427387904) : anticlinelaw8_within.f a n = some (a % n) := by
  unfold anticlinelaw8_within.f
  have h2 := Int.emod_nonneg a (b := n) (by omega)
  have h3 := Int.emod_lt_of_pos a h0
  rw [if_neg (by omega)]
  rcases tmod_cases a n h0 with ⟨p, q⟩ | ⟨p, q⟩
  · rw [if_neg (by omega), q]
  · rw [if_pos p, q, show a % n - n + n = a % n from by omega, w64 (by omega) (by omega)]
theorem val (x : Int) (h0 : 0 ≤ x) (h1 : x < 4294967296) : Int.tmod x 998244353 = v (nf x.toNat) := by
  rw [tmod_p h0, v_nf]; omega
/-- Numbers, as a list of their values. -/
def enc (n : Nat) (x : Nat → F) : List Int := (List.range n).map fun i => v (x i)
theorem enc_length (n : Nat) (x : Nat → F) : (enc n x).length = n := by simp [enc]
theorem enc_get (n : Nat) (x : Nat → F) (i : Nat) (h : i < n) : (enc n x).getD i 0 = v (x i) := by
  simp [enc, List.getD, h]
theorem enc_congr {n : Nat} {x y : Nat → F} (h : ∀ i, i < n → x i = y i) : enc n x = enc n y := by
  unfold enc; apply List.map_congr_left; intro i hi; rw [h i (List.mem_range.mp hi)]
theorem enc_succ (n : Nat) (x : Nat → F) : enc (n + 1) x = enc n x ++ [v (x n)] := by simp [enc, List.range_succ]
theorem enc_inj {n : Nat} {x y : Nat → F} (h : enc n x = enc n y) : ∀ i, i < n → x i = y i := fun i hi => by
  have h1 := enc_get n x i hi
  rw [h, enc_get n y i hi] at h1
  exact v_inj h1.symm
theorem rd_enc (n : Nat) (x : Nat → F) (i : Int) (h0 : 0 ≤ i) (h1 : i < n) : rd (enc n x) i = v (x i.toNat) := by
  have := enc_get n x i.toNat (by omega)
  rw [← this]; rfl
theorem enc_set (n : Nat) (x : Nat → F) (i : Nat) (y : F) : (enc n x).set i (v y) = enc n (fun j => if j = i then y else x j) := by
  apply List.ext_getElem
  · simp [enc]
  · intro j h1 h2
    simp only [List.getElem_set, enc, List.getElem_map, List.getElem_range]
    by_cases e : i = j
    · subst e; simp
    · rw [if_neg e, if_neg (fun h => e h.symm)]
/-- The numbers that Row makes. -/
def rowF (l : List Int) (i : Nat) : F := if i < l.length then nf (l.getD i 0).toNat else nf (7 * i + 1)
theorem getD_wf {l : List Int} (hl : ∀ x ∈ l, (Lit.int .u32 x).wf = true) (i : Nat) : 0 ≤ l.getD i 0 ∧ l.getD i 0 < 4294967296 := by
  by_cases h : i < l.length
  · have : l.getD i 0 = l[i] := by simp [List.getD, h]
    rw [this]; exact u32_of (hl _ (List.getElem_mem h))
  · have : l.getD i 0 = 0 := by simp [List.getD, List.getElem?_eq_none (by omega : l.length ≤ i)]
    rw [this]; omega
theorem row_l0 (l : List Int) (hl : ∀ x ∈ l, (Lit.int .u32 x).wf = true) (n : Int) (hn : n < 100000) : ∀ (d : Nat) (i : Nat), (i : Int) + d = n →
    Ev (fun k => anticlinelaw8_Row.l0 k l n (enc i (rowF l)) i) (enc n.toNat (rowF l)) := by
  intro d
  induction d with
  | zero =>
    intro i h
    refine Ev.step (f := fun k => some (enc i (rowF l))) (fun k => by rw [anticlinelaw8_Row.l0]; rw [if_neg (by omega)]) ?_
    rw [show n.toNat = i from by omega]
    exact Ev.now _
  | succ d ih =>
    intro i h
    refine Ev.step (f := fun k => anticlinelaw8_Row.l0 k l n (enc (i + 1) (rowF l)) ((i + 1 : Nat) : Int)) (fun k => ?_) (ih (i + 1) (by omega))
    rw [anticlinelaw8_Row.l0, if_pos (by omega), enc_length, enc_succ, w64 (x := (i : Int) + 1) (by omega) (by omega)]
    by_cases hi : (i : Int) < l.length
    · rw [if_pos hi, if_pos (by omega), if_pos (by omega)]
      have hg := getD_wf hl i
      have e : rd l i = l.getD i 0 := rfl
      rw [e, val _ hg.1 hg.2]
      have e2 : rowF l i = nf (l.getD i 0).toNat := by unfold rowF; rw [if_pos (by omega)]
      rw [e2]; rfl
    · rw [if_neg hi, if_pos (by omega)]
      have e2 : rowF l i = nf (7 * i + 1) := by unfold rowF; rw [if_neg (by omega)]
      rw [e2, v_nf, w64 (x := 7 * (i : Int)) (by omega) (by omega), w64 (by omega) (by omega)]
      have e3 : (7 * (i : Int) + 1) % 4294967296 = ((7 * i + 1) % 998244353 : Nat) := by rw [Nat.mod_eq_of_lt (by omega), Int.emod_eq_of_lt (by omega) (by omega)]; omega
      rw [e3]; rfl
theorem row (l : List Int) (hl : ∀ x ∈ l, (Lit.int .u32 x).wf = true) (n : Int) (h0 : 0 ≤ n) (hn : n < 100000) :
    Ev (fun k => anticlinelaw8_Row.f k l n) (enc n.toNat (rowF l)) := by
  have := row_l0 l hl n hn n.toNat 0 (by omega)
  exact this
/-- 1 shifted. -/
theorem shl_one (m : Nat) (h : m < 60) : shl .i64 1 (IntKind.u64.wrap (m : Int)) = ((2 ^ m : Nat) : Int) := by
  have : ∀ m : Nat, m < 60 → shl .i64 1 (IntKind.u64.wrap (m : Int)) = ((2 ^ m : Nat) : Int) := by decide +kernel
  exact this m h
end Spec
end Go.Proofs.Ytbmmjnmfinjdeaa.F

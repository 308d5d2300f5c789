/- Joined texts, 26: AmY. -/
import Derived.Test.YtjmpanhacfjcaaaJ23
import Derived.Test.YtjmpanhacfjcaaaJ18
/- Rows that are gathered, all of them own: in whatever slot. -/
namespace Go.Proofs.Ytjmpanhacfjcaaa.AM
open Go Go.RowKit Go.Proofs.Ytjmpanhacfjcaaa.PN Go.Proofs.Ytjmpanhacfjcaaa.V
set_option linter.unusedVariables false
set_option linter.unusedSimpArgs false
/-- k rows of m numbers, gathered in slot t: family t bears them, family g is them. -/
def famT (t g : Nat) (e : List (Nat × AV)) (l : List (Nat × Fam)) (m : Nat) (A : Nat → Nat → Rat) : Nat → St
  | 0 => stl ((t, .v (.slice none 0 0)) :: e) l
  | k + 1 => stl ((t, .own t 0) :: e) ((t, (1, fun _ => .ones WT (k + 1) (fun i => .own g i))) :: (g, (k + 1, fun r => .rats m (fun j => .q (A r j)))) :: l)
def sT (t g a b k : Nat) : Ren := fun g' r => if g' = g then (if r < k then (g, r) else (b, r - k)) else if g' = t then (a, r) else (g', r)
theorem sT_g {t g a b k r : Nat} (h : r < k) : sT t g a b k g r = (g, r) := by unfold sT; rw [if_pos rfl, if_pos h]
theorem sT_b {t g a b k : Nat} : sT t g a b k g k = (b, 0) := by unfold sT; rw [if_pos rfl, if_neg (Nat.lt_irrefl _), Nat.sub_self]
theorem sT_t {t g a b k r : Nat} (h : t ≠ g) : sT t g a b k t r = (a, r) := by unfold sT; rw [if_neg h, if_pos rfl]
def farL (t g a b : Nat) : List Nat → Bool
  | [] => true
  | x :: l => !(Nat.beq x t) && (!(Nat.beq x g) && (!(Nat.beq x a) && (!(Nat.beq x b) && farL t g a b l)))
theorem farL_ne {t g a b : Nat} : ∀ {l : List Nat}, farL t g a b l = true → ∀ x, memN x l = true → x ≠ t ∧ x ≠ g ∧ x ≠ a ∧ x ≠ b
  | [], _, x, h => by cases h
  | y :: l, hf, x, h => by
    unfold farL at hf
    simp only [Bool.and_eq_true, Bool.not_eq_true'] at hf
    obtain ⟨h1, h2, h3, h4, h5⟩ := hf
    unfold memN at h
    have ne : ∀ {p q : Nat}, Nat.beq p q = false → p ≠ q := fun h e => by rw [e, Nat.beq_refl] at h; cases h
    cases e : Nat.beq x y with
    | true =>
      have := Nat.eq_of_beq_eq_true e
      subst this
      exact ⟨ne h1, ne h2, ne h3, ne h4⟩
    | false => rw [e] at h; exact farL_ne h5 x h
theorem sT_far {t g a b k x r : Nat} (h : x ≠ t ∧ x ≠ g) : sT t g a b k x r = (x, r) := by unfold sT; rw [if_neg h.2, if_neg h.1]
theorem memN_uncons {x t : Nat} {l : List Nat} (h : memN x (t :: l) = true) : x = t ∨ memN x l = true := by
  unfold memN at h
  cases e : Nat.beq x t with
  | true => exact .inl (Nat.eq_of_beq_eq_true e)
  | false => rw [e] at h; exact .inr h
theorem memN_head (t : Nat) (l : List Nat) : memN t (t :: l) = true := by unfold memN; rw [Nat.beq_refl]; rfl
theorem memN_tail {x t : Nat} {l : List Nat} (h : memN x l = true) : memN x (t :: l) = true := by unfold memN; cases Nat.beq x t <;> first | rfl | exact h
theorem sT_inj {t g a b k : Nat} {l : List Nat} (htg : t ≠ g) (hag : a ≠ g) (hab : a ≠ b) (hbg : b ≠ g) (hl : farL t g a b l = true) (g1 r1 g2 r2 : Nat) (h1 : memN g1 (t :: g :: l) = true) (h2 : memN g2 (t :: g :: l) = true) (e : sT t g a b k g1 r1 = sT t g a b k g2 r2) : g1 = g2 ∧ r1 = r2 := by
  have hb : ∀ r, sT t g a b k g r = (g, r) ∨ (sT t g a b k g r = (b, r - k) ∧ ¬ r < k) := fun r => by
    unfold sT; rw [if_pos rfl]; split
    · exact .inl rfl
    · rename_i h; exact .inr ⟨rfl, h⟩
  rcases memN_uncons h1 with rfl | h1
  · rcases memN_uncons h2 with rfl | h2
    · rw [sT_t htg, sT_t htg] at e; cases e; exact ⟨rfl, rfl⟩
    · rw [sT_t htg] at e
      rcases memN_uncons h2 with rfl | h2
      · rcases hb r2 with e2 | ⟨e2, _⟩ <;> rw [e2] at e <;> cases e <;> contradiction
      · obtain ⟨n1, n2, n3, n4⟩ := farL_ne hl _ h2
        rw [sT_far ⟨n1, n2⟩] at e; cases e; exact absurd rfl n3
  · rcases memN_uncons h1 with rfl | h1
    · rcases memN_uncons h2 with rfl | h2
      · rw [sT_t htg] at e
        rcases hb r1 with e1 | ⟨e1, _⟩ <;> rw [e1] at e <;> cases e <;> contradiction
      · rcases memN_uncons h2 with rfl | h2
        · rcases hb r1 with e1 | ⟨e1, q1⟩ <;> rcases hb r2 with e2 | ⟨e2, q2⟩ <;> rw [e1, e2] at e <;> simp only [Prod.mk.injEq] at e
          · exact ⟨rfl, e.2⟩
          · exact absurd e.1.symm hbg
          · exact absurd e.1 hbg
          · exact ⟨rfl, by omega⟩
        · obtain ⟨n1, n2, n3, n4⟩ := farL_ne hl _ h2
          rw [sT_far ⟨n1, n2⟩] at e
          rcases hb r1 with e1 | ⟨e1, _⟩ <;> rw [e1] at e <;> cases e
          · exact absurd rfl n2
          · exact absurd rfl n4
    · obtain ⟨n1, n2, n3, n4⟩ := farL_ne hl _ h1
      rw [sT_far ⟨n1, n2⟩] at e
      rcases memN_uncons h2 with rfl | h2
      · rw [sT_t htg] at e; cases e; exact absurd rfl n3
      · rcases memN_uncons h2 with rfl | h2
        · rcases hb r2 with e2 | ⟨e2, _⟩ <;> rw [e2] at e <;> cases e
          · exact absurd rfl n2
          · exact absurd rfl n4
        · obtain ⟨m1, m2, m3, m4⟩ := farL_ne hl _ h2
          rw [sT_far ⟨m1, m2⟩] at e; cases e; exact ⟨rfl, rfl⟩
theorem famT_close {s : St} {e : List (Nat × AV)} {l : List (Nat × Fam)} {t g a b k m : Nat} {A : Nat → Nat → Rat} {F1 F2 F3 : Nat → Blk} {f1 : Nat → AV} (h6 : s.env t = some (.own a 0))
    (h33 : s.heap a = some (1, F1)) (e33 : F1 0 = .ones WT (k + 1) f1) (g33 : ∀ i, i < k → f1 i = .own g i) (g33' : f1 k = .own b 0) (h3 : 0 < k → s.heap g = some (k, F2)) (g3 : ∀ r, r < k → BLe (sT t g a b k) (F2 r) (.rats m fun j => .q (A r j)))
    (h31 : s.heap b = some (1, F3)) (g31 : BLe (sT t g a b k) (F3 0) (.rats m fun j => .q (A k j))) (h60 : s.used 60 = false) (hne : (t ≠ g ∧ a ≠ g) ∧ a ≠ b ∧ b ≠ g) (hf : farL t g a b (keys l) = true) (he : AllE s (sT t g a b k) (fun x => memN x (t :: g :: keys l)) e) (hl : AllH s (sT t g a b k) (fun x => memN x (t :: g :: keys l)) l) : Imp s (famT t g e l m A (k + 1)) := by
  obtain ⟨⟨htg, hag⟩, hab, hbg⟩ := hne
  have hmt : memN t (t :: g :: keys l) = true := memN_head _ _
  have hmg : memN g (t :: g :: keys l) = true := memN_tail (memN_head _ _)
  refine imp_stl (h := (t, (1, fun _ => .ones WT (k + 1) (fun i => .own g i))) :: (g, (k + 1, fun r => .rats m (fun j => .q (A r j)))) :: l) (sT t g a b k) (fun h => by rw [h60] at h; cases h) (fun g1 r1 g2 r2 h1 h2 => sT_inj htg hag hab hbg hf g1 r1 g2 r2 h1 h2) ⟨⟨_, h6, Le.own (sT_t htg), hmt⟩, he⟩ ⟨fun r hr => ?_, fun r hr => ?_, hl⟩ (by rw [h60]; rfl)
  · obtain rfl : r = 0 := by omega
    rw [sT_t htg]
    refine ⟨1, F1, h33, Nat.zero_lt_one, ?_, fun i hi => hmg⟩
    show BLe _ (F1 0) _
    rw [e33]
    refine bleo rfl fun i hi => ?_
    by_cases e : i < k
    · rw [g33 i e]; exact Le.own (sT_g e)
    · obtain rfl : i = k := by omega
      rw [g33']; exact Le.own sT_b
  · by_cases e : r < k
    · rw [sT_g e]
      exact ⟨k, F2, h3 (by omega), e, g3 r e, trivial⟩
    · obtain rfl : r = k := by omega
      rw [sT_b]
      exact ⟨1, F3, h31, Nat.zero_lt_one, g31, trivial⟩
/-- Rows in whatever order, with more memory beside. -/
abbrev TH (t g n m : Nat) (π : Nat → Nat) (A : Nat → Nat → Rat) (l : List (Nat × Fam)) : List (Nat × Fam) :=
  (t, (1, fun _ => .ones WT n (fun i => .own g (π i)))) :: (g, (n, fun r => .rats m (fun j => .q (A r j)))) :: l
theorem imp_TH {s : St} {e : List (Nat × AV)} {l : List (Nat × Fam)} {t g n m : Nat} {π : Nat → Nat} {A : Nat → Nat → Rat} {F1 F2 : Nat → Blk} {f1 : Nat → AV} (h6 : s.heap t = some (1, F1)) (e6 : F1 0 = .ones WT n f1) (g6 : ∀ i, i < n → f1 i = .own g (π i)) (h3 : s.heap g = some (n, F2)) (g3 : ∀ r, r < n → BLe idR (F2 r) (.rats m fun j => .q (A r j)))
    (h60 : s.used 60 = false) (he : AllE s idR (fun x => memN x (t :: g :: keys l)) e) (hl : AllH s idR (fun x => memN x (t :: g :: keys l)) l) : Imp s (stl e (TH t g n m π A l)) := by
  have hmg : memN g (t :: g :: keys l) = true := by unfold memN; cases Nat.beq g t <;> simp [memN]
  refine imp_id (h := TH t g n m π A l) he ⟨fun r hr => ?_, fun r hr => ⟨n, F2, h3, hr, g3 r hr, trivial⟩, hl⟩ (by rw [h60]; rfl)
  obtain rfl : r = 0 := by omega
  refine ⟨1, F1, h6, Nat.zero_lt_one, ?_, fun i hi => hmg⟩
  show BLe idR (F1 0) _
  rw [e6]; exact bleo rfl fun i hi => Le.id (g6 i hi)
/-- The rows, brought into the order in which they lie. -/
def sP (g n : Nat) (π : Nat → Nat) : Ren := fun g' r => if g' = g ∧ r < n then (g, π r) else (g', r)
theorem sP_ne {g n : Nat} {π : Nat → Nat} {g' : Nat} (h : g' ≠ g) (r : Nat) : sP g n π g' r = (g', r) := by unfold sP; rw [if_neg (fun h' => h h'.1)]
theorem sP_g {g n : Nat} {π : Nat → Nat} {r : Nat} (h : r < n) : sP g n π g r = (g, π r) := by unfold sP; rw [if_pos ⟨rfl, h⟩]
theorem sP_inj {g n : Nat} {π : Nat → Nat} (hlt : ∀ i, i < n → π i < n) (hinj : ∀ i j, i < n → j < n → π i = π j → i = j) (g1 r1 g2 r2 : Nat) (e : sP g n π g1 r1 = sP g n π g2 r2) : g1 = g2 ∧ r1 = r2 := by
  unfold sP at e
  split at e <;> split at e <;> simp only [Prod.mk.injEq] at e
  · rename_i h1 h2
    exact ⟨h1.1.trans h2.1.symm, hinj _ _ h1.2 h2.2 e.2⟩
  · rename_i h1 h2
    have := hlt r1 h1.2
    exact absurd ⟨e.1.symm, by omega⟩ h2
  · rename_i h1 h2
    have := hlt r2 h2.2
    exact absurd ⟨e.1, by omega⟩ h1
  · exact e
end Go.Proofs.Ytjmpanhacfjcaaa.AM

/- Joined texts, 15: AmY Sml LawB LawC Zer DnA DnB DnC DnD DnE. -/
import Derived.Test.YtjmpanhacfjcaaaJ14
import Derived.Test.YtjmpanhacfjcaaaJ13
set_option linter.unusedVariables false
set_option linter.unusedSimpArgs false
/- Rows that are gathered, all of them own: in whatever slot. -/
namespace Go.Proofs.Ytjmpanhacfjcaaa.AM
open Go Go.RowKit Go.Proofs.Ytjmpanhacfjcaaa.PN Go.Proofs.Ytjmpanhacfjcaaa.V
set_option linter.unusedVariables false
set_option linter.unusedSimpArgs false
/-- Family g of one block, named anew: it was a. -/
def s1 (g a : Nat) : Ren := fun g' r => if g' = g then (a, r) else (g', r)
theorem s1_inj (g a g1 r1 g2 r2 : Nat) (h1 : memN g1 [g] = true) (h2 : memN g2 [g] = true) (e : s1 g a g1 r1 = s1 g a g2 r2) : g1 = g2 ∧ r1 = r2 := by
  have m1 := memN_spec h1
  have m2 := memN_spec h2
  simp only [List.mem_singleton] at m1 m2
  subst m1; subst m2
  unfold s1 at e
  rw [if_pos rfl, if_pos rfl] at e
  cases e; exact ⟨rfl, rfl⟩
theorem AllE.env {s s' : St} {σ : Ren} {U : Nat → Bool} (h : s'.env = s.env) : ∀ {l : List (Nat × AV)}, AllE s σ U l → AllE s' σ U l
  | [], _ => True.intro
  | (t, y) :: l, ⟨⟨x, h1, h2⟩, k⟩ => ⟨⟨x, by rw [h]; exact h1, h2⟩, AllE.env h k⟩
theorem grow_ok {U : Nat → Bool} {v : Nat → AV} {z : AV} {k : Nat} (hv : ∀ i, (v i).ok U) (hz : z.ok U) : ∀ i, (grow v z k i).ok U := fun i => by
  unfold grow; cases Nat.ble (i + 1) k
  · exact hz
  · exact hv i
/-- k rows of m numbers, gathered in slot t: family t bears them, family g is them. -/
def famT (t g : Nat) (e : List (Nat × AV)) (l : List (Nat × Fam)) (m : Nat) (A : Nat → Nat → Rat) : Nat → St
  | 0 => stl ((t, .v (.slice none 0 0)) :: e) l
  | k + 1 => stl ((t, .own t 0) :: e) ((t, (1, fun _ => .ones WT (k + 1) (fun i => .own g i))) :: (g, (k + 1, fun r => .rats m (fun j => .q (A r j)))) :: l)
def sT (t g a b k : Nat) : Ren := fun g' r => if g' = g then (if r < k then (g, r) else (b, r - k)) else if g' = t then (a, r) else (g', r)
theorem sT_g {t g a b k r : Nat} (h : r < k) : sT t g a b k g r = (g, r) := by unfold sT; rw [if_pos rfl, if_pos h]
theorem sT_b {t g a b k : Nat} : sT t g a b k g k = (b, 0) := by unfold sT; rw [if_pos rfl, if_neg (Nat.lt_irrefl _), Nat.sub_self]
theorem sT_t {t g a b k r : Nat} (h : t ≠ g) : sT t g a b k t r = (a, r) := by unfold sT; rw [if_neg h, if_pos rfl]
def farL (t g a b : Nat) : List Nat → Bool
  | [] => true
  | x :: l => !(Nat.beq x t) && (!(Nat.beq x g) && (!(Nat.beq x a) && (!(Nat.beq x b) && farL t g a b l)))
theorem farL_ne {t g a b : Nat} : ∀ {l : List Nat}, farL t g a b l = true → ∀ x, memN x l = true → x ≠ t ∧ x ≠ g ∧ x ≠ a ∧ x ≠ b
  | [], _, x, h => by cases h
  | y :: l, hf, x, h => by
    unfold farL at hf
    simp only [Bool.and_eq_true, Bool.not_eq_true'] at hf
    obtain ⟨h1, h2, h3, h4, h5⟩ := hf
    unfold memN at h
    have ne : ∀ {p q : Nat}, Nat.beq p q = false → p ≠ q := fun h e => by rw [e, Nat.beq_refl] at h; cases h
    cases e : Nat.beq x y with
    | true =>
      have := Nat.eq_of_beq_eq_true e
      subst this
      exact ⟨ne h1, ne h2, ne h3, ne h4⟩
    | false => rw [e] at h; exact farL_ne h5 x h
theorem sT_far {t g a b k x r : Nat} (h : x ≠ t ∧ x ≠ g) : sT t g a b k x r = (x, r) := by unfold sT; rw [if_neg h.2, if_neg h.1]
theorem memN_uncons {x t : Nat} {l : List Nat} (h : memN x (t :: l) = true) : x = t ∨ memN x l = true := by
  unfold memN at h
  cases e : Nat.beq x t with
  | true => exact .inl (Nat.eq_of_beq_eq_true e)
  | false => rw [e] at h; exact .inr h
theorem memN_head (t : Nat) (l : List Nat) : memN t (t :: l) = true := by unfold memN; rw [Nat.beq_refl]; rfl
theorem memN_tail {x t : Nat} {l : List Nat} (h : memN x l = true) : memN x (t :: l) = true := by unfold memN; cases Nat.beq x t <;> first | rfl | exact h
theorem sT_inj {t g a b k : Nat} {l : List Nat} (htg : t ≠ g) (hag : a ≠ g) (hab : a ≠ b) (hbg : b ≠ g) (hl : farL t g a b l = true) (g1 r1 g2 r2 : Nat) (h1 : memN g1 (t :: g :: l) = true) (h2 : memN g2 (t :: g :: l) = true) (e : sT t g a b k g1 r1 = sT t g a b k g2 r2) : g1 = g2 ∧ r1 = r2 := by
  have hb : ∀ r, sT t g a b k g r = (g, r) ∨ (sT t g a b k g r = (b, r - k) ∧ ¬ r < k) := fun r => by
    unfold sT; rw [if_pos rfl]; split
    · exact .inl rfl
    · rename_i h; exact .inr ⟨rfl, h⟩
  rcases memN_uncons h1 with rfl | h1
  · rcases memN_uncons h2 with rfl | h2
    · rw [sT_t htg, sT_t htg] at e; cases e; exact ⟨rfl, rfl⟩
    · rw [sT_t htg] at e
      rcases memN_uncons h2 with rfl | h2
      · rcases hb r2 with e2 | ⟨e2, _⟩ <;> rw [e2] at e <;> cases e <;> contradiction
      · obtain ⟨n1, n2, n3, n4⟩ := farL_ne hl _ h2
        rw [sT_far ⟨n1, n2⟩] at e; cases e; exact absurd rfl n3
  · rcases memN_uncons h1 with rfl | h1
    · rcases memN_uncons h2 with rfl | h2
      · rw [sT_t htg] at e
        rcases hb r1 with e1 | ⟨e1, _⟩ <;> rw [e1] at e <;> cases e <;> contradiction
      · rcases memN_uncons h2 with rfl | h2
        · rcases hb r1 with e1 | ⟨e1, q1⟩ <;> rcases hb r2 with e2 | ⟨e2, q2⟩ <;> rw [e1, e2] at e <;> simp only [Prod.mk.injEq] at e
          · exact ⟨rfl, e.2⟩
          · exact absurd e.1.symm hbg
          · exact absurd e.1 hbg
          · exact ⟨rfl, by omega⟩
        · obtain ⟨n1, n2, n3, n4⟩ := farL_ne hl _ h2
          rw [sT_far ⟨n1, n2⟩] at e
          rcases hb r1 with e1 | ⟨e1, _⟩ <;> rw [e1] at e <;> cases e
          · exact absurd rfl n2
          · exact absurd rfl n4
    · obtain ⟨n1, n2, n3, n4⟩ := farL_ne hl _ h1
      rw [sT_far ⟨n1, n2⟩] at e
      rcases memN_uncons h2 with rfl | h2
      · rw [sT_t htg] at e; cases e; exact absurd rfl n3
      · rcases memN_uncons h2 with rfl | h2
        · rcases hb r2 with e2 | ⟨e2, _⟩ <;> rw [e2] at e <;> cases e
          · exact absurd rfl n2
          · exact absurd rfl n4
        · obtain ⟨m1, m2, m3, m4⟩ := farL_ne hl _ h2
          rw [sT_far ⟨m1, m2⟩] at e; cases e; exact ⟨rfl, rfl⟩
theorem famT_close {s : St} {e : List (Nat × AV)} {l : List (Nat × Fam)} {t g a b k m : Nat} {A : Nat → Nat → Rat} {F1 F2 F3 : Nat → Blk} {f1 : Nat → AV} (h6 : s.env t = some (.own a 0))
    (h33 : s.heap a = some (1, F1)) (e33 : F1 0 = .ones WT (k + 1) f1) (g33 : ∀ i, i < k → f1 i = .own g i) (g33' : f1 k = .own b 0) (h3 : 0 < k → s.heap g = some (k, F2)) (g3 : ∀ r, r < k → BLe (sT t g a b k) (F2 r) (.rats m fun j => .q (A r j)))
    (h31 : s.heap b = some (1, F3)) (g31 : BLe (sT t g a b k) (F3 0) (.rats m fun j => .q (A k j))) (h60 : s.used 60 = false) (hne : (t ≠ g ∧ a ≠ g) ∧ a ≠ b ∧ b ≠ g) (hf : farL t g a b (keys l) = true) (he : AllE s (sT t g a b k) (fun x => memN x (t :: g :: keys l)) e) (hl : AllH s (sT t g a b k) (fun x => memN x (t :: g :: keys l)) l) : Imp s (famT t g e l m A (k + 1)) := by
  obtain ⟨⟨htg, hag⟩, hab, hbg⟩ := hne
  have hmt : memN t (t :: g :: keys l) = true := memN_head _ _
  have hmg : memN g (t :: g :: keys l) = true := memN_tail (memN_head _ _)
  refine imp_stl (h := (t, (1, fun _ => .ones WT (k + 1) (fun i => .own g i))) :: (g, (k + 1, fun r => .rats m (fun j => .q (A r j)))) :: l) (sT t g a b k) (fun h => by rw [h60] at h; cases h) (fun g1 r1 g2 r2 h1 h2 => sT_inj htg hag hab hbg hf g1 r1 g2 r2 h1 h2) ⟨⟨_, h6, Le.own (sT_t htg), hmt⟩, he⟩ ⟨fun r hr => ?_, fun r hr => ?_, hl⟩ (by rw [h60]; rfl)
  · obtain rfl : r = 0 := by omega
    rw [sT_t htg]
    refine ⟨1, F1, h33, Nat.zero_lt_one, ?_, fun i hi => hmg⟩
    show BLe _ (F1 0) _
    rw [e33]
    refine bleo rfl fun i hi => ?_
    by_cases e : i < k
    · rw [g33 i e]; exact Le.own (sT_g e)
    · obtain rfl : i = k := by omega
      rw [g33']; exact Le.own sT_b
  · by_cases e : r < k
    · rw [sT_g e]
      exact ⟨k, F2, h3 (by omega), e, g3 r e, trivial⟩
    · obtain rfl : r = k := by omega
      rw [sT_b]
      exact ⟨1, F3, h31, Nat.zero_lt_one, g31, trivial⟩
/-- Rows in whatever order, with more memory beside. -/
abbrev TH (t g n m : Nat) (π : Nat → Nat) (A : Nat → Nat → Rat) (l : List (Nat × Fam)) : List (Nat × Fam) :=
  (t, (1, fun _ => .ones WT n (fun i => .own g (π i)))) :: (g, (n, fun r => .rats m (fun j => .q (A r j)))) :: l
theorem imp_TH {s : St} {e : List (Nat × AV)} {l : List (Nat × Fam)} {t g n m : Nat} {π : Nat → Nat} {A : Nat → Nat → Rat} {F1 F2 : Nat → Blk} {f1 : Nat → AV} (h6 : s.heap t = some (1, F1)) (e6 : F1 0 = .ones WT n f1) (g6 : ∀ i, i < n → f1 i = .own g (π i)) (h3 : s.heap g = some (n, F2)) (g3 : ∀ r, r < n → BLe idR (F2 r) (.rats m fun j => .q (A r j)))
    (h60 : s.used 60 = false) (he : AllE s idR (fun x => memN x (t :: g :: keys l)) e) (hl : AllH s idR (fun x => memN x (t :: g :: keys l)) l) : Imp s (stl e (TH t g n m π A l)) := by
  have hmg : memN g (t :: g :: keys l) = true := by unfold memN; cases Nat.beq g t <;> simp [memN]
  refine imp_id (h := TH t g n m π A l) he ⟨fun r hr => ?_, fun r hr => ⟨n, F2, h3, hr, g3 r hr, trivial⟩, hl⟩ (by rw [h60]; rfl)
  obtain rfl : r = 0 := by omega
  refine ⟨1, F1, h6, Nat.zero_lt_one, ?_, fun i hi => hmg⟩
  show BLe idR (F1 0) _
  rw [e6]; exact bleo rfl fun i hi => Le.id (g6 i hi)
/-- The rows, brought into the order in which they lie. -/
def sP (g n : Nat) (π : Nat → Nat) : Ren := fun g' r => if g' = g ∧ r < n then (g, π r) else (g', r)
theorem sP_ne {g n : Nat} {π : Nat → Nat} {g' : Nat} (h : g' ≠ g) (r : Nat) : sP g n π g' r = (g', r) := by unfold sP; rw [if_neg (fun h' => h h'.1)]
theorem sP_g {g n : Nat} {π : Nat → Nat} {r : Nat} (h : r < n) : sP g n π g r = (g, π r) := by unfold sP; rw [if_pos ⟨rfl, h⟩]
theorem sP_inj {g n : Nat} {π : Nat → Nat} (hlt : ∀ i, i < n → π i < n) (hinj : ∀ i j, i < n → j < n → π i = π j → i = j) (g1 r1 g2 r2 : Nat) (e : sP g n π g1 r1 = sP g n π g2 r2) : g1 = g2 ∧ r1 = r2 := by
  unfold sP at e
  split at e <;> split at e <;> simp only [Prod.mk.injEq] at e
  · rename_i h1 h2
    exact ⟨h1.1.trans h2.1.symm, hinj _ _ h1.2 h2.2 e.2⟩
  · rename_i h1 h2
    have := hlt r1 h1.2
    exact absurd ⟨e.1.symm, by omega⟩ h2
  · rename_i h1 h2
    have := hlt r2 h2.2
    exact absurd ⟨e.1, by omega⟩ h1
  · exact e
end Go.Proofs.Ytjmpanhacfjcaaa.AM
/- Small numbers that are drawn: walked. -/
namespace Go.Proofs.Ytjmpanhacfjcaaa.AM
open Go Go.RowKit Go.Proofs.Ytjmpanhacfjcaaa.PN Go.Proofs.Ytjmpanhacfjcaaa.V
open Go.Proofs.Ytjmpanhacfjcaaa.LA (S S_succ S_zero S_congr)
set_option linter.unusedVariables false
set_option linter.unusedSimpArgs false
set_option maxRecDepth 4000
set_option maxHeartbeats 4000000
/-! ### Numbers that are drawn -/
theorem hs_of (n d : Int) (h1 : -9223372036854775808 ≤ n) (h2 : n < 9223372036854775808) (h3 : 0 < d) (h4 : d < 9223372036854775808) : Has Try.prog 43 [.i n, .i d] (.tup (.q ((n : Rat) / (d : Rat))) (.i 0)) := by
  refine ⟨by kernel_rfl, ⟨trivial, trivial⟩, fun w S β vs hv => ?_⟩
  obtain ⟨v, u, rfl, e1, e2⟩ := rvs2 hv
  have e1 : v = .int .i64 n := e1
  have e2 : u = .int .i64 d := e2
  subst e1; subst e2
  refine (s_of n d w h1 h2 (by omega) h4 (by omega)).mono ?_
  rintro e w' ⟨s, vn, vd, rfl, h1, h2⟩
  refine ⟨_, rfl, h2, _, _, rfl, ?_, rfl⟩
  have hq : mk (decide (n < 0) != decide (d < 0)) n.natAbs d.natAbs = (n : Rat) / (d : Rat) := by
    have h5 : (decide (n < 0) != decide (d < 0)) = decide (n < 0) := by rw [decide_eq_false (show ¬ d < 0 by omega)]; simp
    rw [h5]
    have h6 : PN.sg (decide (n < 0)) n.natAbs = n := by
      unfold PN.sg
      by_cases h : n < 0
      · rw [decide_eq_true h]; simp; omega
      · rw [decide_eq_false h]; simp; omega
    unfold mk
    rw [h6, Rat.mkRat_eq_div]
    have h7 : ((d.natAbs : Nat) : Int) = d := by omega
    rw [show ((d.natAbs : Nat) : Rat) = (((d.natAbs : Nat) : Int) : Rat) from rfl, h7]
  rw [← hq]
  exact rat_rv h1
/-- A number from 0 to n - 1. -/
def wthn (a n : Int) : Int := if a.tmod n < 0 then a.tmod n + n else a.tmod n
theorem wthn_lt {a n : Int} (hn : 0 < n) : 0 ≤ wthn a n ∧ wthn a n < n := by
  unfold wthn
  have h1 := Int.tmod_lt_of_pos a hn
  have h2 : -n < a.tmod n := Int.lt_tmod_of_pos a hn
  split <;> omega
theorem k_within2 {a n : Int} (hn : 0 < n) (hn' : n < 1000000000) : Has Try.prog 45 [.i a, .i n] (.i (wthn a n)) := by
  refine has_of Try.func45 (by kernel_rfl) rfl Try.ntmps45 Try.results45 rfl rfl rfl ?_
  have h1 := Int.tmod_lt_of_pos a hn
  have h2 : -n < a.tmod n := Int.lt_tmod_of_pos a hn
  refine run0 ?_
  refine awp_if rfl (fun h => ?_) (fun h => ?_)
  · have e : wthn a n = a.tmod n + n := if_pos h
    rw [e]
    refine run0 ?_
    refine ⟨.inr rfl, _, Imp.refl _, ?_⟩
    exact .one (.tmp rfl)
  · have e : wthn a n = a.tmod n := if_neg h
    rw [e]
    refine run0 ?_
    refine ⟨.inr rfl, _, Imp.refl _, ?_⟩
    exact .one (.tmp rfl)
/-- A small number. -/
def smal (a : Int) : Rat := ((wthn a 41 - 20 : Int) : Rat) / ((1 + wthn (a.tdiv 41) 5 : Int) : Rat)
theorem smal_key : ∀ x : _root_.Fin 41, ∀ y : _root_.Fin 5, wt ((((x.val : Int) - 20 : Int) : Rat) / ((1 + (y.val : Int) : Int) : Rat)) ≤ 1 := by decide +kernel
instance smal_wt (a : Int) : Wt (smal a) 1 := ⟨by
  obtain ⟨h1, h2⟩ := wthn_lt (a := a) (n := 41) (by decide)
  obtain ⟨h3, h4⟩ := wthn_lt (a := a.tdiv 41) (n := 5) (by decide)
  have := smal_key ⟨(wthn a 41).toNat, by omega⟩ ⟨(wthn (a.tdiv 41) 5).toNat, by omega⟩
  rw [show (((wthn a 41).toNat : Nat) : Int) = wthn a 41 by omega, show (((wthn (a.tdiv 41) 5).toNat : Nat) : Int) = wthn (a.tdiv 41) 5 by omega] at this
  exact this⟩
theorem k_small {a : Int} (ha : Fits .i64 a) : Has Try.prog 14 [.i a] (.q (smal a)) := by
  refine has_of Try.func14 (by kernel_rfl) rfl Try.ntmps14 Try.results14 rfl rfl rfl ?_
  obtain ⟨h1, h2⟩ := wthn_lt (a := a) (n := 41) (by decide)
  obtain ⟨h3, h4⟩ := wthn_lt (a := a.tdiv 41) (n := 5) (by decide)
  have hf : -9223372036854775808 ≤ a ∧ a ≤ 9223372036854775807 := ha
  have h5 : Fits .i64 (a.tdiv 41) := by
    have e1 : (a.tdiv 41).natAbs = a.natAbs / 41 := Int.natAbs_tdiv a 41
    show -9223372036854775808 ≤ _ ∧ _ ≤ (9223372036854775807 : Int)
    omega
  obtain ⟨h5a, h5b⟩ : -9223372036854775808 ≤ a.tdiv 41 ∧ a.tdiv 41 ≤ 9223372036854775807 := h5
  repeat(first|refine run1 ?_|((with_reducible apply st_call);exact rfl;exact rfl;exact rfl;first|(exact k_within2 (by decide) (by decide))|(exact hs_of _ _ (by omega) (by omega) (by omega) (by omega)))|((with_reducible apply st_callg);exact rfl;exact rfl;(first|exact rfl|assumption);exact rfl;exact rfl;exact rfl;first|(exact k_within2 (by decide) (by decide))|(exact hs_of _ _ (by omega) (by omega) (by omega) (by omega))))
  refine ⟨.inr rfl, _, Imp.refl _, ?_⟩
  exact .one (.rat rfl rfl (by decide) rfl (by decide) rfl)
end Go.Proofs.Ytjmpanhacfjcaaa.AM
/- Laws of dense matrices: walks: rows of numbers. -/
namespace Go.Proofs.Ytjmpanhacfjcaaa.AM
open Go Go.RowKit Go.Proofs.Ytjmpanhacfjcaaa.PN Go.Proofs.Ytjmpanhacfjcaaa.V
open Go.Proofs.Ytjmpanhacfjcaaa.LA (S S_succ S_zero S_congr)
set_option linter.unusedVariables false
set_option linter.unusedSimpArgs false
set_option maxRecDepth 4000
set_option maxHeartbeats 4000000
/-- What a list of whole numbers says at a place. -/
def rowx (zs : List Int) (i : Nat) : Int := if i < zs.length then zs.getD i 0 else 3 * i + 1
def rowq (zs : List Int) (i : Nat) : Rat := smal (rowx zs i)
instance rowq_wt (zs : List Int) (i : Nat) : Wt (rowq zs i) 1 := smal_wt _
def rowS (e : List (Nat × AV)) (v : Nat → RA) : Nat → St
  | 0 => stl ((5, .v (.slice none 0 0)) :: e) []
  | k + 1 => stl ((5, .own 5 0) :: e) [(5, (1, fun _ => .rats (k + 1) v))]
theorem row_close {s : St} {e : List (Nat × AV)} {k : Nat} {v f : Nat → RA} {F : Nat → Blk} {a : Nat} (h5 : s.env 5 = some (.own a 0)) (ha : s.heap a = some (1, F)) (hF : F 0 = .rats (k + 1) f) (hf : ∀ i, i < k + 1 → f i = v i) (h60 : s.used 60 = false) (he : AllE s (s1 5 a) (fun g => memN g [5]) e) : Imp s (rowS e v (k + 1)) := by
  refine imp_stl (h := [(5, (1, fun _ => .rats (k + 1) v))]) (s1 5 a) (fun h => by rw [h60] at h; cases h) (fun g r g' r' h1 h2 => s1_inj 5 a g r g' r' h1 h2) ⟨⟨_, h5, Le.own (by unfold s1; rw [if_pos rfl]), rfl⟩, he⟩ ⟨fun r hr => ?_, trivial⟩ (by rw [h60]; rfl)
  obtain rfl : r = 0 := by omega
  have e1 : s1 5 a 5 0 = (a, 0) := by unfold s1; rw [if_pos rfl]
  rw [e1]
  refine ⟨1, F, ha, Nat.zero_lt_one, ?_, trivial⟩
  show BLe _ (F 0) _
  rw [hF]; exact blen rfl hf
theorem k_row {zs : List Int} {n : Nat} (hn : n ≤ 1000) (hz : ∀ i, i < zs.length → Fits .i64 (zs.getD i 0)) : Has Try.prog 21 [.seq .i64 zs, .i n] (.row true n (fun i => .q (rowq zs i))) := by
  refine has_of Try.func21 (by kernel_rfl) rfl Try.ntmps21 Try.results21 rfl rfl rfl ?_
  refine run0 ?_
  refine awp_loop (fun m s => ∃ k, k ≤ n ∧ m = n - k ∧ s = rowS [(0, .seq .i64 zs), (1, .i n), (6, .i (k : Int))] (fun i => .q (rowq zs i)) k) n _ (imp_id (h := []) (e := [(5, .v (.slice none 0 0)), (0, .seq .i64 zs), (1, .i n), (6, .i ((0 : Nat) : Int))]) ?_ ?_) ⟨0, Nat.zero_le _, rfl, rfl⟩ ?_
  · exact eA
  · exact True.intro
  · rintro m s ⟨k, hk, rfl, rfl⟩
    have hx : ∀ k : Nat, k < zs.length → rowx zs k = zs.getD k 0 := fun k h => if_pos h
    have hy : ∀ k : Nat, ¬ k < zs.length → rowx zs k = 3 * (k : Int) + 1 := fun k h => if_neg h
    rcases k with _ | k
    · refine run0 ?_
      refine awp_if rfl (fun h => ?_) (fun h => ?_)
      · have h : 0 < n := by omega
        refine run0 ?_
        refine awp_if rfl (fun h1 => ?_) (fun h1 => ?_)
        · have h1' : (((0 : Nat) : Int)) < (zs.length : Int) := h1
          have h1 : 0 < zs.length := by omega
          have hf := hz 0 h1
          repeat(first|refine run1 ?_|((with_reducible apply st_call);exact rfl;exact rfl;exact rfl;first|(exact k_small hf))|((with_reducible apply st_callg);exact rfl;exact rfl;(first|exact rfl|assumption);exact rfl;exact rfl;exact rfl;first|(exact k_small hf)))
          refine q_loop ?_ (row_close (k := 0) (a := 28) rfl rfl rfl ?_ rfl ?_) ⟨0 + 1, ?_, rfl, rfl⟩
          · omega
          · intro i hi
            obtain rfl : i = 0 := by omega
            exact congrArg (fun x => RA.q (smal x)) (hx 0 h1).symm
          · refine alle rfl (Le.eq rfl rfl) True.intro (alle rfl (Le.eq rfl rfl) True.intro (alle rfl (Le.eq rfl rfl) True.intro True.intro))
          · omega
        · have h1' : ¬ (((0 : Nat) : Int)) < (zs.length : Int) := h1
          have h1 : ¬ 0 < zs.length := by omega
          have hf : Fits .i64 (3 * ((0 : Nat) : Int) + 1) := by show _ ∧ _; omega
          repeat(first|refine run1 ?_|((with_reducible apply st_call);exact rfl;exact rfl;exact rfl;first|(exact k_small hf))|((with_reducible apply st_callg);exact rfl;exact rfl;(first|exact rfl|assumption);exact rfl;exact rfl;exact rfl;first|(exact k_small hf)))
          refine q_loop ?_ (row_close (k := 0) (a := 28) rfl rfl rfl ?_ rfl ?_) ⟨0 + 1, ?_, rfl, rfl⟩
          · omega
          · intro i hi
            obtain rfl : i = 0 := by omega
            exact congrArg (fun x => RA.q (smal x)) (hy 0 h1).symm
          · refine alle rfl (Le.eq rfl rfl) True.intro (alle rfl (Le.eq rfl rfl) True.intro (alle rfl (Le.eq rfl rfl) True.intro True.intro))
          · omega
      · obtain rfl : 0 = n := by omega
        refine run0 ?_
        refine ⟨.inr rfl, _, imp_slot (y := .row true 0 fun i => .q (rowq zs i)) 4 rfl True.intro Le.nilrow, ?_⟩
        exact .one (.tmp rfl)
    · refine run0 ?_
      refine awp_if rfl (fun h => ?_) (fun h => ?_)
      · have h : (k + 1) < n := by omega
        refine run0 ?_
        refine awp_if rfl (fun h1 => ?_) (fun h1 => ?_)
        · have h1' : ((((k + 1) : Nat) : Int)) < (zs.length : Int) := h1
          have h1 : (k + 1) < zs.length := by omega
          have hf := hz (k + 1) h1
          repeat(first|refine run1 ?_|((with_reducible apply st_call);exact rfl;exact rfl;exact rfl;first|(exact k_small hf))|((with_reducible apply st_callg);exact rfl;exact rfl;(first|exact rfl|assumption);exact rfl;exact rfl;exact rfl;first|(exact k_small hf)))
          refine q_loop ?_ (row_close (k := (k + 1)) (a := 28) rfl rfl rfl ?_ rfl ?_) ⟨(k + 1) + 1, ?_, rfl, rfl⟩
          · omega
          · intro i hi
            by_cases e : i < k + 1
            · exact if_pos e
            · obtain rfl : i = k + 1 := by omega
              refine (if_neg (Nat.lt_irrefl _)).trans ?_
              rw [Nat.sub_self]
              exact congrArg (fun x => RA.q (smal x)) (hx (k + 1) h1).symm
          · refine alle rfl (Le.eq rfl rfl) True.intro (alle rfl (Le.eq rfl rfl) True.intro (alle rfl (Le.eq rfl rfl) True.intro True.intro))
          · omega
        · have h1' : ¬ ((((k + 1) : Nat) : Int)) < (zs.length : Int) := h1
          have h1 : ¬ (k + 1) < zs.length := by omega
          have hf : Fits .i64 (3 * (((k + 1) : Nat) : Int) + 1) := by show _ ∧ _; omega
          repeat(first|refine run1 ?_|((with_reducible apply st_call);exact rfl;exact rfl;exact rfl;first|(exact k_small hf))|((with_reducible apply st_callg);exact rfl;exact rfl;(first|exact rfl|assumption);exact rfl;exact rfl;exact rfl;first|(exact k_small hf)))
          refine q_loop ?_ (row_close (k := (k + 1)) (a := 28) rfl rfl rfl ?_ rfl ?_) ⟨(k + 1) + 1, ?_, rfl, rfl⟩
          · omega
          · intro i hi
            by_cases e : i < k + 1
            · exact if_pos e
            · obtain rfl : i = k + 1 := by omega
              refine (if_neg (Nat.lt_irrefl _)).trans ?_
              rw [Nat.sub_self]
              exact congrArg (fun x => RA.q (smal x)) (hy (k + 1) h1).symm
          · refine alle rfl (Le.eq rfl rfl) True.intro (alle rfl (Le.eq rfl rfl) True.intro (alle rfl (Le.eq rfl rfl) True.intro True.intro))
          · omega
      · obtain rfl : (k + 1) = n := by omega
        refine run0 ?_
        refine ⟨.inr rfl, _, imp_row 4 rfl rfl rfl, ?_⟩
        exact .one (.tmp rfl)
end Go.Proofs.Ytjmpanhacfjcaaa.AM
/- Laws of dense matrices: walks: rows and matrices that are the same; ones. -/
namespace Go.Proofs.Ytjmpanhacfjcaaa.AM
open Go Go.RowKit Go.Proofs.Ytjmpanhacfjcaaa.PN Go.Proofs.Ytjmpanhacfjcaaa.V
open Go.Proofs.Ytjmpanhacfjcaaa.LA (S S_succ S_zero S_congr)
set_option linter.unusedVariables false
set_option linter.unusedSimpArgs false
set_option maxRecDepth 4000
set_option maxHeartbeats 4000000
theorem k_rows {n K : Nat} {f g : Nat → Rat} [hf : ∀ i, Wt (f i) K] (hK : K ≤ 1000000000000) (hn : n ≤ 1000) (h : ∀ i, i < n → f i = g i) : Has Try.prog 24 [.row false n (fun i => .q (f i)), .row false n (fun i => .q (g i))] (.b true) := by
  refine has_of Try.func24 (by kernel_rfl) rfl Try.ntmps24 Try.results24 rfl rfl rfl ?_
  refine run0 ?_
  refine awp_no rfl (decide_eq_false (fun h => h rfl)) ?_
  refine run0 ?_
  refine awp_loop (fun m s => ∃ k, k ≤ n ∧ m = n - k ∧ s = stl [(0, .row false n (fun i => .q (f i))), (1, .row false n (fun i => .q (g i))), (5, .i (k : Int))] []) n _ (imp_id ?_ ?_) ⟨0, Nat.zero_le _, rfl, rfl⟩ ?_
  · exact eA
  · exact hA
  · rintro m s ⟨k, hk, rfl, rfl⟩
    refine run0 ?_
    refine awp_if rfl (fun h1 => ?_) (fun h1 => ?_)
    · have h1 : k < n := by omega
      have e := h k h1
      have wg : Wt (g k) K := by rw [← e]; exact hf k
      have C := cs_same (p := f k) (q := g k) ⟨hK, hK⟩
      rw [decide_eq_true e] at C
      repeat(first|refine run1 ?_|((with_reducible apply st_call);exact rfl;exact rfl;exact rfl;first|(exact C))|((with_reducible apply st_callg);exact rfl;exact rfl;(first|exact rfl|assumption);exact rfl;exact rfl;exact rfl;first|(exact C)))
      refine awp_no rfl rfl ?_
      refine run0 ?_
      refine q_loop ?_ (imp_id ?_ ?_) ⟨k + 1, ?_, rfl, rfl⟩
      · omega
      · exact eA
      · exact hA
      · omega
    · refine run0 ?_
      refine ⟨.inr rfl, _, Imp.refl _, ?_⟩
      exact .one (.tmp rfl)
theorem k_all {n m K : Nat} {F G : Nat → Nat → Rat} [hf : ∀ i j, Wt (F i j) K] (hK : K ≤ 1000000000000) (hn : n ≤ 1000) (hm : m ≤ 1000) (h : ∀ i, i < n → ∀ j, j < m → F i j = G i j) : Has Try.prog 37 [.mat false n (fun _ => m) (fun i j => .q (F i j)), .mat false n (fun _ => m) (fun i j => .q (G i j))] (.b true) := by
  refine has_of Try.func37 (by kernel_rfl) rfl Try.ntmps37 Try.results37 rfl rfl rfl ?_
  refine run0 ?_
  refine awp_no rfl (decide_eq_false (fun h => h rfl)) ?_
  refine run0 ?_
  refine awp_loop (fun m' s => ∃ k, k ≤ n ∧ m' = n - k ∧ s = stl [(0, .mat false n (fun _ => m) (fun i j => .q (F i j))), (1, .mat false n (fun _ => m) (fun i j => .q (G i j))), (5, .i (k : Int))] []) n _ (imp_id ?_ ?_) ⟨0, Nat.zero_le _, rfl, rfl⟩ ?_
  · exact eA
  · exact hA
  · rintro m' s ⟨k, hk, rfl, rfl⟩
    refine run0 ?_
    refine awp_if rfl (fun h1 => ?_) (fun h1 => ?_)
    · have h1 : k < n := by omega
      repeat(first|refine run1 ?_|((with_reducible apply st_call);exact rfl;exact rfl;exact rfl;first|(exact k_rows (hf := hf k) hK hm (h k h1)))|((with_reducible apply st_callg);exact rfl;exact rfl;(first|exact rfl|assumption);exact rfl;exact rfl;exact rfl;first|(exact k_rows (hf := hf k) hK hm (h k h1))))
      refine awp_no rfl rfl ?_
      refine run0 ?_
      refine q_loop ?_ (imp_id ?_ ?_) ⟨k + 1, ?_, rfl, rfl⟩
      · omega
      · exact eA
      · exact hA
      · omega
    · refine run0 ?_
      refine ⟨.inr rfl, _, Imp.refl _, ?_⟩
      exact .one (.tmp rfl)
end Go.Proofs.Ytjmpanhacfjcaaa.AM
/- Dense matrices: walks: numbers, sums of products. -/
namespace Go.Proofs.Ytjmpanhacfjcaaa.AM
open Go Go.RowKit Go.Proofs.Ytjmpanhacfjcaaa.PN Go.Proofs.Ytjmpanhacfjcaaa.V
open Go.Proofs.Ytjmpanhacfjcaaa.LA (S S_succ S_zero S_congr)
set_option linter.unusedVariables false
set_option linter.unusedSimpArgs false
theorem lb_one {w : World} {v : Value} {S : Nat → Prop} (hS : ∀ b, S b) (h : Lbs w v [1]) : NatS w S v 1 := by
  obtain ⟨A, c, rfl, hc, hx⟩ := h
  refine ⟨A, c, rfl, hc, fun i hi => ?_⟩
  obtain ⟨b, off, cs, e1, e2, e3⟩ := hx i hi
  have hi : i < 1 := hi
  obtain rfl : i = 0 := by omega
  exact ⟨b, off, cs, e1, hS b, e2, by rw [e3]; congr 2⟩
theorem rv_zero {S : Nat → Prop} {B : Nat} {β : Nat → Nat → Value} {w : World} {v : Value} (h : RV S B β w (.ra (.raw false [] [1])) v) : RV S B β w (.q 0) v := by
  obtain ⟨s, vn, vd, rfl, h1, h2, h3⟩ := h
  refine ⟨s, vn, vd, rfl, h1, ?_, lb_one (fun _ => trivial) h3⟩
  obtain ⟨A, c, rfl, hc, hx⟩ := h2
  exact ⟨A, c, rfl, hc, fun i hi => absurd hi (Nat.not_lt_zero _)⟩
theorem rv_one {S : Nat → Prop} {B : Nat} {β : Nat → Nat → Value} {w : World} {v : Value} (h : RV S B β w (.ra (.raw false [1] [1])) v) : RV S B β w (.q 1) v := by
  obtain ⟨s, vn, vd, rfl, h1, h2, h3⟩ := h
  exact ⟨s, vn, vd, rfl, h1, lb_one (fun _ => trivial) h2, lb_one (fun _ => trivial) h3⟩
theorem Has.imp {f : FuncId} {xs : List AV} {r r' : AV} (h : Has Try.prog f xs r) (hc : r'.closed = true) (k : ∀ S B β w v, RV S B β w r v → RV S B β w r' v) : Has Try.prog f xs r' :=
  ⟨h.b, closed_ok hc, fun w S β vs hv => (h.run w S β vs hv).mono fun e w' ⟨v, he, hk, hr⟩ => ⟨v, he, hk, k _ _ _ _ _ hr⟩⟩
def joinQ (s1 : St) (e : Exit) (s' : St) : Prop := e = .normal ∧ Imp s' s1
theorem awp_join {P : Program} {M : Nat} {c y : Code} {Q : Exit → St → Prop} {s : St} (s1 : St) (h : AWP P M c (joinQ s1) s) (k : AWP P M y Q s1) : AWP P M c (thenQ P M y Q) s :=
  awp_mono h fun e s' ⟨he, hi⟩ => by subst he; exact awp_imp hi k
end Go.Proofs.Ytjmpanhacfjcaaa.AM
/- Dense matrices: walks: zero, one, dot. -/
namespace Go.Proofs.Ytjmpanhacfjcaaa.AM
open Go Go.RowKit Go.Proofs.Ytjmpanhacfjcaaa.PN Go.Proofs.Ytjmpanhacfjcaaa.V
open Go.Proofs.Ytjmpanhacfjcaaa.LA (S S_succ S_zero S_congr)
set_option linter.unusedVariables false
set_option linter.unusedSimpArgs false
theorem d_zero : Has Try.prog 73 [] (.q 0) := by
  refine Has.imp (r := .ra (.raw false [] [1])) ?_ rfl (fun S B β w v => rv_zero)
  refine has_of Try.func73 (by kernel_rfl) rfl Try.ntmps73 Try.results73 rfl rfl rfl ?_
  refine run0 ?_
  refine ⟨.inr rfl, _, Imp.refl _, ?_⟩
  exact .one (.rat rfl rfl (by decide) rfl (by decide) rfl)
theorem d_one : Has Try.prog 80 [] (.q 1) := by
  refine Has.imp (r := .ra (.raw false [1] [1])) ?_ rfl (fun S B β w v => rv_one)
  refine has_of Try.func80 (by kernel_rfl) rfl Try.ntmps80 Try.results80 rfl rfl rfl ?_
  refine run0 ?_
  refine ⟨.inr rfl, _, Imp.refl _, ?_⟩
  exact .one (.rat rfl rfl (by decide) rfl (by decide) rfl)
theorem d_dot {n K : Nat} {f g : Nat → Rat} [hf : ∀ i, Wt (f i) K] [hg : ∀ i, Wt (g i) K] (hn : n ≤ 8) (hK : K ≤ 1000000000) : Has Try.prog 70 [.row false n (fun i => .q (f i)), .row false n (fun i => .q (g i))] (.q (S n fun i => f i * g i)) := by
  refine has_of Try.func70 (by kernel_rfl) rfl Try.ntmps70 Try.results70 rfl rfl rfl ?_
  repeat(first|refine run1 ?_|((with_reducible apply st_call);exact rfl;exact rfl;exact rfl;first|(exact d_zero))|((with_reducible apply st_callg);exact rfl;exact rfl;(first|exact rfl|assumption);exact rfl;exact rfl;exact rfl;first|(exact d_zero)))
  refine awp_loop (fun m s => ∃ k, k ≤ n ∧ m = n - k ∧ s = stl [(0, .row false n (fun i => .q (f i))), (1, .row false n (fun i => .q (g i))), (4, .rptr 4 0 0), (5, .rptr 5 0 0), (12, .i (min (n : Int) n)), (13, .i (k : Int))] [(4, (1, fun _ => .rats 1 (fun _ => ra0))), (5, (1, fun _ => .rats 1 (fun _ => .q (S k fun i => f i * g i))))]) n _ (imp_id ?_ ?_) ⟨0, Nat.zero_le _, rfl, rfl⟩ ?_
  · repeat (first | exact True.intro | refine alle rfl (Le.id rfl) (by first | exact True.intro | rfl) ?_)
  · repeat (first | exact True.intro | refine allh rfl (by decide) (ble1 rfl) True.intro ?_)
  · rintro m s ⟨k, hk, rfl, rfl⟩
    have w1 : Wt (S k fun i => f i * g i) (8 * (K + K + 1) + 1) := Wt.sum (by omega) fun i _ => inferInstance
    refine run0 ?_
    refine awp_if rfl (fun h => ?_) (fun h => ?_)
    · have h : k < n := by omega
      repeat(first|refine run1 ?_|((with_reducible apply st_call);exact rfl;exact rfl;exact rfl;first|(exact c_mul ⟨by omega, by omega⟩)|(exact c_add ⟨by omega, by omega⟩))|((with_reducible apply st_callg);exact rfl;exact rfl;(first|exact rfl|assumption);exact rfl;exact rfl;exact rfl;first|(exact c_mul ⟨by omega, by omega⟩)|(exact c_add ⟨by omega, by omega⟩)))
      refine q_loop (m' := n - (k + 1)) (by omega) (imp_id (e := [(0, .row false n (fun i => .q (f i))), (1, .row false n (fun i => .q (g i))), (4, .rptr 4 0 0), (5, .rptr 5 0 0), (12, .i (min (n : Int) n)), (13, .i ((k + 1 : Nat) : Int))]) (h := [(4, (1, fun _ => .rats 1 (fun _ => ra0))), (5, (1, fun _ => .rats 1 (fun _ => .q (S (k + 1) fun i => f i * g i))))]) ?_ ?_) ⟨k + 1, by omega, rfl, rfl⟩
      · repeat (first | exact True.intro | refine alle rfl (Le.id rfl) (by first | exact True.intro | rfl) ?_)
      · repeat (first | exact True.intro | refine allh rfl (by decide) (ble1 rfl) True.intro ?_)
    · obtain rfl : k = n := by omega
      refine run0 ?_
      refine ⟨.inr rfl, _, Imp.refl _, ?_⟩
      exact .one (.rat rfl rfl (by decide) rfl (by decide) rfl)
end Go.Proofs.Ytjmpanhacfjcaaa.AM
/- Dense matrices: walks: right rows, square matrices, products with vectors. -/
namespace Go.Proofs.Ytjmpanhacfjcaaa.AM
open Go Go.RowKit Go.Proofs.Ytjmpanhacfjcaaa.PN Go.Proofs.Ytjmpanhacfjcaaa.V
open Go.Proofs.Ytjmpanhacfjcaaa.LA (S S_succ S_zero S_congr)
set_option linter.unusedVariables false
set_option linter.unusedSimpArgs false
theorem shape_u : Try.prog.underlying 96 = some (.array 2 3) := by kernel_rfl
theorem int_u : Try.prog.underlying 3 = some (.int .i64) := by kernel_rfl
theorem int_info : (Try.prog.info? 3).map (fun i => (i.zero, i.size, i.bytes)) = some (some (.int .i64 0), 1, 8) := by kernel_rfl
theorem run_eq_shape (w : World) (a b c d : Int) : (Op.equal 96 (.agg #[.int .i64 a, .int .i64 b]) (.agg #[.int .i64 c, .int .i64 d])).run Try.prog w = .ok (decide (a = c) && decide (b = d)) w := by
  obtain ⟨i0, hi, hz0, hz1, hz2⟩ := info_parts int_info
  have hint : ∀ (n : Nat) (x y : Int), (Op.equalIn (n + 1) 3 (.int .i64 x) (.int .i64 y)).run Try.prog w = .ok (decide (x = y)) w := by
    intro n x y
    simp [Op.equalIn, run_underlying int_u, beq_dec]
  have hp : ∀ (xs : Array Value) (o : Nat) (v : Value), xs[o]? = some v → (part 3 xs o).run Try.prog w = .ok v w := by
    intro xs o v h
    simp [part, isAgg, run_underlying int_u, h]
  have hp0 : ∀ x y : Int, (part 3 #[.int .i64 x, .int .i64 y] 0).run Try.prog w = .ok (.int .i64 x) w := fun x y => hp _ 0 _ rfl
  have hp1 : ∀ x y : Int, (part 3 #[.int .i64 x, .int .i64 y] 1).run Try.prog w = .ok (.int .i64 y) w := fun x y => hp _ 1 _ rfl
  unfold Op.equal
  rw [show Op.maxDepth = 9998 + 1 + 1 from rfl]
  unfold Op.equalIn
  rw [Sem.run_bind, run_underlying shape_u w]
  by_cases h1 : a = c <;> by_cases h2 : b = d <;>
  simp [sizeOf, typeInfo, hi, hz1, hint, hp0, hp1, h1, h2, Std.Legacy.Range.forIn_eq_forIn_range', List.range'_succ]
theorem pair_vals {S : Nat → Prop} {B : Nat} {β : Nat → Nat → Value} {w : World} {f : Nat → AV} {v : Value} {a b : Int} (h : RV S B β w (.ag 2 f) v) (h0 : f 0 = .i a) (h1 : f 1 = .i b) : v = .agg #[.int .i64 a, .int .i64 b] := by
  obtain ⟨cs, rfl, h2, h3⟩ := h
  obtain ⟨y0, e0, _, r0⟩ := h3 0 (by decide)
  obtain ⟨y1, e1, _, r1⟩ := h3 1 (by decide)
  rw [h0] at r0; rw [h1] at r1
  have r0 : y0 = .int .i64 a := r0
  have r1 : y1 = .int .i64 b := r1
  subst r0; subst r1
  obtain ⟨cs⟩ := cs
  match cs, h2 with
  | [x, y], _ => cases e0; cases e1; rfl
theorem ok_neq_shape {o : Oper} {s : St} {x y : Operand} {T' : TypeId} {f g : Nat → AV} {a b c d : Int} (ho : o.op = .binOp .neq 96 x y T') (hx : avo s x = some (.ag 2 f)) (hy : avo s y = some (.ag 2 g)) (h0 : f 0 = .i a) (h1 : f 1 = .i b) (h2 : g 0 = .i c) (h3 : g 1 = .i d) :
    LOK Try.prog o s ⟨some (.b (!(decide (a = c) && decide (b = d)))), [], []⟩ := by
  refine lok_val fun s2 hl W N β w ac hs => ⟨.bool (!(decide (a = c) && decide (b = d))), ?_, fun z hz => by cases hz; exact ⟨trivial, rfl⟩⟩
  have e1 := pair_vals (hs.opd (x := x) (by rw [hl.avo (by rw [ho]; simp [Op.operands])]; exact hx)).2 h0 h1
  have e2 := pair_vals (hs.opd (x := y) (by rw [hl.avo (by rw [ho]; simp [Op.operands])]; exact hy)).2 h2 h3
  have hg : (Try.prog.eqGuardType Try.prog.depth 96) = false := by kernel_rfl
  unfold execOp; rw [ho]; simp only []; rw [e1, e2]
  simp [eqGuard, binOp, program, Sem.run, hg, run_eq_shape]
theorem d_right {n K : Nat} {f : Nat → Rat} [hf : ∀ i, Wt (f i) K] (hK : K ≤ 1000000000000) (hn : n ≤ 1000000) : Has Try.prog 57 [.row false n (fun i => .q (f i))] (.b true) := by
  refine has_of Try.func57 (by kernel_rfl) rfl Try.ntmps57 Try.results57 rfl rfl rfl ?_
  refine run0 ?_
  refine awp_loop (fun m s => ∃ k, k ≤ n ∧ m = n - k ∧ s = stl [(0, .row false n (fun i => .q (f i))), (5, .row false n (fun i => .q (f i))), (6, .i (n : Int)), (7, .i (k : Int))] []) n _ (imp_id ?_ ?_) ⟨0, Nat.zero_le _, rfl, rfl⟩ ?_
  · exact eA
  · exact hA
  · rintro m s ⟨k, hk, rfl, rfl⟩
    refine run0 ?_
    refine awp_if rfl (fun h => ?_) (fun h => ?_)
    · have h : k < n := by omega
      repeat(first|refine run1 ?_|((with_reducible apply st_call);exact rfl;exact rfl;exact rfl;first|(exact c_right hK))|((with_reducible apply st_callg);exact rfl;exact rfl;(first|exact rfl|assumption);exact rfl;exact rfl;exact rfl;first|(exact c_right hK)))
      refine awp_no rfl rfl ?_
      refine run0 ?_
      refine q_loop ?_ (imp_id ?_ ?_) ⟨k + 1, ?_, rfl, rfl⟩
      · omega
      · exact eA
      · exact hA
      · omega
    · refine run0 ?_
      refine ⟨.inr rfl, _, Imp.refl _, ?_⟩
      exact .one (.tmp rfl)
end Go.Proofs.Ytjmpanhacfjcaaa.AM
/- Dense matrices: walks: square matrices, products with vectors. -/
namespace Go.Proofs.Ytjmpanhacfjcaaa.AM
open Go Go.RowKit Go.Proofs.Ytjmpanhacfjcaaa.PN Go.Proofs.Ytjmpanhacfjcaaa.V
open Go.Proofs.Ytjmpanhacfjcaaa.LA (S S_succ S_zero S_congr)
set_option linter.unusedVariables false
set_option linter.unusedSimpArgs false
theorem d_square {n K : Nat} {F : Nat → Nat → Rat} [hf : ∀ i j, Wt (F i j) K] (hK : K ≤ 1000000000000) (h0 : 0 < n) (hn : n ≤ 1000000) : Has Try.prog 46 [.mat false n (fun _ => n) (fun i j => .q (F i j))] (.b true) := by
  refine has_of Try.func46 (by kernel_rfl) rfl Try.ntmps46 Try.results46 rfl rfl rfl ?_
  refine run0 ?_
  refine awp_loop (fun m s => ∃ k, k ≤ n ∧ m = n - k ∧ s = stl [(0, .mat false n (fun _ => n) (fun i j => .q (F i j))), (3, .i (n : Int)), (8, .mat false n (fun _ => n) (fun i j => .q (F i j))), (9, .i (n : Int)), (10, .i (k : Int))] []) n _ (imp_id ?_ ?_) ⟨0, Nat.zero_le _, rfl, rfl⟩ ?_
  · exact eA
  · exact hA
  · rintro m s ⟨k, hk, rfl, rfl⟩
    refine run0 ?_
    refine awp_if rfl (fun h => ?_) (fun h => ?_)
    · have h : k < n := by omega
      refine run0 ?_
      with_reducible apply st_lok
      · exact ok_neq_shape (a := n) (b := n) (c := n) (d := n) rfl rfl rfl rfl rfl rfl rfl
      have e1 : (!(decide ((n : Int) = n) && decide ((n : Int) = n))) = false := by simp
      rw [e1]
      repeat(first|refine run1 ?_|((with_reducible apply st_call);exact rfl;exact rfl;exact rfl;first|(exact d_right hK hn))|((with_reducible apply st_callg);exact rfl;exact rfl;(first|exact rfl|assumption);exact rfl;exact rfl;exact rfl;first|(exact d_right hK hn)))
      refine awp_no rfl rfl ?_
      refine run0 ?_
      refine q_loop ?_ (imp_id ?_ ?_) ⟨k + 1, ?_, rfl, rfl⟩
      · omega
      · exact eA
      · exact hA
      · omega
    · refine run0 ?_
      refine ⟨.inr rfl, _, Imp.refl _, ?_⟩
      have e : (some (AV.b (decide (0 < (n : Int))))) = some (.b true) := by congr 2; simp; omega
      exact .one (.tmp e)
theorem d_apply {n K L : Nat} {F : Nat → Nat → Rat} {v : Nat → Rat} [hf : ∀ i j, Wt (F i j) K] [hv : ∀ i, Wt (v i) L] (hK : K ≤ 1000000000) (hL : L ≤ K) (h0 : 0 < n) (hn : n ≤ 8) : Has Try.prog 38 [.mat false n (fun _ => n) (fun i j => .q (F i j)), .row false n (fun i => .q (v i))] (.row true n (fun i => .q (S n fun j => F i j * v j))) := by
  have hv' : ∀ i, Wt (v i) K := fun i => (hv i).mono hL
  refine has_of Try.func38 (by kernel_rfl) rfl Try.ntmps38 Try.results38 rfl rfl rfl ?_
  repeat(first|refine run1 ?_|((with_reducible apply st_call);exact rfl;exact rfl;exact rfl;first|(exact d_square (by omega) h0 (by omega))|(exact d_right (hf := hv) (by omega) (by omega)))|((with_reducible apply st_callg);exact rfl;exact rfl;(first|exact rfl|assumption);exact rfl;exact rfl;exact rfl;first|(exact d_square (by omega) h0 (by omega))|(exact d_right (hf := hv) (by omega) (by omega))))
  rw [show decide ((n : Int) ≠ n) = false by simp]
  repeat(first|refine run1 ?_|((with_reducible apply st_call);exact rfl;exact rfl;exact rfl;first|(exact d_square (by omega) h0 (by omega))|(exact d_right (hf := hv) (by omega) (by omega)))|((with_reducible apply st_callg);exact rfl;exact rfl;(first|exact rfl|assumption);exact rfl;exact rfl;exact rfl;first|(exact d_square (by omega) h0 (by omega))|(exact d_right (hf := hv) (by omega) (by omega))))
  refine awp_no rfl rfl ?_
  refine run0 ?_
  refine awp_loop (fun m s => ∃ k, k ≤ n ∧ m = n - k ∧ s = stl [(0, .mat false n (fun _ => n) (fun i j => .q (F i j))), (1, .row false n (fun i => .q (v i))), (5, .own 25 0), (26, .mat false n (fun _ => n) (fun i j => .q (F i j))), (27, .i (n : Int)), (28, .i (k : Int))] [(25, (1, fun _ => .rats n (grow (fun i => .q (S n fun j => F i j * v j)) ra0 k)))]) n _ (imp_id ?_ ?_) ⟨0, Nat.zero_le _, rfl, rfl⟩ ?_
  · exact eA
  · exact hA
  · rintro m s ⟨k, hk, rfl, rfl⟩
    refine run0 ?_
    refine awp_if rfl (fun h => ?_) (fun h => ?_)
    · have h : k < n := by omega
      repeat(first|refine run1 ?_|((with_reducible apply st_call);exact rfl;exact rfl;exact rfl;first|(exact d_dot hn hK))|((with_reducible apply st_callg);exact rfl;exact rfl;(first|exact rfl|assumption);exact rfl;exact rfl;exact rfl;first|(exact d_dot hn hK)))
      refine q_loop ?_ (imp_id ?_ ?_) ⟨k + 1, ?_, rfl, rfl⟩
      · omega
      · exact eA
      · refine allh rfl (by decide) (blen rfl fun i hi => grow_step _ _ k i) True.intro True.intro
      · omega
    · obtain rfl : k = n := by omega
      refine run0 ?_
      refine ⟨.inr rfl, _, imp_rowv 4 (fun i => .q (S k fun j => F i j * v j)) rfl rfl rfl (fun i hi => grow_full _ _ hi), ?_⟩
      exact .one (.tmp rfl)
end Go.Proofs.Ytjmpanhacfjcaaa.AM
/- Dense matrices: walks: made, Turn, Mul. -/
namespace Go.Proofs.Ytjmpanhacfjcaaa.AM
open Go Go.RowKit Go.Proofs.Ytjmpanhacfjcaaa.PN Go.Proofs.Ytjmpanhacfjcaaa.V
open Go.Proofs.Ytjmpanhacfjcaaa.LA (S S_succ S_zero S_congr)
set_option linter.unusedVariables false
set_option linter.unusedSimpArgs false
theorem d_made {n m : Nat} {g : FuncId} {c : Nat → AV} {F : Nat → Nat → Rat} (hn : n ≤ 8) (hc : (AV.clo g m c).closed = true) (H : ∀ i j, i < n → j < n → Has Try.prog g (([AV.i i, AV.i j] ++ (List.range m).map c).map AV.old) (.q (F i j))) : Has Try.prog 68 [.i n, .clo g m c] (.mat true n (fun _ => n) (fun i j => .q (F i j))) := by
  refine has_of Try.func68 (by kernel_rfl) rfl Try.ntmps68 Try.results68 (by simp only [List.all, hc]; rfl) rfl rfl ?_
  have hco : ∀ U, (AV.clo g m c).ok U := fun U => ok_none (closed_ok hc)
  refine run0 ?_
  refine awp_loop (fun m' s => ∃ k, k ≤ n ∧ m' = n - k ∧ s = stl [(0, .i n), (1, .clo g m c), (5, .own 9 0), (10, .i n), (11, .i (k : Int))] [(9, (1, fun _ => .ones WT n (grow (fun i => .row true n (fun j => .q (F i j))) (.v (.slice none 0 0)) k)))]) n _ (imp_id ?_ ?_) ⟨0, Nat.zero_le _, rfl, rfl⟩ ?_
  · refine alle rfl (Le.id rfl) True.intro (alle rfl (Le.id rfl) (hco _) ?_)
    exact eA
  · refine allh rfl (by decide) (bleo rfl fun i hi => Le.id rfl) ?_ True.intro
    intro i hi; exact True.intro
  · rintro m' s ⟨k, hk, rfl, rfl⟩
    refine run0 ?_
    refine awp_if rfl (fun h => ?_) (fun h => ?_)
    · have h : k < n := by omega
      refine run0 ?_
      refine awp_loop (fun m' s => ∃ j, j ≤ n ∧ m' = n - j ∧ s = stl [(0, .i n), (1, .clo g m c), (5, .own 9 0), (6, .i (k : Int)), (10, .i n), (11, .i (k : Int)), (19, .i n), (20, .i (j : Int))] [(9, (1, fun _ => .ones WT n (updN (grow (fun i => .row true n (fun j => .q (F i j))) (.v (.slice none 0 0)) k) k (.own 17 0)))), (17, (1, fun _ => .rats n (grow (fun j => .q (F k j)) ra0 j)))]) n _ (imp_id ?_ ?_) ⟨0, Nat.zero_le _, rfl, rfl⟩ ?_
      · refine alle rfl (Le.id rfl) True.intro (alle rfl (Le.id rfl) (hco _) ?_)
        exact eA
      · refine allh rfl (by decide) (bleo rfl fun i hi => Le.id rfl) ?_ (allh rfl (by decide) (blen rfl fun i hi => rfl) True.intro True.intro)
        intro i hi
        by_cases e : i = k
        · subst e; rw [updN_same]; rfl
        · rw [updN_ne _ _ e]; exact grow_ok (v := fun i => AV.row true n (fun j => RA.q (F i j))) (z := .v (.slice none 0 0)) (fun _ => True.intro) True.intro i
      · rintro m' s ⟨j, hj, rfl, rfl⟩
        refine run0 ?_
        refine awp_if rfl (fun h' => ?_) (fun h' => ?_)
        · have h' : j < n := by omega
          repeat(first|refine run1 ?_|((with_reducible apply st_call);exact rfl;exact rfl;exact rfl;first|(exact H k j h h'))|((with_reducible apply st_callg);exact rfl;exact rfl;(first|exact rfl|assumption);exact rfl;exact rfl;exact rfl;first|(exact H k j h h')))
          rw [show updN (grow (fun i => AV.row true n (fun j => .q (F i j))) (.v (.slice none 0 0)) k) k (.own 17 0) ((k : Int)).toNat = .own 17 0 from updN_same _ _ _]
          repeat(first|refine run1 ?_|((with_reducible apply st_call);exact rfl;exact rfl;exact rfl;first|(exact H k j h h'))|((with_reducible apply st_callg);exact rfl;exact rfl;(first|exact rfl|assumption);exact rfl;exact rfl;exact rfl;first|(exact H k j h h')))
          refine q_loop ?_ (imp_id ?_ ?_) ⟨j + 1, ?_, rfl, rfl⟩
          · omega
          · refine alle rfl (Le.id rfl) True.intro (alle rfl (Le.id rfl) (hco _) ?_)
            exact eA
          · refine allh rfl (by decide) (bleo rfl fun i hi => Le.id rfl) ?_ (allh rfl (by decide) (blen rfl fun i hi => grow_step _ _ j i) True.intro True.intro)
            intro i hi
            by_cases e : i = k
            · subst e; rw [updN_same]; rfl
            · rw [updN_ne _ _ e]; exact grow_ok (v := fun i => AV.row true n (fun j => RA.q (F i j))) (z := .v (.slice none 0 0)) (fun _ => True.intro) True.intro i
          · omega
        · obtain rfl : j = n := by omega
          refine run0 ?_
          refine q_loop ?_ ((imp_pub 9 k rfl rfl h (updN_same _ _ _) rfl rfl (by decide)).trans (imp_id ?_ ?_)) ⟨k + 1, ?_, rfl, rfl⟩
          · omega
          · refine alle rfl (Le.id rfl) True.intro (alle rfl (Le.id rfl) (hco _) ?_)
            exact eA
          · refine allh rfl (by decide) (bleo rfl fun i hi => ?_) ?_ True.intro
            · by_cases e : i = k
              · subst e
                rw [updN_same, grow_full _ _ (Nat.lt_succ_self i)]
                exact Le.row rfl (fun j hj => grow_full _ _ hj) fun h => h
              · rw [updN_ne _ _ e, updN_ne _ _ e, ← grow_step, updN_ne _ _ e]
                exact Le.id rfl
            · intro i hi; exact grow_ok (v := fun i => AV.row true j (fun j => RA.q (F i j))) (z := .v (.slice none 0 0)) (fun _ => True.intro) True.intro i
          · omega
    · obtain rfl : k = n := by omega
      refine run0 ?_
      refine ⟨.inr rfl, _, imp_mat 4 (fun _ => k) (fun i j => .q (F i j)) rfl rfl rfl (fun i hi => grow_full _ _ hi), ?_⟩
      exact .one (.tmp rfl)
theorem d_turn {n K : Nat} {F : Nat → Nat → Rat} [hf : ∀ i j, Wt (F i j) K] (hK : K ≤ 1000000000) (h0 : 0 < n) (hn : n ≤ 8) : Has Try.prog 33 [.mat false n (fun _ => n) (fun i j => .q (F i j))] (.mat true n (fun _ => n) (fun i j => .q (F j i))) := by
  have H : ∀ i j, i < n → j < n → Has Try.prog 71 [.i i, .i j, .cp (.mat false n (fun _ => n) (fun i j => .q (F i j)))] (.q (F j i)) := by
    intro i j hi hj
    rw [← Rat.add_zero (F j i)]
    refine has_of Try.func71 (by kernel_rfl) rfl Try.ntmps71 Try.results71 rfl rfl rfl ?_
    repeat(first|refine run1 ?_|((with_reducible apply st_call);exact rfl;exact rfl;exact rfl;first|(exact d_zero)|(exact c_add ⟨by omega, by omega⟩))|((with_reducible apply st_callg);exact rfl;exact rfl;(first|exact rfl|assumption);exact rfl;exact rfl;exact rfl;first|(exact d_zero)|(exact c_add ⟨by omega, by omega⟩)))
    refine ⟨.inr rfl, _, Imp.refl _, ?_⟩
    exact .one (.rat rfl rfl (by decide) rfl (by decide) rfl)
  refine has_of Try.func33 (by kernel_rfl) rfl Try.ntmps33 Try.results33 rfl rfl rfl ?_
  repeat(first|refine run1 ?_|((with_reducible apply st_call);exact rfl;exact rfl;exact rfl;first|(exact d_square (by omega) h0 (by omega)))|((with_reducible apply st_callg);exact rfl;exact rfl;(first|exact rfl|assumption);exact rfl;exact rfl;exact rfl;first|(exact d_square (by omega) h0 (by omega))))
  refine awp_no rfl rfl ?_
  refine awp_imp (imp_cell 1 rfl rfl rfl rfl) ?_
  repeat(first|refine run1 ?_|((with_reducible apply st_call);exact rfl;exact rfl;exact rfl;first|(exact d_made (F := fun i j => F j i) hn rfl H))|((with_reducible apply st_callg);exact rfl;exact rfl;(first|exact rfl|assumption);exact rfl;exact rfl;exact rfl;first|(exact d_made (F := fun i j => F j i) hn rfl H)))
  refine ⟨.inr rfl, _, Imp.refl _, ?_⟩
  exact .one (.tmp rfl)
theorem d_mul {n K L : Nat} {F G : Nat → Nat → Rat} [hf : ∀ i j, Wt (F i j) K] [hg : ∀ i j, Wt (G i j) L] (hK : K ≤ 500000000) (hL : L ≤ 500000000) (h0 : 0 < n) (hn : n ≤ 8) : Has Try.prog 32 [.mat false n (fun _ => n) (fun i j => .q (F i j)), .mat false n (fun _ => n) (fun i j => .q (G i j))] (.mat true n (fun _ => n) (fun i j => .q (S n fun k => F i k * G k j))) := by
  have H : ∀ i j, i < n → j < n → Has Try.prog 69 [.i i, .i j, .cp (.mat false n (fun _ => n) (fun i j => .q (F i j))), .cp (.mat false n (fun _ => n) (fun i j => .q (G j i)))] (.q (S n fun k => F i k * G k j)) := by
    intro i j hi hj
    have f1 : ∀ k, Wt (F i k) (K + L) := fun k => (hf i k).mono (by omega)
    have f2 : ∀ k, Wt (G k j) (K + L) := fun k => (hg k j).mono (by omega)
    refine has_of Try.func69 (by kernel_rfl) rfl Try.ntmps69 Try.results69 rfl rfl rfl ?_
    repeat(first|refine run1 ?_|((with_reducible apply st_call);exact rfl;exact rfl;exact rfl;first|(exact d_dot (hf := f1) (hg := f2) hn (by omega)))|((with_reducible apply st_callg);exact rfl;exact rfl;(first|exact rfl|assumption);exact rfl;exact rfl;exact rfl;first|(exact d_dot (hf := f1) (hg := f2) hn (by omega))))
    refine ⟨.inr rfl, _, Imp.refl _, ?_⟩
    exact .one (.rat rfl rfl (by decide) rfl (by decide) rfl)
  refine has_of Try.func32 (by kernel_rfl) rfl Try.ntmps32 Try.results32 rfl rfl rfl ?_
  repeat(first|refine run1 ?_|((with_reducible apply st_call);exact rfl;exact rfl;exact rfl;first|(exact d_square (by omega) h0 (by omega)))|((with_reducible apply st_callg);exact rfl;exact rfl;(first|exact rfl|assumption);exact rfl;exact rfl;exact rfl;first|(exact d_square (by omega) h0 (by omega))))
  refine awp_no rfl (by simp) ?_
  refine awp_imp (imp_cell 2 rfl rfl rfl rfl) ?_
  refine run3 ?_
  repeat(first|refine run4 ?_|((with_reducible apply st_call);exact rfl;exact rfl;exact rfl;first|(exact d_turn (by omega) h0 hn))|((with_reducible apply st_callg);exact rfl;exact rfl;(first|exact rfl|assumption);exact rfl;exact rfl;exact rfl;first|(exact d_turn (by omega) h0 hn)))
  refine awp_imp (imp_cell 5 rfl rfl rfl rfl) ?_
  repeat(first|refine run1 ?_|((with_reducible apply st_call);exact rfl;exact rfl;exact rfl;first|(exact d_made hn rfl H))|((with_reducible apply st_callg);exact rfl;exact rfl;(first|exact rfl|assumption);exact rfl;exact rfl;exact rfl;first|(exact d_made hn rfl H)))
  refine ⟨.inr rfl, _, Imp.refl _, ?_⟩
  exact .one (.tmp rfl)
end Go.Proofs.Ytjmpanhacfjcaaa.AM
/- Dense matrices: walks: the steps on rows. -/
namespace Go.Proofs.Ytjmpanhacfjcaaa.AM
open Go Go.RowKit Go.Proofs.Ytjmpanhacfjcaaa.PN Go.Proofs.Ytjmpanhacfjcaaa.V
open Go.Proofs.Ytjmpanhacfjcaaa.LA (S S_succ S_zero S_congr)
set_option linter.unusedVariables false
set_option linter.unusedSimpArgs false
set_option maxRecDepth 4000
set_option maxHeartbeats 2000000
theorem d_nought {p : Rat} : Has Try.prog 95 [.q p] (.b (decide (p = 0))) := by
  refine has_of Try.func95 (by kernel_rfl) rfl Try.ntmps95 Try.results95 rfl rfl rfl ?_
  refine run0 ?_
  refine ⟨.inr rfl, _, Imp.refl _, ?_⟩
  have e : decide ((size (nm p) : Int) = 0) = decide (p = 0) := by simp [size_eq_zero, nm_eq_zero]
  refine .one (.tmp ?_)
  exact congrArg (fun b => some (AV.b b)) e
theorem d_nothing {i : Int} : Has Try.prog 54 [.i i] (.row false 0 fun _ => ra0) := by
  refine has_of Try.func54 (by kernel_rfl) rfl Try.ntmps54 Try.results54 rfl rfl rfl ?_
  refine run0 ?_
  refine ⟨.inr rfl, _, imp_slot (y := .row false 0 fun _ => ra0) 2 rfl True.intro Le.nilrow, ?_⟩
  exact .one (.tmp rfl)
/-- The variable that bears rows, and a determinant. -/
def wk (d : Rat) : Nat → AV := fun i => match i with
  | 0 => .own 61 0
  | 1 => .rs (.q d)
  | 2 => .rn (.q d)
  | _ => .rd (.q d)
abbrev WH (n m : Nat) (d : Rat) (π : Nat → Nat) (A : Nat → Nat → Rat) : List (Nat × Fam) :=
  [(60, (1, fun _ => .ones 81 4 (wk d))), (61, (1, fun _ => .ones WT n (fun i => .own 62 (π i)))), (62, (n, fun r => .rats m (fun j => .q (A r j))))]
theorem wk_upd {d d' : Rat} : ∀ i, i < 4 → upd3 (wk d) 1 (.q d') i = wk d' i := fun i hi => by
  match i, hi with
  | 0, _ => rfl
  | 1, _ => rfl
  | 2, _ => rfl
  | 3, _ => rfl
theorem wk_ok {U : Nat → Bool} (hU : U 61 = true) (d : Rat) : ∀ i, (wk d i).ok U := fun i => by
  match i with
  | 0 => exact hU
  | 1 => trivial
  | 2 => trivial
  | _ + 3 => trivial
theorem imp_WH {s : St} {e : List (Nat × AV)} {n m : Nat} {d : Rat} {π : Nat → Nat} {A : Nat → Nat → Rat} {F0 F1 F2 : Nat → Blk} {f0 f1 : Nat → AV} (h0 : s.heap 60 = some (1, F0)) (e0 : F0 0 = .ones 81 4 f0) (g0 : ∀ i, i < 4 → f0 i = wk d i)
    (h1 : s.heap 61 = some (1, F1)) (e1 : F1 0 = .ones WT n f1) (g1 : ∀ i, i < n → f1 i = .own 62 (π i)) (h2 : s.heap 62 = some (n, F2)) (g2 : ∀ r, r < n → BLe idR (F2 r) (.rats m fun j => .q (A r j)))
    (he : AllE s idR (fun g => memN g [60, 61, 62]) e) : Imp s (stl e (WH n m d π A)) := by
  refine imp_id (h := WH n m d π A) he ⟨fun r hr => ?_, fun r hr => ?_, fun r hr => ?_, trivial⟩ (by cases s.used 60 <;> rfl)
  · obtain rfl : r = 0 := by omega
    refine ⟨1, F0, h0, by decide, ?_, fun i hi => wk_ok rfl d i⟩
    show BLe idR (F0 0) _
    rw [e0]; exact bleo rfl fun i hi => Le.id (g0 i hi)
  · obtain rfl : r = 0 := by omega
    refine ⟨1, F1, h1, by decide, ?_, fun i hi => rfl⟩
    show BLe idR (F1 0) _
    rw [e1]; exact bleo rfl fun i hi => Le.id (g1 i hi)
  · exact ⟨n, F2, h2, hr, g2 r hr, trivial⟩
theorem d_pivot_no {n m at' col : Nat} {d : Rat} {π : Nat → Nat} {A : Nat → Nat → Rat} (hn : n ≤ 8) (hm : m ≤ 9) (hc : col < m) (hπ : ∀ i, i < n → π i < n) (ha : at' ≤ n) (h0 : ∀ i, at' ≤ i → i < n → A (π i) col = 0) :
    HasH Try.prog 81 (WH n m d π A) [.ptr 60 0 0, .i at', .i col] (.b false) (WH n m d π A) := by
  refine hasH_of Try.func81 (by kernel_rfl) rfl Try.ntmps81 Try.results81 True.intro rfl rfl ?_
  refine run0 ?_
  refine awp_loop (fun m' s => ∃ k, at' ≤ k ∧ k ≤ n ∧ m' = n - k ∧ s = stl [(0, .ptr 60 0 0), (1, .i at'), (2, .i col), (7, .i (k : Int))] (WH n m d π A)) (n - at') _ (imp_WH rfl rfl (fun _ _ => rfl) rfl rfl (fun _ _ => rfl) rfl (fun r hr => blen rfl fun _ _ => rfl) ?_) ⟨at', Nat.le_refl _, ha, rfl, rfl⟩ ?_
  · exact eA
  · rintro m' s ⟨k, hk1, hk, rfl, rfl⟩
    refine run0 ?_
    refine awp_if rfl (fun h => ?_) (fun h => ?_)
    · have h' : (k : Int) < n := h
      have h : k < n := by omega
      have hp := hπ k h
      repeat(first|refine run1 ?_|((with_reducible apply st_call);exact rfl;exact rfl;exact rfl;first|(exact d_nought))|((with_reducible apply st_callg);exact rfl;exact rfl;(first|exact rfl|assumption);exact rfl;exact rfl;exact rfl;first|(exact d_nought)))
      refine awp_yes rfl ?_ ?_
      · exact decide_eq_true (h0 k hk1 h)
      refine run0 ?_
      refine q_loop ?_ (imp_WH rfl rfl (fun _ _ => rfl) rfl rfl (fun _ _ => rfl) rfl (fun r hr => blen rfl fun _ _ => rfl) ?_) ⟨k + 1, ?_, ?_, rfl, rfl⟩
      · omega
      · exact eA
      · omega
      · omega
    · refine run0 ?_
      refine ⟨.inr rfl, [(6, .b false)], imp_WH rfl rfl (fun _ _ => rfl) rfl rfl (fun _ _ => rfl) rfl (fun r hr => blen rfl fun _ _ => rfl) ?_, .one (.tmp rfl)⟩
      exact eA
def swp (π : Nat → Nat) (i j : Nat) : Nat → Nat := updN (updN π i (π j)) j (π i)
theorem swp_own {π : Nat → Nat} {i j g : Nat} (k : Nat) : updN (updN (fun i => AV.own g (π i)) i (.own g (π j))) j (.own g (π i)) k = .own g (swp π i j k) := by
  unfold swp updN
  by_cases h1 : k = j
  · rw [if_pos h1, if_pos h1]
  · rw [if_neg h1, if_neg h1]
    by_cases h2 : k = i
    · rw [if_pos h2, if_pos h2]
    · rw [if_neg h2, if_neg h2]
theorem swp_self (π : Nat → Nat) (i k : Nat) : swp π i i k = π k := by
  unfold swp updN
  by_cases h : k = i
  · rw [if_pos h, h]
  · rw [if_neg h, if_neg h]
theorem swp_at (π : Nat → Nat) (i j : Nat) : swp π i j j = π i := updN_same _ _ _
def det1 (d : Rat) (i at' : Nat) : Rat := if i = at' then d else -d
theorem d_pivot_yes {n m at' col K L i : Nat} {d : Rat} {π : Nat → Nat} {A : Nat → Nat → Rat} [hA : ∀ i j, Wt (A i j) K] [hd : Wt d L] (hK : K ≤ 1000000000) (hL : L ≤ 1000000000) (hn : n ≤ 8) (hm : m ≤ 9) (hc : col < m) (hπ : ∀ i, i < n → π i < n) (ha : at' ≤ i) (hi : i < n) (h0 : ∀ j, at' ≤ j → j < i → A (π j) col = 0) (h1 : A (π i) col ≠ 0) :
    HasH Try.prog 81 (WH n m d π A) [.ptr 60 0 0, .i at', .i col] (.b true) (WH n m (det1 d i at' * A (π i) col) (swp π i at') A) := by
  refine hasH_of Try.func81 (by kernel_rfl) rfl Try.ntmps81 Try.results81 True.intro rfl rfl ?_
  refine run0 ?_
  refine awp_loop (fun m' s => ∃ k, at' ≤ k ∧ k ≤ i ∧ m' = n - k ∧ s = stl [(0, .ptr 60 0 0), (1, .i at'), (2, .i col), (7, .i (k : Int))] (WH n m d π A)) (n - at') _ (imp_WH rfl rfl (fun _ _ => rfl) rfl rfl (fun _ _ => rfl) rfl (fun r hr => blen rfl fun _ _ => rfl) ?_) ⟨at', Nat.le_refl _, ha, rfl, rfl⟩ ?_
  · exact eA
  · rintro m' s ⟨k, hk1, hk, rfl, rfl⟩
    refine run0 ?_
    refine awp_if rfl (fun h => ?_) (fun h => ?_)
    · have hp := hπ k (by omega)
      repeat(first|refine run1 ?_|((with_reducible apply st_call);exact rfl;exact rfl;exact rfl;first|(exact d_nought))|((with_reducible apply st_callg);exact rfl;exact rfl;(first|exact rfl|assumption);exact rfl;exact rfl;exact rfl;first|(exact d_nought)))
      by_cases hki : k = i
      · subst hki
        refine awp_no rfl ?_ ?_
        · exact decide_eq_false h1
        refine run0 ?_
        have hpa := hπ at' (by omega)
        have hps : swp π k at' at' < n := by rw [swp_at]; exact hp
        refine awp_if rfl (fun h => ?_) (fun h => ?_)
        · have e1 : det1 d k at' = -d := if_neg (by omega)
          rw [e1, ← swp_at π k at']
          refine run2 ?_
          refine run3 ?_
          repeat(first|refine run4 ?_|((with_reducible apply st_call);exact rfl;exact rfl;exact rfl;first|(exact c_neg (by omega)))|((with_reducible apply st_callg);exact rfl;exact rfl;(first|exact rfl|assumption);exact rfl;exact rfl;exact rfl;first|(exact c_neg (by omega))))
          refine awp_imp (imp_WH (n := n) (m := m) (d := -d) (π := swp π k at') (A := A) (e := [(0, .ptr 60 0 0), (1, .i at'), (2, .i col)]) rfl rfl wk_upd rfl rfl (fun _ _ => swp_own _) rfl (fun r hr => blen rfl fun _ _ => rfl) ?_) ?_
          · exact eA
          repeat(first|refine run1 ?_|((with_reducible apply st_call);exact rfl;exact rfl;exact rfl;first|(exact c_mul ⟨by omega, by omega⟩))|((with_reducible apply st_callg);exact rfl;exact rfl;(first|exact rfl|assumption);exact rfl;exact rfl;exact rfl;first|(exact c_mul ⟨by omega, by omega⟩)))
          refine ⟨.inr rfl, [(6, .b true)], imp_WH rfl rfl wk_upd rfl rfl (fun _ _ => rfl) rfl (fun r hr => blen rfl fun _ _ => rfl) ?_, .one (.tmp rfl)⟩
          exact eA
        · obtain rfl : k = at' := by omega
          have e1 : det1 d k k = d := if_pos rfl
          rw [e1]
          repeat(first|refine run1 ?_|((with_reducible apply st_call);exact rfl;exact rfl;exact rfl;first|(exact c_mul ⟨by omega, by omega⟩))|((with_reducible apply st_callg);exact rfl;exact rfl;(first|exact rfl|assumption);exact rfl;exact rfl;exact rfl;first|(exact c_mul ⟨by omega, by omega⟩)))
          refine ⟨.inr rfl, [(6, .b true)], imp_WH rfl rfl wk_upd rfl rfl (fun _ _ => congrArg _ (swp_self _ _ _).symm) rfl (fun r hr => blen rfl fun _ _ => rfl) ?_, .one (.tmp rfl)⟩
          exact eA
      · have hlt : k < i := by omega
        refine awp_yes rfl ?_ ?_
        · exact decide_eq_true (h0 k hk1 hlt)
        refine run0 ?_
        refine q_loop ?_ (imp_WH rfl rfl (fun _ _ => rfl) rfl rfl (fun _ _ => rfl) rfl (fun r hr => blen rfl fun _ _ => rfl) ?_) ⟨k + 1, ?_, ?_, rfl, rfl⟩
        · omega
        · exact eA
        · omega
        · omega
    · exact absurd (show (k : Int) < n by omega) h
end Go.Proofs.Ytjmpanhacfjcaaa.AM

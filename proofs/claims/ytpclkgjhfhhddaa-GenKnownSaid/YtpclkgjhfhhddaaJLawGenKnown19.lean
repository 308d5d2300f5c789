/- Joined texts, 19: LawVb. -/
import Derived.Test.YtpclkgjhfhhddaaJLawGenKnown18
set_option linter.unusedVariables false
set_option linter.unusedSimpArgs false
/- Of each kind such a system has just this matrix (printed by gen/gen_lawvb.py). -/
namespace Go.Proofs.Ytpclkgjhfhhddaa.AM
open Go Go.RowKit Go.Proofs.Ytpclkgjhfhhddaa.PN Go.Proofs.Ytpclkgjhfhhddaa.V
set_option linter.unusedVariables false
set_option linter.unusedSimpArgs false
set_option maxRecDepth 8000
set_option maxHeartbeats 8000000
theorem hr_text4 : Has Try.prog 82 [.nat 4] (.v (.string ⟨#[52]⟩)) := hr_text_of (d := 0) (by decide) r_text4
theorem hr_text6 : Has Try.prog 82 [.nat 6] (.v (.string ⟨#[54]⟩)) := hr_text_of (d := 0) (by decide) r_text6
theorem hr_text11 : Has Try.prog 82 [.nat 11] (.v (.string ⟨#[49, 49]⟩)) := by
  refine ⟨by kernel_rfl, trivial, fun w S β vs hv => ?_⟩
  obtain ⟨v, rfl, h1⟩ := rvs1 hv
  obtain ⟨A, c, rfl, hc, hat⟩ := Dg.at (h1 : Dg w _ v 11 (size 11))
  rw [show size 11 = 1 by decide] at hc hat ⊢
  refine (r_text11 A c hc hat).mono ?_
  rintro e w' ⟨rfl, h2⟩
  exact ⟨_, rfl, h2, rfl⟩
theorem hs_text_neg {p : Rat} {a b : ByteArray} (h1 : Has Try.prog 82 [.nat (nm p)] (.v (.string a))) (hp : ng p = true) (hd : p.den = 1) (ha : a.size ≤ 1000) (hb : (⟨#[45]⟩ : ByteArray) ++ a = b) : Has Try.prog 58 [.q p] (.v (.string b)) := by
  have c4 : Has Try.prog 61 [.nat p.den, .nat 1] (.i 0) := by rw [hd]; exact hr_cmp (a := 1) (b := 1) (by decide) (by decide)
  subst hb
  have hs : (⟨#[45]⟩ : ByteArray).size = 1 := rfl
  have hsz : (⟨#[45]⟩ : ByteArray).size + a.size ≤ 1000000 := by omega
  refine has_of Try.func58 (by kernel_rfl) rfl Try.ntmps58 Try.results58 rfl rfl rfl ?_
  repeat(first|refine run1p ?_|((with_reducible apply st_call);exact rfl;exact rfl;exact rfl;first|(exact h1))|((with_reducible apply st_callg);exact rfl;exact rfl;(first|exact rfl|assumption);exact rfl;exact rfl;exact rfl;first|(exact h1)))
  refine awp_yes rfl hp ?_
  repeat(first|refine run1p ?_|((with_reducible apply st_call);exact rfl;exact rfl;exact rfl;first|(exact h2_one)|(exact c4))|((with_reducible apply st_callg);exact rfl;exact rfl;(first|exact rfl|assumption);exact rfl;exact rfl;exact rfl;first|(exact h2_one)|(exact c4)))
  refine awp_no rfl rfl ?_
  refine run0p ?_
  exact ⟨.inr rfl, _, Imp.refl _, .one (.tmp rfl)⟩
/-- A row's text. -/
def txtR (T : Nat → ByteArray) : Nat → ByteArray → ByteArray
  | 0, s => s
  | k + 1, s => txtR T k s ++ T k ++ ⟨#[32]⟩
def txtM (T : Nat → Nat → ByteArray) (m : Nat) : Nat → ByteArray
  | 0 => ⟨#[]⟩
  | k + 1 => txtR (T k) m (txtM T m k) ++ ⟨#[59]⟩
theorem txtR_size {T : Nat → ByteArray} (h : ∀ j, (T j).size ≤ 10) (s : ByteArray) : ∀ k, (txtR T k s).size ≤ s.size + 11 * k
  | 0 => by show s.size ≤ _; omega
  | k + 1 => by
    have h1 := txtR_size h s k
    have h2 := h k
    show (txtR T k s ++ T k ++ ⟨#[32]⟩).size ≤ _
    rw [ByteArray.size_append, ByteArray.size_append]
    have : (⟨#[32]⟩ : ByteArray).size = 1 := rfl
    omega
theorem txtM_size {T : Nat → Nat → ByteArray} (h : ∀ i j, (T i j).size ≤ 10) {m : Nat} (hm : m ≤ 10) : ∀ k, (txtM T m k).size ≤ 111 * k
  | 0 => by
    have h0 : (⟨#[]⟩ : ByteArray).size = 0 := rfl
    show (⟨#[]⟩ : ByteArray).size ≤ _
    omega
  | k + 1 => by
    have h1 := txtM_size h hm k
    have h2 := txtR_size (h k) (txtM T m k) m
    show (txtR (T k) m (txtM T m k) ++ ⟨#[59]⟩).size ≤ _
    rw [ByteArray.size_append]
    have : (⟨#[59]⟩ : ByteArray).size = 1 := rfl
    omega
theorem k_told {n : Nat} {F : Nat → Nat → Rat} {T : Nat → Nat → ByteArray} (hn : n ≤ 10) (hT : ∀ i j, (T i j).size ≤ 10) (h : ∀ i, i < n → ∀ j, j < n → Has Try.prog 58 [.q (F i j)] (.v (.string (T i j)))) : Has Try.prog 28 [.mat false n (fun _ => n) fun i j => .q (F i j)] (.v (.string (txtM T n n))) := by
  refine has_of Try.func28 (by kernel_rfl) rfl Try.ntmps28 Try.results28 rfl rfl rfl ?_
  refine run0p ?_
  refine awp_loop (fun m' s => ∃ i, i ≤ n ∧ m' = n - i ∧ s = stl [(0, .mat false n (fun _ => n) fun i j => .q (F i j)), (3, .v (.string (txtM T n i))), (4, .i (i : Int))] []) n _ (imp_id ?_ ?_) ⟨0, Nat.zero_le _, rfl, rfl⟩ ?_
  · exact eA
  · exact hA
  rintro m' s ⟨i, hi, rfl, rfl⟩
  refine run0p ?_
  refine awp_if rfl (fun h1 => ?_) (fun h1 => ?_)
  · have h1 : i < n := by omega
    have q1 := txtM_size hT hn i
    refine run0p ?_
    refine awp_loop (fun m' s => ∃ j, j ≤ n ∧ m' = n - j ∧ s = stl [(0, .mat false n (fun _ => n) fun i j => .q (F i j)), (3, .v (.string (txtR (T i) j (txtM T n i)))), (4, .i (i : Int)), (5, .i (j : Int))] []) n _ (imp_id ?_ ?_) ⟨0, Nat.zero_le _, rfl, rfl⟩ ?_
    · exact eA
    · exact hA
    rintro m' s ⟨j, hj, rfl, rfl⟩
    have f1 : ((i : Nat) : Int) < n := by omega
    have q2 := txtR_size (hT i) (txtM T n i) j
    refine run0p ?_
    refine awp_if rfl (fun h2 => ?_) (fun h2 => ?_)
    · have h2' : (j : Int) < (n : Int) := h2
      have h2 : j < n := by omega
      have f2 : ((j : Nat) : Int) < n := by omega
      have q3 := hT i j
      have q4 : (⟨#[32]⟩ : ByteArray).size = 1 := rfl
      have q5 : (txtR (T i) j (txtM T n i)).size + (T i j).size ≤ 1000000 := by omega
      have q6 : (txtR (T i) j (txtM T n i) ++ T i j).size + (⟨#[32]⟩ : ByteArray).size ≤ 1000000 := by rw [ByteArray.size_append]; omega
      repeat(first|refine run1p ?_|((with_reducible apply st_call);exact rfl;exact rfl;exact rfl;first|(exact h i h1 j h2))|((with_reducible apply st_callg);exact rfl;exact rfl;(first|exact rfl|assumption);exact rfl;exact rfl;exact rfl;first|(exact h i h1 j h2)))
      refine q_loop ?_ (imp_id ?_ ?_) ⟨j + 1, ?_, rfl, rfl⟩
      · omega
      · exact eA
      · exact hA
      · omega
    · have h2' : ¬ (j : Int) < (n : Int) := h2
      obtain rfl : j = n := by omega
      have q4 : (⟨#[59]⟩ : ByteArray).size = 1 := rfl
      have q5 : (txtR (T i) j (txtM T j i)).size + (⟨#[59]⟩ : ByteArray).size ≤ 1000000 := by omega
      refine run0p ?_
      refine q_loop ?_ (imp_id ?_ ?_) ⟨i + 1, ?_, rfl, rfl⟩
      · omega
      · exact eA
      · exact hA
      · omega
  · obtain rfl : i = n := by omega
    refine run0p ?_
    exact ⟨.inr rfl, _, Imp.refl _, .one (.tmp rfl)⟩
/-- A system of whole numbers. -/
def gz (k n r : Nat) (a b g h : List Int) : GD := ⟨k, n, r, a.length, b.length, g.length, h.length, zq a, zq b, zq g, zq h⟩
theorem gz_ok {k n r : Nat} {a b g h : List Int} (h1 : (1 ≤ k ∧ k ≤ 7) ∧ (1 ≤ n ∧ n ≤ 8) ∧ r ≤ 3) (h2 : (likeB k = true → 1 ≤ r) ∧ (likeB k = false → r = 0)) (h3 : ∀ i : Nat, i < 4 → (((gz k n r a b g h).len i : Nat) : Int) = mpz (cmap k i) 0 * n + mpz (cmap k i) 1 * n * r + mpz (cmap k i) 2)
    (h4 : (∀ i, i < a.length → wt (zq a i) ≤ 4) ∧ (∀ i, i < b.length → wt (zq b i) ≤ 4) ∧ (∀ i, i < g.length → wt (zq g i) ≤ 4) ∧ ∀ i, i < h.length → wt (zq h i) ≤ 4) (h5 : ∀ i, i < a.length → ∀ j, j < b.length → zq a i ≠ zq b j) : (gz k n r a b g h).OK :=
  ⟨h1.1.1, h1.1.2, h1.2.1.1, h1.2.1.2, h1.2.2, h2.1, h2.2, h3, ⟨h4.1, h4.2.1, h4.2.2.1, h4.2.2.2⟩, h5⟩
/-- A row, whole or none. -/
theorem rv_gzr {S : Nat → Prop} {B : Nat} {β : Nat → Nat → Value} {w : World} {x : AV} {l : List Int} (h : x = .row false l.length (fun i => .q (zq l i)) ∨ (x = .v (.slice none 0 0) ∧ l = [])) (v : Value) (hv : RV S B β w x v) : RV S B β w (.row false l.length fun i => .q (zq l i)) v := by
  rcases h with rfl | ⟨rfl, rfl⟩
  · exact hv
  · exact rv_nil0 v hv
theorem gz_args {P : Program} {f : FuncId} {k n r : Nat} {a b g h : List Int} {u : Nat → AV} {y : AV} (h0 : u 0 = .i k) (h1 : u 1 = .i n) (h2 : u 2 = .i r) (h3 : u 3 = .row false a.length (fun i => .q (zq a i)) ∨ (u 3 = .v (.slice none 0 0) ∧ a = []))
    (h4 : u 4 = .row false b.length (fun i => .q (zq b i)) ∨ (u 4 = .v (.slice none 0 0) ∧ b = [])) (h5 : u 5 = .row false g.length (fun i => .q (zq g i)) ∨ (u 5 = .v (.slice none 0 0) ∧ g = [])) (h6 : u 6 = .row false h.length (fun i => .q (zq h i)) ∨ (u 6 = .v (.slice none 0 0) ∧ h = []))
    (H : Has P f [(gz k n r a b g h).v] y) : Has P f [.ag 7 u] y :=
  Has.args H fun S B β w vs hv => rvs_cons (fun v hv => by
    obtain ⟨cs, c1, c2, c3⟩ := hv
    refine ⟨cs, c1, c2, fun i hi => ?_⟩
    obtain ⟨y, a0, a1, a2⟩ := c3 i hi
    refine ⟨y, a0, a1, ?_⟩
    match i, hi with
    | 0, _ => rw [h0] at a2; exact a2
    | 1, _ => rw [h1] at a2; exact a2
    | 2, _ => rw [h2] at a2; exact a2
    | 3, _ => exact rv_gzr h3 y a2
    | 4, _ => exact rv_gzr h4 y a2
    | 5, _ => exact rv_gzr h5 y a2
    | 6, _ => exact rv_gzr h6 y a2) rvs_same hv
theorem tx_0 : Has Try.prog 58 [.q (0 : Rat)] (.v (.string (⟨#[48]⟩))) := hs_text_whole (p := (0 : Rat)) hr_text0 (by decide +kernel) (by decide +kernel)
theorem tx_1 : Has Try.prog 58 [.q (1 : Rat)] (.v (.string (⟨#[49]⟩))) := hs_text_whole (p := (1 : Rat)) hr_text1 (by decide +kernel) (by decide +kernel)
theorem tx_2 : Has Try.prog 58 [.q (2 : Rat)] (.v (.string (⟨#[50]⟩))) := hs_text_whole (p := (2 : Rat)) hr_text2 (by decide +kernel) (by decide +kernel)
theorem tx_3 : Has Try.prog 58 [.q (3 : Rat)] (.v (.string (⟨#[51]⟩))) := hs_text_whole (p := (3 : Rat)) hr_text3 (by decide +kernel) (by decide +kernel)
theorem tx_4 : Has Try.prog 58 [.q (4 : Rat)] (.v (.string (⟨#[52]⟩))) := hs_text_whole (p := (4 : Rat)) hr_text4 (by decide +kernel) (by decide +kernel)
theorem tx_6 : Has Try.prog 58 [.q (6 : Rat)] (.v (.string (⟨#[54]⟩))) := hs_text_whole (p := (6 : Rat)) hr_text6 (by decide +kernel) (by decide +kernel)
theorem tx_11 : Has Try.prog 58 [.q (11 : Rat)] (.v (.string (⟨#[49, 49]⟩))) := hs_text_whole (p := (11 : Rat)) hr_text11 (by decide +kernel) (by decide +kernel)
theorem tx_m1 : Has Try.prog 58 [.q (-1 : Rat)] (.v (.string (⟨#[45, 49]⟩))) := hs_text_neg (p := (-1 : Rat)) (a := ⟨#[49]⟩) hr_text1 (by decide +kernel) (by decide +kernel) (by decide) (by rfl)
theorem tx_m2 : Has Try.prog 58 [.q (-2 : Rat)] (.v (.string (⟨#[45, 50]⟩))) := hs_text_neg (p := (-2 : Rat)) (a := ⟨#[50]⟩) hr_text2 (by decide +kernel) (by decide +kernel) (by decide) (by rfl)
theorem tx_1o2 : Has Try.prog 58 [.q (1 / 2 : Rat)] (.v (.string (⟨#[49]⟩ ++ ⟨#[47]⟩ ++ ⟨#[50]⟩))) := hs_text_frac (p := (1 / 2 : Rat)) (by rw [show nm (1 / 2 : Rat) = 1 by decide +kernel]; exact hr_text1) (by rw [show ((1 / 2 : Rat)).den = 2 by decide +kernel]; exact hr_text2) (by decide +kernel) (by decide +kernel) (by decide +kernel) (by decide) (by decide)
theorem tx_1o3 : Has Try.prog 58 [.q (1 / 3 : Rat)] (.v (.string (⟨#[49]⟩ ++ ⟨#[47]⟩ ++ ⟨#[51]⟩))) := hs_text_frac (p := (1 / 3 : Rat)) (by rw [show nm (1 / 3 : Rat) = 1 by decide +kernel]; exact hr_text1) (by rw [show ((1 / 3 : Rat)).den = 3 by decide +kernel]; exact hr_text3) (by decide +kernel) (by decide +kernel) (by decide +kernel) (by decide) (by decide)
def kn0 : GD := gz 1 2 0 [1, 2, 3] [] [] []
theorem kn0_ok : kn0.OK := gz_ok (by decide) (by decide) (by decide) (by decide +kernel) (by decide +kernel)
def kt0 (i j : Nat) : ByteArray := ((([[⟨#[50]⟩, ⟨#[49]⟩], [⟨#[51]⟩, ⟨#[50]⟩]] : List (List ByteArray)).getD i []).getD j ⟨#[]⟩)
theorem kt0_size (i j : Nat) : (kt0 i j).size ≤ 10 := by
  match i, j with
  | 0, 0 => exact (by decide : (⟨#[50]⟩ : ByteArray).size ≤ 10)
  | 0, 1 => exact (by decide : (⟨#[49]⟩ : ByteArray).size ≤ 10)
  | 0, _ + 2 => exact (by decide : (⟨#[]⟩ : ByteArray).size ≤ 10)
  | 1, 0 => exact (by decide : (⟨#[51]⟩ : ByteArray).size ≤ 10)
  | 1, 1 => exact (by decide : (⟨#[50]⟩ : ByteArray).size ≤ 10)
  | 1, _ + 2 => exact (by decide : (⟨#[]⟩ : ByteArray).size ≤ 10)
  | _ + 2, _ => exact (by decide : (⟨#[]⟩ : ByteArray).size ≤ 10)
theorem kt0_said : txtM kt0 2 2 = ⟨#[50, 32, 49, 32, 59, 51, 32, 50, 32, 59]⟩ := by rfl
theorem kt0_told : Has Try.prog 28 [.mat false 2 (fun _ => 2) fun i j => .q (gent kn0 i j)] (.v (.string ⟨#[50, 32, 49, 32, 59, 51, 32, 50, 32, 59]⟩)) := by
  rw [← kt0_said]
  refine k_told (by decide) kt0_size fun i hi j hj => ?_
  match i, hi, j, hj with
  | 0, _, 0, _ => rw [show gent kn0 0 0 = (2 : Rat) by decide +kernel]; exact tx_2
  | 0, _, 1, _ => rw [show gent kn0 0 1 = (1 : Rat) by decide +kernel]; exact tx_1
  | 1, _, 0, _ => rw [show gent kn0 1 0 = (3 : Rat) by decide +kernel]; exact tx_3
  | 1, _, 1, _ => rw [show gent kn0 1 1 = (2 : Rat) by decide +kernel]; exact tx_2
def kn1 : GD := gz 2 2 0 [1, 2, 3] [] [] []
theorem kn1_ok : kn1.OK := gz_ok (by decide) (by decide) (by decide) (by decide +kernel) (by decide +kernel)
def kt1 (i j : Nat) : ByteArray := ((([[⟨#[49]⟩, ⟨#[50]⟩], [⟨#[50]⟩, ⟨#[51]⟩]] : List (List ByteArray)).getD i []).getD j ⟨#[]⟩)
theorem kt1_size (i j : Nat) : (kt1 i j).size ≤ 10 := by
  match i, j with
  | 0, 0 => exact (by decide : (⟨#[49]⟩ : ByteArray).size ≤ 10)
  | 0, 1 => exact (by decide : (⟨#[50]⟩ : ByteArray).size ≤ 10)
  | 0, _ + 2 => exact (by decide : (⟨#[]⟩ : ByteArray).size ≤ 10)
  | 1, 0 => exact (by decide : (⟨#[50]⟩ : ByteArray).size ≤ 10)
  | 1, 1 => exact (by decide : (⟨#[51]⟩ : ByteArray).size ≤ 10)
  | 1, _ + 2 => exact (by decide : (⟨#[]⟩ : ByteArray).size ≤ 10)
  | _ + 2, _ => exact (by decide : (⟨#[]⟩ : ByteArray).size ≤ 10)
theorem kt1_said : txtM kt1 2 2 = ⟨#[49, 32, 50, 32, 59, 50, 32, 51, 32, 59]⟩ := by rfl
theorem kt1_told : Has Try.prog 28 [.mat false 2 (fun _ => 2) fun i j => .q (gent kn1 i j)] (.v (.string ⟨#[49, 32, 50, 32, 59, 50, 32, 51, 32, 59]⟩)) := by
  rw [← kt1_said]
  refine k_told (by decide) kt1_size fun i hi j hj => ?_
  match i, hi, j, hj with
  | 0, _, 0, _ => rw [show gent kn1 0 0 = (1 : Rat) by decide +kernel]; exact tx_1
  | 0, _, 1, _ => rw [show gent kn1 0 1 = (2 : Rat) by decide +kernel]; exact tx_2
  | 1, _, 0, _ => rw [show gent kn1 1 0 = (2 : Rat) by decide +kernel]; exact tx_2
  | 1, _, 1, _ => rw [show gent kn1 1 1 = (3 : Rat) by decide +kernel]; exact tx_3
def kn2 : GD := gz 3 3 0 [1, 2, 3] [] [] []
theorem kn2_ok : kn2.OK := gz_ok (by decide) (by decide) (by decide) (by decide +kernel) (by decide +kernel)
def kt2 (i j : Nat) : ByteArray := ((([[⟨#[49]⟩, ⟨#[51]⟩, ⟨#[50]⟩], [⟨#[50]⟩, ⟨#[49]⟩, ⟨#[51]⟩], [⟨#[51]⟩, ⟨#[50]⟩, ⟨#[49]⟩]] : List (List ByteArray)).getD i []).getD j ⟨#[]⟩)
theorem kt2_size (i j : Nat) : (kt2 i j).size ≤ 10 := by
  match i, j with
  | 0, 0 => exact (by decide : (⟨#[49]⟩ : ByteArray).size ≤ 10)
  | 0, 1 => exact (by decide : (⟨#[51]⟩ : ByteArray).size ≤ 10)
  | 0, 2 => exact (by decide : (⟨#[50]⟩ : ByteArray).size ≤ 10)
  | 0, _ + 3 => exact (by decide : (⟨#[]⟩ : ByteArray).size ≤ 10)
  | 1, 0 => exact (by decide : (⟨#[50]⟩ : ByteArray).size ≤ 10)
  | 1, 1 => exact (by decide : (⟨#[49]⟩ : ByteArray).size ≤ 10)
  | 1, 2 => exact (by decide : (⟨#[51]⟩ : ByteArray).size ≤ 10)
  | 1, _ + 3 => exact (by decide : (⟨#[]⟩ : ByteArray).size ≤ 10)
  | 2, 0 => exact (by decide : (⟨#[51]⟩ : ByteArray).size ≤ 10)
  | 2, 1 => exact (by decide : (⟨#[50]⟩ : ByteArray).size ≤ 10)
  | 2, 2 => exact (by decide : (⟨#[49]⟩ : ByteArray).size ≤ 10)
  | 2, _ + 3 => exact (by decide : (⟨#[]⟩ : ByteArray).size ≤ 10)
  | _ + 3, _ => exact (by decide : (⟨#[]⟩ : ByteArray).size ≤ 10)
theorem kt2_said : txtM kt2 3 3 = ⟨#[49, 32, 51, 32, 50, 32, 59, 50, 32, 49, 32, 51, 32, 59, 51, 32, 50, 32, 49, 32, 59]⟩ := by rfl
theorem kt2_told : Has Try.prog 28 [.mat false 3 (fun _ => 3) fun i j => .q (gent kn2 i j)] (.v (.string ⟨#[49, 32, 51, 32, 50, 32, 59, 50, 32, 49, 32, 51, 32, 59, 51, 32, 50, 32, 49, 32, 59]⟩)) := by
  rw [← kt2_said]
  refine k_told (by decide) kt2_size fun i hi j hj => ?_
  match i, hi, j, hj with
  | 0, _, 0, _ => rw [show gent kn2 0 0 = (1 : Rat) by decide +kernel]; exact tx_1
  | 0, _, 1, _ => rw [show gent kn2 0 1 = (3 : Rat) by decide +kernel]; exact tx_3
  | 0, _, 2, _ => rw [show gent kn2 0 2 = (2 : Rat) by decide +kernel]; exact tx_2
  | 1, _, 0, _ => rw [show gent kn2 1 0 = (2 : Rat) by decide +kernel]; exact tx_2
  | 1, _, 1, _ => rw [show gent kn2 1 1 = (1 : Rat) by decide +kernel]; exact tx_1
  | 1, _, 2, _ => rw [show gent kn2 1 2 = (3 : Rat) by decide +kernel]; exact tx_3
  | 2, _, 0, _ => rw [show gent kn2 2 0 = (3 : Rat) by decide +kernel]; exact tx_3
  | 2, _, 1, _ => rw [show gent kn2 2 1 = (2 : Rat) by decide +kernel]; exact tx_2
  | 2, _, 2, _ => rw [show gent kn2 2 2 = (1 : Rat) by decide +kernel]; exact tx_1
def kn3 : GD := gz 4 3 0 [0, 2, -1] [] [] []
theorem kn3_ok : kn3.OK := gz_ok (by decide) (by decide) (by decide) (by decide +kernel) (by decide +kernel)
def kt3 (i j : Nat) : ByteArray := ((([[⟨#[49]⟩, ⟨#[48]⟩, ⟨#[48]⟩], [⟨#[49]⟩, ⟨#[50]⟩, ⟨#[52]⟩], [⟨#[49]⟩, ⟨#[45, 49]⟩, ⟨#[49]⟩]] : List (List ByteArray)).getD i []).getD j ⟨#[]⟩)
theorem kt3_size (i j : Nat) : (kt3 i j).size ≤ 10 := by
  match i, j with
  | 0, 0 => exact (by decide : (⟨#[49]⟩ : ByteArray).size ≤ 10)
  | 0, 1 => exact (by decide : (⟨#[48]⟩ : ByteArray).size ≤ 10)
  | 0, 2 => exact (by decide : (⟨#[48]⟩ : ByteArray).size ≤ 10)
  | 0, _ + 3 => exact (by decide : (⟨#[]⟩ : ByteArray).size ≤ 10)
  | 1, 0 => exact (by decide : (⟨#[49]⟩ : ByteArray).size ≤ 10)
  | 1, 1 => exact (by decide : (⟨#[50]⟩ : ByteArray).size ≤ 10)
  | 1, 2 => exact (by decide : (⟨#[52]⟩ : ByteArray).size ≤ 10)
  | 1, _ + 3 => exact (by decide : (⟨#[]⟩ : ByteArray).size ≤ 10)
  | 2, 0 => exact (by decide : (⟨#[49]⟩ : ByteArray).size ≤ 10)
  | 2, 1 => exact (by decide : (⟨#[45, 49]⟩ : ByteArray).size ≤ 10)
  | 2, 2 => exact (by decide : (⟨#[49]⟩ : ByteArray).size ≤ 10)
  | 2, _ + 3 => exact (by decide : (⟨#[]⟩ : ByteArray).size ≤ 10)
  | _ + 3, _ => exact (by decide : (⟨#[]⟩ : ByteArray).size ≤ 10)
theorem kt3_said : txtM kt3 3 3 = ⟨#[49, 32, 48, 32, 48, 32, 59, 49, 32, 50, 32, 52, 32, 59, 49, 32, 45, 49, 32, 49, 32, 59]⟩ := by rfl
theorem kt3_told : Has Try.prog 28 [.mat false 3 (fun _ => 3) fun i j => .q (gent kn3 i j)] (.v (.string ⟨#[49, 32, 48, 32, 48, 32, 59, 49, 32, 50, 32, 52, 32, 59, 49, 32, 45, 49, 32, 49, 32, 59]⟩)) := by
  rw [← kt3_said]
  refine k_told (by decide) kt3_size fun i hi j hj => ?_
  match i, hi, j, hj with
  | 0, _, 0, _ => rw [show gent kn3 0 0 = (1 : Rat) by decide +kernel]; exact tx_1
  | 0, _, 1, _ => rw [show gent kn3 0 1 = (0 : Rat) by decide +kernel]; exact tx_0
  | 0, _, 2, _ => rw [show gent kn3 0 2 = (0 : Rat) by decide +kernel]; exact tx_0
  | 1, _, 0, _ => rw [show gent kn3 1 0 = (1 : Rat) by decide +kernel]; exact tx_1
  | 1, _, 1, _ => rw [show gent kn3 1 1 = (2 : Rat) by decide +kernel]; exact tx_2
  | 1, _, 2, _ => rw [show gent kn3 1 2 = (4 : Rat) by decide +kernel]; exact tx_4
  | 2, _, 0, _ => rw [show gent kn3 2 0 = (1 : Rat) by decide +kernel]; exact tx_1
  | 2, _, 1, _ => rw [show gent kn3 2 1 = (-1 : Rat) by decide +kernel]; exact tx_m1
  | 2, _, 2, _ => rw [show gent kn3 2 2 = (1 : Rat) by decide +kernel]; exact tx_1
def kn4 : GD := gz 5 2 0 [1, 2] [0, -1] [] []
theorem kn4_ok : kn4.OK := gz_ok (by decide) (by decide) (by decide) (by decide +kernel) (by decide +kernel)
def kt4 (i j : Nat) : ByteArray := ((([[⟨#[49]⟩, ⟨#[49]⟩ ++ ⟨#[47]⟩ ++ ⟨#[50]⟩], [⟨#[49]⟩ ++ ⟨#[47]⟩ ++ ⟨#[50]⟩, ⟨#[49]⟩ ++ ⟨#[47]⟩ ++ ⟨#[51]⟩]] : List (List ByteArray)).getD i []).getD j ⟨#[]⟩)
theorem kt4_size (i j : Nat) : (kt4 i j).size ≤ 10 := by
  match i, j with
  | 0, 0 => exact (by decide : (⟨#[49]⟩ : ByteArray).size ≤ 10)
  | 0, 1 => exact (by decide : (⟨#[49]⟩ ++ ⟨#[47]⟩ ++ ⟨#[50]⟩ : ByteArray).size ≤ 10)
  | 0, _ + 2 => exact (by decide : (⟨#[]⟩ : ByteArray).size ≤ 10)
  | 1, 0 => exact (by decide : (⟨#[49]⟩ ++ ⟨#[47]⟩ ++ ⟨#[50]⟩ : ByteArray).size ≤ 10)
  | 1, 1 => exact (by decide : (⟨#[49]⟩ ++ ⟨#[47]⟩ ++ ⟨#[51]⟩ : ByteArray).size ≤ 10)
  | 1, _ + 2 => exact (by decide : (⟨#[]⟩ : ByteArray).size ≤ 10)
  | _ + 2, _ => exact (by decide : (⟨#[]⟩ : ByteArray).size ≤ 10)
theorem kt4_said : txtM kt4 2 2 = ⟨#[49, 32, 49, 47, 50, 32, 59, 49, 47, 50, 32, 49, 47, 51, 32, 59]⟩ := by rfl
theorem kt4_told : Has Try.prog 28 [.mat false 2 (fun _ => 2) fun i j => .q (gent kn4 i j)] (.v (.string ⟨#[49, 32, 49, 47, 50, 32, 59, 49, 47, 50, 32, 49, 47, 51, 32, 59]⟩)) := by
  rw [← kt4_said]
  refine k_told (by decide) kt4_size fun i hi j hj => ?_
  match i, hi, j, hj with
  | 0, _, 0, _ => rw [show gent kn4 0 0 = (1 : Rat) by decide +kernel]; exact tx_1
  | 0, _, 1, _ => rw [show gent kn4 0 1 = (1 / 2 : Rat) by decide +kernel]; exact tx_1o2
  | 1, _, 0, _ => rw [show gent kn4 1 0 = (1 / 2 : Rat) by decide +kernel]; exact tx_1o2
  | 1, _, 1, _ => rw [show gent kn4 1 1 = (1 / 3 : Rat) by decide +kernel]; exact tx_1o3
def kn5 : GD := gz 6 2 1 [] [] [1, 2] [3, 4]
theorem kn5_ok : kn5.OK := gz_ok (by decide) (by decide) (by decide) (by decide +kernel) (by decide +kernel)
def kt5 (i j : Nat) : ByteArray := ((([[⟨#[51]⟩, ⟨#[52]⟩], [⟨#[54]⟩, ⟨#[49, 49]⟩]] : List (List ByteArray)).getD i []).getD j ⟨#[]⟩)
theorem kt5_size (i j : Nat) : (kt5 i j).size ≤ 10 := by
  match i, j with
  | 0, 0 => exact (by decide : (⟨#[51]⟩ : ByteArray).size ≤ 10)
  | 0, 1 => exact (by decide : (⟨#[52]⟩ : ByteArray).size ≤ 10)
  | 0, _ + 2 => exact (by decide : (⟨#[]⟩ : ByteArray).size ≤ 10)
  | 1, 0 => exact (by decide : (⟨#[54]⟩ : ByteArray).size ≤ 10)
  | 1, 1 => exact (by decide : (⟨#[49, 49]⟩ : ByteArray).size ≤ 10)
  | 1, _ + 2 => exact (by decide : (⟨#[]⟩ : ByteArray).size ≤ 10)
  | _ + 2, _ => exact (by decide : (⟨#[]⟩ : ByteArray).size ≤ 10)
theorem kt5_said : txtM kt5 2 2 = ⟨#[51, 32, 52, 32, 59, 54, 32, 49, 49, 32, 59]⟩ := by rfl
theorem kt5_told : Has Try.prog 28 [.mat false 2 (fun _ => 2) fun i j => .q (gent kn5 i j)] (.v (.string ⟨#[51, 32, 52, 32, 59, 54, 32, 49, 49, 32, 59]⟩)) := by
  rw [← kt5_said]
  refine k_told (by decide) kt5_size fun i hi j hj => ?_
  match i, hi, j, hj with
  | 0, _, 0, _ => rw [show gent kn5 0 0 = (3 : Rat) by decide +kernel]; exact tx_3
  | 0, _, 1, _ => rw [show gent kn5 0 1 = (4 : Rat) by decide +kernel]; exact tx_4
  | 1, _, 0, _ => rw [show gent kn5 1 0 = (6 : Rat) by decide +kernel]; exact tx_6
  | 1, _, 1, _ => rw [show gent kn5 1 1 = (11 : Rat) by decide +kernel]; exact tx_11
def kn6 : GD := gz 7 2 2 [1, 2] [0, 4] [1, 0, 0, 1] [1, 2, 3, 4]
theorem kn6_ok : kn6.OK := gz_ok (by decide) (by decide) (by decide) (by decide +kernel) (by decide +kernel)
def kt6 (i j : Nat) : ByteArray := ((([[⟨#[49]⟩, ⟨#[45, 49]⟩], [⟨#[49]⟩, ⟨#[45, 50]⟩]] : List (List ByteArray)).getD i []).getD j ⟨#[]⟩)
theorem kt6_size (i j : Nat) : (kt6 i j).size ≤ 10 := by
  match i, j with
  | 0, 0 => exact (by decide : (⟨#[49]⟩ : ByteArray).size ≤ 10)
  | 0, 1 => exact (by decide : (⟨#[45, 49]⟩ : ByteArray).size ≤ 10)
  | 0, _ + 2 => exact (by decide : (⟨#[]⟩ : ByteArray).size ≤ 10)
  | 1, 0 => exact (by decide : (⟨#[49]⟩ : ByteArray).size ≤ 10)
  | 1, 1 => exact (by decide : (⟨#[45, 50]⟩ : ByteArray).size ≤ 10)
  | 1, _ + 2 => exact (by decide : (⟨#[]⟩ : ByteArray).size ≤ 10)
  | _ + 2, _ => exact (by decide : (⟨#[]⟩ : ByteArray).size ≤ 10)
theorem kt6_said : txtM kt6 2 2 = ⟨#[49, 32, 45, 49, 32, 59, 49, 32, 45, 50, 32, 59]⟩ := by rfl
theorem kt6_told : Has Try.prog 28 [.mat false 2 (fun _ => 2) fun i j => .q (gent kn6 i j)] (.v (.string ⟨#[49, 32, 45, 49, 32, 59, 49, 32, 45, 50, 32, 59]⟩)) := by
  rw [← kt6_said]
  refine k_told (by decide) kt6_size fun i hi j hj => ?_
  match i, hi, j, hj with
  | 0, _, 0, _ => rw [show gent kn6 0 0 = (1 : Rat) by decide +kernel]; exact tx_1
  | 0, _, 1, _ => rw [show gent kn6 0 1 = (-1 : Rat) by decide +kernel]; exact tx_m1
  | 1, _, 0, _ => rw [show gent kn6 1 0 = (1 : Rat) by decide +kernel]; exact tx_1
  | 1, _, 1, _ => rw [show gent kn6 1 1 = (-2 : Rat) by decide +kernel]; exact tx_m2
theorem bytes_same (x : ByteArray) : AV.b (x.toList == x.toList) = .b true := by rw [beq_self_eq_true]
theorem k_genknown {which : Int} (hw : Fits .i64 which) : Has Try.prog 9 [.i which] (.b true) := by
  have i0 := k_ints5 (l := [1, 2, 3]) (by decide) (by decide)
  have i1 := k_ints5 (l := [0, 2, -1]) (by decide) (by decide)
  have i2 := k_ints5 (l := [1, 2]) (by decide) (by decide)
  have i3 := k_ints5 (l := [0, -1]) (by decide) (by decide)
  have i4 := k_ints5 (l := [3, 4]) (by decide) (by decide)
  have i5 := k_ints5 (l := [0, 4]) (by decide) (by decide)
  have i6 := k_ints5 (l := [1, 0, 0, 1]) (by decide) (by decide)
  have i7 := k_ints5 (l := [1, 2, 3, 4]) (by decide) (by decide)
  have kw := k_within5 (a := which) (n := 7) (by decide) (by decide)
  have hz := wthn_lt (a := which) (n := 7) (by decide)
  generalize wthn which 7 = z at *
  obtain ⟨z, rfl⟩ : ∃ z' : Nat, z = z' := ⟨z.toNat, by omega⟩
  have hz : z < 7 := by omega
  refine has_of Try.func9 (by kernel_rfl) rfl Try.ntmps9 Try.results9 rfl rfl rfl ?_
  repeat(first|refine run1p ?_|((with_reducible apply st_call);exact rfl;exact rfl;exact rfl;first|(exact k_known5))|((with_reducible apply st_callg);exact rfl;exact rfl;(first|exact rfl|assumption);exact rfl;exact rfl;exact rfl;first|(exact k_known5)))
  refine awp_no rfl rfl ?_
  repeat(first|refine run1p ?_|((with_reducible apply st_call);exact rfl;exact rfl;exact rfl;first|(exact i0)|(exact i1)|(exact i2)|(exact i3)|(exact i4)|(exact i5)|(exact i6)|(exact i7)|(exact kw))|((with_reducible apply st_callg);exact rfl;exact rfl;(first|exact rfl|assumption);exact rfl;exact rfl;exact rfl;first|(exact i0)|(exact i1)|(exact i2)|(exact i3)|(exact i4)|(exact i5)|(exact i6)|(exact i7)|(exact kw)))
  clear kw
  match z, hz with
  | 0, _ =>
    have c1 : Has Try.prog 22 [(gz 1 2 0 [1, 2, 3] [] [] []).v] (.i 0) := g_check kn0_ok
    have c2 : Has Try.prog 29 [(gz 1 2 0 [1, 2, 3] [] [] []).v] (.mat true 2 (fun _ => 2) fun i j => .q (gent kn0 i j)) := ge_expand kn0_ok
    repeat(first|refine run4p ?_|((with_reducible apply st_call);exact rfl;exact rfl;exact rfl;first|(exact gz_args (k := 1) (n := 2) (r := 0) (a := [1, 2, 3]) (b := []) (g := []) (h := []) rfl rfl rfl (.inl rfl) (.inr ⟨rfl, rfl⟩) (.inr ⟨rfl, rfl⟩) (.inr ⟨rfl, rfl⟩) c1)|(exact gz_args (k := 1) (n := 2) (r := 0) (a := [1, 2, 3]) (b := []) (g := []) (h := []) rfl rfl rfl (.inl rfl) (.inr ⟨rfl, rfl⟩) (.inr ⟨rfl, rfl⟩) (.inr ⟨rfl, rfl⟩) c2)|(exact kt0_told))|((with_reducible apply st_callg);exact rfl;exact rfl;(first|exact rfl|assumption);exact rfl;exact rfl;exact rfl;first|(exact gz_args (k := 1) (n := 2) (r := 0) (a := [1, 2, 3]) (b := []) (g := []) (h := []) rfl rfl rfl (.inl rfl) (.inr ⟨rfl, rfl⟩) (.inr ⟨rfl, rfl⟩) (.inr ⟨rfl, rfl⟩) c1)|(exact gz_args (k := 1) (n := 2) (r := 0) (a := [1, 2, 3]) (b := []) (g := []) (h := []) rfl rfl rfl (.inl rfl) (.inr ⟨rfl, rfl⟩) (.inr ⟨rfl, rfl⟩) (.inr ⟨rfl, rfl⟩) c2)|(exact kt0_told)))
    refine ⟨.inr rfl, _, Imp.refl _, ?_⟩
    exact bytes_same _ ▸ .one (.tmp rfl)
  | 1, _ =>
    have c1 : Has Try.prog 22 [(gz 2 2 0 [1, 2, 3] [] [] []).v] (.i 0) := g_check kn1_ok
    have c2 : Has Try.prog 29 [(gz 2 2 0 [1, 2, 3] [] [] []).v] (.mat true 2 (fun _ => 2) fun i j => .q (gent kn1 i j)) := ge_expand kn1_ok
    repeat(first|refine run4p ?_|((with_reducible apply st_call);exact rfl;exact rfl;exact rfl;first|(exact gz_args (k := 2) (n := 2) (r := 0) (a := [1, 2, 3]) (b := []) (g := []) (h := []) rfl rfl rfl (.inl rfl) (.inr ⟨rfl, rfl⟩) (.inr ⟨rfl, rfl⟩) (.inr ⟨rfl, rfl⟩) c1)|(exact gz_args (k := 2) (n := 2) (r := 0) (a := [1, 2, 3]) (b := []) (g := []) (h := []) rfl rfl rfl (.inl rfl) (.inr ⟨rfl, rfl⟩) (.inr ⟨rfl, rfl⟩) (.inr ⟨rfl, rfl⟩) c2)|(exact kt1_told))|((with_reducible apply st_callg);exact rfl;exact rfl;(first|exact rfl|assumption);exact rfl;exact rfl;exact rfl;first|(exact gz_args (k := 2) (n := 2) (r := 0) (a := [1, 2, 3]) (b := []) (g := []) (h := []) rfl rfl rfl (.inl rfl) (.inr ⟨rfl, rfl⟩) (.inr ⟨rfl, rfl⟩) (.inr ⟨rfl, rfl⟩) c1)|(exact gz_args (k := 2) (n := 2) (r := 0) (a := [1, 2, 3]) (b := []) (g := []) (h := []) rfl rfl rfl (.inl rfl) (.inr ⟨rfl, rfl⟩) (.inr ⟨rfl, rfl⟩) (.inr ⟨rfl, rfl⟩) c2)|(exact kt1_told)))
    refine ⟨.inr rfl, _, Imp.refl _, ?_⟩
    exact bytes_same _ ▸ .one (.tmp rfl)
  | 2, _ =>
    have c1 : Has Try.prog 22 [(gz 3 3 0 [1, 2, 3] [] [] []).v] (.i 0) := g_check kn2_ok
    have c2 : Has Try.prog 29 [(gz 3 3 0 [1, 2, 3] [] [] []).v] (.mat true 3 (fun _ => 3) fun i j => .q (gent kn2 i j)) := ge_expand kn2_ok
    repeat(first|refine run4p ?_|((with_reducible apply st_call);exact rfl;exact rfl;exact rfl;first|(exact gz_args (k := 3) (n := 3) (r := 0) (a := [1, 2, 3]) (b := []) (g := []) (h := []) rfl rfl rfl (.inl rfl) (.inr ⟨rfl, rfl⟩) (.inr ⟨rfl, rfl⟩) (.inr ⟨rfl, rfl⟩) c1)|(exact gz_args (k := 3) (n := 3) (r := 0) (a := [1, 2, 3]) (b := []) (g := []) (h := []) rfl rfl rfl (.inl rfl) (.inr ⟨rfl, rfl⟩) (.inr ⟨rfl, rfl⟩) (.inr ⟨rfl, rfl⟩) c2)|(exact kt2_told))|((with_reducible apply st_callg);exact rfl;exact rfl;(first|exact rfl|assumption);exact rfl;exact rfl;exact rfl;first|(exact gz_args (k := 3) (n := 3) (r := 0) (a := [1, 2, 3]) (b := []) (g := []) (h := []) rfl rfl rfl (.inl rfl) (.inr ⟨rfl, rfl⟩) (.inr ⟨rfl, rfl⟩) (.inr ⟨rfl, rfl⟩) c1)|(exact gz_args (k := 3) (n := 3) (r := 0) (a := [1, 2, 3]) (b := []) (g := []) (h := []) rfl rfl rfl (.inl rfl) (.inr ⟨rfl, rfl⟩) (.inr ⟨rfl, rfl⟩) (.inr ⟨rfl, rfl⟩) c2)|(exact kt2_told)))
    refine ⟨.inr rfl, _, Imp.refl _, ?_⟩
    exact bytes_same _ ▸ .one (.tmp rfl)
  | 3, _ =>
    have c1 : Has Try.prog 22 [(gz 4 3 0 [0, 2, -1] [] [] []).v] (.i 0) := g_check kn3_ok
    have c2 : Has Try.prog 29 [(gz 4 3 0 [0, 2, -1] [] [] []).v] (.mat true 3 (fun _ => 3) fun i j => .q (gent kn3 i j)) := ge_expand kn3_ok
    repeat(first|refine run4p ?_|((with_reducible apply st_call);exact rfl;exact rfl;exact rfl;first|(exact gz_args (k := 4) (n := 3) (r := 0) (a := [0, 2, -1]) (b := []) (g := []) (h := []) rfl rfl rfl (.inl rfl) (.inr ⟨rfl, rfl⟩) (.inr ⟨rfl, rfl⟩) (.inr ⟨rfl, rfl⟩) c1)|(exact gz_args (k := 4) (n := 3) (r := 0) (a := [0, 2, -1]) (b := []) (g := []) (h := []) rfl rfl rfl (.inl rfl) (.inr ⟨rfl, rfl⟩) (.inr ⟨rfl, rfl⟩) (.inr ⟨rfl, rfl⟩) c2)|(exact kt3_told))|((with_reducible apply st_callg);exact rfl;exact rfl;(first|exact rfl|assumption);exact rfl;exact rfl;exact rfl;first|(exact gz_args (k := 4) (n := 3) (r := 0) (a := [0, 2, -1]) (b := []) (g := []) (h := []) rfl rfl rfl (.inl rfl) (.inr ⟨rfl, rfl⟩) (.inr ⟨rfl, rfl⟩) (.inr ⟨rfl, rfl⟩) c1)|(exact gz_args (k := 4) (n := 3) (r := 0) (a := [0, 2, -1]) (b := []) (g := []) (h := []) rfl rfl rfl (.inl rfl) (.inr ⟨rfl, rfl⟩) (.inr ⟨rfl, rfl⟩) (.inr ⟨rfl, rfl⟩) c2)|(exact kt3_told)))
    refine ⟨.inr rfl, _, Imp.refl _, ?_⟩
    exact bytes_same _ ▸ .one (.tmp rfl)
  | 4, _ =>
    have c1 : Has Try.prog 22 [(gz 5 2 0 [1, 2] [0, -1] [] []).v] (.i 0) := g_check kn4_ok
    have c2 : Has Try.prog 29 [(gz 5 2 0 [1, 2] [0, -1] [] []).v] (.mat true 2 (fun _ => 2) fun i j => .q (gent kn4 i j)) := ge_expand kn4_ok
    repeat(first|refine run4p ?_|((with_reducible apply st_call);exact rfl;exact rfl;exact rfl;first|(exact gz_args (k := 5) (n := 2) (r := 0) (a := [1, 2]) (b := [0, -1]) (g := []) (h := []) rfl rfl rfl (.inl rfl) (.inl rfl) (.inr ⟨rfl, rfl⟩) (.inr ⟨rfl, rfl⟩) c1)|(exact gz_args (k := 5) (n := 2) (r := 0) (a := [1, 2]) (b := [0, -1]) (g := []) (h := []) rfl rfl rfl (.inl rfl) (.inl rfl) (.inr ⟨rfl, rfl⟩) (.inr ⟨rfl, rfl⟩) c2)|(exact kt4_told))|((with_reducible apply st_callg);exact rfl;exact rfl;(first|exact rfl|assumption);exact rfl;exact rfl;exact rfl;first|(exact gz_args (k := 5) (n := 2) (r := 0) (a := [1, 2]) (b := [0, -1]) (g := []) (h := []) rfl rfl rfl (.inl rfl) (.inl rfl) (.inr ⟨rfl, rfl⟩) (.inr ⟨rfl, rfl⟩) c1)|(exact gz_args (k := 5) (n := 2) (r := 0) (a := [1, 2]) (b := [0, -1]) (g := []) (h := []) rfl rfl rfl (.inl rfl) (.inl rfl) (.inr ⟨rfl, rfl⟩) (.inr ⟨rfl, rfl⟩) c2)|(exact kt4_told)))
    refine ⟨.inr rfl, _, Imp.refl _, ?_⟩
    exact bytes_same _ ▸ .one (.tmp rfl)
  | 5, _ =>
    have c1 : Has Try.prog 22 [(gz 6 2 1 [] [] [1, 2] [3, 4]).v] (.i 0) := g_check kn5_ok
    have c2 : Has Try.prog 29 [(gz 6 2 1 [] [] [1, 2] [3, 4]).v] (.mat true 2 (fun _ => 2) fun i j => .q (gent kn5 i j)) := ge_expand kn5_ok
    repeat(first|refine run4p ?_|((with_reducible apply st_call);exact rfl;exact rfl;exact rfl;first|(exact gz_args (k := 6) (n := 2) (r := 1) (a := []) (b := []) (g := [1, 2]) (h := [3, 4]) rfl rfl rfl (.inr ⟨rfl, rfl⟩) (.inr ⟨rfl, rfl⟩) (.inl rfl) (.inl rfl) c1)|(exact gz_args (k := 6) (n := 2) (r := 1) (a := []) (b := []) (g := [1, 2]) (h := [3, 4]) rfl rfl rfl (.inr ⟨rfl, rfl⟩) (.inr ⟨rfl, rfl⟩) (.inl rfl) (.inl rfl) c2)|(exact kt5_told))|((with_reducible apply st_callg);exact rfl;exact rfl;(first|exact rfl|assumption);exact rfl;exact rfl;exact rfl;first|(exact gz_args (k := 6) (n := 2) (r := 1) (a := []) (b := []) (g := [1, 2]) (h := [3, 4]) rfl rfl rfl (.inr ⟨rfl, rfl⟩) (.inr ⟨rfl, rfl⟩) (.inl rfl) (.inl rfl) c1)|(exact gz_args (k := 6) (n := 2) (r := 1) (a := []) (b := []) (g := [1, 2]) (h := [3, 4]) rfl rfl rfl (.inr ⟨rfl, rfl⟩) (.inr ⟨rfl, rfl⟩) (.inl rfl) (.inl rfl) c2)|(exact kt5_told)))
    refine ⟨.inr rfl, _, Imp.refl _, ?_⟩
    exact bytes_same _ ▸ .one (.tmp rfl)
  | 6, _ =>
    have c1 : Has Try.prog 22 [(gz 7 2 2 [1, 2] [0, 4] [1, 0, 0, 1] [1, 2, 3, 4]).v] (.i 0) := g_check kn6_ok
    have c2 : Has Try.prog 29 [(gz 7 2 2 [1, 2] [0, 4] [1, 0, 0, 1] [1, 2, 3, 4]).v] (.mat true 2 (fun _ => 2) fun i j => .q (gent kn6 i j)) := ge_expand kn6_ok
    repeat(first|refine run4p ?_|((with_reducible apply st_call);exact rfl;exact rfl;exact rfl;first|(exact gz_args (k := 7) (n := 2) (r := 2) (a := [1, 2]) (b := [0, 4]) (g := [1, 0, 0, 1]) (h := [1, 2, 3, 4]) rfl rfl rfl (.inl rfl) (.inl rfl) (.inl rfl) (.inl rfl) c1)|(exact gz_args (k := 7) (n := 2) (r := 2) (a := [1, 2]) (b := [0, 4]) (g := [1, 0, 0, 1]) (h := [1, 2, 3, 4]) rfl rfl rfl (.inl rfl) (.inl rfl) (.inl rfl) (.inl rfl) c2)|(exact kt6_told))|((with_reducible apply st_callg);exact rfl;exact rfl;(first|exact rfl|assumption);exact rfl;exact rfl;exact rfl;first|(exact gz_args (k := 7) (n := 2) (r := 2) (a := [1, 2]) (b := [0, 4]) (g := [1, 0, 0, 1]) (h := [1, 2, 3, 4]) rfl rfl rfl (.inl rfl) (.inl rfl) (.inl rfl) (.inl rfl) c1)|(exact gz_args (k := 7) (n := 2) (r := 2) (a := [1, 2]) (b := [0, 4]) (g := [1, 0, 0, 1]) (h := [1, 2, 3, 4]) rfl rfl rfl (.inl rfl) (.inl rfl) (.inl rfl) (.inl rfl) c2)|(exact kt6_told)))
    refine ⟨.inr rfl, _, Imp.refl _, ?_⟩
    exact bytes_same _ ▸ .one (.tmp rfl)
end Go.Proofs.Ytpclkgjhfhhddaa.AM

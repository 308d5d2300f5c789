/- Joined texts, 19: LawLg. -/
import Derived.Test.YtddkocidfhaofaaJLawLevinKnown17
import Derived.Test.YtddkocidfhaofaaJLawLevinKnown18
set_option linter.unusedVariables false
set_option linter.unusedSimpArgs false
/- Laws of leading parts: LevinKnown, walked. -/
namespace Go.Proofs.Ytddkocidfhaofaa.AM
open Go Go.RowKit Go.Proofs.Ytddkocidfhaofaa.PN Go.Proofs.Ytddkocidfhaofaa.V
open Go.Proofs.Ytddkocidfhaofaa.LA (S S_succ S_zero S_congr)
set_option linter.unusedVariables false
set_option linter.unusedSimpArgs false
set_option maxRecDepth 8000
set_option maxHeartbeats 8000000
def lkL (C : Nat) : List Int := [[2, 4, 1], [1, 0, 1], [1, 1, 1], [0, 1, 2, 1, 0], [1, 4, 2, 1, 3], [3, 1, 2, 4, 8]].getD C []
def lkq (C i : Nat) : Rat := (((lkL C).getD i 0 : Int) : Rat)
def lkN (C : Nat) : Nat := ((lkL C).length + 1) / 2
theorem lk_small (C i : Nat) (h : C < 6) : (-100 ≤ (lkL C).getD i 0 ∧ (lkL C).getD i 0 ≤ 100) ∧ wt (lkq C i) ≤ 1 := by
  have hz : ∀ C, C < 6 → (lkL C).all (fun z => decide (-100 ≤ z ∧ z ≤ 100)) = true := by decide
  have hz : -100 ≤ (lkL C).getD i 0 ∧ (lkL C).getD i 0 ≤ 100 := by
    rw [List.getD_eq_getElem?_getD]
    cases e : (lkL C)[i]? with
    | none => simp
    | some z =>
      have := List.all_eq_true.1 (hz C h) z (List.mem_of_getElem? e)
      simpa using this
  refine ⟨hz, ?_⟩
  have key : ∀ x : _root_.Fin 201, wt ((((x.val : Int) - 100 : Int)) : Rat) ≤ 1 := by decide +kernel
  have := key ⟨((lkL C).getD i 0 + 100).toNat, by omega⟩
  rw [show ((((lkL C).getD i 0 + 100).toNat : Nat) : Int) - 100 = (lkL C).getD i 0 by omega] at this
  exact this
def lkG (C : Nat) : GD := ⟨1, lkN C, 0, (lkL C).length, 0, 0, 0, lkq C, fun _ => 0, fun _ => 0, fun _ => 0⟩
theorem lkG_ok {C : Nat} (h : C < 6) : (lkG C).OK := by
  have hn : ∀ C, C < 6 → 1 ≤ lkN C ∧ lkN C ≤ 8 := by decide
  refine ⟨show (1 : Nat) ≤ 1 by decide, show (1 : Nat) ≤ 7 by decide, (hn C h).1, (hn C h).2, show (0 : Nat) ≤ 3 by decide, fun h => (by cases h), fun _ => rfl, fun i hi => ?_, ⟨fun i _ => Nat.le_trans (lk_small C i h).2 (by decide), fun i hi => absurd hi (Nat.not_lt_zero _), fun i hi => absurd hi (Nat.not_lt_zero _), fun i hi => absurd hi (Nat.not_lt_zero _)⟩, fun i hi j hj => absurd hj (Nat.not_lt_zero _)⟩
  have key : ∀ C, C < 6 → ∀ i, i < 4 → (((lkG C).len i : Nat) : Int) = mpz (cmap (1 : Nat) (i : Nat)) 0 * (lkG C).n + mpz (cmap (1 : Nat) (i : Nat)) 1 * (lkG C).n * ((0 : Nat) : Int) + mpz (cmap (1 : Nat) (i : Nat)) 2 := by decide
  exact key C h i hi
/-- A Toeplitz struct, its first row as it stands. -/
def fK (n : Nat) (x : AV) (i : Nat) : AV := [AV.i 1, .i n, .i 0, x, .v (.slice none 0 0), .v (.slice none 0 0), .v (.slice none 0 0)].getD i (.v undef)
theorem fKok {n : Nat} {x : AV} {U : Nat → Bool} (hx : x.ok U) : ∀ i, (fK n x i).ok U
  | 0 | 1 | 2 | 4 | 5 | 6 => trivial
  | 3 => hx
  | _ + 7 => trivial
theorem lk_args {S : Nat → Prop} {B : Nat} {β : Nat → Nat → Value} {w : World} {C : Nat} {u : Nat → AV} {q : Nat → RA} (h0 : u 0 = .i 1) (h1 : u 1 = .i (lkN C)) (h2 : u 2 = .i 0) (h3 : u 3 = .row false (lkL C).length q) (hq : ∀ i, i < (lkL C).length → q i = .q (lkq C i)) (h4 : u 4 = .v (.slice none 0 0)) (h5 : u 5 = .v (.slice none 0 0)) (h6 : u 6 = .v (.slice none 0 0)) : ∀ i, i < 7 → ∀ v, RV S B β w (u i) v → RV S B β w ((lkG C).f i) v := by
  intro i hi v hv
  match i, hi with
  | 0, _ => rw [h0] at hv; exact hv
  | 1, _ => rw [h1] at hv; exact hv
  | 2, _ => rw [h2] at hv; exact hv
  | 3, _ => rw [h3] at hv; exact rv_row hq v hv
  | 4, _ => rw [h4] at hv; exact rv_nil0 v hv
  | 5, _ => rw [h5] at hv; exact rv_nil0 v hv
  | 6, _ => rw [h6] at hv; exact rv_nil0 v hv
theorem lk_seq (i : Nat) (hi : i < 6) : [AV.seq .i64 [2, 4, 1], .seq .i64 [1, 0, 1], .seq .i64 [1, 1, 1], .seq .i64 [0, 1, 2, 1, 0], .seq .i64 [1, 4, 2, 1, 3], .seq .i64 [3, 1, 2, 4, 8]].getD i (.v undef) = AV.seq .i64 (lkL i) := by
  have h : i = 0 ∨ i = 1 ∨ i = 2 ∨ i = 3 ∨ i = 4 ∨ i = 5 := by omega
  rcases h with rfl | rfl | rfl | rfl | rfl | rfl <;> rfl
theorem lk_len : ∀ C, C < 6 → 3 ≤ (lkL C).length ∧ (lkL C).length ≤ 5 := by decide
theorem lk_N : ∀ C, C < 6 → (((lkL C).length : Int) + 1).tdiv 2 = ((lkN C : Nat) : Int) := by decide
theorem lk_n3 : ∀ C, C < 6 → lkN C ≤ 3 ∧ 1 ≤ lkN C := by decide
def bq3 (i : Nat) : Rat := [((1 : Int) : Rat), ((2 : Int) : Rat), ((3 : Int) : Rat)].getD i 0
theorem bq3_wt (i : Nat) : wt (bq3 i) ≤ 100 := by
  have h : i = 0 ∨ i = 1 ∨ i = 2 ∨ 3 ≤ i := by omega
  rcases h with rfl | rfl | rfl | h
  · decide
  · decide
  · decide
  · unfold bq3
    rw [List.getD_eq_getElem?_getD, List.getElem?_eq_none (by simpa using h)]
    decide
theorem lk_ok {C n : Nat} {y : Nat → Rat} (h : C < 6) (hn : lkN C = n) (hd : ∀ k, k < n → lvd (gent (lkG C)) k ≠ 0) (hx : ∀ i, i < n → lvs (gent (lkG C)) bq3 n i = y i) : Has Try.prog 12 [(lkG C).v, .row false (lkN C) fun i => .q (bq3 i)] (.tup3 (.row true n fun i => .q (y i)) (.i 0) (.i 0)) := by
  subst hn
  have H : Has Try.prog 12 [(lkG C).v, .row false (lkN C) fun i => .q (bq3 i)] (.tup3 (.row true (lkN C) fun i => .q (lvs (gent (lkG C)) bq3 (lkN C) i)) (.i 0) (.i 0)) := lv_solve (b := bq3) (lkG_ok h) rfl (fun i _ => bq3_wt i) hd
  refine Has.imp H rfl fun S B β w v hv => ?_
  obtain ⟨a, b, c, e, h1, h2, h3⟩ := hv
  exact ⟨a, b, c, e, row_congr (fun i hi => congrArg RA.q (hx i hi)) h1, h2, h3⟩
theorem lk_br {C K : Nat} (h : C < 6) (hK : K < lkN C) (hd : ∀ k, k < K → lvd (gent (lkG C)) k ≠ 0) (hz : lvd (gent (lkG C)) K = 0) : Has Try.prog 12 [(lkG C).v, .row false (lkN C) fun i => .q (bq3 i)] (.tup3 (.v (.slice none 0 0)) (.i ((K + 1 : Nat) : Int)) (.i 8)) := lv_solve_break (b := bq3) (lkG_ok h) rfl (fun i _ => bq3_wt i) hK hd hz
def lkx0 (i : Nat) : Rat := [(0 : Rat), 1 / 2].getD i 0
def lkx3 (i : Nat) : Rat := [(1 / 2 : Rat), 0, 3 / 2].getD i 0
theorem lt1 {P : Nat → Prop} (h0 : P 0) : ∀ i, i < 1 → P i := fun i hi => by
  obtain rfl : i = 0 := by omega
  exact h0
theorem lt2 {P : Nat → Prop} (h0 : P 0) (h1 : P 1) : ∀ i, i < 2 → P i := fun i hi => by
  have : i = 0 ∨ i = 1 := by omega
  rcases this with rfl | rfl
  · exact h0
  · exact h1
theorem lt3 {P : Nat → Prop} (h0 : P 0) (h1 : P 1) (h2 : P 2) : ∀ i, i < 3 → P i := fun i hi => by
  have : i = 0 ∨ i = 1 ∨ i = 2 := by omega
  rcases this with rfl | rfl | rfl
  · exact h0
  · exact h1
  · exact h2
abbrev LKS (C : Nat) (r : AV) : Prop := Has Try.prog 12 [(lkG C).v, .row false (lkN C) fun i => .q (bq3 i)] r
theorem lk_s0 : LKS 0 (.tup3 (.row true 2 fun i => .q (lkx0 i)) (.i 0) (.i 0)) := lk_ok (C := 0) (n := 2) (y := lkx0) (by decide) (by decide) (lt2 (by decide +kernel) (by decide +kernel)) (lt2 (by decide +kernel) (by decide +kernel))
theorem lk_s3 : LKS 3 (.tup3 (.row true 3 fun i => .q (lkx3 i)) (.i 0) (.i 0)) := lk_ok (C := 3) (n := 3) (y := lkx3) (by decide) (by decide) (lt3 (by decide +kernel) (by decide +kernel) (by decide +kernel)) (lt3 (by decide +kernel) (by decide +kernel) (by decide +kernel))
theorem lk_s1 : LKS 1 (.tup3 (.v (.slice none 0 0)) (.i 1) (.i 8)) := lk_br (C := 1) (K := 0) (by decide) (by decide) (fun k hk => absurd hk (Nat.not_lt_zero _)) (by decide +kernel)
theorem lk_s2 : LKS 2 (.tup3 (.v (.slice none 0 0)) (.i 2) (.i 8)) := lk_br (C := 2) (K := 1) (by decide) (by decide) (lt1 (by decide +kernel)) (by decide +kernel)
theorem lk_s4 : LKS 4 (.tup3 (.v (.slice none 0 0)) (.i 2) (.i 8)) := lk_br (C := 4) (K := 1) (by decide) (by decide) (lt1 (by decide +kernel)) (by decide +kernel)
theorem lk_s5 : LKS 5 (.tup3 (.v (.slice none 0 0)) (.i 2) (.i 8)) := lk_br (C := 5) (K := 1) (by decide) (by decide) (lt1 (by decide +kernel)) (by decide +kernel)
theorem rv_rowc {S : Nat → Prop} {B : Nat} {β : Nat → Nat → Value} {w : World} {n n' : Nat} {f g : Nat → RA} (h : n = n') (hf : ∀ i, i < n → f i = g i) (v : Value) (hv : RV S B β w (.row false n f) v) : RV S B β w (.row false n' g) v := by
  subst h
  exact rv_row hf v hv
theorem tx_0 : Has Try.prog 16 [.q 0] (.v (.string ⟨#[48]⟩)) := hs_text_whole hr_text0 rfl rfl
theorem tx_h : Has Try.prog 16 [.q (1 / 2)] (.v (.string ((⟨#[49]⟩ : ByteArray) ++ ⟨#[47]⟩ ++ ⟨#[50]⟩))) := hs_text_frac (p := 1 / 2) (by rw [show nm (1 / 2 : Rat) = 1 by decide +kernel]; exact hr_text1) (by rw [show (1 / 2 : Rat).den = 2 by decide +kernel]; exact hr_text2) (by decide +kernel) (by decide +kernel) (by decide +kernel) (by decide) (by decide)
theorem tx_t : Has Try.prog 16 [.q (3 / 2)] (.v (.string ((⟨#[51]⟩ : ByteArray) ++ ⟨#[47]⟩ ++ ⟨#[50]⟩))) := hs_text_frac (p := 3 / 2) (by rw [show nm (3 / 2 : Rat) = 3 by decide +kernel]; exact hr_text3) (by rw [show (3 / 2 : Rat).den = 2 by decide +kernel]; exact hr_text2) (by decide +kernel) (by decide +kernel) (by decide +kernel) (by decide) (by decide)
def lkP (T : Nat → ByteArray) : Nat → ByteArray
  | 0 => ⟨#[]⟩
  | k + 1 => lkP T k ++ T k ++ ⟨#[32]⟩
def lkT0 (i : Nat) : ByteArray := [(⟨#[48]⟩ : ByteArray), (⟨#[49]⟩ : ByteArray) ++ ⟨#[47]⟩ ++ ⟨#[50]⟩].getD i ⟨#[]⟩
def lkT3 (i : Nat) : ByteArray := [(⟨#[49]⟩ : ByteArray) ++ ⟨#[47]⟩ ++ ⟨#[50]⟩, (⟨#[48]⟩ : ByteArray), (⟨#[51]⟩ : ByteArray) ++ ⟨#[47]⟩ ++ ⟨#[50]⟩].getD i ⟨#[]⟩
theorem sP0 : lkP lkT0 2 = ⟨#[48, 32, 49, 47, 50, 32]⟩ := by decide +kernel
theorem sP3 : lkP lkT3 3 = ⟨#[49, 47, 50, 32, 48, 32, 51, 47, 50, 32]⟩ := by decide +kernel
theorem sz0 : ∀ i, i < 2 → (lkP lkT0 i).size ≤ 100 ∧ (lkT0 i).size ≤ 100 := lt2 (by decide +kernel) (by decide +kernel)
theorem sz3 : ∀ i, i < 3 → (lkP lkT3 i).size ≤ 100 ∧ (lkT3 i).size ≤ 100 := lt3 (by decide +kernel) (by decide +kernel) (by decide +kernel)
theorem st_lokg {ops : Array Oper} {l : List Oper} {s : St} {acc : List Fp} {K : St → List Fp → Prop} {d : Option Tmp} {op : Op} {ty : TypeId} {ps : String} {aft : Array Edge} {r : Option AV} {upd : List (Nat × Option Fam)} {rd : List Nat} {j : Nat} {want b : Bool} {t : Tmp} (ht : (ops[j]?).bind (·.dst) = some t) (he : s.env t = some (.v (.bool b))) (hb : (b == want) = true)
    (h : LOK Try.prog ⟨d, op, ty, ps, aft, some (j, want)⟩ s ⟨r, upd, rd⟩) (k : AOps Try.prog ops l (nxt s d r upd) ((rd, upd.map (·.1)) :: acc) K) : AOps Try.prog ops (⟨d, op, ty, ps, aft, some (j, want)⟩ :: l) s acc K :=
  .cons _ (.inl ⟨hb ▸ .some j want t b rfl ht he, h⟩) k
attribute [local irreducible] lkL lkN
theorem k_lknown {which : Int} (hw : Fits .i64 which) : Has Try.prog 4 [.i which] (.b true) := by
  obtain ⟨r1, r2⟩ := wthn_lt (a := which) (n := 6) (by decide)
  have cw := k_within10 (a := which) (n := 6) (by decide) (by decide)
  obtain ⟨C, hC⟩ : ∃ C : Nat, wthn which 6 = (C : Int) := ⟨(wthn which 6).toNat, by omega⟩
  rw [hC] at cw r1 r2
  have hC6 : C < 6 := by omega
  have c1 := hs_int 1 (by decide) (by decide)
  have c2 := hs_int 2 (by decide) (by decide)
  have c3 := hs_int 3 (by decide) (by decide)
  obtain ⟨l3, l5⟩ := lk_len C hC6
  refine has_of Try.func4 (by kernel_rfl) rfl Try.ntmps4 Try.results4 rfl rfl rfl ?_
  repeat(first|refine run1p ?_|((with_reducible apply st_call);exact rfl;exact rfl;exact rfl;first|(exact k_known10))|((with_reducible apply st_callg);exact rfl;exact rfl;(first|exact rfl|assumption);exact rfl;exact rfl;exact rfl;first|(exact k_known10)))
  refine awp_no rfl rfl ?_
  refine run3 ?_
  repeat(first|refine run4p ?_)
  repeat(first|(with_reducible first|refine awp_seq ?_|refine awp_block ?_|refine awp_skip ?_|refine awp_exit ?_|refine awp_ret ?_|refine q_then ?_|refine q_block ?_|refine q_then_exit ?_|refine q_then_ret ?_|refine q_block_exit ?_|refine q_block_ret ?_|refine q_loop_exit ?_|refine q_loop_ret ?_)|((with_reducible refine q_block_other ?_ ?_);exact rfl))
  refine awp_imp (imp_id (e := [(0, .i which), (3, .own 24 0)]) (h := [(24, (1, fun _ => .ones 22 6 fun i => .seq .i64 (lkL i)))]) ?_ ?_) ?_
  · exact eA
  · exact allh rfl (by decide) (bleo rfl fun i hi => Le.id (lk_seq i hi)) (fun _ _ => True.intro) True.intro
  have hN : (((lkL ((C : Int).toNat)).length : Int) + 1).tdiv 2 = ((lkN C : Nat) : Int) := lk_N C hC6
  obtain ⟨n3, n1⟩ := lk_n3 C hC6
  have hf1 : -9223372036854775808 ≤ (((lkL ((C : Int).toNat)).length : Int) + 1).tdiv 2 := by rw [hN]; omega
  have hf2 : (((lkL ((C : Int).toNat)).length : Int) + 1).tdiv 2 ≤ 9223372036854775807 := by rw [hN]; omega
  have l5' : (lkL ((C : Int).toNat)).length ≤ 5 := l5
  have l3' : 3 ≤ (lkL ((C : Int).toNat)).length := l3
  repeat(first|refine run1p ?_|((with_reducible apply st_call);exact rfl;exact rfl;exact rfl;first|(exact cw))|((with_reducible apply st_callg);exact rfl;exact rfl;(first|exact rfl|assumption);exact rfl;exact rfl;exact rfl;first|(exact cw)))
  rw [hN]
  refine run0p ?_
  refine awp_loop (fun m' s => ∃ i, i ≤ (lkL C).length ∧ m' = (lkL C).length - i ∧ s = stl [(3, .own 24 0), (4, .i C), (5, .i (lkN C)), (6, .ptr 6 0 0), (7, .i (i : Int))] [(70, (1, fun _ => .rats i fun i => .q (lkq C i))), (6, (1, fun _ => .ones 26 7 (fK (lkN C) (.own 70 0)))), (24, (1, fun _ => .ones 22 6 fun i => .seq .i64 (lkL i)))]) (lkL C).length _ ((imp_nilf 70 6 3 (fun i => .q (lkq C i)) rfl rfl (by decide) rfl rfl).trans (imp_id ?_ ?_)) ⟨0, Nat.zero_le _, rfl, rfl⟩ ?_
  · exact eA
  · exact allh rfl (by decide) (blen rfl fun i hi => absurd hi (Nat.not_lt_zero _)) True.intro (allh rfl (by decide) (le7 (Le.id rfl) (Le.id rfl) (Le.id rfl) (Le.id rfl) (Le.id rfl) (Le.id rfl) (Le.id rfl)) (fun i _ => fKok (by exact rfl) i) (allh rfl (by decide) (bleo rfl fun _ _ => Le.id rfl) (fun _ _ => True.intro) True.intro))
  rintro m' s ⟨i, hi, rfl, rfl⟩
  refine run0p ?_
  refine awp_if rfl (fun h => ?_) (fun h => ?_)
  · have h : (i : Int) < ((lkL C).length : Int) := h
    have h : i < (lkL C).length := by omega
    obtain ⟨hz, _⟩ := lk_small C i hC6
    have ci : Has Try.prog 15 [.i ((lkL C).getD i 0)] (.q (lkq C i)) := hs_int _ (by omega) (by omega)
    repeat(first|refine run1p ?_|((with_reducible apply st_call);exact rfl;exact rfl;exact rfl;first|(exact ci))|((with_reducible apply st_callg);exact rfl;exact rfl;(first|exact rfl|assumption);exact rfl;exact rfl;exact rfl;first|(exact ci)))
    refine q_loop (m' := (lkL C).length - (i + 1)) (by omega) (fld_next (t := 70) (a := 58) rfl rfl (glue_one rfl) (by exact True.intro) rfl rfl ?_ ?_) ⟨i + 1, by omega, rfl, rfl⟩
    · exact alle rfl (Le.own (s1_ne (by decide))) rfl (alle rfl (Le.eq rfl rfl) True.intro (alle rfl (Le.eq rfl rfl) True.intro (alle rfl (Le.ptr (s1_ne (by decide))) rfl (alle rfl (Le.eq rfl rfl) True.intro True.intro))))
    · exact allh rfl Nat.zero_lt_one (le7 (Le.eq rfl rfl) (Le.eq rfl rfl) (Le.eq rfl rfl) (Le.own s1_t) (Le.eq rfl rfl) (Le.eq rfl rfl) (Le.eq rfl rfl)) (fun i _ => fKok (by exact rfl) i) (allh rfl Nat.zero_lt_one (bleo rfl fun _ _ => Le.eq rfl rfl) (fun _ _ => True.intro) True.intro)
  have h : ¬ (i : Int) < ((lkL C).length : Int) := h
  have ei : i = (lkL C).length := by omega
  subst ei
  repeat(first|(with_reducible first|refine awp_seq ?_|refine awp_block ?_|refine awp_skip ?_|refine awp_exit ?_|refine awp_ret ?_|refine q_then ?_|refine q_block ?_|refine q_then_exit ?_|refine q_then_ret ?_|refine q_block_exit ?_|refine q_block_ret ?_|refine q_loop_exit ?_|refine q_loop_ret ?_)|((with_reducible refine q_block_other ?_ ?_);exact rfl))
  refine awp_imp ((imp_pub 6 3 rfl rfl (by decide) rfl rfl rfl (by decide)).trans (imp_id (e := [(4, .i C), (5, .i (lkN C)), (6, .ptr 6 0 0)]) (h := [(6, (1, fun _ => .ones 26 7 (fK (lkN C) (.row true (lkL C).length fun i => .q (lkq C i)))))]) ?_ ?_)) ?_
  · exact eA
  · exact allh rfl (by decide) (le7 (Le.id rfl) (Le.id rfl) (Le.id rfl) (Le.id rfl) (Le.id rfl) (Le.id rfl) (Le.id rfl)) (fun i _ => fKok (by exact True.intro) i) True.intro
  repeat(first|refine run1p ?_|((with_reducible apply st_call);exact rfl;exact rfl;exact rfl;first|(exact c1)|(exact c2)|(exact c3))|((with_reducible apply st_callg);exact rfl;exact rfl;(first|exact rfl|assumption);exact rfl;exact rfl;exact rfl;first|(exact c1)|(exact c2)|(exact c3)))
  have cS : ∀ r, Has Try.prog 12 [(lkG C).v, .row false (lkN C) fun i => .q (bq3 i)] r → Has Try.prog 12 [.ag 7 (fun i => (fK (lkN C) (.row true (lkL C).length fun i => .q (lkq C i)) i).old), .row false (((lkN C : Nat) : Int) - 0).toNat (fun i => (fun i => [RA.q ((1 : Int) : Rat), RA.q ((2 : Int) : Rat), RA.q ((3 : Int) : Rat)].getD i ra0) (Int.toNat 0 + i))] r := fun r H =>
    Has.args H fun S B β w vs hv => rvs_cons (rv_agv (lk_args rfl rfl rfl rfl (fun i hi => rfl) rfl rfl rfl)) (fun us hu => rvs_cons (rv_rowc (by omega) fun i hi => by
      have hi : i < 3 := by omega
      have : i = 0 ∨ i = 1 ∨ i = 2 := by omega
      rcases this with rfl | rfl | rfl <;> rfl) (fun us hu => hu) hu) hv
  have h6 : C = 0 ∨ C = 1 ∨ C = 2 ∨ C = 3 ∨ C = 4 ∨ C = 5 := by omega
  rcases h6 with rfl | rfl | rfl | rfl | rfl | rfl
  · repeat(first|refine run1p ?_|((with_reducible apply st_call);exact rfl;exact rfl;exact rfl;first|(exact cS _ lk_s0))|((with_reducible apply st_callg);exact rfl;exact rfl;(first|exact rfl|assumption);exact rfl;exact rfl;exact rfl;first|(exact cS _ lk_s0)))
    have cT : ∀ i, i < 2 → Has Try.prog 16 [.q (lkx0 i)] (.v (.string (lkT0 i))) := lt2 tx_0 tx_h
    refine awp_loop (fun m' s => ∃ j, j ≤ 2 ∧ m' = 2 - j ∧ s = stl [(4, .i 0), (9, .row true 2 fun i => .q (lkx0 i)), (10, .i 0), (11, .i 0), (12, .v (.string (lkP lkT0 j))), (13, .i (j : Int))] []) 2 _ (imp_id ?_ ?_) ⟨0, Nat.zero_le _, rfl, rfl⟩ ?_
    · exact eA
    · exact hA
    rintro m' s ⟨j, hj, rfl, rfl⟩
    refine run0p ?_
    refine awp_if rfl (fun h => ?_) (fun h => ?_)
    · have h : (j : Int) < ((2 : Nat) : Int) := h
      have h : j < 2 := by omega
      obtain ⟨z1, z2⟩ := sz0 j h
      have z3 : (lkP lkT0 j ++ lkT0 j).size ≤ 200 := by rw [ByteArray.size_append]; omega
      repeat(first|refine run1p ?_|((with_reducible apply st_call);exact rfl;exact rfl;exact rfl;first|(exact cT j h))|((with_reducible apply st_callg);exact rfl;exact rfl;(first|exact rfl|assumption);exact rfl;exact rfl;exact rfl;first|(exact cT j h)))
      refine st_lok (ok_addstr (a := lkP lkT0 j) (b := lkT0 j) rfl rfl rfl (by omega)) ?_
      refine st_lok (ok_addstr (a := lkP lkT0 j ++ lkT0 j) (b := ⟨#[32]⟩) rfl rfl rfl (by have : (⟨#[32]⟩ : ByteArray).size = 1 := rfl; omega)) ?_
      refine run0p ?_
      refine q_loop (m' := 2 - (j + 1)) (by omega) (imp_id ?_ ?_) ⟨j + 1, by omega, rfl, rfl⟩
      · exact eA
      · exact hA
    have h : ¬ (j : Int) < ((2 : Nat) : Int) := h
    obtain rfl : j = 2 := by omega
    refine run0p ?_
    refine awp_no rfl rfl ?_
    refine run0p ?_
    refine st_lokg rfl rfl rfl (ok_eqstr (a := lkP lkT0 2) (r := true) rfl rfl rfl (by rw [sP0]; exact beq_self_eq_true _)) ?_
    refine run0p ?_
    exact ⟨.inr rfl, _, Imp.refl _, .one (.tmp rfl)⟩
  · repeat(first|refine run1p ?_|((with_reducible apply st_call);exact rfl;exact rfl;exact rfl;first|(exact cS _ lk_s1))|((with_reducible apply st_callg);exact rfl;exact rfl;(first|exact rfl|assumption);exact rfl;exact rfl;exact rfl;first|(exact cS _ lk_s1)))
    refine awp_loop (fun m' s => m' = 0 ∧ s = stl [(4, .i 1), (9, .v (.slice none 0 0)), (10, .i 1), (11, .i 8), (13, .i 0)] []) 0 _ (imp_id ?_ ?_) ⟨rfl, rfl⟩ ?_
    · exact eA
    · exact hA
    rintro m' s ⟨rfl, rfl⟩
    refine run0p ?_
    refine awp_no rfl rfl ?_
    refine run0p ?_
    refine awp_yes rfl rfl ?_
    refine run0p ?_
    exact ⟨.inr rfl, _, Imp.refl _, .one (.tmp rfl)⟩
  · repeat(first|refine run1p ?_|((with_reducible apply st_call);exact rfl;exact rfl;exact rfl;first|(exact cS _ lk_s2))|((with_reducible apply st_callg);exact rfl;exact rfl;(first|exact rfl|assumption);exact rfl;exact rfl;exact rfl;first|(exact cS _ lk_s2)))
    refine awp_loop (fun m' s => m' = 0 ∧ s = stl [(4, .i 2), (9, .v (.slice none 0 0)), (10, .i 2), (11, .i 8), (13, .i 0)] []) 0 _ (imp_id ?_ ?_) ⟨rfl, rfl⟩ ?_
    · exact eA
    · exact hA
    rintro m' s ⟨rfl, rfl⟩
    refine run0p ?_
    refine awp_no rfl rfl ?_
    refine run0p ?_
    refine awp_yes rfl rfl ?_
    refine run0p ?_
    exact ⟨.inr rfl, _, Imp.refl _, .one (.tmp rfl)⟩
  · repeat(first|refine run1p ?_|((with_reducible apply st_call);exact rfl;exact rfl;exact rfl;first|(exact cS _ lk_s3))|((with_reducible apply st_callg);exact rfl;exact rfl;(first|exact rfl|assumption);exact rfl;exact rfl;exact rfl;first|(exact cS _ lk_s3)))
    have cT : ∀ i, i < 3 → Has Try.prog 16 [.q (lkx3 i)] (.v (.string (lkT3 i))) := lt3 tx_h tx_0 tx_t
    refine awp_loop (fun m' s => ∃ j, j ≤ 3 ∧ m' = 3 - j ∧ s = stl [(4, .i 3), (9, .row true 3 fun i => .q (lkx3 i)), (10, .i 0), (11, .i 0), (12, .v (.string (lkP lkT3 j))), (13, .i (j : Int))] []) 3 _ (imp_id ?_ ?_) ⟨0, Nat.zero_le _, rfl, rfl⟩ ?_
    · exact eA
    · exact hA
    rintro m' s ⟨j, hj, rfl, rfl⟩
    refine run0p ?_
    refine awp_if rfl (fun h => ?_) (fun h => ?_)
    · have h : (j : Int) < ((3 : Nat) : Int) := h
      have h : j < 3 := by omega
      obtain ⟨z1, z2⟩ := sz3 j h
      have z3 : (lkP lkT3 j ++ lkT3 j).size ≤ 200 := by rw [ByteArray.size_append]; omega
      repeat(first|refine run1p ?_|((with_reducible apply st_call);exact rfl;exact rfl;exact rfl;first|(exact cT j h))|((with_reducible apply st_callg);exact rfl;exact rfl;(first|exact rfl|assumption);exact rfl;exact rfl;exact rfl;first|(exact cT j h)))
      refine st_lok (ok_addstr (a := lkP lkT3 j) (b := lkT3 j) rfl rfl rfl (by omega)) ?_
      refine st_lok (ok_addstr (a := lkP lkT3 j ++ lkT3 j) (b := ⟨#[32]⟩) rfl rfl rfl (by have : (⟨#[32]⟩ : ByteArray).size = 1 := rfl; omega)) ?_
      refine run0p ?_
      refine q_loop (m' := 3 - (j + 1)) (by omega) (imp_id ?_ ?_) ⟨j + 1, by omega, rfl, rfl⟩
      · exact eA
      · exact hA
    have h : ¬ (j : Int) < ((3 : Nat) : Int) := h
    obtain rfl : j = 3 := by omega
    refine run0p ?_
    refine awp_no rfl rfl ?_
    refine run0p ?_
    refine st_lokg rfl rfl rfl (ok_eqstr (a := lkP lkT3 3) (r := true) rfl rfl rfl (by rw [sP3]; exact beq_self_eq_true _)) ?_
    refine run0p ?_
    exact ⟨.inr rfl, _, Imp.refl _, .one (.tmp rfl)⟩
  · repeat(first|refine run1p ?_|((with_reducible apply st_call);exact rfl;exact rfl;exact rfl;first|(exact cS _ lk_s4))|((with_reducible apply st_callg);exact rfl;exact rfl;(first|exact rfl|assumption);exact rfl;exact rfl;exact rfl;first|(exact cS _ lk_s4)))
    refine awp_loop (fun m' s => m' = 0 ∧ s = stl [(4, .i 4), (9, .v (.slice none 0 0)), (10, .i 2), (11, .i 8), (13, .i 0)] []) 0 _ (imp_id ?_ ?_) ⟨rfl, rfl⟩ ?_
    · exact eA
    · exact hA
    rintro m' s ⟨rfl, rfl⟩
    refine run0p ?_
    refine awp_no rfl rfl ?_
    refine run0p ?_
    refine awp_yes rfl rfl ?_
    refine run0p ?_
    exact ⟨.inr rfl, _, Imp.refl _, .one (.tmp rfl)⟩
  · repeat(first|refine run1p ?_|((with_reducible apply st_call);exact rfl;exact rfl;exact rfl;first|(exact cS _ lk_s5))|((with_reducible apply st_callg);exact rfl;exact rfl;(first|exact rfl|assumption);exact rfl;exact rfl;exact rfl;first|(exact cS _ lk_s5)))
    refine awp_loop (fun m' s => m' = 0 ∧ s = stl [(4, .i 5), (9, .v (.slice none 0 0)), (10, .i 2), (11, .i 8), (13, .i 0)] []) 0 _ (imp_id ?_ ?_) ⟨rfl, rfl⟩ ?_
    · exact eA
    · exact hA
    rintro m' s ⟨rfl, rfl⟩
    refine run0p ?_
    refine awp_no rfl rfl ?_
    refine run0p ?_
    refine awp_yes rfl rfl ?_
    refine run0p ?_
    exact ⟨.inr rfl, _, Imp.refl _, .one (.tmp rfl)⟩
end Go.Proofs.Ytddkocidfhaofaa.AM

/- Joined texts, 17: PSolve LawN LawO LawP. -/
import Derived.Test.YtjmpanhacfjcaaaJ14
import Derived.Test.YtjmpanhacfjcaaaJ15
set_option linter.unusedVariables false
set_option linter.unusedSimpArgs false
/- Systems: what both ways answer, in plain functions. -/
namespace Go.Proofs.Ytjmpanhacfjcaaa.AM
open Go.Proofs.Ytjmpanhacfjcaaa.PN
open Go.Proofs.Ytjmpanhacfjcaaa.LA (Mt S S_succ S_zero S_congr S_add S_mul S_mulr S_single S_null S_append det HasRank app unique)
set_option linter.unusedVariables false
set_option linter.unusedSimpArgs false
/-- A matrix with a column more. -/
abbrev augb (n : Nat) (F : Nat → Nat → Rat) (b : Nat → Rat) : Nat → Nat → Rat := aug n F fun i j => b (i + j)
/-- All columns cleaned; the answer. -/
noncomputable def gj (n : Nat) (F : Nat → Nat → Rat) (b : Nat → Rat) : ES := stps n (n + 1) true (augb n F b) n
noncomputable def gjx (n : Nat) (F : Nat → Nat → Rat) (b : Nat → Rat) (i : Nat) : Rat := PR (gj n F b) i n / PR (gj n F b) i i
/-- The triangle; from the last row up. -/
noncomputable def gt (n : Nat) (F : Nat → Nat → Rat) (b : Nat → Rat) : ES := stps n (n + 1) false (augb n F b) n
def bsx (n : Nat) (P : Nat → Nat → Rat) : Nat → Nat → Rat
  | 0 => fun _ => 0
  | k + 1 => updN (bsx n P k) (n - 1 - k) ((P (n - 1 - k) n - S k fun u => P (n - 1 - k) (n - 1 - k + 1 + u) * bsx n P k (n - 1 - k + 1 + u)) / P (n - 1 - k) (n - 1 - k))
theorem bsx_at {n : Nat} {P : Nat → Nat → Rat} {k : Nat} : bsx n P (k + 1) (n - 1 - k) = (P (n - 1 - k) n - S k fun u => P (n - 1 - k) (n - 1 - k + 1 + u) * bsx n P k (n - 1 - k + 1 + u)) / P (n - 1 - k) (n - 1 - k) := updN_same _ _ _
theorem bsx_later {n : Nat} {P : Nat → Nat → Rat} : ∀ {k k' i : Nat}, k ≤ k' → k' ≤ n → n - k ≤ i → i < n → bsx n P k' i = bsx n P k i := by
  intro k k' i h
  induction h with
  | refl => intro _ _ _; rfl
  | step h ih =>
    rename_i m
    intro h1 h2 h3
    have h' : k ≤ m := h
    rw [← ih (by omega) h2 h3]
    exact updN_ne _ _ (show i ≠ n - 1 - m by omega)
/-- From the last row up: what was asked. -/
theorem bsx_solves {n : Nat} {P : Nat → Nat → Rat} (hz : ∀ i j, i < n → j < i → P i j = 0) (hd : ∀ i, i < n → P i i ≠ 0) {i : Nat} (hi : i < n) : S n (fun j => P i j * bsx n P n j) = P i n := by
  obtain ⟨k, rfl⟩ : ∃ k, i = n - 1 - k := ⟨n - 1 - i, by omega⟩
  obtain ⟨k, hk, hki⟩ : ∃ k', k' < n ∧ n - 1 - k = n - 1 - k' := ⟨n - 1 - (n - 1 - k), by omega, by omega⟩
  rw [hki] at hi ⊢
  clear hki
  generalize hI : n - 1 - k = I at *
  have hn : n = I + (1 + k) := by omega
  have e0 : S n (fun j => P I j * bsx n P n j) = S (I + (1 + k)) (fun j => P I j * bsx n P n j) := by rw [← hn]
  rw [e0, S_append, S_null (n := I) (fun j hj => by rw [hz I j hi hj, Rat.zero_mul]), S_append, S_succ, S_zero, Rat.zero_add, Rat.zero_add]
  have e1 : bsx n P n (I + 0) = (P I n - S k fun u => P I (I + 1 + u) * bsx n P k (I + 1 + u)) / P I I := by
    rw [Nat.add_zero, bsx_later (k := k + 1) (by omega) (Nat.le_refl n) (by omega) hi]
    have := bsx_at (n := n) (P := P) (k := k)
    rw [hI] at this; exact this
  have e2 : S k (fun i => P I (I + (1 + i)) * bsx n P n (I + (1 + i))) = S k (fun u => P I (I + 1 + u) * bsx n P k (I + 1 + u)) := S_congr fun u hu => by
    rw [show I + (1 + u) = I + 1 + u by omega, bsx_later (k := k) (by omega) (Nat.le_refl n) (by omega) (by omega)]
  rw [e1, e2, Nat.add_zero]
  generalize S k (fun u => P I (I + 1 + u) * bsx n P k (I + 1 + u)) = s
  rw [Rat.mul_comm, Rat.div_mul_cancel (hd I hi)]
  grind
/-- What the rows of P send x to, those of A do, too. -/
theorem ker_app {n : Nat} {A : Nat → Nat → Rat} {x : Nat → Rat} (h : Ker n (n + 1) A fun j => if j < n then x j else -1) {r : Nat} (hr : r < n) : S n (fun j => A r j * x j) = A r n := by
  have h1 := h r hr
  rw [S_succ] at h1
  dsimp only at h1
  rw [if_neg (Nat.lt_irrefl n), S_congr (g := fun j => A r j * x j) fun j hj => by rw [if_pos hj]] at h1
  grind
theorem app_ker {n : Nat} {A : Nat → Nat → Rat} {x : Nat → Rat} (h : ∀ r, r < n → S n (fun j => A r j * x j) = A r n) : Ker n (n + 1) A fun j => if j < n then x j else -1 := by
  intro r hr
  rw [S_succ]
  dsimp only
  rw [if_neg (Nat.lt_irrefl n), S_congr (g := fun j => A r j * x j) fun j hj => by rw [if_pos hj], h r hr]
  grind
theorem augb_app {n : Nat} {F : Nat → Nat → Rat} {b x : Nat → Rat} {r : Nat} (h : S n (fun j => augb n F b r j * x j) = augb n F b r n) : app n F x r = b r := by
  have e1 : S n (fun j => augb n F b r j * x j) = app n F x r := S_congr fun j hj => by
    show (if j < n then _ else _) * _ = _; rw [if_pos hj]
  rw [← e1, h]
  show (if n < n then _ else b (r + (n - n))) = _
  rw [if_neg (Nat.lt_irrefl n), Nat.sub_self, Nat.add_zero]
theorem det_augb (n : Nat) (F : Nat → Nat → Rat) (b : Nat → Rat) : det n (augb n F b) = det n F := LA.det_congr fun i j _ hj => if_pos hj
theorem gj_full (n : Nat) (F : Nat → Nat → Rat) (b : Nat → Rat) : (gj n F b).at' < n ↔ gdet n F = 0 := by
  have h1 := LA.rank_full (fin_rank (n := n) (m := n + 1) (all := true) (A := augb n F b) (Nat.le_succ n))
  rw [gdet_det, ← det_augb n F b]
  unfold gj
  constructor
  · intro h; exact Classical.byContradiction fun h2 => by have := h1.2.2 h2; omega
  · intro h
    rcases Nat.lt_or_ge (stps n (n + 1) true (augb n F b) n).at' n with h3 | h3
    · exact h3
    · exact absurd h (h1.2.1 (by omega))
theorem gt_full (n : Nat) (F : Nat → Nat → Rat) (b : Nat → Rat) : (gt n F b).at' < n ↔ gdet n F = 0 := by
  have h1 := LA.rank_full (fin_rank (n := n) (m := n + 1) (all := false) (A := augb n F b) (Nat.le_succ n))
  rw [gdet_det, ← det_augb n F b]
  unfold gt
  constructor
  · intro h; exact Classical.byContradiction fun h2 => by have := h1.2.2 h2; omega
  · intro h
    rcases Nat.lt_or_ge (stps n (n + 1) false (augb n F b) n).at' n with h3 | h3
    · exact h3
    · exact absurd h (h1.2.1 (by omega))
theorem gt_det (n : Nat) (F : Nat → Nat → Rat) (b : Nat → Rat) : dd n (gt n F b) = gdet n F := by
  rw [gdet_det, ← det_augb n F b]; exact fin_det (Nat.le_succ n)
theorem gj_nz {n : Nat} {F : Nat → Nat → Rat} {b : Nat → Rat} (h : gdet n F ≠ 0) : (gj n F b).at' = n ∧ (∀ i, i < n → PR (gj n F b) i i ≠ 0) ∧ ∀ i, i < n → app n F (gjx n F b) i = b i := by
  obtain ⟨σ, col, hG⟩ := stps_gi (n := n) (m := n + 1) (all := true) (A := augb n F b) n (Nat.le_succ n)
  have h1 := (stps_perm (n := n) (m := n + 1) (all := true) (A := augb n F b) n).1
  have h2 := gj_full n F b
  have hG : GI n (n + 1) n true (augb n F b) (gj n F b) σ col := hG
  have h1 : (gj n F b).at' ≤ n := h1
  have hf : (gj n F b).at' = n := by
    rcases Nat.lt_or_ge (gj n F b).at' n with h3 | h3
    · exact absurd (h2.1 h3) h
    · omega
  have hcol := hG.full hf
  have hnz : ∀ i, i < n → PR (gj n F b) i i ≠ 0 := fun i hi => by have := hG.nz i (by omega); rw [hcol i hi] at this; exact this
  refine ⟨hf, hnz, fun i hi => ?_⟩
  refine augb_app (ker_app (hG.re.ker (app_ker fun r hr => ?_)) hi)
  rw [S_single hr (fun j hj hne => by rw [show PR (gj n F b) r j = 0 by have := hG.cl rfl j r (by omega) hr (Ne.symm hne); rw [hcol j hj] at this; exact this, Rat.zero_mul])]
  unfold gjx
  rw [Rat.mul_comm, Rat.div_mul_cancel (hnz r hr)]
theorem gt_nz {n : Nat} {F : Nat → Nat → Rat} {b : Nat → Rat} (h : gdet n F ≠ 0) : (gt n F b).at' = n ∧ (∀ i, i < n → PR (gt n F b) i i ≠ 0) ∧ ∀ i, i < n → app n F (bsx n (PR (gt n F b)) n) i = b i := by
  obtain ⟨σ, col, hG⟩ := stps_gi (n := n) (m := n + 1) (all := false) (A := augb n F b) n (Nat.le_succ n)
  have h1 := (stps_perm (n := n) (m := n + 1) (all := false) (A := augb n F b) n).1
  have h2 := gt_full n F b
  have hG : GI n (n + 1) n false (augb n F b) (gt n F b) σ col := hG
  have h1 : (gt n F b).at' ≤ n := h1
  have hf : (gt n F b).at' = n := by
    rcases Nat.lt_or_ge (gt n F b).at' n with h3 | h3
    · exact absurd (h2.1 h3) h
    · omega
  have hcol := hG.full hf
  have hnz : ∀ i, i < n → PR (gt n F b) i i ≠ 0 := fun i hi => by have := hG.nz i (by omega); rw [hcol i hi] at this; exact this
  refine ⟨hf, hnz, fun i hi => ?_⟩
  exact augb_app (ker_app (hG.re.ker (app_ker fun r hr => bsx_solves (fun i j hi hj => hG.ahead i (by omega) j (by rw [hcol i hi]; exact hj)) hnz hr)) hi)
theorem solve_same {n : Nat} {F : Nat → Nat → Rat} {b : Nat → Rat} (h : gdet n F ≠ 0) {i : Nat} (hi : i < n) : gjx n F b i = bsx n (PR (gt n F b)) n i := by
  refine unique (by rw [← gdet_det]; exact h) (fun r hr => ?_) i hi
  rw [(gj_nz (b := b) h).2.2 r hr, (gt_nz (b := b) h).2.2 r hr]
/-! ### How long they are -/
theorem pr_bits {n m K : Nat} {A : Nat → Nat → Rat} (hK : 1 ≤ K) [hA : ∀ i j, Bt (A i j) K] : ∀ c, ∀ r, r < n → ∀ j, Bt (PR (stps n m false A c) r j) (4 ^ (min r (stps n m false A c).at') * (K + 1) - 1)
  | 0, r, hr, j => by
    have h : Bt (PR (stps n m false A 0) r j) K := hA r j
    refine h.mono ?_
    show K ≤ 4 ^ (min r 0) * (K + 1) - 1
    rw [Nat.min_zero, Nat.pow_zero]; omega
  | c + 1, r, hr, j => by
    have ih := pr_bits (n := n) (m := m) hK (hA := hA) c
    obtain ⟨_, hlt, hinj⟩ := stps_perm (n := n) (m := m) (all := false) (A := A) c
    show Bt (PR (stp n m false (stps n m false A c) c) r j) (4 ^ (min r (stp n m false (stps n m false A c) c).at') * (K + 1) - 1)
    generalize stps n m false A c = s at *
    obtain ⟨a, d, π, B⟩ := s
    have ih : ∀ r, r < n → ∀ j, Bt (B (π r) j) (4 ^ (min r a) * (K + 1) - 1) := ih
    unfold stp
    split
    · rename_i hi
      obtain ⟨h1, _⟩ := fnd_le (fun i => B (π i) c ≠ 0) (n - a) a
      have hi : fnd (fun i => B (π i) c ≠ 0) (n - a) a < n := hi
      show Bt (cln B (swp π (fnd (fun i => B (π i) c ≠ 0) (n - a) a) a) false a c m n (swp π (fnd (fun i => B (π i) c ≠ 0) (n - a) a) a r) j) (4 ^ (min r (a + 1)) * (K + 1) - 1)
      generalize fnd (fun i => B (π i) c ≠ 0) (n - a) a = i0 at *
      have han : a < n := by omega
      have hinj' := swp_inj (n := n) (i := i0) (j := a) hinj hi han
      have hs : ∀ r, r < n → a ≤ r → ∀ j, Bt (B (swp π i0 a r) j) (4 ^ a * (K + 1) - 1) := fun r hr har j => by
        have key : ∃ r', r' < n ∧ a ≤ r' ∧ swp π i0 a r = π r' := by
          unfold swp updN
          by_cases e1 : r = a
          · rw [if_pos e1]; exact ⟨i0, hi, h1, rfl⟩
          · rw [if_neg e1]
            by_cases e2 : r = i0
            · rw [if_pos e2]; exact ⟨a, han, Nat.le_refl a, rfl⟩
            · rw [if_neg e2]; exact ⟨r, hr, har, rfl⟩
        obtain ⟨r', h3, h4, h5⟩ := key
        have := ih r' h3 j
        rw [show min r' a = a by omega] at this
        rw [h5]; exact this
      have hp : 1 ≤ 4 ^ a := Nat.pow_pos (by decide)
      have hpk : K + 1 ≤ 4 ^ a * (K + 1) := Nat.le_mul_of_pos_left _ hp
      rcases Nat.lt_or_ge a r with h2 | h2
      · rw [show min r (a + 1) = a + 1 by omega, Nat.pow_succ, Nat.mul_right_comm]
        by_cases hj : c ≤ j ∧ j < m
        · rw [cln_at hinj' hr j ⟨.inl h2, hj⟩]
          have w1 := hs r hr (by omega)
          have w2 := hs a han (Nat.le_refl a)
          exact (inferInstance : Bt (B (swp π i0 a r) j - B (swp π i0 a r) c / B (swp π i0 a a) c * B (swp π i0 a a) j) _).mono (by omega)
        · rw [cln_not hinj' hr j (fun e => hj e.2)]
          exact (hs r hr (by omega) j).mono (by omega)
      · rw [cln_not hinj' hr j (fun e => by rcases e.1 with h3 | ⟨h3, _⟩; omega; cases h3), show min r (a + 1) = r by omega]
        by_cases e : r = a
        · subst e; exact hs r hr (Nat.le_refl r) j
        · have e2 : swp π i0 a r = π r := by
            unfold swp updN
            rw [if_neg e, if_neg (by omega)]
          have := ih r hr j
          rw [show min r a = r by omega] at this
          rw [e2]; exact this
    · exact ih r hr j
/-- How long the parts of an answer are, from the last up. -/
def sbd (X : Nat → Nat) (Y : Nat → Nat) (i : Nat) : Nat → Nat
  | 0 => X i
  | k + 1 => sbd X Y i k + (X i + Y (i + 1 + k)) + 1
def ybd (n : Nat) (X : Nat → Nat) : Nat → Nat → Nat
  | 0 => fun _ => 0
  | k + 1 => fun i => if i = n - 1 - k then sbd X (ybd n X k) (n - 1 - k) k + X (n - 1 - k) else ybd n X k i
def ybOK (n : Nat) (X : Nat → Nat) : Bool := (List.range n).all fun k => Nat.ble (sbd X (ybd n X k) (n - 1 - k) k) 15000 && Nat.ble (X (n - 1 - k)) 15000
theorem sbd_wt {n i : Nat} {P : Nat → Nat → Rat} {x : Nat → Rat} {X Y : Nat → Nat} (h0 : Wt (P i n) (X i)) (hP : ∀ j, Wt (P i j) (X i)) : ∀ k, (∀ u, u < k → Wt (x (i + 1 + u)) (Y (i + 1 + u))) → Wt (P i n - S k fun u => P i (i + 1 + u) * x (i + 1 + u)) (sbd X Y i k)
  | 0, _ => by rw [S_zero, Rat.sub_eq_add_neg, Rat.neg_zero, Rat.add_zero]; exact h0
  | k + 1, h => by
    have h1 := sbd_wt (n := n) (x := x) (X := X) (Y := Y) h0 hP k (fun u hu => h u (by omega))
    have h2 := h k (Nat.lt_succ_self k)
    have h3 := hP (i + 1 + k)
    rw [S_succ, show ∀ a b c : Rat, a - (b + c) = (a - b) - c by intros; grind]
    exact (inferInstance : Wt ((P i n - S k fun u => P i (i + 1 + u) * x (i + 1 + u)) - P i (i + 1 + k) * x (i + 1 + k)) _)
theorem ybd_wt {n : Nat} {P : Nat → Nat → Rat} {X : Nat → Nat} (hP : ∀ i, i < n → ∀ j, Wt (P i j) (X i)) : ∀ k, k ≤ n → ∀ i, n - k ≤ i → i < n → Wt (bsx n P k i) (ybd n X k i)
  | 0, _, i, h1, h2 => by omega
  | k + 1, hk, i, h1, h2 => by
    have ih := ybd_wt (X := X) hP k (by omega)
    by_cases e : i = n - 1 - k
    · subst e
      rw [bsx_at]
      show Wt _ (if _ then _ else _)
      rw [if_pos rfl]
      have h3 := sbd_wt (n := n) (x := bsx n P k) (X := X) (Y := ybd n X k) (hP _ h2 n) (hP _ h2) k (fun u hu => ih _ (by omega) (by omega))
      have h4 := hP _ h2 (n - 1 - k)
      exact inferInstance
    · show Wt (updN (bsx n P k) (n - 1 - k) _ i) (if _ then _ else _)
      rw [updN_ne _ _ e, if_neg e]
      exact ih i (by omega) h2
end Go.Proofs.Ytjmpanhacfjcaaa.AM
/- Systems: both ways walked. -/
namespace Go.Proofs.Ytjmpanhacfjcaaa.AM
open Go Go.RowKit Go.Proofs.Ytjmpanhacfjcaaa.PN Go.Proofs.Ytjmpanhacfjcaaa.V
open Go.Proofs.Ytjmpanhacfjcaaa.LA (S S_succ S_zero S_congr)
set_option linter.unusedVariables false
set_option linter.unusedSimpArgs false
set_option maxRecDepth 8000
set_option maxHeartbeats 8000000
theorem augb_wt {n K : Nat} {F : Nat → Nat → Rat} {b : Nat → Rat} [hf : ∀ i j, Wt (F i j) K] [hb : ∀ i, Wt (b i) K] (i j : Nat) : Wt (augb n F b i j) K := by
  unfold augb aug; split
  · exact hf i j
  · exact hb _
theorem d_beside {n i : Nat} {b : Nat → Rat} (hi : i < n) (hn : n ≤ 8) : Has Try.prog 58 [.i i, .cp (.row false n fun i => .q (b i))] (.row false 1 (fun j => .q (b (i + j)))) := by
  refine has_of Try.func58 (by kernel_rfl) rfl Try.ntmps58 Try.results58 rfl rfl rfl ?_
  refine run0 ?_
  refine ⟨.inr rfl, _, imp_slot (y := .row false 1 (fun j => .q (b (i + j)))) 3 rfl True.intro (Le.row (by omega) (fun _ _ => rfl) fun h => h), ?_⟩
  exact .one (.tmp rfl)
theorem d_solve {n K : Nat} {F : Nat → Nat → Rat} {b : Nat → Rat} [hf : ∀ i j, Wt (F i j) K] [hb : ∀ i, Wt (b i) K] (hK : K ≤ 399) (h0 : 0 < n) (hn : n ≤ 8) : Has Try.prog 22 [.mat false n (fun _ => n) (fun i j => .q (F i j)), .row false n (fun i => .q (b i))] (if gdet n F = 0 then .tup (.row true 0 fun _ => .q 0) (.i 9) else .tup (.row true n fun i => .q (gjx n F b i)) (.i 0)) := by
  have hcl : (if gdet n F = 0 then AV.tup (.row true 0 fun _ => .q 0) (.i 9) else .tup (.row true n fun i => .q (gjx n F b i)) (.i 0)).closed = true := by split <;> rfl
  refine has_of Try.func22 (by kernel_rfl) rfl Try.ntmps22 Try.results22 rfl hcl rfl ?_
  have wA : ∀ i j, Wt (augb n F b i j) K := fun i j => augb_wt (hf := hf) (hb := hb) i j
  refine run2 ?_
  refine awp_imp (imp_cell 3 rfl rfl rfl rfl) ?_
  have gN : decide ((n : Int) ≠ n) = false := decide_eq_false fun h => h rfl
  have gN2 : (decide ((n : Int) ≠ n) == false) = true := by rw [gN]; rfl
  repeat(first|refine run1 ?_|((with_reducible apply st_call);exact rfl;exact rfl;exact rfl;first|(exact d_square (hf := hf) (by omega) h0 (by omega))|(exact d_right (hf := hb) (by omega) (by omega)))|((with_reducible apply st_callg);exact rfl;exact rfl;(first|exact rfl|assumption);exact rfl;exact rfl;exact rfl;first|(exact d_square (hf := hf) (by omega) h0 (by omega))|(exact d_right (hf := hb) (by omega) (by omega))))
  refine awp_no rfl rfl ?_
  have c := d_of (n := n) (e := 1) (mm := 1) (g := 58) (c := fun i => ([AV.cp (.row false n fun i => .q (b i))].getD i (.v undef)).old) (F := F) (G := fun i j => b (i + j)) hn h0 (Nat.le_refl 1) rfl (fun i hi => d_beside hi hn)
  refine run0 ?_
  ((with_reducible apply st_callH); exact rfl; exact rfl; exact rfl; exact (c); (first | exact True.intro | exact ⟨rfl, rfl, rfl, True.intro⟩); exact rfl; exact rfl; exact rfl; exact rfl; (focus (repeat (first | exact True.intro | refine ⟨(by first | exact True.intro | rfl | exact ok_none (closed_ok rfl)), ?_⟩))); (first | exact True.intro | exact okf_WH))
  refine run0 ?_
  ((with_reducible apply st_callH); exact rfl; exact rfl; exact rfl; exact (d_steps (all := true) (hA := wA) (by omega) hn (by omega) (Nat.le_succ n)); (first | exact True.intro | exact ⟨rfl, rfl, rfl, True.intro⟩); exact rfl; exact rfl; exact rfl; exact rfl; (focus (repeat (first | exact True.intro | refine ⟨(by first | exact True.intro | rfl | exact ok_none (closed_ok rfl)), ?_⟩))); (first | exact True.intro | exact okf_WH))
  refine run0 ?_
  have hok := stps_ok (n := n) (m := n + 1) (all := true) (hA := wA) n
  have hX : 5 ^ n * (K + 1) ≤ 390625 * 400 := Nat.mul_le_mul (Nat.pow_le_pow_right (by decide) hn) (by omega)
  have eg : stps n (n + 1) true (augb n F b) n = gj n F b := rfl
  by_cases hd : gdet n F = 0
  · have hlt := (gj_full n F b).2 hd
    rw [if_pos hd]
    refine awp_yes rfl ?_ ?_
    · exact decide_eq_true (show ((stps n (n + 1) true (augb n F b) n).at' : Int) < n by rw [eg]; omega)
    refine run0 ?_
    refine ⟨.inr rfl, _, imp_slot (y := .row true 0 fun _ => .q 0) 4 rfl True.intro Le.nilrow, ?_⟩
    exact .two (.tmp rfl) (.tmp rfl)
  · obtain ⟨hat, hnz, _⟩ := gj_nz (b := b) hd
    have hxe : gjx n F b = fun i => PR (gj n F b) i n / PR (gj n F b) i i := rfl
    rw [if_neg hd, hxe]
    refine awp_no rfl ?_ ?_
    · exact decide_eq_false (show ¬ ((stps n (n + 1) true (augb n F b) n).at' : Int) < n by rw [eg]; omega)
    rw [eg] at hok
    rw [eg]
    generalize gj n F b = T at *
    obtain ⟨a, d, π, B⟩ := T
    have hlt : ∀ i, i < n → π i < n := hok.lt
    have wB : ∀ i j, Wt (B i j) (390625 * 400) := fun i j => (hok.wA i j).mono hX
    have hnz : ∀ i, i < n → B (π i) i ≠ 0 := hnz
    have hP : ∀ i j, PR ⟨a, d, π, B⟩ i j = B (π i) j := fun _ _ => rfl
    simp only [hP]
    refine run0 ?_
    refine awp_loop (fun m' s => ∃ k, k ≤ n ∧ m' = n - k ∧ s = stl [(0, .mat false n (fun _ => n) (fun i j => .q (F i j))), (7, .own 35 0), (6, .ptr 60 0 0), (39, .own 61 0), (40, .i n), (41, .i (k : Int))] (WH n (n + 1) d π B ++ [(35, (1, fun _ => .rats n (grow (fun i => .q (B (π i) n / B (π i) i)) ra0 k)))])) n _ (imp_WHt rfl rfl (fun _ _ => rfl) rfl rfl (fun _ _ => rfl) rfl (fun r hr => blen rfl fun _ _ => rfl) ?_ ?_) ⟨0, Nat.zero_le _, rfl, rfl⟩ ?_
    · exact eA
    · refine allh rfl (by decide) (blen rfl fun _ _ => rfl) True.intro True.intro
    · rintro m' s ⟨k, hk, rfl, rfl⟩
      refine run0 ?_
      refine awp_if rfl (fun h => ?_) (fun h => ?_)
      · have h' : (k : Int) < n := h
        have hkn : k < n := by omega
        have hpk := hlt k hkn
        repeat(first|refine run1 ?_|((with_reducible apply st_call);exact rfl;exact rfl;exact rfl;first|(exact c_quo ⟨by omega, by omega⟩ (hnz k hkn)))|((with_reducible apply st_callg);exact rfl;exact rfl;(first|exact rfl|assumption);exact rfl;exact rfl;exact rfl;first|(exact c_quo ⟨by omega, by omega⟩ (hnz k hkn))))
        refine q_loop (m' := n - (k + 1)) (by omega) (imp_WHt (n := n) (m := n + 1) (d := d) (π := π) (A := B) (e := [(0, .mat false n (fun _ => n) (fun i j => .q (F i j))), (7, .own 35 0), (6, .ptr 60 0 0), (39, .own 61 0), (40, .i n), (41, .i ((k + 1 : Nat) : Int))]) (t := [(35, (1, fun _ => .rats n (grow (fun i => .q (B (π i) n / B (π i) i)) ra0 (k + 1))))]) rfl rfl (fun _ _ => rfl) rfl rfl (fun _ _ => rfl) rfl (fun r hr => blen rfl fun _ _ => rfl) ?_ ?_) ⟨k + 1, by omega, rfl, rfl⟩
        · exact eA
        · refine allh rfl (by decide) (blen rfl fun i hi => grow_step _ _ k i) True.intro True.intro
      · have h' : ¬ (k : Int) < n := h
        obtain rfl : k = n := by omega
        refine run0 ?_
        refine ⟨.inr rfl, _, imp_rowv 4 (fun i => .q (B (π i) k / B (π i) i)) rfl rfl rfl (fun i hi => grow_full _ _ hi), ?_⟩
        exact .two (.tmp rfl) (.tmp rfl)
end Go.Proofs.Ytjmpanhacfjcaaa.AM
/- The document's way to solve: walked. -/
namespace Go.Proofs.Ytjmpanhacfjcaaa.AM
open Go Go.RowKit Go.Proofs.Ytjmpanhacfjcaaa.PN Go.Proofs.Ytjmpanhacfjcaaa.V
open Go.Proofs.Ytjmpanhacfjcaaa.LA (S S_succ S_zero S_congr)
set_option linter.unusedVariables false
set_option linter.unusedSimpArgs false
set_option maxRecDepth 8000
set_option maxHeartbeats 8000000
/-- The answer, as far as it is known: the last k parts. -/
def xs (n : Nat) (P : Nat → Nat → Rat) (k i : Nat) : RA := if n - k ≤ i then .q (bsx n P k i) else ra0
theorem xs_at {n k i : Nat} {P : Nat → Nat → Rat} (h : n - k ≤ i) : xs n P k i = .q (bsx n P k i) := if_pos h
theorem xs_step {n k i : Nat} {P : Nat → Nat → Rat} (hk : k < n) (hi : i < n) : updN (xs n P k) (n - 1 - k) (.q (bsx n P (k + 1) (n - 1 - k))) i = xs n P (k + 1) i := by
  by_cases e : i = n - 1 - k
  · subst e; rw [updN_same, xs_at (by omega)]
  · rw [updN_ne _ _ e]
    unfold xs
    by_cases h : n - k ≤ i
    · rw [if_pos h, if_pos (by omega), bsx_later (k := k) (k' := k + 1) (by omega) (by omega) h hi]
    · rw [if_neg h, if_neg (by omega)]
theorem sbd_mono (X Y : Nat → Nat) (i : Nat) : ∀ {u k : Nat}, u ≤ k → sbd X Y i u ≤ sbd X Y i k := by
  intro u k h
  induction h with
  | refl => exact Nat.le_refl _
  | step h ih =>
    rename_i m
    show _ ≤ sbd X Y i m + (X i + Y (i + 1 + m)) + 1
    omega
structure BB (n : Nat) (F : Nat → Nat → Rat) (b : Nat → Rat) (X : Nat → Nat) : Prop where
  tb : TB n (n + 1) 2400 (augb n F b)
  P : ∀ i, i < n → ∀ j, Wt (PR (gt n F b) i j) (X i)
  ok : ybOK n X = true
theorem r7_solve {n : Nat} {F : Nat → Nat → Rat} {b : Nat → Rat} {X : Nat → Nat} (hB : BB n F b X) (h0 : 0 < n) (hn : n ≤ 8) : Has Try.prog 23 [.mat false n (fun _ => n) (fun i j => .q (F i j)), .row false n (fun i => .q (b i))] (if gdet n F = 0 then .tup (.row true 0 fun _ => .q 0) (.i 9) else .tup (.row true n fun i => .q (bsx n (PR (gt n F b)) n i)) (.i 0)) := by
  have hcl : (if gdet n F = 0 then AV.tup (.row true 0 fun _ => .q 0) (.i 9) else .tup (.row true n fun i => .q (bsx n (PR (gt n F b)) n i)) (.i 0)).closed = true := by split <;> rfl
  refine has_of Try.func23 (by kernel_rfl) rfl Try.ntmps23 Try.results23 rfl hcl rfl ?_
  have hrow : ∀ {σ : Ren} {k : Nat} {z : Nat → RA}, BLe σ (.rats (0 + n + 1) (glue (0 + n) (glue 0 z (fun j => .q (F k j))) (fun i => [RA.q (b k)].getD i ra0))) (.rats (n + 1) fun j => .q (augb n F b k j)) := fun {σ k z} => blen (by omega) fun j hj => by
    unfold glue augb aug
    rw [Nat.zero_add]
    by_cases e : j < n
    · rw [if_pos e, if_pos e, if_neg (Nat.not_lt_zero _), Nat.sub_zero]
    · obtain rfl : j = n := by omega
      rw [if_neg e, if_neg e, Nat.sub_self]; rfl
  refine run0 ?_
  refine awp_loop (fun m' s => ∃ k, k ≤ n ∧ m' = n - k ∧ s = famT 7 3 [(0, .mat false n (fun _ => n) (fun i j => .q (F i j))), (1, .row false n (fun i => .q (b i))), (6, .i n), (8, .i (k : Int))] [] (n + 1) (augb n F b) k) n _ (imp_id (h := []) (e := [(7, .v (.slice none 0 0)), (0, .mat false n (fun _ => n) (fun i j => .q (F i j))), (1, .row false n (fun i => .q (b i))), (6, .i n), (8, .i ((0 : Nat) : Int))]) ?_ ?_) ⟨0, Nat.zero_le _, rfl, rfl⟩ ?_
  · exact eA
  · exact hA
  · rintro m' s ⟨k, hk, rfl, rfl⟩
    rcases k with _ | k
    · refine run0 ?_
      refine awp_if rfl (fun h => ?_) (fun h => absurd (show ((0 : Nat) : Int) < n by omega) h)
      refine run0 ?_
      refine q_loop (m' := n - (0 + 1)) (by omega) (famT_close (k := 0) (a := 37) (b := 35) (F2 := fun _ => .rats 0 fun _ => ra0) rfl rfl rfl (fun i hi => absurd hi (Nat.not_lt_zero _)) rfl (fun h => absurd h (Nat.lt_irrefl _)) (fun r hr => absurd hr (Nat.not_lt_zero _)) rfl (by exact hrow) rfl (by decide) rfl ?_ (by exact True.intro)) ⟨0 + 1, by omega, rfl, rfl⟩
      refine alle rfl (Le.eq rfl rfl) True.intro (alle rfl (Le.eq rfl rfl) True.intro (alle rfl (Le.eq rfl rfl) True.intro (alle rfl (Le.eq rfl rfl) True.intro True.intro)))
    · refine run0 ?_
      refine awp_if rfl (fun h => ?_) (fun h => ?_)
      · have h : k + 1 < n := by omega
        refine run0 ?_
        refine q_loop (m' := n - (k + 1 + 1)) (by omega) (famT_close (k := k + 1) (a := 37) (b := 35) rfl rfl rfl (fun i hi => if_pos hi) (by show (if _ then _ else _) = _; rw [if_neg (Nat.lt_irrefl _), Nat.sub_self]; rfl) (fun _ => rfl) (fun r hr => blen rfl fun j hj => rfl) rfl (by exact hrow) rfl (by decide) rfl ?_ (by exact True.intro)) ⟨k + 1 + 1, by omega, rfl, rfl⟩
        refine alle rfl (Le.eq rfl rfl) True.intro (alle rfl (Le.eq rfl rfl) True.intro (alle rfl (Le.eq rfl rfl) True.intro (alle rfl (Le.eq rfl rfl) True.intro True.intro)))
      · obtain rfl : k + 1 = n := by omega
        refine awp_imp ((imp_TH (n := k + 1) (t := 7) (g := 3) (m := k + 1 + 1) (π := fun i => i) (A := augb (k + 1) F b) (e := [(6, .i ((k + 1 : Nat) : Int)), (7, .own 7 0)]) (l := []) rfl rfl (fun _ _ => rfl) rfl (fun r hr => blen rfl fun _ _ => rfl) rfl ?_ ?_).trans (imp_mat2 7 (fun _ => k + 1 + 1) (fun i j => .q (augb (k + 1) F b i j)) rfl rfl rfl (fun _ _ => rfl) rfl (fun _ _ => rfl) (by decide))) ?_
        · exact eA
        · exact hA
        generalize hN : k + 1 = N at *
        have c1 := r7_triangle hB.tb (by decide) h0 hn (Nat.le_succ N) (by omega)
        have eg : stps N (N + 1) false (augb N F b) N = gt N F b := rfl
        rw [eg, gt_det] at c1
        have c2 := hs_nought (p := gdet N F)
        repeat(first|refine run1 ?_|((with_reducible apply st_call);exact rfl;exact rfl;exact rfl;first|(exact c1)|(exact c2))|((with_reducible apply st_callg);exact rfl;exact rfl;(first|exact rfl|assumption);exact rfl;exact rfl;exact rfl;first|(exact c1)|(exact c2)))
        by_cases hd : gdet N F = 0
        · rw [if_pos hd]
          refine awp_yes rfl (decide_eq_true hd) ?_
          refine run0 ?_
          refine ⟨.inr rfl, _, imp_slot (y := .row true 0 fun _ => .q 0) 4 rfl True.intro Le.nilrow, ?_⟩
          exact .two (.tmp rfl) (.tmp rfl)
        · rw [if_neg hd]
          refine awp_no rfl (decide_eq_false hd) ?_
          obtain ⟨_, hnz, _⟩ := gt_nz (b := b) hd
          have hP := hB.P
          have hok := hB.ok
          have hPR : (fun i j => RA.q ((gt N F b).A ((gt N F b).π i) j)) = fun i j => RA.q (PR (gt N F b) i j) := rfl
          rw [hPR]
          generalize PR (gt N F b) = P at *
          have hb : ∀ k, k < N → sbd X (ybd N X k) (N - 1 - k) k ≤ 15000 ∧ X (N - 1 - k) ≤ 15000 := fun k hk => by
            have := List.all_eq_true.1 hok k (List.mem_range.2 hk)
            rw [Bool.and_eq_true] at this
            exact ⟨Nat.le_of_ble_eq_true this.1, Nat.le_of_ble_eq_true this.2⟩
          refine run0 ?_
          refine awp_loop (fun m' s => ∃ k, k ≤ N ∧ m' = N - k ∧ s = stl [(6, .i N), (9, .mat true N (fun _ => N + 1) (fun i j => .q (P i j))), (12, .own 48 0), (13, .i ((N : Int) - 1 - k))] [(48, (1, fun _ => .rats N (xs N P k)))]) N _ (imp_id ?_ ?_) ⟨0, Nat.zero_le _, rfl, rfl⟩ ?_
          · refine alle rfl (Le.id rfl) True.intro (alle rfl (Le.id rfl) True.intro (alle rfl (Le.id rfl) rfl (alle rfl (Le.id ?_) True.intro True.intro)))
            exact congrArg AV.i (by omega)
          · refine allh rfl (by decide) (blen rfl fun i hi => ?_) True.intro True.intro
            exact (if_neg (by omega)).symm
          · rintro m' s ⟨k, hk, rfl, rfl⟩
            refine run0 ?_
            refine awp_if rfl (fun h => ?_) (fun h => ?_)
            · have hkN : k < N := by omega
              obtain ⟨I, hI⟩ : ∃ I, N - 1 - k = I := ⟨_, rfl⟩
              have eI : (N : Int) - 1 - k = (I : Int) := by omega
              have hIN : I < N := by omega
              obtain ⟨hb1, hb2⟩ := hb k hkN
              have hy : ∀ u, u < k → Wt (bsx N P k (I + 1 + u)) (ybd N X k (I + 1 + u)) := fun u hu => ybd_wt (X := X) hP k hk _ (by omega) (by omega)
              have hsw : ∀ u, u ≤ k → Wt (P I N - S u fun v => P I (I + 1 + v) * bsx N P k (I + 1 + v)) (sbd X (ybd N X k) I u) := fun u hu => sbd_wt (X := X) (Y := ybd N X k) (hP I hIN N) (hP I hIN) u (fun v hv => hy v (by omega))
              have hsl : ∀ u, u ≤ k → sbd X (ybd N X k) I u ≤ 15000 := fun u hu => Nat.le_trans (sbd_mono X _ I hu) (by rw [← hI]; exact hb1)
              rw [hI] at hb2
              rw [eI]
              refine run0 ?_
              refine awp_loop (fun m' s => ∃ u, u ≤ k ∧ m' = k - u ∧ s = stl [(6, .i N), (9, .mat true N (fun _ => N + 1) (fun i j => .q (P i j))), (12, .own 48 0), (13, .i I), (14, .rptr 14 0 0), (15, .i ((I + 1 + u : Nat) : Int))] [(48, (1, fun _ => .rats N (xs N P k))), (14, (1, fun _ => .rats 1 fun _ => .q (P I N - S u fun v => P I (I + 1 + v) * bsx N P k (I + 1 + v))))]) k _ (imp_id ?_ ?_) ⟨0, Nat.zero_le _, rfl, rfl⟩ ?_
              · exact eA
              · refine allh rfl (by decide) (blen rfl fun _ _ => rfl) True.intro (allh rfl (by decide) (ble1 (congrArg RA.q ?_)) True.intro True.intro)
                rw [S_zero, Rat.sub_eq_add_neg, Rat.neg_zero, Rat.add_zero]; rfl
              · rintro m' s ⟨u, hu, rfl, rfl⟩
                refine run0 ?_
                refine awp_if rfl (fun h1 => ?_) (fun h1 => ?_)
                · have huk : u < k := by omega
                  have d1 := cs_mul (p := P I (I + 1 + u)) (q := bsx N P k (I + 1 + u)) (hp := hP I hIN _) (hq := hy u huk) ⟨hb2, by have := hsl (u + 1) huk; unfold sbd at this; omega⟩
                  have wm : Wt (P I (I + 1 + u) * bsx N P k (I + 1 + u)) (X I + ybd N X k (I + 1 + u)) := Wt.mul (h := hP I hIN _) (k := hy u huk)
                  have d2 := cs_sub (p := P I N - S u fun v => P I (I + 1 + v) * bsx N P k (I + 1 + v)) (q := P I (I + 1 + u) * bsx N P k (I + 1 + u)) (hp := hsw u hu) (hq := wm) ⟨hsl u hu, by have := hsl (u + 1) huk; unfold sbd at this; omega⟩
                  refine run0 ?_
                  rw [show xs N P k (((I + 1 + u : Nat) : Int)).toNat = .q (bsx N P k (I + 1 + u)) from xs_at (show N - k ≤ I + 1 + u by omega)]
                  repeat(first|refine run1 ?_|((with_reducible apply st_call);exact rfl;exact rfl;exact rfl;first|(exact d1)|(exact d2))|((with_reducible apply st_callg);exact rfl;exact rfl;(first|exact rfl|assumption);exact rfl;exact rfl;exact rfl;first|(exact d1)|(exact d2)))
                  refine q_loop (m' := k - (u + 1)) (by omega) (imp_id (e := [(6, .i N), (9, .mat true N (fun _ => N + 1) (fun i j => .q (P i j))), (12, .own 48 0), (13, .i I), (14, .rptr 14 0 0), (15, .i ((I + 1 + (u + 1) : Nat) : Int))]) (h := [(48, (1, fun _ => .rats N (xs N P k))), (14, (1, fun _ => .rats 1 fun _ => .q (P I N - S (u + 1) fun v => P I (I + 1 + v) * bsx N P k (I + 1 + v))))]) ?_ ?_) ⟨u + 1, by omega, rfl, rfl⟩
                  · exact eA
                  · refine allh rfl (by decide) (blen rfl fun _ _ => rfl) True.intro (allh rfl (by decide) (ble1 (congrArg RA.q ?_)) True.intro True.intro)
                    rw [S_succ]; grind
                · obtain rfl : u = k := by omega
                  have hd2 := hnz I hIN
                  have ev : bsx N P (u + 1) (N - 1 - u) = (P I N - S u fun v => P I (I + 1 + v) * bsx N P u (I + 1 + v)) / P I I := by rw [bsx_at, hI]
                  have d3 := cs_over (p := P I N - S u fun v => P I (I + 1 + v) * bsx N P u (I + 1 + v)) (q := P I I) (hp := hsw u hu) (hq := hP I hIN I) ⟨hsl u hu, hb2⟩ hd2
                  repeat(first|refine run1 ?_|((with_reducible apply st_call);exact rfl;exact rfl;exact rfl;first|(exact d3))|((with_reducible apply st_callg);exact rfl;exact rfl;(first|exact rfl|assumption);exact rfl;exact rfl;exact rfl;first|(exact d3)))
                  refine q_loop (m' := N - (u + 1)) (by omega) (imp_id (e := [(6, .i N), (9, .mat true N (fun _ => N + 1) (fun i j => .q (P i j))), (12, .own 48 0), (13, .i ((N : Int) - 1 - (u + 1 : Nat)))]) (h := [(48, (1, fun _ => .rats N (xs N P (u + 1))))]) ?_ ?_) ⟨u + 1, by omega, rfl, rfl⟩
                  · refine alle rfl (Le.id rfl) True.intro (alle rfl (Le.id rfl) True.intro (alle rfl (Le.id rfl) rfl (alle rfl (Le.id ?_) True.intro True.intro)))
                    exact congrArg AV.i (by omega)
                  · refine allh rfl (by decide) (blen rfl fun i hi => ?_) True.intro True.intro
                    have := xs_step (P := P) hkN hi
                    rw [ev, hI] at this
                    exact this
            · obtain rfl : k = N := by omega
              refine run0 ?_
              refine ⟨.inr rfl, _, imp_rowv 4 (fun i => .q (bsx k P k i)) rfl rfl rfl (fun i hi => xs_at (by omega)), ?_⟩
              exact .two (.tmp rfl) (.tmp rfl)
end Go.Proofs.Ytjmpanhacfjcaaa.AM
/- Laws of dense matrices: DenseSolves, walked. -/
namespace Go.Proofs.Ytjmpanhacfjcaaa.AM
open Go Go.RowKit Go.Proofs.Ytjmpanhacfjcaaa.PN Go.Proofs.Ytjmpanhacfjcaaa.V
open Go.Proofs.Ytjmpanhacfjcaaa.LA (S S_succ S_zero S_congr app)
set_option linter.unusedVariables false
set_option linter.unusedSimpArgs false
set_option maxRecDepth 8000
set_option maxHeartbeats 8000000
/-- A vector of which only n parts are known to be short. -/
theorem r7_applyb {n m K L : Nat} {F : Nat → Nat → Rat} {v : Nat → Rat} [hf : ∀ i j, Wt (F i j) K] (hv : ∀ i, i < m → Wt (v i) L) (hL : 1 ≤ L) (hK : m * (K + L + 1) + 1 ≤ 15000 ∧ K + L ≤ 15000) (hn : n ≤ 8) (hm : m ≤ 8) : Has Try.prog 27 [.mat false n (fun _ => m) (fun i j => .q (F i j)), .row false m (fun i => .q (v i))] (.row true n (fun i => .q (S m fun j => F i j * v j))) := by
  have w : ∀ i, Wt (if i < m then v i else 0) L := fun i => by
    split
    · rename_i h; exact hv i h
    · exact (inferInstance : Wt 0 1).mono hL
  have e : (fun i => RA.q (S m fun j => F i j * v j)) = fun i => RA.q (S m fun j => F i j * (if j < m then v j else 0)) := by
    funext i; exact congrArg RA.q (S_congr fun j hj => by rw [if_pos hj])
  rw [e]
  refine Has.args (r7_apply (v := fun i => if i < m then v i else 0) (hf := hf) (hv := w) hK hn hm) fun S B β w vs hv => rvs_cons (fun v hv => hv) (fun us hu => rvs_cons (rv_row fun i hi => ?_) (fun us hu => hu) hu) hv
  rw [if_pos hi]
theorem augb_bt {n K : Nat} {F : Nat → Nat → Rat} {b : Nat → Rat} [hf : ∀ i j, Bt (F i j) K] [hb : ∀ i, Bt (b i) K] (i j : Nat) : Bt (augb n F b i j) K := by
  unfold augb aug; split
  · exact hf i j
  · exact hb _
/-- How long rows are: of so many bits. -/
def xbd (K i : Nat) : Nat := 4 ^ i * (K + 1) / 32 + 1
theorem BB.of {n K : Nat} {F : Nat → Nat → Rat} {b : Nat → Rat} (h0 : 0 < n) (hK : 1 ≤ K) (hX : 3 * (4 ^ (n - 1) * (K + 1)) / 32 + 1 ≤ 2400) [hf : ∀ i j, Bt (F i j) K] [hb : ∀ i, Bt (b i) K] (hok : ybOK n (xbd K) = true) : BB n F b (xbd K) := by
  have hA : ∀ i j, Bt (augb n F b i j) K := fun i j => augb_bt (hf := hf) (hb := hb) i j
  refine ⟨TB.of h0 hK (hA := hA) hX, fun i hi j => ?_, hok⟩
  have h := pr_bits (n := n) (m := n + 1) hK (hA := hA) n i hi j
  have h2 : 4 ^ (min i (stps n (n + 1) false (augb n F b) n).at') * (K + 1) - 1 ≤ 4 ^ i * (K + 1) := by
    have := Nat.mul_le_mul_right (K + 1) (Nat.pow_le_pow_right (show 0 < 4 by decide) (Nat.min_le_left i (stps n (n + 1) false (augb n F b) n).at'))
    omega
  exact (h.mono h2).wt (Nat.le_refl _)
theorem yb11 : ∀ n : _root_.Fin 6, ybOK n.val (xbd 11) = true ∧ ∀ i : _root_.Fin 6, ybd n.val (xbd 11) n.val i.val ≤ 2500 := by decide +kernel
theorem k_solves {n : Int} {ns vs : List Int} (_ : Fits .i64 n) (h1 : AllFit ns) (h2 : AllFit vs) : Has Try.prog 4 [.i n, .seq .i64 ns, .seq .i64 vs] (.b true) := by
  refine has_of Try.func4 (by kernel_rfl) rfl Try.ntmps4 Try.results4 rfl rfl rfl ?_
  obtain ⟨q1, q2⟩ := wthn_lt (a := n) (n := 5) (by decide)
  obtain ⟨N, hN⟩ : ∃ N : Nat, 1 + wthn n 5 = (N : Int) := ⟨(1 + wthn n 5).toNat, by omega⟩
  have hN0 : 0 < N := by omega
  have hN8 : N ≤ 8 := by omega
  repeat(first|refine run1 ?_|((with_reducible apply st_call);exact rfl;exact rfl;exact rfl;first|(exact k_known))|((with_reducible apply st_callg);exact rfl;exact rfl;(first|exact rfl|assumption);exact rfl;exact rfl;exact rfl;first|(exact k_known)))
  refine awp_no rfl rfl ?_
  repeat(first|refine run1 ?_|((with_reducible apply st_call);exact rfl;exact rfl;exact rfl;first|(exact k_within7 (by decide) (by decide)))|((with_reducible apply st_callg);exact rfl;exact rfl;(first|exact rfl|assumption);exact rfl;exact rfl;exact rfl;first|(exact k_within7 (by decide) (by decide))))
  rw [hN]
  have wA : ∀ i j, Wt (mkm N ns i j) 3 := fun i j => mkm_wt _ _ _ _
  have wb : ∀ i, Wt (rowq vs i) 3 := fun i => (rowq_wt _ _).mono (by decide)
  have hT : TB N N 2400 (mkm N ns) := mkm_TB hN0 (by omega)
  have m1 := k_make hN0 hN8 h1
  have m2 := k_row (zs := vs) (n := N) (by omega) h2
  obtain ⟨y1, y2⟩ := yb11 ⟨N, by omega⟩
  have hB : BB N (mkm N ns) (rowq vs) (xbd 11) := by
    refine BB.of hN0 (by decide) ?_ (hf := fun i j => mkm_bt N ns i j) (hb := fun i => (rowq_bt vs i).mono (by decide)) y1
    have : 4 ^ (N - 1) ≤ 4 ^ 4 := Nat.pow_le_pow_right (by decide) (by omega)
    have e : 4 ^ 4 = 256 := rfl
    omega
  generalize mkm N ns = A at *
  generalize rowq vs = b at *
  have wy : ∀ i, i < N → Wt (bsx N (PR (gt N A b)) N i) 2500 := fun i hi => (ybd_wt (X := xbd 11) hB.P N (Nat.le_refl N) i (by omega) hi).mono (y2 ⟨i, by omega⟩)
  have c1 := d_solve (hf := wA) (hb := wb) (by decide) hN0 hN8
  have c2 := r7_solve hB hN0 hN8
  have c3 := r7_det hT (by decide) hN0 hN8
  have c4 := hs_nought (p := gdet N A)
  by_cases hd : gdet N A = 0
  · rw [if_pos hd] at c1 c2
    rw [decide_eq_true hd] at c4
    have c5 := k_rows (n := 0) (f := fun _ => 0) (g := fun _ => 0) (hf := fun _ => Wt.zero) (by decide) (by decide) (fun _ _ => rfl)
    repeat(first|refine run1 ?_|((with_reducible apply st_call);exact rfl;exact rfl;exact rfl;first|(exact m1)|(exact m2)|(exact c1)|(exact c2)|(exact c5))|((with_reducible apply st_callg);exact rfl;exact rfl;(first|exact rfl|assumption);exact rfl;exact rfl;exact rfl;first|(exact m1)|(exact m2)|(exact c1)|(exact c2)|(exact c5)))
    refine awp_no rfl rfl ?_
    refine run0 ?_
    refine awp_yes rfl rfl ?_
    repeat(first|refine run1 ?_|((with_reducible apply st_call);exact rfl;exact rfl;exact rfl;first|(exact c3)|(exact c4))|((with_reducible apply st_callg);exact rfl;exact rfl;(first|exact rfl|assumption);exact rfl;exact rfl;exact rfl;first|(exact c3)|(exact c4)))
    refine ⟨.inr rfl, _, Imp.refl _, ?_⟩
    exact .one (.tmp rfl)
  · rw [if_neg hd] at c1 c2
    rw [decide_eq_false hd] at c4
    have wx : ∀ i, i < N → Wt (gjx N A b i) 2500 := fun i hi => by rw [solve_same hd hi]; exact wy i hi
    have c5 := k_rowsb wx (by decide) (by decide) (show N ≤ 1000 by omega) (fun i hi => solve_same (b := b) hd hi)
    have hs := (gj_nz (b := b) hd).2.2
    have hm : N * (3 + 2500 + 1) ≤ 5 * (3 + 2500 + 1) := Nat.mul_le_mul_right _ (by omega)
    have c6 := r7_applyb (F := A) (hf := wA) wx (by decide) ⟨by omega, by decide⟩ hN8 hN8
    have c7 := k_rowsb (f := fun i => S N fun j => A i j * gjx N A b j) (g := b) (K := 3) (fun i hi => by rw [show (S N fun j => A i j * gjx N A b j) = b i from hs i hi]; exact wb i) (by decide) (by decide) (show N ≤ 1000 by omega) (fun i hi => hs i hi)
    repeat(first|refine run1 ?_|((with_reducible apply st_call);exact rfl;exact rfl;exact rfl;first|(exact m1)|(exact m2)|(exact c1)|(exact c2)|(exact c5))|((with_reducible apply st_callg);exact rfl;exact rfl;(first|exact rfl|assumption);exact rfl;exact rfl;exact rfl;first|(exact m1)|(exact m2)|(exact c1)|(exact c2)|(exact c5)))
    refine awp_no rfl rfl ?_
    refine run0 ?_
    refine awp_no rfl rfl ?_
    repeat(first|refine run1 ?_|((with_reducible apply st_call);exact rfl;exact rfl;exact rfl;first|(exact c6)|(exact c7)|(exact c3)|(exact c4))|((with_reducible apply st_callg);exact rfl;exact rfl;(first|exact rfl|assumption);exact rfl;exact rfl;exact rfl;first|(exact c6)|(exact c7)|(exact c3)|(exact c4)))
    refine ⟨.inr rfl, _, Imp.refl _, ?_⟩
    exact .one (.tmp rfl)
end Go.Proofs.Ytjmpanhacfjcaaa.AM

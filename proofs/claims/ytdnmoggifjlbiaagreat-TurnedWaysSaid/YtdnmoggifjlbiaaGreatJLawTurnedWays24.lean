/- Joined texts, 24: PSolve LawN Wthn TuC AmNf PLev PMin. -/
import Derived.Test.YtdnmoggifjlbiaaGreatJLawTurnedWays23
import Derived.Test.YtdnmoggifjlbiaaGreatJLawTurnedWays14
import Derived.Test.YtdnmoggifjlbiaaGreatJLawTurnedWays19
import Derived.Test.YtdnmoggifjlbiaaGreatJLawTurnedWays20
import Derived.Test.YtdnmoggifjlbiaaGreatJLawTurnedWays21
import Derived.Test.YtdnmoggifjlbiaaGreatJLawTurnedWays15
set_option linter.unusedVariables false
set_option linter.unusedSimpArgs false
/- Systems: what both ways answer, in plain functions. -/
namespace Go.Proofs.YtdnmoggifjlbiaaGreat.AM
open Go.Proofs.YtdnmoggifjlbiaaGreat.PN
open Go.Proofs.YtdnmoggifjlbiaaGreat.LA (Mt S S_succ S_zero S_congr S_add S_mul S_mulr S_single S_null S_append det HasRank app unique)
set_option linter.unusedVariables false
set_option linter.unusedSimpArgs false
/-- A matrix with a column more. -/
abbrev augb (n : Nat) (F : Nat → Nat → Rat) (b : Nat → Rat) : Nat → Nat → Rat := aug n F fun i j => b (i + j)
/-- All columns cleaned; the answer. -/
noncomputable def gj (n : Nat) (F : Nat → Nat → Rat) (b : Nat → Rat) : ES := stps n (n + 1) true (augb n F b) n
noncomputable def gjx (n : Nat) (F : Nat → Nat → Rat) (b : Nat → Rat) (i : Nat) : Rat := PR (gj n F b) i n / PR (gj n F b) i i
/-- The triangle; from the last row up. -/
noncomputable def gt (n : Nat) (F : Nat → Nat → Rat) (b : Nat → Rat) : ES := stps n (n + 1) false (augb n F b) n
def bsx (n : Nat) (P : Nat → Nat → Rat) : Nat → Nat → Rat
  | 0 => fun _ => 0
  | k + 1 => updN (bsx n P k) (n - 1 - k) ((P (n - 1 - k) n - S k fun u => P (n - 1 - k) (n - 1 - k + 1 + u) * bsx n P k (n - 1 - k + 1 + u)) / P (n - 1 - k) (n - 1 - k))
theorem bsx_at {n : Nat} {P : Nat → Nat → Rat} {k : Nat} : bsx n P (k + 1) (n - 1 - k) = (P (n - 1 - k) n - S k fun u => P (n - 1 - k) (n - 1 - k + 1 + u) * bsx n P k (n - 1 - k + 1 + u)) / P (n - 1 - k) (n - 1 - k) := updN_same _ _ _
theorem bsx_later {n : Nat} {P : Nat → Nat → Rat} : ∀ {k k' i : Nat}, k ≤ k' → k' ≤ n → n - k ≤ i → i < n → bsx n P k' i = bsx n P k i := by
  intro k k' i h
  induction h with
  | refl => intro _ _ _; rfl
  | step h ih =>
    rename_i m
    intro h1 h2 h3
    have h' : k ≤ m := h
    rw [← ih (by omega) h2 h3]
    exact updN_ne _ _ (show i ≠ n - 1 - m by omega)
/-- From the last row up: what was asked. -/
theorem bsx_solves {n : Nat} {P : Nat → Nat → Rat} (hz : ∀ i j, i < n → j < i → P i j = 0) (hd : ∀ i, i < n → P i i ≠ 0) {i : Nat} (hi : i < n) : S n (fun j => P i j * bsx n P n j) = P i n := by
  obtain ⟨k, rfl⟩ : ∃ k, i = n - 1 - k := ⟨n - 1 - i, by omega⟩
  obtain ⟨k, hk, hki⟩ : ∃ k', k' < n ∧ n - 1 - k = n - 1 - k' := ⟨n - 1 - (n - 1 - k), by omega, by omega⟩
  rw [hki] at hi ⊢
  clear hki
  generalize hI : n - 1 - k = I at *
  have hn : n = I + (1 + k) := by omega
  have e0 : S n (fun j => P I j * bsx n P n j) = S (I + (1 + k)) (fun j => P I j * bsx n P n j) := by rw [← hn]
  rw [e0, S_append, S_null (n := I) (fun j hj => by rw [hz I j hi hj, Rat.zero_mul]), S_append, S_succ, S_zero, Rat.zero_add, Rat.zero_add]
  have e1 : bsx n P n (I + 0) = (P I n - S k fun u => P I (I + 1 + u) * bsx n P k (I + 1 + u)) / P I I := by
    rw [Nat.add_zero, bsx_later (k := k + 1) (by omega) (Nat.le_refl n) (by omega) hi]
    have := bsx_at (n := n) (P := P) (k := k)
    rw [hI] at this; exact this
  have e2 : S k (fun i => P I (I + (1 + i)) * bsx n P n (I + (1 + i))) = S k (fun u => P I (I + 1 + u) * bsx n P k (I + 1 + u)) := S_congr fun u hu => by
    rw [show I + (1 + u) = I + 1 + u by omega, bsx_later (k := k) (by omega) (Nat.le_refl n) (by omega) (by omega)]
  rw [e1, e2, Nat.add_zero]
  generalize S k (fun u => P I (I + 1 + u) * bsx n P k (I + 1 + u)) = s
  rw [Rat.mul_comm, Rat.div_mul_cancel (hd I hi)]
  grind
/-- What the rows of P send x to, those of A do, too. -/
theorem ker_app {n : Nat} {A : Nat → Nat → Rat} {x : Nat → Rat} (h : Ker n (n + 1) A fun j => if j < n then x j else -1) {r : Nat} (hr : r < n) : S n (fun j => A r j * x j) = A r n := by
  have h1 := h r hr
  rw [S_succ] at h1
  dsimp only at h1
  rw [if_neg (Nat.lt_irrefl n), S_congr (g := fun j => A r j * x j) fun j hj => by rw [if_pos hj]] at h1
  grind
theorem app_ker {n : Nat} {A : Nat → Nat → Rat} {x : Nat → Rat} (h : ∀ r, r < n → S n (fun j => A r j * x j) = A r n) : Ker n (n + 1) A fun j => if j < n then x j else -1 := by
  intro r hr
  rw [S_succ]
  dsimp only
  rw [if_neg (Nat.lt_irrefl n), S_congr (g := fun j => A r j * x j) fun j hj => by rw [if_pos hj], h r hr]
  grind
theorem augb_app {n : Nat} {F : Nat → Nat → Rat} {b x : Nat → Rat} {r : Nat} (h : S n (fun j => augb n F b r j * x j) = augb n F b r n) : app n F x r = b r := by
  have e1 : S n (fun j => augb n F b r j * x j) = app n F x r := S_congr fun j hj => by
    show (if j < n then _ else _) * _ = _; rw [if_pos hj]
  rw [← e1, h]
  show (if n < n then _ else b (r + (n - n))) = _
  rw [if_neg (Nat.lt_irrefl n), Nat.sub_self, Nat.add_zero]
theorem det_augb (n : Nat) (F : Nat → Nat → Rat) (b : Nat → Rat) : det n (augb n F b) = det n F := LA.det_congr fun i j _ hj => if_pos hj
theorem gj_full (n : Nat) (F : Nat → Nat → Rat) (b : Nat → Rat) : (gj n F b).at' < n ↔ gdet n F = 0 := by
  have h1 := LA.rank_full (fin_rank (n := n) (m := n + 1) (all := true) (A := augb n F b) (Nat.le_succ n))
  rw [gdet_det, ← det_augb n F b]
  unfold gj
  constructor
  · intro h; exact Classical.byContradiction fun h2 => by have := h1.2.2 h2; omega
  · intro h
    rcases Nat.lt_or_ge (stps n (n + 1) true (augb n F b) n).at' n with h3 | h3
    · exact h3
    · exact absurd h (h1.2.1 (by omega))
theorem gt_full (n : Nat) (F : Nat → Nat → Rat) (b : Nat → Rat) : (gt n F b).at' < n ↔ gdet n F = 0 := by
  have h1 := LA.rank_full (fin_rank (n := n) (m := n + 1) (all := false) (A := augb n F b) (Nat.le_succ n))
  rw [gdet_det, ← det_augb n F b]
  unfold gt
  constructor
  · intro h; exact Classical.byContradiction fun h2 => by have := h1.2.2 h2; omega
  · intro h
    rcases Nat.lt_or_ge (stps n (n + 1) false (augb n F b) n).at' n with h3 | h3
    · exact h3
    · exact absurd h (h1.2.1 (by omega))
theorem gt_det (n : Nat) (F : Nat → Nat → Rat) (b : Nat → Rat) : dd n (gt n F b) = gdet n F := by
  rw [gdet_det, ← det_augb n F b]; exact fin_det (Nat.le_succ n)
theorem gj_nz {n : Nat} {F : Nat → Nat → Rat} {b : Nat → Rat} (h : gdet n F ≠ 0) : (gj n F b).at' = n ∧ (∀ i, i < n → PR (gj n F b) i i ≠ 0) ∧ ∀ i, i < n → app n F (gjx n F b) i = b i := by
  obtain ⟨σ, col, hG⟩ := stps_gi (n := n) (m := n + 1) (all := true) (A := augb n F b) n (Nat.le_succ n)
  have h1 := (stps_perm (n := n) (m := n + 1) (all := true) (A := augb n F b) n).1
  have h2 := gj_full n F b
  have hG : GI n (n + 1) n true (augb n F b) (gj n F b) σ col := hG
  have h1 : (gj n F b).at' ≤ n := h1
  have hf : (gj n F b).at' = n := by
    rcases Nat.lt_or_ge (gj n F b).at' n with h3 | h3
    · exact absurd (h2.1 h3) h
    · omega
  have hcol := hG.full hf
  have hnz : ∀ i, i < n → PR (gj n F b) i i ≠ 0 := fun i hi => by have := hG.nz i (by omega); rw [hcol i hi] at this; exact this
  refine ⟨hf, hnz, fun i hi => ?_⟩
  refine augb_app (ker_app (hG.re.ker (app_ker fun r hr => ?_)) hi)
  rw [S_single hr (fun j hj hne => by rw [show PR (gj n F b) r j = 0 by have := hG.cl rfl j r (by omega) hr (Ne.symm hne); rw [hcol j hj] at this; exact this, Rat.zero_mul])]
  unfold gjx
  rw [Rat.mul_comm, Rat.div_mul_cancel (hnz r hr)]
theorem gt_nz {n : Nat} {F : Nat → Nat → Rat} {b : Nat → Rat} (h : gdet n F ≠ 0) : (gt n F b).at' = n ∧ (∀ i, i < n → PR (gt n F b) i i ≠ 0) ∧ ∀ i, i < n → app n F (bsx n (PR (gt n F b)) n) i = b i := by
  obtain ⟨σ, col, hG⟩ := stps_gi (n := n) (m := n + 1) (all := false) (A := augb n F b) n (Nat.le_succ n)
  have h1 := (stps_perm (n := n) (m := n + 1) (all := false) (A := augb n F b) n).1
  have h2 := gt_full n F b
  have hG : GI n (n + 1) n false (augb n F b) (gt n F b) σ col := hG
  have h1 : (gt n F b).at' ≤ n := h1
  have hf : (gt n F b).at' = n := by
    rcases Nat.lt_or_ge (gt n F b).at' n with h3 | h3
    · exact absurd (h2.1 h3) h
    · omega
  have hcol := hG.full hf
  have hnz : ∀ i, i < n → PR (gt n F b) i i ≠ 0 := fun i hi => by have := hG.nz i (by omega); rw [hcol i hi] at this; exact this
  refine ⟨hf, hnz, fun i hi => ?_⟩
  exact augb_app (ker_app (hG.re.ker (app_ker fun r hr => bsx_solves (fun i j hi hj => hG.ahead i (by omega) j (by rw [hcol i hi]; exact hj)) hnz hr)) hi)
theorem solve_same {n : Nat} {F : Nat → Nat → Rat} {b : Nat → Rat} (h : gdet n F ≠ 0) {i : Nat} (hi : i < n) : gjx n F b i = bsx n (PR (gt n F b)) n i := by
  refine unique (by rw [← gdet_det]; exact h) (fun r hr => ?_) i hi
  rw [(gj_nz (b := b) h).2.2 r hr, (gt_nz (b := b) h).2.2 r hr]
/-! ### How long they are -/
theorem pr_bits {n m K : Nat} {A : Nat → Nat → Rat} (hK : 1 ≤ K) [hA : ∀ i j, Bt (A i j) K] : ∀ c, ∀ r, r < n → ∀ j, Bt (PR (stps n m false A c) r j) (4 ^ (min r (stps n m false A c).at') * (K + 1) - 1)
  | 0, r, hr, j => by
    have h : Bt (PR (stps n m false A 0) r j) K := hA r j
    refine h.mono ?_
    show K ≤ 4 ^ (min r 0) * (K + 1) - 1
    rw [Nat.min_zero, Nat.pow_zero]; omega
  | c + 1, r, hr, j => by
    have ih := pr_bits (n := n) (m := m) hK (hA := hA) c
    obtain ⟨_, hlt, hinj⟩ := stps_perm (n := n) (m := m) (all := false) (A := A) c
    show Bt (PR (stp n m false (stps n m false A c) c) r j) (4 ^ (min r (stp n m false (stps n m false A c) c).at') * (K + 1) - 1)
    generalize stps n m false A c = s at *
    obtain ⟨a, d, π, B⟩ := s
    have ih : ∀ r, r < n → ∀ j, Bt (B (π r) j) (4 ^ (min r a) * (K + 1) - 1) := ih
    unfold stp
    split
    · rename_i hi
      obtain ⟨h1, _⟩ := fnd_le (fun i => B (π i) c ≠ 0) (n - a) a
      have hi : fnd (fun i => B (π i) c ≠ 0) (n - a) a < n := hi
      show Bt (cln B (swp π (fnd (fun i => B (π i) c ≠ 0) (n - a) a) a) false a c m n (swp π (fnd (fun i => B (π i) c ≠ 0) (n - a) a) a r) j) (4 ^ (min r (a + 1)) * (K + 1) - 1)
      generalize fnd (fun i => B (π i) c ≠ 0) (n - a) a = i0 at *
      have han : a < n := by omega
      have hinj' := swp_inj (n := n) (i := i0) (j := a) hinj hi han
      have hs : ∀ r, r < n → a ≤ r → ∀ j, Bt (B (swp π i0 a r) j) (4 ^ a * (K + 1) - 1) := fun r hr har j => by
        have key : ∃ r', r' < n ∧ a ≤ r' ∧ swp π i0 a r = π r' := by
          unfold swp updN
          by_cases e1 : r = a
          · rw [if_pos e1]; exact ⟨i0, hi, h1, rfl⟩
          · rw [if_neg e1]
            by_cases e2 : r = i0
            · rw [if_pos e2]; exact ⟨a, han, Nat.le_refl a, rfl⟩
            · rw [if_neg e2]; exact ⟨r, hr, har, rfl⟩
        obtain ⟨r', h3, h4, h5⟩ := key
        have := ih r' h3 j
        rw [show min r' a = a by omega] at this
        rw [h5]; exact this
      have hp : 1 ≤ 4 ^ a := Nat.pow_pos (by decide)
      have hpk : K + 1 ≤ 4 ^ a * (K + 1) := Nat.le_mul_of_pos_left _ hp
      rcases Nat.lt_or_ge a r with h2 | h2
      · rw [show min r (a + 1) = a + 1 by omega, Nat.pow_succ, Nat.mul_right_comm]
        by_cases hj : c ≤ j ∧ j < m
        · rw [cln_at hinj' hr j ⟨.inl h2, hj⟩]
          have w1 := hs r hr (by omega)
          have w2 := hs a han (Nat.le_refl a)
          exact (inferInstance : Bt (B (swp π i0 a r) j - B (swp π i0 a r) c / B (swp π i0 a a) c * B (swp π i0 a a) j) _).mono (by omega)
        · rw [cln_not hinj' hr j (fun e => hj e.2)]
          exact (hs r hr (by omega) j).mono (by omega)
      · rw [cln_not hinj' hr j (fun e => by rcases e.1 with h3 | ⟨h3, _⟩; omega; cases h3), show min r (a + 1) = r by omega]
        by_cases e : r = a
        · subst e; exact hs r hr (Nat.le_refl r) j
        · have e2 : swp π i0 a r = π r := by
            unfold swp updN
            rw [if_neg e, if_neg (by omega)]
          have := ih r hr j
          rw [show min r a = r by omega] at this
          rw [e2]; exact this
    · exact ih r hr j
/-- How long the parts of an answer are, from the last up. -/
def sbd (X : Nat → Nat) (Y : Nat → Nat) (i : Nat) : Nat → Nat
  | 0 => X i
  | k + 1 => sbd X Y i k + (X i + Y (i + 1 + k)) + 1
def ybd (n : Nat) (X : Nat → Nat) : Nat → Nat → Nat
  | 0 => fun _ => 0
  | k + 1 => fun i => if i = n - 1 - k then sbd X (ybd n X k) (n - 1 - k) k + X (n - 1 - k) else ybd n X k i
def ybOK (n : Nat) (X : Nat → Nat) : Bool := (List.range n).all fun k => Nat.ble (sbd X (ybd n X k) (n - 1 - k) k) 15000 && Nat.ble (X (n - 1 - k)) 15000
theorem sbd_wt {n i : Nat} {P : Nat → Nat → Rat} {x : Nat → Rat} {X Y : Nat → Nat} (h0 : Wt (P i n) (X i)) (hP : ∀ j, Wt (P i j) (X i)) : ∀ k, (∀ u, u < k → Wt (x (i + 1 + u)) (Y (i + 1 + u))) → Wt (P i n - S k fun u => P i (i + 1 + u) * x (i + 1 + u)) (sbd X Y i k)
  | 0, _ => by rw [S_zero, Rat.sub_eq_add_neg, Rat.neg_zero, Rat.add_zero]; exact h0
  | k + 1, h => by
    have h1 := sbd_wt (n := n) (x := x) (X := X) (Y := Y) h0 hP k (fun u hu => h u (by omega))
    have h2 := h k (Nat.lt_succ_self k)
    have h3 := hP (i + 1 + k)
    rw [S_succ, show ∀ a b c : Rat, a - (b + c) = (a - b) - c by intros; grind]
    exact (inferInstance : Wt ((P i n - S k fun u => P i (i + 1 + u) * x (i + 1 + u)) - P i (i + 1 + k) * x (i + 1 + k)) _)
theorem ybd_wt {n : Nat} {P : Nat → Nat → Rat} {X : Nat → Nat} (hP : ∀ i, i < n → ∀ j, Wt (P i j) (X i)) : ∀ k, k ≤ n → ∀ i, n - k ≤ i → i < n → Wt (bsx n P k i) (ybd n X k i)
  | 0, _, i, h1, h2 => by omega
  | k + 1, hk, i, h1, h2 => by
    have ih := ybd_wt (X := X) hP k (by omega)
    by_cases e : i = n - 1 - k
    · subst e
      rw [bsx_at]
      show Wt _ (if _ then _ else _)
      rw [if_pos rfl]
      have h3 := sbd_wt (n := n) (x := bsx n P k) (X := X) (Y := ybd n X k) (hP _ h2 n) (hP _ h2) k (fun u hu => ih _ (by omega) (by omega))
      have h4 := hP _ h2 (n - 1 - k)
      exact inferInstance
    · show Wt (updN (bsx n P k) (n - 1 - k) _ i) (if _ then _ else _)
      rw [updN_ne _ _ e, if_neg e]
      exact ih i (by omega) h2
end Go.Proofs.YtdnmoggifjlbiaaGreat.AM
/- Systems: both ways walked. -/
namespace Go.Proofs.YtdnmoggifjlbiaaGreat.AM
open Go Go.RowKit Go.Proofs.YtdnmoggifjlbiaaGreat.PN Go.Proofs.YtdnmoggifjlbiaaGreat.V
open Go.Proofs.YtdnmoggifjlbiaaGreat.LA (S S_succ S_zero S_congr)
set_option linter.unusedVariables false
set_option linter.unusedSimpArgs false
set_option maxRecDepth 8000
set_option maxHeartbeats 8000000
theorem augb_wt {n K : Nat} {F : Nat → Nat → Rat} {b : Nat → Rat} [hf : ∀ i j, Wt (F i j) K] [hb : ∀ i, Wt (b i) K] (i j : Nat) : Wt (augb n F b i j) K := by
  unfold augb aug; split
  · exact hf i j
  · exact hb _
theorem d_beside {n i : Nat} {b : Nat → Rat} (hi : i < n) (hn : n ≤ 8) : Has Tryz.prog 111 [.i i, .cp (.row false n fun i => .q (b i))] (.row false 1 (fun j => .q (b (i + j)))) := by
  refine has_of Tryz.func111 (by kernel_rfl) rfl Tryz.ntmps111 Tryz.results111 rfl rfl rfl ?_
  refine run0 ?_
  refine ⟨.inr rfl, _, imp_slot (y := .row false 1 (fun j => .q (b (i + j)))) 3 rfl True.intro (Le.row (by omega) (fun _ _ => rfl) fun h => h), ?_⟩
  exact .one (.tmp rfl)
theorem d_solve {n K : Nat} {F : Nat → Nat → Rat} {b : Nat → Rat} [hf : ∀ i j, Wt (F i j) K] [hb : ∀ i, Wt (b i) K] (hK : K ≤ 399) (h0 : 0 < n) (hn : n ≤ 8) : Has Tryz.prog 77 [.mat false n (fun _ => n) (fun i j => .q (F i j)), .row false n (fun i => .q (b i))] (if gdet n F = 0 then .tup (.row true 0 fun _ => .q 0) (.i 9) else .tup (.row true n fun i => .q (gjx n F b i)) (.i 0)) := by
  have hcl : (if gdet n F = 0 then AV.tup (.row true 0 fun _ => .q 0) (.i 9) else .tup (.row true n fun i => .q (gjx n F b i)) (.i 0)).closed = true := by split <;> rfl
  refine has_of Tryz.func77 (by kernel_rfl) rfl Tryz.ntmps77 Tryz.results77 rfl hcl rfl ?_
  have wA : ∀ i j, Wt (augb n F b i j) K := fun i j => augb_wt (hf := hf) (hb := hb) i j
  refine run2 ?_
  refine awp_imp (imp_cell 3 rfl rfl rfl rfl) ?_
  have gN : decide ((n : Int) ≠ n) = false := decide_eq_false fun h => h rfl
  have gN2 : (decide ((n : Int) ≠ n) == false) = true := by rw [gN]; rfl
  repeat(first|refine run1 ?_|((with_reducible apply st_call);exact rfl;exact rfl;exact rfl;first|(exact d_square (hf := hf) (by omega) h0 (by omega))|(exact d_right (hf := hb) (by omega) (by omega)))|((with_reducible apply st_callg);exact rfl;exact rfl;(first|exact rfl|assumption);exact rfl;exact rfl;exact rfl;first|(exact d_square (hf := hf) (by omega) h0 (by omega))|(exact d_right (hf := hb) (by omega) (by omega))))
  refine awp_no rfl rfl ?_
  have c := d_of (n := n) (e := 1) (mm := 1) (g := 111) (c := fun i => ([AV.cp (.row false n fun i => .q (b i))].getD i (.v undef)).old) (F := F) (G := fun i j => b (i + j)) hn h0 (Nat.le_refl 1) rfl (fun i hi => d_beside hi hn)
  refine run0 ?_
  ((with_reducible apply st_callH); exact rfl; exact rfl; exact rfl; exact (c); (first | exact True.intro | exact ⟨rfl, rfl, rfl, True.intro⟩); exact rfl; exact rfl; exact rfl; exact rfl; (focus (repeat (first | exact True.intro | refine ⟨(by first | exact True.intro | rfl | exact ok_none (closed_ok rfl)), ?_⟩))); (first | exact True.intro | exact okf_WH | exact okf_pf (by exact True.intro) (by exact True.intro)))
  refine run0 ?_
  ((with_reducible apply st_callH); exact rfl; exact rfl; exact rfl; exact (d_steps (all := true) (hA := wA) (by omega) hn (by omega) (Nat.le_succ n)); (first | exact True.intro | exact ⟨rfl, rfl, rfl, True.intro⟩); exact rfl; exact rfl; exact rfl; exact rfl; (focus (repeat (first | exact True.intro | refine ⟨(by first | exact True.intro | rfl | exact ok_none (closed_ok rfl)), ?_⟩))); (first | exact True.intro | exact okf_WH | exact okf_pf (by exact True.intro) (by exact True.intro)))
  refine run0 ?_
  have hok := stps_ok (n := n) (m := n + 1) (all := true) (hA := wA) n
  have hX : 5 ^ n * (K + 1) ≤ 390625 * 400 := Nat.mul_le_mul (Nat.pow_le_pow_right (by decide) hn) (by omega)
  have eg : stps n (n + 1) true (augb n F b) n = gj n F b := rfl
  by_cases hd : gdet n F = 0
  · have hlt := (gj_full n F b).2 hd
    rw [if_pos hd]
    refine awp_yes rfl ?_ ?_
    · exact decide_eq_true (show ((stps n (n + 1) true (augb n F b) n).at' : Int) < n by rw [eg]; omega)
    refine run0 ?_
    refine ⟨.inr rfl, _, imp_slot (y := .row true 0 fun _ => .q 0) 4 rfl True.intro Le.nilrow, ?_⟩
    exact .two (.tmp rfl) (.tmp rfl)
  · obtain ⟨hat, hnz, _⟩ := gj_nz (b := b) hd
    have hxe : gjx n F b = fun i => PR (gj n F b) i n / PR (gj n F b) i i := rfl
    rw [if_neg hd, hxe]
    refine awp_no rfl ?_ ?_
    · exact decide_eq_false (show ¬ ((stps n (n + 1) true (augb n F b) n).at' : Int) < n by rw [eg]; omega)
    rw [eg] at hok
    rw [eg]
    generalize gj n F b = T at *
    obtain ⟨a, d, π, B⟩ := T
    have hlt : ∀ i, i < n → π i < n := hok.lt
    have wB : ∀ i j, Wt (B i j) (390625 * 400) := fun i j => (hok.wA i j).mono hX
    have hnz : ∀ i, i < n → B (π i) i ≠ 0 := hnz
    have hP : ∀ i j, PR ⟨a, d, π, B⟩ i j = B (π i) j := fun _ _ => rfl
    simp only [hP]
    refine run0 ?_
    refine awp_loop (fun m' s => ∃ k, k ≤ n ∧ m' = n - k ∧ s = stl [(0, .mat false n (fun _ => n) (fun i j => .q (F i j))), (7, .own 35 0), (6, .ptr 60 0 0), (39, .own 61 0), (40, .i n), (41, .i (k : Int))] (WH n (n + 1) d π B ++ [(35, (1, fun _ => .rats n (grow (fun i => .q (B (π i) n / B (π i) i)) ra0 k)))])) n _ (imp_WHt rfl rfl (fun _ _ => rfl) rfl rfl (fun _ _ => rfl) rfl (fun r hr => blen rfl fun _ _ => rfl) ?_ ?_) ⟨0, Nat.zero_le _, rfl, rfl⟩ ?_
    · exact eA
    · refine allh rfl (by decide) (blen rfl fun _ _ => rfl) True.intro True.intro
    · rintro m' s ⟨k, hk, rfl, rfl⟩
      refine run0 ?_
      refine awp_if rfl (fun h => ?_) (fun h => ?_)
      · have h' : (k : Int) < n := h
        have hkn : k < n := by omega
        have hpk := hlt k hkn
        repeat(first|refine run1 ?_|((with_reducible apply st_call);exact rfl;exact rfl;exact rfl;first|(exact c_quo ⟨by omega, by omega⟩ (hnz k hkn)))|((with_reducible apply st_callg);exact rfl;exact rfl;(first|exact rfl|assumption);exact rfl;exact rfl;exact rfl;first|(exact c_quo ⟨by omega, by omega⟩ (hnz k hkn))))
        refine q_loop (m' := n - (k + 1)) (by omega) (imp_WHt (n := n) (m := n + 1) (d := d) (π := π) (A := B) (e := [(0, .mat false n (fun _ => n) (fun i j => .q (F i j))), (7, .own 35 0), (6, .ptr 60 0 0), (39, .own 61 0), (40, .i n), (41, .i ((k + 1 : Nat) : Int))]) (t := [(35, (1, fun _ => .rats n (grow (fun i => .q (B (π i) n / B (π i) i)) ra0 (k + 1))))]) rfl rfl (fun _ _ => rfl) rfl rfl (fun _ _ => rfl) rfl (fun r hr => blen rfl fun _ _ => rfl) ?_ ?_) ⟨k + 1, by omega, rfl, rfl⟩
        · exact eA
        · refine allh rfl (by decide) (blen rfl fun i hi => grow_step _ _ k i) True.intro True.intro
      · have h' : ¬ (k : Int) < n := h
        obtain rfl : k = n := by omega
        refine run0 ?_
        refine ⟨.inr rfl, _, imp_rowv 4 (fun i => .q (B (π i) k / B (π i) i)) rfl rfl rfl (fun i hi => grow_full _ _ hi), ?_⟩
        exact .two (.tmp rfl) (.tmp rfl)
end Go.Proofs.YtdnmoggifjlbiaaGreat.AM
/- Numbers from 0 to n - 1, in each package of laws. -/
namespace Go.Proofs.YtdnmoggifjlbiaaGreat.AM
open Go Go.RowKit Go.Proofs.YtdnmoggifjlbiaaGreat.PN Go.Proofs.YtdnmoggifjlbiaaGreat.V
set_option linter.unusedVariables false
set_option linter.unusedSimpArgs false
theorem k_within10 {a n : Int} (hn : 0 < n) (hn' : n < 1000000000) : Has Tryz.prog 114 [.i a, .i n] (.i (wthn a n)) := by
  refine has_of Tryz.func114 (by kernel_rfl) rfl Tryz.ntmps114 Tryz.results114 rfl rfl rfl ?_
  have h1 := Int.tmod_lt_of_pos a hn
  have h2 : -n < a.tmod n := Int.lt_tmod_of_pos a hn
  refine run0 ?_
  refine awp_if rfl (fun h => ?_) (fun h => ?_)
  · have e : wthn a n = a.tmod n + n := if_pos h
    rw [e]
    refine run0 ?_
    refine ⟨.inr rfl, _, Imp.refl _, ?_⟩
    exact .one (.tmp rfl)
  · have e : wthn a n = a.tmod n := if_neg h
    rw [e]
    refine run0 ?_
    refine ⟨.inr rfl, _, Imp.refl _, ?_⟩
    exact .one (.tmp rfl)
theorem k_within12 {a n : Int} (hn : 0 < n) (hn' : n < 1000000000) : Has Tryz.prog 41 [.i a, .i n] (.i (wthn a n)) := by
  refine has_of Tryz.func41 (by kernel_rfl) rfl Tryz.ntmps41 Tryz.results41 rfl rfl rfl ?_
  have h1 := Int.tmod_lt_of_pos a hn
  have h2 : -n < a.tmod n := Int.lt_tmod_of_pos a hn
  refine run0 ?_
  refine awp_if rfl (fun h => ?_) (fun h => ?_)
  · have e : wthn a n = a.tmod n + n := if_pos h
    rw [e]
    refine run0 ?_
    refine ⟨.inr rfl, _, Imp.refl _, ?_⟩
    exact .one (.tmp rfl)
  · have e : wthn a n = a.tmod n := if_neg h
    rw [e]
    refine run0 ?_
    refine ⟨.inr rfl, _, Imp.refl _, ?_⟩
    exact .one (.tmp rfl)
end Go.Proofs.YtdnmoggifjlbiaaGreat.AM
/- Package turned: systems. -/
namespace Go.Proofs.YtdnmoggifjlbiaaGreat.AM
open Go Go.RowKit Go.Proofs.YtdnmoggifjlbiaaGreat.PN Go.Proofs.YtdnmoggifjlbiaaGreat.V
open Go.Proofs.YtdnmoggifjlbiaaGreat.LA (S S_succ S_zero S_congr)
set_option linter.unusedVariables false
set_option linter.unusedSimpArgs false
set_option maxRecDepth 8000
set_option maxHeartbeats 8000000
def fA2 (a b : Int) (i : Nat) : AV := [AV.i a, .i b].getD i (.v undef)
theorem t_of {g : GD} {m : Nat} {q : Nat → RA} (h : g.OK) : Has Tryz.prog 72 [g.v, .row false m q] (.ag 2 (fA2 g.k m)) := by
  refine has_of Tryz.func72 (by kernel_rfl) rfl Tryz.ntmps72 Tryz.results72 rfl (by rfl) rfl ?_
  refine run0p ?_
  refine ⟨.inr rfl, stl [(4, .ptr 4 0 0)] [(4, (1, fun _ => .ones 91 2 (fA2 g.k m)))], imp_id ?_ ?_, .one (.agg rfl rfl rfl rfl (by decide) rfl rfl)⟩
  · exact eA
  · refine allh rfl (by decide) (bleo rfl fun i hi => ?_) (fun i _ => ?_) True.intro
    · match i, hi with
      | 0, _ => exact Le.id rfl
      | 1, _ => exact Le.id rfl
    · match i with
      | 0 | 1 => trivial
      | _ + 2 => trivial
theorem t_fits (a b c d : Int) : Has Tryz.prog 73 [.ag 2 (fA2 a b), .ag 2 (fA2 c d)] (.i (if a = c then (if b = d then 0 else 3) else 2)) := by
  refine has_of Tryz.func73 (by kernel_rfl) rfl Tryz.ntmps73 Tryz.results73 rfl rfl rfl ?_
  by_cases h1 : a = c
  · by_cases h2 : b = d
    · rw [if_pos h1, if_pos h2]
      refine run0p ?_
      refine awp_yes rfl (by rw [decide_eq_true h1, decide_eq_true h2]; rfl) ?_
      refine run0p ?_
      exact ⟨.inr rfl, _, Imp.refl _, .one (.tmp rfl)⟩
    · rw [if_pos h1, if_neg h2]
      refine run0p ?_
      refine awp_no rfl (by rw [decide_eq_true h1, decide_eq_false h2]; rfl) ?_
      refine run0p ?_
      refine awp_no rfl (decide_eq_false fun h => h h1) ?_
      refine run0p ?_
      exact ⟨.inr rfl, _, Imp.refl _, .one (.tmp rfl)⟩
  · rw [if_neg h1]
    refine run0p ?_
    refine awp_no rfl (by rw [decide_eq_false h1]; rfl) ?_
    refine run0p ?_
    refine awp_yes rfl (decide_eq_true h1) ?_
    refine run0p ?_
    exact ⟨.inr rfl, _, Imp.refl _, .one (.tmp rfl)⟩
theorem t_circle1 {p : Rat} (hs : wt p ≤ 1000000000000) : Has Tryz.prog 75 [.q p] (.b false) := by
  refine has_of Tryz.func75 (by kernel_rfl) rfl Tryz.ntmps75 Tryz.results75 rfl rfl rfl ?_
  repeat(first|refine run1p ?_|((with_reducible apply st_call);exact rfl;exact rfl;exact rfl;first|(exact h_right hs))|((with_reducible apply st_callg);exact rfl;exact rfl;(first|exact rfl|assumption);exact rfl;exact rfl;exact rfl;first|(exact h_right hs)))
  exact ⟨.inr rfl, _, Imp.refl _, .one (.tmp rfl)⟩
theorem Has.gf2 {P : Program} {f : FuncId} {n : Nat} {u u' : Nat → AV} {r : AV} (h : ∀ i, i < n → u i = u' i) {c c' : Nat → AV} (k : ∀ i, i < n → c i = c' i) (H : Has P f [.ag n u', .ag n c'] r) : Has P f [.ag n u, .ag n c] r :=
  Has.args H fun S B β w vs hv => rvs_cons (rv_agv fun i hi v hv => h i hi ▸ hv) (fun us hu => rvs_cons (rv_agv fun i hi v hv => k i hi ▸ hv) (fun us hu => hu) hu) hv
theorem two2 {f f' : Nat → AV} (h0 : f 0 = f' 0) (h1 : f 1 = f' 1) : ∀ i, i < 2 → f i = f' i := fun i hi => by
  match i, hi with
  | 0, _ => exact h0
  | 1, _ => exact h1
theorem t_circle {g : GD} {b : Nat → Rat} (h : g.OK) (hk : g.k = 3) (hb : ∀ i, Wt (b i) 300) : Has Tryz.prog 36 [g.v, .row false g.n fun i => .q (b i)] (if gdet g.n (gec g) = 0 then .tup (.row true 0 fun _ => .q 0) (.i 9) else .tup (.row true g.n fun i => .q (gjx g.n (gec g) b i)) (.i 0)) := by
  have n1 := h.n1; have n8 := h.n8
  have hcl : (if gdet g.n (gec g) = 0 then AV.tup (.row true 0 fun _ => .q 0) (.i 9) else .tup (.row true g.n fun i => .q (gjx g.n (gec g) b i)) (.i 0)).closed = true := by split <;> rfl
  refine has_of Tryz.func36 (by kernel_rfl) rfl Tryz.ntmps36 Tryz.results36 rfl hcl rfl ?_
  have wF : ∀ i j, Wt (gec g i j) 300 := fun i j => gec_wt h i j
  have c1 := t_of (m := g.n) (q := fun i => .q (b i)) h
  have c2 := t_fits g.k g.n 3 g.n
  rw [if_pos (by omega), if_pos rfl] at c2
  have c3 := g_contains0 (n := g.n) (q := fun i => .q (b i)) (f := 75) (by omega) (fun i hi => t_circle1 (Nat.le_trans (hb i).le (by decide)))
  have c4 := d_solve (n := g.n) (F := gec g) (b := b) (hf := wF) (hb := hb) (by decide) n1 n8
  repeat(first|refine run1p ?_|((with_reducible apply st_call);exact rfl;exact rfl;exact rfl;first|(exact Has.ag (g7 rfl rfl rfl rfl rfl rfl rfl) c1)|(refine Has.gf2 (u' := fA2 g.k g.n) (c' := fA2 3 g.n) ?_ ?_ c2 <;> exact two2 rfl rfl))|((with_reducible apply st_callg);exact rfl;exact rfl;(first|exact rfl|assumption);exact rfl;exact rfl;exact rfl;first|(exact Has.ag (g7 rfl rfl rfl rfl rfl rfl rfl) c1)|(refine Has.gf2 (u' := fA2 g.k g.n) (c' := fA2 3 g.n) ?_ ?_ c2 <;> exact two2 rfl rfl)))
  refine awp_no rfl rfl ?_
  repeat(first|refine run1p ?_|((with_reducible apply st_call);exact rfl;exact rfl;exact rfl;first|(exact c3))|((with_reducible apply st_callg);exact rfl;exact rfl;(first|exact rfl|assumption);exact rfl;exact rfl;exact rfl;first|(exact c3)))
  refine awp_no rfl rfl ?_
  by_cases hd : gdet g.n (gec g) = 0
  · rw [if_pos hd] at c4 ⊢
    repeat(first|refine run1p ?_|((with_reducible apply st_call);exact rfl;exact rfl;exact rfl;first|(exact Has.ag (g7 rfl rfl rfl rfl rfl rfl rfl) (ge_expand h))|(exact Has.gec c4))|((with_reducible apply st_callg);exact rfl;exact rfl;(first|exact rfl|assumption);exact rfl;exact rfl;exact rfl;first|(exact Has.ag (g7 rfl rfl rfl rfl rfl rfl rfl) (ge_expand h))|(exact Has.gec c4)))
    exact ⟨.inr rfl, _, Imp.refl _, .two (.tmp rfl) (.tmp rfl)⟩
  · rw [if_neg hd] at c4 ⊢
    repeat(first|refine run1p ?_|((with_reducible apply st_call);exact rfl;exact rfl;exact rfl;first|(exact Has.ag (g7 rfl rfl rfl rfl rfl rfl rfl) (ge_expand h))|(exact Has.gec c4))|((with_reducible apply st_callg);exact rfl;exact rfl;(first|exact rfl|assumption);exact rfl;exact rfl;exact rfl;first|(exact Has.ag (g7 rfl rfl rfl rfl rfl rfl rfl) (ge_expand h))|(exact Has.gec c4)))
    exact ⟨.inr rfl, _, Imp.refl _, .two (.tmp rfl) (.tmp rfl)⟩
theorem sim_stl {W : Wd} {N : Nat} {β : Nat → Nat → Value} {w : World} {a : Act} {s : St} {e : List (Nat × AV)} {h : List (Nat × Fam)} (hs : Sim W N β w a s) (hn : W.F = none) (σ : Ren) (hinj : ∀ g r g' r', memN g (keys h) = true → memN g' (keys h) = true → σ g r = σ g' r' → g = g' ∧ r = r')
    (he : AllE s σ (fun g => memN g (keys h)) e) (hh : AllH s σ (fun g => memN g (keys h)) h) : Sim W N (ren σ β) w a (stl e h) := by
  have hown : ∀ i, Own (stl e h) (ren σ β) i → Own s β i := by
    rintro i ⟨g, n, F, r, h1, h2, h3⟩
    obtain ⟨n', F', a1, a2, _, _⟩ := hh.get (lkp_mem h1) r h2
    exact ⟨_, n', F', _, a1, a2, h3⟩
  have kg : Fwd (notOwn W s β) (notOwn W (stl e h) (ren σ β)) W.w.heap.size W.w.heap.size (fun g => memN g (keys h)) (ren σ β) (ren σ β) (fun _ => False) w w :=
    ⟨Ext.refl _ _, fun _ _ h => h, fun b hb _ => ⟨hb.1, fun ho => hb.2 (hown b ho)⟩, Nat.le_refl _, fun _ _ _ => rfl⟩
  refine ⟨hs.kept, hs.nodef, hs.size, fun t y hy => ?_, fun g n F r h1 h2 => ?_, fun g n F h1 => lkp_key h1, fun g n F r g' n' F' r' i h1 h2 h3 h4 h5 h6 => ?_, hs.fix, fun i ho => hs.pin i (hown i ho), fun u hu => (by rw [hn] at hu; cases hu), fun u hu => (by rw [hn] at hu; cases hu)⟩
  · obtain ⟨x, a1, a2, a3⟩ := he.get (lkp_mem hy)
    exact ⟨a3, (a2 _ _ _ _ _ (hs.env t x a1).2).fwd kg a3⟩
  · obtain ⟨n', F', a1, a2, a3, a4⟩ := hh.get (lkp_mem h1) r h2
    exact ⟨a4, RB.fwd kg a4 (fun _ _ h => h) (rb_ble a3 (hs.heap _ _ _ _ a1 a2).2)⟩
  · obtain ⟨m, G, a1, a2, _, _⟩ := hh.get (lkp_mem h1) r h2
    obtain ⟨m', G', b1, b2, _, _⟩ := hh.get (lkp_mem h3) r' h4
    have := hs.inj _ _ _ _ _ _ _ _ i a1 a2 b1 b2 h5 h6
    exact hinj g r g' r' (lkp_key h1) (lkp_key h3) (Prod.ext this.1 this.2)
/-- What a call has made, under other names. -/
theorem HasH.ren {P : Program} {f : FuncId} {xs : List AV} {r r' : AV} {h h' : List (Nat × Fam)} (H : HasH P f [] xs r h) (σ : Ren) (hinj : ∀ g q g' q', memN g (keys h') = true → memN g' (keys h') = true → σ g q = σ g' q' → g = g' ∧ q = q')
    (he : AllE (stl [(0, r)] h) σ (fun g => memN g (keys h')) [(0, r')]) (hh : AllH (stl [(0, r)] h) σ (fun g => memN g (keys h')) h') : HasH P f [] xs r' h' := by
  refine ⟨H.b, fun W β w vs hl hF hs => (H.run W β w vs hl hF hs).mono ?_⟩
  rintro e w' ⟨v, β', rfl, hs', _⟩
  have hn : W.F = none := by
    cases e : W.F with
    | none => rfl
    | some u => have := hs.keep u e 60 rfl; cases this
  exact ⟨v, AM.ren σ β', rfl, sim_stl hs' hn σ hinj he hh, fun g hg => by cases hg⟩
/-- .. of other words for the arguments. -/
theorem HasH.args0 {P : Program} {f : FuncId} {xs xs' : List AV} {r : AV} {h : List (Nat × Fam)} (H : HasH P f [] xs' r h) (hlen : xs'.length = xs.length) (hc : ∀ t x', lk xs' t = some x' → x'.ok (fun _ => false) ∧ ∃ x, lk xs t = some x ∧ ∀ S B β w v, RV S B β w x v → RV S B β w x' v) : HasH P f [] xs r h := by
  refine ⟨H.b, fun W β w vs hl hF hs => H.run W β w vs (hlen.trans hl) hF ?_⟩
  refine ⟨hs.kept, hs.nodef, hs.size, fun t x' hx => ?_, hs.heap, hs.live, hs.inj, hs.fix, hs.pin, hs.fixd, hs.keep⟩
  obtain ⟨h1, x, h2, h3⟩ := hc t x' hx
  exact ⟨ok_none h1, h3 _ _ _ _ _ (hs.env t x h2).2⟩
abbrev RVm (n : Nat) (f : Nat → Rat) : List (Nat × Fam) := [(60, (1, fun _ => .rats n fun i => .q (f i))), (61, (0, fun _ => .rats 0 fun _ => ra0)), (62, (0, fun _ => .rats 0 fun _ => ra0))]
theorem okf_rv {U : Nat → Bool} {n : Nat} {f : Nat → Rat} : okf U (RVm n f) := ⟨fun _ _ => True.intro, fun _ _ => True.intro, fun _ _ => True.intro, trivial⟩
theorem Le.tup3 {σ : Ren} {a b c a' b' c' : AV} (h1 : Le σ a a') (h2 : Le σ b b') (h3 : Le σ c c') : Le σ (.tup3 a b c) (.tup3 a' b' c') := by
  rintro S B β w v ⟨x, y, z, e, k1, k2, k3⟩
  exact ⟨x, y, z, e, h1 _ _ _ _ _ k1, h2 _ _ _ _ _ k2, h3 _ _ _ _ _ k3⟩
theorem lv_solver {g : GD} {b : Nat → Rat} (h : g.OK) (hk : g.k = 1) (hb : ∀ i, i < g.n → wt (b i) ≤ 100) (hd : ∀ k, k < g.n → lvd (gent g) k ≠ 0) : HasH Tryz.prog 81 [] [g.v, .row false g.n fun i => .q (b i)] (.tup3 (.own 60 0) (.i 0) (.i 0)) (RVm g.n (lvs (gent g) b g.n)) := by
  have hi : ∀ g1 r1 g2 r2, memN g1 [60, 61, 62] = true → memN g2 [60, 61, 62] = true → s1 60 63 g1 r1 = s1 60 63 g2 r2 → g1 = g2 ∧ r1 = r2 := s1_injl (by decide)
  refine (lv_solveo h hk hb hd).ren (s1 60 63) hi ⟨⟨_, rfl, Le.tup3 (Le.own s1_t) (Le.eq rfl rfl) (Le.eq rfl rfl), by exact ⟨rfl, True.intro, True.intro⟩⟩, True.intro⟩ ?_
  exact allh rfl Nat.zero_lt_one (blen rfl fun _ _ => rfl) True.intro (allz (allz True.intro))
/-- A list, turned about in place. -/
theorem t_reverse {n : Nat} {f : Nat → Rat} (h1 : 1 ≤ n) (hn : n ≤ 8) : HasH Tryz.prog 82 (RVm n f) [.own 60 0] (.v (.tuple #[])) (RVm n fun i => f (n - 1 - i)) := by
  refine hasH_of Tryz.func82 (by kernel_rfl) rfl Tryz.ntmps82 Tryz.results82 True.intro rfl rfl ?_
  refine run0p ?_
  refine st_ev rfl ⟨rfl, show -9223372036854775808 ≤ (n : Int) - 1 ∧ (n : Int) - 1 ≤ 9223372036854775807 by omega⟩ ?_
  refine run0p ?_
  refine awp_loop (fun m' s => ∃ i, 2 * i ≤ n + 1 ∧ m' = n - i ∧ s = stl [(0, .own 60 0), (2, .i (i : Int)), (3, .i ((n : Int) - 1 - i))] (RVm n fun k => if k < i ∨ n - 1 - i < k then f (n - 1 - k) else f k)) n _ (imp_id ?_ ?_) ⟨0, by omega, rfl, rfl⟩ ?_
  · exact alle rfl (Le.id rfl) rfl (alle rfl (Le.id rfl) True.intro (alle rfl (Le.id (congrArg AV.i (show (n : Int) - 1 = (n : Int) - 1 - ((0 : Nat) : Int) by omega))) True.intro True.intro))
  · refine allh rfl (by decide) (blen rfl fun k hk => ?_) True.intro (allz (allz True.intro))
    have hk : k < n := hk
    exact congrArg RA.q (show f k = if k < 0 ∨ n - 1 - 0 < k then f (n - 1 - k) else f k by rw [if_neg (by omega)])
  rintro m' s ⟨i, hi, rfl, rfl⟩
  refine run0p ?_
  refine awp_if rfl (fun h => ?_) (fun h => ?_)
  · have h : (i : Int) < (n : Int) - 1 - i := h
    have e1 : ((n : Int) - 1 - (i : Int)).toNat = n - 1 - i := by omega
    refine run0p ?_
    refine q_loop (m' := n - (i + 1)) (by omega) (imp_id ?_ ?_) ⟨i + 1, by omega, rfl, rfl⟩
    · exact alle rfl (Le.id rfl) rfl (alle rfl (Le.id rfl) True.intro (alle rfl (Le.id (congrArg AV.i (show (n : Int) - 1 - (i : Int) - 1 = (n : Int) - 1 - ((i + 1 : Nat) : Int) by omega))) True.intro True.intro))
    · refine allh rfl (by decide) (blen rfl fun k hk => ?_) True.intro (allz (allz True.intro))
      have hk : k < n := hk
      show updN (updN (fun k => RA.q (if k < i ∨ n - 1 - i < k then f (n - 1 - k) else f k)) i ((fun k => RA.q (if k < i ∨ n - 1 - i < k then f (n - 1 - k) else f k)) ((n : Int) - 1 - (i : Int)).toNat)) ((n : Int) - 1 - (i : Int)).toNat ((fun k => RA.q (if k < i ∨ n - 1 - i < k then f (n - 1 - k) else f k)) i) k = RA.q (if k < i + 1 ∨ n - 1 - (i + 1) < k then f (n - 1 - k) else f k)
      rw [e1]
      unfold updN
      by_cases c1 : k = n - 1 - i
      · subst c1
        rw [if_pos rfl, if_pos (by omega)]
        show RA.q (if i < i ∨ n - 1 - i < i then f (n - 1 - i) else f i) = _
        rw [if_neg (by omega), show n - 1 - (n - 1 - i) = i by omega]
      · rw [if_neg c1]
        by_cases c2 : k = i
        · subst c2
          rw [if_pos rfl, if_pos (by omega)]
          show RA.q (if n - 1 - k < k ∨ n - 1 - k < n - 1 - k then f (n - 1 - (n - 1 - k)) else f (n - 1 - k)) = _
          rw [if_neg (by omega)]
        · rw [if_neg c2]
          show RA.q (if k < i ∨ n - 1 - i < k then f (n - 1 - k) else f k) = _
          by_cases c3 : k < i ∨ n - 1 - i < k
          · rw [if_pos c3, if_pos (by omega)]
          · rw [if_neg c3, if_neg (by omega)]
  · have h : ¬ (i : Int) < (n : Int) - 1 - i := h
    refine run0p ?_
    refine ⟨.inl rfl, [], imp_id ?_ ?_, .none⟩
    · exact eA
    · refine allh rfl (by decide) (blen rfl fun k hk => ?_) True.intro (allz (allz True.intro))
      have hk : k < n := hk
      refine congrArg RA.q (show (if k < i ∨ n - 1 - i < k then f (n - 1 - k) else f k) = f (n - 1 - k) from ?_)
      by_cases c : k < i ∨ n - 1 - i < k
      · rw [if_pos c]
      · rw [if_neg c, show n - 1 - k = k by omega]
theorem t_hankel {g : GD} {b : Nat → Rat} (h : g.OK) (hk : g.k = 2) (hb : ∀ i, i < g.n → wt (b i) ≤ 100) (hd : ∀ k, k < g.n → lvd (gent (gT g)) k ≠ 0) : Has Tryz.prog 45 [g.v, .row false g.n fun i => .q (b i)] (.tup3 (.row true g.n fun i => .q (lvs (gent (gT g)) b g.n (g.n - 1 - i))) (.i 0) (.i 0)) := by
  have n1 := h.n1; have n8 := h.n8
  have c1 := t_of (m := g.n) (q := fun i => .q (b i)) h
  have c2 := t_fits g.k g.n 2 g.n
  rw [if_pos (by omega), if_pos rfl] at c2
  have cs : HasH Tryz.prog 81 [] [(gT g).v, .row false g.n fun i => .q (b i)] (.tup3 (.own 60 0) (.i 0) (.i 0)) (RVm g.n (lvs (gent (gT g)) b g.n)) := lv_solver (gT_ok h (by omega)) rfl hb hd
  have cs2 : HasH Tryz.prog 81 [] [AV.old (gTv g), .row false g.n fun i => .q (b i)] (.tup3 (.own 60 0) (.i 0) (.i 0)) (RVm g.n (lvs (gent (gT g)) b g.n)) := cs.args0 rfl fun t x' ht => by
    match t, ht with
    | 0, ht => cases ht; exact ⟨fun i _ => (gT g).fok _ i, _, rfl, fun S B β w v hv => rv_agv (f' := (gT g).f) (gT_args rfl rfl rfl rfl (fun i hi => rfl) rfl rfl rfl) v hv⟩
    | 1, ht => cases ht; exact ⟨trivial, _, rfl, fun S B β w v hv => hv⟩
    | _ + 2, ht => cases ht
  refine has_of Tryz.func45 (by kernel_rfl) rfl Tryz.ntmps45 Tryz.results45 rfl rfl rfl ?_
  repeat(first|refine run1p ?_|((with_reducible apply st_call);exact rfl;exact rfl;exact rfl;first|(exact Has.ag (g7 rfl rfl rfl rfl rfl rfl rfl) c1)|(refine Has.gf2 (u' := fA2 g.k g.n) (c' := fA2 2 g.n) ?_ ?_ c2 <;> exact two2 rfl rfl))|((with_reducible apply st_callg);exact rfl;exact rfl;(first|exact rfl|assumption);exact rfl;exact rfl;exact rfl;first|(exact Has.ag (g7 rfl rfl rfl rfl rfl rfl rfl) c1)|(refine Has.gf2 (u' := fA2 g.k g.n) (c' := fA2 2 g.n) ?_ ?_ c2 <;> exact two2 rfl rfl)))
  refine awp_no rfl rfl ?_
  repeat(first|refine run1p ?_|((with_reducible apply st_call);exact rfl;exact rfl;exact rfl;first|(exact Has.ag (g7 rfl rfl rfl rfl rfl rfl rfl) (t_toe h (by omega))))|((with_reducible apply st_callg);exact rfl;exact rfl;(first|exact rfl|assumption);exact rfl;exact rfl;exact rfl;first|(exact Has.ag (g7 rfl rfl rfl rfl rfl rfl rfl) (t_toe h (by omega)))))
  ((with_reducible apply st_callH); exact rfl; exact rfl; exact rfl; exact (cs2); (first | exact True.intro | exact ⟨rfl, rfl, rfl, True.intro⟩); exact rfl; exact rfl; exact rfl; exact rfl; (focus (repeat (first | exact True.intro | refine ⟨(by first | exact True.intro | rfl | exact ok_none (closed_ok rfl)), ?_⟩))); (first | exact True.intro | exact okf_WH | exact okf_pf (by exact True.intro) (by exact True.intro)))
  refine run0p ?_
  refine awp_no rfl rfl ?_
  refine run0p ?_
  ((with_reducible apply st_callH); exact rfl; exact rfl; exact rfl; exact (t_reverse (f := lvs (gent (gT g)) b g.n) n1 n8); (first | exact True.intro | exact ⟨rfl, rfl, rfl, True.intro⟩); exact rfl; exact rfl; exact rfl; exact rfl; (focus (repeat (first | exact True.intro | refine ⟨(by first | exact True.intro | rfl | exact ok_none (closed_ok rfl)), ?_⟩))); exact okf_rv)
  refine run0p ?_
  exact ⟨.inr rfl, _, imp_rowv 4 (fun i => .q (lvs (gent (gT g)) b g.n (g.n - 1 - i))) rfl rfl rfl (fun i hi => rfl), .three (.tmp rfl) (.tmp rfl) (.tmp rfl)⟩
theorem t_hankel_break {g : GD} {b : Nat → Rat} (h : g.OK) (hk : g.k = 2) (hb : ∀ i, i < g.n → wt (b i) ≤ 100) {K : Nat} (hK : K < g.n) (hd : ∀ k, k < K → lvd (gent (gT g)) k ≠ 0) (hz : lvd (gent (gT g)) K = 0) : Has Tryz.prog 45 [g.v, .row false g.n fun i => .q (b i)] (.tup3 (.v (.slice none 0 0)) (.i ((K + 1 : Nat) : Int)) (.i 8)) := by
  have n1 := h.n1; have n8 := h.n8
  have c1 := t_of (m := g.n) (q := fun i => .q (b i)) h
  have c2 := t_fits g.k g.n 2 g.n
  rw [if_pos (by omega), if_pos rfl] at c2
  have cs : Has Tryz.prog 81 [(gT g).v, .row false g.n fun i => .q (b i)] (.tup3 (.v (.slice none 0 0)) (.i ((K + 1 : Nat) : Int)) (.i 8)) := lv_solve_break (gT_ok h (by omega)) rfl hb hK hd hz
  refine has_of Tryz.func45 (by kernel_rfl) rfl Tryz.ntmps45 Tryz.results45 rfl rfl rfl ?_
  repeat(first|refine run1p ?_|((with_reducible apply st_call);exact rfl;exact rfl;exact rfl;first|(exact Has.ag (g7 rfl rfl rfl rfl rfl rfl rfl) c1)|(refine Has.gf2 (u' := fA2 g.k g.n) (c' := fA2 2 g.n) ?_ ?_ c2 <;> exact two2 rfl rfl))|((with_reducible apply st_callg);exact rfl;exact rfl;(first|exact rfl|assumption);exact rfl;exact rfl;exact rfl;first|(exact Has.ag (g7 rfl rfl rfl rfl rfl rfl rfl) c1)|(refine Has.gf2 (u' := fA2 g.k g.n) (c' := fA2 2 g.n) ?_ ?_ c2 <;> exact two2 rfl rfl)))
  refine awp_no rfl rfl ?_
  repeat(first|refine run1p ?_|((with_reducible apply st_call);exact rfl;exact rfl;exact rfl;first|(exact Has.ag (g7 rfl rfl rfl rfl rfl rfl rfl) (t_toe h (by omega)))|(exact Has.agv (u' := (gT g).f) (fun S B β w => gT_args rfl rfl rfl rfl (fun i hi => rfl) rfl rfl rfl) cs))|((with_reducible apply st_callg);exact rfl;exact rfl;(first|exact rfl|assumption);exact rfl;exact rfl;exact rfl;first|(exact Has.ag (g7 rfl rfl rfl rfl rfl rfl rfl) (t_toe h (by omega)))|(exact Has.agv (u' := (gT g).f) (fun S B β w => gT_args rfl rfl rfl rfl (fun i hi => rfl) rfl rfl rfl) cs)))
  refine awp_yes rfl rfl ?_
  refine run0p ?_
  exact ⟨.inr rfl, _, Imp.refl _, .three (.tmp rfl) (.tmp rfl) (.tmp rfl)⟩
end Go.Proofs.YtdnmoggifjlbiaaGreat.AM
/- A slice of nothing, in a struct's cell, that is laid behind. -/
namespace Go.Proofs.YtdnmoggifjlbiaaGreat.AM
open Go Go.RowKit Go.Proofs.YtdnmoggifjlbiaaGreat.PN Go.Proofs.YtdnmoggifjlbiaaGreat.V
set_option linter.unusedVariables false
set_option linter.unusedSimpArgs false
theorem fld_next {s : St} {t a : Nat} {b b' : Blk} {F : Nat → Blk} {e : List (Nat × AV)} {l : List (Nat × Fam)} (ha : s.heap a = some (1, F)) (hF : F 0 = b') (hb : BLe (s1 t a) b' b) (hok : b.ok (fun _ => false)) (h60 : s.used 60 = false) (hn : notIn t a (keys l) = true)
    (he : AllE s (s1 t a) (fun g => memN g (t :: keys l)) e) (hl : AllH s (s1 t a) (fun g => memN g (t :: keys l)) l) : Imp s (stl e ((t, (1, fun _ => b)) :: l)) := by
  refine imp_stl (h := (t, (1, fun _ => b)) :: l) (s1 t a) (fun h => by rw [h60] at h; cases h) (s1_injl hn) he ⟨fun r hr => ?_, hl⟩ (by rw [h60]; rfl)
  obtain rfl : r = 0 := by omega
  rw [s1_t]
  exact ⟨1, F, ha, Nat.zero_lt_one, by rw [hF]; exact hb, Blk.ok_mono (fun g h => by cases h) hok⟩
theorem imp_nilf {s : St} (g h i : Nat) {n : Nat} {T : TypeId} {F : Nat → Blk} {f : Nat → AV} (q : Nat → RA) (hh : s.heap h = some (1, F)) (hF : F 0 = .ones T n f) (hi : i < n) (hfi : f i = .v (.slice none 0 0)) (hg : s.used g = false) :
    Imp s ⟨s.env, put (put s.heap g (some (1, fun _ => .rats 0 q))) h (some (1, fun _ => .ones T n (updN f i (.own g 0)))), mark s.used g⟩ := by
  intro W N β w a hs
  have hne : g ≠ h := fun e => by subst e; have := hs.live _ _ _ hh; rw [hg] at this; cases this
  have h2 := hs.newfam hg none (fun o ho => by cases ho) (.slice none 0 0) (.rats 0 q) (O := fun _ => False) hs.kept (Ext.refl _ _) (fun i h => h.elim) (fun i hi => by cases hi) (fun S' β' _ => ⟨trivial, .inl ⟨rfl, rfl⟩⟩)
  have h2 : Sim W N (setv β g (.slice none 0 0)) w a ⟨s.env, put s.heap g (some (1, fun _ => .rats 0 q)), mark s.used g⟩ := h2
  generalize hb' : setv β g (.slice none 0 0) = β' at *
  have hb0 : β' g 0 = .slice none 0 0 := by rw [← hb']; unfold setv; rw [if_pos rfl]
  have h3 : put s.heap g (some (1, fun _ => Blk.rats 0 q)) h = some (1, F) := (put_ne _ _ (Ne.symm hne)).trans hh
  generalize hs2 : (⟨s.env, put s.heap g (some (1, fun _ => .rats 0 q)), mark s.used g⟩ : St) = s2 at h2
  have e2 : s2.env = s.env := by rw [← hs2]
  have e3 : s2.heap h = some (1, F) := by rw [← hs2]; exact h3
  have e4 : s2.used = mark s.used g := by rw [← hs2]
  have e5 : put s.heap g (some (1, fun _ => Blk.rats 0 q)) = s2.heap := by rw [← hs2]
  rw [e5, ← e2, ← e4]
  have hheap : ∀ k n1 F1, put s2.heap h (some (1, fun _ => Blk.ones T n (updN f i (.own g 0)))) k = some (n1, F1) → ∃ F2, s2.heap k = some (n1, F2) ∧ (k = h → n1 = 1 ∧ F1 = fun _ => Blk.ones T n (updN f i (.own g 0))) ∧ (k ≠ h → F1 = F2) := by
    intro k n1 F1 e
    by_cases c : k = h
    · subst c
      rw [put_same] at e; cases e
      exact ⟨F, e3, fun _ => ⟨rfl, rfl⟩, fun e => absurd rfl e⟩
    · rw [put_ne _ _ c] at e
      exact ⟨F1, e, fun e => absurd e c, fun _ => rfl⟩
  have hown : ∀ k, Own ⟨s2.env, put s2.heap h (some (1, fun _ => Blk.ones T n (updN f i (.own g 0)))), s2.used⟩ β' k ↔ Own s2 β' k := by
    intro k
    constructor
    · rintro ⟨g', n1, F1, r, h1, h2', h3'⟩
      obtain ⟨F2, a1, _⟩ := hheap g' n1 F1 h1
      exact ⟨g', n1, F2, r, a1, h2', h3'⟩
    · rintro ⟨g', n1, F1, r, h1, h2', h3'⟩
      by_cases c : g' = h
      · subst c
        rw [e3] at h1; cases h1
        exact ⟨g', 1, _, r, put_same _ _ _, h2', h3'⟩
      · exact ⟨g', n1, F1, r, (put_ne _ _ c).trans h1, h2', h3'⟩
  have hS : notOwn W ⟨s2.env, put s2.heap h (some (1, fun _ => Blk.ones T n (updN f i (.own g 0)))), s2.used⟩ β' = notOwn W s2 β' := funext fun k => by unfold notOwn; rw [show Own _ β' k = Own s2 β' k from propext (hown k)]
  refine ⟨β', h2.kept, h2.nodef, h2.size, fun t z hz => by rw [hS]; exact h2.env t z hz, fun k n1 F1 r h1 h2' => ?_, fun k n1 F1 h1 => ?_, fun g1 n1 F1 r1 g2 n2 F2 r2 k h1 h2' h3' h4 h5 h6 => ?_, h2.fix, fun k ho => h2.pin k ((hown k).1 ho), h2.fixd, h2.keep⟩
  · obtain ⟨F2, a1, a2, a3⟩ := hheap k n1 F1 h1
    obtain ⟨q1, q2⟩ := h2.heap k n1 F2 r a1 h2'
    rw [hS]
    by_cases c : k = h
    · obtain ⟨rfl, rfl⟩ := a2 c
      subst c
      rw [e3] at a1; cases a1
      obtain rfl : r = 0 := by omega
      rw [hF] at q1 q2
      refine ⟨fun j hj => ?_, q2.1, ?_⟩
      · by_cases c2 : j = i
        · subst c2; rw [updN_same]; rw [e4]; exact mark_same _ _
        · rw [updN_ne _ _ c2]; exact q1 j hj
      · rcases q2.2 with e | ⟨k', cs, hB, hr, hat, hx⟩
        · exact .inl e
        · refine .inr ⟨k', cs, hB, hr, hat, fun j hj => ?_⟩
          obtain ⟨y, b1, b2, b3⟩ := hx j hj
          refine ⟨y, b1, b2, ?_⟩
          by_cases c2 : j = i
          · subst c2
            rw [hfi] at b3
            have b3 : y = .slice none 0 0 := b3
            rw [updN_same]
            exact ⟨by rw [b3, hb0], none, 0, 0, b3⟩
          · rw [updN_ne _ _ c2]; exact b3
    · rw [a3 c]; exact ⟨q1, q2⟩
  · obtain ⟨F2, a1, _⟩ := hheap k n1 F1 h1
    exact h2.live _ _ _ a1
  · obtain ⟨G1, a1, _⟩ := hheap g1 n1 F1 h1
    obtain ⟨G2, b1, _⟩ := hheap g2 n2 F2 h3'
    exact h2.inj _ _ _ _ _ _ _ _ k a1 h2' b1 h4 h5 h6
end Go.Proofs.YtdnmoggifjlbiaaGreat.AM
/- Systems by leading parts: the plain laws. -/
namespace Go.Proofs.YtdnmoggifjlbiaaGreat.AM
open Go.Proofs.YtdnmoggifjlbiaaGreat.PN
open Go.Proofs.YtdnmoggifjlbiaaGreat.LA (Mt S S_succ S_zero S_congr app app_sub app_mul app_add det Toe Two two_step two_minor two_break longer later app_longer)
set_option linter.unusedVariables false
set_option linter.unusedSimpArgs false
set_option maxRecDepth 8000
set_option maxHeartbeats 8000000
theorem det_1 (F : Mt) : det 1 F = F 0 0 := by
  show S 1 (fun i => LA.sg i * F i 0 * det 0 (LA.del i F)) = _
  rw [S_succ, S_zero]
  show 0 + 1 * F 0 0 * 1 = _
  rw [Rat.zero_add, Rat.one_mul, Rat.mul_one]
theorem det_0 (F : Mt) : det 0 F = 1 := rfl
theorem mul_over {x : Rat} (h : x ≠ 0) : 1 / x * x = 1 := by rw [Rat.div_def, Rat.one_mul, Rat.inv_mul_cancel _ h]
variable {n : Nat} {F : Nat → Nat → Rat}
theorem lv_two (ht : Toe n F) : ∀ k, k + 1 ≤ n → (∀ j, j < k + 1 → lvd F j ≠ 0) → Two F (k + 1) (lvf F (k + 1)) (lvl F (k + 1)) ∧ det (k + 1) F ≠ 0 := by
  intro k
  induction k with
  | zero =>
    intro hn hd
    have h0 : F 0 0 ≠ 0 := hd 0 (by decide)
    have e : S 1 (fun j => F 0 j * (1 / F 0 0)) = 1 := by rw [S_succ, S_zero, Rat.zero_add, Rat.mul_comm]; exact mul_over h0
    refine ⟨⟨fun i hi => ?_, fun i hi => ?_⟩, by rw [det_1]; exact h0⟩
    · obtain rfl : i = 0 := by omega
      rw [if_pos rfl]; exact e
    · obtain rfl : i = 0 := by omega
      rw [if_pos rfl]; exact e
  | succ k ih =>
    intro hn hd
    obtain ⟨h1, h2⟩ := ih (by omega) fun j hj => hd j (by omega)
    have hD : lvd F (k + 1) ≠ 0 := hd (k + 1) (by omega)
    have eD : lvd F (k + 1) = 1 - lvx F (k + 1) * lvy F (k + 1) := if_neg (Nat.succ_ne_zero k)
    have := two_step (n := n) (x := lvx F (k + 1)) (y := lvy F (k + 1)) (by_ := 1 / lvd F (k + 1)) (Nat.succ_pos k) (by omega) ht h1 rfl rfl (by rw [← eD]; exact mul_over hD)
    have h3 : Two F (k + 1 + 1) (lvf F (k + 1 + 1)) (lvl F (k + 1 + 1)) := by
      have e1 : lvf F (k + 1 + 1) = fun j => (longer (k + 1) (lvf F (k + 1)) j - lvx F (k + 1) * later (lvl F (k + 1)) j) * (1 / lvd F (k + 1)) := funext fun i => lvf_succ F (Nat.succ_ne_zero k) i
      have e2 : lvl F (k + 1 + 1) = fun j => (later (lvl F (k + 1)) j - lvy F (k + 1) * longer (k + 1) (lvf F (k + 1)) j) * (1 / lvd F (k + 1)) := funext fun i => lvl_succ F (Nat.succ_ne_zero k) i
      rw [e1, e2]; exact this
    exact ⟨h3, two_minor h2 h3⟩
theorem lv_det (ht : Toe n F) {k : Nat} (hk : k ≤ n) (hd : ∀ j, j < k → lvd F j ≠ 0) : det k F ≠ 0 := by
  cases k with
  | zero => rw [det_0]; decide
  | succ k => exact (lv_two ht k hk hd).2
theorem lv_zero_det (ht : Toe n F) {k : Nat} (hk : k < n) (hd : ∀ j, j < k → lvd F j ≠ 0) (hz : lvd F k = 0) : det (k + 1) F = 0 := by
  cases k with
  | zero => rw [det_1]; exact hz
  | succ k =>
    have eD : lvd F (k + 1) = 1 - lvx F (k + 1) * lvy F (k + 1) := if_neg (Nat.succ_ne_zero k)
    exact two_break (n := n) (x := lvx F (k + 1)) (y := lvy F (k + 1)) hk ht (lv_two ht k (by omega) hd).1 (lv_det ht (by omega) fun j hj => hd j (by omega)) rfl rfl (by rw [← eD]; exact hz)
theorem lvs_app (ht : Toe n F) {b : Nat → Rat} : ∀ k, k ≤ n → (∀ j, j < k → lvd F j ≠ 0) → ∀ i, i < k → app k F (lvs F b k) i = b i := by
  intro k
  induction k with
  | zero => intro _ _ i hi; exact absurd hi (Nat.not_lt_zero _)
  | succ k ih =>
    intro hk hd i hi
    have ih := ih (by omega) fun j hj => hd j (by omega)
    obtain ⟨⟨_, hl⟩, _⟩ := lv_two ht k hk hd
    have e : lvs F b (k + 1) = fun j => longer k (lvs F b k) j - -(b k - S k fun j => F k j * lvs F b k j) * lvl F (k + 1) j := rfl
    rw [e, app_sub, app_mul, app_longer, hl i hi]
    by_cases h : i = k
    · subst h
      rw [if_pos rfl]
      show (S i fun j => F i j * lvs F b i j) - _ = _
      generalize (S i fun j => F i j * lvs F b i j) = x
      grind
    · rw [if_neg (by omega), ih i (by omega)]; grind
/-- The least leading minor that is nought. -/
noncomputable def lstD (F : Nat → Nat → Rat) (n : Nat) : Nat := if fnd (fun k => gdet (k + 1) F = 0) n 0 < n then fnd (fun k => gdet (k + 1) F = 0) n 0 + 1 else 0
theorem lst_cases (ht : Toe n F) : (lstD F n = 0 ∧ (∀ k, k < n → lvd F k ≠ 0) ∧ det n F ≠ 0) ∨ ∃ K, K < n ∧ lstD F n = K + 1 ∧ (∀ k, k < K → lvd F k ≠ 0) ∧ lvd F K = 0 := by
  obtain ⟨_, h2, h3, h4⟩ := fnd_le (fun k => gdet (k + 1) F = 0) n 0
  have key : ∀ K, K ≤ n → (∀ k, k < K → gdet (k + 1) F ≠ 0) → ∀ k, k < K → lvd F k ≠ 0 := by
    intro K hK h k
    induction k using Nat.strongRecOn with
    | _ k ih =>
      intro hk hz
      have := lv_zero_det ht (show k < n by omega) (fun j hj => ih j hj (by omega)) hz
      exact h k hk (by rw [gdet_det]; exact this)
  unfold lstD
  split
  · rename_i h
    refine .inr ⟨_, h, rfl, key _ (by omega) fun k hk => h3 k (Nat.zero_le _) hk, ?_⟩
    apply Classical.byContradiction
    intro hne
    have hall : ∀ j, j < fnd (fun k => gdet (k + 1) F = 0) n 0 + 1 → lvd F j ≠ 0 := fun j hj => by
      by_cases e : j = fnd (fun k => gdet (k + 1) F = 0) n 0
      · rw [e]; exact hne
      · exact key _ (by omega) (fun k hk => h3 k (Nat.zero_le _) hk) j (by omega)
    have hdet := lv_det ht (k := fnd (fun k => gdet (k + 1) F = 0) n 0 + 1) h hall
    have := h4 (by omega)
    rw [gdet_det] at this
    exact hdet this
  · rename_i h
    have hall := key n (Nat.le_refl _) fun k hk => h3 k (Nat.zero_le _) (by omega)
    exact .inl ⟨rfl, hall, lv_det ht (Nat.le_refl _) hall⟩
end Go.Proofs.YtdnmoggifjlbiaaGreat.AM
/- Drawn systems: how long their entries are, by bits. -/
namespace Go.Proofs.YtdnmoggifjlbiaaGreat.AM
open Go.Proofs.YtdnmoggifjlbiaaGreat.PN
open Go.Proofs.YtdnmoggifjlbiaaGreat.LA (S S_succ S_zero S_congr)
set_option linter.unusedVariables false
set_option linter.unusedSimpArgs false
set_option maxRecDepth 8000
set_option maxHeartbeats 8000000
/-- So many parts of one size. -/
def Fq (D M : Nat) (q : Rat) : Prop := ∃ z : Int, q = (z : Rat) / ((D : Int) : Rat) ∧ z.natAbs ≤ M
theorem Fq.bt {D M k : Nat} {q : Rat} (h : Fq D M q) (hD : D ≠ 0) (h1 : M < 2 ^ k) (h2 : D < 2 ^ k) : Bt q k := by
  obtain ⟨z, rfl, hz⟩ := h
  have e : (z : Rat) / ((D : Int) : Rat) = PN.mk (decide (z < 0)) z.natAbs D := by
    unfold PN.mk
    have h6 : PN.sg (decide (z < 0)) z.natAbs = z := by
      unfold PN.sg
      by_cases h : z < 0
      · rw [decide_eq_true h]; simp; omega
      · rw [decide_eq_false h]; simp; omega
    rw [h6, Rat.mkRat_eq_div]
    rfl
  rw [e]
  exact Bt.of_mk _ hD (by omega) h2
theorem Fq.mul {D M D' M' : Nat} {p q : Rat} (h : Fq D M p) (k : Fq D' M' q) : Fq (D * D') (M * M') (p * q) := by
  obtain ⟨z, rfl, hz⟩ := h
  obtain ⟨y, rfl, hy⟩ := k
  refine ⟨z * y, ?_, by rw [Int.natAbs_mul]; exact Nat.mul_le_mul hz hy⟩
  rw [Rat.intCast_mul, show ((D * D' : Nat) : Int) = (D : Int) * (D' : Int) from Int.natCast_mul D D', Rat.intCast_mul, Rat.div_def, Rat.div_def, Rat.div_def, Rat.inv_mul_rev]
  rw [Rat.mul_assoc, Rat.mul_assoc, ← Rat.mul_assoc (_)⁻¹ (y : Rat), Rat.mul_comm (_)⁻¹ (y : Rat), Rat.mul_assoc (y : Rat), Rat.mul_comm ((D : Int) : Rat)⁻¹]
theorem Fq.add {D M M' : Nat} {p q : Rat} (h : Fq D M p) (k : Fq D M' q) : Fq D (M + M') (p + q) := by
  obtain ⟨z, rfl, hz⟩ := h
  obtain ⟨y, rfl, hy⟩ := k
  refine ⟨z + y, ?_, by omega⟩
  rw [Rat.intCast_add, Rat.div_def, Rat.div_def, Rat.div_def, Rat.add_mul]
theorem Fq.zero (D : Nat) : Fq D 0 0 := ⟨0, by rw [Rat.div_def]; simp, Nat.le_refl _⟩
theorem Fq.mono {D M M' : Nat} {q : Rat} (h : Fq D M q) (k : M ≤ M') : Fq D M' q := by
  obtain ⟨z, e, hz⟩ := h
  exact ⟨z, e, Nat.le_trans hz k⟩
theorem Fq.sum {D M n : Nat} {f : Nat → Rat} (h : ∀ i, i < n → Fq D M (f i)) : Fq D (n * M) (S n f) := by
  induction n with
  | zero => rw [Nat.zero_mul]; exact Fq.zero D
  | succ n ih => rw [Nat.succ_mul]; exact (ih fun i hi => h i (by omega)).add (h n (by omega))
theorem smal_parts : ∀ x : _root_.Fin 41, ∀ y : _root_.Fin 5, (((x.val : Int) - 20 : Int) : Rat) / ((1 + (y.val : Int) : Int) : Rat) = ((((x.val : Int) - 20) * (60 / (1 + (y.val : Int))) : Int) : Rat) / (((60 : Nat) : Int) : Rat) ∧ (((x.val : Int) - 20) * (60 / (1 + (y.val : Int)))).natAbs ≤ 1200 := by decide +kernel
theorem smal_fq (a : Int) : Fq 60 1200 (smal a) := by
  obtain ⟨h1, h2⟩ := wthn_lt (a := a) (n := 41) (by decide)
  obtain ⟨h3, h4⟩ := wthn_lt (a := a.tdiv 41) (n := 5) (by decide)
  have := smal_parts ⟨(wthn a 41).toNat, by omega⟩ ⟨(wthn (a.tdiv 41) 5).toNat, by omega⟩
  rw [show (((wthn a 41).toNat : Nat) : Int) = wthn a 41 by omega, show (((wthn (a.tdiv 41) 5).toNat : Nat) : Int) = wthn (a.tdiv 41) 5 by omega] at this
  exact ⟨_, this.1, this.2⟩
/-- A system whose numbers are small. -/
structure Sml5 (g : GD) : Prop where
  n : g.n ≤ 8
  r : g.r ≤ 2
  A : ∀ i, i < g.la → Bt (g.A i) 5
  B : ∀ i, i < g.lb → Bt (g.B i) 13
  G : ∀ i, i < g.lg → Fq 60 1200 (g.G i)
  H : ∀ i, i < g.lh → Fq 60 1200 (g.H i)
end Go.Proofs.YtdnmoggifjlbiaaGreat.AM

/- Joined texts, 22: PSolve PCram LawN LawO RowsB LawK LawP MkE GenF GenG PFa FsA FsB LvR AmNf Wthn. -/
import Derived.Test.YtddkocidfhaofaaJ20
import Derived.Test.YtddkocidfhaofaaJ21
import Derived.Test.YtddkocidfhaofaaJ14
import Derived.Test.YtddkocidfhaofaaJ17
import Derived.Test.YtddkocidfhaofaaJ12
import Derived.Test.YtddkocidfhaofaaJ16
import Derived.Test.YtddkocidfhaofaaJ18
import Derived.Test.YtddkocidfhaofaaJ19
import Derived.Test.YtddkocidfhaofaaJ13
set_option linter.unusedVariables false
set_option linter.unusedSimpArgs false
/- Systems: what both ways answer, in plain functions. -/
namespace Go.Proofs.Ytddkocidfhaofaa.AM
open Go.Proofs.Ytddkocidfhaofaa.PN
open Go.Proofs.Ytddkocidfhaofaa.LA (Mt S S_succ S_zero S_congr S_add S_mul S_mulr S_single S_null S_append det HasRank app unique)
set_option linter.unusedVariables false
set_option linter.unusedSimpArgs false
/-- A matrix with a column more. -/
abbrev augb (n : Nat) (F : Nat → Nat → Rat) (b : Nat → Rat) : Nat → Nat → Rat := aug n F fun i j => b (i + j)
/-- All columns cleaned; the answer. -/
noncomputable def gj (n : Nat) (F : Nat → Nat → Rat) (b : Nat → Rat) : ES := stps n (n + 1) true (augb n F b) n
noncomputable def gjx (n : Nat) (F : Nat → Nat → Rat) (b : Nat → Rat) (i : Nat) : Rat := PR (gj n F b) i n / PR (gj n F b) i i
/-- The triangle; from the last row up. -/
noncomputable def gt (n : Nat) (F : Nat → Nat → Rat) (b : Nat → Rat) : ES := stps n (n + 1) false (augb n F b) n
def bsx (n : Nat) (P : Nat → Nat → Rat) : Nat → Nat → Rat
  | 0 => fun _ => 0
  | k + 1 => updN (bsx n P k) (n - 1 - k) ((P (n - 1 - k) n - S k fun u => P (n - 1 - k) (n - 1 - k + 1 + u) * bsx n P k (n - 1 - k + 1 + u)) / P (n - 1 - k) (n - 1 - k))
theorem bsx_at {n : Nat} {P : Nat → Nat → Rat} {k : Nat} : bsx n P (k + 1) (n - 1 - k) = (P (n - 1 - k) n - S k fun u => P (n - 1 - k) (n - 1 - k + 1 + u) * bsx n P k (n - 1 - k + 1 + u)) / P (n - 1 - k) (n - 1 - k) := updN_same _ _ _
theorem bsx_later {n : Nat} {P : Nat → Nat → Rat} : ∀ {k k' i : Nat}, k ≤ k' → k' ≤ n → n - k ≤ i → i < n → bsx n P k' i = bsx n P k i := by
  intro k k' i h
  induction h with
  | refl => intro _ _ _; rfl
  | step h ih =>
    rename_i m
    intro h1 h2 h3
    have h' : k ≤ m := h
    rw [← ih (by omega) h2 h3]
    exact updN_ne _ _ (show i ≠ n - 1 - m by omega)
/-- From the last row up: what was asked. -/
theorem bsx_solves {n : Nat} {P : Nat → Nat → Rat} (hz : ∀ i j, i < n → j < i → P i j = 0) (hd : ∀ i, i < n → P i i ≠ 0) {i : Nat} (hi : i < n) : S n (fun j => P i j * bsx n P n j) = P i n := by
  obtain ⟨k, rfl⟩ : ∃ k, i = n - 1 - k := ⟨n - 1 - i, by omega⟩
  obtain ⟨k, hk, hki⟩ : ∃ k', k' < n ∧ n - 1 - k = n - 1 - k' := ⟨n - 1 - (n - 1 - k), by omega, by omega⟩
  rw [hki] at hi ⊢
  clear hki
  generalize hI : n - 1 - k = I at *
  have hn : n = I + (1 + k) := by omega
  have e0 : S n (fun j => P I j * bsx n P n j) = S (I + (1 + k)) (fun j => P I j * bsx n P n j) := by rw [← hn]
  rw [e0, S_append, S_null (n := I) (fun j hj => by rw [hz I j hi hj, Rat.zero_mul]), S_append, S_succ, S_zero, Rat.zero_add, Rat.zero_add]
  have e1 : bsx n P n (I + 0) = (P I n - S k fun u => P I (I + 1 + u) * bsx n P k (I + 1 + u)) / P I I := by
    rw [Nat.add_zero, bsx_later (k := k + 1) (by omega) (Nat.le_refl n) (by omega) hi]
    have := bsx_at (n := n) (P := P) (k := k)
    rw [hI] at this; exact this
  have e2 : S k (fun i => P I (I + (1 + i)) * bsx n P n (I + (1 + i))) = S k (fun u => P I (I + 1 + u) * bsx n P k (I + 1 + u)) := S_congr fun u hu => by
    rw [show I + (1 + u) = I + 1 + u by omega, bsx_later (k := k) (by omega) (Nat.le_refl n) (by omega) (by omega)]
  rw [e1, e2, Nat.add_zero]
  generalize S k (fun u => P I (I + 1 + u) * bsx n P k (I + 1 + u)) = s
  rw [Rat.mul_comm, Rat.div_mul_cancel (hd I hi)]
  grind
/-- What the rows of P send x to, those of A do, too. -/
theorem ker_app {n : Nat} {A : Nat → Nat → Rat} {x : Nat → Rat} (h : Ker n (n + 1) A fun j => if j < n then x j else -1) {r : Nat} (hr : r < n) : S n (fun j => A r j * x j) = A r n := by
  have h1 := h r hr
  rw [S_succ] at h1
  dsimp only at h1
  rw [if_neg (Nat.lt_irrefl n), S_congr (g := fun j => A r j * x j) fun j hj => by rw [if_pos hj]] at h1
  grind
theorem app_ker {n : Nat} {A : Nat → Nat → Rat} {x : Nat → Rat} (h : ∀ r, r < n → S n (fun j => A r j * x j) = A r n) : Ker n (n + 1) A fun j => if j < n then x j else -1 := by
  intro r hr
  rw [S_succ]
  dsimp only
  rw [if_neg (Nat.lt_irrefl n), S_congr (g := fun j => A r j * x j) fun j hj => by rw [if_pos hj], h r hr]
  grind
theorem augb_app {n : Nat} {F : Nat → Nat → Rat} {b x : Nat → Rat} {r : Nat} (h : S n (fun j => augb n F b r j * x j) = augb n F b r n) : app n F x r = b r := by
  have e1 : S n (fun j => augb n F b r j * x j) = app n F x r := S_congr fun j hj => by
    show (if j < n then _ else _) * _ = _; rw [if_pos hj]
  rw [← e1, h]
  show (if n < n then _ else b (r + (n - n))) = _
  rw [if_neg (Nat.lt_irrefl n), Nat.sub_self, Nat.add_zero]
theorem det_augb (n : Nat) (F : Nat → Nat → Rat) (b : Nat → Rat) : det n (augb n F b) = det n F := LA.det_congr fun i j _ hj => if_pos hj
theorem gj_full (n : Nat) (F : Nat → Nat → Rat) (b : Nat → Rat) : (gj n F b).at' < n ↔ gdet n F = 0 := by
  have h1 := LA.rank_full (fin_rank (n := n) (m := n + 1) (all := true) (A := augb n F b) (Nat.le_succ n))
  rw [gdet_det, ← det_augb n F b]
  unfold gj
  constructor
  · intro h; exact Classical.byContradiction fun h2 => by have := h1.2.2 h2; omega
  · intro h
    rcases Nat.lt_or_ge (stps n (n + 1) true (augb n F b) n).at' n with h3 | h3
    · exact h3
    · exact absurd h (h1.2.1 (by omega))
theorem gt_full (n : Nat) (F : Nat → Nat → Rat) (b : Nat → Rat) : (gt n F b).at' < n ↔ gdet n F = 0 := by
  have h1 := LA.rank_full (fin_rank (n := n) (m := n + 1) (all := false) (A := augb n F b) (Nat.le_succ n))
  rw [gdet_det, ← det_augb n F b]
  unfold gt
  constructor
  · intro h; exact Classical.byContradiction fun h2 => by have := h1.2.2 h2; omega
  · intro h
    rcases Nat.lt_or_ge (stps n (n + 1) false (augb n F b) n).at' n with h3 | h3
    · exact h3
    · exact absurd h (h1.2.1 (by omega))
theorem gt_det (n : Nat) (F : Nat → Nat → Rat) (b : Nat → Rat) : dd n (gt n F b) = gdet n F := by
  rw [gdet_det, ← det_augb n F b]; exact fin_det (Nat.le_succ n)
theorem gj_nz {n : Nat} {F : Nat → Nat → Rat} {b : Nat → Rat} (h : gdet n F ≠ 0) : (gj n F b).at' = n ∧ (∀ i, i < n → PR (gj n F b) i i ≠ 0) ∧ ∀ i, i < n → app n F (gjx n F b) i = b i := by
  obtain ⟨σ, col, hG⟩ := stps_gi (n := n) (m := n + 1) (all := true) (A := augb n F b) n (Nat.le_succ n)
  have h1 := (stps_perm (n := n) (m := n + 1) (all := true) (A := augb n F b) n).1
  have h2 := gj_full n F b
  have hG : GI n (n + 1) n true (augb n F b) (gj n F b) σ col := hG
  have h1 : (gj n F b).at' ≤ n := h1
  have hf : (gj n F b).at' = n := by
    rcases Nat.lt_or_ge (gj n F b).at' n with h3 | h3
    · exact absurd (h2.1 h3) h
    · omega
  have hcol := hG.full hf
  have hnz : ∀ i, i < n → PR (gj n F b) i i ≠ 0 := fun i hi => by have := hG.nz i (by omega); rw [hcol i hi] at this; exact this
  refine ⟨hf, hnz, fun i hi => ?_⟩
  refine augb_app (ker_app (hG.re.ker (app_ker fun r hr => ?_)) hi)
  rw [S_single hr (fun j hj hne => by rw [show PR (gj n F b) r j = 0 by have := hG.cl rfl j r (by omega) hr (Ne.symm hne); rw [hcol j hj] at this; exact this, Rat.zero_mul])]
  unfold gjx
  rw [Rat.mul_comm, Rat.div_mul_cancel (hnz r hr)]
theorem gt_nz {n : Nat} {F : Nat → Nat → Rat} {b : Nat → Rat} (h : gdet n F ≠ 0) : (gt n F b).at' = n ∧ (∀ i, i < n → PR (gt n F b) i i ≠ 0) ∧ ∀ i, i < n → app n F (bsx n (PR (gt n F b)) n) i = b i := by
  obtain ⟨σ, col, hG⟩ := stps_gi (n := n) (m := n + 1) (all := false) (A := augb n F b) n (Nat.le_succ n)
  have h1 := (stps_perm (n := n) (m := n + 1) (all := false) (A := augb n F b) n).1
  have h2 := gt_full n F b
  have hG : GI n (n + 1) n false (augb n F b) (gt n F b) σ col := hG
  have h1 : (gt n F b).at' ≤ n := h1
  have hf : (gt n F b).at' = n := by
    rcases Nat.lt_or_ge (gt n F b).at' n with h3 | h3
    · exact absurd (h2.1 h3) h
    · omega
  have hcol := hG.full hf
  have hnz : ∀ i, i < n → PR (gt n F b) i i ≠ 0 := fun i hi => by have := hG.nz i (by omega); rw [hcol i hi] at this; exact this
  refine ⟨hf, hnz, fun i hi => ?_⟩
  exact augb_app (ker_app (hG.re.ker (app_ker fun r hr => bsx_solves (fun i j hi hj => hG.ahead i (by omega) j (by rw [hcol i hi]; exact hj)) hnz hr)) hi)
theorem solve_same {n : Nat} {F : Nat → Nat → Rat} {b : Nat → Rat} (h : gdet n F ≠ 0) {i : Nat} (hi : i < n) : gjx n F b i = bsx n (PR (gt n F b)) n i := by
  refine unique (by rw [← gdet_det]; exact h) (fun r hr => ?_) i hi
  rw [(gj_nz (b := b) h).2.2 r hr, (gt_nz (b := b) h).2.2 r hr]
/-! ### How long they are -/
theorem pr_bits {n m K : Nat} {A : Nat → Nat → Rat} (hK : 1 ≤ K) [hA : ∀ i j, Bt (A i j) K] : ∀ c, ∀ r, r < n → ∀ j, Bt (PR (stps n m false A c) r j) (4 ^ (min r (stps n m false A c).at') * (K + 1) - 1)
  | 0, r, hr, j => by
    have h : Bt (PR (stps n m false A 0) r j) K := hA r j
    refine h.mono ?_
    show K ≤ 4 ^ (min r 0) * (K + 1) - 1
    rw [Nat.min_zero, Nat.pow_zero]; omega
  | c + 1, r, hr, j => by
    have ih := pr_bits (n := n) (m := m) hK (hA := hA) c
    obtain ⟨_, hlt, hinj⟩ := stps_perm (n := n) (m := m) (all := false) (A := A) c
    show Bt (PR (stp n m false (stps n m false A c) c) r j) (4 ^ (min r (stp n m false (stps n m false A c) c).at') * (K + 1) - 1)
    generalize stps n m false A c = s at *
    obtain ⟨a, d, π, B⟩ := s
    have ih : ∀ r, r < n → ∀ j, Bt (B (π r) j) (4 ^ (min r a) * (K + 1) - 1) := ih
    unfold stp
    split
    · rename_i hi
      obtain ⟨h1, _⟩ := fnd_le (fun i => B (π i) c ≠ 0) (n - a) a
      have hi : fnd (fun i => B (π i) c ≠ 0) (n - a) a < n := hi
      show Bt (cln B (swp π (fnd (fun i => B (π i) c ≠ 0) (n - a) a) a) false a c m n (swp π (fnd (fun i => B (π i) c ≠ 0) (n - a) a) a r) j) (4 ^ (min r (a + 1)) * (K + 1) - 1)
      generalize fnd (fun i => B (π i) c ≠ 0) (n - a) a = i0 at *
      have han : a < n := by omega
      have hinj' := swp_inj (n := n) (i := i0) (j := a) hinj hi han
      have hs : ∀ r, r < n → a ≤ r → ∀ j, Bt (B (swp π i0 a r) j) (4 ^ a * (K + 1) - 1) := fun r hr har j => by
        have key : ∃ r', r' < n ∧ a ≤ r' ∧ swp π i0 a r = π r' := by
          unfold swp updN
          by_cases e1 : r = a
          · rw [if_pos e1]; exact ⟨i0, hi, h1, rfl⟩
          · rw [if_neg e1]
            by_cases e2 : r = i0
            · rw [if_pos e2]; exact ⟨a, han, Nat.le_refl a, rfl⟩
            · rw [if_neg e2]; exact ⟨r, hr, har, rfl⟩
        obtain ⟨r', h3, h4, h5⟩ := key
        have := ih r' h3 j
        rw [show min r' a = a by omega] at this
        rw [h5]; exact this
      have hp : 1 ≤ 4 ^ a := Nat.pow_pos (by decide)
      have hpk : K + 1 ≤ 4 ^ a * (K + 1) := Nat.le_mul_of_pos_left _ hp
      rcases Nat.lt_or_ge a r with h2 | h2
      · rw [show min r (a + 1) = a + 1 by omega, Nat.pow_succ, Nat.mul_right_comm]
        by_cases hj : c ≤ j ∧ j < m
        · rw [cln_at hinj' hr j ⟨.inl h2, hj⟩]
          have w1 := hs r hr (by omega)
          have w2 := hs a han (Nat.le_refl a)
          exact (inferInstance : Bt (B (swp π i0 a r) j - B (swp π i0 a r) c / B (swp π i0 a a) c * B (swp π i0 a a) j) _).mono (by omega)
        · rw [cln_not hinj' hr j (fun e => hj e.2)]
          exact (hs r hr (by omega) j).mono (by omega)
      · rw [cln_not hinj' hr j (fun e => by rcases e.1 with h3 | ⟨h3, _⟩; omega; cases h3), show min r (a + 1) = r by omega]
        by_cases e : r = a
        · subst e; exact hs r hr (Nat.le_refl r) j
        · have e2 : swp π i0 a r = π r := by
            unfold swp updN
            rw [if_neg e, if_neg (by omega)]
          have := ih r hr j
          rw [show min r a = r by omega] at this
          rw [e2]; exact this
    · exact ih r hr j
/-- How long the parts of an answer are, from the last up. -/
def sbd (X : Nat → Nat) (Y : Nat → Nat) (i : Nat) : Nat → Nat
  | 0 => X i
  | k + 1 => sbd X Y i k + (X i + Y (i + 1 + k)) + 1
def ybd (n : Nat) (X : Nat → Nat) : Nat → Nat → Nat
  | 0 => fun _ => 0
  | k + 1 => fun i => if i = n - 1 - k then sbd X (ybd n X k) (n - 1 - k) k + X (n - 1 - k) else ybd n X k i
def ybOK (n : Nat) (X : Nat → Nat) : Bool := (List.range n).all fun k => Nat.ble (sbd X (ybd n X k) (n - 1 - k) k) 15000 && Nat.ble (X (n - 1 - k)) 15000
theorem sbd_wt {n i : Nat} {P : Nat → Nat → Rat} {x : Nat → Rat} {X Y : Nat → Nat} (h0 : Wt (P i n) (X i)) (hP : ∀ j, Wt (P i j) (X i)) : ∀ k, (∀ u, u < k → Wt (x (i + 1 + u)) (Y (i + 1 + u))) → Wt (P i n - S k fun u => P i (i + 1 + u) * x (i + 1 + u)) (sbd X Y i k)
  | 0, _ => by rw [S_zero, Rat.sub_eq_add_neg, Rat.neg_zero, Rat.add_zero]; exact h0
  | k + 1, h => by
    have h1 := sbd_wt (n := n) (x := x) (X := X) (Y := Y) h0 hP k (fun u hu => h u (by omega))
    have h2 := h k (Nat.lt_succ_self k)
    have h3 := hP (i + 1 + k)
    rw [S_succ, show ∀ a b c : Rat, a - (b + c) = (a - b) - c by intros; grind]
    exact (inferInstance : Wt ((P i n - S k fun u => P i (i + 1 + u) * x (i + 1 + u)) - P i (i + 1 + k) * x (i + 1 + k)) _)
theorem ybd_wt {n : Nat} {P : Nat → Nat → Rat} {X : Nat → Nat} (hP : ∀ i, i < n → ∀ j, Wt (P i j) (X i)) : ∀ k, k ≤ n → ∀ i, n - k ≤ i → i < n → Wt (bsx n P k i) (ybd n X k i)
  | 0, _, i, h1, h2 => by omega
  | k + 1, hk, i, h1, h2 => by
    have ih := ybd_wt (X := X) hP k (by omega)
    by_cases e : i = n - 1 - k
    · subst e
      rw [bsx_at]
      show Wt _ (if _ then _ else _)
      rw [if_pos rfl]
      have h3 := sbd_wt (n := n) (x := bsx n P k) (X := X) (Y := ybd n X k) (hP _ h2 n) (hP _ h2) k (fun u hu => ih _ (by omega) (by omega))
      have h4 := hP _ h2 (n - 1 - k)
      exact inferInstance
    · show Wt (updN (bsx n P k) (n - 1 - k) _ i) (if _ then _ else _)
      rw [updN_ne _ _ e, if_neg e]
      exact ih i (by omega) h2
end Go.Proofs.Ytddkocidfhaofaa.AM
/- Answers of small systems: how long they are. -/
namespace Go.Proofs.Ytddkocidfhaofaa.AM
open Go.Proofs.Ytddkocidfhaofaa.PN
open Go.Proofs.Ytddkocidfhaofaa.LA (Mt S S_succ S_zero S_congr app det cupd cupd_at cupd_ne cramer)
set_option linter.unusedVariables false
set_option linter.unusedSimpArgs false
set_option maxRecDepth 8000
set_option maxHeartbeats 8000000
theorem Fq.sg (i : Nat) : Fq 1 1 (LA.sg i) := by
  unfold LA.sg
  split
  · exact ⟨1, by decide +kernel, by decide⟩
  · exact ⟨-1, by decide +kernel, by decide⟩
def fac : Nat → Nat
  | 0 => 1
  | n + 1 => (n + 1) * fac n
theorem det_fq {D M : Nat} : ∀ {n : Nat} {F : Mt}, (∀ i j, i < n → j < n → Fq D M (F i j)) → Fq (D ^ n) (fac n * M ^ n) (det n F)
  | 0, F, _ => ⟨1, by show (1 : Rat) = _; rw [Nat.pow_zero]; decide +kernel, by rw [Nat.pow_zero]; decide⟩
  | n + 1, F, h => by
    have hs : ∀ i, i < n + 1 → Fq (D ^ (n + 1)) (fac n * M ^ (n + 1)) (LA.sg i * F i 0 * det n (LA.del i F)) := fun i hi => by
      have h1 := det_fq (n := n) (F := LA.del i F) fun r c hr hc => by
        show Fq D M (F (LA.skip i r) (c + 1))
        refine h _ _ ?_ (by omega)
        unfold LA.skip; split <;> omega
      have h2 := ((Fq.sg i).mul (h i 0 hi (by omega))).mul h1
      have e1 : 1 * D * D ^ n = D ^ (n + 1) := by rw [Nat.one_mul, Nat.pow_succ, Nat.mul_comm]
      have e2 : 1 * M * (fac n * M ^ n) = fac n * M ^ (n + 1) := by rw [Nat.one_mul, Nat.pow_succ, Nat.mul_left_comm, Nat.mul_comm M]
      rw [e1, e2] at h2
      exact h2
    have := Fq.sum hs
    rw [← Nat.mul_assoc] at this
    exact this
theorem quo_bt {E M k : Nat} {p q : Rat} (hp : Fq E M p) (hq : Fq E M q) (h0 : q ≠ 0) (hM : M < 2 ^ k) : Bt (p / q) k := by
  obtain ⟨y, rfl, hy⟩ := hp
  obtain ⟨z, rfl, hz⟩ := hq
  have hz0 : z ≠ 0 := fun e => h0 (by rw [e, Rat.div_def]; simp)
  have hE : ((E : Int) : Rat) ≠ 0 := fun e => h0 (by rw [e, Rat.div_def, Rat.inv_zero, Rat.mul_zero])
  have hzr : ((z : Int) : Rat) ≠ 0 := fun e => hz0 (by exact_mod_cast e)
  have e : ((y : Int) : Rat) / ((E : Int) : Rat) / (((z : Int) : Rat) / ((E : Int) : Rat)) = ((y : Int) : Rat) / ((z : Int) : Rat) := by
    rw [Rat.div_def, Rat.div_def, Rat.div_def, Rat.div_def, Rat.inv_mul_rev, Rat.inv_inv]
    rw [Rat.mul_assoc, ← Rat.mul_assoc (_)⁻¹ ((E : Int) : Rat), Rat.inv_mul_cancel _ hE, Rat.one_mul]
  rw [e]
  have e2 : ((y : Int) : Rat) / ((z : Int) : Rat) = ((y * z.sign : Int) : Rat) / (((z.natAbs : Nat) : Int) : Rat) := by
    have hs : z.sign * z = (z.natAbs : Int) := by rw [Int.mul_comm]; exact Int.mul_sign_self z
    have h1 : (((z.natAbs : Nat) : Int) : Rat) = ((z.sign : Int) : Rat) * ((z : Int) : Rat) := by rw [← Rat.intCast_mul, hs]
    have hsz : z.sign * z.sign = 1 := by
      rcases Int.lt_trichotomy z 0 with h | h | h
      · rw [Int.sign_eq_neg_one_of_neg h]; rfl
      · exact absurd h hz0
      · rw [Int.sign_eq_one_of_pos h]; rfl
    have hss : ((z.sign : Int) : Rat) * ((z.sign : Int) : Rat) = 1 := by rw [← Rat.intCast_mul, hsz]; rfl
    have hsi : ((z.sign : Int) : Rat)⁻¹ = ((z.sign : Int) : Rat) := by
      have hne : ((z.sign : Int) : Rat) ≠ 0 := fun e => by rw [e, Rat.mul_zero] at hss; exact absurd hss (by decide)
      calc ((z.sign : Int) : Rat)⁻¹ = ((z.sign : Int) : Rat)⁻¹ * (((z.sign : Int) : Rat) * ((z.sign : Int) : Rat)) := by rw [hss, Rat.mul_one]
        _ = ((z.sign : Int) : Rat) := by rw [← Rat.mul_assoc, Rat.inv_mul_cancel _ hne, Rat.one_mul]
    rw [h1, Rat.intCast_mul, Rat.div_def, Rat.div_def, Rat.inv_mul_rev, hsi]
    rw [Rat.mul_assoc ((y : Int) : Rat), ← Rat.mul_assoc ((z.sign : Int) : Rat), Rat.mul_comm ((z.sign : Int) : Rat) (_)⁻¹, Rat.mul_assoc (_)⁻¹, hss, Rat.mul_one]
  have h3 : z.natAbs ≠ 0 := by omega
  exact Fq.bt (D := z.natAbs) (M := M) ⟨y * z.sign, e2, by
    rw [Int.natAbs_mul]
    have : z.sign.natAbs ≤ 1 := by
      rcases Int.lt_trichotomy z 0 with h | h | h
      · rw [Int.sign_eq_neg_one_of_neg h]; decide
      · rw [h]; decide
      · rw [Int.sign_eq_one_of_pos h]; decide
    exact Nat.le_trans (Nat.mul_le_mul_left _ this) (by rw [Nat.mul_one]; exact hy)⟩ h3 hM (Nat.lt_of_le_of_lt hz hM)
theorem fac6 : ∀ n : _root_.Fin 7, fac n.val * 1200 ^ n.val < 2 ^ 72 := by decide
/-- An answer of a small system. -/
theorem ans_bt {n : Nat} {F : Nat → Nat → Rat} {b x : Nat → Rat} (hF : ∀ i j, i < n → j < n → Fq 60 1200 (F i j)) (hb : ∀ i, i < n → Fq 60 1200 (b i)) (hn : n ≤ 6) (hd : det n F ≠ 0) (hx : ∀ i, i < n → app n F x i = b i) {c : Nat} (hc : c < n) : Bt (x c) 72 := by
  have h1 := cramer n F x hc
  have h2 := det_fq (n := n) (F := cupd F c (app n F x)) fun i j hi hj => by
    by_cases e : j = c
    · subst e; rw [cupd_at, hx i hi]; exact hb i hi
    · rw [cupd_ne _ _ _ e]; exact hF i j hi hj
  have h3 := det_fq (n := n) (F := F) hF
  have e : x c = det n (cupd F c (app n F x)) / det n F := by
    rw [h1, Rat.div_def, Rat.mul_comm (det n F), Rat.mul_assoc, Rat.mul_inv_cancel _ hd, Rat.mul_one]
  rw [e]
  exact quo_bt h2 h3 hd (fac6 ⟨n, by omega⟩)
theorem ans_wt {n : Nat} {F : Nat → Nat → Rat} {b x : Nat → Rat} (hF : ∀ i j, i < n → j < n → Fq 60 1200 (F i j)) (hb : ∀ i, i < n → Fq 60 1200 (b i)) (hn : n ≤ 6) (hd : det n F ≠ 0) (hx : ∀ i, i < n → app n F x i = b i) {c : Nat} (hc : c < n) : Wt (x c) 3 :=
  (ans_bt hF hb hn hd hx hc).wt (by decide)
end Go.Proofs.Ytddkocidfhaofaa.AM
/- Systems: both ways walked. -/
namespace Go.Proofs.Ytddkocidfhaofaa.AM
open Go Go.RowKit Go.Proofs.Ytddkocidfhaofaa.PN Go.Proofs.Ytddkocidfhaofaa.V
open Go.Proofs.Ytddkocidfhaofaa.LA (S S_succ S_zero S_congr)
set_option linter.unusedVariables false
set_option linter.unusedSimpArgs false
set_option maxRecDepth 8000
set_option maxHeartbeats 8000000
theorem augb_wt {n K : Nat} {F : Nat → Nat → Rat} {b : Nat → Rat} [hf : ∀ i j, Wt (F i j) K] [hb : ∀ i, Wt (b i) K] (i j : Nat) : Wt (augb n F b i j) K := by
  unfold augb aug; split
  · exact hf i j
  · exact hb _
end Go.Proofs.Ytddkocidfhaofaa.AM
/- The document's way to solve: walked. -/
namespace Go.Proofs.Ytddkocidfhaofaa.AM
open Go Go.RowKit Go.Proofs.Ytddkocidfhaofaa.PN Go.Proofs.Ytddkocidfhaofaa.V
open Go.Proofs.Ytddkocidfhaofaa.LA (S S_succ S_zero S_congr)
set_option linter.unusedVariables false
set_option linter.unusedSimpArgs false
set_option maxRecDepth 8000
set_option maxHeartbeats 8000000
/-- The answer, as far as it is known: the last k parts. -/
def xs (n : Nat) (P : Nat → Nat → Rat) (k i : Nat) : RA := if n - k ≤ i then .q (bsx n P k i) else ra0
theorem xs_at {n k i : Nat} {P : Nat → Nat → Rat} (h : n - k ≤ i) : xs n P k i = .q (bsx n P k i) := if_pos h
theorem xs_step {n k i : Nat} {P : Nat → Nat → Rat} (hk : k < n) (hi : i < n) : updN (xs n P k) (n - 1 - k) (.q (bsx n P (k + 1) (n - 1 - k))) i = xs n P (k + 1) i := by
  by_cases e : i = n - 1 - k
  · subst e; rw [updN_same, xs_at (by omega)]
  · rw [updN_ne _ _ e]
    unfold xs
    by_cases h : n - k ≤ i
    · rw [if_pos h, if_pos (by omega), bsx_later (k := k) (k' := k + 1) (by omega) (by omega) h hi]
    · rw [if_neg h, if_neg (by omega)]
theorem sbd_mono (X Y : Nat → Nat) (i : Nat) : ∀ {u k : Nat}, u ≤ k → sbd X Y i u ≤ sbd X Y i k := by
  intro u k h
  induction h with
  | refl => exact Nat.le_refl _
  | step h ih =>
    rename_i m
    show _ ≤ sbd X Y i m + (X i + Y (i + 1 + m)) + 1
    omega
structure BB (n : Nat) (F : Nat → Nat → Rat) (b : Nat → Rat) (X : Nat → Nat) : Prop where
  tb : TB n (n + 1) 2400 (augb n F b)
  P : ∀ i, i < n → ∀ j, Wt (PR (gt n F b) i j) (X i)
  ok : ybOK n X = true
end Go.Proofs.Ytddkocidfhaofaa.AM
/- Rows that are the same: the rest. -/
namespace Go.Proofs.Ytddkocidfhaofaa.AM
open Go Go.RowKit Go.Proofs.Ytddkocidfhaofaa.PN Go.Proofs.Ytddkocidfhaofaa.V
open Go.Proofs.Ytddkocidfhaofaa.LA (S S_succ S_zero S_congr)
set_option linter.unusedVariables false
set_option linter.unusedSimpArgs false
set_option maxRecDepth 4000
set_option maxHeartbeats 4000000
end Go.Proofs.Ytddkocidfhaofaa.AM
/- Laws of dense matrices: DenseOps, walked. -/
namespace Go.Proofs.Ytddkocidfhaofaa.AM
open Go Go.RowKit Go.Proofs.Ytddkocidfhaofaa.PN Go.Proofs.Ytddkocidfhaofaa.V
open Go.Proofs.Ytddkocidfhaofaa.LA (S S_succ S_zero S_congr)
set_option linter.unusedVariables false
set_option linter.unusedSimpArgs false
set_option maxRecDepth 8000
set_option maxHeartbeats 8000000
instance mbase_bt (n : Nat) (zs : List Int) (i j : Nat) : Bt (mbase n zs i j) 5 := rowq_bt _ _
theorem nv_bt (n : Nat) (zs : List Int) (c : Nat) : Bt (nv n zs c) 11 := by
  unfold nv; split
  · exact (inferInstance : Bt (mbase n zs 0 c + mbase n zs (lb2 n) c) (5 + 5 + 1))
  · exact (mbase_bt n zs 0 c).mono (by decide)
theorem mkm_bt (n : Nat) (zs : List Int) (i j : Nat) : Bt (mkm n zs i j) 11 := by
  unfold mkm; split
  · unfold mx; split
    · exact nv_bt _ _ _
    · exact (mbase_bt _ _ _ _).mono (by decide)
  · exact (mbase_bt _ _ _ _).mono (by decide)
theorem mkm_TB {n k : Nat} {zs : List Int} (h0 : 0 < k) (hn : k ≤ 5) : TB k k 2400 (mkm n zs) := by
  refine TB.of (K := 11) h0 (by decide) (hA := fun i j => mkm_bt n zs i j) ?_
  have : 4 ^ (k - 1) ≤ 4 ^ 4 := Nat.pow_le_pow_right (by decide) (by omega)
  have e : 4 ^ 4 = 256 := rfl
  omega
theorem gdet_wt {n X : Nat} {F : Nat → Nat → Rat} (h : TB n n X F) : Wt (gdet n F) (X + 1) := by
  rw [← dd_gdet]
  have := h.d n (Nat.le_refl n)
  exact (dd_wt (h := this.mono (Nat.le_succ X)) (by omega))
end Go.Proofs.Ytddkocidfhaofaa.AM
/- Laws of dense matrices: DenseSolves, walked. -/
namespace Go.Proofs.Ytddkocidfhaofaa.AM
open Go Go.RowKit Go.Proofs.Ytddkocidfhaofaa.PN Go.Proofs.Ytddkocidfhaofaa.V
open Go.Proofs.Ytddkocidfhaofaa.LA (S S_succ S_zero S_congr app)
set_option linter.unusedVariables false
set_option linter.unusedSimpArgs false
set_option maxRecDepth 8000
set_option maxHeartbeats 8000000
theorem augb_bt {n K : Nat} {F : Nat → Nat → Rat} {b : Nat → Rat} [hf : ∀ i j, Bt (F i j) K] [hb : ∀ i, Bt (b i) K] (i j : Nat) : Bt (augb n F b i j) K := by
  unfold augb aug; split
  · exact hf i j
  · exact hb _
/-- How long rows are: of so many bits. -/
def xbd (K i : Nat) : Nat := 4 ^ i * (K + 1) / 32 + 1
theorem BB.of {n K : Nat} {F : Nat → Nat → Rat} {b : Nat → Rat} (h0 : 0 < n) (hK : 1 ≤ K) (hX : 3 * (4 ^ (n - 1) * (K + 1)) / 32 + 1 ≤ 2400) [hf : ∀ i j, Bt (F i j) K] [hb : ∀ i, Bt (b i) K] (hok : ybOK n (xbd K) = true) : BB n F b (xbd K) := by
  have hA : ∀ i j, Bt (augb n F b i j) K := fun i j => augb_bt (hf := hf) (hb := hb) i j
  refine ⟨TB.of h0 hK (hA := hA) hX, fun i hi j => ?_, hok⟩
  have h := pr_bits (n := n) (m := n + 1) hK (hA := hA) n i hi j
  have h2 : 4 ^ (min i (stps n (n + 1) false (augb n F b) n).at') * (K + 1) - 1 ≤ 4 ^ i * (K + 1) := by
    have := Nat.mul_le_mul_right (K + 1) (Nat.pow_le_pow_right (show 0 < 4 by decide) (Nat.min_le_left i (stps n (n + 1) false (augb n F b) n).at'))
    omega
  exact (h.mono h2).wt (Nat.le_refl _)
theorem yb11 : ∀ n : _root_.Fin 6, ybOK n.val (xbd 11) = true ∧ ∀ i : _root_.Fin 6, ybd n.val (xbd 11) n.val i.val ≤ 2500 := by decide +kernel
end Go.Proofs.Ytddkocidfhaofaa.AM
/- Laws of systems: entries' weights; matrices of drawn systems. -/
namespace Go.Proofs.Ytddkocidfhaofaa.AM
open Go Go.RowKit Go.Proofs.Ytddkocidfhaofaa.PN Go.Proofs.Ytddkocidfhaofaa.V
open Go.Proofs.Ytddkocidfhaofaa.LA (S S_succ S_zero S_congr)
set_option linter.unusedVariables false
set_option linter.unusedSimpArgs false
set_option maxRecDepth 8000
set_option maxHeartbeats 8000000
theorem GD.ftok (g : GD) (U : Nat → Bool) : ∀ i, (g.ft i).ok U
  | 0 | 1 | 2 | 3 | 4 | 5 | 6 => trivial
  | _ + 7 => trivial
theorem le7 {σ : Ren} {T : TypeId} {f f' : Nat → AV} (h0 : Le σ (f 0) (f' 0)) (h1 : Le σ (f 1) (f' 1)) (h2 : Le σ (f 2) (f' 2)) (h3 : Le σ (f 3) (f' 3)) (h4 : Le σ (f 4) (f' 4)) (h5 : Le σ (f 5) (f' 5)) (h6 : Le σ (f 6) (f' 6)) : BLe σ (.ones T 7 f) (.ones T 7 f') :=
  bleo rfl fun i hi => by
    match i, hi with
    | 0, _ => exact h0
    | 1, _ => exact h1
    | 2, _ => exact h2
    | 3, _ => exact h3
    | 4, _ => exact h4
    | 5, _ => exact h5
    | 6, _ => exact h6
theorem GD.le_ft (g : GD) {σ : Ren} {T : TypeId} : BLe σ (.ones T 7 g.ft) (.ones T 7 g.ft) := le7 (Le.eq rfl rfl) (Le.eq rfl rfl) (Le.eq rfl rfl) (Le.eq rfl rfl) (Le.eq rfl rfl) (Le.eq rfl rfl) (Le.eq rfl rfl)
theorem pow_wt {p : Rat} (hp : wt p ≤ 4) : ∀ k, wt (p ^ k) ≤ 4 * k + 1 := by
  intro k
  induction k with
  | zero => rw [Rat.pow_zero]; decide
  | succ k ih => rw [Rat.pow_succ]; have := wt_mul (p ^ k) p; omega
theorem gent_wt {g : GD} (h : g.OK) {i j : Nat} (hi : i < g.n) (hj : j < g.n) : wt (gent g i j) ≤ 300 := by
  have n8 := h.n8; have r3 := h.r3; have k1 := h.k1; have k7 := h.k7; have sm := h.sm
  obtain ⟨m1, m2, m3, m4⟩ := ok_lens h
  have hk : g.k = 1 ∨ g.k = 2 ∨ g.k = 3 ∨ g.k = 4 ∨ g.k = 5 ∨ g.k = 6 ∨ g.k = 7 := by omega
  have row : ∀ u, u < g.n → u * g.r + g.r ≤ g.n * g.r := fun u hu => by rw [← Nat.succ_mul]; exact Nat.mul_le_mul_right _ hu
  have hne : g.k = 5 ∨ g.k = 7 → g.A i - g.B j ≠ 0 := fun hk e => h.ne i (by omega) j (by omega) (by rw [← Rat.sub_add_cancel (a := g.A i) (b := g.B j), e, Rat.zero_add])
  unfold gent
  rcases hk with hk | hk | hk | hk | hk | hk | hk
  · rw [hk]; have := sm.A (i + g.n - 1 - j) (by omega); show wt (g.A (i + g.n - 1 - j)) ≤ 300; omega
  · rw [hk]; have := sm.A (i + j) (by omega); show wt (g.A (i + j)) ≤ 300; omega
  · have hlt : (i + g.n - j) % g.n < g.n := Nat.mod_lt _ (by omega)
    rw [hk]; have := sm.A ((i + g.n - j) % g.n) (by omega); show wt (g.A ((i + g.n - j) % g.n)) ≤ 300; omega
  · rw [hk]; have := pow_wt (sm.A i (by omega)) j; show wt (g.A i ^ j) ≤ 300; omega
  · have h1 := wt_div 1 (g.A i - g.B j) (hne (.inl hk)); have h2 := wt_sub (g.A i) (g.B j); have h3 := sm.A i (by omega); have h4 := sm.B j (by omega)
    have h5 : wt 1 ≤ 1 := by decide
    rw [hk]; show wt (1 / (g.A i - g.B j)) ≤ 300; omega
  · obtain ⟨hg, hh⟩ := m4 (.inl hk)
    have := wt_sum (n := min i j + 1) (K := 28) (f := fun m => rdot g (i - m) (j - m)) fun u hu => by
      have h1 := row (i - u) (by omega); have h2 := row (j - u) (by omega)
      exact rdot_wt sm (by omega) (by omega) r3
    rw [hk]; show wt (S (min i j + 1) fun m => rdot g (i - m) (j - m)) ≤ 300; omega
  · obtain ⟨hg, hh⟩ := m4 (.inr hk)
    have h0 := row i hi; have h0' := row j hj
    have h1 := wt_div (rdot g i j) (g.A i - g.B j) (hne (.inr hk)); have h2 := wt_sub (g.A i) (g.B j); have h3 := sm.A i (by omega); have h4 := sm.B j (by omega)
    have h5 := rdot_wt (i := i) (j := j) sm (by omega) (by omega) r3
    rw [hk]; show wt (rdot g i j / (g.A i - g.B j)) ≤ 300; omega
/-- The matrix of a drawn system. -/
theorem ex_mk {kind n most : Int} {zs : List Int} (m1 : 1 ≤ most) (m8 : most ≤ 8) : Has Try.prog 42 [.ag 7 fun i => ((mkg kind n zs most).ft i).old] (.mat true (mkN n most) (fun _ => mkN n most) (fun i j => .q (gent (mkg kind n zs most) i j))) :=
  Has.ag (u' := (mkg kind n zs most).f) (g7 rfl rfl rfl rfl rfl rfl rfl) (ge_expand (g := mkg kind n zs most) (mkg_ok m1 m8))
theorem mkN_le {n most : Int} (m1 : 1 ≤ most) : 1 ≤ mkN n most ∧ (mkN n most : Int) ≤ most ∧ ((mkN n most : Nat) : Int) = 1 + wthn n most := by
  obtain ⟨b1, b2⟩ := wthn_lt (a := n) (n := most) (by omega)
  unfold mkN
  omega
end Go.Proofs.Ytddkocidfhaofaa.AM
/- The document's systems: entries. -/
namespace Go.Proofs.Ytddkocidfhaofaa.AM
open Go Go.RowKit Go.Proofs.Ytddkocidfhaofaa.PN Go.Proofs.Ytddkocidfhaofaa.V
open Go.Proofs.Ytddkocidfhaofaa.LA (S S_succ S_zero S_congr)
set_option linter.unusedVariables false
set_option linter.unusedSimpArgs false
set_option maxRecDepth 8000
set_option maxHeartbeats 8000000
end Go.Proofs.Ytddkocidfhaofaa.AM
/- The document's systems: the whole matrix. -/
namespace Go.Proofs.Ytddkocidfhaofaa.AM
open Go Go.RowKit Go.Proofs.Ytddkocidfhaofaa.PN Go.Proofs.Ytddkocidfhaofaa.V
open Go.Proofs.Ytddkocidfhaofaa.LA (S S_succ S_zero S_congr)
set_option linter.unusedVariables false
set_option linter.unusedSimpArgs false
set_option maxRecDepth 8000
set_option maxHeartbeats 8000000
theorem le_fok (g : GD) {σ : Ren} (i : Nat) (hi : i < 7) : Le σ (g.f i) (g.f i) := by
  match i, hi with
  | 0, _ | 1, _ | 2, _ | 3, _ | 4, _ | 5, _ | 6, _ => exact Le.eq rfl rfl
end Go.Proofs.Ytddkocidfhaofaa.AM
/- Displaced matrices. -/
namespace Go.Proofs.Ytddkocidfhaofaa.AM
open Go.Proofs.Ytddkocidfhaofaa.PN
open Go.Proofs.Ytddkocidfhaofaa.LA (S S_succ S_zero S_congr S_first S_null Mt HasRank rank_le)
set_option linter.unusedVariables false
set_option linter.unusedSimpArgs false
set_option maxRecDepth 8000
set_option maxHeartbeats 8000000
/-- An entry; nought outside. -/
def gat (g : GD) (a b : Int) : Rat := if a < 0 ∨ b < 0 ∨ (g.n : Int) ≤ a ∨ (g.n : Int) ≤ b then 0 else gent g a.toNat b.toNat
/-- The displaced matrix. -/
def gdis (g : GD) (i j : Nat) : Rat :=
  match g.k with
  | 2 => gat g ((i : Int) - 1) j - gat g i ((j : Int) - 1)
  | 4 => g.A i * gat g i j - gat g i ((j : Int) + 1)
  | 5 => (g.A i - g.B j) * gat g i j
  | 7 => (g.A i - g.B j) * gat g i j
  | _ => gat g i j - gat g ((i : Int) - 1) ((j : Int) - 1)
theorem gat_in {g : GD} {i j : Nat} (hi : i < g.n) (hj : j < g.n) : gat g i j = gent g i j := by
  unfold gat
  rw [if_neg (by omega)]; rfl
theorem gat_at {g : GD} {a b : Int} {i j : Nat} (hi : i < g.n) (hj : j < g.n) (ha : a = i) (hb : b = j) : gat g a b = gent g i j := by rw [ha, hb, gat_in hi hj]
theorem gat_out {g : GD} {a b : Int} (h : a < 0 ∨ b < 0 ∨ (g.n : Int) ≤ a ∨ (g.n : Int) ≤ b) : gat g a b = 0 := if_pos h
theorem sub_ne {x y : Rat} (h : x ≠ y) : x - y ≠ 0 := fun e => h (by rw [← Rat.sub_add_cancel (a := x) (b := y), e, Rat.zero_add])
theorem gdis_like {g : GD} (h : g.OK) (hk : g.k = 6 ∨ g.k = 7) {i j : Nat} (hi : i < g.n) (hj : j < g.n) : gdis g i j = rdot g i j := by
  obtain ⟨m1, m2, m3, m4⟩ := ok_lens h
  rcases hk with hk | hk
  · have e6 : ∀ i j, gent g i j = S (min i j + 1) fun m => rdot g (i - m) (j - m) := fun i j => by unfold gent; rw [hk]; rfl
    have e0 : gdis g i j = gat g i j - gat g ((i : Int) - 1) ((j : Int) - 1) := by unfold gdis; rw [hk]; rfl
    rw [e0, gat_in hi hj]
    by_cases h0 : i = 0 ∨ j = 0
    · rw [gat_out (by omega), e6, show min i j = 0 by omega, S_succ, S_zero, Rat.zero_add, Rat.sub_eq_add_neg, Rat.neg_zero, Rat.add_zero]; rfl
    · obtain ⟨a, rfl⟩ : ∃ a, i = a + 1 := ⟨i - 1, by omega⟩
      obtain ⟨b, rfl⟩ : ∃ b, j = b + 1 := ⟨j - 1, by omega⟩
      rw [gat_at (i := a) (j := b) (by omega) (by omega) (by omega) (by omega), e6, e6, show min (a + 1) (b + 1) + 1 = (min a b + 1) + 1 by omega, S_first]
      rw [S_congr (g := fun m => rdot g (a - m) (b - m)) (fun m _ => by rw [Nat.add_sub_add_right, Nat.add_sub_add_right])]
      show rdot g (a + 1) (b + 1) + _ - _ = _
      generalize S (min a b + 1) (fun m => rdot g (a - m) (b - m)) = x
      rw [Rat.sub_eq_add_neg, Rat.add_assoc, Rat.add_neg_cancel, Rat.add_zero]
  · have e0 : gdis g i j = (g.A i - g.B j) * gat g i j := by unfold gdis; rw [hk]; rfl
    have hne := sub_ne (h.ne i (by omega) j (by omega))
    rw [e0, gat_in hi hj]
    show _ * gent g i j = _
    have : gent g i j = rdot g i j / (g.A i - g.B j) := by unfold gent; rw [hk]; rfl
    rw [this, Rat.div_def, Rat.mul_comm (rdot g i j), ← Rat.mul_assoc, Rat.mul_inv_cancel _ hne, Rat.one_mul]
/-- .. as a whole matrix. -/
def gdc (g : GD) (i j : Nat) : Rat := if i < g.n ∧ j < g.n then gdis g i j else 0
theorem gdc_in {g : GD} {i j : Nat} (hi : i < g.n) (hj : j < g.n) : gdc g i j = gdis g i j := if_pos ⟨hi, hj⟩
/-- Summed along diagonals it is the matrix again. -/
theorem gdis_sum {g : GD} (hk : g.k = 1 ∨ g.k = 3 ∨ g.k = 6) : ∀ {i j : Nat}, i < g.n → j < g.n → S (min i j + 1) (fun k => gdis g (i - k) (j - k)) = gent g i j := by
  have e0 : ∀ i j : Nat, gdis g i j = gat g i j - gat g ((i : Int) - 1) ((j : Int) - 1) := fun i j => by
    unfold gdis
    rcases hk with hk | hk | hk <;> (rw [hk]; rfl)
  intro i
  induction i with
  | zero =>
    intro j hi hj
    rw [show min 0 j + 1 = 1 by omega, S_succ, S_zero, Rat.zero_add, e0, gat_in (by omega) (by omega), gat_out (by omega)]
    show _ - 0 = _
    rw [Rat.sub_eq_add_neg, Rat.neg_zero, Rat.add_zero]; rfl
  | succ i ih =>
    intro j hi hj
    cases j with
    | zero =>
      rw [show min (i + 1) 0 + 1 = 1 by omega, S_succ, S_zero, Rat.zero_add, e0, gat_in (by omega) (by omega), gat_out (by omega), Rat.sub_eq_add_neg, Rat.neg_zero, Rat.add_zero]; rfl
    | succ j =>
      rw [show min (i + 1) (j + 1) + 1 = (min i j + 1) + 1 by omega, S_first, S_congr (g := fun k => gdis g (i - k) (j - k)) (fun k _ => by rw [Nat.add_sub_add_right, Nat.add_sub_add_right]), ih (by omega) (by omega)]
      show gdis g (i + 1) (j + 1) + _ = _
      rw [e0, gat_in (i := i + 1) (j := j + 1) hi hj, gat_at (i := i) (j := j) (by omega) (by omega) (by omega) (by omega), Rat.sub_add_cancel]
end Go.Proofs.Ytddkocidfhaofaa.AM
/- Package fast: entries, displaced. -/
namespace Go.Proofs.Ytddkocidfhaofaa.AM
open Go Go.RowKit Go.Proofs.Ytddkocidfhaofaa.PN Go.Proofs.Ytddkocidfhaofaa.V
open Go.Proofs.Ytddkocidfhaofaa.LA (S S_succ S_zero S_congr)
set_option linter.unusedVariables false
set_option linter.unusedSimpArgs false
set_option maxRecDepth 8000
set_option maxHeartbeats 8000000
/-- A system, and its matrix. -/
def GD.bd (g : GD) (i : Nat) : AV := [AV.i g.k, .i g.n, .i g.r, .row false g.la (fun i => .q (g.A i)), .row false g.lb (fun i => .q (g.B i)), .row false g.lg (fun i => .q (g.G i)), .row false g.lh (fun i => .q (g.H i)), .mat false g.n (fun _ => g.n) (fun i j => .q (gent g i j))].getD i (.v undef)
def GD.bv (g : GD) : AV := .ag 8 g.bd
theorem GD.bdok (g : GD) (U : Nat → Bool) : ∀ i, (g.bd i).ok U
  | 0 | 1 | 2 | 3 | 4 | 5 | 6 | 7 => trivial
  | _ + 8 => trivial
theorem g8 {f f' : Nat → AV} (h0 : f 0 = f' 0) (h1 : f 1 = f' 1) (h2 : f 2 = f' 2) (h3 : f 3 = f' 3) (h4 : f 4 = f' 4) (h5 : f 5 = f' 5) (h6 : f 6 = f' 6) (h7 : f 7 = f' 7) : ∀ i, i < 8 → f i = f' i := fun i hi => by
  match i, hi with
  | 0, _ => exact h0
  | 1, _ => exact h1
  | 2, _ => exact h2
  | 3, _ => exact h3
  | 4, _ => exact h4
  | 5, _ => exact h5
  | 6, _ => exact h6
  | 7, _ => exact h7
theorem gat_wt {g : GD} (h : g.OK) (a b : Int) : wt (gat g a b) ≤ 300 := by
  unfold gat
  split
  · have : wt 0 ≤ 1 := by decide
    omega
  · exact gent_wt h (by omega) (by omega)
end Go.Proofs.Ytddkocidfhaofaa.AM
/- Package fast: displaced matrices, applied ones. -/
namespace Go.Proofs.Ytddkocidfhaofaa.AM
open Go Go.RowKit Go.Proofs.Ytddkocidfhaofaa.PN Go.Proofs.Ytddkocidfhaofaa.V
open Go.Proofs.Ytddkocidfhaofaa.LA (S S_succ S_zero S_congr)
set_option linter.unusedVariables false
set_option linter.unusedSimpArgs false
set_option maxRecDepth 8000
set_option maxHeartbeats 8000000
/-- The matrix; nought outside. -/
def gec (g : GD) (i j : Nat) : Rat := if i < g.n ∧ j < g.n then gent g i j else 0
theorem gec_in {g : GD} {i j : Nat} (hi : i < g.n) (hj : j < g.n) : gec g i j = gent g i j := if_pos ⟨hi, hj⟩
theorem gec_wt {g : GD} (h : g.OK) (i j : Nat) : Wt (gec g i j) 300 := by
  unfold gec
  split
  · exact ⟨gent_wt h (by omega) (by omega)⟩
  · exact ⟨by decide⟩
theorem Has.gec {P : Program} {f : FuncId} {g : GD} {xs : List AV} {r : AV} (H : Has P f (.mat false g.n (fun _ => g.n) (fun i j => .q (gec g i j)) :: xs) r) : Has P f (.mat false g.n (fun _ => g.n) (fun i j => .q (gent g i j)) :: xs) r :=
  Has.args H fun S B β w vs hv => rvs_cons (rv_mat fun i hi j hj => by rw [gec_in hi hj]) rvs_same hv
end Go.Proofs.Ytddkocidfhaofaa.AM
/- The document's chapter 10: the least leading minor that is nought; systems. -/
namespace Go.Proofs.Ytddkocidfhaofaa.AM
open Go Go.RowKit Go.Proofs.Ytddkocidfhaofaa.PN Go.Proofs.Ytddkocidfhaofaa.V
open Go.Proofs.Ytddkocidfhaofaa.LA (S S_succ S_zero S_congr app det unique)
set_option linter.unusedVariables false
set_option linter.unusedSimpArgs false
set_option maxRecDepth 8000
set_option maxHeartbeats 8000000
/-- What is known of a small Toeplitz system, and of a right side. -/
structure TS (g : GD) (b : Nat → Rat) : Prop where
  ok : g.OK
  k : g.k = 1
  n6 : g.n ≤ 6
  F : ∀ i j, Fq 60 1200 (gec g i j)
  Ft : ∀ i j, Bt (gec g i j) 5
  bq : ∀ i, Fq 60 1200 (b i)
  bt : ∀ i, Bt (b i) 5
theorem toe_gec {g : GD} (hk : g.k = 1) : LA.Toe g.n (gec g) := fun i j hi hj => by
  rw [gec_in hi hj, gec_in (by omega) (by omega)]
  unfold gent; rw [hk]
  show g.A (i + 1 + g.n - 1 - (j + 1)) = g.A (i + g.n - 1 - j)
  congr 1; omega
theorem toe_gent {g : GD} (hk : g.k = 1) : LA.Toe g.n (gent g) := fun i j hi hj => by
  unfold gent; rw [hk]
  show g.A (i + 1 + g.n - 1 - (j + 1)) = g.A (i + g.n - 1 - j)
  congr 1; omega
theorem S_gec {g : GD} {x : Nat → Rat} {i : Nat} (hi : i < g.n) : (S g.n fun j => gec g i j * x j) = S g.n fun j => gent g i j * x j := S_congr fun j hj => by rw [gec_in hi hj]
theorem det_gec {g : GD} {k : Nat} (hk : k ≤ g.n) : det k (gec g) = det k (gent g) := LA.det_congr fun i j hi hj => gec_in (by omega) (by omega)
theorem lst_gec (g : GD) : lstD (gec g) g.n = lstD (gent g) g.n := by
  have e : ∀ k, k < g.n → (gdet (k + 1) (gec g) = 0 ↔ gdet (k + 1) (gent g) = 0) := fun k hk => by rw [gdet_det, gdet_det, det_gec (by omega)]
  obtain ⟨_, p2, p3, p4⟩ := fnd_le (fun k => gdet (k + 1) (gec g) = 0) g.n 0
  obtain ⟨_, q2, q3, q4⟩ := fnd_le (fun k => gdet (k + 1) (gent g) = 0) g.n 0
  have : fnd (fun k => gdet (k + 1) (gec g) = 0) g.n 0 = fnd (fun k => gdet (k + 1) (gent g) = 0) g.n 0 := by
    rcases Nat.lt_trichotomy (fnd (fun k => gdet (k + 1) (gec g) = 0) g.n 0) (fnd (fun k => gdet (k + 1) (gent g) = 0) g.n 0) with h | h | h
    · exact absurd ((e _ (by omega)).1 (p4 (by omega))) (q3 _ (Nat.zero_le _) h)
    · exact h
    · exact absurd ((e _ (by omega)).2 (q4 (by omega))) (p3 _ (Nat.zero_le _) h)
  unfold lstD
  rw [this]
theorem yb5 : ∀ n : _root_.Fin 7, ybOK n.val (xbd 5) = true := by decide +kernel
end Go.Proofs.Ytddkocidfhaofaa.AM
/- A slice of nothing, in a struct's cell, that is laid behind. -/
namespace Go.Proofs.Ytddkocidfhaofaa.AM
open Go Go.RowKit Go.Proofs.Ytddkocidfhaofaa.PN Go.Proofs.Ytddkocidfhaofaa.V
set_option linter.unusedVariables false
set_option linter.unusedSimpArgs false
theorem fld_next {s : St} {t a : Nat} {b b' : Blk} {F : Nat → Blk} {e : List (Nat × AV)} {l : List (Nat × Fam)} (ha : s.heap a = some (1, F)) (hF : F 0 = b') (hb : BLe (s1 t a) b' b) (hok : b.ok (fun _ => false)) (h60 : s.used 60 = false) (hn : notIn t a (keys l) = true)
    (he : AllE s (s1 t a) (fun g => memN g (t :: keys l)) e) (hl : AllH s (s1 t a) (fun g => memN g (t :: keys l)) l) : Imp s (stl e ((t, (1, fun _ => b)) :: l)) := by
  refine imp_stl (h := (t, (1, fun _ => b)) :: l) (s1 t a) (fun h => by rw [h60] at h; cases h) (s1_injl hn) he ⟨fun r hr => ?_, hl⟩ (by rw [h60]; rfl)
  obtain rfl : r = 0 := by omega
  rw [s1_t]
  exact ⟨1, F, ha, Nat.zero_lt_one, by rw [hF]; exact hb, Blk.ok_mono (fun g h => by cases h) hok⟩
theorem imp_nilf {s : St} (g h i : Nat) {n : Nat} {T : TypeId} {F : Nat → Blk} {f : Nat → AV} (q : Nat → RA) (hh : s.heap h = some (1, F)) (hF : F 0 = .ones T n f) (hi : i < n) (hfi : f i = .v (.slice none 0 0)) (hg : s.used g = false) :
    Imp s ⟨s.env, put (put s.heap g (some (1, fun _ => .rats 0 q))) h (some (1, fun _ => .ones T n (updN f i (.own g 0)))), mark s.used g⟩ := by
  intro W N β w a hs
  have hne : g ≠ h := fun e => by subst e; have := hs.live _ _ _ hh; rw [hg] at this; cases this
  have h2 := hs.newfam hg none (fun o ho => by cases ho) (.slice none 0 0) (.rats 0 q) (O := fun _ => False) hs.kept (Ext.refl _ _) (fun i h => h.elim) (fun i hi => by cases hi) (fun S' β' _ => ⟨trivial, .inl ⟨rfl, rfl⟩⟩)
  have h2 : Sim W N (setv β g (.slice none 0 0)) w a ⟨s.env, put s.heap g (some (1, fun _ => .rats 0 q)), mark s.used g⟩ := h2
  generalize hb' : setv β g (.slice none 0 0) = β' at *
  have hb0 : β' g 0 = .slice none 0 0 := by rw [← hb']; unfold setv; rw [if_pos rfl]
  have h3 : put s.heap g (some (1, fun _ => Blk.rats 0 q)) h = some (1, F) := (put_ne _ _ (Ne.symm hne)).trans hh
  generalize hs2 : (⟨s.env, put s.heap g (some (1, fun _ => .rats 0 q)), mark s.used g⟩ : St) = s2 at h2
  have e2 : s2.env = s.env := by rw [← hs2]
  have e3 : s2.heap h = some (1, F) := by rw [← hs2]; exact h3
  have e4 : s2.used = mark s.used g := by rw [← hs2]
  have e5 : put s.heap g (some (1, fun _ => Blk.rats 0 q)) = s2.heap := by rw [← hs2]
  rw [e5, ← e2, ← e4]
  have hheap : ∀ k n1 F1, put s2.heap h (some (1, fun _ => Blk.ones T n (updN f i (.own g 0)))) k = some (n1, F1) → ∃ F2, s2.heap k = some (n1, F2) ∧ (k = h → n1 = 1 ∧ F1 = fun _ => Blk.ones T n (updN f i (.own g 0))) ∧ (k ≠ h → F1 = F2) := by
    intro k n1 F1 e
    by_cases c : k = h
    · subst c
      rw [put_same] at e; cases e
      exact ⟨F, e3, fun _ => ⟨rfl, rfl⟩, fun e => absurd rfl e⟩
    · rw [put_ne _ _ c] at e
      exact ⟨F1, e, fun e => absurd e c, fun _ => rfl⟩
  have hown : ∀ k, Own ⟨s2.env, put s2.heap h (some (1, fun _ => Blk.ones T n (updN f i (.own g 0)))), s2.used⟩ β' k ↔ Own s2 β' k := by
    intro k
    constructor
    · rintro ⟨g', n1, F1, r, h1, h2', h3'⟩
      obtain ⟨F2, a1, _⟩ := hheap g' n1 F1 h1
      exact ⟨g', n1, F2, r, a1, h2', h3'⟩
    · rintro ⟨g', n1, F1, r, h1, h2', h3'⟩
      by_cases c : g' = h
      · subst c
        rw [e3] at h1; cases h1
        exact ⟨g', 1, _, r, put_same _ _ _, h2', h3'⟩
      · exact ⟨g', n1, F1, r, (put_ne _ _ c).trans h1, h2', h3'⟩
  have hS : notOwn W ⟨s2.env, put s2.heap h (some (1, fun _ => Blk.ones T n (updN f i (.own g 0)))), s2.used⟩ β' = notOwn W s2 β' := funext fun k => by unfold notOwn; rw [show Own _ β' k = Own s2 β' k from propext (hown k)]
  refine ⟨β', h2.kept, h2.nodef, h2.size, fun t z hz => by rw [hS]; exact h2.env t z hz, fun k n1 F1 r h1 h2' => ?_, fun k n1 F1 h1 => ?_, fun g1 n1 F1 r1 g2 n2 F2 r2 k h1 h2' h3' h4 h5 h6 => ?_, h2.fix, fun k ho => h2.pin k ((hown k).1 ho), h2.fixd, h2.keep⟩
  · obtain ⟨F2, a1, a2, a3⟩ := hheap k n1 F1 h1
    obtain ⟨q1, q2⟩ := h2.heap k n1 F2 r a1 h2'
    rw [hS]
    by_cases c : k = h
    · obtain ⟨rfl, rfl⟩ := a2 c
      subst c
      rw [e3] at a1; cases a1
      obtain rfl : r = 0 := by omega
      rw [hF] at q1 q2
      refine ⟨fun j hj => ?_, q2.1, ?_⟩
      · by_cases c2 : j = i
        · subst c2; rw [updN_same]; rw [e4]; exact mark_same _ _
        · rw [updN_ne _ _ c2]; exact q1 j hj
      · rcases q2.2 with e | ⟨k', cs, hB, hr, hat, hx⟩
        · exact .inl e
        · refine .inr ⟨k', cs, hB, hr, hat, fun j hj => ?_⟩
          obtain ⟨y, b1, b2, b3⟩ := hx j hj
          refine ⟨y, b1, b2, ?_⟩
          by_cases c2 : j = i
          · subst c2
            rw [hfi] at b3
            have b3 : y = .slice none 0 0 := b3
            rw [updN_same]
            exact ⟨by rw [b3, hb0], none, 0, 0, b3⟩
          · rw [updN_ne _ _ c2]; exact b3
    · rw [a3 c]; exact ⟨q1, q2⟩
  · obtain ⟨F2, a1, _⟩ := hheap k n1 F1 h1
    exact h2.live _ _ _ a1
  · obtain ⟨G1, a1, _⟩ := hheap g1 n1 F1 h1
    obtain ⟨G2, b1, _⟩ := hheap g2 n2 F2 h3'
    exact h2.inj _ _ _ _ _ _ _ _ k a1 h2' b1 h4 h5 h6
end Go.Proofs.Ytddkocidfhaofaa.AM
/- Numbers from 0 to n - 1, in each package of laws. -/
namespace Go.Proofs.Ytddkocidfhaofaa.AM
open Go Go.RowKit Go.Proofs.Ytddkocidfhaofaa.PN Go.Proofs.Ytddkocidfhaofaa.V
set_option linter.unusedVariables false
set_option linter.unusedSimpArgs false
theorem k_within10 {a n : Int} (hn : 0 < n) (hn' : n < 1000000000) : Has Try.prog 14 [.i a, .i n] (.i (wthn a n)) := by
  refine has_of Try.func14 (by kernel_rfl) rfl Try.ntmps14 Try.results14 rfl rfl rfl ?_
  have h1 := Int.tmod_lt_of_pos a hn
  have h2 : -n < a.tmod n := Int.lt_tmod_of_pos a hn
  refine run0 ?_
  refine awp_if rfl (fun h => ?_) (fun h => ?_)
  · have e : wthn a n = a.tmod n + n := if_pos h
    rw [e]
    refine run0 ?_
    refine ⟨.inr rfl, _, Imp.refl _, ?_⟩
    exact .one (.tmp rfl)
  · have e : wthn a n = a.tmod n := if_neg h
    rw [e]
    refine run0 ?_
    refine ⟨.inr rfl, _, Imp.refl _, ?_⟩
    exact .one (.tmp rfl)
end Go.Proofs.Ytddkocidfhaofaa.AM

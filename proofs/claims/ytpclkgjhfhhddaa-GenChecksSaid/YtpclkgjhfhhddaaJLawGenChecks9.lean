/- Joined texts, 9: AmN AmO RatC RatD RatE. -/
import Derived.Test.YtpclkgjhfhhddaaJLawGenChecks8
import Derived.Test.YtpclkgjhfhhddaaJLawGenChecks3
set_option linter.unusedVariables false
set_option linter.unusedSimpArgs false
/- What is told of a state, told otherwise. -/
namespace Go.Proofs.Ytpclkgjhfhhddaa.AM
open Go Go.RowKit Go.Proofs.Ytpclkgjhfhhddaa.PN Go.Proofs.Ytpclkgjhfhhddaa.V
set_option linter.unusedVariables false
set_option linter.unusedSimpArgs false
/-- Own blocks under other numbers. -/
abbrev Ren := Nat → Nat → Nat × Nat
def idR : Ren := fun g r => (g, r)
def ren (σ : Ren) (β : Nat → Nat → Value) : Nat → Nat → Value := fun g r => β (σ g r).1 (σ g r).2
/-- Whatever x says y says, under other numbers. -/
def Le (σ : Ren) (x y : AV) : Prop := ∀ S B β w v, RV S B β w x v → RV S B (ren σ β) w y v
theorem Le.same {σ : Ren} {x : AV} (h : x.ok (fun _ => false)) : Le σ x x := fun S B β w v hv =>
  hv.fwd (U := fun _ => false) (O := fun _ => False) ⟨Ext.refl _ _, fun _ _ h => h, fun _ h _ => h, Nat.le_refl _, fun _ _ h => by cases h⟩ h
theorem Le.id {x y : AV} (h : x = y) : Le idR x y := by subst h; exact fun S B β w v hv => hv
theorem Le.eq {σ : Ren} {x y : AV} (h : x = y) (hc : x.closed = true) : Le σ x y := by subst h; exact Le.same (closed_ok hc)
theorem Le.own {σ : Ren} {g r g' r' : Nat} (h : σ g' r' = (g, r)) : Le σ (.own g r) (.own g' r') := by
  intro S B β w v hv
  have e : ren σ β g' r' = β g r := by unfold ren; rw [h]
  exact ⟨by rw [e]; exact hv.1, hv.2⟩
theorem Le.ptr {σ : Ren} {g r g' r' i : Nat} (h : σ g' r' = (g, r)) : Le σ (.ptr g r i) (.ptr g' r' i) := by
  intro S B β w v hv
  have e : ren σ β g' r' = β g r := by unfold ren; rw [h]
  obtain ⟨b, hb, hv⟩ := hv
  exact ⟨b, by rw [e]; exact hb, hv⟩
theorem Le.sl {σ : Ren} {g r g' r' off n : Nat} (h : σ g' r' = (g, r)) : Le σ (.sl g r off n) (.sl g' r' off n) := by
  intro S B β w v hv
  have e : ren σ β g' r' = β g r := by unfold ren; rw [h]
  obtain ⟨A, c, h1, h2, h3, h4⟩ := hv
  exact ⟨A, c, h1, h2, h3, fun hn => by rw [e]; exact h4 hn⟩
theorem Le.rptr {σ : Ren} {g r g' r' i : Nat} (h : σ g' r' = (g, r)) : Le σ (.rptr g r i) (.rptr g' r' i) := by
  intro S B β w v hv
  have e : ren σ β g' r' = β g r := by unfold ren; rw [h]
  obtain ⟨b, hb, hv⟩ := hv
  exact ⟨b, by rw [e]; exact hb, hv⟩
/-- Numbers in a row that are the same. -/
theorem Le.row {σ : Ren} {fr fr' : Bool} {n n' : Nat} {f f' : Nat → RA} (hn : n = n') (h : ∀ i, i < n → f i = f' i) (hf : fr' = true → fr = true) : Le σ (.row fr n f) (.row fr' n' f') := by
  subst hn
  rintro S B β w v ⟨A, c, h1, h2, h3, h4⟩
  exact ⟨A, c, h1, h2, h3, fun i hi => by obtain ⟨b, off, a1, a2, a3, a4⟩ := h4 i hi; exact ⟨b, off, a1, a2, (fun e => a3 (hf e)), by rw [← h i hi]; exact a4⟩⟩
theorem Le.mat {σ : Ren} {fr fr' : Bool} {n n' : Nat} {m m' : Nat → Nat} {F F' : Nat → Nat → RA} (hn : n = n') (hm : ∀ i, i < n → m i = m' i) (h : ∀ i, i < n → ∀ j, j < m i → F i j = F' i j) (hf : fr' = true → fr = true) : Le σ (.mat fr n m F) (.mat fr' n' m' F') := by
  subst hn
  rintro S B β w v ⟨A, c, h1, h2, h3, h4⟩
  refine ⟨A, c, h1, h2, h3, fun i hi => ?_⟩
  obtain ⟨b, off, cs, x, a1, a2, a3, a4, a5, a6⟩ := h4 i hi
  exact ⟨b, off, cs, x, a1, a2, (fun e => a3 (hf e)), a4, a5, Le.row (σ := idR) (hm i hi) (h i hi) hf S B (fun _ _ => undef) w x a6⟩
def BLe (σ : Ren) : Blk → Blk → Prop
  | .rats n f, .rats n' f' => n = n' ∧ ∀ i, i < n → f i = f' i
  | .ones T n f, .ones T' n' f' => T = T' ∧ n = n' ∧ ∀ i, i < n → Le σ (f i) (f' i)
  | .lims n f, .lims n' f' => n = n' ∧ ∀ i, i < n → f i = f' i
  | _, _ => False
theorem rb_ble {σ : Ren} {S : Nat → Prop} {B : Nat} {β : Nat → Nat → Value} {w : World} {u : Value} {b b' : Blk} (h : BLe σ b b') (hb : RB S B β w u b) : RB S B (ren σ β) w u b' := by
  cases b with
  | rats n f =>
    cases b' with
    | rats n' f' =>
      obtain ⟨rfl, h⟩ := h
      rcases hb with hb | ⟨k, cs, h1, h2, h3, h4⟩
      · exact .inl hb
      · exact .inr ⟨k, cs, h1, h2, h3, fun i hi => by obtain ⟨s, vn, vd, a0, a1, a2, a3⟩ := h4 i hi; exact ⟨s, vn, vd, a0, a1, a2, by rw [← h i hi]; exact a3⟩⟩
    | ones T' n' f' => exact h.elim
    | lims n' f' => exact h.elim
  | ones T n f =>
    cases b' with
    | rats n' f' => exact h.elim
    | ones T' n' f' =>
      obtain ⟨rfl, rfl, h⟩ := h
      obtain ⟨hT, hb⟩ := hb
      refine ⟨hT, ?_⟩
      rcases hb with hb | ⟨k, cs, h1, h2, h3, h4⟩
      · exact .inl hb
      · exact .inr ⟨k, cs, h1, h2, h3, fun i hi => by obtain ⟨y, a0, a1, a2⟩ := h4 i hi; exact ⟨y, a0, a1, h i hi S B β w y a2⟩⟩
    | lims n' f' => exact h.elim
  | lims n f =>
    cases b' with
    | rats n' f' => exact h.elim
    | ones T' n' f' => exact h.elim
    | lims n' f' =>
      obtain ⟨rfl, h⟩ := h
      rcases hb with hb | ⟨k, cs, h1, h2, h3, h4⟩
      · exact .inl hb
      · exact .inr ⟨k, cs, h1, h2, h3, fun i hi => by rw [← h i hi]; exact h4 i hi⟩
/-- A list of what is known. -/
def lkp {α : Type} : List (Nat × α) → Nat → Option α
  | [], _ => none
  | (k, x) :: l, t => bif Nat.beq t k then some x else lkp l t
theorem lkp_mem {α : Type} : ∀ {l : List (Nat × α)} {t : Nat} {x : α}, lkp l t = some x → (t, x) ∈ l
  | [], t, x, h => by cases h
  | (k, y) :: l, t, x, h => by
    unfold lkp at h
    cases e : Nat.beq t k with
    | true => rw [e] at h; cases h; rw [Nat.eq_of_beq_eq_true e]; exact List.mem_cons_self ..
    | false => rw [e] at h; exact List.mem_cons_of_mem _ (lkp_mem h)
def keys {α : Type} : List (Nat × α) → List Nat
  | [] => []
  | (k, _) :: l => k :: keys l
theorem lkp_key {α : Type} : ∀ {l : List (Nat × α)} {t : Nat} {x : α}, lkp l t = some x → memN t (keys l) = true
  | [], t, x, h => by cases h
  | (k, y) :: l, t, x, h => by
    unfold lkp at h
    unfold keys memN
    cases e : Nat.beq t k with
    | true => rfl
    | false => rw [e] at h; exact lkp_key h
def stl (e : List (Nat × AV)) (h : List (Nat × Fam)) : St := ⟨lkp e, lkp h, fun g => memN g (keys h)⟩
/-- Each slot of a list is known. -/
def AllE (s : St) (σ : Ren) (U : Nat → Bool) : List (Nat × AV) → Prop
  | [] => True
  | (t, y) :: l => (∃ x, s.env t = some x ∧ Le σ x y ∧ y.ok U) ∧ AllE s σ U l
/-- Each family of a list is known. -/
def AllH (s : St) (σ : Ren) (U : Nat → Bool) : List (Nat × Fam) → Prop
  | [] => True
  | (g, (n, F)) :: l => (∀ r, r < n → ∃ n' F', s.heap (σ g r).1 = some (n', F') ∧ (σ g r).2 < n' ∧ BLe σ (F' (σ g r).2) (F r) ∧ (F r).ok U) ∧ AllH s σ U l
theorem AllE.get {s : St} {σ : Ren} {U : Nat → Bool} : ∀ {l : List (Nat × AV)}, AllE s σ U l → ∀ {t : Nat} {y : AV}, (t, y) ∈ l → ∃ x, s.env t = some x ∧ Le σ x y ∧ y.ok U
  | [], _, t, y, h => by cases h
  | (k, z) :: l, ha, t, y, h => by
    rcases List.mem_cons.1 h with e | h
    · cases e; exact ha.1
    · exact ha.2.get h
theorem AllH.get {s : St} {σ : Ren} {U : Nat → Bool} : ∀ {l : List (Nat × Fam)}, AllH s σ U l → ∀ {g n : Nat} {F : Nat → Blk}, (g, (n, F)) ∈ l → ∀ r, r < n → ∃ n' F', s.heap (σ g r).1 = some (n', F') ∧ (σ g r).2 < n' ∧ BLe σ (F' (σ g r).2) (F r) ∧ (F r).ok U
  | [], _, g, n, F, h => by cases h
  | (k, (m, G)) :: l, ha, g, n, F, h => by
    rcases List.mem_cons.1 h with e | h
    · cases e; exact ha.1
    · exact ha.2.get h
/-- What is known of s is known as these lists say. -/
theorem Blk.ok_mono {U U' : Nat → Bool} (h : ∀ g, U g = true → U' g = true) {b : Blk} (k : b.ok U) : b.ok U' := by
  cases b with
  | rats n f => trivial
  | ones T n f => exact fun i hi => AV.ok_mono h (k i hi)
  | lims n f => exact h _ k
theorem imp_stl {s : St} {e : List (Nat × AV)} {h : List (Nat × Fam)} (σ : Ren) (hσ : s.used 60 = true → ∀ g, fx3 g = true → ∀ r, σ g r = (g, r)) (hinj : ∀ g r g' r', memN g (keys h) = true → memN g' (keys h) = true → σ g r = σ g' r' → g = g' ∧ r = r')
    (he : AllE s σ (fun g => memN g (keys h)) e) (hh : AllH s σ (fun g => memN g (keys h)) h) (h9 : (!(s.used 60) || (memN 60 (keys h) && memN 61 (keys h) && memN 62 (keys h))) = true := by exact rfl) : Imp s (stl e h) := by
  intro W N β w a hs
  refine ⟨ren σ β, ?_⟩
  have hown : ∀ i, Own (stl e h) (ren σ β) i → Own s β i := by
    rintro i ⟨g, n, F, r, h1, h2, h3⟩
    obtain ⟨n', F', a1, a2, _, _⟩ := hh.get (lkp_mem h1) r h2
    exact ⟨_, n', F', _, a1, a2, h3⟩
  have kg : Fwd (notOwn W s β) (notOwn W (stl e h) (ren σ β)) W.w.heap.size W.w.heap.size (fun g => memN g (keys h)) (ren σ β) (ren σ β) (fun _ => False) w w :=
    ⟨Ext.refl _ _, fun _ _ h => h, fun b hb _ => ⟨hb.1, fun ho => hb.2 (hown b ho)⟩, Nat.le_refl _, fun _ _ _ => rfl⟩
  refine ⟨hs.kept, hs.nodef, hs.size, fun t y hy => ?_, fun g n F r h1 h2 => ?_, fun g n F h1 => lkp_key h1, fun g n F r g' n' F' r' i h1 h2 h3 h4 h5 h6 => ?_, hs.fix, fun i ho => hs.pin i (hown i ho), fun u hu i hi => by rw [← hs.fixd u hu i hi]; funext r; show β (σ i r).1 (σ i r).2 = _; rw [hσ (hs.keep u hu 60 rfl) i hi], fun u hu i hi => by
    rw [hs.keep u hu 60 rfl] at h9
    simp only [Bool.not_true, Bool.false_or, Bool.and_eq_true] at h9
    unfold fx3 at hi
    rw [Bool.or_eq_true, Bool.or_eq_true] at hi
    rcases hi with (hi | hi) | hi
    · rw [Nat.eq_of_beq_eq_true hi]; exact h9.1.1
    · rw [Nat.eq_of_beq_eq_true hi]; exact h9.1.2
    · rw [Nat.eq_of_beq_eq_true hi]; exact h9.2⟩
  · obtain ⟨x, a1, a2, a3⟩ := he.get (lkp_mem hy)
    exact ⟨a3, (a2 _ _ _ _ _ (hs.env t x a1).2).fwd kg a3⟩
  · obtain ⟨n', F', a1, a2, a3, a4⟩ := hh.get (lkp_mem h1) r h2
    exact ⟨a4, RB.fwd kg a4 (fun _ _ h => h) (rb_ble a3 (hs.heap _ _ _ _ a1 a2).2)⟩
  · obtain ⟨m, G, a1, a2, _, _⟩ := hh.get (lkp_mem h1) r h2
    obtain ⟨m', G', b1, b2, _, _⟩ := hh.get (lkp_mem h3) r' h4
    have := hs.inj _ _ _ _ _ _ _ _ i a1 a2 b1 b2 h5 h6
    exact hinj g r g' r' (lkp_key h1) (lkp_key h3) (Prod.ext this.1 this.2)
theorem imp_id {s : St} {e : List (Nat × AV)} {h : List (Nat × Fam)} (he : AllE s idR (fun g => memN g (keys h)) e) (hh : AllH s idR (fun g => memN g (keys h)) h) (h9 : (!(s.used 60) || (memN 60 (keys h) && memN 61 (keys h) && memN 62 (keys h))) = true := by exact rfl) : Imp s (stl e h) :=
  imp_stl idR (fun _ _ _ r => rfl) (fun g r g' r' _ _ e => by cases e; exact ⟨rfl, rfl⟩) he hh h9
/-! ### An own slice that is written no more -/
theorem imp_turn1 {s : St} {t g : Nat} {F : Nat → Blk} {x y : AV} (hx : s.env t = some x) (hg : s.heap g = some (1, F)) (hy : y.ok (fun _ => false))
    (h : ∀ W N β w a, Sim W N β w a s → ∀ v, RV (notOwn W s β) W.w.heap.size β w x v → (F 0).ok s.used → RB (notOwn W s β) W.w.heap.size β w (β g 0) (F 0) → ∀ S', (∀ b, notOwn W s β b → S' b) → (∀ b, ub (β g 0) = some b → S' b) → RV S' W.w.heap.size β w y v) :
    Imp s ⟨put s.env t (some y), put s.heap g none, s.used⟩ := by
  intro W N β w a hs
  have hown : ∀ i, Own (⟨put s.env t (some y), put s.heap g none, s.used⟩ : St) β i → Own s β i ∧ ub (β g 0) ≠ some i := by
    rintro i ⟨g', n, F', r, h1, h2, h3⟩
    have h1 : put s.heap g none g' = some (n, F') := h1
    by_cases e : g' = g
    · subst e; rw [put_same] at h1; cases h1
    · rw [put_ne _ _ e] at h1
      exact ⟨⟨g', n, F', r, h1, h2, h3⟩, fun h => e (hs.inj _ _ _ _ _ _ _ _ i h1 h2 hg (by decide) h3 h).1⟩
  have kf : Fwd (notOwn W s β) (notOwn W (⟨put s.env t (some y), put s.heap g none, s.used⟩ : St) β) W.w.heap.size W.w.heap.size s.used β β (fun _ => False) w w :=
    ⟨Ext.refl _ _, fun _ _ h => h, fun b hb _ => ⟨hb.1, fun ho => hb.2 (hown b ho).1⟩, Nat.le_refl _, fun _ _ _ => rfl⟩
  refine ⟨β, hs.kept, hs.nodef, hs.size, fun t' z hz => ?_, fun g' n F' r h1 h2 => ?_, fun g' n F' h1 => ?_, fun g1 n1 F1 r1 g2 n2 F2 r2 i h1 h2 h3 h4 h5 h6 => ?_, hs.fix, fun i ho => hs.pin i (hown i ho).1, hs.fixd, hs.keep⟩
  · have hz : put s.env t (some y) t' = some z := hz
    by_cases e : t' = t
    · subst e
      rw [put_same] at hz
      cases hz
      obtain ⟨q1, q2⟩ := hs.heap g 1 F 0 hg (by decide)
      refine ⟨ok_none hy, h W N β w a hs _ (hs.env t' x hx).2 q1 q2 _ (fun b hb => ⟨hb.1, fun ho => hb.2 (hown b ho).1⟩) (fun b hb => ⟨fun hlt => ?_, fun ho => (hown b ho).2 hb⟩)⟩
      exact W.law b (own_lt hs ⟨g, 1, F, 0, hg, by decide, hb⟩).1 hlt (hs.pin b ⟨g, 1, F, 0, hg, by decide, hb⟩)
    · rw [put_ne _ _ e] at hz
      exact ⟨(hs.env t' z hz).1, (hs.env t' z hz).2.fwd kf (hs.env t' z hz).1⟩
  · have h1 : put s.heap g none g' = some (n, F') := h1
    by_cases e : g' = g
    · subst e; rw [put_same] at h1; cases h1
    · rw [put_ne _ _ e] at h1
      obtain ⟨q1, q2⟩ := hs.heap g' n F' r h1 h2
      exact ⟨q1, RB.fwd kf q1 (fun _ _ h => h) q2⟩
  · have h1 : put s.heap g none g' = some (n, F') := h1
    by_cases e : g' = g
    · subst e; rw [put_same] at h1; cases h1
    · rw [put_ne _ _ e] at h1; exact hs.live _ _ _ h1
  · have h1 : put s.heap g none g1 = some (n1, F1) := h1
    have h3 : put s.heap g none g2 = some (n2, F2) := h3
    by_cases e : g1 = g
    · subst e; rw [put_same] at h1; cases h1
    · by_cases e2 : g2 = g
      · subst e2; rw [put_same] at h3; cases h3
      · rw [put_ne _ _ e] at h1; rw [put_ne _ _ e2] at h3
        exact hs.inj _ _ _ _ _ _ _ _ i h1 h2 h3 h4 h5 h6
theorem own_row {S S' : Nat → Prop} {B : Nat} {β : Nat → Nat → Value} {w : World} {u v : Value} {n : Nat} {f : Nat → RA} (hv : v = u ∧ ∃ A n c, v = .slice A n c) (hb : RB S B β w u (.rats n f)) (h2 : ∀ b, ub u = some b → S' b) : RowV S' B w true n f v := by
  obtain ⟨rfl, A, n', c, e⟩ := hv
  rcases hb with ⟨e, rfl⟩ | ⟨k, cs, hB, hr, hat, hx⟩
  · exact ⟨none, 0, e, Nat.le_refl _, Nat.zero_le _, fun i hi => absurd hi (Nat.not_lt_zero _)⟩
  · have hub := ub_at hat
    rcases hat with ⟨e', _⟩ | ⟨cap, e', h3, h4, _⟩
    · rw [e] at e'; cases e'
    · refine ⟨_, cap, e', h3, h4, fun i hi => ⟨k, 0, rfl, h2 k hub, fun _ => hB, ?_⟩⟩
      obtain ⟨s, vn, vd, a0, a1, a2, a3⟩ := hx i hi
      exact ⟨cs, s, vn, vd, hr, by rw [Nat.zero_add]; exact a0, by rw [Nat.zero_add]; exact a1, by rw [Nat.zero_add]; exact a2, a3⟩
theorem imp_row {s : St} (t : Nat) {g n : Nat} {F : Nat → Blk} {f : Nat → RA} (hx : s.env t = some (.own g 0)) (hg : s.heap g = some (1, F)) (hF : F 0 = .rats n f) : Imp s ⟨put s.env t (some (.row true n f)), put s.heap g none, s.used⟩ :=
  imp_turn1 hx hg trivial fun W N β w a hs v hv hok hb S' h1 h2 => own_row hv (by rw [← hF]; exact hb) h2
theorem imp_mat {s : St} (t : Nat) {g n : Nat} {F : Nat → Blk} {f : Nat → AV} (m : Nat → Nat) (G : Nat → Nat → RA) (hx : s.env t = some (.own g 0)) (hg : s.heap g = some (1, F)) (hF : F 0 = .ones WT n f) (hf : ∀ i, i < n → f i = .row true (m i) (G i)) : Imp s ⟨put s.env t (some (.mat true n m G)), put s.heap g none, s.used⟩ :=
  imp_turn1 hx hg trivial fun W N β w a hs v hv hok hb S' h1 h2 => by
    rw [hF] at hb
    obtain ⟨e0, A, n', c, e⟩ := hv
    rcases hb.2 with ⟨e', rfl⟩ | ⟨k, cs, hB, hr, hat, hx⟩
    · exact ⟨none, 0, e0.trans e', Nat.le_refl _, Nat.zero_le _, fun i hi => absurd hi (Nat.not_lt_zero _)⟩
    · have hub := ub_at hat
      rcases hat with ⟨e', _⟩ | ⟨cap, e', h3, h4, _⟩
      · rw [← e0, e] at e'; cases e'
      · refine ⟨_, cap, e0.trans e', h3, h4, fun i hi => ?_⟩
        obtain ⟨y, a0, a1, a2⟩ := hx i hi
        rw [hf i hi] at a2
        refine ⟨k, 0, cs, y, rfl, h2 k hub, fun _ => hB, hr, by rw [Nat.zero_add]; exact a0, ?_⟩
        obtain ⟨A2, c2, b1, b2, b3, b4⟩ := a2
        exact ⟨A2, c2, b1, b2, b3, fun j hj => by obtain ⟨bb, off, d1, d2, d3, d4⟩ := b4 j hj; exact ⟨bb, off, d1, h1 _ d2, d3, d4⟩⟩
end Go.Proofs.Ytpclkgjhfhhddaa.AM
/- Structs that are written out. -/
namespace Go.Proofs.Ytpclkgjhfhhddaa.AM
open Go Go.RowKit Go.Proofs.Ytpclkgjhfhhddaa.PN Go.Proofs.Ytpclkgjhfhhddaa.V
set_option linter.unusedVariables false
set_option linter.unusedSimpArgs false
def setAll {α : Type} (l : List α) (off : Nat) : List α → List α
  | [] => l
  | y :: ys => setAll (l.set off y) (off + 1) ys
/-- A part's cells. -/
def AV.cells : AV → List AV
  | .ra q => [.rs q, .rn q, .rd q]
  | .ag n f => (List.range n).map f
  | y => [y]
def fillA (pl : List (Nat × Nat)) (cells : List AV) : List (Nat × AV) → Option (List AV)
  | [] => some cells
  | (i, y) :: rest => match pl[i]? with
    | some (off, sz) => bif Nat.beq y.cells.length sz && Nat.ble (off + sz) cells.length then fillA pl (setAll cells off y.cells) rest else none
    | none => none
def CellsRV (S : Nat → Prop) (B : Nat) (β : Nat → Nat → Value) (w : World) (U : Nat → Bool) (cs : List Value) (l : List AV) : Prop :=
  cs.length = l.length ∧ ∀ (i : Nat) (y : AV) (v : Value), l[i]? = some y → cs[i]? = some v → y.ok U ∧ v.oneCell' = true ∧ RV S B β w y v
theorem cells_set {S : Nat → Prop} {B : Nat} {β : Nat → Nat → Value} {w : World} {U : Nat → Bool} {cs : List Value} {l : List AV} (h : CellsRV S B β w U cs l) {y : AV} {v : Value} (hy : y.ok U ∧ v.oneCell' = true ∧ RV S B β w y v) (off : Nat) : CellsRV S B β w U (cs.set off v) (l.set off y) := by
  refine ⟨by simp [h.1], fun i z u hz hu => ?_⟩
  by_cases e : off = i
  · subst e
    have hlt : off < l.length := by
      rcases Nat.lt_or_ge off l.length with hlt | hge
      · exact hlt
      · rw [List.getElem?_eq_none (by simpa using hge)] at hz; cases hz
    rw [List.getElem?_set_self hlt] at hz
    rw [List.getElem?_set_self (by rw [h.1]; exact hlt)] at hu
    cases hz; cases hu; exact hy
  · rw [List.getElem?_set_ne e] at hz hu
    exact h.2 i z u hz hu
theorem cells_setAll {S : Nat → Prop} {B : Nat} {β : Nat → Nat → Value} {w : World} {U : Nat → Bool} : ∀ (vs : List Value) (ys : List AV) (cs : List Value) (l : List AV) (off : Nat), CellsRV S B β w U cs l → CellsRV S B β w U vs ys → CellsRV S B β w U (setAll cs off vs) (setAll l off ys)
  | [], [], cs, l, off, h, _ => h
  | v :: vs, y :: ys, cs, l, off, h, k => cells_setAll vs ys _ _ (off + 1) (cells_set h (k.2 0 y v rfl rfl) off) ⟨by have := k.1; simpa using this, fun i z u hz hu => k.2 (i + 1) z u hz hu⟩
  | [], y :: ys, _, _, _, _, k => by have := k.1; simp at this
  | v :: vs, [], _, _, _, _, k => by have := k.1; simp at this
def partOK (y : AV) : Bool := match y with | .ra _ | .ag _ _ => true | y => y.one
theorem av_cells {S : Nat → Prop} {B : Nat} {β : Nat → Nat → Value} {w : World} {U : Nat → Bool} {y : AV} {v : Value} (hu : y.ok U) (h : RV S B β w y v) (ho : partOK y = true) : CellsRV S B β w U v.cells.toList y.cells := by
  have one : y.one = true → y.cells = [y] → CellsRV S B β w U v.cells.toList y.cells := by
    intro h1 e
    have hv := RV.one h1 h
    have hc : v.cells = #[v] := by cases v <;> first | rfl | cases hv
    rw [e, hc]
    refine ⟨rfl, fun i z u hz huu => ?_⟩
    cases i with
    | zero => cases hz; cases huu; exact ⟨hu, hv, h⟩
    | succ i => cases hz
  cases y <;> first | (exact one ho rfl) | (cases ho; done) | skip
  · rename_i q
    obtain ⟨sg, vn, vd, rfl, h1, h2, h3⟩ := h
    refine ⟨rfl, fun i z u hz huu => ?_⟩
    match i with
    | 0 => cases hz; cases huu; exact ⟨trivial, rfl, congrArg Value.bool h1⟩
    | 1 => cases hz; cases huu; exact ⟨trivial, rn_one h2, h2⟩
    | 2 => cases hz; cases huu; exact ⟨trivial, rd_one h3, h3⟩
    | i + 3 => cases hz
  · rename_i n f
    obtain ⟨cs, rfl, h1, h2⟩ := h
    refine ⟨by show cs.toList.length = _; simp [AV.cells, h1], fun i z u hz huu => ?_⟩
    have hz : ((List.range n).map f)[i]? = some z := hz
    have huu : cs.toList[i]? = some u := huu
    rw [List.getElem?_map] at hz
    have hin : i < n := by
      rcases Nat.lt_or_ge i n with h | h
      · exact h
      · rw [List.getElem?_eq_none (by simpa using h)] at hz; cases hz
    rw [List.getElem?_range hin] at hz
    cases hz
    obtain ⟨y, a0, a1, a2⟩ := h2 i hin
    rw [Array.getElem?_toList, a0] at huu
    cases huu
    exact ⟨hu i hin, a1, a2⟩
theorem foldl_set (vs : List Value) : ∀ (off k : Nat) (cs : Array Value), ((vs.zipIdx k).foldl (fun (cs : Array Value) (p : Value × Nat) => cs.setIfInBounds (off + p.2) p.1) cs).toList = setAll cs.toList (off + k) vs := by
  induction vs with
  | nil => intro off k cs; rfl
  | cons v vs ih =>
    intro off k cs
    rw [List.zipIdx_cons, List.foldl_cons, ih]
    show setAll (cs.setIfInBounds (off + k) v).toList (off + (k + 1)) vs = setAll (cs.toList.set (off + k) v) (off + k + 1) vs
    rw [Array.toList_setIfInBounds]; rfl
theorem fill_sound {S : Nat → Prop} {B : Nat} {β : Nat → Nat → Value} {w : World} {U : Nat → Bool} {pf : Nat → Option (Nat × Nat)} {pl : List (Nat × Nat)} (hp : ∀ (i : Nat) (p : Nat × Nat), pl[i]? = some p → pf i = some p) :
    ∀ (parts : List (Nat × AV)) (vals : List (Nat × Value)) (cs : Array Value) (l r : List AV), parts.length = vals.length → (∀ (j : Nat) (p : Nat × AV) (q : Nat × Value), parts[j]? = some p → vals[j]? = some q → p.1 = q.1 ∧ CellsRV S B β w U q.2.cells.toList p.2.cells) →
      CellsRV S B β w U cs.toList l → fillA pl l parts = some r → ∃ c', Instr.fill pf cs vals = some c' ∧ CellsRV S B β w U c'.toList r
  | [], [], cs, l, r, _, _, hc, h => by cases h; exact ⟨cs, rfl, hc⟩
  | [], q :: vals, _, _, _, hl, _, _, _ => by simp at hl
  | p :: parts, [], _, _, _, hl, _, _, _ => by simp at hl
  | (i, y) :: parts, (i', v) :: vals, cs, l, r, hl, hv, hc, h => by
    obtain ⟨e, hcv⟩ := hv 0 _ _ rfl rfl
    have e : i = i' := e
    subst e
    unfold fillA at h
    cases hpl : pl[i]? with
    | none => rw [hpl] at h; cases h
    | some p =>
      obtain ⟨off, sz⟩ := p
      rw [hpl] at h
      simp only [] at h
      cases hb : (Nat.beq y.cells.length sz && Nat.ble (off + sz) l.length) with
      | false => rw [hb] at h; cases h
      | true =>
        rw [hb] at h
        rw [Bool.and_eq_true] at hb
        have h1 := Nat.eq_of_beq_eq_true hb.1
        have h2 := Nat.le_of_ble_eq_true hb.2
        have hcl : v.cells.size = sz := by have := hcv.1; simpa [h1] using this
        have hsz : cs.size = l.length := by have := hc.1; simpa using this
        have hc' : CellsRV S B β w U (v.cells.zipIdx.foldl (fun (cs : Array Value) (p : Value × Nat) => cs.setIfInBounds (off + p.2) p.1) cs).toList (setAll l off y.cells) := by
          have e : (v.cells.zipIdx.foldl (fun (cs : Array Value) (p : Value × Nat) => cs.setIfInBounds (off + p.2) p.1) cs).toList = setAll cs.toList off v.cells.toList := by
            rw [← Array.foldl_toList, Array.toList_zipIdx]
            exact foldl_set v.cells.toList off 0 cs
          rw [e]
          exact cells_setAll _ _ _ _ _ hc hcv
        obtain ⟨c', hf, hr⟩ := fill_sound hp parts vals _ _ r (by simpa using hl) (fun j p q hp' hq => hv (j + 1) p q hp' hq) hc' h
        refine ⟨c', ?_, hr⟩
        unfold Instr.fill
        rw [hp i _ hpl]
        simp only []
        rw [if_neg (by rw [hcl]; simp; omega)]
        exact hf
/-- How a struct, or an array, is laid out. -/
structure Lay (T : TypeId) (pl : List (Nat × Nat)) (z : List Value) : Prop where
  f : ∃ pf : Nat → Option (Nat × Nat), (∀ (i : Nat) (p : Nat × Nat), pl[i]? = some p → pf i = some p) ∧ ∀ parts, Try.prog.built T parts = Instr.fill pf z.toArray parts
  one : z.all (·.oneCell') = true
def partsA (s : St) : List (Nat × Operand) → Option (List (Nat × AV))
  | [] => some []
  | (i, x) :: l => match avo s x, partsA s l with
    | some y, some ys => some ((i, y) :: ys)
    | _, _ => none
theorem partsA_get {s : St} : ∀ {l : List (Nat × Operand)} {ys : List (Nat × AV)}, partsA s l = some ys → ys.length = l.length ∧ ∀ (j : Nat) (p : Nat × AV), ys[j]? = some p → ∃ q, l[j]? = some q ∧ q.1 = p.1 ∧ avo s q.2 = some p.2
  | [], ys, h => by cases h; exact ⟨rfl, fun j p hp => by cases hp⟩
  | (i, x) :: l, ys, h => by
    unfold partsA at h
    split at h
    · rename_i y ys' h1 h2
      cases h
      obtain ⟨e1, e2⟩ := partsA_get h2
      refine ⟨by simp [e1], fun j p hp => ?_⟩
      cases j with
      | zero => cases hp; exact ⟨(i, x), rfl, rfl, h1⟩
      | succ j => exact e2 j p hp
    · cases h
theorem build_lay {o : Oper} {s s2 : St} {rd : List Nat} {T : TypeId} {pl : List (Nat × Nat)} {z : List Value} {parts : Array (Nat × Operand)} {ys : List (Nat × AV)} {r : List AV} (ho : o.op = .build T parts) (hl : Lay T pl z) (hp : partsA s parts.toList = some ys) (hok : (ys.all fun p => partOK p.2) = true) (hf : fillA pl (z.map .v) ys = some r)
    (hk : Like o rd s s2) {W : Wd} {N : Nat} {β : Nat → Nat → Value} {w : World} {a : Act} (hs : Sim W N β w a s2) :
    ∃ c' : Array Value, (execOp a.eval o).run Try.prog w = .ok (.value (.agg c')) w ∧ CellsRV (notOwn W s2 β) W.w.heap.size β w s2.used c'.toList r := by
  obtain ⟨⟨pf, hpf, hb⟩, hz⟩ := hl
  obtain ⟨e1, e2⟩ := partsA_get hp
  have hmem : ∀ p ∈ parts.toList, p.2 ∈ o.op.operands := by
    intro p hp
    rw [ho]
    simp only [Op.operands, List.mem_toArray]
    exact List.mem_map_of_mem hp
  obtain ⟨c', hf', hr⟩ := fill_sound (S := notOwn W s2 β) (B := W.w.heap.size) (β := β) (w := w) (U := s2.used) hpf ys (parts.toList.map fun p => (p.1, a.eval p.2)) z.toArray (z.map .v) r (by simp [e1]) (fun j p q hp' hq => by
      obtain ⟨x, h1, h2, h3⟩ := e2 j p hp'
      rw [List.getElem?_map, h1] at hq
      cases hq
      have h4 := hs.opd (x := x.2) (by rw [hk.avo (hmem x (List.mem_of_getElem? h1))]; exact h3)
      exact ⟨h2.symm, av_cells h4.1 h4.2 (List.all_eq_true.1 hok p (List.mem_of_getElem? hp'))⟩)
    ⟨by simp, fun i y v hy hv => by
      rw [List.getElem?_map] at hy
      cases e : z[i]? with
      | none => rw [e] at hy; cases hy
      | some u =>
        rw [e] at hy
        cases hy
        have hv : z[i]? = some v := hv
        rw [e] at hv
        cases hv
        exact ⟨trivial, List.all_eq_true.1 hz _ (List.mem_of_getElem? e), rfl⟩⟩ hf
  refine ⟨c', ?_, hr⟩
  have hrun := run_build (P := Try.prog) w T (parts.map fun p => (p.1, a.eval p.2)) c' (by rw [Array.toList_map, hb]; exact hf')
  unfold execOp; rw [ho]; simp only [Sem.run_bind, hrun]; rfl
section
variable {o : Oper} {s : St}
theorem ok_build_ag {T : TypeId} {pl : List (Nat × Nat)} {z : List Value} {parts : Array (Nat × Operand)} {ys : List (Nat × AV)} {r : List AV} (ho : o.op = .build T parts) (hl : Lay T pl z) (hp : partsA s parts.toList = some ys) (hok : (ys.all fun p => partOK p.2) = true) (hf : fillA pl (z.map .v) ys = some r) :
    LOK Try.prog o s ⟨some (.ag r.length (fun i => r.getD i (.v undef))), [], []⟩ := by
  refine lok_val fun s2 hk W N β w a hs => ?_
  obtain ⟨c', hrun, hc⟩ := build_lay ho hl hp hok hf hk hs
  refine ⟨_, hrun, fun x hx => ?_⟩
  cases hx
  have get : ∀ i, i < r.length → ∃ y v, r[i]? = some y ∧ c'[i]? = some v ∧ y.ok s2.used ∧ v.oneCell' = true ∧ RV (notOwn W s2 β) W.w.heap.size β w y v := by
    intro i hi
    have h1 : r[i]? = some r[i] := List.getElem?_eq_getElem hi
    have h2 : c'.toList[i]? = some (c'.toList[i]'(by rw [hc.1]; exact hi)) := List.getElem?_eq_getElem _
    have h3 := hc.2 i _ _ h1 h2
    exact ⟨_, _, h1, by rw [← Array.getElem?_toList]; exact h2, h3⟩
  refine ⟨fun i hi => ?_, c', rfl, by have := hc.1; simpa using this, fun i hi => ?_⟩
  · obtain ⟨y, v, h1, _, h3, _⟩ := get i hi
    show (r.getD i (.v undef)).ok _
    rw [List.getD_eq_getElem?_getD, h1]; exact h3
  · obtain ⟨y, v, h1, h2, _, h4, h5⟩ := get i hi
    refine ⟨v, h2, h4, ?_⟩
    show RV _ _ _ _ (r.getD i (.v undef)) v
    rw [List.getD_eq_getElem?_getD, h1]; exact h5
def limbs? : AV → Option (List Nat)
  | .lb l => some l
  | .v (.slice none 0 0) => some []
  | _ => none
theorem limbs_rv {S : Nat → Prop} {B : Nat} {β : Nat → Nat → Value} {w : World} {y : AV} {l : List Nat} {v : Value} (h : limbs? y = some l) (hv : RV S B β w y v) : Lbs w v l := by
  unfold limbs? at h
  split at h
  · cases h; exact hv
  · cases h; have hv : v = .slice none 0 0 := hv; rw [hv]; exact dg_nil w
  · cases h
def raOf : List AV → Option RA
  | [.v (.bool b), x, y] => match limbs? x, limbs? y with
    | some n, some d => some (.raw b n d)
    | _, _ => none
  | _ => none
theorem lay_rt : Lay RT [(0, 1), (1, 1), (2, 1)] [.bool false, .slice none 0 0, .slice none 0 0] :=
  ⟨⟨fun i => ([(0, 1), (1, 1), (2, 1)] : List (Nat × Nat)).toArray[i]?, fun i p h => by simpa using h, fun parts => by kernel_rfl⟩, rfl⟩
theorem ok_build_rt {parts : Array (Nat × Operand)} {ys : List (Nat × AV)} {r : List AV} {q : RA} (ho : o.op = .build RT parts) (hp : partsA s parts.toList = some ys) (hok : (ys.all fun p => partOK p.2) = true) (hf : fillA [(0, 1), (1, 1), (2, 1)] [.v (.bool false), .v (.slice none 0 0), .v (.slice none 0 0)] ys = some r) (hq : raOf r = some q) :
    LOK Try.prog o s ⟨some (.ra q), [], []⟩ := by
  refine lok_val fun s2 hk W N β w a hs => ?_
  obtain ⟨c', hrun, hc⟩ := build_lay ho lay_rt hp hok hf hk hs
  refine ⟨_, hrun, fun x hx => ?_⟩
  cases hx
  unfold raOf at hq
  split at hq
  · rename_i b x y
    split at hq
    · rename_i n d h1 h2
      cases hq
      obtain ⟨c'⟩ := c'
      have hl : c'.length = 3 := hc.1
      match c', hl with
      | [v0, v1, v2], _ =>
        have a0 := (hc.2 0 _ _ rfl rfl).2.2
        have a1 := (hc.2 1 _ _ rfl rfl).2.2
        have a2 := (hc.2 2 _ _ rfl rfl).2.2
        have a0 : v0 = .bool b := a0
        subst a0
        exact ⟨trivial, b, v1, v2, rfl, rfl, limbs_rv h1 a1, limbs_rv h2 a2⟩
    · cases hq
  · cases hq
end
/-- Layouts. -/
def layT1 (T : TypeId) : Option (List (Nat × Nat) × List Value) :=
  bif memN T [26] then some ([(0, 1), (1, 1), (2, 1), (3, 1), (4, 1), (5, 1), (6, 1)], [.int .i64 0, .int .i64 0, .int .i64 0, .slice none 0 0, .slice none 0 0, .slice none 0 0, .slice none 0 0]) else
  bif memN T [] then some ([(0, 1), (1, 3)], [.slice none 0 0, .bool false, .slice none 0 0, .slice none 0 0]) else
  bif memN T [] then some ([(0, 1), (1, 1)], [.int .i64 0, .int .i64 0]) else none
theorem lay_ok1 {T : TypeId} {pl : List (Nat × Nat)} {z : List Value} (h : layT1 T = some (pl, z)) : Lay T pl z := by
  unfold layT1 at h
  cases e1 : memN T [26] with
  | true =>
    first | (cases e1; done) | skip
    all_goals (
      rw [e1, cond_true] at h; cases h
      have hT := memN_spec e1
      simp only [List.mem_cons, List.not_mem_nil, or_false] at hT <;>
      first
        | exact hT.elim
        | (subst hT; exact ⟨⟨fun i => ([(0, 1), (1, 1), (2, 1), (3, 1), (4, 1), (5, 1), (6, 1)] : List (Nat × Nat)).toArray[i]?, fun i p h => by simpa using h, fun parts => by kernel_rfl⟩, rfl⟩))
  | false =>
    (try rw [e1] at h); (try simp only [cond_false] at h)
    cases e2 : memN T [] with
    | true =>
      first | (cases e2; done) | skip
      all_goals (
        rw [e2, cond_true] at h; cases h
        have hT := memN_spec e2
        simp only [List.mem_cons, List.not_mem_nil, or_false] at hT <;>
        first
          | exact hT.elim
          | (subst hT; exact ⟨⟨fun i => ([(0, 1), (1, 3)] : List (Nat × Nat)).toArray[i]?, fun i p h => by simpa using h, fun parts => by kernel_rfl⟩, rfl⟩))
    | false =>
      (try rw [e2] at h); (try simp only [cond_false] at h)
      cases e3 : memN T [] with
      | true =>
        first | (cases e3; done) | skip
        all_goals (
          rw [e3, cond_true] at h; cases h
          have hT := memN_spec e3
          have two : ∀ (i : Nat) (p : Nat × Nat), ([(0, 1), (1, 1)] : List (Nat × Nat))[i]? = some p → (fun i => some (i * 1, 1)) i = some p := by
            intro i p h
            match i with
            | 0 => cases h; rfl
            | 1 => cases h; rfl
            | i + 2 => cases h
          simp only [List.mem_cons, List.not_mem_nil, or_false] at hT <;>
          first
            | exact hT.elim
            | (rcases hT with rfl | rfl <;> exact ⟨⟨fun i => some (i * 1, 1), two, fun parts => by kernel_rfl⟩, rfl⟩)
            | (subst hT; exact ⟨⟨fun i => some (i * 1, 1), two, fun parts => by kernel_rfl⟩, rfl⟩))
      | false => ((try rw [e3] at h); (try simp only [cond_false] at h); cases h)
def layT2 (T : TypeId) : Option (List (Nat × Nat) × List Value) :=
  bif memN T [68] then some ([(0, 1), (1, 1), (2, 1), (3, 1)], [.slice none 0 0, .slice none 0 0, .slice none 0 0, .slice none 0 0]) else
  bif memN T [90] then some ([(0, 1), (1, 1), (2, 1)], [.int .i64 0, .int .i64 0, .int .i64 0]) else
  bif memN T [92] then some ([(0, 1), (1, 1)], [.int .i64 0, .int .i64 0]) else none
theorem lay_ok2 {T : TypeId} {pl : List (Nat × Nat)} {z : List Value} (h : layT2 T = some (pl, z)) : Lay T pl z := by
  unfold layT2 at h
  cases e1 : memN T [68] with
  | true =>
    first | (cases e1; done) | skip
    all_goals (
      rw [e1, cond_true] at h; cases h
      have hT := memN_spec e1
      have four : ∀ (i : Nat) (p : Nat × Nat), ([(0, 1), (1, 1), (2, 1), (3, 1)] : List (Nat × Nat))[i]? = some p → (fun i => some (i * 1, 1)) i = some p := by
        intro i p h
        match i with
        | 0 => cases h; rfl
        | 1 => cases h; rfl
        | 2 => cases h; rfl
        | 3 => cases h; rfl
        | i + 4 => cases h
      simp only [List.mem_cons, List.not_mem_nil, or_false] at hT <;>
      first
        | exact hT.elim
        | (subst hT; exact ⟨⟨fun i => some (i * 1, 1), four, fun parts => by kernel_rfl⟩, rfl⟩))
  | false =>
    (try rw [e1] at h); (try simp only [cond_false] at h)
    cases e2 : memN T [90] with
    | true =>
      first | (cases e2; done) | skip
      all_goals (
        rw [e2, cond_true] at h; cases h
        have hT := memN_spec e2
        have three : ∀ (i : Nat) (p : Nat × Nat), ([(0, 1), (1, 1), (2, 1)] : List (Nat × Nat))[i]? = some p → (fun i => some (i * 1, 1)) i = some p := by
          intro i p h
          match i with
          | 0 => cases h; rfl
          | 1 => cases h; rfl
          | 2 => cases h; rfl
          | i + 3 => cases h
        simp only [List.mem_cons, List.not_mem_nil, or_false] at hT <;>
        first
          | exact hT.elim
          | (subst hT; exact ⟨⟨fun i => some (i * 1, 1), three, fun parts => by kernel_rfl⟩, rfl⟩))
    | false =>
      (try rw [e2] at h); (try simp only [cond_false] at h)
      cases e3 : memN T [92] with
      | true =>
        first | (cases e3; done) | skip
        all_goals (
          rw [e3, cond_true] at h; cases h
          have hT := memN_spec e3
          simp only [List.mem_cons, List.not_mem_nil, or_false] at hT <;>
          first
            | exact hT.elim
            | (rcases hT with rfl | rfl | rfl <;> exact ⟨⟨fun i => ([(0, 1), (1, 1)] : List (Nat × Nat)).toArray[i]?, fun i p h => by simpa using h, fun parts => by kernel_rfl⟩, rfl⟩)
            | (rcases hT with rfl | rfl <;> exact ⟨⟨fun i => ([(0, 1), (1, 1)] : List (Nat × Nat)).toArray[i]?, fun i p h => by simpa using h, fun parts => by kernel_rfl⟩, rfl⟩)
            | (subst hT; exact ⟨⟨fun i => ([(0, 1), (1, 1)] : List (Nat × Nat)).toArray[i]?, fun i p h => by simpa using h, fun parts => by kernel_rfl⟩, rfl⟩))
      | false => ((try rw [e3] at h); (try simp only [cond_false] at h); cases h)
def layT3 (T : TypeId) : Option (List (Nat × Nat) × List Value) :=
  bif memN T [] then some ([(0, 7), (7, 1)], [.int .i64 0, .int .i64 0, .int .i64 0, .slice none 0 0, .slice none 0 0, .slice none 0 0, .slice none 0 0, .slice none 0 0]) else
  bif memN T [] then some ([(0, 1), (1, 1), (2, 1)], [.slice none 0 0, .slice none 0 0, .slice none 0 0]) else
  bif memN T [72] then some ([(0, 1), (1, 1)], [.slice none 0 0, .int .i64 0]) else
  bif memN T [81] then some ([(0, 1), (1, 1), (2, 1)], [.slice none 0 0, .int .i64 0, .int .i64 0]) else
  bif memN T [74] then some ([(0, 1), (1, 1), (2, 1), (3, 1)], [.int .i64 0, .int .i64 0, .int .i64 0, .int .i64 0]) else none
theorem lay_ok3 {T : TypeId} {pl : List (Nat × Nat)} {z : List Value} (h : layT3 T = some (pl, z)) : Lay T pl z := by
  unfold layT3 at h
  cases e1 : memN T [] with
  | true =>
    first | (cases e1; done) | skip
    all_goals (
      rw [e1, cond_true] at h; cases h
      have hT := memN_spec e1
      simp only [List.mem_cons, List.not_mem_nil, or_false] at hT <;>
      first
        | exact hT.elim
        | (subst hT; exact ⟨⟨fun i => ([(0, 7), (7, 1)] : List (Nat × Nat)).toArray[i]?, fun i p h => by simpa using h, fun parts => by kernel_rfl⟩, rfl⟩))
  | false =>
    (try rw [e1] at h); (try simp only [cond_false] at h)
    cases e2 : memN T [] with
    | true =>
      first | (cases e2; done) | skip
      all_goals (
        rw [e2, cond_true] at h; cases h
        have hT := memN_spec e2
        simp only [List.mem_cons, List.not_mem_nil, or_false] at hT <;>
        first
          | exact hT.elim
          | (subst hT; exact ⟨⟨fun i => ([(0, 1), (1, 1), (2, 1)] : List (Nat × Nat)).toArray[i]?, fun i p h => by simpa using h, fun parts => by kernel_rfl⟩, rfl⟩))
    | false =>
      (try rw [e2] at h); (try simp only [cond_false] at h)
      cases e3 : memN T [72] with
      | true =>
        first | (cases e3; done) | skip
        all_goals (
          rw [e3, cond_true] at h; cases h
          have hT := memN_spec e3
          simp only [List.mem_cons, List.not_mem_nil, or_false] at hT <;>
          first
            | exact hT.elim
            | (subst hT; exact ⟨⟨fun i => ([(0, 1), (1, 1)] : List (Nat × Nat)).toArray[i]?, fun i p h => by simpa using h, fun parts => by kernel_rfl⟩, rfl⟩))
      | false =>
        (try rw [e3] at h); (try simp only [cond_false] at h)
        cases e4 : memN T [81] with
        | true =>
          first | (cases e4; done) | skip
          all_goals (
            rw [e4, cond_true] at h; cases h
            have hT := memN_spec e4
            simp only [List.mem_cons, List.not_mem_nil, or_false] at hT <;>
            first
              | exact hT.elim
              | (subst hT; exact ⟨⟨fun i => ([(0, 1), (1, 1), (2, 1)] : List (Nat × Nat)).toArray[i]?, fun i p h => by simpa using h, fun parts => by kernel_rfl⟩, rfl⟩))
        | false =>
          (try rw [e4] at h); (try simp only [cond_false] at h)
          cases e5 : memN T [74] with
          | true =>
            first | (cases e5; done) | skip
            all_goals (
              rw [e5, cond_true] at h; cases h
              have hT := memN_spec e5
              have four : ∀ (i : Nat) (p : Nat × Nat), ([(0, 1), (1, 1), (2, 1), (3, 1)] : List (Nat × Nat))[i]? = some p → (fun i => some (i * 1, 1)) i = some p := by
                intro i p h
                match i with
                | 0 => cases h; rfl
                | 1 => cases h; rfl
                | 2 => cases h; rfl
                | 3 => cases h; rfl
                | i + 4 => cases h
              simp only [List.mem_cons, List.not_mem_nil, or_false] at hT <;>
              first
                | exact hT.elim
                | (subst hT; exact ⟨⟨fun i => some (i * 1, 1), four, fun parts => by kernel_rfl⟩, rfl⟩))
          | false => ((try rw [e5] at h); (try simp only [cond_false] at h); cases h)
def layT (T : TypeId) : Option (List (Nat × Nat) × List Value) := match layT1 T with
  | some p => some p
  | none => (match layT2 T with | some p => some p | none => layT3 T)
theorem lay_ok {T : TypeId} {pl : List (Nat × Nat)} {z : List Value} (h : layT T = some (pl, z)) : Lay T pl z := by
  unfold layT at h
  split at h
  · rename_i e; cases h; exact lay_ok1 e
  · split at h
    · rename_i e; cases h; exact lay_ok2 e
    · exact lay_ok3 h
def evBuild (s : St) (T : TypeId) (l : List (Nat × Operand)) : Ev :=
  match partsA s l with
  | some ys => bif Nat.beq T RT then (match fillA [(0, 1), (1, 1), (2, 1)] [.v (.bool false), .v (.slice none 0 0), .v (.slice none 0 0)] ys with
      | some r => (match raOf r with | some q => out (.ra q) ((ys.all fun p => partOK p.2) = true) [] | none => none)
      | none => none) else
    (match layT T with
      | some (pl, z) => (match fillA pl (z.map .v) ys with
        | some r => out (.ag r.length (fun i => r.getD i (.v undef))) ((ys.all fun p => partOK p.2) = true) []
        | none => none)
      | none => none)
  | none => none
theorem evBuild_ok {o : Oper} {s : St} {D : Dsc} {c : Prop} {T : TypeId} {parts : Array (Nat × Operand)} (ho : o.op = .build T parts) (h : evBuild s T parts.toList = some (D, c)) (hc : c) : LOK Try.prog o s D := by
  unfold evBuild at h
  split at h
  · rename_i e1
    cases e : Nat.beq T RT with
    | true =>
      rw [e, cond_true] at h; have hT := Nat.eq_of_beq_eq_true e; subst hT
      split at h
      · rename_i e2
        split at h
        · rename_i e3; obtain ⟨rfl, rfl⟩ := out_inj h; exact ok_build_rt ho e1 hc e2 e3
        · cases h
      · cases h
    | false =>
      rw [e, cond_false] at h
      split at h
      · rename_i e2
        split at h
        · rename_i e3; obtain ⟨rfl, rfl⟩ := out_inj h; exact ok_build_ag ho (lay_ok e2) e1 hc e3
        · cases h
      · cases h
  · cases h
theorem st_build {ops : Array Oper} {l : List Oper} {s : St} {acc : List Fp} {K : St → List Fp → Prop} {c : Prop} {d : Option Tmp} {r : Option AV} {upd : List (Nat × Option Fam)} {rd : List Nat} {ty : TypeId} {ps : String} {aft : Array Edge} {T : TypeId} {parts : Array (Nat × Operand)} (h : evBuild s T parts.toList = some (⟨r, upd, rd⟩, c)) (hc : c) (k : AOps Try.prog ops l (nxt s d r upd) ((rd, upd.map (·.1)) :: acc) K) : AOps Try.prog ops (⟨d, .build T parts, ty, ps, aft, none⟩ :: l) s acc K :=
  st_lok (evBuild_ok rfl h hc) k
end Go.Proofs.Ytpclkgjhfhhddaa.AM
/- Rational numbers: walks: quotients. -/
namespace Go.Proofs.Ytpclkgjhfhhddaa.V
open Go Go.RowKit Go.Proofs.Ytpclkgjhfhhddaa.PN
set_option linter.unusedVariables false
set_option linter.unusedSimpArgs false
set_option maxHeartbeats 2000000 in
theorem quo_rat {w : World} {s s' : Bool} {vn vd vn' vd' : Value} {p q : Rat} [hp : RatAt w s vn vd p] [hq : RatAt w s' vn' vd' q] (hs : wt p ≤ 1000000000000) (hs' : wt q ≤ 1000000000000) (h0 : q ≠ 0) :
    Calls Try.prog 106 #[.agg #[.bool s, vn, vd], .agg #[.bool s', vn', vd']] w (MadeRatE w (p / q) 0) := by
  obtain ⟨rfl, hn, hd⟩ := hp.out
  obtain ⟨rfl, hn', hd'⟩ := hq.out
  obtain ⟨An, cn, rfl, _, _⟩ := hn.at
  obtain ⟨Ad, cd, rfl, _, _⟩ := hd.at
  obtain ⟨An', cn', rfl, _, _⟩ := hn'.at
  obtain ⟨Ad', cd', rfl, _, _⟩ := hd'.at
  have HN := Lib.hid (NatS.lift hn); have HD := Lib.hid (NatS.lift hd); have HN' := Lib.hid (NatS.lift hn'); have HD' := Lib.hid (NatS.lift hd')
  clear hn hd hn' hd' hp hq
  have b1 := wt_num p; have b2 := wt_den p; have b3 := wt_num q; have b4 := wt_den q
  have b5 := size_mul (nm p) q.den; have b6 := size_mul p.den (nm q)
  have b7 : nm q ≠ 0 := fun h => h0 (nm_eq_zero.1 h)
  rw [div_parts _ _ h0, bne_flip]
  clear h0
  go_enter Try.func106, Try.ntmps106
  have iN := HN.out; have iD := HD.out; have iN' := HN'.out; have iD' := HD'.out
  go_wp2
  go_region_held3 (fun w' => Kept w w' ∧ w'.cell? ⟨w.heap.size, 0, none⟩ = some (.bool (ng p)) ∧ w'.cell? ⟨w.heap.size, 1, none⟩ = some (Value.slice An (size (nm p)) cn) ∧ w'.cell? ⟨w.heap.size, 2, none⟩ = some (Value.slice Ad (size p.den) cd) ∧ w'.cell? ⟨w.heap.size + 1, 0, none⟩ = some (.bool (ng q)) ∧ w'.cell? ⟨w.heap.size + 1, 1, none⟩ = some (Value.slice An' (size (nm q)) cn') ∧ w'.cell? ⟨w.heap.size + 1, 2, none⟩ = some (Value.slice Ad' (size q.den) cd'))
    (first | exact two_step (by assumption) (by assumption) | exact two_set (by assumption) (by omega) (by omega) (by omega) | assumption | (refine ⟨Kept.three _ _ _ _, ?_⟩; simp [go_sem, World.cell?_alloc_past]))
    (first
      | (go_at_call 100; first | (refine Calls.mono (mul_v (a := nm p) (b := q.den) (by omega) (by omega)) ?_; rintro e w1 ⟨v1, rfl, hv1, hk1⟩; have i1 := NatS.lift hv1; have u1 := Kept.chain hk1) | (refine Calls.mono (mul_v (a := p.den) (b := nm q) (by omega) (by omega)) ?_; rintro e w2 ⟨v2, rfl, hv2, hk2⟩; have i2 := NatS.lift hv2; have u2 := Kept.chain hk2))
      | (go_at_call 113; refine Calls.mono (make_v (n := nm p * q.den) (d := p.den * nm q) (by omega) (by omega) (Nat.mul_ne_zero p.den_nz b7)) ?_; rintro e w3 ⟨s3, vn3, vd3, rfl, hq3, hk3⟩; obtain ⟨An3, cn3, rfl, _, _⟩ := hq3.2.1.at; obtain ⟨Ad3, cd3, rfl, _, _⟩ := hq3.2.2.at; have hr3 := Kept.row hk3 (Kept.row hk2 (Kept.row hk1 (Kept.row (Kept.drew _) (row_newAt (g := w.heap.size + 1 + 1) _ _ _ (by simp))))); obtain ⟨c0, c1, c2, f0, f1, f2⟩ := three hr3))
  all_goals go_wp2
  all_goals exact ret_rat2 rfl rfl rfl rfl hr3 (by omega) (Kept.then (Kept.three _ _ _ _) (Kept.then hk1 (Kept.then hk2 hk3))) hq3
end Go.Proofs.Ytpclkgjhfhhddaa.V
/- Rational numbers: walks: sums. -/
namespace Go.Proofs.Ytpclkgjhfhhddaa.V
open Go Go.RowKit Go.Proofs.Ytpclkgjhfhhddaa.PN
set_option linter.unusedVariables false
set_option linter.unusedSimpArgs false
theorem one_step {W w w1 : World} {g : Nat} {a : Value} (hs : Kept W w ∧ w.cell? ⟨g, 0, none⟩ = some a) (hk : Kept w w1) : Kept W w1 ∧ w1.cell? ⟨g, 0, none⟩ = some a := ⟨Kept.then hs.1 hk, hk.cell hs.2⟩
theorem one_set {W w : World} {g : Nat} {a : Value} {r : Nat} {s : Bool} {vn vd : Value} (hs : Kept W w ∧ w.cell? ⟨g, 0, none⟩ = some a) (hr : W.heap.size ≤ r) (hg : g ≠ r) : Kept W (set3 w r s vn vd) ∧ (set3 w r s vn vd).cell? ⟨g, 0, none⟩ = some a :=
  ⟨kept_set3 hs.1 hr s vn vd, (cell_set3 w r s vn vd 0 hg).trans hs.2⟩
set_option maxHeartbeats 4000000 in
theorem add_rat {w : World} {s s' : Bool} {vn vd vn' vd' : Value} {p q : Rat} [hp : RatAt w s vn vd p] [hq : RatAt w s' vn' vd' q] (hs : wt p ≤ 1000000000000) (hs' : wt q ≤ 1000000000000) :
    Calls Try.prog 83 #[.agg #[.bool s, vn, vd], .agg #[.bool s', vn', vd']] w (MadeRat w (p + q)) := by
  obtain ⟨rfl, hn, hd⟩ := hp.out
  obtain ⟨rfl, hn', hd'⟩ := hq.out
  obtain ⟨An, cn, rfl, _, _⟩ := hn.at
  obtain ⟨Ad, cd, rfl, _, _⟩ := hd.at
  obtain ⟨An', cn', rfl, _, _⟩ := hn'.at
  obtain ⟨Ad', cd', rfl, _, _⟩ := hd'.at
  have HN := Lib.hid (NatS.lift hn); have HD := Lib.hid (NatS.lift hd); have HN' := Lib.hid (NatS.lift hn'); have HD' := Lib.hid (NatS.lift hd')
  clear hn hd hn' hd' hp hq
  have b1 := wt_num p; have b2 := wt_den p; have b3 := wt_num q; have b4 := wt_den q
  have b5 := size_mul (nm p) q.den; have b6 := size_mul (nm q) p.den; have b7 := size_mul p.den q.den
  have b8 := size_add (nm p * q.den) (nm q * p.den) 2000000000000 (by omega) (by omega)
  have hz := Nat.mul_ne_zero p.den_nz q.den_nz
  have HZ := Lib.hid hz; clear hz
  by_cases hng : ng p = ng q
  · have hb : (ng p == ng q) = true := by rw [hng]; simp
    rw [add_parts_same _ _ hng]
    clear hng
    go_enter Try.func83, Try.ntmps83
    have iN := HN.out; have iD := HD.out; have iN' := HN'.out; have iD' := HD'.out
    go_wp2
    go_region_held3 (fun w' => Kept w w' ∧ w'.cell? ⟨w.heap.size, 0, none⟩ = some (.bool (ng p)) ∧ w'.cell? ⟨w.heap.size, 1, none⟩ = some (Value.slice An (size (nm p)) cn) ∧ w'.cell? ⟨w.heap.size, 2, none⟩ = some (Value.slice Ad (size p.den) cd) ∧ w'.cell? ⟨w.heap.size + 1, 0, none⟩ = some (.bool (ng q)) ∧ w'.cell? ⟨w.heap.size + 1, 1, none⟩ = some (Value.slice An' (size (nm q)) cn') ∧ w'.cell? ⟨w.heap.size + 1, 2, none⟩ = some (Value.slice Ad' (size q.den) cd'))
      (first | exact two_step (by assumption) (by assumption) | assumption | (refine ⟨Kept.three _ _ _ _, ?_⟩; simp [go_sem, World.cell?_alloc_past]))
      (first
        | (go_at_call 100; first | (refine Calls.mono (mul_v (a := nm p) (b := q.den) (by omega) (by omega)) ?_; rintro e w1 ⟨v1, rfl, hv1, hk1⟩; have i1 := NatS.lift hv1; have u1 := Kept.chain hk1) | (refine Calls.mono (mul_v (a := nm q) (b := p.den) (by omega) (by omega)) ?_; rintro e w2 ⟨v2, rfl, hv2, hk2⟩; have i2 := NatS.lift hv2; have u2 := Kept.chain hk2) | (refine Calls.mono (mul_v (a := p.den) (b := q.den) (by omega) (by omega)) ?_; rintro e w3 ⟨v3, rfl, hv3, hk3⟩; have i3 := NatS.lift hv3; have u3 := Kept.chain hk3)))
    obtain ⟨hK, g0, g1, g2, g3, g4, g5⟩ := ‹Kept w w3 ∧ _›
    have hr := Kept.row hk3 (Kept.row hk2 (Kept.row hk1 (Kept.row (Kept.drew _) (row_newAt (g := w.heap.size + 1 + 1) _ _ _ (by simp)))))
    have HR := Lib.hid hr; have HK := Lib.hid hK
    clear hk1 hk2 hk3 hv1 hv2 hv3 hr hK
    go_wp2
    go_region_held3 (fun w' => Kept w w' ∧ w'.cell? ⟨w.heap.size, 0, none⟩ = some (.bool (ng p)))
      (first | exact one_step (by assumption) (by assumption) | exact one_set (by assumption) (by omega) (by omega) | assumption | exact ⟨Kept.then HK.out (Kept.drew _), g0⟩)
      (first
        | (go_at_call 103; refine Calls.mono (add_v (a := nm p * q.den) (b := nm q * p.den) (by omega) (by omega)) ?_; rintro e w4 ⟨v4, rfl, hv4, hk4⟩; have i4 := NatS.lift hv4; have u4 := Kept.chain hk4)
        | (go_at_call 102; refine Calls.mono (low_v (n := nm p * q.den + nm q * p.den) (d := p.den * q.den) (by omega) (by omega) HZ.out) ?_; rintro e w5 ⟨s5, vn5, vd5, rfl, hq5, hk5⟩; obtain ⟨An5, cn5, rfl, _, _⟩ := hq5.2.1.at; obtain ⟨Ad5, cd5, rfl, _, _⟩ := hq5.2.2.at; have hr5 := Kept.row hk5 (Kept.row hk4 (Kept.row (Kept.drew _) HR.out)); obtain ⟨c0, c1, c2, f0, f1, f2⟩ := three hr5))
    go_wp2
    exact ret_rat rfl rfl rfl hr5 (by omega) (Kept.then HK.out (Kept.then (Kept.drew _) (Kept.then hk4 hk5))) hq5
  · have hb : (ng p == ng q) = false := by simpa using hng
    rcases Nat.lt_or_ge (nm p * q.den) (nm q * p.den) with hlt | hge
    · rw [add_parts_lt _ _ hng (Nat.le_of_lt hlt)]
      have b9 := size_le_of_le (Nat.sub_le (nm q * p.den) (nm p * q.den))
      have hle := Lib.hid hlt
      clear hng hlt
      go_enter Try.func83, Try.ntmps83
      have iN := HN.out; have iD := HD.out; have iN' := HN'.out; have iD' := HD'.out
      go_wp2
      go_region_held3 (fun w' => Kept w w' ∧ w'.cell? ⟨w.heap.size, 0, none⟩ = some (.bool (ng p)) ∧ w'.cell? ⟨w.heap.size, 1, none⟩ = some (Value.slice An (size (nm p)) cn) ∧ w'.cell? ⟨w.heap.size, 2, none⟩ = some (Value.slice Ad (size p.den) cd) ∧ w'.cell? ⟨w.heap.size + 1, 0, none⟩ = some (.bool (ng q)) ∧ w'.cell? ⟨w.heap.size + 1, 1, none⟩ = some (Value.slice An' (size (nm q)) cn') ∧ w'.cell? ⟨w.heap.size + 1, 2, none⟩ = some (Value.slice Ad' (size q.den) cd'))
        (first | exact two_step (by assumption) (by assumption) | assumption | (refine ⟨Kept.three _ _ _ _, ?_⟩; simp [go_sem, World.cell?_alloc_past]))
        (first
          | (go_at_call 100; first | (refine Calls.mono (mul_v (a := nm p) (b := q.den) (by omega) (by omega)) ?_; rintro e w1 ⟨v1, rfl, hv1, hk1⟩; have i1 := NatS.lift hv1; have u1 := Kept.chain hk1) | (refine Calls.mono (mul_v (a := nm q) (b := p.den) (by omega) (by omega)) ?_; rintro e w2 ⟨v2, rfl, hv2, hk2⟩; have i2 := NatS.lift hv2; have u2 := Kept.chain hk2) | (refine Calls.mono (mul_v (a := p.den) (b := q.den) (by omega) (by omega)) ?_; rintro e w3 ⟨v3, rfl, hv3, hk3⟩; have i3 := NatS.lift hv3; have u3 := Kept.chain hk3)))
      obtain ⟨hK, g0, g1, g2, g3, g4, g5⟩ := ‹Kept w w3 ∧ _›
      have hr := Kept.row hk3 (Kept.row hk2 (Kept.row hk1 (Kept.row (Kept.drew _) (row_newAt (g := w.heap.size + 1 + 1) _ _ _ (by simp)))))
      have HR := Lib.hid hr; have HK := Lib.hid hK
      clear hk1 hk2 hk3 hv1 hv2 hv3 hr hK
      go_wp2_with (first
        | (go_at_call 104; first | (refine Calls.mono (sub_no (a := nm p * q.den) (b := nm q * p.den) (by omega) (by omega) hle.out) ?_; rintro e w4 ⟨v4, rfl, hv4, hk4⟩; obtain ⟨A4, c4, rfl, _, _⟩ := hv4.at; have u4 := Kept.chain hk4; have HK4 := Lib.hid hk4; obtain ⟨hc4, hf4⟩ := bcell hk4; have e4 := hk4.cell g3; clear hk4 hv4) | (refine Calls.mono (sub_v (a := nm q * p.den) (b := nm p * q.den) (by omega) (by omega) (Nat.le_of_lt hle.out)) ?_; rintro e w5 ⟨v5, rfl, hv5, hk5⟩; obtain ⟨A5, c5, rfl, _, _⟩ := hv5.at; have i5 := NatS.lift hv5; have u5 := Kept.chain hk5; have HK5 := Lib.hid hk5; obtain ⟨hc5, hf5⟩ := bcell hk5; have e5 := hk5.cell e4; clear hk5 hv5))
        | (go_at_call 102; refine Calls.mono (low_v (n := nm q * p.den - nm p * q.den) (d := p.den * q.den) (by omega) (by omega) HZ.out) ?_; rintro e w6 ⟨s6, vn6, vd6, rfl, hq6, hk6⟩; obtain ⟨An6, cn6, rfl, _, _⟩ := hq6.2.1.at; obtain ⟨Ad6, cd6, rfl, _, _⟩ := hq6.2.2.at; have hr6 := Kept.row hk6 (Kept.row HK5.out (Kept.row HK4.out HR.out)); obtain ⟨c0, c1, c2, f0, f1, f2⟩ := three hr6; have HQ6 := Lib.hid hq6; have HK6 := Lib.hid hk6; have HR6 := Lib.hid hr6; clear hq6 hk6 hr6))
      exact ret_rat rfl rfl rfl HR6.out (by omega) (Kept.then HK.out (Kept.then HK4.out (Kept.then HK5.out HK6.out))) HQ6.out
    · rw [add_parts_ge _ _ hng hge]
      have b9 := size_le_of_le (Nat.sub_le (nm p * q.den) (nm q * p.den))
      have hle := Lib.hid hge
      clear hng hge
      go_enter Try.func83, Try.ntmps83
      have iN := HN.out; have iD := HD.out; have iN' := HN'.out; have iD' := HD'.out
      go_wp2
      go_region_held3 (fun w' => Kept w w' ∧ w'.cell? ⟨w.heap.size, 0, none⟩ = some (.bool (ng p)) ∧ w'.cell? ⟨w.heap.size, 1, none⟩ = some (Value.slice An (size (nm p)) cn) ∧ w'.cell? ⟨w.heap.size, 2, none⟩ = some (Value.slice Ad (size p.den) cd) ∧ w'.cell? ⟨w.heap.size + 1, 0, none⟩ = some (.bool (ng q)) ∧ w'.cell? ⟨w.heap.size + 1, 1, none⟩ = some (Value.slice An' (size (nm q)) cn') ∧ w'.cell? ⟨w.heap.size + 1, 2, none⟩ = some (Value.slice Ad' (size q.den) cd'))
        (first | exact two_step (by assumption) (by assumption) | assumption | (refine ⟨Kept.three _ _ _ _, ?_⟩; simp [go_sem, World.cell?_alloc_past]))
        (first
          | (go_at_call 100; first | (refine Calls.mono (mul_v (a := nm p) (b := q.den) (by omega) (by omega)) ?_; rintro e w1 ⟨v1, rfl, hv1, hk1⟩; have i1 := NatS.lift hv1; have u1 := Kept.chain hk1) | (refine Calls.mono (mul_v (a := nm q) (b := p.den) (by omega) (by omega)) ?_; rintro e w2 ⟨v2, rfl, hv2, hk2⟩; have i2 := NatS.lift hv2; have u2 := Kept.chain hk2) | (refine Calls.mono (mul_v (a := p.den) (b := q.den) (by omega) (by omega)) ?_; rintro e w3 ⟨v3, rfl, hv3, hk3⟩; have i3 := NatS.lift hv3; have u3 := Kept.chain hk3)))
      obtain ⟨hK, g0, g1, g2, g3, g4, g5⟩ := ‹Kept w w3 ∧ _›
      have hr := Kept.row hk3 (Kept.row hk2 (Kept.row hk1 (Kept.row (Kept.drew _) (row_newAt (g := w.heap.size + 1 + 1) _ _ _ (by simp)))))
      have HR := Lib.hid hr; have HK := Lib.hid hK
      clear hk1 hk2 hk3 hv1 hv2 hv3 hr hK
      go_wp2_with (first
        | (go_at_call 104; (refine Calls.mono (sub_v (a := nm p * q.den) (b := nm q * p.den) (by omega) (by omega) hle.out) ?_; rintro e w5 ⟨v5, rfl, hv5, hk5⟩; obtain ⟨A5, c5, rfl, _, _⟩ := hv5.at; have i5 := NatS.lift hv5; have u5 := Kept.chain hk5; have HK5 := Lib.hid hk5; obtain ⟨hc5, hf5⟩ := bcell hk5; have e5 := hk5.cell g0; clear hk5 hv5))
        | (go_at_call 102; refine Calls.mono (low_v (n := nm p * q.den - nm q * p.den) (d := p.den * q.den) (by omega) (by omega) HZ.out) ?_; rintro e w6 ⟨s6, vn6, vd6, rfl, hq6, hk6⟩; obtain ⟨An6, cn6, rfl, _, _⟩ := hq6.2.1.at; obtain ⟨Ad6, cd6, rfl, _, _⟩ := hq6.2.2.at; have hr6 := Kept.row hk6 (Kept.row HK5.out HR.out); obtain ⟨c0, c1, c2, f0, f1, f2⟩ := three hr6; have HQ6 := Lib.hid hq6; have HK6 := Lib.hid hk6; have HR6 := Lib.hid hr6; clear hq6 hk6 hr6))
      exact ret_rat rfl rfl rfl HR6.out (by omega) (Kept.then HK.out (Kept.then HK5.out HK6.out)) HQ6.out
end Go.Proofs.Ytpclkgjhfhhddaa.V
/- Rational numbers: walks: a number of its own, the other sign. -/
namespace Go.Proofs.Ytpclkgjhfhhddaa.V
open Go Go.RowKit Go.Proofs.Ytpclkgjhfhhddaa.PN
set_option linter.unusedVariables false
set_option linter.unusedSimpArgs false
theorem Row?.far {w : World} {k g : Nat} {cs : Array Value} {T : TypeId} (h : Row? w k cs T) (hne : k ≠ g) (o : Nat) (u : Value) : Row? (w.setCell ⟨g, o, none⟩ u) k cs T := (Below.heap_setCell w ⟨g, o, none⟩ u k hne).trans h
theorem clone_v {w : World} {va : Value} {a : Nat} [ha : NatAt w va a] (hn : size a ≤ 4398046511103) : Calls Try.prog 115 #[va] w (MadeNat w a) := by
  obtain ⟨A, c, rfl, hc, h1⟩ := ha.at
  exact clone_any A c a (size a) w h1 (by omega)
set_option maxHeartbeats 4000000 in
theorem own_rat {w : World} {s : Bool} {vn vd : Value} {p : Rat} [hp : RatAt w s vn vd p] (hs : wt p ≤ 1000000000000) :
    Calls Try.prog 123 #[.agg #[.bool s, vn, vd]] w (MadeRat w p) := by
  obtain ⟨rfl, hn, hd⟩ := hp.out
  obtain ⟨An, cn, rfl, _, _⟩ := hn.at
  obtain ⟨Ad, cd, rfl, _, _⟩ := hd.at
  have HN := Lib.hid (NatS.lift hn); have HD := Lib.hid (NatS.lift hd)
  clear hn hd hp
  have b1 := wt_num p; have b2 := wt_den p
  go_enter Try.func123, Try.ntmps123
  have iN := HN.out; have iD := HD.out
  go_wp2
  go_region_with (first
      | (go_at_call 115; first | (refine Calls.mono (clone_v (a := nm p) (by omega)) ?_; rintro e w1 ⟨v1, rfl, hv1, hk1⟩; obtain ⟨A1, C1, rfl, _, _⟩ := hv1.at; have i1 := NatS.lift hv1; have u1 := Kept.chain hk1; have hb1 := Kept.row hk1 (Kept.row (Kept.then (Kept.alloc _ _) (Kept.drew _)) (row_new w _ _)); have hr1 := Kept.row hk1 (Kept.row (Kept.drew _) (row_newAt (g := w.heap.size + 1) _ _ _ (by simp))); have us := (Up.set (Up.refl w1) (Typed.mk' hb1) (by decide) 1 (.slice A1 (size (nm p)) C1)).chain; obtain ⟨c0, c1, c2, f0, f1, f2⟩ := three hb1) | (refine Calls.mono (clone_v (a := p.den) (by omega)) ?_; rintro e w2 ⟨v2, rfl, hv2, hk2⟩; obtain ⟨A2, C2, rfl, _, _⟩ := hv2.at; have i2 := NatS.lift hv2; have u2 := Kept.chain hk2; (first | (have hb2 := Kept.row hk2 hb1; have hr2 := Kept.row hk2 hr1) | (have hb2 := Kept.row hk2 (Row?.set hb1 1 (.slice A1 (size (nm p)) C1)); have hr2 := Kept.row hk2 (Row?.far hr1 (by omega) 1 (.slice A1 (size (nm p)) C1)))); (try simp only [List.setIfInBounds_toArray, List.set_cons_zero, List.set_cons_succ] at hb2); obtain ⟨d0, d1, d2, e0, e1, e2⟩ := three hb2; obtain ⟨d3, d4, d5, e3, e4, e5⟩ := three hr2)))
  all_goals go_wp2
  all_goals
    have hK : Kept w w2 := Kept.then (Kept.then (Kept.alloc _ _) (Kept.then (Kept.alloc _ _) (Kept.drew _))) (Kept.then hk1 hk2)
    have q2 := (Up.set (Up.set (Up.refl w2) (Typed.mk' hb2) (by decide) 1 (.slice A1 (size (nm p)) C1)) (Typed.mk' (Row?.set hb2 1 (.slice A1 (size (nm p)) C1))) (by decide) 2 (.slice A2 (size p.den) C2)).chain
    exact ret_rat rfl rfl rfl (Row?.far (Row?.far hr2 (by omega) _ _) (by omega) _ _) (by omega) (Kept.set (Kept.set hK (Nat.le_refl _) _ _) (Nat.le_refl _) _ _) ⟨rfl, (i1 _).out, (i2 _).out⟩
end Go.Proofs.Ytpclkgjhfhhddaa.V

/- Joined texts, 11: AmN AmO SRatA SRatB SRatC SRatD SRatE SRatF SRatG. -/
import Derived.Test.YtddkocidfhaofaaJLawLevinKnown10
import Derived.Test.YtddkocidfhaofaaJLawLevinKnown4
set_option linter.unusedVariables false
set_option linter.unusedSimpArgs false
/- What is told of a state, told otherwise. -/
namespace Go.Proofs.Ytddkocidfhaofaa.AM
open Go Go.RowKit Go.Proofs.Ytddkocidfhaofaa.PN Go.Proofs.Ytddkocidfhaofaa.V
set_option linter.unusedVariables false
set_option linter.unusedSimpArgs false
/-- Own blocks under other numbers. -/
abbrev Ren := Nat → Nat → Nat × Nat
def idR : Ren := fun g r => (g, r)
def ren (σ : Ren) (β : Nat → Nat → Value) : Nat → Nat → Value := fun g r => β (σ g r).1 (σ g r).2
/-- Whatever x says y says, under other numbers. -/
def Le (σ : Ren) (x y : AV) : Prop := ∀ S B β w v, RV S B β w x v → RV S B (ren σ β) w y v
theorem Le.same {σ : Ren} {x : AV} (h : x.ok (fun _ => false)) : Le σ x x := fun S B β w v hv =>
  hv.fwd (U := fun _ => false) (O := fun _ => False) ⟨Ext.refl _ _, fun _ _ h => h, fun _ h _ => h, Nat.le_refl _, fun _ _ h => by cases h⟩ h
theorem Le.id {x y : AV} (h : x = y) : Le idR x y := by subst h; exact fun S B β w v hv => hv
theorem Le.eq {σ : Ren} {x y : AV} (h : x = y) (hc : x.closed = true) : Le σ x y := by subst h; exact Le.same (closed_ok hc)
theorem Le.own {σ : Ren} {g r g' r' : Nat} (h : σ g' r' = (g, r)) : Le σ (.own g r) (.own g' r') := by
  intro S B β w v hv
  have e : ren σ β g' r' = β g r := by unfold ren; rw [h]
  exact ⟨by rw [e]; exact hv.1, hv.2⟩
theorem Le.ptr {σ : Ren} {g r g' r' i : Nat} (h : σ g' r' = (g, r)) : Le σ (.ptr g r i) (.ptr g' r' i) := by
  intro S B β w v hv
  have e : ren σ β g' r' = β g r := by unfold ren; rw [h]
  obtain ⟨b, hb, hv⟩ := hv
  exact ⟨b, by rw [e]; exact hb, hv⟩
theorem Le.sl {σ : Ren} {g r g' r' off n : Nat} (h : σ g' r' = (g, r)) : Le σ (.sl g r off n) (.sl g' r' off n) := by
  intro S B β w v hv
  have e : ren σ β g' r' = β g r := by unfold ren; rw [h]
  obtain ⟨A, c, h1, h2, h3, h4⟩ := hv
  exact ⟨A, c, h1, h2, h3, fun hn => by rw [e]; exact h4 hn⟩
theorem Le.rptr {σ : Ren} {g r g' r' i : Nat} (h : σ g' r' = (g, r)) : Le σ (.rptr g r i) (.rptr g' r' i) := by
  intro S B β w v hv
  have e : ren σ β g' r' = β g r := by unfold ren; rw [h]
  obtain ⟨b, hb, hv⟩ := hv
  exact ⟨b, by rw [e]; exact hb, hv⟩
/-- Numbers in a row that are the same. -/
theorem Le.row {σ : Ren} {fr fr' : Bool} {n n' : Nat} {f f' : Nat → RA} (hn : n = n') (h : ∀ i, i < n → f i = f' i) (hf : fr' = true → fr = true) : Le σ (.row fr n f) (.row fr' n' f') := by
  subst hn
  rintro S B β w v ⟨A, c, h1, h2, h3, h4⟩
  exact ⟨A, c, h1, h2, h3, fun i hi => by obtain ⟨b, off, a1, a2, a3, a4⟩ := h4 i hi; exact ⟨b, off, a1, a2, (fun e => a3 (hf e)), by rw [← h i hi]; exact a4⟩⟩
theorem Le.mat {σ : Ren} {fr fr' : Bool} {n n' : Nat} {m m' : Nat → Nat} {F F' : Nat → Nat → RA} (hn : n = n') (hm : ∀ i, i < n → m i = m' i) (h : ∀ i, i < n → ∀ j, j < m i → F i j = F' i j) (hf : fr' = true → fr = true) : Le σ (.mat fr n m F) (.mat fr' n' m' F') := by
  subst hn
  rintro S B β w v ⟨A, c, h1, h2, h3, h4⟩
  refine ⟨A, c, h1, h2, h3, fun i hi => ?_⟩
  obtain ⟨b, off, cs, x, a1, a2, a3, a4, a5, a6⟩ := h4 i hi
  exact ⟨b, off, cs, x, a1, a2, (fun e => a3 (hf e)), a4, a5, Le.row (σ := idR) (hm i hi) (h i hi) hf S B (fun _ _ => undef) w x a6⟩
theorem Le.nilrow {σ : Ren} {fr : Bool} {f : Nat → RA} : Le σ (.v (.slice none 0 0)) (.row fr 0 f) := by
  intro S B β w v hv
  exact ⟨none, 0, hv, Nat.le_refl _, Nat.zero_le _, fun i hi => absurd hi (Nat.not_lt_zero _)⟩
def BLe (σ : Ren) : Blk → Blk → Prop
  | .rats n f, .rats n' f' => n = n' ∧ ∀ i, i < n → f i = f' i
  | .ones T n f, .ones T' n' f' => T = T' ∧ n = n' ∧ ∀ i, i < n → Le σ (f i) (f' i)
  | _, _ => False
theorem rb_ble {σ : Ren} {S : Nat → Prop} {B : Nat} {β : Nat → Nat → Value} {w : World} {u : Value} {b b' : Blk} (h : BLe σ b b') (hb : RB S B β w u b) : RB S B (ren σ β) w u b' := by
  cases b with
  | rats n f =>
    cases b' with
    | rats n' f' =>
      obtain ⟨rfl, h⟩ := h
      rcases hb with hb | ⟨k, cs, h1, h2, h3, h4⟩
      · exact .inl hb
      · exact .inr ⟨k, cs, h1, h2, h3, fun i hi => by obtain ⟨s, vn, vd, a0, a1, a2, a3⟩ := h4 i hi; exact ⟨s, vn, vd, a0, a1, a2, by rw [← h i hi]; exact a3⟩⟩
    | ones T' n' f' => exact h.elim
  | ones T n f =>
    cases b' with
    | rats n' f' => exact h.elim
    | ones T' n' f' =>
      obtain ⟨rfl, rfl, h⟩ := h
      obtain ⟨hT, hb⟩ := hb
      refine ⟨hT, ?_⟩
      rcases hb with hb | ⟨k, cs, h1, h2, h3, h4⟩
      · exact .inl hb
      · exact .inr ⟨k, cs, h1, h2, h3, fun i hi => by obtain ⟨y, a0, a1, a2⟩ := h4 i hi; exact ⟨y, a0, a1, h i hi S B β w y a2⟩⟩
/-- A list of what is known. -/
def lkp {α : Type} : List (Nat × α) → Nat → Option α
  | [], _ => none
  | (k, x) :: l, t => bif Nat.beq t k then some x else lkp l t
theorem lkp_mem {α : Type} : ∀ {l : List (Nat × α)} {t : Nat} {x : α}, lkp l t = some x → (t, x) ∈ l
  | [], t, x, h => by cases h
  | (k, y) :: l, t, x, h => by
    unfold lkp at h
    cases e : Nat.beq t k with
    | true => rw [e] at h; cases h; rw [Nat.eq_of_beq_eq_true e]; exact List.mem_cons_self ..
    | false => rw [e] at h; exact List.mem_cons_of_mem _ (lkp_mem h)
def keys {α : Type} : List (Nat × α) → List Nat
  | [] => []
  | (k, _) :: l => k :: keys l
theorem lkp_key {α : Type} : ∀ {l : List (Nat × α)} {t : Nat} {x : α}, lkp l t = some x → memN t (keys l) = true
  | [], t, x, h => by cases h
  | (k, y) :: l, t, x, h => by
    unfold lkp at h
    unfold keys memN
    cases e : Nat.beq t k with
    | true => rfl
    | false => rw [e] at h; exact lkp_key h
def stl (e : List (Nat × AV)) (h : List (Nat × Fam)) : St := ⟨lkp e, lkp h, fun g => memN g (keys h)⟩
/-- Each slot of a list is known. -/
def AllE (s : St) (σ : Ren) (U : Nat → Bool) : List (Nat × AV) → Prop
  | [] => True
  | (t, y) :: l => (∃ x, s.env t = some x ∧ Le σ x y ∧ y.ok U) ∧ AllE s σ U l
/-- Each family of a list is known. -/
def AllH (s : St) (σ : Ren) (U : Nat → Bool) : List (Nat × Fam) → Prop
  | [] => True
  | (g, (n, F)) :: l => (∀ r, r < n → ∃ n' F', s.heap (σ g r).1 = some (n', F') ∧ (σ g r).2 < n' ∧ BLe σ (F' (σ g r).2) (F r) ∧ (F r).ok U) ∧ AllH s σ U l
theorem AllE.get {s : St} {σ : Ren} {U : Nat → Bool} : ∀ {l : List (Nat × AV)}, AllE s σ U l → ∀ {t : Nat} {y : AV}, (t, y) ∈ l → ∃ x, s.env t = some x ∧ Le σ x y ∧ y.ok U
  | [], _, t, y, h => by cases h
  | (k, z) :: l, ha, t, y, h => by
    rcases List.mem_cons.1 h with e | h
    · cases e; exact ha.1
    · exact ha.2.get h
theorem AllH.get {s : St} {σ : Ren} {U : Nat → Bool} : ∀ {l : List (Nat × Fam)}, AllH s σ U l → ∀ {g n : Nat} {F : Nat → Blk}, (g, (n, F)) ∈ l → ∀ r, r < n → ∃ n' F', s.heap (σ g r).1 = some (n', F') ∧ (σ g r).2 < n' ∧ BLe σ (F' (σ g r).2) (F r) ∧ (F r).ok U
  | [], _, g, n, F, h => by cases h
  | (k, (m, G)) :: l, ha, g, n, F, h => by
    rcases List.mem_cons.1 h with e | h
    · cases e; exact ha.1
    · exact ha.2.get h
/-- What is known of s is known as these lists say. -/
theorem Blk.ok_mono {U U' : Nat → Bool} (h : ∀ g, U g = true → U' g = true) {b : Blk} (k : b.ok U) : b.ok U' := by
  cases b with
  | rats n f => trivial
  | ones T n f => exact fun i hi => AV.ok_mono h (k i hi)
theorem imp_stl {s : St} {e : List (Nat × AV)} {h : List (Nat × Fam)} (σ : Ren) (hσ : s.used 60 = true → ∀ g, fx3 g = true → ∀ r, σ g r = (g, r)) (hinj : ∀ g r g' r', memN g (keys h) = true → memN g' (keys h) = true → σ g r = σ g' r' → g = g' ∧ r = r')
    (he : AllE s σ (fun g => memN g (keys h)) e) (hh : AllH s σ (fun g => memN g (keys h)) h) (h9 : (!(s.used 60) || (memN 60 (keys h) && memN 61 (keys h) && memN 62 (keys h))) = true := by exact rfl) : Imp s (stl e h) := by
  intro W N β w a hs
  refine ⟨ren σ β, ?_⟩
  have hown : ∀ i, Own (stl e h) (ren σ β) i → Own s β i := by
    rintro i ⟨g, n, F, r, h1, h2, h3⟩
    obtain ⟨n', F', a1, a2, _, _⟩ := hh.get (lkp_mem h1) r h2
    exact ⟨_, n', F', _, a1, a2, h3⟩
  have kg : Fwd (notOwn W s β) (notOwn W (stl e h) (ren σ β)) W.w.heap.size W.w.heap.size (fun g => memN g (keys h)) (ren σ β) (ren σ β) (fun _ => False) w w :=
    ⟨Ext.refl _ _, fun _ _ h => h, fun b hb _ => ⟨hb.1, fun ho => hb.2 (hown b ho)⟩, Nat.le_refl _, fun _ _ _ => rfl⟩
  refine ⟨hs.kept, hs.nodef, hs.size, fun t y hy => ?_, fun g n F r h1 h2 => ?_, fun g n F h1 => lkp_key h1, fun g n F r g' n' F' r' i h1 h2 h3 h4 h5 h6 => ?_, hs.fix, fun i ho => hs.pin i (hown i ho), fun u hu i hi => by rw [← hs.fixd u hu i hi]; funext r; show β (σ i r).1 (σ i r).2 = _; rw [hσ (hs.keep u hu 60 rfl) i hi], fun u hu i hi => by
    rw [hs.keep u hu 60 rfl] at h9
    simp only [Bool.not_true, Bool.false_or, Bool.and_eq_true] at h9
    unfold fx3 at hi
    rw [Bool.or_eq_true, Bool.or_eq_true] at hi
    rcases hi with (hi | hi) | hi
    · rw [Nat.eq_of_beq_eq_true hi]; exact h9.1.1
    · rw [Nat.eq_of_beq_eq_true hi]; exact h9.1.2
    · rw [Nat.eq_of_beq_eq_true hi]; exact h9.2⟩
  · obtain ⟨x, a1, a2, a3⟩ := he.get (lkp_mem hy)
    exact ⟨a3, (a2 _ _ _ _ _ (hs.env t x a1).2).fwd kg a3⟩
  · obtain ⟨n', F', a1, a2, a3, a4⟩ := hh.get (lkp_mem h1) r h2
    exact ⟨a4, RB.fwd kg a4 (fun _ _ h => h) (rb_ble a3 (hs.heap _ _ _ _ a1 a2).2)⟩
  · obtain ⟨m, G, a1, a2, _, _⟩ := hh.get (lkp_mem h1) r h2
    obtain ⟨m', G', b1, b2, _, _⟩ := hh.get (lkp_mem h3) r' h4
    have := hs.inj _ _ _ _ _ _ _ _ i a1 a2 b1 b2 h5 h6
    exact hinj g r g' r' (lkp_key h1) (lkp_key h3) (Prod.ext this.1 this.2)
theorem imp_id {s : St} {e : List (Nat × AV)} {h : List (Nat × Fam)} (he : AllE s idR (fun g => memN g (keys h)) e) (hh : AllH s idR (fun g => memN g (keys h)) h) (h9 : (!(s.used 60) || (memN 60 (keys h) && memN 61 (keys h) && memN 62 (keys h))) = true := by exact rfl) : Imp s (stl e h) :=
  imp_stl idR (fun _ _ _ r => rfl) (fun g r g' r' _ _ e => by cases e; exact ⟨rfl, rfl⟩) he hh h9
/-! ### An own slice that is written no more -/
theorem imp_turn1 {s : St} {t g : Nat} {F : Nat → Blk} {x y : AV} (hx : s.env t = some x) (hg : s.heap g = some (1, F)) (hy : y.ok (fun _ => false))
    (h : ∀ W N β w a, Sim W N β w a s → ∀ v, RV (notOwn W s β) W.w.heap.size β w x v → (F 0).ok s.used → RB (notOwn W s β) W.w.heap.size β w (β g 0) (F 0) → ∀ S', (∀ b, notOwn W s β b → S' b) → (∀ b, ub (β g 0) = some b → S' b) → RV S' W.w.heap.size β w y v) :
    Imp s ⟨put s.env t (some y), put s.heap g none, s.used⟩ := by
  intro W N β w a hs
  have hown : ∀ i, Own (⟨put s.env t (some y), put s.heap g none, s.used⟩ : St) β i → Own s β i ∧ ub (β g 0) ≠ some i := by
    rintro i ⟨g', n, F', r, h1, h2, h3⟩
    have h1 : put s.heap g none g' = some (n, F') := h1
    by_cases e : g' = g
    · subst e; rw [put_same] at h1; cases h1
    · rw [put_ne _ _ e] at h1
      exact ⟨⟨g', n, F', r, h1, h2, h3⟩, fun h => e (hs.inj _ _ _ _ _ _ _ _ i h1 h2 hg (by decide) h3 h).1⟩
  have kf : Fwd (notOwn W s β) (notOwn W (⟨put s.env t (some y), put s.heap g none, s.used⟩ : St) β) W.w.heap.size W.w.heap.size s.used β β (fun _ => False) w w :=
    ⟨Ext.refl _ _, fun _ _ h => h, fun b hb _ => ⟨hb.1, fun ho => hb.2 (hown b ho).1⟩, Nat.le_refl _, fun _ _ _ => rfl⟩
  refine ⟨β, hs.kept, hs.nodef, hs.size, fun t' z hz => ?_, fun g' n F' r h1 h2 => ?_, fun g' n F' h1 => ?_, fun g1 n1 F1 r1 g2 n2 F2 r2 i h1 h2 h3 h4 h5 h6 => ?_, hs.fix, fun i ho => hs.pin i (hown i ho).1, hs.fixd, hs.keep⟩
  · have hz : put s.env t (some y) t' = some z := hz
    by_cases e : t' = t
    · subst e
      rw [put_same] at hz
      cases hz
      obtain ⟨q1, q2⟩ := hs.heap g 1 F 0 hg (by decide)
      refine ⟨ok_none hy, h W N β w a hs _ (hs.env t' x hx).2 q1 q2 _ (fun b hb => ⟨hb.1, fun ho => hb.2 (hown b ho).1⟩) (fun b hb => ⟨fun hlt => ?_, fun ho => (hown b ho).2 hb⟩)⟩
      exact W.law b (own_lt hs ⟨g, 1, F, 0, hg, by decide, hb⟩).1 hlt (hs.pin b ⟨g, 1, F, 0, hg, by decide, hb⟩)
    · rw [put_ne _ _ e] at hz
      exact ⟨(hs.env t' z hz).1, (hs.env t' z hz).2.fwd kf (hs.env t' z hz).1⟩
  · have h1 : put s.heap g none g' = some (n, F') := h1
    by_cases e : g' = g
    · subst e; rw [put_same] at h1; cases h1
    · rw [put_ne _ _ e] at h1
      obtain ⟨q1, q2⟩ := hs.heap g' n F' r h1 h2
      exact ⟨q1, RB.fwd kf q1 (fun _ _ h => h) q2⟩
  · have h1 : put s.heap g none g' = some (n, F') := h1
    by_cases e : g' = g
    · subst e; rw [put_same] at h1; cases h1
    · rw [put_ne _ _ e] at h1; exact hs.live _ _ _ h1
  · have h1 : put s.heap g none g1 = some (n1, F1) := h1
    have h3 : put s.heap g none g2 = some (n2, F2) := h3
    by_cases e : g1 = g
    · subst e; rw [put_same] at h1; cases h1
    · by_cases e2 : g2 = g
      · subst e2; rw [put_same] at h3; cases h3
      · rw [put_ne _ _ e] at h1; rw [put_ne _ _ e2] at h3
        exact hs.inj _ _ _ _ _ _ _ _ i h1 h2 h3 h4 h5 h6
theorem own_row {S S' : Nat → Prop} {B : Nat} {β : Nat → Nat → Value} {w : World} {u v : Value} {n : Nat} {f : Nat → RA} (hv : v = u ∧ ∃ A n c, v = .slice A n c) (hb : RB S B β w u (.rats n f)) (h2 : ∀ b, ub u = some b → S' b) : RowV S' B w true n f v := by
  obtain ⟨rfl, A, n', c, e⟩ := hv
  rcases hb with ⟨e, rfl⟩ | ⟨k, cs, hB, hr, hat, hx⟩
  · exact ⟨none, 0, e, Nat.le_refl _, Nat.zero_le _, fun i hi => absurd hi (Nat.not_lt_zero _)⟩
  · have hub := ub_at hat
    rcases hat with ⟨e', _⟩ | ⟨cap, e', h3, h4, _⟩
    · rw [e] at e'; cases e'
    · refine ⟨_, cap, e', h3, h4, fun i hi => ⟨k, 0, rfl, h2 k hub, fun _ => hB, ?_⟩⟩
      obtain ⟨s, vn, vd, a0, a1, a2, a3⟩ := hx i hi
      exact ⟨cs, s, vn, vd, hr, by rw [Nat.zero_add]; exact a0, by rw [Nat.zero_add]; exact a1, by rw [Nat.zero_add]; exact a2, a3⟩
theorem imp_row {s : St} (t : Nat) {g n : Nat} {F : Nat → Blk} {f : Nat → RA} (hx : s.env t = some (.own g 0)) (hg : s.heap g = some (1, F)) (hF : F 0 = .rats n f) : Imp s ⟨put s.env t (some (.row true n f)), put s.heap g none, s.used⟩ :=
  imp_turn1 hx hg trivial fun W N β w a hs v hv hok hb S' h1 h2 => own_row hv (by rw [← hF]; exact hb) h2
theorem imp_mat {s : St} (t : Nat) {g n : Nat} {F : Nat → Blk} {f : Nat → AV} (m : Nat → Nat) (G : Nat → Nat → RA) (hx : s.env t = some (.own g 0)) (hg : s.heap g = some (1, F)) (hF : F 0 = .ones WT n f) (hf : ∀ i, i < n → f i = .row true (m i) (G i)) : Imp s ⟨put s.env t (some (.mat true n m G)), put s.heap g none, s.used⟩ :=
  imp_turn1 hx hg trivial fun W N β w a hs v hv hok hb S' h1 h2 => by
    rw [hF] at hb
    obtain ⟨e0, A, n', c, e⟩ := hv
    rcases hb.2 with ⟨e', rfl⟩ | ⟨k, cs, hB, hr, hat, hx⟩
    · exact ⟨none, 0, e0.trans e', Nat.le_refl _, Nat.zero_le _, fun i hi => absurd hi (Nat.not_lt_zero _)⟩
    · have hub := ub_at hat
      rcases hat with ⟨e', _⟩ | ⟨cap, e', h3, h4, _⟩
      · rw [← e0, e] at e'; cases e'
      · refine ⟨_, cap, e0.trans e', h3, h4, fun i hi => ?_⟩
        obtain ⟨y, a0, a1, a2⟩ := hx i hi
        rw [hf i hi] at a2
        refine ⟨k, 0, cs, y, rfl, h2 k hub, fun _ => hB, hr, by rw [Nat.zero_add]; exact a0, ?_⟩
        obtain ⟨A2, c2, b1, b2, b3, b4⟩ := a2
        exact ⟨A2, c2, b1, b2, b3, fun j hj => by obtain ⟨bb, off, d1, d2, d3, d4⟩ := b4 j hj; exact ⟨bb, off, d1, h1 _ d2, d3, d4⟩⟩
/-- Other words for a slot. -/
theorem imp_slot {s : St} (t : Nat) {x y : AV} (hx : s.env t = some x) (hy : y.ok s.used) (h : Le idR x y) : Imp s ⟨put s.env t (some y), s.heap, s.used⟩ := by
  intro W N β w a hs
  refine ⟨β, hs.kept, hs.nodef, hs.size, fun t' z hz => ?_, hs.heap, hs.live, hs.inj, hs.fix, hs.pin, hs.fixd, hs.keep⟩
  have hz : put s.env t (some y) t' = some z := hz
  by_cases e : t' = t
  · subst e; rw [put_same] at hz; cases hz; exact ⟨hy, h _ _ β _ _ (hs.env t' x hx).2⟩
  · rw [put_ne _ _ e] at hz; exact hs.env t' z hz
end Go.Proofs.Ytddkocidfhaofaa.AM
/- Structs that are written out. -/
namespace Go.Proofs.Ytddkocidfhaofaa.AM
open Go Go.RowKit Go.Proofs.Ytddkocidfhaofaa.PN Go.Proofs.Ytddkocidfhaofaa.V
set_option linter.unusedVariables false
set_option linter.unusedSimpArgs false
def setAll {α : Type} (l : List α) (off : Nat) : List α → List α
  | [] => l
  | y :: ys => setAll (l.set off y) (off + 1) ys
/-- A part's cells. -/
def AV.cells : AV → List AV
  | .ra q => [.rs q, .rn q, .rd q]
  | .ag n f => (List.range n).map f
  | y => [y]
def fillA (pl : List (Nat × Nat)) (cells : List AV) : List (Nat × AV) → Option (List AV)
  | [] => some cells
  | (i, y) :: rest => match pl[i]? with
    | some (off, sz) => bif Nat.beq y.cells.length sz && Nat.ble (off + sz) cells.length then fillA pl (setAll cells off y.cells) rest else none
    | none => none
def CellsRV (S : Nat → Prop) (B : Nat) (β : Nat → Nat → Value) (w : World) (U : Nat → Bool) (cs : List Value) (l : List AV) : Prop :=
  cs.length = l.length ∧ ∀ (i : Nat) (y : AV) (v : Value), l[i]? = some y → cs[i]? = some v → y.ok U ∧ v.oneCell' = true ∧ RV S B β w y v
theorem cells_set {S : Nat → Prop} {B : Nat} {β : Nat → Nat → Value} {w : World} {U : Nat → Bool} {cs : List Value} {l : List AV} (h : CellsRV S B β w U cs l) {y : AV} {v : Value} (hy : y.ok U ∧ v.oneCell' = true ∧ RV S B β w y v) (off : Nat) : CellsRV S B β w U (cs.set off v) (l.set off y) := by
  refine ⟨by simp [h.1], fun i z u hz hu => ?_⟩
  by_cases e : off = i
  · subst e
    have hlt : off < l.length := by
      rcases Nat.lt_or_ge off l.length with hlt | hge
      · exact hlt
      · rw [List.getElem?_eq_none (by simpa using hge)] at hz; cases hz
    rw [List.getElem?_set_self hlt] at hz
    rw [List.getElem?_set_self (by rw [h.1]; exact hlt)] at hu
    cases hz; cases hu; exact hy
  · rw [List.getElem?_set_ne e] at hz hu
    exact h.2 i z u hz hu
theorem cells_setAll {S : Nat → Prop} {B : Nat} {β : Nat → Nat → Value} {w : World} {U : Nat → Bool} : ∀ (vs : List Value) (ys : List AV) (cs : List Value) (l : List AV) (off : Nat), CellsRV S B β w U cs l → CellsRV S B β w U vs ys → CellsRV S B β w U (setAll cs off vs) (setAll l off ys)
  | [], [], cs, l, off, h, _ => h
  | v :: vs, y :: ys, cs, l, off, h, k => cells_setAll vs ys _ _ (off + 1) (cells_set h (k.2 0 y v rfl rfl) off) ⟨by have := k.1; simpa using this, fun i z u hz hu => k.2 (i + 1) z u hz hu⟩
  | [], y :: ys, _, _, _, _, k => by have := k.1; simp at this
  | v :: vs, [], _, _, _, _, k => by have := k.1; simp at this
def partOK (y : AV) : Bool := match y with | .ra _ | .ag _ _ => true | y => y.one
theorem av_cells {S : Nat → Prop} {B : Nat} {β : Nat → Nat → Value} {w : World} {U : Nat → Bool} {y : AV} {v : Value} (hu : y.ok U) (h : RV S B β w y v) (ho : partOK y = true) : CellsRV S B β w U v.cells.toList y.cells := by
  have one : y.one = true → y.cells = [y] → CellsRV S B β w U v.cells.toList y.cells := by
    intro h1 e
    have hv := RV.one h1 h
    have hc : v.cells = #[v] := by cases v <;> first | rfl | cases hv
    rw [e, hc]
    refine ⟨rfl, fun i z u hz huu => ?_⟩
    cases i with
    | zero => cases hz; cases huu; exact ⟨hu, hv, h⟩
    | succ i => cases hz
  cases y <;> first | (exact one ho rfl) | (cases ho; done) | skip
  · rename_i q
    obtain ⟨sg, vn, vd, rfl, h1, h2, h3⟩ := h
    refine ⟨rfl, fun i z u hz huu => ?_⟩
    match i with
    | 0 => cases hz; cases huu; exact ⟨trivial, rfl, congrArg Value.bool h1⟩
    | 1 => cases hz; cases huu; exact ⟨trivial, rn_one h2, h2⟩
    | 2 => cases hz; cases huu; exact ⟨trivial, rd_one h3, h3⟩
    | i + 3 => cases hz
  · rename_i n f
    obtain ⟨cs, rfl, h1, h2⟩ := h
    refine ⟨by show cs.toList.length = _; simp [AV.cells, h1], fun i z u hz huu => ?_⟩
    have hz : ((List.range n).map f)[i]? = some z := hz
    have huu : cs.toList[i]? = some u := huu
    rw [List.getElem?_map] at hz
    have hin : i < n := by
      rcases Nat.lt_or_ge i n with h | h
      · exact h
      · rw [List.getElem?_eq_none (by simpa using h)] at hz; cases hz
    rw [List.getElem?_range hin] at hz
    cases hz
    obtain ⟨y, a0, a1, a2⟩ := h2 i hin
    rw [Array.getElem?_toList, a0] at huu
    cases huu
    exact ⟨hu i hin, a1, a2⟩
theorem foldl_set (vs : List Value) : ∀ (off k : Nat) (cs : Array Value), ((vs.zipIdx k).foldl (fun (cs : Array Value) (p : Value × Nat) => cs.setIfInBounds (off + p.2) p.1) cs).toList = setAll cs.toList (off + k) vs := by
  induction vs with
  | nil => intro off k cs; rfl
  | cons v vs ih =>
    intro off k cs
    rw [List.zipIdx_cons, List.foldl_cons, ih]
    show setAll (cs.setIfInBounds (off + k) v).toList (off + (k + 1)) vs = setAll (cs.toList.set (off + k) v) (off + k + 1) vs
    rw [Array.toList_setIfInBounds]; rfl
theorem fill_sound {S : Nat → Prop} {B : Nat} {β : Nat → Nat → Value} {w : World} {U : Nat → Bool} {pf : Nat → Option (Nat × Nat)} {pl : List (Nat × Nat)} (hp : ∀ (i : Nat) (p : Nat × Nat), pl[i]? = some p → pf i = some p) :
    ∀ (parts : List (Nat × AV)) (vals : List (Nat × Value)) (cs : Array Value) (l r : List AV), parts.length = vals.length → (∀ (j : Nat) (p : Nat × AV) (q : Nat × Value), parts[j]? = some p → vals[j]? = some q → p.1 = q.1 ∧ CellsRV S B β w U q.2.cells.toList p.2.cells) →
      CellsRV S B β w U cs.toList l → fillA pl l parts = some r → ∃ c', Instr.fill pf cs vals = some c' ∧ CellsRV S B β w U c'.toList r
  | [], [], cs, l, r, _, _, hc, h => by cases h; exact ⟨cs, rfl, hc⟩
  | [], q :: vals, _, _, _, hl, _, _, _ => by simp at hl
  | p :: parts, [], _, _, _, hl, _, _, _ => by simp at hl
  | (i, y) :: parts, (i', v) :: vals, cs, l, r, hl, hv, hc, h => by
    obtain ⟨e, hcv⟩ := hv 0 _ _ rfl rfl
    have e : i = i' := e
    subst e
    unfold fillA at h
    cases hpl : pl[i]? with
    | none => rw [hpl] at h; cases h
    | some p =>
      obtain ⟨off, sz⟩ := p
      rw [hpl] at h
      simp only [] at h
      cases hb : (Nat.beq y.cells.length sz && Nat.ble (off + sz) l.length) with
      | false => rw [hb] at h; cases h
      | true =>
        rw [hb] at h
        rw [Bool.and_eq_true] at hb
        have h1 := Nat.eq_of_beq_eq_true hb.1
        have h2 := Nat.le_of_ble_eq_true hb.2
        have hcl : v.cells.size = sz := by have := hcv.1; simpa [h1] using this
        have hsz : cs.size = l.length := by have := hc.1; simpa using this
        have hc' : CellsRV S B β w U (v.cells.zipIdx.foldl (fun (cs : Array Value) (p : Value × Nat) => cs.setIfInBounds (off + p.2) p.1) cs).toList (setAll l off y.cells) := by
          have e : (v.cells.zipIdx.foldl (fun (cs : Array Value) (p : Value × Nat) => cs.setIfInBounds (off + p.2) p.1) cs).toList = setAll cs.toList off v.cells.toList := by
            rw [← Array.foldl_toList, Array.toList_zipIdx]
            exact foldl_set v.cells.toList off 0 cs
          rw [e]
          exact cells_setAll _ _ _ _ _ hc hcv
        obtain ⟨c', hf, hr⟩ := fill_sound hp parts vals _ _ r (by simpa using hl) (fun j p q hp' hq => hv (j + 1) p q hp' hq) hc' h
        refine ⟨c', ?_, hr⟩
        unfold Instr.fill
        rw [hp i _ hpl]
        simp only []
        rw [if_neg (by rw [hcl]; simp; omega)]
        exact hf
/-- How a struct, or an array, is laid out. -/
structure Lay (T : TypeId) (pl : List (Nat × Nat)) (z : List Value) : Prop where
  f : ∃ pf : Nat → Option (Nat × Nat), (∀ (i : Nat) (p : Nat × Nat), pl[i]? = some p → pf i = some p) ∧ ∀ parts, Try.prog.built T parts = Instr.fill pf z.toArray parts
  one : z.all (·.oneCell') = true
def partsA (s : St) : List (Nat × Operand) → Option (List (Nat × AV))
  | [] => some []
  | (i, x) :: l => match avo s x, partsA s l with
    | some y, some ys => some ((i, y) :: ys)
    | _, _ => none
theorem partsA_get {s : St} : ∀ {l : List (Nat × Operand)} {ys : List (Nat × AV)}, partsA s l = some ys → ys.length = l.length ∧ ∀ (j : Nat) (p : Nat × AV), ys[j]? = some p → ∃ q, l[j]? = some q ∧ q.1 = p.1 ∧ avo s q.2 = some p.2
  | [], ys, h => by cases h; exact ⟨rfl, fun j p hp => by cases hp⟩
  | (i, x) :: l, ys, h => by
    unfold partsA at h
    split at h
    · rename_i y ys' h1 h2
      cases h
      obtain ⟨e1, e2⟩ := partsA_get h2
      refine ⟨by simp [e1], fun j p hp => ?_⟩
      cases j with
      | zero => cases hp; exact ⟨(i, x), rfl, rfl, h1⟩
      | succ j => exact e2 j p hp
    · cases h
theorem build_lay {o : Oper} {s s2 : St} {rd : List Nat} {T : TypeId} {pl : List (Nat × Nat)} {z : List Value} {parts : Array (Nat × Operand)} {ys : List (Nat × AV)} {r : List AV} (ho : o.op = .build T parts) (hl : Lay T pl z) (hp : partsA s parts.toList = some ys) (hok : (ys.all fun p => partOK p.2) = true) (hf : fillA pl (z.map .v) ys = some r)
    (hk : Like o rd s s2) {W : Wd} {N : Nat} {β : Nat → Nat → Value} {w : World} {a : Act} (hs : Sim W N β w a s2) :
    ∃ c' : Array Value, (execOp a.eval o).run Try.prog w = .ok (.value (.agg c')) w ∧ CellsRV (notOwn W s2 β) W.w.heap.size β w s2.used c'.toList r := by
  obtain ⟨⟨pf, hpf, hb⟩, hz⟩ := hl
  obtain ⟨e1, e2⟩ := partsA_get hp
  have hmem : ∀ p ∈ parts.toList, p.2 ∈ o.op.operands := by
    intro p hp
    rw [ho]
    simp only [Op.operands, List.mem_toArray]
    exact List.mem_map_of_mem hp
  obtain ⟨c', hf', hr⟩ := fill_sound (S := notOwn W s2 β) (B := W.w.heap.size) (β := β) (w := w) (U := s2.used) hpf ys (parts.toList.map fun p => (p.1, a.eval p.2)) z.toArray (z.map .v) r (by simp [e1]) (fun j p q hp' hq => by
      obtain ⟨x, h1, h2, h3⟩ := e2 j p hp'
      rw [List.getElem?_map, h1] at hq
      cases hq
      have h4 := hs.opd (x := x.2) (by rw [hk.avo (hmem x (List.mem_of_getElem? h1))]; exact h3)
      exact ⟨h2.symm, av_cells h4.1 h4.2 (List.all_eq_true.1 hok p (List.mem_of_getElem? hp'))⟩)
    ⟨by simp, fun i y v hy hv => by
      rw [List.getElem?_map] at hy
      cases e : z[i]? with
      | none => rw [e] at hy; cases hy
      | some u =>
        rw [e] at hy
        cases hy
        have hv : z[i]? = some v := hv
        rw [e] at hv
        cases hv
        exact ⟨trivial, List.all_eq_true.1 hz _ (List.mem_of_getElem? e), rfl⟩⟩ hf
  refine ⟨c', ?_, hr⟩
  have hrun := run_build (P := Try.prog) w T (parts.map fun p => (p.1, a.eval p.2)) c' (by rw [Array.toList_map, hb]; exact hf')
  unfold execOp; rw [ho]; simp only [Sem.run_bind, hrun]; rfl
section
variable {o : Oper} {s : St}
theorem ok_build_ag {T : TypeId} {pl : List (Nat × Nat)} {z : List Value} {parts : Array (Nat × Operand)} {ys : List (Nat × AV)} {r : List AV} (ho : o.op = .build T parts) (hl : Lay T pl z) (hp : partsA s parts.toList = some ys) (hok : (ys.all fun p => partOK p.2) = true) (hf : fillA pl (z.map .v) ys = some r) :
    LOK Try.prog o s ⟨some (.ag r.length (fun i => r.getD i (.v undef))), [], []⟩ := by
  refine lok_val fun s2 hk W N β w a hs => ?_
  obtain ⟨c', hrun, hc⟩ := build_lay ho hl hp hok hf hk hs
  refine ⟨_, hrun, fun x hx => ?_⟩
  cases hx
  have get : ∀ i, i < r.length → ∃ y v, r[i]? = some y ∧ c'[i]? = some v ∧ y.ok s2.used ∧ v.oneCell' = true ∧ RV (notOwn W s2 β) W.w.heap.size β w y v := by
    intro i hi
    have h1 : r[i]? = some r[i] := List.getElem?_eq_getElem hi
    have h2 : c'.toList[i]? = some (c'.toList[i]'(by rw [hc.1]; exact hi)) := List.getElem?_eq_getElem _
    have h3 := hc.2 i _ _ h1 h2
    exact ⟨_, _, h1, by rw [← Array.getElem?_toList]; exact h2, h3⟩
  refine ⟨fun i hi => ?_, c', rfl, by have := hc.1; simpa using this, fun i hi => ?_⟩
  · obtain ⟨y, v, h1, _, h3, _⟩ := get i hi
    show (r.getD i (.v undef)).ok _
    rw [List.getD_eq_getElem?_getD, h1]; exact h3
  · obtain ⟨y, v, h1, h2, _, h4, h5⟩ := get i hi
    refine ⟨v, h2, h4, ?_⟩
    show RV _ _ _ _ (r.getD i (.v undef)) v
    rw [List.getD_eq_getElem?_getD, h1]; exact h5
def limbs? : AV → Option (List Nat)
  | .lb l => some l
  | .v (.slice none 0 0) => some []
  | _ => none
theorem limbs_rv {S : Nat → Prop} {B : Nat} {β : Nat → Nat → Value} {w : World} {y : AV} {l : List Nat} {v : Value} (h : limbs? y = some l) (hv : RV S B β w y v) : Lbs w v l := by
  unfold limbs? at h
  split at h
  · cases h; exact hv
  · cases h; have hv : v = .slice none 0 0 := hv; rw [hv]; exact dg_nil w
  · cases h
def raOf : List AV → Option RA
  | [.v (.bool b), x, y] => match limbs? x, limbs? y with
    | some n, some d => some (.raw b n d)
    | _, _ => none
  | _ => none
theorem lay_rt : Lay RT [(0, 1), (1, 1), (2, 1)] [.bool false, .slice none 0 0, .slice none 0 0] :=
  ⟨⟨fun i => ([(0, 1), (1, 1), (2, 1)] : List (Nat × Nat)).toArray[i]?, fun i p h => by simpa using h, fun parts => by kernel_rfl⟩, rfl⟩
theorem ok_build_rt {parts : Array (Nat × Operand)} {ys : List (Nat × AV)} {r : List AV} {q : RA} (ho : o.op = .build RT parts) (hp : partsA s parts.toList = some ys) (hok : (ys.all fun p => partOK p.2) = true) (hf : fillA [(0, 1), (1, 1), (2, 1)] [.v (.bool false), .v (.slice none 0 0), .v (.slice none 0 0)] ys = some r) (hq : raOf r = some q) :
    LOK Try.prog o s ⟨some (.ra q), [], []⟩ := by
  refine lok_val fun s2 hk W N β w a hs => ?_
  obtain ⟨c', hrun, hc⟩ := build_lay ho lay_rt hp hok hf hk hs
  refine ⟨_, hrun, fun x hx => ?_⟩
  cases hx
  unfold raOf at hq
  split at hq
  · rename_i b x y
    split at hq
    · rename_i n d h1 h2
      cases hq
      obtain ⟨c'⟩ := c'
      have hl : c'.length = 3 := hc.1
      match c', hl with
      | [v0, v1, v2], _ =>
        have a0 := (hc.2 0 _ _ rfl rfl).2.2
        have a1 := (hc.2 1 _ _ rfl rfl).2.2
        have a2 := (hc.2 2 _ _ rfl rfl).2.2
        have a0 : v0 = .bool b := a0
        subst a0
        exact ⟨trivial, b, v1, v2, rfl, rfl, limbs_rv h1 a1, limbs_rv h2 a2⟩
    · cases hq
  · cases hq
end
/-- Layouts. -/
def layT1 (T : TypeId) : Option (List (Nat × Nat) × List Value) :=
  bif memN T [26] then some ([(0, 1), (1, 1), (2, 1), (3, 1), (4, 1), (5, 1), (6, 1)], [.int .i64 0, .int .i64 0, .int .i64 0, .slice none 0 0, .slice none 0 0, .slice none 0 0, .slice none 0 0]) else
  bif memN T [] then some ([(0, 1), (1, 3)], [.slice none 0 0, .bool false, .slice none 0 0, .slice none 0 0]) else
  bif memN T [] then some ([(0, 1), (1, 1)], [.int .i64 0, .int .i64 0]) else none
theorem lay_ok1 {T : TypeId} {pl : List (Nat × Nat)} {z : List Value} (h : layT1 T = some (pl, z)) : Lay T pl z := by
  unfold layT1 at h
  cases e1 : memN T [26] with
  | true =>
    first | (cases e1; done) | skip
    all_goals (
      rw [e1, cond_true] at h; cases h
      have hT := memN_spec e1
      simp only [List.mem_cons, List.not_mem_nil, or_false] at hT <;>
      first
        | exact hT.elim
        | (subst hT; exact ⟨⟨fun i => ([(0, 1), (1, 1), (2, 1), (3, 1), (4, 1), (5, 1), (6, 1)] : List (Nat × Nat)).toArray[i]?, fun i p h => by simpa using h, fun parts => by kernel_rfl⟩, rfl⟩))
  | false =>
    (try rw [e1] at h); (try simp only [cond_false] at h)
    cases e2 : memN T [] with
    | true =>
      first | (cases e2; done) | skip
      all_goals (
        rw [e2, cond_true] at h; cases h
        have hT := memN_spec e2
        simp only [List.mem_cons, List.not_mem_nil, or_false] at hT <;>
        first
          | exact hT.elim
          | (subst hT; exact ⟨⟨fun i => ([(0, 1), (1, 3)] : List (Nat × Nat)).toArray[i]?, fun i p h => by simpa using h, fun parts => by kernel_rfl⟩, rfl⟩))
    | false =>
      (try rw [e2] at h); (try simp only [cond_false] at h)
      cases e3 : memN T [] with
      | true =>
        first | (cases e3; done) | skip
        all_goals (
          rw [e3, cond_true] at h; cases h
          have hT := memN_spec e3
          have two : ∀ (i : Nat) (p : Nat × Nat), ([(0, 1), (1, 1)] : List (Nat × Nat))[i]? = some p → (fun i => some (i * 1, 1)) i = some p := by
            intro i p h
            match i with
            | 0 => cases h; rfl
            | 1 => cases h; rfl
            | i + 2 => cases h
          simp only [List.mem_cons, List.not_mem_nil, or_false] at hT <;>
          first
            | exact hT.elim
            | (rcases hT with rfl | rfl <;> exact ⟨⟨fun i => some (i * 1, 1), two, fun parts => by kernel_rfl⟩, rfl⟩)
            | (subst hT; exact ⟨⟨fun i => some (i * 1, 1), two, fun parts => by kernel_rfl⟩, rfl⟩))
      | false => ((try rw [e3] at h); (try simp only [cond_false] at h); cases h)
def layT2 (T : TypeId) : Option (List (Nat × Nat) × List Value) :=
  bif memN T [92] then some ([(0, 1), (1, 1), (2, 1), (3, 1)], [.slice none 0 0, .slice none 0 0, .slice none 0 0, .slice none 0 0]) else
  bif memN T [96] then some ([(0, 1), (1, 1), (2, 1)], [.int .i64 0, .int .i64 0, .int .i64 0]) else
  bif memN T [98] then some ([(0, 1), (1, 1)], [.int .i64 0, .int .i64 0]) else none
theorem lay_ok2 {T : TypeId} {pl : List (Nat × Nat)} {z : List Value} (h : layT2 T = some (pl, z)) : Lay T pl z := by
  unfold layT2 at h
  cases e1 : memN T [92] with
  | true =>
    first | (cases e1; done) | skip
    all_goals (
      rw [e1, cond_true] at h; cases h
      have hT := memN_spec e1
      have four : ∀ (i : Nat) (p : Nat × Nat), ([(0, 1), (1, 1), (2, 1), (3, 1)] : List (Nat × Nat))[i]? = some p → (fun i => some (i * 1, 1)) i = some p := by
        intro i p h
        match i with
        | 0 => cases h; rfl
        | 1 => cases h; rfl
        | 2 => cases h; rfl
        | 3 => cases h; rfl
        | i + 4 => cases h
      simp only [List.mem_cons, List.not_mem_nil, or_false] at hT <;>
      first
        | exact hT.elim
        | (subst hT; exact ⟨⟨fun i => some (i * 1, 1), four, fun parts => by kernel_rfl⟩, rfl⟩))
  | false =>
    (try rw [e1] at h); (try simp only [cond_false] at h)
    cases e2 : memN T [96] with
    | true =>
      first | (cases e2; done) | skip
      all_goals (
        rw [e2, cond_true] at h; cases h
        have hT := memN_spec e2
        have three : ∀ (i : Nat) (p : Nat × Nat), ([(0, 1), (1, 1), (2, 1)] : List (Nat × Nat))[i]? = some p → (fun i => some (i * 1, 1)) i = some p := by
          intro i p h
          match i with
          | 0 => cases h; rfl
          | 1 => cases h; rfl
          | 2 => cases h; rfl
          | i + 3 => cases h
        simp only [List.mem_cons, List.not_mem_nil, or_false] at hT <;>
        first
          | exact hT.elim
          | (subst hT; exact ⟨⟨fun i => some (i * 1, 1), three, fun parts => by kernel_rfl⟩, rfl⟩))
    | false =>
      (try rw [e2] at h); (try simp only [cond_false] at h)
      cases e3 : memN T [98] with
      | true =>
        first | (cases e3; done) | skip
        all_goals (
          rw [e3, cond_true] at h; cases h
          have hT := memN_spec e3
          simp only [List.mem_cons, List.not_mem_nil, or_false] at hT <;>
          first
            | exact hT.elim
            | (rcases hT with rfl | rfl | rfl <;> exact ⟨⟨fun i => ([(0, 1), (1, 1)] : List (Nat × Nat)).toArray[i]?, fun i p h => by simpa using h, fun parts => by kernel_rfl⟩, rfl⟩)
            | (rcases hT with rfl | rfl <;> exact ⟨⟨fun i => ([(0, 1), (1, 1)] : List (Nat × Nat)).toArray[i]?, fun i p h => by simpa using h, fun parts => by kernel_rfl⟩, rfl⟩)
            | (subst hT; exact ⟨⟨fun i => ([(0, 1), (1, 1)] : List (Nat × Nat)).toArray[i]?, fun i p h => by simpa using h, fun parts => by kernel_rfl⟩, rfl⟩))
      | false => ((try rw [e3] at h); (try simp only [cond_false] at h); cases h)
def layT3 (T : TypeId) : Option (List (Nat × Nat) × List Value) :=
  bif memN T [] then some ([(0, 7), (7, 1)], [.int .i64 0, .int .i64 0, .int .i64 0, .slice none 0 0, .slice none 0 0, .slice none 0 0, .slice none 0 0, .slice none 0 0]) else
  bif memN T [64] then some ([(0, 1), (1, 1), (2, 1)], [.slice none 0 0, .slice none 0 0, .slice none 0 0]) else
  bif memN T [] then some ([(0, 1), (1, 1)], [.slice none 0 0, .int .i64 0]) else
  bif memN T [] then some ([(0, 1), (1, 1), (2, 1)], [.slice none 0 0, .int .i64 0, .int .i64 0]) else none
theorem lay_ok3 {T : TypeId} {pl : List (Nat × Nat)} {z : List Value} (h : layT3 T = some (pl, z)) : Lay T pl z := by
  unfold layT3 at h
  cases e1 : memN T [] with
  | true =>
    first | (cases e1; done) | skip
    all_goals (
      rw [e1, cond_true] at h; cases h
      have hT := memN_spec e1
      simp only [List.mem_cons, List.not_mem_nil, or_false] at hT <;>
      first
        | exact hT.elim
        | (subst hT; exact ⟨⟨fun i => ([(0, 7), (7, 1)] : List (Nat × Nat)).toArray[i]?, fun i p h => by simpa using h, fun parts => by kernel_rfl⟩, rfl⟩))
  | false =>
    (try rw [e1] at h); (try simp only [cond_false] at h)
    cases e2 : memN T [64] with
    | true =>
      first | (cases e2; done) | skip
      all_goals (
        rw [e2, cond_true] at h; cases h
        have hT := memN_spec e2
        simp only [List.mem_cons, List.not_mem_nil, or_false] at hT <;>
        first
          | exact hT.elim
          | (subst hT; exact ⟨⟨fun i => ([(0, 1), (1, 1), (2, 1)] : List (Nat × Nat)).toArray[i]?, fun i p h => by simpa using h, fun parts => by kernel_rfl⟩, rfl⟩))
    | false =>
      (try rw [e2] at h); (try simp only [cond_false] at h)
      cases e3 : memN T [] with
      | true =>
        first | (cases e3; done) | skip
        all_goals (
          rw [e3, cond_true] at h; cases h
          have hT := memN_spec e3
          simp only [List.mem_cons, List.not_mem_nil, or_false] at hT <;>
          first
            | exact hT.elim
            | (subst hT; exact ⟨⟨fun i => ([(0, 1), (1, 1)] : List (Nat × Nat)).toArray[i]?, fun i p h => by simpa using h, fun parts => by kernel_rfl⟩, rfl⟩))
      | false =>
        (try rw [e3] at h); (try simp only [cond_false] at h)
        cases e4 : memN T [] with
        | true =>
          first | (cases e4; done) | skip
          all_goals (
            rw [e4, cond_true] at h; cases h
            have hT := memN_spec e4
            simp only [List.mem_cons, List.not_mem_nil, or_false] at hT <;>
            first
              | exact hT.elim
              | (subst hT; exact ⟨⟨fun i => ([(0, 1), (1, 1), (2, 1)] : List (Nat × Nat)).toArray[i]?, fun i p h => by simpa using h, fun parts => by kernel_rfl⟩, rfl⟩))
        | false => ((try rw [e4] at h); (try simp only [cond_false] at h); cases h)
def layT (T : TypeId) : Option (List (Nat × Nat) × List Value) := match layT1 T with
  | some p => some p
  | none => (match layT2 T with | some p => some p | none => layT3 T)
theorem lay_ok {T : TypeId} {pl : List (Nat × Nat)} {z : List Value} (h : layT T = some (pl, z)) : Lay T pl z := by
  unfold layT at h
  split at h
  · rename_i e; cases h; exact lay_ok1 e
  · split at h
    · rename_i e; cases h; exact lay_ok2 e
    · exact lay_ok3 h
def evBuild (s : St) (T : TypeId) (l : List (Nat × Operand)) : Ev :=
  match partsA s l with
  | some ys => bif Nat.beq T RT then (match fillA [(0, 1), (1, 1), (2, 1)] [.v (.bool false), .v (.slice none 0 0), .v (.slice none 0 0)] ys with
      | some r => (match raOf r with | some q => out (.ra q) ((ys.all fun p => partOK p.2) = true) [] | none => none)
      | none => none) else
    (match layT T with
      | some (pl, z) => (match fillA pl (z.map .v) ys with
        | some r => out (.ag r.length (fun i => r.getD i (.v undef))) ((ys.all fun p => partOK p.2) = true) []
        | none => none)
      | none => none)
  | none => none
theorem evBuild_ok {o : Oper} {s : St} {D : Dsc} {c : Prop} {T : TypeId} {parts : Array (Nat × Operand)} (ho : o.op = .build T parts) (h : evBuild s T parts.toList = some (D, c)) (hc : c) : LOK Try.prog o s D := by
  unfold evBuild at h
  split at h
  · rename_i e1
    cases e : Nat.beq T RT with
    | true =>
      rw [e, cond_true] at h; have hT := Nat.eq_of_beq_eq_true e; subst hT
      split at h
      · rename_i e2
        split at h
        · rename_i e3; obtain ⟨rfl, rfl⟩ := out_inj h; exact ok_build_rt ho e1 hc e2 e3
        · cases h
      · cases h
    | false =>
      rw [e, cond_false] at h
      split at h
      · rename_i e2
        split at h
        · rename_i e3; obtain ⟨rfl, rfl⟩ := out_inj h; exact ok_build_ag ho (lay_ok e2) e1 hc e3
        · cases h
      · cases h
  · cases h
theorem st_build {ops : Array Oper} {l : List Oper} {s : St} {acc : List Fp} {K : St → List Fp → Prop} {c : Prop} {d : Option Tmp} {r : Option AV} {upd : List (Nat × Option Fam)} {rd : List Nat} {ty : TypeId} {ps : String} {aft : Array Edge} {T : TypeId} {parts : Array (Nat × Operand)} (h : evBuild s T parts.toList = some (⟨r, upd, rd⟩, c)) (hc : c) (k : AOps Try.prog ops l (nxt s d r upd) ((rd, upd.map (·.1)) :: acc) K) : AOps Try.prog ops (⟨d, .build T parts, ty, ps, aft, none⟩ :: l) s acc K :=
  st_lok (evBuild_ok rfl h hc) k
end Go.Proofs.Ytddkocidfhaofaa.AM
/- The document's rational numbers: walks: one, Zero, size, Make, Of. -/
namespace Go.Proofs.Ytddkocidfhaofaa.V
open Go Go.RowKit Go.Proofs.Ytddkocidfhaofaa.PN
set_option linter.unusedVariables false
set_option linter.unusedSimpArgs false
theorem r_cmp_v {w : World} {va vb : Value} {a b : Nat} [ha : NatAt w va a] [hb : NatAt w vb b] (hn : size a ≤ 4398046511103) (hm : size b ≤ 4398046511103) : Calls Try.prog 24 #[va, vb] w fun e w' => e = .returned (.int .i64 (cmpI a b)) ∧ Kept w w' := by
  obtain ⟨A, c, rfl, hc, h1⟩ := ha.at
  obtain ⟨A', c', rfl, hc', h2⟩ := hb.at
  exact r_cmp A c a A' c' b w h1 h2 (by omega) (by omega)
theorem dg_one (w : World) : Dg (w.alloc (.cells #[.int .u32 1] U32)) (fun k => w.heap.size ≤ k) (.slice (some ⟨w.heap.size, 0, none⟩) 1 1) 1 (size 1) := by
  rw [size_one]
  refine ⟨_, _, rfl, Nat.le_refl _, fun i hi => ⟨_, _, _, rfl, Nat.le_refl _, row_new w _ _, ?_⟩⟩
  rw [show i = 0 by omega]; rfl
set_option maxHeartbeats 1000000 in
theorem s_one (w : World) : Calls Try.prog 30 #[] w (MadeNat w 1) := by
  go_enter Try.func30, Try.ntmps30
  go_wp2
  go_ret
  exact ⟨_, rfl, dg_one w, Kept.alloc w _⟩
set_option maxHeartbeats 1000000 in
theorem s_zero (w : World) : Calls Try.prog 51 #[] w (MadeRat w 0) := by
  go_enter Try.func51, Try.ntmps51
  go_wp2_with (go_at_call 30; refine (s_one _).mono ?_; rintro e w1 ⟨v1, rfl, hv1, hk1⟩; obtain ⟨A1, c1, rfl, _, _⟩ := hv1.at; have HV1 := Lib.hid hv1; have HK1 := Lib.hid hk1; obtain ⟨hc1, hf1⟩ := bcell hk1; clear hv1 hk1)
  exact ret_rat rfl rfl rfl (HK1.out.row (row_new w _ _)) (Nat.le_refl _) ((Kept.alloc w _).then HK1.out) ⟨rfl, Dg.nil _ _ _, HV1.out.any⟩
set_option maxHeartbeats 1000000 in
theorem s_size (x : Int) (w : World) (h : -9223372036854775808 ≤ x) (h' : x < 9223372036854775808) : Calls Try.prog 35 #[.int .i64 x] w fun e w' => e = .returned (.int .u64 (x.natAbs : Int)) ∧ w = w' := by
  rcases Int.lt_or_le x 0 with h0 | h0
  · have e1 : IntKind.u64.wrap (-(IntKind.u64.wrap x)) = (x.natAbs : Int) := by rw [u64_wrap, u64_wrap]; omega
    have e2 : IntKind.u64.wrap (0 - (IntKind.u64.wrap x)) = (x.natAbs : Int) := by rw [u64_wrap, u64_wrap]; omega
    have e3 : decide (x < 0) = true := by simp; omega
    generalize x.natAbs = y at *
    go_enter Try.func35, Try.ntmps35
    go_wp2
    go_ret
    exact ⟨rfl, rfl⟩
  · have e1 : IntKind.u64.wrap x = (x.natAbs : Int) := by rw [u64_wrap]; omega
    have e3 : decide (x < 0) = false := by simp; omega
    generalize x.natAbs = y at *
    go_enter Try.func35, Try.ntmps35
    go_wp2
    go_ret
    exact ⟨rfl, rfl⟩
end Go.Proofs.Ytddkocidfhaofaa.V
/- The document's rational numbers: walks: Make. -/
namespace Go.Proofs.Ytddkocidfhaofaa.V
open Go Go.RowKit Go.Proofs.Ytddkocidfhaofaa.PN
set_option linter.unusedVariables false
set_option linter.unusedSimpArgs false
set_option maxRecDepth 100000 in
set_option maxHeartbeats 4000000 in
theorem s_make {w : World} {neg : Bool} {vn vd : Value} {n d : Nat} [hn : NatAt w vn n] [hd : NatAt w vd d] (hs : size n ≤ 32000) (hs' : size d ≤ 32000) (hd0 : d ≠ 0) :
    Calls Try.prog 33 #[.bool neg, vn, vd] w (MadeRatE w (mk neg n d) 0) := by
  obtain ⟨i0, hi, hz0, hz1, hz2⟩ := info_parts info_u32
  obtain ⟨An, cn, rfl, hcn, han⟩ := hn.at
  obtain ⟨Ad, cd, rfl, hcd, had⟩ := hd.at
  have HN := Lib.hid (NatS.lift hn.out); have HD := Lib.hid (NatS.lift hd.out); have HAn := Lib.hid han
  clear han had hn hd
  have hz : ((size d : Int) == 0) = false := by
    have := size_pos (s := d) (by omega)
    simp; omega
  have b3 : size 1 ≤ 4398046511103 := by decide
  rcases Nat.eq_zero_or_pos n with h | h
  · subst h
    have hz' : ((size 0 : Int) == 0) = true := by rw [size_zero]; rfl
    rw [mk_zero]
    go_enter Try.func33, Try.ntmps33
    go_wp2_with (go_at_call 51; refine (s_zero _).mono ?_; rintro e w1 ⟨s1, vn1, vd1, rfl, hq1, hk1⟩; obtain ⟨An1, cn1, rfl, _, _⟩ := hq1.2.1.at; obtain ⟨Ad1, cd1, rfl, _, _⟩ := hq1.2.2.at; have HQ1 := Lib.hid hq1; have HK1 := Lib.hid hk1; obtain ⟨hc1, hf1⟩ := bcell hk1; clear hq1 hk1)
    exact ret_rat2 rfl rfl rfl rfl (HK1.out.row (row_new w _ _)) (Nat.le_refl _) ((Kept.alloc w _).then HK1.out) HQ1.out
  have hz' : ((size n : Int) == 0) = false := by
    have := size_pos (s := n) (by omega)
    simp; omega
  by_cases hd1 : d = 1
  · subst hd1
    have hc1 : (cmpI 1 1 == 0) = true := by decide
    have hq : nm (mk neg n 1) = n := by rw [mk_num neg (by decide), Nat.gcd_one_right, Nat.div_one]
    have hq2 : (mk neg n 1).den = 1 := by rw [mk_den neg (by decide), Nat.gcd_one_right, Nat.div_one]
    have hq3 : ng (mk neg n 1) = neg := mk_ng neg (by omega) (by decide)
    have Q1 := Lib.hid hq; have Q2 := Lib.hid hq2; have Q3 := Lib.hid hq3
    have hn0 : 0 < size n := size_pos (by omega)
    obtain ⟨b0, o0, rfl, _⟩ := HAn.out 0 hn0
    clear hq hq2 hq3
    have b4 : ((size 1 : Int) == 0) = false := by decide
    go_enter Try.func33, Try.ntmps33
    have iN := HN.out; have iD := HD.out
    go_wp2_with (first
      | (at_builtin; (refine wpList_append_own _ rfl (.tmp 28) (.tmp 29) 29 rfl w2.heap.size U32 i0 (.int .u32 0) 1 4 Try.underlying29 hi hz0 hz1 hz2 rfl (by decide) _ 0 [] rfl (World.ownsRow_made w2 #[] 0 (Nat.le_refl _) (by decide) rfl) ⟨b0, o0, none⟩ (size n) cn (lim n (size n)) rfl (by rw [lim_length, Nat.mul_one]) (At.cells (HAn.out.kept (Kept.then (Kept.alloc w _) (Kept.then HK1.out (Kept.then HK2.out (Kept.alloc _ _)))))) (lim_one n (size n)) (by unfold maxLen; omega) (by omega) (Nat.le_of_lt (by simp)) ?_); (intro v3 w3 ho3 hg3 _; have hv3 := Dg.of_own (s := n) (n := size n) ho3 (by omega) rfl; have HK3 : Hid (Kept w2 w3) := (Kept.alloc w2 _).grown hg3 (fun k hk => by simp [Value.ownBlock, Act.eval] at hk; omega); obtain ⟨A3, c3, rfl, _, _⟩ := hv3.at; have HV3 := Lib.hid hv3.any; clear ho3 hg3 hv3))
      | (go_at_call 30; have hx9 := HK3; refine Calls.mono (s_one _) ?_; rintro e w4 ⟨v4, rfl, hv4, hk4⟩; obtain ⟨A4, c4, rfl, _, _⟩ := hv4.at; have HV4 := Lib.hid hv4.any; have hr4 := Kept.row hk4 (Kept.row HK3.out (Kept.row HK2.out (Kept.row HK1.out (row_new w _ _)))); obtain ⟨d0, d1, d2, e0, e1, e2⟩ := three hr4; have HR4 := Lib.hid hr4; have HK4 := Lib.hid hk4; clear hv4 hk4 hr4)
      | (go_at_call 24; refine Calls.mono (r_cmp_v (a := 1) (b := 1) b3 b3) ?_; rintro e w2 ⟨rfl, hk2⟩; have HK2 := Lib.hid hk2; clear hk2)
      | (go_at_call 30; refine Calls.mono (s_one _) ?_; rintro e w1 ⟨v1, rfl, hv1, hk1⟩; obtain ⟨A1, c1, rfl, _, _⟩ := hv1.at; have i1 := NatS.lift hv1; have u1 := Kept.chain hk1; have HV1 := Lib.hid hv1; have HK1 := Lib.hid hk1; clear hv1 hk1))
    refine ret_rat2 rfl rfl rfl rfl HR4.out (Nat.le_refl _) (Kept.then (Kept.alloc w _) (Kept.then HK1.out (Kept.then HK2.out (Kept.then HK3.out HK4.out)))) ⟨Q3.out.symm, ?_, ?_⟩
    · unfold NatS; rw [Q1.out]; exact Dg.up HV3.out (Up.of_kept HK4.out)
    · unfold NatS; rw [Q2.out]; exact HV4.out
  · have hcd1 : (cmpI d 1 == 0) = false := by
      have h1 := @cmp_zero d 1
      simp only [beq_eq_false_iff_ne, ne_eq]
      intro h2; exact hd1 (h1.1 h2)
    have hgs : size (Nat.gcd n d) ≤ 32000 := Nat.le_trans (size_le_of_le (Nat.gcd_le_left d h)) hs
    have hg0 : Nat.gcd n d ≠ 0 := Nat.ne_of_gt (Nat.gcd_pos_of_pos_left d h)
    have Q1 := Lib.hid (mk_num (n := n) neg hd0); have Q2 := Lib.hid (mk_den (n := n) neg hd0); have Q3 := Lib.hid (mk_ng (n := n) neg (Nat.ne_of_gt h) hd0)
    go_enter Try.func33, Try.ntmps33
    have iN := HN.out; have iD := HD.out
    go_wp2_with (first
      | (go_at_call 24; refine Calls.mono (r_cmp_v (a := d) (b := 1) (by omega) b3) ?_; rintro e w2 ⟨rfl, hk2⟩; have u2 := Kept.chain hk2; have HK2 := Lib.hid hk2; clear hk2)
      | (go_at_call 30; refine Calls.mono (s_one _) ?_; rintro e w1 ⟨v1, rfl, hv1, hk1⟩; have i1 := NatS.lift hv1; have u1 := Kept.chain hk1; have HK1 := Lib.hid hk1; clear hv1 hk1)
      | (go_at_call 52; refine Calls.mono (r_gcd (a := n) (b := d) hs hs') ?_; rintro e w3 ⟨v3, rfl, hv3, hk3⟩; have i3 := NatS.lift hv3; have u3 := Kept.chain hk3; have HK3 := Lib.hid hk3; clear hv3 hk3)
      | (go_at_call 53; refine Calls.mono (r_div (a := n) (b := Nat.gcd n d) hs hgs hg0) ?_; rintro e w4 ⟨vq4, vr4, rfl, hq4, hr4, hk4⟩; obtain ⟨A4, c4, rfl, _, _⟩ := hq4.at; obtain ⟨B4, b4, rfl, _, _⟩ := hr4.at; have u4 := Kept.chain hk4; have HV4 := Lib.hid hq4; have HK4 := Lib.hid hk4; clear hq4 hr4 hk4)
      | (go_at_call 53; refine Calls.mono (r_div (a := d) (b := Nat.gcd n d) hs' hgs hg0) ?_; rintro e w5 ⟨vq5, vr5, rfl, hq5, hr5, hk5⟩; obtain ⟨A5, c5, rfl, _, _⟩ := hq5.at; obtain ⟨B5, b5, rfl, _, _⟩ := hr5.at; have HV5 := Lib.hid hq5; have hr9 := Kept.row hk5 (Kept.row HK4.out (Kept.row HK3.out (Kept.row HK2.out (Kept.row HK1.out (row_new w _ _))))); obtain ⟨d0, d1, d2, e0, e1, e2⟩ := three hr9; have HR9 := Lib.hid hr9; have HK5 := Lib.hid hk5; clear hq5 hr5 hk5 hr9))
    refine ret_rat2 rfl rfl rfl rfl HR9.out (Nat.le_refl _) (Kept.then (Kept.alloc w _) (Kept.then HK1.out (Kept.then HK2.out (Kept.then HK3.out (Kept.then HK4.out HK5.out))))) ⟨Q3.out.symm, ?_, ?_⟩
    · unfold NatS; rw [Q1.out]; exact Dg.up HV4.out (Up.of_kept HK5.out)
    · unfold NatS; rw [Q2.out]; exact HV5.out
end Go.Proofs.Ytddkocidfhaofaa.V
/- The document's rational numbers: walks: Of, Int, made. -/
namespace Go.Proofs.Ytddkocidfhaofaa.V
open Go Go.RowKit Go.Proofs.Ytddkocidfhaofaa.PN
set_option linter.unusedVariables false
set_option linter.unusedSimpArgs false
theorem size_u64 {x : Nat} (h : x < 18446744073709551616) : size x ≤ 2 := (lt_iff x 2).1 (by simpa only [B] using h)
theorem ret_rat_a {fn : Func} {p : Tmp} {a : Act} {w w1 : World} {g : Nat} {x y z : Value} {s : Bool} {vn vd : Value} {q : Rat} {o : Obj} (h : fn.results = #[.cell p RT]) (hp : a.tmps.getD p undef = .pointer (some ⟨g, 0, none⟩)) (hd : a.defers = [])
    (r : Row? w1 g #[x, y, z] RT) (hg : w.heap.size ≤ g) (hk : Kept w w1) (hq : RatS w1 (fun _ => True) s vn vd q) : bodyPost Try.prog fn (MadeRat w q) .ret a ((set3 w1 g s vn vd).alloc o) :=
  ret_box h hp ((Kept.alloc _ o).row (row_set3 r s vn vd)) hd ⟨s, vn, vd, rfl, (hq.up (up_set3 (Up.refl w1) r s vn vd)).up (Up.of_kept (Kept.alloc _ o)), Kept.then (kept_set3 hk hg s vn vd) (Kept.alloc _ o)⟩
set_option maxHeartbeats 2000000 in
theorem s_of (n d : Int) (w : World) (h1 : -9223372036854775808 ≤ n) (h2 : n < 9223372036854775808) (h3 : -9223372036854775808 ≤ d) (h4 : d < 9223372036854775808) (hd : d ≠ 0) :
    Calls Try.prog 18 #[.int .i64 n, .int .i64 d] w (MadeRatE w (mk (decide (n < 0) != decide (d < 0)) n.natAbs d.natAbs) 0) := by
  have hx : n.natAbs < 18446744073709551616 := by omega
  have hy : d.natAbs < 18446744073709551616 := by omega
  have z1 := size_u64 hx; have z2 := size_u64 hy
  have hy0 : d.natAbs ≠ 0 := by omega
  have C1 := Lib.hid (fun w1 => s_size n w1 h1 h2); have C2 := Lib.hid (fun w1 => s_size d w1 h3 h4)
  rw [bne_flip]
  generalize n.natAbs = x at *
  generalize d.natAbs = y at *
  obtain ⟨b1, hb1⟩ : ∃ b, decide (n < 0) = b := ⟨_, rfl⟩
  obtain ⟨b2, hb2⟩ : ∃ b, decide (d < 0) = b := ⟨_, rfl⟩
  rw [hb1, hb2]
  clear h1 h2 h3 h4 hd
  go_enter Try.func18, Try.ntmps18
  go_wp2_with (first
    | (go_at_call 35; first | ((with_reducible refine (C1.out _).mono ?_); rintro e w1 ⟨rfl, rfl⟩) | ((with_reducible refine (C2.out _).mono ?_); rintro e w1 ⟨rfl, rfl⟩))
    | (go_at_call 34; first | ((with_reducible refine (r_of x _ hx).mono ?_); rintro e w2 ⟨v2, rfl, hv2, hk2⟩; have i2 := NatS.lift hv2; have u2 := Kept.chain hk2; have HK2 := Lib.hid hk2; clear hv2 hk2) | ((with_reducible refine (r_of y _ hy).mono ?_); rintro e w3 ⟨v3, rfl, hv3, hk3⟩; have i3 := NatS.lift hv3; have u3 := Kept.chain hk3; have HK3 := Lib.hid hk3; clear hv3 hk3))
    | (go_at_call 33; refine Calls.mono (s_make (n := x) (d := y) (by omega) (by omega) hy0) ?_; rintro e w4 ⟨s4, vn4, vd4, rfl, hq4, hk4⟩; obtain ⟨An4, cn4, rfl, _, _⟩ := hq4.2.1.at; obtain ⟨Ad4, cd4, rfl, _, _⟩ := hq4.2.2.at; have hr4 := Kept.row hk4 (Kept.row HK3.out (Kept.row HK2.out (row_new w _ _))); obtain ⟨d0, d1, d2, e0, e1, e2⟩ := three hr4; have HR4 := Lib.hid hr4; have HQ4 := Lib.hid hq4; have HK4 := Lib.hid hk4; clear hq4 hk4 hr4))
  exact ret_rat2 rfl rfl rfl rfl HR4.out (Nat.le_refl _) (Kept.then (Kept.alloc w _) (Kept.then HK2.out (Kept.then HK3.out HK4.out))) HQ4.out
theorem mk_int (n : Int) : mk (decide (n < 0) != decide ((1 : Int) < 0)) n.natAbs (1 : Int).natAbs = (n : Rat) := by
  have h : (decide (n < 0) != decide ((1 : Int) < 0)) = decide (n < 0) := by simp
  rw [h]
  unfold mk sg
  by_cases h0 : n < 0
  · rw [if_pos (by simpa using h0), show -(n.natAbs : Int) = n by omega]
    simp [Rat.mkRat_one]
  · rw [if_neg (by simpa using h0), show (n.natAbs : Int) = n by omega]
    simp [Rat.mkRat_one]
set_option maxHeartbeats 2000000 in
theorem s_int (n : Int) (w : World) (h1 : -9223372036854775808 ≤ n) (h2 : n < 9223372036854775808) :
    Calls Try.prog 15 #[.int .i64 n] w (MadeRat w (n : Rat)) := by
  have C1 := Lib.hid (fun w1 => s_of n 1 w1 h1 h2 (by decide) (by decide) (by decide))
  rw [mk_int] at C1
  clear h1 h2
  generalize (n : Rat) = q at *
  go_enter Try.func15, Try.ntmps15
  go_wp2_with (go_at_call 18; refine (C1.out _).mono ?_; rintro e w1 ⟨s1, vn1, vd1, rfl, hq1, hk1⟩; obtain ⟨An1, cn1, rfl, _, _⟩ := hq1.2.1.at; obtain ⟨Ad1, cd1, rfl, _, _⟩ := hq1.2.2.at; have hr1 := Kept.row hk1 (row_new w _ _); obtain ⟨d0, d1, d2, e0, e1, e2⟩ := three hr1; have z1 := Row?.lt hr1; have HR1 := Lib.hid hr1; have HQ1 := Lib.hid hq1; have HK1 := Lib.hid hk1; clear hq1 hk1 hr1)
  exact ret_rat_a rfl rfl rfl HR1.out (Nat.le_refl _) (Kept.then (Kept.alloc w _) HK1.out) HQ1.out
end Go.Proofs.Ytddkocidfhaofaa.V
/- The document's rational numbers: walks: products, nought. -/
namespace Go.Proofs.Ytddkocidfhaofaa.V
open Go Go.RowKit Go.Proofs.Ytddkocidfhaofaa.PN
set_option linter.unusedVariables false
set_option linter.unusedSimpArgs false
end Go.Proofs.Ytddkocidfhaofaa.V
/- The document's rational numbers: walks: the same. -/
namespace Go.Proofs.Ytddkocidfhaofaa.V
open Go Go.RowKit Go.Proofs.Ytddkocidfhaofaa.PN
set_option linter.unusedVariables false
set_option linter.unusedSimpArgs false
set_option maxHeartbeats 2000000 in
theorem s_same {w : World} {s s' : Bool} {vn vd vn' vd' : Value} {p q : Rat} [hp : RatAt w s vn vd p] [hq : RatAt w s' vn' vd' q] (hs : wt p ≤ 1000000000000) (hs' : wt q ≤ 1000000000000) :
    Calls Try.prog 13 #[.agg #[.bool s, vn, vd], .agg #[.bool s', vn', vd']] w fun e w' => e = .returned (.bool (decide (p = q))) ∧ Kept w w' := by
  obtain ⟨rfl, hn, hd⟩ := hp.out
  obtain ⟨rfl, hn', hd'⟩ := hq.out
  obtain ⟨An, cn, rfl, _, _⟩ := hn.at
  obtain ⟨Ad, cd, rfl, _, _⟩ := hd.at
  obtain ⟨An', cn', rfl, _, _⟩ := hn'.at
  obtain ⟨Ad', cd', rfl, _, _⟩ := hd'.at
  have HN := Lib.hid (NatS.lift hn); have HD := Lib.hid (NatS.lift hd); have HN' := Lib.hid (NatS.lift hn'); have HD' := Lib.hid (NatS.lift hd')
  clear hn hd hn' hd' hp hq
  have b1 := wt_num p; have b2 := wt_den p; have b3 := wt_num q; have b4 := wt_den q
  have hcz : ∀ x y : Nat, (cmpI x y == 0) = decide (x = y) := fun x y => by
    by_cases h : x = y
    · subst h; rw [cmp_eq]; simp
    · rw [decide_eq_false h]
      simp only [beq_eq_false_iff_ne, ne_eq]
      intro h2; exact h (cmp_zero.1 h2)
  by_cases g1 : ng p = ng q
  · have e1 : (ng p == ng q) = true := by rw [g1]; simp
    by_cases g2 : nm p = nm q
    · have e2 : (cmpI (nm p) (nm q) == 0) = true := by rw [hcz]; exact decide_eq_true g2
      have e3 : (cmpI p.den q.den == 0) = decide (p = q) := by
        rw [hcz]
        by_cases g3 : p.den = q.den
        · rw [decide_eq_true g3, decide_eq_true (rat_ext g1 g2 g3)]
        · rw [decide_eq_false g3, decide_eq_false (fun h => g3 (by rw [h]))]
      generalize decide (p = q) = bb at *
      clear g1 g2 hcz
      go_enter Try.func13, Try.ntmps13
      have iN := HN.out; have iD := HD.out; have iN' := HN'.out; have iD' := HD'.out
      go_wp2_with (go_at_call 24; first | (refine Calls.mono (r_cmp_v (a := nm p) (b := nm q) (by omega) (by omega)) ?_; rintro e w1 ⟨rfl, hk1⟩; have u1 := Kept.chain hk1; have h1 := Kept.row hk1 (Kept.row (Kept.alloc _ _) (row_new w _ _)); have h2 := Kept.row hk1 (row_newAt (g := w.heap.size + 1) _ _ _ (by simp)); obtain ⟨c0, c1, c2, _, _, _⟩ := three h1; obtain ⟨d0, d1, d2, _, _, _⟩ := three h2; have HK1 := Lib.hid hk1; clear hk1 h1 h2) | (refine Calls.mono (r_cmp_v (a := p.den) (b := q.den) (by omega) (by omega)) ?_; rintro e w2 ⟨rfl, hk2⟩; have HK2 := Lib.hid hk2; clear hk2))
      go_ret
      exact ⟨rfl, Kept.then (Kept.then (Kept.alloc _ _) (Kept.alloc _ _)) (Kept.then HK1.out HK2.out)⟩
    · have e2 : (cmpI (nm p) (nm q) == 0) = false := by rw [hcz]; exact decide_eq_false g2
      rw [decide_eq_false (fun h : p = q => g2 (by rw [h]))]
      clear g1 g2 hcz
      go_enter Try.func13, Try.ntmps13
      have iN := HN.out; have iD := HD.out; have iN' := HN'.out; have iD' := HD'.out
      go_wp2_with (go_at_call 24; (refine Calls.mono (r_cmp_v (a := nm p) (b := nm q) (by omega) (by omega)) ?_; rintro e w1 ⟨rfl, hk1⟩; have HK1 := Lib.hid hk1; clear hk1))
      go_ret
      exact ⟨rfl, Kept.then (Kept.then (Kept.alloc _ _) (Kept.alloc _ _)) HK1.out⟩
  · have e1 : (ng p == ng q) = false := by simpa using g1
    rw [decide_eq_false (fun h : p = q => g1 (by rw [h]))]
    clear g1 hcz
    go_enter Try.func13, Try.ntmps13
    go_wp2
    go_ret
    exact ⟨rfl, Kept.then (Kept.alloc _ _) (Kept.alloc _ _)⟩
end Go.Proofs.Ytddkocidfhaofaa.V
/- The document's rational numbers: walks: quotients. -/
namespace Go.Proofs.Ytddkocidfhaofaa.V
open Go Go.RowKit Go.Proofs.Ytddkocidfhaofaa.PN
set_option linter.unusedVariables false
set_option linter.unusedSimpArgs false
end Go.Proofs.Ytddkocidfhaofaa.V
/- The document's rational numbers: walks: sums. -/
namespace Go.Proofs.Ytddkocidfhaofaa.V
open Go Go.RowKit Go.Proofs.Ytddkocidfhaofaa.PN
set_option linter.unusedVariables false
set_option linter.unusedSimpArgs false
end Go.Proofs.Ytddkocidfhaofaa.V

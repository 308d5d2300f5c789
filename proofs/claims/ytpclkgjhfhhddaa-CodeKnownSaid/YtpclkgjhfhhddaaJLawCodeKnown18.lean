/- Joined texts, 18: AmLi CdA CdB CdC CdP CdQ MkD. -/
import Derived.Test.YtpclkgjhfhhddaaJLawCodeKnown16
import Derived.Test.YtpclkgjhfhhddaaJLawCodeKnown17
set_option linter.unusedVariables false
set_option linter.unusedSimpArgs false
/- Own limbs: made, laid behind, handed out. -/
namespace Go.Proofs.Ytpclkgjhfhhddaa.AM
open Go Go.RowKit Go.Proofs.Ytpclkgjhfhhddaa.PN Go.Proofs.Ytpclkgjhfhhddaa.V
set_option linter.unusedVariables false
set_option linter.unusedSimpArgs false
/-- It holds no limbs, and speaks not of family g. -/
def freeG (g : Nat) : AV → Bool
  | .v _ | .seq _ _ => true
  | .own q _ | .ptr q _ _ => !(Nat.beq q g)
  | _ => false
theorem freeG_rv {S S' : Nat → Prop} {B : Nat} {β β' : Nat → Nat → Value} {w w' : World} {O : Nat → Prop} {g : Nat} (hblk : ∀ i, i < w.heap.size → ¬ O i → w'.heap[i]? = w.heap[i]?) (hS : ∀ b, S b → b < w.heap.size → ¬ O b ∧ S' b) (hβ : ∀ q r, q ≠ g → β' q r = β q r) {x : AV} {v : Value} (hf : freeG g x = true) (h : RV S B β w x v) : RV S' B β' w' x v := by
  cases x <;> first | (cases hf; done) | skip
  case v y => exact h
  case seq k l =>
    obtain ⟨A, c, e1, e2, e3, e4⟩ := h
    refine ⟨A, c, e1, e2, e3, fun i hi => ?_⟩
    obtain ⟨p, a1, a2, a3⟩ := e4 i hi
    have hb : (p.add i).block = p.block := by unfold Addr.add; split <;> rfl
    have hlt := World.block_lt_of_cell? _ _ a3
    rw [hb] at hlt
    obtain ⟨q1, q2⟩ := hS _ a2 hlt
    exact ⟨p, a1, q2, (World.cell?_of_block (by rw [hb]; exact hblk _ hlt q1)).trans a3⟩
  case own q r =>
    have hne : q ≠ g := fun e => by simp [freeG, e] at hf
    exact ⟨by rw [hβ q r hne]; exact h.1, h.2⟩
  case ptr q r i =>
    have hne : q ≠ g := fun e => by simp [freeG, e] at hf
    obtain ⟨b, e1, e2⟩ := h
    exact ⟨b, by rw [hβ q r hne]; exact e1, e2⟩
/-- The rest of memory holds no limbs. -/
def FreeH (g : Nat) : List (Nat × Fam) → Prop
  | [] => True
  | (q, (n, F)) :: l => (q ≠ g ∧ ∀ r, r < n → ∃ T m f, F r = .ones T m f ∧ ∀ i, i < m → freeG g (f i) = true) ∧ FreeH g l
theorem FreeH.get {g : Nat} : ∀ {h : List (Nat × Fam)}, FreeH g h → ∀ {q n : Nat} {F : Nat → Blk}, lkp h q = some (n, F) → q ≠ g ∧ ∀ r, r < n → ∃ T m f, F r = .ones T m f ∧ ∀ i, i < m → freeG g (f i) = true
  | [], _, q, n, F, h => by cases h
  | (k, (m, G)) :: l, hf, q, n, F, h => by
    unfold lkp at h
    cases e : Nat.beq q k with
    | true =>
      rw [e, cond_true] at h
      cases h
      have := Nat.eq_of_beq_eq_true e
      subst this
      exact hf.1
    | false => rw [e, cond_false] at h; exact hf.2.get h
/-- What is kept of a state. -/
def SubE (g : Nat) (e0 : List (Nat × AV)) : List (Nat × AV) → Prop
  | [] => True
  | (t, x) :: l => (lkp e0 t = some x ∧ freeG g x = true) ∧ SubE g e0 l
theorem SubE.get {g : Nat} {e0 : List (Nat × AV)} : ∀ {e : List (Nat × AV)}, SubE g e0 e → ∀ {t : Nat} {x : AV}, lkp e t = some x → lkp e0 t = some x ∧ freeG g x = true
  | [], _, t, x, h => by cases h
  | (k, y) :: l, hf, t, x, h => by
    unfold lkp at h
    cases e : Nat.beq t k with
    | true =>
      rw [e, cond_true] at h
      cases h
      rw [Nat.eq_of_beq_eq_true e]
      exact hf.1
    | false => rw [e, cond_false] at h; exact hf.2.get h
theorem lkp_if {α : Type} {k : Nat} {x : α} {l : List (Nat × α)} {t : Nat} : lkp ((k, x) :: l) t = if t = k then some x else lkp l t := by
  show (bif Nat.beq t k then some x else lkp l t) = _
  by_cases h : t = k
  · subst h; rw [Nat.beq_refl, if_pos rfl]; rfl
  · have : Nat.beq t k = false := by cases e : Nat.beq t k with | false => rfl | true => exact absurd (Nat.eq_of_beq_eq_true e) h
    rw [this, if_neg h]
    rfl
/-- Own limbs have turned; nothing else that is told has. -/
theorem Sim.lims {W : Wd} {N : Nat} {β : Nat → Nat → Value} {w w' : World} {a : Act} {e0 e : List (Nat × AV)} {h : List (Nat × Fam)} {g n m : Nat} {f f' : Nat → Nat} {v' : Value} (hs : Sim W N β w a (stl e0 ((g, (1, fun _ => .lims n f)) :: h))) (he : SubE g e0 e) (hh : FreeH g h) (hgx : fx3 g = false)
    (hk : Kept W.w w') (hsz : w.heap.size ≤ w'.heap.size) (hblk : ∀ i, i < w.heap.size → ¬ ub (β g 0) = some i → w'.heap[i]? = w.heap[i]?) (hv : ∀ k, ub v' = some k → ub (β g 0) = some k ∨ w.heap.size ≤ k) (hb : ∀ (S : Nat → Prop) (β : Nat → Nat → Value), RB S W.w.heap.size β w' v' (.lims m f')) (a' : Act) (ha : a'.defers = []) (hN : a'.tmps.size = N)
    (hae : ∀ t x, lkp e t = some x → a'.tmps.getD t undef = a.tmps.getD t undef) :
    Sim W N (setv β g v') w' a' (stl e ((g, (1, fun _ => .lims m f')) :: h)) := by
  have hgh : (stl e0 ((g, (1, fun _ => .lims n f)) :: h)).heap g = some (1, fun _ => .lims n f) := by show lkp _ _ = _; rw [lkp_if, if_pos rfl]
  have hu : ∀ (e : List (Nat × AV)) (x : Nat × Fam), x.1 = g → ∀ q, (stl e (x :: h)).used q = memN q (g :: keys h) := fun e x hx q => by obtain ⟨k, y⟩ := x; cases hx; rfl
  have hq : ∀ (e : List (Nat × AV)) (x : Fam) (q : Nat), q ≠ g → (stl e ((g, x) :: h)).heap q = lkp h q := fun e x q hne => by show lkp _ _ = _; rw [lkp_if, if_neg hne]
  have hβ : ∀ q r, q ≠ g → setv β g v' q r = β q r := fun q r hne => by unfold setv; rw [if_neg hne]
  have hβg : ∀ r, setv β g v' g r = v' := fun r => by unfold setv; rw [if_pos rfl]
  -- own blocks, then and now
  have hown : ∀ i, Own (stl e ((g, (1, fun _ => .lims m f')) :: h)) (setv β g v') i → Own (stl e0 ((g, (1, fun _ => .lims n f)) :: h)) β i ∨ w.heap.size ≤ i := by
    rintro i ⟨q, n1, F1, r1, h1, h2, h3⟩
    by_cases c : q = g
    · subst c
      rw [hβg] at h3
      rcases hv i h3 with h4 | h4
      · exact .inl ⟨q, 1, _, 0, hgh, Nat.zero_lt_one, h4⟩
      · exact .inr h4
    · rw [hq _ _ _ c] at h1
      rw [hβ q r1 c] at h3
      exact .inl ⟨q, n1, F1, r1, by rw [hq _ _ _ c]; exact h1, h2, h3⟩
  have hS : ∀ b, notOwn W (stl e0 ((g, (1, fun _ => .lims n f)) :: h)) β b → b < w.heap.size → ¬ ub (β g 0) = some b ∧ notOwn W (stl e ((g, (1, fun _ => .lims m f')) :: h)) (setv β g v') b := by
    intro b hb hlt
    refine ⟨fun c => hb.2 ⟨g, 1, _, 0, hgh, Nat.zero_lt_one, c⟩, hb.1, fun ho => ?_⟩
    rcases hown b ho with h1 | h1
    · exact hb.2 h1
    · omega
  refine ⟨hk, ha, hN, fun t x hx => ?_, fun q n1 F1 r h1 h2 => ?_, fun q n1 F1 h1 => lkp_key h1, fun q n1 F1 r q' n2 F2 r' i h1 h2 h3 h4 h5 h6 => ?_, ?_, fun k ho hP => ?_, fun u hu' q hqx => ?_, fun u hu' q hqx => ?_⟩
  · obtain ⟨h1, h2⟩ := he.get (show lkp e t = some x from hx)
    obtain ⟨k1, k2⟩ := hs.env t x h1
    exact ⟨k1, by rw [hae t x hx]; exact freeG_rv hblk hS hβ h2 k2⟩
  · by_cases c : q = g
    · subst c
      have h1 : lkp ((q, ((1, fun _ => Blk.lims m f') : Fam)) :: h) q = some (n1, F1) := h1
      rw [lkp_if, if_pos rfl] at h1
      cases h1
      refine ⟨?_, by rw [hβg]; exact hb _ _⟩
      exact (hs.heap q 1 _ 0 hgh Nat.zero_lt_one).1
    · rw [hq _ _ _ c] at h1
      have h1' : (stl e0 ((g, (1, fun _ => .lims n f)) :: h)).heap q = some (n1, F1) := by rw [hq _ _ _ c]; exact h1
      obtain ⟨k1, k2⟩ := hs.heap q n1 F1 r h1' h2
      obtain ⟨_, hfr⟩ := hh.get h1
      obtain ⟨T, mm, ff, e1, e2⟩ := hfr r h2
      refine ⟨k1, ?_⟩
      rw [hβ q r c]
      rw [e1] at k2 ⊢
      obtain ⟨hT, k2⟩ := k2
      refine ⟨hT, ?_⟩
      rcases k2 with k2 | ⟨k, cs, q1, q2, q3, q4⟩
      · exact .inl k2
      · have hne : ¬ ub (β g 0) = some k := fun c2 => c (hs.inj q n1 F1 r g 1 _ 0 k h1' h2 hgh Nat.zero_lt_one (ub_at q3) c2).1
        exact .inr ⟨k, cs, q1, (hblk k q2.lt hne).trans q2, q3, fun i hi => by obtain ⟨y, a0, a1, a2⟩ := q4 i hi; exact ⟨y, a0, a1, freeG_rv hblk hS hβ (e2 i hi) a2⟩⟩
  · by_cases c : q = g <;> by_cases c' : q' = g
    · refine ⟨c.trans c'.symm, ?_⟩
      subst c
      have e1 : lkp ((q, ((1, fun _ => Blk.lims m f') : Fam)) :: h) q = some (n1, F1) := h1
      rw [lkp_if, if_pos rfl] at e1; cases e1
      subst c'
      have e2 : lkp ((q', ((1, fun _ => Blk.lims m f') : Fam)) :: h) q' = some (n2, F2) := h3
      rw [lkp_if, if_pos rfl] at e2; cases e2
      omega
    · exfalso
      subst c
      rw [hβg] at h5
      rw [hq _ _ _ c'] at h3
      rw [hβ q' r' c'] at h6
      have h3' : (stl e0 ((q, (1, fun _ => .lims n f)) :: h)).heap q' = some (n2, F2) := by rw [hq _ _ _ c']; exact h3
      rcases hv i h5 with h7 | h7
      · exact c' (hs.inj q' n2 F2 r' q 1 _ 0 i h3' h4 hgh Nat.zero_lt_one h6 h7).1
      · have := (own_lt hs ⟨q', n2, F2, r', h3', h4, h6⟩).2; omega
    · exfalso
      subst c'
      rw [hβg] at h6
      rw [hq _ _ _ c] at h1
      rw [hβ q r c] at h5
      have h1' : (stl e0 ((q', (1, fun _ => .lims n f)) :: h)).heap q = some (n1, F1) := by rw [hq _ _ _ c]; exact h1
      rcases hv i h6 with h7 | h7
      · exact c (hs.inj q n1 F1 r q' 1 _ 0 i h1' h2 hgh Nat.zero_lt_one h5 h7).1
      · have := (own_lt hs ⟨q, n1, F1, r, h1', h2, h5⟩).2; omega
    · rw [hq _ _ _ c] at h1; rw [hq _ _ _ c'] at h3
      rw [hβ q r c] at h5; rw [hβ q' r' c'] at h6
      exact hs.inj q n1 F1 r q' n2 F2 r' i (by rw [hq _ _ _ c]; exact h1) h2 (by rw [hq _ _ _ c']; exact h3) h4 h5 h6
  · refine ⟨Nat.le_trans hs.fix.size hsz, fun k hk hP => ?_⟩
    refine (hblk k (Nat.lt_of_lt_of_le hk hs.fix.size) fun c => ?_).trans (hs.fix.block k hk hP)
    exact hs.pin k ⟨g, 1, _, 0, hgh, Nat.zero_lt_one, c⟩ hP
  · rcases hown k ho with h1 | h1
    · exact hs.pin k h1 hP
    · have := W.lt k hP
      have := hs.fix.size
      omega
  · have hne : q ≠ g := fun c => by rw [c, hgx] at hqx; cases hqx
    rw [← hs.fixd u hu' q hqx]
    funext r
    exact hβ q r hne
  · have := hs.keep u hu' q hqx
    rw [hu _ _ rfl] at this
    rw [hu _ _ rfl]; exact this
/-- A limb is laid behind own ones. -/
theorem xok_append {o : Oper} {x y : Operand} {d g n : Nat} {f : Nat → Nat} {z : Nat} {e0 e : List (Nat × AV)} {h : List (Nat × Fam)} (ho : o.op = .call { callee := .builtin .append, args := #[x, y], argTypes := #[41, 41] }) (hd : o.dst = some d)
    (hx : avo (stl e0 ((g, (1, fun _ => .lims n f)) :: h)) x = some (.own g 0)) (hy : avo (stl e0 ((g, (1, fun _ => .lims n f)) :: h)) y = some (.lb [z])) (he : SubE g e0 e) (hde : memN d (keys e) = false) (hh : FreeH g h) (hgx : fx3 g = false) (hn : n ≤ 1000000) :
    XOK Try.prog o (stl e0 ((g, (1, fun _ => .lims n f)) :: h)) (stl ((d, .own g 0) :: e) ((g, (1, fun _ => .lims (n + 1) (glue n f fun _ => z))) :: h)) := by
  intro W N β w a hs hN K Q hK
  obtain ⟨i0, hi0, hz0, hz1, hz2⟩ := info_parts info_u32
  have hgh : (stl e0 ((g, (1, fun _ => .lims n f)) :: h)).heap g = some (1, fun _ => .lims n f) := by show lkp _ _ = _; rw [lkp_if, if_pos rfl]
  obtain ⟨_, e1, A0, n0, c0, e2⟩ := hs.opd hx
  obtain ⟨_, A, c, ey, hc, hcell⟩ := hs.opd hy
  obtain ⟨hok, hb⟩ := hs.heap g 1 _ 0 hgh Nat.zero_lt_one
  have hb : RB _ _ _ w (β g 0) (.lims n f) := hb
  have hown : ∃ xs, w.ownsRow W.w.heap.size U32 1 (β g 0) n xs ∧ ∀ i, i < n → xs[i]? = some (.int .u32 (f i : Nat)) := by
    rcases hb with ⟨e3, rfl⟩ | ⟨k, cs, hB, hrow, hat, hx⟩
    · exact ⟨[], by rw [e3]; exact World.ownsRow_nil _ _ _ _, fun i hi => absurd hi (Nat.not_lt_zero _)⟩
    · have hsz := at_size hat
      rcases hat with ⟨e3, _⟩ | ⟨cap, e3, h1, h2, h3⟩
      · rw [← e1, e2] at e3; cases e3
      · refine ⟨cs.toList.take (n * 1), ?_, fun i hi => ?_⟩
        · rw [e3]
          exact ⟨by simp; omega, .inr ⟨k, cap, cs, rfl, hB, hrow, h1, h2, h3, rfl⟩⟩
        · rw [List.getElem?_take_of_lt (by omega), Array.getElem?_toList]; exact hx i hi
  obtain ⟨xs, hown, hxs⟩ := hown
  have hxl : xs.length = n := by have := hown.1; omega
  obtain ⟨b1, off1, cs1, hA1, hr1, hc1⟩ := hcell 0 (by simp)
  have hc1 : cs1[off1 + 0]? = some (.int .u32 (z : Int)) := hc1
  obtain ⟨v', w', hrun, hown', hgrow, hwhere⟩ := append_core (P := Try.prog) w W.w.heap.size 41 o.type U32 i0 _ 1 4 Try.underlying41 hi0 hz0 hz1 hz2 (by rfl) (by decide) (β g 0) n xs hown A 1 c [.int .u32 (z : Int)] rfl (fun e => by rw [hA1] at e; cases e) (fun p hp j u hu => by
    rw [hA1] at hp; cases hp
    cases j with
    | zero =>
      cases hu
      rw [add_at, cell_of_row w b1 _ cs1 U32 (0, 0) hr1]; exact hc1
    | succ j => cases hu) (fun u hu => by simp at hu; rw [hu]; rfl) (by unfold maxLen; omega) (by omega) hs.kept.size
  have hubg : ub (β g 0) = (β g 0).ownBlock := by rw [← e1, e2]; exact ub_slice
  have hv' : ∃ A' n' c', v' = .slice A' n' c' := by
    rcases hown'.2 with ⟨e, _⟩ | ⟨_, _, _, e, _⟩ <;> exact ⟨_, _, _, e⟩
  obtain ⟨A', n', c', ev'⟩ := hv'
  have hub' : ub v' = v'.ownBlock := by rw [ev']; exact ub_slice
  have hop : (execOp a.eval o).run Try.prog w = .ok (.value v') w' := by
    unfold execOp; rw [ho]; simp only [resolve, List.map_toArray, List.map_cons, List.map_nil]; rw [e1, ey]
    simp only [Sem.run_bind, Sem.run_pure, Result.andThen_ok, invoke, builtin]
    rw [show ([z] : List Nat).length = 1 from rfl, hrun]
    rfl
  unfold Oper.wp
  rw [hop]
  have hlt := hN d hd
  have hput : a.put o.dst v' = { a with tmps := a.tmps.setIfInBounds d v' } := by rw [hd]; rfl
  have hsize : (a.put o.dst v').tmps.size = N := by rw [hput]; simp [hs.size]
  have hsim := hs.lims (w' := w') (m := n + 1) (f' := glue n f fun _ => z) (v' := v') (e := e) he hh hgx (Below.grown hs.kept hgrow hs.kept.size (fun k hk => (hown.lt k hk).1)) hgrow.size (fun i hi hne => hgrow.block i hi (fun c2 => hne (by rw [hubg]; exact c2.symm))) (fun k hk => by
      rw [hub'] at hk
      rcases hwhere with h1 | h1
      · left; rw [hubg, ← h1]; exact hk
      · rw [h1] at hk; cases hk; exact .inr (Nat.le_refl _)) (fun S β2 => by
      rcases hown'.2 with ⟨e3, h0⟩ | ⟨k, cap, cur, e3, hB, hrow, h1, h2, h3, h4⟩
      · exact .inl ⟨e3, h0⟩
      · refine .inr ⟨k, cur, hB, hrow, .inr ⟨cap, e3, h1, h2, by omega⟩, fun i hi => ?_⟩
        have hget : cur[i]? = (xs ++ [Value.int .u32 (z : Int)])[i]? := by rw [← h4, List.getElem?_take_of_lt (by omega), Array.getElem?_toList]
        rw [hget]
        unfold glue
        by_cases c2 : i < n
        · rw [if_pos c2, List.getElem?_append_left (by omega)]; exact hxs i c2
        · rw [if_neg c2, List.getElem?_append_right (by omega), show i - xs.length = 0 by omega]; rfl) (a.put o.dst v') (by rw [hput]; exact hs.nodef) hsize (fun t x hx => by
      have hne : t ≠ d := fun c2 => by
        have := lkp_key hx
        rw [c2, hde] at this; cases this
      rw [hput]
      exact getD_set_ne' (Ne.symm hne))
  refine hK (setv β g v') _ w' ?_
  have hnot : notOwn W (stl ((d, .own g 0) :: e) ((g, (1, fun _ => .lims (n + 1) (glue n f fun _ => z))) :: h)) (setv β g v') = notOwn W (stl e ((g, (1, fun _ => .lims (n + 1) (glue n f fun _ => z))) :: h)) (setv β g v') := rfl
  refine ⟨hsim.kept, hsim.nodef, hsim.size, fun t x hx => ?_, hsim.heap, hsim.live, hsim.inj, hsim.fix, hsim.pin, hsim.fixd, hsim.keep⟩
  have hx : lkp ((d, AV.own g 0) :: e) t = some x := hx
  rw [lkp_if] at hx
  by_cases c2 : t = d
  · subst c2
    rw [if_pos rfl] at hx
    cases hx
    refine ⟨by show memN g (g :: keys h) = true; unfold memN; rw [Nat.beq_refl]; rfl, ?_, A', n', c', ?_⟩
    · show (a.put o.dst v').tmps.getD t undef = setv β g v' g 0
      rw [hput, getD_set_same' (by rw [hs.size]; exact hlt)]
      unfold setv; rw [if_pos rfl]
    · show (a.put o.dst v').tmps.getD t undef = _
      rw [hput, getD_set_same' (by rw [hs.size]; exact hlt), ev']
  · rw [if_neg c2] at hx
    exact hsim.env t x hx
/-- An assignment in its own state. -/
theorem xok_lok {P : Program} {o : Oper} {s : St} {D : Dsc} (h : LOK P o s D) (hu : ∀ g, (∃ b, (g, b) ∈ D.upd) → g ∉ D.rd → s.used g = false) : XOK P o s (s.app o.dst D) := by
  intro W N β w a hs hN K Q hK
  exact h.2 s (fun _ _ => rfl) (fun _ _ => rfl) (fun _ _ h => h) hu W N β w a hs hN K Q hK
theorem xok_imp {P : Program} {o : Oper} {s s1 s2 : St} (hi : Imp s s1) (h : XOK P o s1 s2) : XOK P o s s2 := by
  intro W N β w a hs hN K Q hK
  obtain ⟨β', hs'⟩ := hi W N β w a hs
  exact h W N β' w a hs' hN K Q hK
/-- Limbs are made. -/
theorem xok_make {o : Oper} {s : St} {x y : Operand} {d g : Nat} {k k' : IntKind} {l c : Int} (ho : o.op = .makeSlice 41 x y) (hd : o.dst = some d) (hx : avo s x = some (.v (.int k l))) (hy : avo s y = some (.v (.int k' c))) (hg : s.used g = false) (h77 : s.used 77 = true) (h0 : 0 ≤ l) (hlc : l ≤ c) (hc : c ≤ 1000000000) :
    XOK Try.prog o s ⟨put s.env d (some (.own g 0)), put s.heap g (some (1, fun _ => .lims l.toNat (fun _ => 0))), mark s.used g⟩ := by
  intro W N β w a hs hN K Q hK
  have h1 : a.eval x = .int k l := hs.opv hx
  have h2 : a.eval y = .int k' c := hs.opv hy
  obtain ⟨i0, hi, hz0, hz1, hz2⟩ := info_parts info_u32
  have hrun := run_make (P := Try.prog) w 41 U32 i0 _ Try.underlying41 hi hz0 k k' l c h0 hlc (by rw [hz2]; omega) (by omega)
  rw [hz1] at hrun
  generalize hcs : madeCells _ (c.toNat * 1) = cs at hrun
  have hcsz : cs.size = c.toNat * 1 := by rw [← hcs]; exact size_madeCells _ _
  have hget : ∀ i, i < l.toNat → cs[i]? = some (.int .u32 ((0 : Nat) : Int)) := fun i hi' => by
    rw [← hcs, made_get (by omega) (by simp [Value.cells])]
    simp [Nat.mod_one, Value.cells]
  have hop : (execOp a.eval o).run Try.prog w = .ok (.value (.slice (some ⟨w.heap.size, 0, none⟩) l.toNat c.toNat)) (w.alloc (.cells cs U32)) := by
    unfold execOp; rw [ho]; simp only []; rw [h1, h2]; simp only [Sem.run_bind, hrun]; rfl
  have hk := Kept.alloc w (.cells cs U32)
  have hs' := hs.newfam hg none (fun o ho => by cases ho) (.slice (some ⟨w.heap.size, 0, none⟩) l.toNat c.toNat) (.lims l.toNat fun _ => 0) (O := fun _ => False) (hs.kept.then hk) (Ext.of_kept hk _) (fun i h => h.elim) (fun i hi => .inl (by cases hi; exact Nat.le_refl _)) (fun S' β' _ => ⟨h77, .inr ⟨w.heap.size, cs, hs.kept.size, row_new w cs U32, .inr ⟨c.toNat, rfl, by omega, by unfold maxLen; omega, hcsz⟩, hget⟩⟩)
  unfold Oper.wp
  rw [hop]
  have hs2 := hs'.putv (d := some d) (v := .slice (some ⟨w.heap.size, 0, none⟩) l.toNat c.toNat) (r := some (.own g 0)) (fun t ht => by cases ht; exact hN d hd) (fun z hz _ => by
    cases hz
    exact ⟨mark_same _ _, (show setv β g (.slice (some ⟨w.heap.size, 0, none⟩) l.toNat c.toNat) g 0 = _ from if_pos rfl).symm, _, _, _, rfl⟩)
  refine hK (setv β g (.slice (some ⟨w.heap.size, 0, none⟩) l.toNat c.toNat)) _ _ ?_
  rw [hd]
  exact hs2
/-- Family 77 tells that limbs may be own. -/
theorem imp_mark (s : St) (k : Nat) : Imp s ⟨s.env, s.heap, mark s.used k⟩ := by
  intro W N β w a hs
  refine ⟨β, hs.kept, hs.nodef, hs.size, fun t x hx => ⟨AV.ok_mono (fun g h => mark_mono _ _ _ h) (hs.env t x hx).1, (hs.env t x hx).2⟩, fun g n F r h1 h2 => ⟨Blk.ok_mono (fun g h => mark_mono _ _ _ h) (hs.heap g n F r h1 h2).1, (hs.heap g n F r h1 h2).2⟩, fun g n F h => mark_mono _ _ _ (hs.live g n F h), hs.inj, hs.fix, hs.pin, hs.fixd, fun u hu g hg => mark_mono _ _ _ (hs.keep u hu g hg)⟩
/-- Own limbs are handed out. -/
theorem imp_lims {s : St} (t : Nat) {g n : Nat} {F : Nat → Blk} {f : Nat → Nat} (l : List Nat) (hx : s.env t = some (.own g 0)) (hg : s.heap g = some (1, F)) (hF : F 0 = .lims n f) (hl : l.length = n) (hf : ∀ i, i < n → f i = l.getD i 0) : Imp s ⟨put s.env t (some (.lb l)), put s.heap g none, s.used⟩ :=
  imp_turn1 hx hg trivial fun W N β w a hs v hv hok hb S' h1 h2 => by
    rw [hF] at hb
    subst hl
    obtain ⟨e0, A, n', c, e⟩ := hv
    rcases hb with ⟨e', hn⟩ | ⟨kb, cs, hB, hr, hat, hx⟩
    · exact ⟨none, 0, by rw [hn]; exact e0.trans e', by omega, fun i hi => by omega⟩
    · rcases hat with ⟨e', _⟩ | ⟨cap, e', h3, h4, _⟩
      · rw [← e0, e] at e'; cases e'
      · exact ⟨_, cap, e0.trans e', h3, fun i hi => ⟨kb, 0, cs, rfl, hr, by rw [Nat.zero_add, hx i hi, hf i hi]⟩⟩
end Go.Proofs.Ytpclkgjhfhhddaa.AM
/- Package code: bytes are taken. -/
namespace Go.Proofs.Ytpclkgjhfhhddaa.AM
open Go Go.RowKit Go.Proofs.Ytpclkgjhfhhddaa.PN Go.Proofs.Ytpclkgjhfhhddaa.V
set_option linter.unusedVariables false
set_option linter.unusedSimpArgs false
set_option linter.unusedSectionVars false
set_option maxRecDepth 8000
set_option maxHeartbeats 8000000
/-- A reader: what is left, and its error. -/
def rdF (l : List Int) (e : Int) (i : Nat) : AV := [AV.seq .u8 l, .i e].getD i (.v undef)
theorem rdF_ok (l : List Int) (e : Int) (U : Nat → Bool) : ∀ i, (rdF l e i).ok U
  | 0 | 1 => trivial
  | _ + 2 => trivial
abbrev RDT : TypeId := 72
def RdS (l : List Int) (e : Int) : List (Nat × Fam) := [(60, (1, fun _ => .ones RDT 2 (rdF l e))), (61, (0, fun _ => .rats 0 fun _ => ra0)), (62, (0, fun _ => .rats 0 fun _ => ra0))]
theorem rd_le {σ : Ren} {l : List Int} {e : Int} {f : Nat → AV} (h0 : f 0 = .seq .u8 l) (h1 : f 1 = .i e) : BLe σ (.ones RDT 2 f) (.ones RDT 2 (rdF l e)) :=
  bleo rfl fun i hi => by
    match i, hi with
    | 0, _ => rw [h0]; exact Le.eq rfl rfl
    | 1, _ => rw [h1]; exact Le.eq rfl rfl
theorem okf_rd {U : Nat → Bool} {l : List Int} {e : Int} : okf U (RdS l e) :=
  ⟨fun r _ i _ => rdF_ok l e U i, fun r hr => absurd hr (Nat.not_lt_zero _), fun r hr => absurd hr (Nat.not_lt_zero _), trivial⟩
theorem all0 {s : St} {σ : Ren} {U : Nat → Bool} {g : Nat} {F : Nat → Blk} {l : List (Nat × Fam)} (k : AllH s σ U l) : AllH s σ U ((g, (0, F)) :: l) := ⟨fun r hr => absurd hr (Nat.not_lt_zero _), k⟩
def zs (n : Nat) : List Int := List.replicate n 0
theorem zs_get (n i : Nat) : (zs n).getD i 0 = 0 := by
  unfold zs
  rw [List.getD_eq_getElem?_getD, List.getElem?_replicate]
  split <;> rfl
/-- Enough is left. -/
theorem c_take {l : List Int} {n : Nat} (hn : n ≤ l.length) (hl : l.length ≤ 1000000000) : HasH Try.prog 36 (RdS l 0) [.ptr 60 0 0, .i n] (.seq .u8 (l.take n)) (RdS (l.drop n) 0) := by
  refine hasH_of Try.func36 (by kernel_rfl) rfl Try.ntmps36 Try.results36 True.intro rfl rfl ?_
  have e0 : decide (((l.length : Nat) : Int) < n) = false := decide_eq_false (by omega)
  refine run0p ?_
  refine awp_no rfl e0 ?_
  refine run0p ?_
  refine awp_no rfl rfl ?_
  refine run0p ?_
  have f1 : (l.take ((n : Nat) : Int).toNat).drop (0 : Int).toNat = l.take n := by simp
  have f2 : (l.take ((l.length : Nat) : Int).toNat).drop ((n : Nat) : Int).toNat = l.drop n := by simp
  refine ⟨.inr rfl, [(4, .seq .u8 (l.take n))], imp_id ?_ ?_, .one (.tmp rfl)⟩
  · exact alle rfl (Le.eq (by rw [f1]) rfl) True.intro True.intro
  · exact allh rfl (by decide) (rd_le (by show AV.seq _ _ = _; rw [f2]) rfl) (fun i _ => rdF_ok _ _ _ i) (all0 (all0 True.intro))
/-- Too little is left. -/
theorem c_take_cut {l : List Int} {n : Nat} (hn : l.length < n) (hl : n ≤ 1000000) : HasH Try.prog 36 (RdS l 0) [.ptr 60 0 0, .i n] (.seq .u8 (zs n)) (RdS l 6) := by
  refine hasH_of Try.func36 (by kernel_rfl) rfl Try.ntmps36 Try.results36 True.intro rfl rfl ?_
  have e0 : decide (((l.length : Nat) : Int) < n) = true := decide_eq_true (by omega)
  refine run0p ?_
  refine awp_yes rfl e0 ?_
  refine run0p ?_
  refine awp_yes rfl rfl ?_
  refine run0p ?_
  refine ⟨.inr rfl, [(4, .seq .u8 (zs n))], (imp_seq 4 (zs n) rfl rfl rfl (by unfold zs; simp) fun i hi => by rw [zs_get]).trans (imp_id ?_ ?_), .one (.tmp rfl)⟩
  · exact eA
  · exact allh rfl (by decide) (rd_le rfl rfl) (fun i _ => rdF_ok _ _ _ i) (all0 (all0 True.intro))
/-- An error stays. -/
theorem c_take_err {l : List Int} {n : Nat} {e : Int} (he : e ≠ 0) (hl : n ≤ 1000000) : HasH Try.prog 36 (RdS l e) [.ptr 60 0 0, .i n] (.seq .u8 (zs n)) (RdS l e) := by
  refine hasH_of Try.func36 (by kernel_rfl) rfl Try.ntmps36 Try.results36 True.intro rfl rfl ?_
  have e0 : decide (e = 0) = false := decide_eq_false he
  have e1 : (decide (e = 0) == true) = false := by rw [e0]; rfl
  have e2 : decide (e ≠ 0) = true := decide_eq_true he
  refine run0p ?_
  refine awp_no rfl rfl ?_
  refine run0p ?_
  refine awp_yes rfl e2 ?_
  refine run0p ?_
  refine ⟨.inr rfl, [(4, .seq .u8 (zs n))], (imp_seq 4 (zs n) rfl rfl rfl (by unfold zs; simp) fun i hi => by rw [zs_get]).trans (imp_id ?_ ?_), .one (.tmp rfl)⟩
  · exact eA
  · exact allh rfl (by decide) (rd_le rfl rfl) (fun i _ => rdF_ok _ _ _ i) (all0 (all0 True.intro))
/-- So many bytes are taken. -/
def tkP (n : Nat) (l : List Int) (e : Int) : List Int × List Int × Int := if e = 0 then (if l.length < n then (zs n, l, 6) else (l.take n, l.drop n, 0)) else (zs n, l, e)
theorem c_tk {l : List Int} {e : Int} {n : Nat} (hn : n ≤ 1000000) (hl : l.length ≤ 1000000000) : HasH Try.prog 36 (RdS l e) [.ptr 60 0 0, .i n] (.seq .u8 (tkP n l e).1) (RdS (tkP n l e).2.1 (tkP n l e).2.2) := by
  unfold tkP
  by_cases h0 : e = 0
  · subst h0
    rw [if_pos rfl]
    by_cases h1 : l.length < n
    · rw [if_pos h1]; exact c_take_cut h1 hn
    · rw [if_neg h1]; exact c_take (by omega) hl
  · rw [if_neg h0]; exact c_take_err h0 hn
section
variable {l l1 q : List Int} {e e1 m : Int} (c : HasH Try.prog 36 (RdS l e) [.ptr 60 0 0, .i ((1 : Nat) : Int)] (.seq .u8 q) (RdS l1 e1)) (hq : q.length = 1) (hb : 0 ≤ q.getD 0 0 ∧ q.getD 0 0 ≤ 255) (hm : m ≤ 255)
include c hq hb hm
theorem c_small_ok (he : e1 = 0) (hbm : q.getD 0 0 ≤ m) : HasH Try.prog 67 (RdS l e) [.ptr 60 0 0, .v (.int .u8 m)] (.i (q.getD 0 0)) (RdS l1 0) := by
  subst he
  have e0 : decide (m < q.getD 0 0) = false := decide_eq_false (by omega)
  have b1 : -9223372036854775808 ≤ q.getD 0 0 := by omega
  have b2 : q.getD 0 0 ≤ 9223372036854775807 := by omega
  refine hasH_of Try.func67 (by kernel_rfl) rfl Try.ntmps67 Try.results67 True.intro rfl rfl ?_
  refine run0p ?_
  ((with_reducible apply st_callH); exact rfl; exact rfl; exact rfl; exact (c); (first | exact True.intro | exact ⟨rfl, rfl, rfl, True.intro⟩); exact rfl; exact rfl; exact rfl; exact rfl; (focus (repeat (first | exact True.intro | refine ⟨(by first | exact True.intro | rfl | exact ok_none (closed_ok rfl)), ?_⟩))); (first | exact True.intro | exact okf_WH | exact okf_pf (by exact True.intro) (by exact True.intro) | exact okf_rd | exact okf_pr))
  refine run0p ?_
  refine awp_no rfl e0 ?_
  refine run0p ?_
  refine awp_no rfl rfl ?_
  refine run0p ?_
  refine ⟨.inr rfl, [(4, .i (q.getD 0 0))], imp_id ?_ ?_, .one (.tmp rfl)⟩
  · exact eA
  · exact allh rfl (by decide) (rd_le rfl rfl) (fun i _ => rdF_ok _ _ _ i) (all0 (all0 True.intro))
theorem c_small_gt (he : e1 = 0) (hbm : m < q.getD 0 0) : HasH Try.prog 67 (RdS l e) [.ptr 60 0 0, .v (.int .u8 m)] (.i 0) (RdS l1 1) := by
  subst he
  have e0 : decide (m < q.getD 0 0) = true := decide_eq_true (by omega)
  refine hasH_of Try.func67 (by kernel_rfl) rfl Try.ntmps67 Try.results67 True.intro rfl rfl ?_
  refine run0p ?_
  ((with_reducible apply st_callH); exact rfl; exact rfl; exact rfl; exact (c); (first | exact True.intro | exact ⟨rfl, rfl, rfl, True.intro⟩); exact rfl; exact rfl; exact rfl; exact rfl; (focus (repeat (first | exact True.intro | refine ⟨(by first | exact True.intro | rfl | exact ok_none (closed_ok rfl)), ?_⟩))); (first | exact True.intro | exact okf_WH | exact okf_pf (by exact True.intro) (by exact True.intro) | exact okf_rd | exact okf_pr))
  refine run0p ?_
  refine awp_yes rfl e0 ?_
  refine run0p ?_
  refine awp_yes rfl rfl ?_
  refine run0p ?_
  refine ⟨.inr rfl, [(4, .i 0)], imp_id ?_ ?_, .one (.tmp rfl)⟩
  · exact eA
  · exact allh rfl (by decide) (rd_le rfl rfl) (fun i _ => rdF_ok _ _ _ i) (all0 (all0 True.intro))
theorem c_small_err (he : e1 ≠ 0) : HasH Try.prog 67 (RdS l e) [.ptr 60 0 0, .v (.int .u8 m)] (.i 0) (RdS l1 e1) := by
  have e0 : decide (e1 = 0) = false := decide_eq_false he
  have e3 : (decide (e1 = 0) == true) = false := by rw [e0]; rfl
  have e2 : decide (e1 ≠ 0) = true := decide_eq_true he
  refine hasH_of Try.func67 (by kernel_rfl) rfl Try.ntmps67 Try.results67 True.intro rfl rfl ?_
  refine run0p ?_
  ((with_reducible apply st_callH); exact rfl; exact rfl; exact rfl; exact (c); (first | exact True.intro | exact ⟨rfl, rfl, rfl, True.intro⟩); exact rfl; exact rfl; exact rfl; exact rfl; (focus (repeat (first | exact True.intro | refine ⟨(by first | exact True.intro | rfl | exact ok_none (closed_ok rfl)), ?_⟩))); (first | exact True.intro | exact okf_WH | exact okf_pf (by exact True.intro) (by exact True.intro) | exact okf_rd | exact okf_pr))
  refine run0p ?_
  refine awp_no rfl rfl ?_
  refine run0p ?_
  refine awp_yes rfl e2 ?_
  refine run0p ?_
  refine ⟨.inr rfl, [(4, .i 0)], imp_id ?_ ?_, .one (.tmp rfl)⟩
  · exact eA
  · exact allh rfl (by decide) (rd_le rfl rfl) (fun i _ => rdF_ok _ _ _ i) (all0 (all0 True.intro))
end
/-- Bytes. -/
def By (l : List Int) : Prop := ∀ i, 0 ≤ l.getD i 0 ∧ l.getD i 0 ≤ 255
theorem by_zs (n : Nat) : By (zs n) := fun i => by rw [zs_get]; omega
theorem By.take {l : List Int} (h : By l) (n : Nat) : By (l.take n) := fun i => by
  rw [List.getD_eq_getElem?_getD, List.getElem?_take]
  split
  · rw [← List.getD_eq_getElem?_getD]; exact h i
  · exact ⟨Int.le_refl 0, by decide⟩
theorem By.drop {l : List Int} (h : By l) (n : Nat) : By (l.drop n) := fun i => by
  rw [List.getD_eq_getElem?_getD, List.getElem?_drop, ← List.getD_eq_getElem?_getD]; exact h (n + i)
theorem tk_len (n : Nat) (l : List Int) (e : Int) : (tkP n l e).1.length = n := by
  unfold tkP zs
  by_cases h0 : e = 0 <;> by_cases h1 : l.length < n <;> simp [h0, h1] <;> omega
theorem tk_by {n : Nat} {l : List Int} {e : Int} (h : By l) : By (tkP n l e).1 ∧ By (tkP n l e).2.1 := by
  unfold tkP
  by_cases h0 : e = 0
  · rw [if_pos h0]
    by_cases h1 : l.length < n
    · rw [if_pos h1]; exact ⟨by_zs n, h⟩
    · rw [if_neg h1]; exact ⟨h.take n, h.drop n⟩
  · rw [if_neg h0]; exact ⟨by_zs n, h⟩
theorem tk_le (n : Nat) (l : List Int) (e : Int) : (tkP n l e).2.1.length ≤ l.length := by
  unfold tkP
  by_cases h0 : e = 0 <;> by_cases h1 : l.length < n <;> simp [h0, h1]
/-- A byte that is no greater than a number. -/
def smP (m : Int) (l : List Int) (e : Int) : Int × List Int × Int := if (tkP 1 l e).2.2 = 0 then (if m < (tkP 1 l e).1.getD 0 0 then (0, (tkP 1 l e).2.1, 1) else ((tkP 1 l e).1.getD 0 0, (tkP 1 l e).2.1, 0)) else (0, (tkP 1 l e).2.1, (tkP 1 l e).2.2)
theorem sm_by {m : Int} {l : List Int} {e : Int} (h : By l) : By (smP m l e).2.1 ∧ (smP m l e).2.1.length ≤ l.length := by
  have h1 := (tk_by (n := 1) (e := e) h).2
  have h2 := tk_le 1 l e
  unfold smP
  split
  · split <;> exact ⟨h1, h2⟩
  · exact ⟨h1, h2⟩
theorem sm_le {m : Int} {l : List Int} {e : Int} (hm : 0 ≤ m) (h : By l) : 0 ≤ (smP m l e).1 ∧ (smP m l e).1 ≤ m := by
  have h1 := (tk_by (n := 1) (e := e) h).1 0
  unfold smP
  split
  · split
    · exact ⟨Int.le_refl 0, hm⟩
    · exact ⟨h1.1, by omega⟩
  · exact ⟨Int.le_refl 0, hm⟩
theorem c_sm {m : Int} {l : List Int} {e : Int} (hm : m ≤ 255) (hb : By l) (hl : l.length ≤ 1000000000) : HasH Try.prog 67 (RdS l e) [.ptr 60 0 0, .v (.int .u8 m)] (.i (smP m l e).1) (RdS (smP m l e).2.1 (smP m l e).2.2) := by
  have c := c_tk (n := 1) (e := e) (by decide) hl
  have h1 := tk_len 1 l e
  have h2 := (tk_by (n := 1) (e := e) hb).1 0
  unfold smP
  by_cases h0 : (tkP 1 l e).2.2 = 0
  · rw [if_pos h0]
    by_cases h3 : m < (tkP 1 l e).1.getD 0 0
    · rw [if_pos h3]; exact c_small_gt c h1 h2 hm h0 h3
    · rw [if_neg h3]; exact c_small_ok c h1 h2 hm h0 (by omega)
  · rw [if_neg h0]; exact c_small_err c h1 h2 hm h0
end Go.Proofs.Ytpclkgjhfhhddaa.AM
/- Package code: limbs are taken. -/
namespace Go.Proofs.Ytpclkgjhfhhddaa.AM
open Go Go.RowKit Go.Proofs.Ytpclkgjhfhhddaa.PN Go.Proofs.Ytpclkgjhfhhddaa.V
set_option linter.unusedVariables false
set_option linter.unusedSimpArgs false
set_option maxRecDepth 8000
set_option maxHeartbeats 8000000
section
variable {ops : Array Oper} {s : St} {acc : List Fp} {K : St → List Fp → Prop} {d t : Tmp} {ty ty2 : TypeId} {ps ps2 : String} {aft aft2 : Array Edge} {x y : Operand}
theorem xok_assign {d t : Tmp} {s : St} {v : AV} (h : s.env d = some v) : XOK Try.prog ⟨some t, .assign (.tmp d), ty2, ps2, aft2, none⟩ s (nxt s (some t) (some v) []) :=
  xok_lok (o := ⟨some t, .assign (.tmp d), ty2, ps2, aft2, none⟩) (D := ⟨some v, [], []⟩) (ev_ok (c := True) (by unfold ev avo; simp only [h]; rfl) True.intro) (fun g hb _ => by obtain ⟨b, hb⟩ := hb; cases hb)
theorem suf_make {k k' : IntKind} {l c : Int} (hb : sufB ops (ops.size - 2) = true) (hx : avo s x = some (.v (.int k l))) (hy : avo s y = some (.v (.int k' c))) (hg : s.used 80 = false) (h77 : s.used 77 = true) (h0 : 0 ≤ l) (hlc : l ≤ c) (hc : c ≤ 1000000000)
    (hK : K (nxt ⟨put s.env d (some (.own 80 0)), put s.heap 80 (some (1, fun _ => .lims l.toNat (fun _ => 0))), mark s.used 80⟩ (some t) (some (.own 80 0)) []) (([], []) :: ([], []) :: acc)) :
    AOps Try.prog ops [⟨some d, .makeSlice 41 x y, ty, ps, aft, none⟩, ⟨some t, .assign (.tmp d), ty2, ps2, aft2, none⟩] s acc K :=
  .suf hb ⟨rfl, _, xok_make rfl rfl hx hy hg h77 h0 hlc hc, rfl, _, xok_assign (put_same _ _ _), rfl⟩ hK
theorem suf_append {n z : Nat} {f : Nat → Nat} {e0 e : List (Nat × AV)} {h : List (Nat × Fam)} (hb : sufB ops (ops.size - 2) = true) (hi : Imp s (stl e0 ((80, (1, fun _ => .lims n f)) :: h))) (hx : avo (stl e0 ((80, (1, fun _ => .lims n f)) :: h)) x = some (.own 80 0)) (hy : avo (stl e0 ((80, (1, fun _ => .lims n f)) :: h)) y = some (.lb [z]))
    (he : SubE 80 e0 e) (hde : memN d (keys e) = false) (hh : FreeH 80 h) (hn : n ≤ 1000000)
    (hK : K (nxt (stl ((d, .own 80 0) :: e) ((80, (1, fun _ => .lims (n + 1) (glue n f fun _ => z))) :: h)) (some t) (some (.own 80 0)) []) (([], []) :: ([], []) :: acc)) :
    AOps Try.prog ops [⟨some d, .call ⟨.builtin .append, #[x, y], #[41, 41]⟩, ty, ps, aft, none⟩, ⟨some t, .assign (.tmp d), ty2, ps2, aft2, none⟩] s acc K :=
  .suf hb ⟨rfl, _, xok_imp hi (xok_append rfl rfl hx hy he hde hh rfl hn), rfl, _, xok_assign (by show lkp _ _ = _; rw [lkp_if, if_pos rfl]), rfl⟩ hK
end
theorem lm_same {σ : Ren} {n n' : Nat} {f f' : Nat → Nat} (hn : n = n') (h : ∀ i, i < n → f i = f' i) : BLe σ (.lims n f) (.lims n' f') := ⟨hn, h⟩
/-- A limb of four bytes. -/
def w4 (c : List Int) : Nat := (borN (borN (borN (c.getD 0 0) (shlN (c.getD 1 0) 8)) (shlN (c.getD 2 0) 16)) (shlN (c.getD 3 0) 24)).toNat
theorem bor_nn (a b : Int) : 0 ≤ borN a b := Int.natCast_nonneg _
/-- So many limbs are taken. -/
def lmI (l : List Int) (e : Int) : Nat → List Nat × List Int × Int
  | 0 => ([], l, e)
  | i + 1 => ((lmI l e i).1 ++ [w4 (tkP 4 (lmI l e i).2.1 (lmI l e i).2.2).1], (tkP 4 (lmI l e i).2.1 (lmI l e i).2.2).2)
theorem lmI_by {l : List Int} {e : Int} (hb : By l) : ∀ i, By (lmI l e i).2.1 ∧ (lmI l e i).2.1.length ≤ l.length ∧ (lmI l e i).1.length = i
  | 0 => ⟨hb, Nat.le_refl _, rfl⟩
  | i + 1 => by
    obtain ⟨h1, h2, h3⟩ := lmI_by hb i
    exact ⟨(tk_by h1).2, Nat.le_trans (tk_le _ _ _) h2, by show (_ ++ [_]).length = _; rw [List.length_append, h3]; rfl⟩
def lmP (l : List Int) (e : Int) : List Nat × List Int × Int := lmI (smP 4 l e).2.1 (smP 4 l e).2.2 (smP 4 l e).1.toNat
/-- Own limbs, and that there are such. -/
def Lm (q : List Nat) : Nat × Fam := (80, (1, fun _ => .lims q.length (fun i => q.getD i 0)))
abbrev Mk : Nat × Fam := (77, (0, fun _ => .rats 0 fun _ => ra0))
theorem glue_getD {q : List Nat} {z j : Nat} (hj : j < q.length + 1) : glue q.length (fun j => q.getD j 0) (fun _ => z) j = (q ++ [z]).getD j 0 := by
  show (if j < q.length then q.getD j 0 else z) = _
  by_cases h : j < q.length
  · rw [if_pos h, List.getD_eq_getElem?_getD, List.getD_eq_getElem?_getD, List.getElem?_append_left h]
  · rw [if_neg h, List.getD_eq_getElem?_getD, List.getElem?_append_right (by omega), show j - q.length = 0 by omega]; rfl
theorem rd_free {l : List Int} {e : Int} : FreeH 80 (Mk :: RdS l e) :=
  ⟨⟨by decide, fun r hr => absurd hr (Nat.not_lt_zero _)⟩, ⟨by decide, fun r hr => ⟨_, _, _, rfl, fun i hi => by
    match i, hi with
    | 0, _ => rfl
    | 1, _ => rfl⟩⟩, ⟨by decide, fun r hr => absurd hr (Nat.not_lt_zero _)⟩, ⟨by decide, fun r hr => absurd hr (Nat.not_lt_zero _)⟩, True.intro⟩
theorem c_limbs {l : List Int} {e : Int} (hb : By l) (hl : l.length ≤ 100000000) : HasH Try.prog 68 (RdS l e) [.ptr 60 0 0] (.lb (lmP l e).1) (RdS (lmP l e).2.1 (lmP l e).2.2) := by
  have c1 := c_sm (m := 4) (e := e) (by decide) hb (by omega)
  have hk := sm_le (m := 4) (e := e) (by decide) hb
  have hby := sm_by (m := 4) (e := e) hb
  unfold lmP
  generalize smP 4 l e = q at *
  obtain ⟨v, l1, e1⟩ := q
  obtain ⟨k, rfl⟩ : ∃ k : Nat, v = k := ⟨v.toNat, by have := hk.1; simp only [] at this; omega⟩
  simp only [Int.toNat_natCast] at c1 hk hby ⊢
  refine hasH_of Try.func68 (by kernel_rfl) rfl Try.ntmps68 Try.results68 True.intro rfl rfl ?_
  refine awp_imp (imp_mark _ 77) ?_
  refine run0p ?_
  ((with_reducible apply st_callH); exact rfl; exact rfl; exact rfl; exact (c1); (first | exact True.intro | exact ⟨rfl, rfl, rfl, True.intro⟩); exact rfl; exact rfl; exact rfl; exact rfl; (focus (repeat (first | exact True.intro | refine ⟨(by first | exact True.intro | rfl | exact ok_none (closed_ok rfl)), ?_⟩))); (first | exact True.intro | exact okf_WH | exact okf_pf (by exact True.intro) (by exact True.intro) | exact okf_rd | exact okf_pr))
  refine run0p ?_
  refine suf_make rfl rfl rfl rfl rfl (by decide) (by omega) (by omega) ⟨.inr rfl, ?_⟩
  refine run0p ?_
  refine awp_loop (fun m' s => ∃ i, i ≤ k ∧ m' = k - i ∧ s = stl [(0, .ptr 60 0 0), (4, .own 80 0), (10, .i (k : Int)), (11, .i (i : Int))] (Lm (lmI l1 e1 i).1 :: Mk :: RdS (lmI l1 e1 i).2.1 (lmI l1 e1 i).2.2)) k _ ?_ ⟨0, by omega, rfl, rfl⟩ ?_
  · refine imp_id ?_ ?_
    · exact alle rfl (Le.id rfl) rfl (alle rfl (Le.id rfl) rfl (alle rfl (Le.id rfl) True.intro (alle rfl (Le.id rfl) True.intro True.intro)))
    · exact allh rfl (by decide) (lm_same rfl fun i hi => absurd hi (Nat.not_lt_zero _)) rfl (all0 (allh rfl (by decide) (rd_le rfl rfl) (fun i _ => rdF_ok _ _ _ i) (all0 (all0 True.intro))))
  rintro m' s ⟨i, hi, rfl, rfl⟩
  have hi' : (i : Int) ≤ 4 := by omega
  refine run0p ?_
  refine awp_if rfl (fun h => ?_) (fun h => ?_)
  · have h : (i : Int) < (k : Int) := h
    obtain ⟨a1, a2, a3⟩ := lmI_by (e := e1) hby.1 i
    have c2 := c_tk (n := 4) (l := (lmI l1 e1 i).2.1) (e := (lmI l1 e1 i).2.2) (by decide) (by omega)
    have hlen := tk_len 4 (lmI l1 e1 i).2.1 (lmI l1 e1 i).2.2
    have hbs := (tk_by (n := 4) (e := (lmI l1 e1 i).2.2) a1).1
    have hnx : lmI l1 e1 (i + 1) = ((lmI l1 e1 i).1 ++ [w4 (tkP 4 (lmI l1 e1 i).2.1 (lmI l1 e1 i).2.2).1], (tkP 4 (lmI l1 e1 i).2.1 (lmI l1 e1 i).2.2).2) := rfl
    generalize tkP 4 (lmI l1 e1 i).2.1 (lmI l1 e1 i).2.2 = r at *
    generalize lmI l1 e1 i = st at *
    obtain ⟨q, l2, e2⟩ := st
    obtain ⟨cc, l3, e3⟩ := r
    simp only [] at *
    have b0 : 0 ≤ cc.getD (Int.toNat 0) 0 ∧ cc.getD (Int.toNat 0) 0 ≤ 255 := hbs 0
    have b1 : 0 ≤ cc.getD (Int.toNat 1) 0 ∧ cc.getD (Int.toNat 1) 0 ≤ 255 := hbs 1
    have b2 : 0 ≤ cc.getD (Int.toNat 2) 0 ∧ cc.getD (Int.toNat 2) 0 ≤ 255 := hbs 2
    have b3 : 0 ≤ cc.getD (Int.toNat 3) 0 ∧ cc.getD (Int.toNat 3) 0 ≤ 255 := hbs 3
    refine run0p ?_
    ((with_reducible apply st_callH); exact rfl; exact rfl; exact rfl; exact (c2); (first | exact True.intro | exact ⟨rfl, rfl, rfl, True.intro⟩); exact rfl; exact rfl; exact rfl; exact rfl; (focus (repeat (first | exact True.intro | refine ⟨(by first | exact True.intro | rfl | exact ok_none (closed_ok rfl)), ?_⟩))); (first | exact True.intro | exact okf_WH | exact okf_pf (by exact True.intro) (by exact True.intro) | exact okf_rd | exact okf_pr))
    refine run0p ?_
    refine st_ev rfl ⟨rfl, rfl, by decide, fun z hz => by
      have hz : AV.v (.int .u32 z) ∈ [AV.v (.int .u32 (borN (borN (borN (cc.getD 0 0) (shlN (cc.getD 1 0) 8)) (shlN (cc.getD 2 0) 16)) (shlN (cc.getD 3 0) 24)))] := hz
      have hz := List.mem_singleton.1 hz
      cases hz
      exact bor_nn _ _⟩ ?_
    refine suf_append (e0 := [(0, .ptr 60 0 0), (10, .i (k : Int)), (11, .i (i : Int)), (15, .own 80 0), (38, .lb [w4 cc])]) (e := [(0, .ptr 60 0 0), (10, .i (k : Int)), (11, .i (i : Int))]) (n := q.length) (f := fun j => q.getD j 0) (h := Mk :: RdS l3 e3) (z := w4 cc) rfl (imp_id ?_ ?_) rfl rfl ⟨⟨rfl, rfl⟩, ⟨rfl, rfl⟩, ⟨rfl, rfl⟩, True.intro⟩ rfl ?_ (by omega) ⟨.inr rfl, ?_⟩
    · exact alle rfl (Le.id rfl) rfl (alle rfl (Le.id rfl) True.intro (alle rfl (Le.id rfl) True.intro (alle rfl (Le.id rfl) rfl (alle rfl (Le.id rfl) True.intro True.intro))))
    · exact allh rfl (by decide) (lm_same rfl fun i hi => rfl) rfl (all0 (allh rfl (by decide) (rd_le rfl rfl) (fun i _ => rdF_ok _ _ _ i) (all0 (all0 True.intro))))
    · exact rd_free
    refine run0p ?_
    refine q_loop (m' := k - (i + 1)) (by omega) ?_ ⟨i + 1, by omega, rfl, rfl⟩
    rw [hnx]
    refine imp_id ?_ ?_
    · exact alle rfl (Le.id rfl) rfl (alle rfl (Le.id rfl) rfl (alle rfl (Le.id rfl) True.intro (alle rfl (Le.id rfl) True.intro True.intro)))
    · exact allh rfl (by decide) (lm_same (by simp) fun j hj => glue_getD hj) rfl (all0 (allh rfl (by decide) (rd_le rfl rfl) (fun i _ => rdF_ok _ _ _ i) (all0 (all0 True.intro))))
  · have h : ¬ (i : Int) < (k : Int) := h
    have e : i = k := by omega
    subst e
    obtain ⟨a1, a2, a3⟩ := lmI_by (e := e1) hby.1 i
    refine run0p ?_
    refine ⟨.inr rfl, [(2, .lb (lmI l1 e1 i).1)], (imp_lims 2 (lmI l1 e1 i).1 rfl rfl rfl rfl fun j hj => rfl).trans (imp_id ?_ ?_), .one (.tmp rfl)⟩
    · exact alle rfl (Le.id rfl) True.intro True.intro
    · exact allh rfl (by decide) (rd_le rfl rfl) (fun i _ => rdF_ok _ _ _ i) (all0 (all0 True.intro))
end Go.Proofs.Ytpclkgjhfhhddaa.AM
/- Package code: numbers are taken. -/
namespace Go.Proofs.Ytpclkgjhfhhddaa.AM
open Go Go.RowKit Go.Proofs.Ytpclkgjhfhhddaa.PN Go.Proofs.Ytpclkgjhfhhddaa.V
set_option linter.unusedVariables false
set_option linter.unusedSimpArgs false
set_option maxRecDepth 8000
set_option maxHeartbeats 8000000
theorem own_next {s : St} {t a : Nat} {b b' : Blk} {F : Nat → Blk} {e : List (Nat × AV)} {l : List (Nat × Fam)} (hx : fx3 t = false) (ha : s.heap a = some (1, F)) (hF : F 0 = b') (hb : BLe (s1 t a) b' b) (hok : b.ok (fun g => memN g (t :: keys l))) (hn : notIn t a (keys l) = true) (h6 : (memN 60 (keys l) && memN 61 (keys l) && memN 62 (keys l)) = true)
    (he : AllE s (s1 t a) (fun g => memN g (t :: keys l)) e) (hl : AllH s (s1 t a) (fun g => memN g (t :: keys l)) l) : Imp s (stl e ((t, (1, fun _ => b)) :: l)) := by
  refine imp_stl (h := (t, (1, fun _ => b)) :: l) (s1 t a) (fun _ g hg r => s1_ne fun e => by rw [e, hx] at hg; cases hg) (s1_injl hn) he ⟨fun r hr => ?_, hl⟩ ?_
  · obtain rfl : r = 0 := by omega
    rw [s1_t]
    exact ⟨1, F, ha, Nat.zero_lt_one, by rw [hF]; exact hb, hok⟩
  · rw [Bool.or_eq_true]; right
    rw [Bool.and_eq_true, Bool.and_eq_true] at h6
    have up : ∀ x, memN x (keys l) = true → memN x (keys ((t, ((1, fun _ => b) : Fam)) :: l)) = true := fun x hx => by
      show memN x (t :: keys l) = true
      rw [memN_cons]; cases Nat.beq x t
      · exact hx
      · rfl
    rw [up _ h6.1.1, up _ h6.1.2, up _ h6.2]; rfl
theorem le_nil {σ : Ren} {fr : Bool} {f : Nat → RA} : Le σ (.v (.slice none 0 0)) (.row fr 0 f) := by
  intro S B β w v hv
  have hv : v = .slice none 0 0 := hv
  subst hv
  exact ⟨none, 0, rfl, Nat.le_refl _, Nat.zero_le _, fun i hi => absurd hi (Nat.not_lt_zero _)⟩
theorem tk_err {n : Nat} {l : List Int} {e : Int} (h : e ≠ 0) : tkP n l e = (zs n, l, e) := by unfold tkP; rw [if_neg h]
theorem sm_err {m : Int} {l : List Int} {e : Int} (h : e ≠ 0) : smP m l e = (0, l, e) := by unfold smP; rw [tk_err h]; simp [h]
theorem lm_err {l : List Int} {e : Int} (h : e ≠ 0) : lmP l e = ([], l, e) := by unfold lmP; rw [sm_err h]; rfl
/-- A number is taken. -/
def nmP (l : List Int) (e : Int) : RA × List Int × Int :=
  (.raw (decide ((smP 1 l e).1 = 1)) (lmP (smP 1 l e).2.1 (smP 1 l e).2.2).1 (lmP (lmP (smP 1 l e).2.1 (smP 1 l e).2.2).2.1 (lmP (smP 1 l e).2.1 (smP 1 l e).2.2).2.2).1,
    (lmP (lmP (smP 1 l e).2.1 (smP 1 l e).2.2).2.1 (lmP (smP 1 l e).2.1 (smP 1 l e).2.2).2.2).2)
theorem nm_err {l : List Int} {e : Int} (h : e ≠ 0) : nmP l e = (.raw false [] [], l, e) := by unfold nmP; rw [sm_err h, lm_err h, lm_err h]; rfl
theorem lm_by {l : List Int} {e : Int} (hb : By l) : By (lmP l e).2.1 ∧ (lmP l e).2.1.length ≤ l.length := by
  have h := sm_by (m := 4) (e := e) hb
  have h2 := lmI_by (e := (smP 4 l e).2.2) h.1 (smP 4 l e).1.toNat
  exact ⟨h2.1, Nat.le_trans h2.2.1 h.2⟩
theorem nm_by {l : List Int} {e : Int} (hb : By l) : By (nmP l e).2.1 ∧ (nmP l e).2.1.length ≤ l.length := by
  have h := sm_by (m := 1) (e := e) hb
  have h1 := lm_by (e := (smP 1 l e).2.2) h.1
  have h2 := lm_by (e := (lmP (smP 1 l e).2.1 (smP 1 l e).2.2).2.2) h1.1
  exact ⟨h2.1, Nat.le_trans h2.2 (Nat.le_trans h1.2 h.2)⟩
/-- So many numbers are taken. -/
def rwI (l : List Int) (e : Int) : Nat → List RA × List Int × Int
  | 0 => ([], l, e)
  | i + 1 => ((rwI l e i).1 ++ [(nmP (rwI l e i).2.1 (rwI l e i).2.2).1], (nmP (rwI l e i).2.1 (rwI l e i).2.2).2)
theorem rw_by {l : List Int} {e : Int} (hb : By l) : ∀ i, By (rwI l e i).2.1 ∧ (rwI l e i).2.1.length ≤ l.length ∧ (rwI l e i).1.length = i
  | 0 => ⟨hb, Nat.le_refl _, rfl⟩
  | i + 1 => by
    obtain ⟨h1, h2, h3⟩ := rw_by hb i
    have h4 := nm_by (e := (rwI l e i).2.2) h1
    exact ⟨h4.1, Nat.le_trans h4.2 h2, by show (_ ++ [_]).length = _; rw [List.length_append, h3]; rfl⟩
theorem rw_err {l : List Int} {e : Int} {i : Nat} (h : (rwI l e i).2.2 ≠ 0) : ∀ k, (rwI l e (i + k)).2 = (rwI l e i).2
  | 0 => rfl
  | k + 1 => by
    have ih := rw_err h k
    show (nmP (rwI l e (i + k)).2.1 (rwI l e (i + k)).2.2).2 = _
    rw [ih, nm_err h]
theorem glue_raw {q : List RA} {x : RA} {f' : Nat → RA} {i j : Nat} (hq : q.length = i) (hf : f' 0 = x) (hj : j < i + 1) : glue i (fun j => q.getD j ra0) f' j = (q ++ [x]).getD j ra0 := by
  subst hq
  show (if j < q.length then q.getD j ra0 else f' (j - q.length)) = _
  by_cases h : j < q.length
  · rw [if_pos h, List.getD_eq_getElem?_getD, List.getD_eq_getElem?_getD, List.getElem?_append_left h]
  · rw [if_neg h, List.getD_eq_getElem?_getD, List.getElem?_append_right (by omega), show j - q.length = 0 by omega, hf]; rfl
/-- How many numbers a row has. -/
def rwN (l : List Int) (e : Int) (n : Nat) : Nat := if ∀ j, j < n → (rwI l e j).2.2 = 0 then n else 0
def rwF (l : List Int) (e : Int) (n : Nat) (i : Nat) : RA := (rwI l e n).1.getD i ra0
theorem c_row {l : List Int} {e : Int} {n : Nat} (hb : By l) (hl : l.length ≤ 100000000) (hn : n ≤ 100) : HasH Try.prog 39 (RdS l e) [.ptr 60 0 0, .i n] (.row false (rwN l e n) (rwF l e n)) (RdS (rwI l e n).2.1 (rwI l e n).2.2) := by
  have hn' : (n : Int) ≤ 100 := by omega
  refine hasH_of Try.func39 (by kernel_rfl) rfl Try.ntmps39 Try.results39 True.intro rfl rfl ?_
  refine run0p ?_
  refine awp_loop (fun m' s => ∃ i, i ≤ n ∧ (∀ j, j < i → (rwI l e j).2.2 = 0) ∧ m' = n - i ∧ s = stl [(0, .ptr 60 0 0), (5, .own 20 0), (9, .i (n : Int)), (10, .i (i : Int))] ((20, (1, fun _ => .rats i (fun j => (rwI l e i).1.getD j ra0))) :: RdS (rwI l e i).2.1 (rwI l e i).2.2)) n _ ?_ ⟨0, by omega, (fun j hj => absurd hj (Nat.not_lt_zero _)), rfl, rfl⟩ ?_
  · refine own_next (t := 20) (a := 8) rfl rfl rfl (blen rfl fun i hi => absurd hi (Nat.not_lt_zero _)) True.intro rfl rfl ?_ ?_
    · exact alle rfl (Le.ptr rfl) rfl (alle rfl (Le.own s1_t) rfl (alle rfl (Le.eq rfl rfl) True.intro (alle rfl (Le.eq rfl rfl) True.intro True.intro)))
    · exact allh rfl (by decide) (rd_le rfl rfl) (fun i _ => rdF_ok _ _ _ i) (all0 (all0 True.intro))
  rintro m' s ⟨i, hi, hz, rfl, rfl⟩
  have hi' : (i : Int) ≤ 100 := by omega
  obtain ⟨a1, a2, a3⟩ := rw_by (e := e) hb i
  refine run0p ?_
  refine awp_if rfl (fun h => ?_) (fun h => ?_)
  · have h : (i : Int) < (n : Int) := h
    refine run0p ?_
    by_cases h0 : (rwI l e i).2.2 = 0
    · have d0 : decide ((rwI l e i).2.2 ≠ 0) = false := decide_eq_false (fun c => c h0)
      have c1 := c_sm (m := 1) (e := (rwI l e i).2.2) (by decide) a1 (by omega)
      have k1 := sm_by (m := 1) (e := (rwI l e i).2.2) a1
      have c2 := c_limbs (e := (smP 1 (rwI l e i).2.1 (rwI l e i).2.2).2.2) k1.1 (by omega)
      have k2 := lm_by (e := (smP 1 (rwI l e i).2.1 (rwI l e i).2.2).2.2) k1.1
      have c3 := c_limbs (e := (lmP (smP 1 (rwI l e i).2.1 (rwI l e i).2.2).2.1 (smP 1 (rwI l e i).2.1 (rwI l e i).2.2).2.2).2.2) k2.1 (by omega)
      have hnx : rwI l e (i + 1) = ((rwI l e i).1 ++ [(nmP (rwI l e i).2.1 (rwI l e i).2.2).1], (nmP (rwI l e i).2.1 (rwI l e i).2.2).2) := rfl
      refine awp_no rfl d0 ?_
      refine run0p ?_
      ((with_reducible apply st_callH); exact rfl; exact rfl; exact rfl; exact (c1); (first | exact True.intro | exact ⟨rfl, rfl, rfl, True.intro⟩); exact rfl; exact rfl; exact rfl; exact rfl; (focus (repeat (first | exact True.intro | refine ⟨(by first | exact True.intro | rfl | exact ok_none (closed_ok rfl)), ?_⟩))); (first | exact True.intro | exact okf_WH | exact okf_pf (by exact True.intro) (by exact True.intro) | exact okf_rd | exact okf_pr))
      refine run0p ?_
      ((with_reducible apply st_callH); exact rfl; exact rfl; exact rfl; exact (c2); (first | exact True.intro | exact ⟨rfl, rfl, rfl, True.intro⟩); exact rfl; exact rfl; exact rfl; exact rfl; (focus (repeat (first | exact True.intro | refine ⟨(by first | exact True.intro | rfl | exact ok_none (closed_ok rfl)), ?_⟩))); (first | exact True.intro | exact okf_WH | exact okf_pf (by exact True.intro) (by exact True.intro) | exact okf_rd | exact okf_pr))
      refine run0p ?_
      ((with_reducible apply st_callH); exact rfl; exact rfl; exact rfl; exact (c3); (first | exact True.intro | exact ⟨rfl, rfl, rfl, True.intro⟩); exact rfl; exact rfl; exact rfl; exact rfl; (focus (repeat (first | exact True.intro | refine ⟨(by first | exact True.intro | rfl | exact ok_none (closed_ok rfl)), ?_⟩))); (first | exact True.intro | exact okf_WH | exact okf_pf (by exact True.intro) (by exact True.intro) | exact okf_rd | exact okf_pr))
      refine run0p ?_
      refine q_loop (m' := n - (i + 1)) (by omega) ?_ ⟨i + 1, by omega, fun j hj => (if c : j < i then hz j c else by rw [show j = i by omega]; exact h0), rfl, rfl⟩
      rw [hnx]
      refine own_next (t := 20) (a := 30) rfl rfl rfl (blen rfl fun j hj => glue_raw a3 rfl hj) True.intro rfl rfl ?_ ?_
      · exact alle rfl (Le.ptr rfl) rfl (alle rfl (Le.own s1_t) rfl (alle rfl (Le.eq rfl rfl) True.intro (alle rfl (Le.eq rfl rfl) True.intro True.intro)))
      · exact allh rfl (by decide) (rd_le rfl rfl) (fun i _ => rdF_ok _ _ _ i) (all0 (all0 True.intro))
    · have d0 : decide ((rwI l e i).2.2 ≠ 0) = true := decide_eq_true h0
      refine awp_yes rfl d0 ?_
      refine run0p ?_
      have e1 : rwN l e n = 0 := if_neg fun c => h0 (c i (by omega))
      have e2 : (rwI l e n).2 = (rwI l e i).2 := by
        have := rw_err h0 (n - i)
        rwa [show i + (n - i) = n by omega] at this
      rw [e1, e2]
      refine ⟨.inr rfl, [(4, .row false 0 (rwF l e n))], imp_id ?_ ?_, .one (.tmp rfl)⟩
      · exact alle rfl le_nil True.intro True.intro
      · exact allh rfl (by decide) (rd_le rfl rfl) (fun i _ => rdF_ok _ _ _ i) (all0 (all0 True.intro))
  · have h : ¬ (i : Int) < (n : Int) := h
    have e : i = n := by omega
    subst e
    have e1 : rwN l e i = i := if_pos hz
    refine run0p ?_
    rw [e1]
    refine ⟨.inr rfl, [(4, .row false i (rwF l e i))], (imp_rowv 4 (rwF l e i) rfl rfl rfl fun j _ => rfl).trans (imp_id ?_ ?_), .one (.tmp rfl)⟩
    · exact alle rfl (Le.row rfl (fun _ _ => rfl) (fun h => by cases h)) True.intro True.intro
    · exact allh rfl (by decide) (rd_le rfl rfl) (fun i _ => rdF_ok _ _ _ i) (all0 (all0 True.intro))
end Go.Proofs.Ytpclkgjhfhhddaa.AM
/- ref6: bytes are taken. -/
namespace Go.Proofs.Ytpclkgjhfhhddaa.AM
open Go Go.RowKit Go.Proofs.Ytpclkgjhfhhddaa.PN Go.Proofs.Ytpclkgjhfhhddaa.V
set_option linter.unusedVariables false
set_option linter.unusedSimpArgs false
set_option maxRecDepth 8000
set_option maxHeartbeats 8000000
/-- A parser: its bytes, its place, its error. -/
def prF (b : List Int) (p : Nat) (e : Int) (i : Nat) : AV := [AV.seq .u8 b, .i p, .i e].getD i (.v undef)
theorem prF_ok (b : List Int) (p : Nat) (e : Int) (U : Nat → Bool) : ∀ i, (prF b p e i).ok U
  | 0 | 1 | 2 => trivial
  | _ + 3 => trivial
abbrev PST : TypeId := 81
def PrS (b : List Int) (p : Nat) (e : Int) : List (Nat × Fam) := [(60, (1, fun _ => .ones PST 3 (prF b p e))), (61, (0, fun _ => .rats 0 fun _ => ra0)), (62, (0, fun _ => .rats 0 fun _ => ra0))]
theorem okf_pr {U : Nat → Bool} {b : List Int} {p : Nat} {e : Int} : okf U (PrS b p e) :=
  ⟨fun r _ i _ => prF_ok b p e U i, fun r hr => absurd hr (Nat.not_lt_zero _), fun r hr => absurd hr (Nat.not_lt_zero _), trivial⟩
/-- A byte is taken. -/
def byP (b : List Int) (p : Nat) (e : Int) : Int × Nat × Int := if e = 0 then (if b.length ≤ p then (0, p, 6) else (b.getD p 0, p + 1, 0)) else (0, p, e)
/-- One that is not above a bound. -/
def blP (m : Int) (b : List Int) (p : Nat) (e : Int) : Int × Nat × Int := if (byP b p e).2.2 = 0 ∧ m < (byP b p e).1 then ((byP b p e).1, (byP b p e).2.1, 1) else byP b p e
end Go.Proofs.Ytpclkgjhfhhddaa.AM
/- ref6: limbs, numbers are taken. -/
namespace Go.Proofs.Ytpclkgjhfhhddaa.AM
open Go Go.RowKit Go.Proofs.Ytpclkgjhfhhddaa.PN Go.Proofs.Ytpclkgjhfhhddaa.V
set_option linter.unusedVariables false
set_option linter.unusedSimpArgs false
set_option maxRecDepth 8000
set_option maxHeartbeats 8000000
/-- The bytes of a limb. -/
def xbI (b : List Int) (p : Nat) (e : Int) : Nat → Int × Nat × Int
  | 0 => (0, p, e)
  | k + 1 => (borN (xbI b p e k).1 (shlN (byP b (xbI b p e k).2.1 (xbI b p e k).2.2).1 (8 * (k : Int))), (byP b (xbI b p e k).2.1 (xbI b p e k).2.2).2)
/-- Limbs. -/
def lbI (b : List Int) (p : Nat) (e : Int) : Nat → List Nat × Nat × Int
  | 0 => ([], p, e)
  | i + 1 => ((lbI b p e i).1 ++ [(xbI b (lbI b p e i).2.1 (lbI b p e i).2.2 4).1.toNat], (xbI b (lbI b p e i).2.1 (lbI b p e i).2.2 4).2)
/-- How many are taken: until there is an error. -/
def cutN (f : Nat → Int) : Nat → Nat
  | 0 => 0
  | n + 1 => if cutN f n = n ∧ f n = 0 then n + 1 else cutN f n
def lbP (b : List Int) (p : Nat) (e : Int) : List Nat × Nat × Int :=
  lbI b (blP 4 b p e).2.1 (blP 4 b p e).2.2 (cutN (fun i => (lbI b (blP 4 b p e).2.1 (blP 4 b p e).2.2 i).2.2) (blP 4 b p e).1.toNat)
/-- A number. -/
def nbP (b : List Int) (p : Nat) (e : Int) : RA × Nat × Int :=
  (.raw (decide ((blP 1 b p e).1 = 1)) (lbP b (blP 1 b p e).2.1 (blP 1 b p e).2.2).1 (lbP b (lbP b (blP 1 b p e).2.1 (blP 1 b p e).2.2).2.1 (lbP b (blP 1 b p e).2.1 (blP 1 b p e).2.2).2.2).1,
    (lbP b (lbP b (blP 1 b p e).2.1 (blP 1 b p e).2.2).2.1 (lbP b (blP 1 b p e).2.1 (blP 1 b p e).2.2).2.2).2)
/-- So many numbers. -/
def rbI (b : List Int) (p : Nat) (e : Int) : Nat → List RA × Nat × Int
  | 0 => ([], p, e)
  | i + 1 => ((rbI b p e i).1 ++ [(nbP b (rbI b p e i).2.1 (rbI b p e i).2.2).1], (nbP b (rbI b p e i).2.1 (rbI b p e i).2.2).2)
/-- How many numbers a row has. -/
def rbN (b : List Int) (p : Nat) (e : Int) (n : Nat) : Nat := cutN (fun i => (rbI b p e i).2.2) n
def rbF (b : List Int) (p : Nat) (e : Int) (n : Nat) (i : Nat) : RA := (rbI b p e (rbN b p e n)).1.getD i ra0
end Go.Proofs.Ytpclkgjhfhhddaa.AM
/- Laws of systems: what is known. -/
namespace Go.Proofs.Ytpclkgjhfhhddaa.AM
open Go Go.RowKit Go.Proofs.Ytpclkgjhfhhddaa.PN Go.Proofs.Ytpclkgjhfhhddaa.V
open Go.Proofs.Ytpclkgjhfhhddaa.LA (S S_succ S_zero S_congr)
set_option linter.unusedVariables false
set_option linter.unusedSimpArgs false
set_option maxRecDepth 8000
set_option maxHeartbeats 8000000
theorem rv_agv {S : Nat → Prop} {B : Nat} {β : Nat → Nat → Value} {w : World} {n : Nat} {f f' : Nat → AV} (h : ∀ i, i < n → ∀ v, RV S B β w (f i) v → RV S B β w (f' i) v) (v : Value) (hv : RV S B β w (.ag n f) v) : RV S B β w (.ag n f') v := by
  obtain ⟨cs, e1, e2, e3⟩ := hv
  refine ⟨cs, e1, e2, fun i hi => ?_⟩
  obtain ⟨y, a0, a1, a2⟩ := e3 i hi
  exact ⟨y, a0, a1, h i hi y a2⟩
def kg : GD := ⟨3, 1, 0, 1, 0, 0, 0, fun _ => 5, fun _ => 0, fun _ => 0, fun _ => 0⟩
end Go.Proofs.Ytpclkgjhfhhddaa.AM

/- Joined texts, 22: GcB AmLi GcC. -/
import Derived.Test.YtpclkgjhfhhddaaJLawGenChecks21
import Derived.Test.YtpclkgjhfhhddaaJLawGenChecks17
import Derived.Test.YtpclkgjhfhhddaaJLawGenChecks15
set_option linter.unusedVariables false
set_option linter.unusedSimpArgs false
/- A piece of a walk in which what is known of numbers stands still. -/
namespace Go.Proofs.Ytpclkgjhfhhddaa.AM
open Go Go.RowKit Go.Proofs.Ytpclkgjhfhhddaa.PN Go.Proofs.Ytpclkgjhfhhddaa.V
set_option linter.unusedVariables false
set_option linter.unusedSimpArgs false
set_option maxRecDepth 8000
set_option maxHeartbeats 4000000
theorem stl_mem {e : List (Nat × AV)} {h : List (Nat × Fam)} {g : Nat} {x : Fam} (k : (stl e h).heap g = some x) : (g, x) ∈ h := lkp_mem k
theorem stl_meme {e : List (Nat × AV)} {h : List (Nat × Fam)} {t : Nat} {x : AV} (k : (stl e h).env t = some x) : (t, x) ∈ e := lkp_mem k
abbrev gcN (q : Nat) : AV := .own q 0
/-- A number of own limbs. -/
def gcU (q : Nat) (i : Nat) : AV := [AV.v (.bool false), .own q 0, .arr 1 1 (fun i => [AV.v (.int .u32 1)].getD i (.v undef))].getD i (.v undef)
/-- Before the piece, and within, and behind it. -/
def gcS (k : Int) (n M : Nat) (F15 f : Nat → AV) : St := stl [(5, .i k), (15, .ptr 15 0 0)] [(15, (1, fun _ => .ones 26 7 (updN F15 5 (.sl 120 0 0 n)))), (120, (1, fun _ => .ones 43 M f))]
def gcR (k : Int) (n M : Nat) (V U : Nat → Value) : St := stl [(5, .i k), (15, .ptr 15 0 0)] [(15, (1, fun _ => .ones 26 7 (updN (fun i => .v (V i)) 5 (.sl 120 0 0 n)))), (120, (1, fun _ => .ones 43 M (fun i => .v (U i)))), (77, (0, fun _ => .rats 0 fun _ => ra0))]
def gcT (n M q L ka : Nat) (V U : Nat → Value) (F : Nat → Nat) : St := stl [(15, .ptr 15 0 0)] [(15, (1, fun _ => .ones 26 7 (updN (fun i => .v (V i)) 5 (.sl 120 0 0 n)))), (120, (1, fun _ => .ones 43 M (put3 (fun i => .v (U i)) ka (gcU q)))), (q, (1, fun _ => .lims L F)), (77, (0, fun _ => .rats 0 fun _ => ra0))]
def gcE (n M ka : Nat) (F15 f : Nat → AV) (l : List Nat) : St := stl [(15, .ptr 15 0 0)] [(15, (1, fun _ => .ones 26 7 (updN F15 5 (.sl 120 0 0 n)))), (120, (1, fun _ => .ones 43 M (put3 f ka (pag false l [1]))))]
theorem gcS_heap {k : Int} {n M : Nat} {F15 f : Nat → AV} {g m : Nat} {F : Nat → Blk} (h : (gcS k n M F15 f).heap g = some (m, F)) : (g = 15 ∧ m = 1 ∧ F = fun _ => .ones 26 7 (updN F15 5 (.sl 120 0 0 n))) ∨ (g = 120 ∧ m = 1 ∧ F = fun _ => .ones 43 M f) := by
  have h := stl_mem h
  rcases List.mem_cons.1 h with e | e
  · cases e; exact .inl ⟨rfl, rfl, rfl⟩
  rcases List.mem_cons.1 e with e | e
  · cases e; exact .inr ⟨rfl, rfl, rfl⟩
  · cases e
theorem gcR_heap {k : Int} {n M : Nat} {V U : Nat → Value} {g m : Nat} {F : Nat → Blk} (h : (gcR k n M V U).heap g = some (m, F)) : (g = 15 ∧ m = 1 ∧ F = fun _ => .ones 26 7 (updN (fun i => .v (V i)) 5 (.sl 120 0 0 n))) ∨ (g = 120 ∧ m = 1 ∧ F = fun _ => .ones 43 M (fun i => .v (U i))) ∨ m = 0 := by
  have h := stl_mem h
  rcases List.mem_cons.1 h with e | e
  · cases e; exact .inl ⟨rfl, rfl, rfl⟩
  rcases List.mem_cons.1 e with e | e
  · cases e; exact .inr (.inl ⟨rfl, rfl, rfl⟩)
  rcases List.mem_cons.1 e with e | e
  · cases e; exact .inr (.inr rfl)
  · cases e
theorem gcE_heap {n M ka : Nat} {F15 f : Nat → AV} {l : List Nat} {g m : Nat} {F : Nat → Blk} (h : (gcE n M ka F15 f l).heap g = some (m, F)) : (g = 15 ∧ m = 1 ∧ F = fun _ => .ones 26 7 (updN F15 5 (.sl 120 0 0 n))) ∨ (g = 120 ∧ m = 1 ∧ F = fun _ => .ones 43 M (put3 f ka (pag false l [1]))) := by
  have h := stl_mem h
  rcases List.mem_cons.1 h with e | e
  · cases e; exact .inl ⟨rfl, rfl, rfl⟩
  rcases List.mem_cons.1 e with e | e
  · cases e; exact .inr ⟨rfl, rfl, rfl⟩
  · cases e
theorem gcT_15 {n M q L ka : Nat} {V U : Nat → Value} {F : Nat → Nat} : (gcT n M q L ka V U F).heap 15 = some (1, fun _ => .ones 26 7 (updN (fun i => .v (V i)) 5 (.sl 120 0 0 n))) := rfl
theorem gcT_120 {n M q L ka : Nat} {V U : Nat → Value} {F : Nat → Nat} : (gcT n M q L ka V U F).heap 120 = some (1, fun _ => .ones 43 M (put3 (fun i => .v (U i)) ka (gcU q))) := rfl
theorem gcT_q {n M q L ka : Nat} {V U : Nat → Value} {F : Nat → Nat} (h1 : Nat.beq q 15 = false) (h2 : Nat.beq q 120 = false) : (gcT n M q L ka V U F).heap q = some (1, fun _ => .lims L F) := by
  show (bif Nat.beq q 15 then _ else bif Nat.beq q 120 then _ else bif Nat.beq q q then _ else _) = _
  rw [h1, h2, Nat.beq_refl]; rfl
theorem row_ty {w : World} {k : Nat} {cs cs' : Array Value} {T T' : TypeId} (h : Row? w k cs T) (h' : Row? w k cs' T') : T = T' := by
  have e := h.symm.trans h'
  cases e; rfl
theorem gc_frame {W : Wd} (hW : TopW W) {N : Nat} {Q : Exit → St → Prop} {c : Code} {k : Int} {n M q L ka : Nat} {F15 f : Nat → AV} {F : Nat → Nat} (l : List Nat) (hM : 0 < M) (hq1 : Nat.beq q 15 = false) (hq2 : Nat.beq q 120 = false) (h15 : ∀ i, i < 7 → i ≠ 5 → (F15 i).ok (fun _ => false)) (hf : ∀ i, i < M → (f i).ok (fun _ => false)) (hl : l.length = L) (hlF : ∀ i, i < L → F i = l.getD i 0)
    (sub : ∀ W' V U, AWPt W' Try.prog N c (fun x s'' => x = .normal ∧ ImpT W' s'' (gcT n M q L ka V U F)) (gcR k n M V U)) (hQ : Q .normal (gcE n M ka F15 f l)) : AWPt W Try.prog N c Q (gcS k n M F15 f) := by
  refine ⟨fun β w a hs => ?_⟩
  have hb15 := (hs.heap 15 1 _ 0 rfl Nat.zero_lt_one)
  have hb120 := (hs.heap 120 1 _ 0 rfl Nat.zero_lt_one)
  obtain ⟨ok15, hT15, hr15⟩ := hb15
  obtain ⟨ok120, hT120, hr120⟩ := hb120
  rcases hr15 with ⟨_, e⟩ | ⟨k15, cs15, hB15, row15, at15, hx15⟩
  · cases e
  rcases hr120 with ⟨_, e⟩ | ⟨k120, cs120, hB120, row120, at120, hx120⟩
  · omega
  let V : Nat → Value := fun i => cs15[i]?.getD undef
  let U : Nat → Value := fun i => cs120[i]?.getD undef
  have hV : ∀ i, i < 7 → cs15[i]? = some (V i) ∧ (V i).oneCell' = true ∧ RV (notOwn W (gcS k n M F15 f) β) W.w.heap.size β w (updN F15 5 (.sl 120 0 0 n) i) (V i) := fun i hi => by
    obtain ⟨y, a0, a1, a2⟩ := hx15 i hi
    have e : V i = y := by show cs15[i]?.getD undef = y; rw [a0]; rfl
    rw [e]; exact ⟨a0, a1, a2⟩
  have hU : ∀ i, i < M → cs120[i]? = some (U i) ∧ (U i).oneCell' = true ∧ RV (notOwn W (gcS k n M F15 f) β) W.w.heap.size β w (f i) (U i) := fun i hi => by
    obtain ⟨y, a0, a1, a2⟩ := hx120 i hi
    have e : U i = y := by show cs120[i]?.getD undef = y; rw [a0]; rfl
    rw [e]; exact ⟨a0, a1, a2⟩
  let W' : Wd := ⟨W.w, fun _ => True, w, fun b => b < w.heap.size ∧ ¬ Own (gcS k n M F15 f) β b, fun _ _ _ _ => trivial, fun b h => h.1, none⟩
  have hmap : ∀ g m G r, (gcR k n M V U).heap g = some (m, G) → r < m → ∃ m' G', (gcS k n M F15 f).heap g = some (m', G') ∧ r < m' := fun g m G r h1 h2 => by
    rcases gcR_heap h1 with ⟨rfl, rfl, _⟩ | ⟨rfl, rfl, _⟩ | rfl
    · exact ⟨1, _, rfl, h2⟩
    · exact ⟨1, _, rfl, h2⟩
    · omega
  have hs' : Sim W' N β w a (gcR k n M V U) := by
    refine ⟨hs.kept, hs.nodef, hs.size, fun t x hx => ?_, fun g m G r h1 h2 => ?_, fun g m G h => lkp_key h, fun g1 n1 F1 r1 g2 n2 F2 r2 i h1 h2 h3 h4 h5 h6 => ?_, Fix.refl _ _, fun b ho hP => ?_, fun u hu => (by cases hu), fun u hu => (by cases hu)⟩
    · have hx := stl_meme hx
      rcases List.mem_cons.1 hx with e | e
      · cases e; exact ⟨trivial, (hs.env 5 _ rfl).2⟩
      rcases List.mem_cons.1 e with e | e
      · cases e; exact ⟨rfl, (hs.env 15 _ rfl).2⟩
      · cases e
    · rcases gcR_heap h1 with ⟨rfl, rfl, rfl⟩ | ⟨rfl, rfl, rfl⟩ | rfl
      · obtain rfl : r = 0 := by omega
        refine ⟨fun i hi => ?_, hT15, .inr ⟨k15, cs15, hB15, row15, at15, fun i hi => ?_⟩⟩
        · unfold updN; split
          · rfl
          · trivial
        · obtain ⟨a0, a1, a2⟩ := hV i hi
          refine ⟨V i, a0, a1, ?_⟩
          unfold updN at a2 ⊢
          by_cases e : i = 5
          · rw [if_pos e] at a2 ⊢; exact a2
          · rw [if_neg e]; rfl
      · obtain rfl : r = 0 := by omega
        exact ⟨fun i hi => trivial, hT120, .inr ⟨k120, cs120, hB120, row120, at120, fun i hi => ⟨U i, (hU i hi).1, (hU i hi).2.1, rfl⟩⟩⟩
      · omega
    · obtain ⟨m1, G1, a1, a2⟩ := hmap _ _ _ _ h1 h2
      obtain ⟨m2, G2, b1, b2⟩ := hmap _ _ _ _ h3 h4
      exact hs.inj _ _ _ _ _ _ _ _ i a1 a2 b1 b2 h5 h6
    · obtain ⟨g, m, G, r, h1, h2, h3⟩ := ho
      obtain ⟨m1, G1, a1, a2⟩ := hmap _ _ _ _ h1 h2
      exact hP.2 ⟨g, m1, G1, r, a1, a2, h3⟩
  refine wp_mono ((sub W' V U).out β w a hs') ?_
  rintro x a' w' ⟨β1, s1, hs1, rfl, hi⟩
  obtain ⟨β', hs3⟩ := hi _ _ _ _ hs1
  refine ⟨β', gcE n M ka F15 f l, ?_, hQ⟩
  have hnou : ∀ b cs, Row? w b cs U32 → ¬ Own (gcS k n M F15 f) β b := by
    rintro b cs hr ⟨g, m, G, r, h1, h2, h3⟩
    rcases gcS_heap h1 with ⟨rfl, rfl, rfl⟩ | ⟨rfl, rfl, rfl⟩
    · obtain rfl : r = 0 := by omega
      rw [ub_at at15] at h3; cases h3
      exact hT15 (row_ty row15 hr)
    · obtain rfl : r = 0 := by omega
      rw [ub_at at120] at h3; cases h3
      exact hT120 (row_ty row120 hr)
  have hext : Ext (Own (gcS k n M F15 f) β) w w' := ⟨hs3.fix.size, fun b hb ho => hs3.fix.block b hb ⟨hb, ho⟩, fun b cs hr => (hs3.fix.block b hr.lt ⟨hr.lt, hnou b cs hr⟩).trans hr⟩
  have hsub : ∀ g m G r, (gcE n M ka F15 f l).heap g = some (m, G) → r < m → ∃ m' G', (gcT n M q L ka V U F).heap g = some (m', G') ∧ r < m' := fun g m G r h1 h2 => by
    rcases gcE_heap h1 with ⟨rfl, rfl, _⟩ | ⟨rfl, rfl, _⟩
    · exact ⟨1, _, rfl, h2⟩
    · exact ⟨1, _, rfl, h2⟩
  have hown : ∀ b, Own (gcE n M ka F15 f l) β' b → Own (gcT n M q L ka V U F) β' b := by
    rintro b ⟨g, m, G, r, h1, h2, h3⟩
    obtain ⟨m1, G1, a1, a2⟩ := hsub _ _ _ _ h1 h2
    exact ⟨g, m1, G1, r, a1, a2, h3⟩
  have kf : Fwd (notOwn W (gcS k n M F15 f) β) (notOwn W (gcE n M ka F15 f l) β') W.w.heap.size W.w.heap.size (fun _ => false) β β' (Own (gcS k n M F15 f) β) w w' :=
    ⟨hext, fun b hb ho => hb.2 ho, fun b hb hlt => ⟨fun _ => hW.all b, fun ho => hs3.pin b (hown b ho) ⟨hlt, hb.2⟩⟩, Nat.le_refl _, fun _ _ h => by cases h⟩
  have hS : ∀ b, notOwn W' (gcT n M q L ka V U F) β' b → notOwn W (gcE n M ka F15 f l) β' b := fun b hb => ⟨fun _ => hW.all b, fun ho => hb.2 (hown b ho)⟩
  refine ⟨hs3.kept, hs3.nodef, hs3.size, fun t x hx => ?_, fun g m G r h1 h2 => ?_, fun g m G h => lkp_key h, fun g1 n1 F1 r1 g2 n2 F2 r2 i h1 h2 h3 h4 h5 h6 => ?_, ⟨Nat.le_trans hs.fix.size hs3.fix.size, fun b _ hP => absurd hP (hW.none b)⟩, fun b _ => hW.none b, fun u hu => (by rw [hW.f] at hu; cases hu), fun u hu => (by rw [hW.f] at hu; cases hu)⟩
  · have hx := stl_meme hx
    rcases List.mem_cons.1 hx with e | e
    · cases e; exact ⟨rfl, (hs3.env 15 _ rfl).2⟩
    · cases e
  · rcases gcE_heap h1 with ⟨rfl, rfl, rfl⟩ | ⟨rfl, rfl, rfl⟩
    · obtain rfl : r = 0 := by omega
      obtain ⟨_, hT, hb⟩ := hs3.heap 15 1 _ 0 gcT_15 Nat.zero_lt_one
      refine ⟨fun i hi => ?_, hT, ?_⟩
      · unfold updN
        by_cases e : i = 5
        · rw [if_pos e]; rfl
        · rw [if_neg e]; exact ok_none (h15 i hi e)
      · rcases hb with ⟨_, e⟩ | ⟨kb, cs, hB, hrow, hat, hx⟩
        · cases e
        refine .inr ⟨kb, cs, hB, hrow, hat, fun i hi => ?_⟩
        obtain ⟨y, a0, a1, a2⟩ := hx i hi
        refine ⟨y, a0, a1, ?_⟩
        have hv := (hV i hi).2.2
        unfold updN at a2 hv ⊢
        by_cases e : i = 5
        · rw [if_pos e] at a2 ⊢; exact a2
        · rw [if_neg e] at a2 hv ⊢
          have a2 : y = V i := a2
          rw [a2]
          exact hv.fwd kf (h15 i hi e)
    · obtain rfl : r = 0 := by omega
      obtain ⟨_, hT, hb⟩ := hs3.heap 120 1 _ 0 gcT_120 Nat.zero_lt_one
      refine ⟨fun i hi => ?_, hT, ?_⟩
      · unfold put3
        split
        · exact pag_ok _ _ _ _ _
        · exact ok_none (hf i hi)
      · rcases hb with ⟨_, e⟩ | ⟨kb, cs, hB, hrow, hat, hx⟩
        · omega
        refine .inr ⟨kb, cs, hB, hrow, hat, fun i hi => ?_⟩
        obtain ⟨y, a0, a1, a2⟩ := hx i hi
        refine ⟨y, a0, a1, ?_⟩
        unfold put3 at a2 ⊢
        by_cases e : ka * 3 ≤ i ∧ i < ka * 3 + 3
        · rw [if_pos e] at a2 ⊢
          generalize hj : i - ka * 3 = j at *
          have hj3 : j < 3 := by omega
          match j, hj3 with
          | 0, _ => exact a2
          | 1, _ =>
            obtain ⟨e0, A, n', c', e1⟩ := (a2 : _ ∧ _)
            obtain ⟨_, hb⟩ := hs3.heap q 1 _ 0 (gcT_q hq1 hq2) Nat.zero_lt_one
            show PLb _ _ _ _
            rcases hb with ⟨e', hn⟩ | ⟨kb, cs, hB, hr, hat, hx⟩
            · exact ⟨none, 0, by rw [hl, hn]; exact e0.trans e', by omega, fun i hi => by omega⟩
            · rcases hat with ⟨e', _⟩ | ⟨cap, e', h3, h4, _⟩
              · rw [← e0, e1] at e'; cases e'
              · exact ⟨_, cap, by rw [hl]; exact e0.trans e', by omega, fun i hi => ⟨kb, 0, rfl, .inr ⟨cs, hr⟩, by rw [Nat.zero_add]; exact (cell_of_row w' kb _ cs _ (0, 0) hr).trans (by rw [hx i (by omega), hlF i (by omega)])⟩⟩
          | 2, _ =>
            obtain ⟨A, c', e1, e2, e3, e4⟩ := (a2 : ∃ A c, _)
            refine ⟨A, c', e1, e2, fun i hi => ?_⟩
            have hi0 : i = 0 := by have : i < 1 := hi; omega
            subst hi0
            obtain ⟨b, off, y', q1, q2, q3, q4, q5⟩ := e4 0 (by decide)
            have q5 : y' = .int .u32 1 := q5
            exact ⟨b, off, q1, .inl (hS b q2), by rw [q3, q5]; rfl⟩
        · rw [if_neg e] at a2 ⊢
          have a2 : y = U i := a2
          rw [a2]
          exact (hU i hi).2.2.fwd kf (hf i hi)
  · obtain ⟨m1, G1, a1, a2⟩ := hsub _ _ _ _ h1 h2
    obtain ⟨m2, G2, b1, b2⟩ := hsub _ _ _ _ h3 h4
    exact hs3.inj _ _ _ _ _ _ _ _ i a1 a2 b1 b2 h5 h6
end Go.Proofs.Ytpclkgjhfhhddaa.AM
/- Own limbs: made, laid behind, handed out. -/
namespace Go.Proofs.Ytpclkgjhfhhddaa.AM
open Go Go.RowKit Go.Proofs.Ytpclkgjhfhhddaa.PN Go.Proofs.Ytpclkgjhfhhddaa.V
set_option linter.unusedVariables false
set_option linter.unusedSimpArgs false
/-- It holds no limbs, and speaks not of family g. -/
def freeG (g : Nat) : AV → Bool
  | .v _ | .seq _ _ => true
  | .own q _ | .ptr q _ _ => !(Nat.beq q g)
  | _ => false
theorem freeG_rv {S S' : Nat → Prop} {B : Nat} {β β' : Nat → Nat → Value} {w w' : World} {O : Nat → Prop} {g : Nat} (hblk : ∀ i, i < w.heap.size → ¬ O i → w'.heap[i]? = w.heap[i]?) (hS : ∀ b, S b → b < w.heap.size → ¬ O b ∧ S' b) (hβ : ∀ q r, q ≠ g → β' q r = β q r) {x : AV} {v : Value} (hf : freeG g x = true) (h : RV S B β w x v) : RV S' B β' w' x v := by
  cases x <;> first | (cases hf; done) | skip
  case v y => exact h
  case seq k l =>
    obtain ⟨A, c, e1, e2, e3, e4⟩ := h
    refine ⟨A, c, e1, e2, e3, fun i hi => ?_⟩
    obtain ⟨p, a1, a2, a3⟩ := e4 i hi
    have hb : (p.add i).block = p.block := by unfold Addr.add; split <;> rfl
    have hlt := World.block_lt_of_cell? _ _ a3
    rw [hb] at hlt
    obtain ⟨q1, q2⟩ := hS _ a2 hlt
    exact ⟨p, a1, q2, (World.cell?_of_block (by rw [hb]; exact hblk _ hlt q1)).trans a3⟩
  case own q r =>
    have hne : q ≠ g := fun e => by simp [freeG, e] at hf
    exact ⟨by rw [hβ q r hne]; exact h.1, h.2⟩
  case ptr q r i =>
    have hne : q ≠ g := fun e => by simp [freeG, e] at hf
    obtain ⟨b, e1, e2⟩ := h
    exact ⟨b, by rw [hβ q r hne]; exact e1, e2⟩
/-- The rest of memory holds no limbs. -/
def FreeH (g : Nat) : List (Nat × Fam) → Prop
  | [] => True
  | (q, (n, F)) :: l => (q ≠ g ∧ ∀ r, r < n → ∃ T m f, F r = .ones T m f ∧ ∀ i, i < m → freeG g (f i) = true) ∧ FreeH g l
theorem FreeH.get {g : Nat} : ∀ {h : List (Nat × Fam)}, FreeH g h → ∀ {q n : Nat} {F : Nat → Blk}, lkp h q = some (n, F) → q ≠ g ∧ ∀ r, r < n → ∃ T m f, F r = .ones T m f ∧ ∀ i, i < m → freeG g (f i) = true
  | [], _, q, n, F, h => by cases h
  | (k, (m, G)) :: l, hf, q, n, F, h => by
    unfold lkp at h
    cases e : Nat.beq q k with
    | true =>
      rw [e, cond_true] at h
      cases h
      have := Nat.eq_of_beq_eq_true e
      subst this
      exact hf.1
    | false => rw [e, cond_false] at h; exact hf.2.get h
/-- What is kept of a state. -/
def SubE (g : Nat) (e0 : List (Nat × AV)) : List (Nat × AV) → Prop
  | [] => True
  | (t, x) :: l => (lkp e0 t = some x ∧ freeG g x = true) ∧ SubE g e0 l
theorem SubE.get {g : Nat} {e0 : List (Nat × AV)} : ∀ {e : List (Nat × AV)}, SubE g e0 e → ∀ {t : Nat} {x : AV}, lkp e t = some x → lkp e0 t = some x ∧ freeG g x = true
  | [], _, t, x, h => by cases h
  | (k, y) :: l, hf, t, x, h => by
    unfold lkp at h
    cases e : Nat.beq t k with
    | true =>
      rw [e, cond_true] at h
      cases h
      rw [Nat.eq_of_beq_eq_true e]
      exact hf.1
    | false => rw [e, cond_false] at h; exact hf.2.get h
theorem lkp_if {α : Type} {k : Nat} {x : α} {l : List (Nat × α)} {t : Nat} : lkp ((k, x) :: l) t = if t = k then some x else lkp l t := by
  show (bif Nat.beq t k then some x else lkp l t) = _
  by_cases h : t = k
  · subst h; rw [Nat.beq_refl, if_pos rfl]; rfl
  · have : Nat.beq t k = false := by cases e : Nat.beq t k with | false => rfl | true => exact absurd (Nat.eq_of_beq_eq_true e) h
    rw [this, if_neg h]
    rfl
/-- Own limbs have turned; nothing else that is told has. -/
theorem Sim.lims {W : Wd} {N : Nat} {β : Nat → Nat → Value} {w w' : World} {a : Act} {e0 e : List (Nat × AV)} {h : List (Nat × Fam)} {g n m : Nat} {f f' : Nat → Nat} {v' : Value} (hs : Sim W N β w a (stl e0 ((g, (1, fun _ => .lims n f)) :: h))) (he : SubE g e0 e) (hh : FreeH g h) (hgx : fx3 g = false)
    (hk : Kept W.w w') (hsz : w.heap.size ≤ w'.heap.size) (hblk : ∀ i, i < w.heap.size → ¬ ub (β g 0) = some i → w'.heap[i]? = w.heap[i]?) (hv : ∀ k, ub v' = some k → ub (β g 0) = some k ∨ w.heap.size ≤ k) (hb : ∀ (S : Nat → Prop) (β : Nat → Nat → Value), RB S W.w.heap.size β w' v' (.lims m f')) (a' : Act) (ha : a'.defers = []) (hN : a'.tmps.size = N)
    (hae : ∀ t x, lkp e t = some x → a'.tmps.getD t undef = a.tmps.getD t undef) :
    Sim W N (setv β g v') w' a' (stl e ((g, (1, fun _ => .lims m f')) :: h)) := by
  have hgh : (stl e0 ((g, (1, fun _ => .lims n f)) :: h)).heap g = some (1, fun _ => .lims n f) := by show lkp _ _ = _; rw [lkp_if, if_pos rfl]
  have hu : ∀ (e : List (Nat × AV)) (x : Nat × Fam), x.1 = g → ∀ q, (stl e (x :: h)).used q = memN q (g :: keys h) := fun e x hx q => by obtain ⟨k, y⟩ := x; cases hx; rfl
  have hq : ∀ (e : List (Nat × AV)) (x : Fam) (q : Nat), q ≠ g → (stl e ((g, x) :: h)).heap q = lkp h q := fun e x q hne => by show lkp _ _ = _; rw [lkp_if, if_neg hne]
  have hβ : ∀ q r, q ≠ g → setv β g v' q r = β q r := fun q r hne => by unfold setv; rw [if_neg hne]
  have hβg : ∀ r, setv β g v' g r = v' := fun r => by unfold setv; rw [if_pos rfl]
  -- own blocks, then and now
  have hown : ∀ i, Own (stl e ((g, (1, fun _ => .lims m f')) :: h)) (setv β g v') i → Own (stl e0 ((g, (1, fun _ => .lims n f)) :: h)) β i ∨ w.heap.size ≤ i := by
    rintro i ⟨q, n1, F1, r1, h1, h2, h3⟩
    by_cases c : q = g
    · subst c
      rw [hβg] at h3
      rcases hv i h3 with h4 | h4
      · exact .inl ⟨q, 1, _, 0, hgh, Nat.zero_lt_one, h4⟩
      · exact .inr h4
    · rw [hq _ _ _ c] at h1
      rw [hβ q r1 c] at h3
      exact .inl ⟨q, n1, F1, r1, by rw [hq _ _ _ c]; exact h1, h2, h3⟩
  have hS : ∀ b, notOwn W (stl e0 ((g, (1, fun _ => .lims n f)) :: h)) β b → b < w.heap.size → ¬ ub (β g 0) = some b ∧ notOwn W (stl e ((g, (1, fun _ => .lims m f')) :: h)) (setv β g v') b := by
    intro b hb hlt
    refine ⟨fun c => hb.2 ⟨g, 1, _, 0, hgh, Nat.zero_lt_one, c⟩, hb.1, fun ho => ?_⟩
    rcases hown b ho with h1 | h1
    · exact hb.2 h1
    · omega
  refine ⟨hk, ha, hN, fun t x hx => ?_, fun q n1 F1 r h1 h2 => ?_, fun q n1 F1 h1 => lkp_key h1, fun q n1 F1 r q' n2 F2 r' i h1 h2 h3 h4 h5 h6 => ?_, ?_, fun k ho hP => ?_, fun u hu' q hqx => ?_, fun u hu' q hqx => ?_⟩
  · obtain ⟨h1, h2⟩ := he.get (show lkp e t = some x from hx)
    obtain ⟨k1, k2⟩ := hs.env t x h1
    exact ⟨k1, by rw [hae t x hx]; exact freeG_rv hblk hS hβ h2 k2⟩
  · by_cases c : q = g
    · subst c
      have h1 : lkp ((q, ((1, fun _ => Blk.lims m f') : Fam)) :: h) q = some (n1, F1) := h1
      rw [lkp_if, if_pos rfl] at h1
      cases h1
      refine ⟨?_, by rw [hβg]; exact hb _ _⟩
      exact (hs.heap q 1 _ 0 hgh Nat.zero_lt_one).1
    · rw [hq _ _ _ c] at h1
      have h1' : (stl e0 ((g, (1, fun _ => .lims n f)) :: h)).heap q = some (n1, F1) := by rw [hq _ _ _ c]; exact h1
      obtain ⟨k1, k2⟩ := hs.heap q n1 F1 r h1' h2
      obtain ⟨_, hfr⟩ := hh.get h1
      obtain ⟨T, mm, ff, e1, e2⟩ := hfr r h2
      refine ⟨k1, ?_⟩
      rw [hβ q r c]
      rw [e1] at k2 ⊢
      obtain ⟨hT, k2⟩ := k2
      refine ⟨hT, ?_⟩
      rcases k2 with k2 | ⟨k, cs, q1, q2, q3, q4⟩
      · exact .inl k2
      · have hne : ¬ ub (β g 0) = some k := fun c2 => c (hs.inj q n1 F1 r g 1 _ 0 k h1' h2 hgh Nat.zero_lt_one (ub_at q3) c2).1
        exact .inr ⟨k, cs, q1, (hblk k q2.lt hne).trans q2, q3, fun i hi => by obtain ⟨y, a0, a1, a2⟩ := q4 i hi; exact ⟨y, a0, a1, freeG_rv hblk hS hβ (e2 i hi) a2⟩⟩
  · by_cases c : q = g <;> by_cases c' : q' = g
    · refine ⟨c.trans c'.symm, ?_⟩
      subst c
      have e1 : lkp ((q, ((1, fun _ => Blk.lims m f') : Fam)) :: h) q = some (n1, F1) := h1
      rw [lkp_if, if_pos rfl] at e1; cases e1
      subst c'
      have e2 : lkp ((q', ((1, fun _ => Blk.lims m f') : Fam)) :: h) q' = some (n2, F2) := h3
      rw [lkp_if, if_pos rfl] at e2; cases e2
      omega
    · exfalso
      subst c
      rw [hβg] at h5
      rw [hq _ _ _ c'] at h3
      rw [hβ q' r' c'] at h6
      have h3' : (stl e0 ((q, (1, fun _ => .lims n f)) :: h)).heap q' = some (n2, F2) := by rw [hq _ _ _ c']; exact h3
      rcases hv i h5 with h7 | h7
      · exact c' (hs.inj q' n2 F2 r' q 1 _ 0 i h3' h4 hgh Nat.zero_lt_one h6 h7).1
      · have := (own_lt hs ⟨q', n2, F2, r', h3', h4, h6⟩).2; omega
    · exfalso
      subst c'
      rw [hβg] at h6
      rw [hq _ _ _ c] at h1
      rw [hβ q r c] at h5
      have h1' : (stl e0 ((q', (1, fun _ => .lims n f)) :: h)).heap q = some (n1, F1) := by rw [hq _ _ _ c]; exact h1
      rcases hv i h6 with h7 | h7
      · exact c (hs.inj q n1 F1 r q' 1 _ 0 i h1' h2 hgh Nat.zero_lt_one h5 h7).1
      · have := (own_lt hs ⟨q, n1, F1, r, h1', h2, h5⟩).2; omega
    · rw [hq _ _ _ c] at h1; rw [hq _ _ _ c'] at h3
      rw [hβ q r c] at h5; rw [hβ q' r' c'] at h6
      exact hs.inj q n1 F1 r q' n2 F2 r' i (by rw [hq _ _ _ c]; exact h1) h2 (by rw [hq _ _ _ c']; exact h3) h4 h5 h6
  · refine ⟨Nat.le_trans hs.fix.size hsz, fun k hk hP => ?_⟩
    refine (hblk k (Nat.lt_of_lt_of_le hk hs.fix.size) fun c => ?_).trans (hs.fix.block k hk hP)
    exact hs.pin k ⟨g, 1, _, 0, hgh, Nat.zero_lt_one, c⟩ hP
  · rcases hown k ho with h1 | h1
    · exact hs.pin k h1 hP
    · have := W.lt k hP
      have := hs.fix.size
      omega
  · have hne : q ≠ g := fun c => by rw [c, hgx] at hqx; cases hqx
    rw [← hs.fixd u hu' q hqx]
    funext r
    exact hβ q r hne
  · have := hs.keep u hu' q hqx
    rw [hu _ _ rfl] at this
    rw [hu _ _ rfl]; exact this
theorem xok_imp {P : Program} {o : Oper} {s s1 s2 : St} (hi : Imp s s1) (h : XOK P o s1 s2) : XOK P o s s2 := by
  intro W N β w a hs hN K Q hK
  obtain ⟨β', hs'⟩ := hi W N β w a hs
  exact h W N β' w a hs' hN K Q hK
/-- Limbs are made. -/
theorem xok_make {o : Oper} {s : St} {x y : Operand} {d g : Nat} {k k' : IntKind} {l c : Int} (ho : o.op = .makeSlice 41 x y) (hd : o.dst = some d) (hx : avo s x = some (.v (.int k l))) (hy : avo s y = some (.v (.int k' c))) (hg : s.used g = false) (h77 : s.used 77 = true) (h0 : 0 ≤ l) (hlc : l ≤ c) (hc : c ≤ 1000000000) :
    XOK Try.prog o s ⟨put s.env d (some (.own g 0)), put s.heap g (some (1, fun _ => .lims l.toNat (fun _ => 0))), mark s.used g⟩ := by
  intro W N β w a hs hN K Q hK
  have h1 : a.eval x = .int k l := hs.opv hx
  have h2 : a.eval y = .int k' c := hs.opv hy
  obtain ⟨i0, hi, hz0, hz1, hz2⟩ := info_parts info_u32
  have hrun := run_make (P := Try.prog) w 41 U32 i0 _ Try.underlying41 hi hz0 k k' l c h0 hlc (by rw [hz2]; omega) (by omega)
  rw [hz1] at hrun
  generalize hcs : madeCells _ (c.toNat * 1) = cs at hrun
  have hcsz : cs.size = c.toNat * 1 := by rw [← hcs]; exact size_madeCells _ _
  have hget : ∀ i, i < l.toNat → cs[i]? = some (.int .u32 ((0 : Nat) : Int)) := fun i hi' => by
    rw [← hcs, made_get (by omega) (by simp [Value.cells])]
    simp [Nat.mod_one, Value.cells]
  have hop : (execOp a.eval o).run Try.prog w = .ok (.value (.slice (some ⟨w.heap.size, 0, none⟩) l.toNat c.toNat)) (w.alloc (.cells cs U32)) := by
    unfold execOp; rw [ho]; simp only []; rw [h1, h2]; simp only [Sem.run_bind, hrun]; rfl
  have hk := Kept.alloc w (.cells cs U32)
  have hs' := hs.newfam hg none (fun o ho => by cases ho) (.slice (some ⟨w.heap.size, 0, none⟩) l.toNat c.toNat) (.lims l.toNat fun _ => 0) (O := fun _ => False) (hs.kept.then hk) (Ext.of_kept hk _) (fun i h => h.elim) (fun i hi => .inl (by cases hi; exact Nat.le_refl _)) (fun S' β' _ => ⟨h77, .inr ⟨w.heap.size, cs, hs.kept.size, row_new w cs U32, .inr ⟨c.toNat, rfl, by omega, by unfold maxLen; omega, hcsz⟩, hget⟩⟩)
  unfold Oper.wp
  rw [hop]
  have hs2 := hs'.putv (d := some d) (v := .slice (some ⟨w.heap.size, 0, none⟩) l.toNat c.toNat) (r := some (.own g 0)) (fun t ht => by cases ht; exact hN d hd) (fun z hz _ => by
    cases hz
    exact ⟨mark_same _ _, (show setv β g (.slice (some ⟨w.heap.size, 0, none⟩) l.toNat c.toNat) g 0 = _ from if_pos rfl).symm, _, _, _, rfl⟩)
  refine hK (setv β g (.slice (some ⟨w.heap.size, 0, none⟩) l.toNat c.toNat)) _ _ ?_
  rw [hd]
  exact hs2
end Go.Proofs.Ytpclkgjhfhhddaa.AM
/- Own limbs where nothing is known of others. -/
namespace Go.Proofs.Ytpclkgjhfhhddaa.AM
open Go Go.RowKit Go.Proofs.Ytpclkgjhfhhddaa.PN Go.Proofs.Ytpclkgjhfhhddaa.V
set_option linter.unusedVariables false
set_option linter.unusedSimpArgs false
set_option maxRecDepth 8000
set_option maxHeartbeats 4000000
theorem celU : CellsOf 41 U32 1 := ⟨by kernel_rfl, by kernel_rfl, zSz_ok (by kernel_rfl)⟩
theorem u32_size : szB Try.prog U32 1 = true := by kernel_rfl
section
variable {o : Oper} {s : St}
theorem ok_make_lim {x y : Operand} {d g : Nat} {k k' : IntKind} {l c : Int} (ho : o.op = .makeSlice 41 x y) (hd : o.dst = some d) (hx : avo s x = some (.v (.int k l))) (hy : avo s y = some (.v (.int k' c))) (hg : s.used g = false) (h77 : s.used 77 = true) (hne : Nat.beq g 77 = false) (h0 : 0 ≤ l) (hlc : l ≤ c) (hc : c ≤ 1000000000) :
    LOK Try.prog o s ⟨some (.own g 0), [(g, some (1, fun _ => .lims l.toNat (fun _ => 0)))], [77]⟩ := by
  have hn : g ≠ 77 := fun e => by rw [e] at hne; cases hne
  refine ⟨fun q hb hnr => ?_, fun s2 h1 h2 h3 h4 => ?_⟩
  · obtain ⟨b, hb⟩ := hb
    rcases List.mem_cons.1 hb with e | e
    · cases e; exact hg
    · cases e
  · have hl : Like o [77] s s2 := ⟨h1, h2⟩
    have hg2 : s2.used g = false := h4 g ⟨_, List.mem_cons_self ..⟩ (fun h => hn (List.mem_singleton.1 h))
    have e := xok_make (o := o) (s := s2) (g := g) ho hd (by rw [hl.avo (by rw [ho]; simp [Op.operands])]; exact hx) (by rw [hl.avo (by rw [ho]; simp [Op.operands])]; exact hy) hg2 (h3 77 (List.mem_singleton.2 rfl) h77) h0 hlc hc
    intro W N β w a hs hN K Q hK
    refine e W N β w a hs hN K Q fun β' a' w' hs' => hK β' a' w' ?_
    rw [hd]
    exact hs'
theorem ok_index_lim {x y : Operand} {g r n m : Nat} {F : Nat → Blk} {f : Nat → Nat} {k : IntKind} {z : Int} (ho : o.op = .indexAddr 41 x y) (hx : avo s x = some (.own g r)) (hg : s.heap g = some (n, F)) (hr : r < n) (hF : F r = .lims m f) (hy : avo s y = some (.v (.int k z))) (h0 : 0 ≤ z) (h1 : z < m) : LOK Try.prog o s ⟨some (.ptr g r z.toNat), [], [g]⟩ := by
  refine lok_val fun s2 hl W N β w a hs => ?_
  obtain ⟨hus, e0, A, m', c, e1⟩ := hs.opd (x := x) (by rw [hl.avo (by rw [ho]; simp [Op.operands])]; exact hx)
  have e3 : a.eval y = .int k z := hs.opv (by rw [hl.avo (by rw [ho]; simp [Op.operands])]; exact hy)
  have hb := (hs.heap g n F r ((hl.heap g (List.mem_singleton.2 rfl)).trans hg) hr).2
  rw [hF] at hb
  rcases hb with ⟨_, h⟩ | ⟨b, cs, _, _, hat, _⟩
  · omega
  · rcases hat with ⟨e, _⟩ | ⟨cap, e, hcap, _⟩
    · rw [← e0, e1] at e; cases e
    · rw [e] at e0
      exact ⟨_, by unfold execOp; rw [ho]; simp only []; rw [e0, e3]; simp only [Sem.run_bind, run_index celU.u (sz_info u32_size) w _ m cap k z h0 h1]; rfl, fun q hq => by cases hq; exact ⟨hus, b, by rw [e]; rfl, by rw [add_at, Nat.zero_add, Nat.mul_one]⟩⟩
theorem ok_load_cellz {x : Operand} {T T' : TypeId} {g r i j n m : Nat} {F : Nat → Blk} {f : Nat → AV} {z : AV} (ho : o.op = .load T x) (hT : memN T flatT = true) (hx : avo s x = some (.fld g r i j)) (hg : s.heap g = some (n, F)) (hr : r < n) (hF : F r = .ones T' m f) (hi : i * 3 + j < m) (hz : f (i * 3 + j) = z) :
    LOK Try.prog o s ⟨some z, [], [g]⟩ := by
  subst hz
  exact ok_load_cell ho hT hx hg hr hF hi
end
def gcP (n M q L ka t i : Nat) (V U : Nat → Value) (F : Nat → Nat) : St := stl [(15, .ptr 15 0 0), (t, .ptr q 0 i)] [(15, (1, fun _ => .ones 26 7 (updN (fun i => .v (V i)) 5 (.sl 120 0 0 n)))), (120, (1, fun _ => .ones 43 M (put3 (fun i => .v (U i)) ka (gcU q)))), (q, (1, fun _ => .lims L F)), (77, (0, fun _ => .rats 0 fun _ => ra0))]
theorem gcT_heap {n M q L ka : Nat} {V U : Nat → Value} {F : Nat → Nat} {g m : Nat} {G : Nat → Blk} (h : (gcT n M q L ka V U F).heap g = some (m, G)) : (g = 15 ∧ m = 1 ∧ G = fun _ => .ones 26 7 (updN (fun i => .v (V i)) 5 (.sl 120 0 0 n))) ∨ (g = 120 ∧ m = 1 ∧ G = fun _ => .ones 43 M (put3 (fun i => .v (U i)) ka (gcU q))) ∨ (g = q ∧ m = 1 ∧ G = fun _ => .lims L F) ∨ m = 0 := by
  have h := stl_mem h
  rcases List.mem_cons.1 h with e | e
  · cases e; exact .inl ⟨rfl, rfl, rfl⟩
  rcases List.mem_cons.1 e with e | e
  · cases e; exact .inr (.inl ⟨rfl, rfl, rfl⟩)
  rcases List.mem_cons.1 e with e | e
  · cases e; exact .inr (.inr (.inl ⟨rfl, rfl, rfl⟩))
  rcases List.mem_cons.1 e with e | e
  · cases e; exact .inr (.inr (.inr rfl))
  · cases e
theorem xok_store_lim {o : Oper} {x : Operand} {n M q L ka t i z : Nat} {V U : Nat → Value} {F : Nat → Nat} (ho : o.op = .store U32 x (.const (.int .u32 (z : Nat)))) (hd : o.dst = none) (hx : avo (gcP n M q L ka t i V U F) x = some (.ptr q 0 i)) (hi : i < L) (hq1 : Nat.beq q 15 = false) (hq2 : Nat.beq q 120 = false) :
    XOK Try.prog o (gcP n M q L ka t i V U F) (gcT n M q L ka V U (updN F i z)) := by
  intro W N β w a hs hN K Q hK
  have hgq : (gcP n M q L ka t i V U F).heap q = some (1, fun _ => .lims L F) := gcT_q (n := n) (M := M) (ka := ka) (V := V) (U := U) hq1 hq2
  have hg15 : (gcP n M q L ka t i V U F).heap 15 = some (1, fun _ => .ones 26 7 (updN (fun i => .v (V i)) 5 (.sl 120 0 0 n))) := rfl
  have hg120 : (gcP n M q L ka t i V U F).heap 120 = some (1, fun _ => .ones 43 M (put3 (fun i => .v (U i)) ka (gcU q))) := rfl
  have n15 : q ≠ 15 := fun e => by rw [e] at hq1; cases hq1
  have n120 : q ≠ 120 := fun e => by rw [e] at hq2; cases hq2
  obtain ⟨_, b, hb, h1⟩ := hs.opd hx
  obtain ⟨hu, hbq⟩ := hs.heap q 1 _ 0 hgq Nat.zero_lt_one
  rcases (hbq : RB _ _ _ w (β q 0) (.lims L F)) with ⟨e, _⟩ | ⟨k, cs, hB, hrow, hat, hxs⟩
  · rw [e] at hb; cases hb
  have hkb : k = b := by rw [ub_at hat] at hb; cases hb; rfl
  subst hkb
  have hsz := at_size hat
  have hfit : i < cs.size := by omega
  have hrun := run_storeflat (T := U32) (by decide) hrow hfit (v := .int .u32 (z : Nat)) rfl
  have hoth : ∀ j, j ≠ k → (w.setRow k (seg cs i [.int .u32 (z : Nat)])).heap[j]? = w.heap[j]? := fun j hj => setRow_other w k j _ hj
  have hsub : ∀ g m G r, (gcT n M q L ka V U (updN F i z)).heap g = some (m, G) → r < m → ∃ m' G', (gcP n M q L ka t i V U F).heap g = some (m', G') ∧ r < m' := fun g m G r h1 h2 => by
    rcases gcT_heap h1 with ⟨rfl, rfl, _⟩ | ⟨rfl, rfl, _⟩ | ⟨rfl, rfl, _⟩ | rfl
    · exact ⟨1, _, rfl, h2⟩
    · exact ⟨1, _, rfl, h2⟩
    · exact ⟨1, _, hgq, h2⟩
    · omega
  have hown : ∀ b, Own (gcT n M q L ka V U (updN F i z)) β b → Own (gcP n M q L ka t i V U F) β b := by
    rintro b ⟨g, m, G, r, h1, h2, h3⟩
    obtain ⟨m1, G1, a1, a2⟩ := hsub _ _ _ _ h1 h2
    exact ⟨g, m1, G1, r, a1, a2, h3⟩
  have hkown : Own (gcP n M q L ka t i V U F) β k := ⟨q, 1, _, 0, hgq, Nat.zero_lt_one, hb⟩
  have hsim : Sim W N β (w.setRow k (seg cs i [.int .u32 (z : Nat)])) a (gcT n M q L ka V U (updN F i z)) := by
    refine ⟨Kept.row_set hs.kept hB _, hs.nodef, hs.size, fun t x hx => ?_, fun g m G r h1 h2 => ?_, fun g m G h => lkp_key h, fun g1 n1 F1 r1 g2 n2 F2 r2 i h1 h2 h3 h4 h5 h6 => ?_, ⟨by simpa using hs.fix.size, fun b hb hP => (hoth b (fun e => hs.pin k hkown (e ▸ hP))).trans (hs.fix.block b hb hP)⟩, fun b ho => hs.pin b (hown b ho), hs.fixd, hs.keep⟩
    · have hx := stl_meme hx
      rcases List.mem_cons.1 hx with e | e
      · cases e; exact ⟨rfl, (hs.env 15 _ rfl).2⟩
      · cases e
    · rcases gcT_heap h1 with ⟨rfl, rfl, rfl⟩ | ⟨rfl, rfl, rfl⟩ | ⟨rfl, rfl, rfl⟩ | rfl
      · obtain rfl : r = 0 := by omega
        obtain ⟨k1, hT, k2⟩ := hs.heap 15 1 _ 0 hg15 Nat.zero_lt_one
        refine ⟨k1, hT, ?_⟩
        rcases k2 with k2 | ⟨kb, cb, q1, q2, q3, q4⟩
        · exact .inl k2
        have hne : kb ≠ k := fun e => n15 (hs.inj _ _ _ _ _ _ _ _ k hgq Nat.zero_lt_one hg15 Nat.zero_lt_one hb (by rw [← e]; exact ub_at q3)).1
        refine .inr ⟨kb, cb, q1, (hoth kb hne).trans q2, q3, fun j hj => ?_⟩
        obtain ⟨y, a0, a1, a2⟩ := q4 j hj
        refine ⟨y, a0, a1, ?_⟩
        unfold updN at a2 ⊢
        by_cases e : j = 5
        · rw [if_pos e] at a2 ⊢; exact a2
        · rw [if_neg e] at a2 ⊢; exact a2
      · obtain rfl : r = 0 := by omega
        obtain ⟨k1, hT, k2⟩ := hs.heap 120 1 _ 0 hg120 Nat.zero_lt_one
        refine ⟨k1, hT, ?_⟩
        rcases k2 with k2 | ⟨kb, cb, q1, q2, q3, q4⟩
        · exact .inl k2
        have hne : kb ≠ k := fun e => n120 (hs.inj _ _ _ _ _ _ _ _ k hgq Nat.zero_lt_one hg120 Nat.zero_lt_one hb (by rw [← e]; exact ub_at q3)).1
        refine .inr ⟨kb, cb, q1, (hoth kb hne).trans q2, q3, fun j hj => ?_⟩
        obtain ⟨y, a0, a1, a2⟩ := q4 j hj
        refine ⟨y, a0, a1, ?_⟩
        unfold put3 at a2 ⊢
        by_cases e : ka * 3 ≤ j ∧ j < ka * 3 + 3
        · rw [if_pos e] at a2 ⊢
          generalize hj : j - ka * 3 = jj at *
          have hj3 : jj < 3 := by omega
          match jj, hj3 with
          | 0, _ => exact a2
          | 1, _ => exact a2
          | 2, _ =>
            obtain ⟨A, c', e1, e2, e3, e4⟩ := (a2 : ∃ A c, _)
            refine ⟨A, c', e1, e2, e3, fun j' hj' => ?_⟩
            obtain rfl : j' = 0 := by omega
            obtain ⟨b', off, y', q1, q2, q3, q4, q5⟩ := e4 0 hj'
            have hbn : b' ≠ k := fun e => q2.2 (e ▸ hkown)
            exact ⟨b', off, y', q1, ⟨q2.1, fun ho => q2.2 (hown _ ho)⟩, (World.cell?_of_block (hoth b' hbn)).trans q3, q4, q5⟩
        · rw [if_neg e] at a2 ⊢; exact a2
      · obtain rfl : r = 0 := by omega
        refine ⟨hu, .inr ⟨k, _, hB, setRow_heap w k cs _ U32 _ hrow, by rw [seg_size (by simp; omega)]; exact hat, fun j hj => ?_⟩⟩
        by_cases e : j = i
        · subst e
          rw [updN_same]
          exact seg_in (vs := [Value.int .u32 (z : Nat)]) (j := 0) (by simp; omega) (by simp)
        · rw [updN_ne _ _ e]
          exact (seg_out (by simp; omega) (by simp; omega)).trans (hxs j hj)
      · omega
    · obtain ⟨m1, G1, a1, a2⟩ := hsub _ _ _ _ h1 h2
      obtain ⟨m2, G2, b1, b2⟩ := hsub _ _ _ _ h3 h4
      exact hs.inj _ _ _ _ _ _ _ _ i a1 a2 b1 b2 h5 h6
  have h2 : a.eval (.const (.int .u32 (z : Nat))) = .int .u32 (z : Nat) := rfl
  unfold Oper.wp
  have hr : (execOp a.eval o).run Try.prog w = .ok .skip (w.setRow k (seg cs i [.int .u32 (z : Nat)])) := by unfold execOp; rw [ho]; simp only []; rw [h1, h2]; simp only [Sem.run_bind, hrun]; rfl
  rw [hr]
  refine hK β _ _ ?_
  rw [hd]
  exact hsim
end Go.Proofs.Ytpclkgjhfhhddaa.AM

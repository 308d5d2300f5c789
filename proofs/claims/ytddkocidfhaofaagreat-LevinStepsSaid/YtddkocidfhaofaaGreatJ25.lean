/- Joined texts, 25: AmNf Wthn MkT LvT LawLa. -/
import Derived.Test.YtddkocidfhaofaaGreatJ15
import Derived.Test.YtddkocidfhaofaaGreatJ21
import Derived.Test.YtddkocidfhaofaaGreatJ24
import Derived.Test.YtddkocidfhaofaaGreatJ23
set_option linter.unusedVariables false
set_option linter.unusedSimpArgs false
/- A slice of nothing, in a struct's cell, that is laid behind. -/
namespace Go.Proofs.YtddkocidfhaofaaGreat.AM
open Go Go.RowKit Go.Proofs.YtddkocidfhaofaaGreat.PN Go.Proofs.YtddkocidfhaofaaGreat.V
set_option linter.unusedVariables false
set_option linter.unusedSimpArgs false
theorem fld_next {s : St} {t a : Nat} {b b' : Blk} {F : Nat → Blk} {e : List (Nat × AV)} {l : List (Nat × Fam)} (ha : s.heap a = some (1, F)) (hF : F 0 = b') (hb : BLe (s1 t a) b' b) (hok : b.ok (fun _ => false)) (h60 : s.used 60 = false) (hn : notIn t a (keys l) = true)
    (he : AllE s (s1 t a) (fun g => memN g (t :: keys l)) e) (hl : AllH s (s1 t a) (fun g => memN g (t :: keys l)) l) : Imp s (stl e ((t, (1, fun _ => b)) :: l)) := by
  refine imp_stl (h := (t, (1, fun _ => b)) :: l) (s1 t a) (fun h => by rw [h60] at h; cases h) (s1_injl hn) he ⟨fun r hr => ?_, hl⟩ (by rw [h60]; rfl)
  obtain rfl : r = 0 := by omega
  rw [s1_t]
  exact ⟨1, F, ha, Nat.zero_lt_one, by rw [hF]; exact hb, Blk.ok_mono (fun g h => by cases h) hok⟩
theorem imp_nilf {s : St} (g h i : Nat) {n : Nat} {T : TypeId} {F : Nat → Blk} {f : Nat → AV} (q : Nat → RA) (hh : s.heap h = some (1, F)) (hF : F 0 = .ones T n f) (hi : i < n) (hfi : f i = .v (.slice none 0 0)) (hg : s.used g = false) :
    Imp s ⟨s.env, put (put s.heap g (some (1, fun _ => .rats 0 q))) h (some (1, fun _ => .ones T n (updN f i (.own g 0)))), mark s.used g⟩ := by
  intro W N β w a hs
  have hne : g ≠ h := fun e => by subst e; have := hs.live _ _ _ hh; rw [hg] at this; cases this
  have h2 := hs.newfam hg none (fun o ho => by cases ho) (.slice none 0 0) (.rats 0 q) (O := fun _ => False) hs.kept (Ext.refl _ _) (fun i h => h.elim) (fun i hi => by cases hi) (fun S' β' _ => ⟨trivial, .inl ⟨rfl, rfl⟩⟩)
  have h2 : Sim W N (setv β g (.slice none 0 0)) w a ⟨s.env, put s.heap g (some (1, fun _ => .rats 0 q)), mark s.used g⟩ := h2
  generalize hb' : setv β g (.slice none 0 0) = β' at *
  have hb0 : β' g 0 = .slice none 0 0 := by rw [← hb']; unfold setv; rw [if_pos rfl]
  have h3 : put s.heap g (some (1, fun _ => Blk.rats 0 q)) h = some (1, F) := (put_ne _ _ (Ne.symm hne)).trans hh
  generalize hs2 : (⟨s.env, put s.heap g (some (1, fun _ => .rats 0 q)), mark s.used g⟩ : St) = s2 at h2
  have e2 : s2.env = s.env := by rw [← hs2]
  have e3 : s2.heap h = some (1, F) := by rw [← hs2]; exact h3
  have e4 : s2.used = mark s.used g := by rw [← hs2]
  have e5 : put s.heap g (some (1, fun _ => Blk.rats 0 q)) = s2.heap := by rw [← hs2]
  rw [e5, ← e2, ← e4]
  have hheap : ∀ k n1 F1, put s2.heap h (some (1, fun _ => Blk.ones T n (updN f i (.own g 0)))) k = some (n1, F1) → ∃ F2, s2.heap k = some (n1, F2) ∧ (k = h → n1 = 1 ∧ F1 = fun _ => Blk.ones T n (updN f i (.own g 0))) ∧ (k ≠ h → F1 = F2) := by
    intro k n1 F1 e
    by_cases c : k = h
    · subst c
      rw [put_same] at e; cases e
      exact ⟨F, e3, fun _ => ⟨rfl, rfl⟩, fun e => absurd rfl e⟩
    · rw [put_ne _ _ c] at e
      exact ⟨F1, e, fun e => absurd e c, fun _ => rfl⟩
  have hown : ∀ k, Own ⟨s2.env, put s2.heap h (some (1, fun _ => Blk.ones T n (updN f i (.own g 0)))), s2.used⟩ β' k ↔ Own s2 β' k := by
    intro k
    constructor
    · rintro ⟨g', n1, F1, r, h1, h2', h3'⟩
      obtain ⟨F2, a1, _⟩ := hheap g' n1 F1 h1
      exact ⟨g', n1, F2, r, a1, h2', h3'⟩
    · rintro ⟨g', n1, F1, r, h1, h2', h3'⟩
      by_cases c : g' = h
      · subst c
        rw [e3] at h1; cases h1
        exact ⟨g', 1, _, r, put_same _ _ _, h2', h3'⟩
      · exact ⟨g', n1, F1, r, (put_ne _ _ c).trans h1, h2', h3'⟩
  have hS : notOwn W ⟨s2.env, put s2.heap h (some (1, fun _ => Blk.ones T n (updN f i (.own g 0)))), s2.used⟩ β' = notOwn W s2 β' := funext fun k => by unfold notOwn; rw [show Own _ β' k = Own s2 β' k from propext (hown k)]
  refine ⟨β', h2.kept, h2.nodef, h2.size, fun t z hz => by rw [hS]; exact h2.env t z hz, fun k n1 F1 r h1 h2' => ?_, fun k n1 F1 h1 => ?_, fun g1 n1 F1 r1 g2 n2 F2 r2 k h1 h2' h3' h4 h5 h6 => ?_, h2.fix, fun k ho => h2.pin k ((hown k).1 ho), h2.fixd, h2.keep⟩
  · obtain ⟨F2, a1, a2, a3⟩ := hheap k n1 F1 h1
    obtain ⟨q1, q2⟩ := h2.heap k n1 F2 r a1 h2'
    rw [hS]
    by_cases c : k = h
    · obtain ⟨rfl, rfl⟩ := a2 c
      subst c
      rw [e3] at a1; cases a1
      obtain rfl : r = 0 := by omega
      rw [hF] at q1 q2
      refine ⟨fun j hj => ?_, q2.1, ?_⟩
      · by_cases c2 : j = i
        · subst c2; rw [updN_same]; rw [e4]; exact mark_same _ _
        · rw [updN_ne _ _ c2]; exact q1 j hj
      · rcases q2.2 with e | ⟨k', cs, hB, hr, hat, hx⟩
        · exact .inl e
        · refine .inr ⟨k', cs, hB, hr, hat, fun j hj => ?_⟩
          obtain ⟨y, b1, b2, b3⟩ := hx j hj
          refine ⟨y, b1, b2, ?_⟩
          by_cases c2 : j = i
          · subst c2
            rw [hfi] at b3
            have b3 : y = .slice none 0 0 := b3
            rw [updN_same]
            exact ⟨by rw [b3, hb0], none, 0, 0, b3⟩
          · rw [updN_ne _ _ c2]; exact b3
    · rw [a3 c]; exact ⟨q1, q2⟩
  · obtain ⟨F2, a1, _⟩ := hheap k n1 F1 h1
    exact h2.live _ _ _ a1
  · obtain ⟨G1, a1, _⟩ := hheap g1 n1 F1 h1
    obtain ⟨G2, b1, _⟩ := hheap g2 n2 F2 h3'
    exact h2.inj _ _ _ _ _ _ _ _ k a1 h2' b1 h4 h5 h6
end Go.Proofs.YtddkocidfhaofaaGreat.AM
/- Numbers from 0 to n - 1, in each package of laws. -/
namespace Go.Proofs.YtddkocidfhaofaaGreat.AM
open Go Go.RowKit Go.Proofs.YtddkocidfhaofaaGreat.PN Go.Proofs.YtddkocidfhaofaaGreat.V
set_option linter.unusedVariables false
set_option linter.unusedSimpArgs false
theorem k_within10 {a n : Int} (hn : 0 < n) (hn' : n < 1000000000) : Has Tryz.prog 19 [.i a, .i n] (.i (wthn a n)) := by
  refine has_of Tryz.func19 (by kernel_rfl) rfl Tryz.ntmps19 Tryz.results19 rfl rfl rfl ?_
  have h1 := Int.tmod_lt_of_pos a hn
  have h2 : -n < a.tmod n := Int.lt_tmod_of_pos a hn
  refine run0 ?_
  refine awp_if rfl (fun h => ?_) (fun h => ?_)
  · have e : wthn a n = a.tmod n + n := if_pos h
    rw [e]
    refine run0 ?_
    refine ⟨.inr rfl, _, Imp.refl _, ?_⟩
    exact .one (.tmp rfl)
  · have e : wthn a n = a.tmod n := if_neg h
    rw [e]
    refine run0 ?_
    refine ⟨.inr rfl, _, Imp.refl _, ?_⟩
    exact .one (.tmp rfl)
end Go.Proofs.YtddkocidfhaofaaGreat.AM
/- Systems that are drawn: Toeplitz ones with small whole numbers now and then. -/
namespace Go.Proofs.YtddkocidfhaofaaGreat.AM
open Go Go.RowKit Go.Proofs.YtddkocidfhaofaaGreat.PN Go.Proofs.YtddkocidfhaofaaGreat.V
open Go.Proofs.YtddkocidfhaofaaGreat.LA (S S_succ S_zero S_congr)
set_option linter.unusedVariables false
set_option linter.unusedSimpArgs false
set_option maxRecDepth 8000
set_option maxHeartbeats 8000000
/-- Small whole numbers. -/
def trA (zs : List Int) (i : Nat) : Rat := ((wthn (if i < zs.length then (zs.getD i 0).tdiv 2 else (i : Int)) 3 - 1 : Int) : Rat)
def trB (zs : List Int) : Bool := decide (0 < zs.length) && decide (wthn (zs.getD 0 0) 2 = 0)
def mkt (n : Int) (zs : List Int) (most : Int) : GD := let g := mkg 0 n zs most; { g with A := fun i => if trB zs then trA zs i else g.A i }
theorem tr_wt (zs : List Int) (i : Nat) : wt (trA zs i) ≤ 1 := by
  obtain ⟨h1, h2⟩ := wthn_lt (a := if i < zs.length then (zs.getD i 0).tdiv 2 else (i : Int)) (n := 3) (by decide)
  unfold trA
  generalize wthn (if i < zs.length then (zs.getD i 0).tdiv 2 else (i : Int)) 3 = x at *
  have : x = 0 ∨ x = 1 ∨ x = 2 := by omega
  rcases this with rfl | rfl | rfl <;> decide
theorem mkt_ok {n most : Int} {zs : List Int} (m1 : 1 ≤ most) (m8 : most ≤ 8) : (mkt n zs most).OK ∧ (mkt n zs most).k = 1 := by
  have o := mkg_ok (kind := 0) (n := n) (zs := zs) m1 m8
  refine ⟨⟨o.k1, o.k7, o.n1, o.n8, o.r3, o.rk, o.r0, o.len, ⟨fun i hi => ?_, o.sm.B, o.sm.G, o.sm.H⟩, fun i hi j hj => ?_⟩, rfl⟩
  · show wt (if trB zs then trA zs i else (mkg 0 n zs most).A i) ≤ 4
    split
    · exact Nat.le_trans (tr_wt zs i) (by decide)
    · exact o.sm.A i hi
  · have l1 := o.len 1 (by omega)
    have hk : (mkg 0 n zs most).k = 1 := rfl
    have hj : j < (mkg 0 n zs most).lb := hj
    have l1 : (((mkg 0 n zs most).lb : Nat) : Int) = mpz (cmap (1 : Nat) (1 : Nat)) 0 * (mkg 0 n zs most).n + mpz (cmap (1 : Nat) (1 : Nat)) 1 * (mkg 0 n zs most).n * (mkg 0 n zs most).r + mpz (cmap (1 : Nat) (1 : Nat)) 2 := l1
    have c : ∀ (x y z n r : Int), x = 0 → y = 0 → z = 0 → x * n + y * n * r + z = 0 := by intro x y z n r hx hy hz; subst hx; subst hy; subst hz; simp
    rw [c _ _ _ _ _ (by decide) (by decide) (by decide)] at l1
    omega
/-- A system's struct with another first row. -/
def GD.fA (g : GD) (x : AV) (i : Nat) : AV := [AV.i g.k, .i g.n, .i g.r, x, .row true g.lb (fun i => .q (g.B i)), .row true g.lg (fun i => .q (g.G i)), .row true g.lh (fun i => .q (g.H i))].getD i (.v undef)
theorem GD.fAok (g : GD) {x : AV} {U : Nat → Bool} (hx : x.ok U) : ∀ i, (g.fA x i).ok U
  | 0 | 1 | 2 | 4 | 5 | 6 => trivial
  | 3 => hx
  | _ + 7 => trivial
theorem k_mkt {n most : Int} {zs : List Int} (hn : Fits .i64 n) (hz : AllFit zs) (m1 : 1 ≤ most) (m8 : most ≤ 8) : Has Tryz.prog 8 [.i n, .seq .i64 zs, .i most] (.ag 7 (mkt n zs most).ft) := by
  have m := k_mk (kind := 0) (n := n) (most := most) (zs := zs) (by show _ ∧ _; omega) hn hz m1 m8
  have o := mkg_ok (kind := 0) (n := n) (zs := zs) m1 m8
  have o2 := (mkt_ok (n := n) (zs := zs) m1 m8).1
  have hk : (mkg 0 n zs most).k = 1 := rfl
  have hT : ∀ i, trB zs = true → (mkt n zs most).A i = trA zs i := fun i h => if_pos h
  have hT2 : ∀ i, trB zs = false → (mkt n zs most).A i = (mkg 0 n zs most).A i := fun i h => if_neg (by rw [h]; decide)
  have e1 : (mkt n zs most).k = (mkg 0 n zs most).k := rfl
  have e2 : (mkt n zs most).n = (mkg 0 n zs most).n := rfl
  have e3 : (mkt n zs most).r = (mkg 0 n zs most).r := rfl
  have e4 : (mkt n zs most).la = (mkg 0 n zs most).la := rfl
  have e5 : (mkt n zs most).lb = (mkg 0 n zs most).lb := rfl
  have e6 : (mkt n zs most).lg = (mkg 0 n zs most).lg := rfl
  have e7 : (mkt n zs most).lh = (mkg 0 n zs most).lh := rfl
  have e8 : (mkt n zs most).B = (mkg 0 n zs most).B := rfl
  have e9 : (mkt n zs most).G = (mkg 0 n zs most).G := rfl
  have e10 : (mkt n zs most).H = (mkg 0 n zs most).H := rfl
  have out : ∀ t : GD, t.k = (mkg 0 n zs most).k → t.n = (mkg 0 n zs most).n → t.r = (mkg 0 n zs most).r → t.la = (mkg 0 n zs most).la → t.lb = (mkg 0 n zs most).lb → t.lg = (mkg 0 n zs most).lg → t.lh = (mkg 0 n zs most).lh → t.B = (mkg 0 n zs most).B → t.G = (mkg 0 n zs most).G → t.H = (mkg 0 n zs most).H → t.ft = (mkg 0 n zs most).fA (.row true t.la fun i => .q (t.A i)) := fun t a1 a2 a3 a4 a5 a6 a7 a8 a9 a10 => by
    funext i
    unfold GD.ft GD.fA
    rw [a1, a2, a3, a5, a6, a7, a8, a9, a10]
  have hft := out _ e1 e2 e3 e4 e5 e6 e7 e8 e9 e10
  rw [hft]
  clear out hft e1 e2 e3 e5 e6 e7 e8 e9 e10
  rw [e4]
  clear e4
  have hla := (ok_lens o).1 (.inl hk)
  have hAq : (fun i => RA.q ((mkt n zs most).A i)) = fun i => RA.q (if trB zs then trA zs i else (mkg 0 n zs most).A i) := rfl
  rw [hAq]
  clear hAq hT hT2 o2
  generalize mkg 0 n zs most = g at *
  have n8 := o.n8; have n1 := o.n1
  refine has_of Tryz.func8 (by kernel_rfl) rfl Tryz.ntmps8 Tryz.results8 rfl rfl rfl ?_
  repeat(first|refine run1p ?_|((with_reducible apply st_call);exact rfl;exact rfl;exact rfl;first|(exact m))|((with_reducible apply st_callg);exact rfl;exact rfl;(first|exact rfl|assumption);exact rfl;exact rfl;exact rfl;first|(exact m)))
  have fin : trB zs = false → g.ft = g.fA (.row true g.la fun i => .q (if trB zs then trA zs i else g.A i)) := fun h => by
    rw [h]; rfl
  by_cases h0 : 0 < zs.length
  · have f0 : decide ((0 : Int) < zs.length) = true := decide_eq_true (by omega)
    have f1 : (decide ((0 : Int) < zs.length) == true) = true := by rw [f0]; rfl
    repeat(first|refine run1p ?_|((with_reducible apply st_call);exact rfl;exact rfl;exact rfl;first|(exact k_within10 (by decide) (by decide)))|((with_reducible apply st_callg);exact rfl;exact rfl;(first|exact rfl|assumption);exact rfl;exact rfl;exact rfl;first|(exact k_within10 (by decide) (by decide))))
    refine awp_if rfl (fun h => ?_) (fun h => ?_)
    · have hB : trB zs = true := by
        unfold trB
        rw [decide_eq_true h0, decide_eq_true (show wthn (zs.getD 0 0) 2 = 0 from h)]; rfl
      have hq : ∀ i, RA.q (if trB zs then trA zs i else g.A i) = .q (trA zs i) := fun i => by rw [if_pos hB]
      rw [show (fun i => RA.q (if trB zs then trA zs i else g.A i)) = fun i => RA.q (trA zs i) from funext hq]
      refine run0p ?_
      refine awp_loop (fun m' s => ∃ i, i ≤ 2 * g.n - 1 ∧ m' = 2 * g.n - 1 - i ∧ s = stl [(1, .seq .i64 zs), (6, .ptr 6 0 0), (7, .ptr 7 0 0), (8, .i (i : Int))] [(70, (1, fun _ => .rats i fun i => .q (trA zs i))), (6, (1, fun _ => .ones 26 7 fun i => .v ([Value.int .i64 0, .int .i64 0, .int .i64 0, .slice none 0 0, .slice none 0 0, .slice none 0 0, .slice none 0 0].getD i undef))), (7, (1, fun _ => .ones 26 7 (g.fA (.own 70 0))))]) (2 * g.n - 1) _ ((imp_nilf 70 7 3 (fun i => .q (trA zs i)) rfl rfl (by decide) rfl rfl).trans (imp_id ?_ ?_)) ⟨0, Nat.zero_le _, rfl, rfl⟩ ?_
      · exact eA
      · exact allh rfl (by decide) (blen rfl fun i hi => absurd hi (Nat.not_lt_zero _)) True.intro (allh rfl (by decide) (bleo rfl fun _ _ => Le.id rfl) (fun _ _ => True.intro) (allh rfl (by decide) (le7 (Le.id rfl) (Le.id rfl) (Le.id rfl) (Le.id rfl) (Le.id rfl) (Le.id rfl) (Le.id rfl)) (fun i _ => g.fAok (by exact rfl) i) True.intro))
      rintro m' s ⟨i, hi, rfl, rfl⟩
      refine run0 ?_
      refine awp_if rfl (fun h1 => ?_) (fun h1 => ?_)
      · have hin : i < 2 * g.n - 1 := by omega
        refine run0 ?_
        refine awp_if rfl (fun h2 => ?_) (fun h2 => ?_)
        · have hl : i < zs.length := by omega
          have hf := hz i hl
          have hf : -9223372036854775808 ≤ zs.getD i 0 ∧ zs.getD i 0 ≤ 9223372036854775807 := hf
          obtain ⟨h5a, h5b⟩ : -9223372036854775808 ≤ (zs.getD i 0).tdiv 2 ∧ (zs.getD i 0).tdiv 2 ≤ 9223372036854775807 := by
            have e1 : ((zs.getD i 0).tdiv 2).natAbs = (zs.getD i 0).natAbs / 2 := Int.natAbs_tdiv _ 2
            omega
          obtain ⟨t1, t2⟩ := wthn_lt (a := (zs.getD i 0).tdiv 2) (n := 3) (by decide)
          have cw := k_within10 (a := (zs.getD i 0).tdiv 2) (n := 3) (by decide) (by decide)
          have ci : Has Tryz.prog 16 [.i (wthn ((zs.getD i 0).tdiv 2) 3 - 1)] (.q (trA zs i)) := by
            unfold trA; rw [if_pos hl]
            exact hs_int _ (by omega) (by omega)
          repeat(first|refine run1 ?_|((with_reducible apply st_call);exact rfl;exact rfl;exact rfl;first|(exact cw)|(exact ci))|((with_reducible apply st_callg);exact rfl;exact rfl;(first|exact rfl|assumption);exact rfl;exact rfl;exact rfl;first|(exact cw)|(exact ci)))
          refine q_loop (m' := 2 * g.n - 1 - (i + 1)) (by omega) (fld_next (t := 70) (a := 50) rfl rfl (glue_one rfl) (by exact True.intro) rfl rfl ?_ ?_) ⟨i + 1, by omega, rfl, rfl⟩
          · exact alle rfl (Le.eq rfl rfl) True.intro (alle rfl (Le.ptr (s1_ne (by decide))) rfl (alle rfl (Le.ptr (s1_ne (by decide))) rfl (alle rfl (Le.eq rfl rfl) True.intro True.intro)))
          · exact allh rfl Nat.zero_lt_one (bleo rfl fun _ _ => Le.eq rfl rfl) (fun _ _ => True.intro) (allh rfl Nat.zero_lt_one (le7 (Le.eq rfl rfl) (Le.eq rfl rfl) (Le.eq rfl rfl) (Le.own s1_t) (Le.eq rfl rfl) (Le.eq rfl rfl) (Le.eq rfl rfl)) (fun i _ => g.fAok (by exact rfl) i) True.intro)
        · have hl : ¬ i < zs.length := by omega
          obtain ⟨t1, t2⟩ := wthn_lt (a := (i : Int)) (n := 3) (by decide)
          have cw := k_within10 (a := (i : Int)) (n := 3) (by decide) (by decide)
          have ci : Has Tryz.prog 16 [.i (wthn (i : Int) 3 - 1)] (.q (trA zs i)) := by
            unfold trA; rw [if_neg hl]
            exact hs_int _ (by omega) (by omega)
          repeat(first|refine run1 ?_|((with_reducible apply st_call);exact rfl;exact rfl;exact rfl;first|(exact cw)|(exact ci))|((with_reducible apply st_callg);exact rfl;exact rfl;(first|exact rfl|assumption);exact rfl;exact rfl;exact rfl;first|(exact cw)|(exact ci)))
          refine q_loop (m' := 2 * g.n - 1 - (i + 1)) (by omega) (fld_next (t := 70) (a := 50) rfl rfl (glue_one rfl) (by exact True.intro) rfl rfl ?_ ?_) ⟨i + 1, by omega, rfl, rfl⟩
          · exact alle rfl (Le.eq rfl rfl) True.intro (alle rfl (Le.ptr (s1_ne (by decide))) rfl (alle rfl (Le.ptr (s1_ne (by decide))) rfl (alle rfl (Le.eq rfl rfl) True.intro True.intro)))
          · exact allh rfl Nat.zero_lt_one (bleo rfl fun _ _ => Le.eq rfl rfl) (fun _ _ => True.intro) (allh rfl Nat.zero_lt_one (le7 (Le.eq rfl rfl) (Le.eq rfl rfl) (Le.eq rfl rfl) (Le.own s1_t) (Le.eq rfl rfl) (Le.eq rfl rfl) (Le.eq rfl rfl)) (fun i _ => g.fAok (by exact rfl) i) True.intro)
      · have ei : i = g.la := by omega
        subst ei
        repeat(first|(with_reducible first|refine awp_seq ?_|refine awp_block ?_|refine awp_skip ?_|refine awp_exit ?_|refine awp_ret ?_|refine q_then ?_|refine q_block ?_|refine q_then_exit ?_|refine q_then_ret ?_|refine q_block_exit ?_|refine q_block_ret ?_|refine q_loop_exit ?_|refine q_loop_ret ?_)|((with_reducible refine q_block_other ?_ ?_);exact rfl))
        refine awp_imp ((imp_pub 7 3 rfl rfl (by decide) rfl rfl rfl (by decide)).trans (imp_id (e := [(6, .ptr 6 0 0), (7, .ptr 7 0 0)]) (h := [(6, (1, fun _ => .ones 26 7 fun i => .v ([Value.int .i64 0, .int .i64 0, .int .i64 0, .slice none 0 0, .slice none 0 0, .slice none 0 0, .slice none 0 0].getD i undef))), (7, (1, fun _ => .ones 26 7 (g.fA (.row true g.la fun i => .q (trA zs i)))))]) ?_ ?_)) ?_
        · exact eA
        · exact allh rfl (by decide) (bleo rfl fun _ _ => Le.id rfl) (fun _ _ => True.intro) (allh rfl (by decide) (le7 (Le.id rfl) (Le.id rfl) (Le.id rfl) (Le.id rfl) (Le.id rfl) (Le.id rfl) (Le.id rfl)) (fun i _ => g.fAok (by exact True.intro) i) True.intro)
        refine run0 ?_
        exact ⟨.inr rfl, _, Imp.refl _, .one (.agg rfl rfl rfl rfl (by decide) rfl rfl)⟩
    · have hB : trB zs = false := by
        unfold trB
        rw [decide_eq_true h0, decide_eq_false (show ¬ wthn (zs.getD 0 0) 2 = 0 from h)]; rfl
      rw [← fin hB]
      refine run0p ?_
      exact ⟨.inr rfl, _, Imp.refl _, .one (.agg rfl rfl rfl rfl (by decide) rfl rfl)⟩
  · have f0 : decide ((0 : Int) < zs.length) = false := decide_eq_false (by omega)
    have f1 : (decide ((0 : Int) < zs.length) == true) = false := by rw [f0]; rfl
    have hB : trB zs = false := by
      unfold trB
      rw [decide_eq_false h0]; rfl
    rw [← fin hB]
    refine run0p ?_
    refine awp_no rfl rfl ?_
    refine run0p ?_
    exact ⟨.inr rfl, _, Imp.refl _, .one (.agg rfl rfl rfl rfl (by decide) rfl rfl)⟩
end Go.Proofs.YtddkocidfhaofaaGreat.AM
/- Drawn Toeplitz systems: how long their numbers are; answers. -/
namespace Go.Proofs.YtddkocidfhaofaaGreat.AM
open Go.Proofs.YtddkocidfhaofaaGreat.PN
open Go.Proofs.YtddkocidfhaofaaGreat.LA (Mt S S_succ S_zero S_congr app app_congr app_sub app_mul app_add det unique)
set_option linter.unusedVariables false
set_option linter.unusedSimpArgs false
set_option maxRecDepth 8000
set_option maxHeartbeats 8000000
theorem tr_fq (zs : List Int) (i : Nat) : Fq 60 1200 (trA zs i) ∧ Bt (trA zs i) 5 := by
  obtain ⟨h1, h2⟩ := wthn_lt (a := if i < zs.length then (zs.getD i 0).tdiv 2 else (i : Int)) (n := 3) (by decide)
  unfold trA
  generalize wthn (if i < zs.length then (zs.getD i 0).tdiv 2 else (i : Int)) 3 = x at *
  have : x = 0 ∨ x = 1 ∨ x = 2 := by omega
  rcases this with rfl | rfl | rfl
  · exact ⟨⟨-60, by decide +kernel, by decide⟩, ⟨by decide +kernel, by decide +kernel⟩⟩
  · exact ⟨⟨0, by decide +kernel, by decide⟩, ⟨by decide +kernel, by decide +kernel⟩⟩
  · exact ⟨⟨60, by decide +kernel, by decide⟩, ⟨by decide +kernel, by decide +kernel⟩⟩
theorem mkt_A {n most : Int} {zs : List Int} {i : Nat} (hi : i < (mkt n zs most).la) : Fq 60 1200 ((mkt n zs most).A i) ∧ Bt ((mkt n zs most).A i) 5 := by
  show Fq 60 1200 (if trB zs then trA zs i else (mkg 0 n zs most).A i) ∧ Bt (if trB zs then trA zs i else (mkg 0 n zs most).A i) 5
  split
  · exact tr_fq zs i
  · have hi : i < cnA (mkK 0) (mkN n most) := hi
    show Fq 60 1200 (mkL zs _ _ _ 0 (0 + i)) ∧ Bt (mkL zs _ _ _ 0 (0 + i)) 5
    rw [Nat.zero_add, mkL_A hi]
    exact ⟨smal_fq _, rowq_bt zs i⟩
theorem mkt_n {n most : Int} {zs : List Int} (m1 : 1 ≤ most) : ((mkt n zs most).n : Int) ≤ most := by
  obtain ⟨b1, b2⟩ := wthn_lt (a := n) (n := most) (by omega)
  show ((mkN n most : Nat) : Int) ≤ most
  unfold mkN; omega
theorem ts_mkt {n most : Int} {zs bs : List Int} (m1 : 1 ≤ most) (m6 : most ≤ 6) : TS (mkt n zs most) (rowq bs) := by
  obtain ⟨o, k⟩ := mkt_ok (n := n) (zs := zs) m1 (show most ≤ 8 by omega)
  have hn := mkt_n (n := n) (zs := zs) m1
  have n1 := o.n1
  have hla : (mkt n zs most).la = 2 * (mkt n zs most).n - 1 := (ok_lens o).1 (.inl k)
  have key : ∀ i j, Fq 60 1200 (gec (mkt n zs most) i j) ∧ Bt (gec (mkt n zs most) i j) 5 := fun i j => by
    unfold gec
    split
    · rename_i h
      unfold gent; rw [k]
      exact mkt_A (by omega)
    · exact ⟨Fq.zero 60 |>.mono (by decide), Bt.zero.mono (by decide)⟩
  exact ⟨o, k, by omega, fun i j => (key i j).1, fun i j => (key i j).2, fun i => smal_fq _, fun i => rowq_bt bs i⟩
theorem ts_det {g : GD} {b : Nat → Rat} (t : TS g b) (hl : lstD (gent g) g.n = 0) : (∀ k, k < g.n → lvd (gent g) k ≠ 0) ∧ det g.n (gent g) ≠ 0 := by
  rcases lst_cases (toe_gent t.k) with ⟨_, h1, h2⟩ | ⟨K, _, h, _⟩
  · exact ⟨h1, h2⟩
  · omega
theorem ts_app {g : GD} {b : Nat → Rat} (t : TS g b) (hl : lstD (gent g) g.n = 0) : ∀ i, i < g.n → app g.n (gent g) (lvs (gent g) b g.n) i = b i :=
  lvs_app (toe_gent t.k) g.n (Nat.le_refl _) (ts_det t hl).1
theorem ts_same {g : GD} {b : Nat → Rat} (t : TS g b) (hl : lstD (gent g) g.n = 0) : ∀ i, i < g.n → lvs (gent g) b g.n i = bsx g.n (PR (gt g.n (gec g) b)) g.n i := by
  have hd := (ts_det t hl).2
  have h2 := (gt_nz (n := g.n) (F := gec g) (b := b) (by rw [gdet_det, det_gec (Nat.le_refl _)]; exact hd)).2.2
  refine unique hd fun i hi => ?_
  rw [ts_app t hl i hi, ← h2 i hi]
  exact S_gec hi
theorem ts_wt {g : GD} {b : Nat → Rat} (t : TS g b) (hl : lstD (gent g) g.n = 0) : ∀ i, i < g.n → Wt (lvs (gent g) b g.n i) 3 := fun i hi =>
  ans_wt (F := gent g) (b := b) (fun i j hi hj => by rw [← gec_in hi hj]; exact t.F i j) (fun i _ => t.bq i) t.n6 (ts_det t hl).2 (ts_app t hl) hi
theorem ts_bw {g : GD} {b : Nat → Rat} (t : TS g b) (i : Nat) : Wt (b i) 1 := (t.bt i).wt (by decide)
theorem ts_fw {g : GD} {b : Nat → Rat} (t : TS g b) (i j : Nat) : Wt (gec g i j) 1 := (t.Ft i j).wt (by decide)
end Go.Proofs.YtddkocidfhaofaaGreat.AM
/- Laws of leading parts: LevinSolves, LevinBreaks, walked. -/
namespace Go.Proofs.YtddkocidfhaofaaGreat.AM
open Go Go.RowKit Go.Proofs.YtddkocidfhaofaaGreat.PN Go.Proofs.YtddkocidfhaofaaGreat.V
open Go.Proofs.YtddkocidfhaofaaGreat.LA (S S_succ S_zero S_congr app det unique)
set_option linter.unusedVariables false
set_option linter.unusedSimpArgs false
set_option maxRecDepth 8000
set_option maxHeartbeats 8000000
/-- Both answers. -/
theorem two_solves {g : GD} {b : Nat → Rat} (t : TS g b) : (lstD (gent g) g.n = 0 ∧ Has Tryz.prog 24 [g.v, .row false g.n fun i => .q (b i)] (.tup3 (.row true g.n fun i => .q (lvs (gent g) b g.n i)) (.i 0) (.i 0))) ∨
    ∃ K, K < g.n ∧ lstD (gent g) g.n = K + 1 ∧ (∀ k, k < K → lvd (gent g) k ≠ 0) ∧ lvd (gent g) K = 0 ∧ Has Tryz.prog 24 [g.v, .row false g.n fun i => .q (b i)] (.tup3 (.v (.slice none 0 0)) (.i ((K + 1 : Nat) : Int)) (.i 8)) := by
  have wb : ∀ i, i < g.n → wt (b i) ≤ 100 := fun i _ => Nat.le_trans (ts_bw t i).le (by decide)
  rcases lst_cases (toe_gent t.k) with ⟨h, h1, _⟩ | ⟨K, hK, hl, hd, hz⟩
  · exact .inl ⟨h, lv_solve t.ok t.k wb h1⟩
  · exact .inr ⟨K, hK, hl, hd, hz, lv_solve_break t.ok t.k wb hK hd hz⟩
theorem k_lsolves {n kind : Int} {ns bs : List Int} (hn : Fits .i64 n) (hz : AllFit ns) (hb : AllFit bs) (hk : Fits .i64 kind) : Has Tryz.prog 5 [.i n, .seq .i64 ns, .seq .i64 bs, .i kind] (.b true) := by
  have m1 := k_mkt (n := n) (most := 6) (zs := ns) hn hz (by decide) (by decide)
  have t := ts_mkt (n := n) (most := 6) (zs := ns) (bs := bs) (by decide) (by decide)
  generalize mkt n ns 6 = g at *
  obtain ⟨q1, q2⟩ := wthn_lt (a := kind) (n := 6) (by decide)
  obtain ⟨C, hC⟩ : ∃ C : Nat, wthn kind 6 = (C : Int) := ⟨(wthn kind 6).toNat, by omega⟩
  have cw := k_within10 (a := kind) (n := 6) (by decide) (by decide)
  rw [hC] at cw q1 q2
  have m2 := k_mk (kind := 1 + (C : Int)) (n := n) (most := 3) (zs := ns) (by show _ ∧ _; omega) hn hz (by decide) (by decide)
  have p := mkg_ok (kind := 1 + (C : Int)) (n := n) (most := 3) (zs := ns) (by decide) (by decide)
  have pk : (mkg (1 + (C : Int)) n ns 3).k ≠ 1 := by
    show mkK (1 + (C : Int)) ≠ 1
    unfold mkK
    have e : wthn (1 + (C : Int)) 7 = 1 + (C : Int) := by unfold wthn; rw [Int.tmod_eq_of_lt (by omega) (by omega), if_neg (by omega)]
    rw [e]; omega
  generalize mkg (1 + (C : Int)) n ns 3 = o at *
  have ok := t.ok
  have n8 := ok.n8; have n1 := ok.n1; have p8 := p.n8; have p1 := p.n1
  have r1 := k_row (zs := bs) (n := g.n) (by omega) hb
  have r2 := k_row (zs := bs) (n := o.n) (by omega) hb
  have r3 := k_row (zs := bs) (n := g.n + 1) (by omega) hb
  have sk : Has Tryz.prog 24 [o.v, .row false o.n fun i => .q (rowq bs i)] _ := lv_solve_kind pk
  have sl : Has Tryz.prog 24 [g.v, .row false (g.n + 1) fun i => .q (rowq bs i)] _ := lv_solve_long ok t.k (by omega)
  have rs := r10_solve t
  have wF := ts_fw t
  refine has_of Tryz.func5 (by kernel_rfl) rfl Tryz.ntmps5 Tryz.results5 rfl rfl rfl ?_
  repeat(first|refine run1p ?_|((with_reducible apply st_call);exact rfl;exact rfl;exact rfl;first|(exact k_known10))|((with_reducible apply st_callg);exact rfl;exact rfl;(first|exact rfl|assumption);exact rfl;exact rfl;exact rfl;first|(exact k_known10)))
  refine awp_no rfl rfl ?_
  rcases two_solves t with ⟨hl, cs⟩ | ⟨K, hK, hl, _, _, cs⟩
  · rw [if_pos hl] at rs
    have hx := ts_same t hl
    have ha := ts_app t hl
    have hw := ts_wt t hl
    generalize lvs (gent g) (rowq bs) g.n = x at *
    generalize bsx g.n (PR (gt g.n (gec g) (rowq bs))) g.n = y at *
    have c1 := k_rowsb (n := g.n) (f := x) (g := y) (K := 3) hw (by decide) (by decide) (by omega) hx
    have hsz : g.n * (1 + 3 + 1) ≤ 8 * (1 + 3 + 1) := Nat.mul_le_mul_right _ n8
    have ce := Has.gec (g := g) (r7_applyb (F := gec g) (v := x) (hf := wF) hw (by decide) ⟨by omega, by decide⟩ n8 n8)
    have ha2 : ∀ i, i < g.n → (S g.n fun j => gec g i j * x j) = rowq bs i := fun i hi => (S_gec hi).trans (ha i hi)
    have c3 := k_rowsb (n := g.n) (f := fun i => S g.n fun j => gec g i j * x j) (g := rowq bs) (K := 3) (fun i hi => by rw [ha2 i hi]; exact (ts_bw t i).mono (by decide)) (by decide) (by decide) (by omega) ha2
    repeat(first|refine run1p ?_|((with_reducible apply st_call);exact rfl;exact rfl;exact rfl;first|(exact m1)|(exact r1)|(exact Has.ag (u' := g.f) (g7 rfl rfl rfl rfl rfl rfl rfl) cs)|(exact Has.ag (u' := g.f) (g7 rfl rfl rfl rfl rfl rfl rfl) rs)|(exact c1)|(exact Has.ag (u' := g.f) (g7 rfl rfl rfl rfl rfl rfl rfl) (r5_expand ok))|(exact ce)|(exact c3))|((with_reducible apply st_callg);exact rfl;exact rfl;(first|exact rfl|assumption);exact rfl;exact rfl;exact rfl;first|(exact m1)|(exact r1)|(exact Has.ag (u' := g.f) (g7 rfl rfl rfl rfl rfl rfl rfl) cs)|(exact Has.ag (u' := g.f) (g7 rfl rfl rfl rfl rfl rfl rfl) rs)|(exact c1)|(exact Has.ag (u' := g.f) (g7 rfl rfl rfl rfl rfl rfl rfl) (r5_expand ok))|(exact ce)|(exact c3)))
    refine awp_no rfl rfl ?_
    repeat(first|refine run1p ?_|((with_reducible apply st_call);exact rfl;exact rfl;exact rfl;first|(exact cw)|(exact m2)|(exact r2)|(exact r3)|(exact Has.ag (u' := o.f) (g7 rfl rfl rfl rfl rfl rfl rfl) sk)|(exact Has.ag (u' := g.f) (g7 rfl rfl rfl rfl rfl rfl rfl) sl))|((with_reducible apply st_callg);exact rfl;exact rfl;(first|exact rfl|assumption);exact rfl;exact rfl;exact rfl;first|(exact cw)|(exact m2)|(exact r2)|(exact r3)|(exact Has.ag (u' := o.f) (g7 rfl rfl rfl rfl rfl rfl rfl) sk)|(exact Has.ag (u' := g.f) (g7 rfl rfl rfl rfl rfl rfl rfl) sl)))
    exact ⟨.inr rfl, _, Imp.refl _, .one (.tmp rfl)⟩
  · rw [if_neg (by omega), hl] at rs
    have c1 : Has Tryz.prog 26 [.v (.slice none 0 0), .v (.slice none 0 0)] (.b true) := Has.args (k_rows (n := 0) (f := fun _ => 0) (g := fun _ => 0) (hf := fun _ => Wt.zero) (by decide) (by decide) (fun _ _ => rfl)) fun S B β w vs hv => rvs_cons rv_nil0 (fun us hu => rvs_cons rv_nil0 (fun us hu => hu) hu) hv
    have fK : decide (((K + 1 : Nat) : Int) ≠ ((K + 1 : Nat) : Int)) = false := decide_eq_false fun h => h rfl
    have gK : (decide (((K + 1 : Nat) : Int) ≠ ((K + 1 : Nat) : Int)) == false) = true := by rw [fK]; rfl
    repeat(first|refine run1p ?_|((with_reducible apply st_call);exact rfl;exact rfl;exact rfl;first|(exact m1)|(exact r1)|(exact Has.ag (u' := g.f) (g7 rfl rfl rfl rfl rfl rfl rfl) cs)|(exact Has.ag (u' := g.f) (g7 rfl rfl rfl rfl rfl rfl rfl) rs)|(exact c1))|((with_reducible apply st_callg);exact rfl;exact rfl;(first|exact rfl|assumption);exact rfl;exact rfl;exact rfl;first|(exact m1)|(exact r1)|(exact Has.ag (u' := g.f) (g7 rfl rfl rfl rfl rfl rfl rfl) cs)|(exact Has.ag (u' := g.f) (g7 rfl rfl rfl rfl rfl rfl rfl) rs)|(exact c1)))
    refine awp_no rfl rfl ?_
    repeat(first|refine run1p ?_|((with_reducible apply st_call);exact rfl;exact rfl;exact rfl;first|(exact cw)|(exact m2)|(exact r2)|(exact r3)|(exact Has.ag (u' := o.f) (g7 rfl rfl rfl rfl rfl rfl rfl) sk)|(exact Has.ag (u' := g.f) (g7 rfl rfl rfl rfl rfl rfl rfl) sl))|((with_reducible apply st_callg);exact rfl;exact rfl;(first|exact rfl|assumption);exact rfl;exact rfl;exact rfl;first|(exact cw)|(exact m2)|(exact r2)|(exact r3)|(exact Has.ag (u' := o.f) (g7 rfl rfl rfl rfl rfl rfl rfl) sk)|(exact Has.ag (u' := g.f) (g7 rfl rfl rfl rfl rfl rfl rfl) sl)))
    exact ⟨.inr rfl, _, Imp.refl _, .one (.tmp rfl)⟩
end Go.Proofs.YtddkocidfhaofaaGreat.AM

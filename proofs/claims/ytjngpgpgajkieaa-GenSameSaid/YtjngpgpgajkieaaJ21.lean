/- Joined texts, 21: LawW LawX. -/
import Derived.Test.YtjngpgpgajkieaaJ19
set_option linter.unusedVariables false
set_option linter.unusedSimpArgs false
/- Laws of systems: GenLinear. -/
namespace Go.Proofs.Ytjngpgpgajkieaa.AM
open Go Go.RowKit Go.Proofs.Ytjngpgpgajkieaa.PN Go.Proofs.Ytjngpgpgajkieaa.V
open Go.Proofs.Ytjngpgpgajkieaa.LA (S S_succ S_zero S_congr)
set_option linter.unusedVariables false
set_option linter.unusedSimpArgs false
set_option maxRecDepth 8000
set_option maxHeartbeats 8000000
/-- The other system, with the first one's second row and last. -/
def gB (a b : GD) : GD := ⟨a.k, a.n, a.r, a.la, a.lb, a.lg, a.lh, fun i => if a.k = 7 then a.A i else b.A i, a.B, b.G, a.H⟩
/-- The sum. -/
def gS (a b : GD) : GD := ⟨a.k, a.n, a.r, a.la, a.lb, a.lg, a.lh, fun i => if a.k = 7 then a.A i else a.A i + b.A i, a.B, fun i => a.G i + b.G i, a.H⟩
structure Two (a b : GD) : Prop where
  k : b.k = a.k
  n : b.n = a.n
  r : b.r = a.r
  la : b.la = a.la
  lg : b.lg = a.lg
  kk : a.k = 1 ∨ a.k = 2 ∨ a.k = 3 ∨ a.k = 6 ∨ a.k = 7
  A : ∀ i, i < a.la → wt (a.A i) ≤ 1
  A' : ∀ i, i < a.la → wt (b.A i) ≤ 1
  G : ∀ i, i < a.lg → wt (a.G i) ≤ 1
  G' : ∀ i, i < a.lg → wt (b.G i) ≤ 1
theorem S_add (n : Nat) (f g : Nat → Rat) : S n (fun i => f i + g i) = S n f + S n g := by
  induction n with
  | zero => rw [S_zero, S_zero, S_zero, Rat.add_zero]
  | succ n ih => rw [S_succ, S_succ, S_succ, ih, Rat.add_assoc, Rat.add_assoc]; congr 1; rw [← Rat.add_assoc, Rat.add_comm (S n g) (f n), Rat.add_assoc]
theorem gB_ok {a b : GD} (h : a.OK) (t : Two a b) : (gB a b).OK := by
  refine ⟨h.k1, h.k7, h.n1, h.n8, h.r3, h.rk, h.r0, h.len, ⟨fun i hi => ?_, h.sm.B, fun i hi => Nat.le_trans (t.G' i hi) (by decide), h.sm.H⟩, fun i hi j hj => ?_⟩
  · show wt (if a.k = 7 then a.A i else b.A i) ≤ 4
    split
    · exact h.sm.A i hi
    · exact Nat.le_trans (t.A' i hi) (by decide)
  · show (if a.k = 7 then a.A i else b.A i) ≠ a.B j
    have hj : j < a.lb := hj
    by_cases e : a.k = 7
    · rw [if_pos e]; exact h.ne i hi j hj
    · exfalso
      have := (h.len 1 (by omega))
      have hk := t.kk
      have l1 : ((a.lb : Nat) : Int) = mpz (cmap a.k (1 : Nat)) 0 * a.n + mpz (cmap a.k (1 : Nat)) 1 * a.n * a.r + mpz (cmap a.k (1 : Nat)) 2 := this
      have c : ∀ (x y z n r : Int), x = 0 → y = 0 → z = 0 → x * n + y * n * r + z = 0 := by intro x y z n r hx hy hz; subst hx; subst hy; subst hz; simp
      rcases hk with hk | hk | hk | hk | hk
      · rw [hk, c _ _ _ _ _ (by decide) (by decide) (by decide)] at l1; omega
      · rw [hk, c _ _ _ _ _ (by decide) (by decide) (by decide)] at l1; omega
      · rw [hk, c _ _ _ _ _ (by decide) (by decide) (by decide)] at l1; omega
      · rw [hk, c _ _ _ _ _ (by decide) (by decide) (by decide)] at l1; omega
      · exact e hk
theorem gS_ok {a b : GD} (h : a.OK) (t : Two a b) : (gS a b).OK := by
  have hb := gB_ok h t
  refine ⟨h.k1, h.k7, h.n1, h.n8, h.r3, h.rk, h.r0, h.len, ⟨fun i hi => ?_, h.sm.B, fun i hi => ?_, h.sm.H⟩, fun i hi j hj => ?_⟩
  · show wt (if a.k = 7 then a.A i else a.A i + b.A i) ≤ 4
    split
    · exact h.sm.A i hi
    · have h1 := wt_add (a.A i) (b.A i); have h2 := t.A i hi; have h3 := t.A' i hi; omega
  · show wt (a.G i + b.G i) ≤ 4
    have h1 := wt_add (a.G i) (b.G i); have h2 := t.G i hi; have h3 := t.G' i hi; omega
  · show (if a.k = 7 then a.A i else a.A i + b.A i) ≠ a.B j
    by_cases e : a.k = 7
    · rw [if_pos e]; exact h.ne i hi j hj
    · exfalso
      have := hb.ne i hi j hj
      have l1 : ((a.lb : Nat) : Int) = mpz (cmap a.k (1 : Nat)) 0 * a.n + mpz (cmap a.k (1 : Nat)) 1 * a.n * a.r + mpz (cmap a.k (1 : Nat)) 2 := h.len 1 (by omega)
      have hj : j < a.lb := hj
      have c : ∀ (x y z n r : Int), x = 0 → y = 0 → z = 0 → x * n + y * n * r + z = 0 := by intro x y z n r hx hy hz; subst hx; subst hy; subst hz; simp
      rcases t.kk with hk | hk | hk | hk | hk
      · rw [hk, c _ _ _ _ _ (by decide) (by decide) (by decide)] at l1; omega
      · rw [hk, c _ _ _ _ _ (by decide) (by decide) (by decide)] at l1; omega
      · rw [hk, c _ _ _ _ _ (by decide) (by decide) (by decide)] at l1; omega
      · rw [hk, c _ _ _ _ _ (by decide) (by decide) (by decide)] at l1; omega
      · exact e hk
theorem rdot_add (a b : GD) (i j : Nat) : rdot (gS a b) i j = rdot a i j + rdot (gB a b) i j := by
  unfold rdot
  show S a.r (fun k => (a.G (i * a.r + k) + b.G (i * a.r + k)) * a.H (j * a.r + k)) = S a.r (fun k => a.G (i * a.r + k) * a.H (j * a.r + k)) + S a.r (fun k => b.G (i * a.r + k) * a.H (j * a.r + k))
  rw [← S_add]
  exact S_congr fun k _ => Rat.add_mul ..
theorem gent_add {a b : GD} (t : Two a b) (i j : Nat) : gent (gS a b) i j = gent a i j + gent (gB a b) i j := by
  have e1 : (gS a b).k = a.k := rfl
  have e2 : (gB a b).k = a.k := rfl
  unfold gent
  rw [e1, e2]
  rcases t.kk with hk | hk | hk | hk | hk
  · rw [hk]; show (if a.k = 7 then _ else _) = _ + (if a.k = 7 then _ else _); rw [if_neg (by omega), if_neg (by omega)]; rfl
  · rw [hk]; show (if a.k = 7 then _ else _) = _ + (if a.k = 7 then _ else _); rw [if_neg (by omega), if_neg (by omega)]; rfl
  · rw [hk]; show (if a.k = 7 then _ else _) = _ + (if a.k = 7 then _ else _); rw [if_neg (by omega), if_neg (by omega)]; rfl
  · rw [hk]
    show S (min i j + 1) (fun m => rdot (gS a b) (i - m) (j - m)) = S (min i j + 1) (fun m => rdot a (i - m) (j - m)) + S (min i j + 1) (fun m => rdot (gB a b) (i - m) (j - m))
    rw [← S_add]
    exact S_congr fun k _ => rdot_add a b _ _
  · rw [hk]
    show rdot (gS a b) i j / ((if a.k = 7 then _ else _) - _) = _ + rdot (gB a b) i j / ((if a.k = 7 then _ else _) - _)
    rw [if_pos hk, if_pos hk, rdot_add, Rat.div_def, Rat.add_mul, ← Rat.div_def, ← Rat.div_def]
    rfl
end Go.Proofs.Ytjngpgpgajkieaa.AM
/- Laws of systems: GenLinear, walked. -/
namespace Go.Proofs.Ytjngpgpgajkieaa.AM
open Go Go.RowKit Go.Proofs.Ytjngpgpgajkieaa.PN Go.Proofs.Ytjngpgpgajkieaa.V
open Go.Proofs.Ytjngpgpgajkieaa.LA (S S_succ S_zero S_congr)
set_option linter.unusedVariables false
set_option linter.unusedSimpArgs false
set_option maxRecDepth 8000
set_option maxHeartbeats 8000000
def lin5 : List Int := [0, 1, 2, 5, 6]
theorem lin_k (z : Int) : (0 ≤ lin5.getD (wthn z 5).toNat 0 ∧ lin5.getD (wthn z 5).toNat 0 ≤ 6) ∧ (mkK (lin5.getD (wthn z 5).toNat 0) : Int) = lin5.getD (wthn z 5).toNat 0 + 1 ∧ (mkK (lin5.getD (wthn z 5).toNat 0) = 1 ∨ mkK (lin5.getD (wthn z 5).toNat 0) = 2 ∨ mkK (lin5.getD (wthn z 5).toNat 0) = 3 ∨ mkK (lin5.getD (wthn z 5).toNat 0) = 6 ∨ mkK (lin5.getD (wthn z 5).toNat 0) = 7) := by
  obtain ⟨h1, h2⟩ := wthn_lt (a := z) (n := 5) (by decide)
  have key : ∀ k, k < 5 → (0 ≤ lin5.getD k 0 ∧ lin5.getD k 0 ≤ 6) ∧ (mkK (lin5.getD k 0) : Int) = lin5.getD k 0 + 1 ∧ (mkK (lin5.getD k 0) = 1 ∨ mkK (lin5.getD k 0) = 2 ∨ mkK (lin5.getD k 0) = 3 ∨ mkK (lin5.getD k 0) = 6 ∨ mkK (lin5.getD k 0) = 7) := by decide
  exact key _ (by omega)
theorem two_mk {kk n : Int} {zs ms : List Int} (hk : mkK kk = 1 ∨ mkK kk = 2 ∨ mkK kk = 3 ∨ mkK kk = 6 ∨ mkK kk = 7) : Two (mkg kk n zs 5) (mkg kk n ms 5) := by
  have wG : ∀ (zs : List Int) (a b c i : Nat), wt (mkL zs a b c 0 (a + b + i)) ≤ 1 := fun zs a b c i => by
    unfold mkL
    rw [if_neg (by omega), if_neg (by omega)]
    exact (rowq_wt zs _).le
  have wA : ∀ (zs : List Int) (a b c i : Nat), i < a → wt (mkL zs a b c 0 (0 + i)) ≤ 1 := fun zs a b c i hi => by
    rw [Nat.zero_add, mkL_A hi]; exact (rowq_wt zs _).le
  exact ⟨rfl, rfl, rfl, rfl, rfl, hk, fun i hi => wA _ _ _ _ i hi, fun i hi => wA _ _ _ _ i hi, fun i _ => wG _ _ _ _ i, fun i _ => wG _ _ _ _ i⟩
/-- A system with two of its rows as they stand. -/
def GD.fw (g : GD) (x y : AV) (i : Nat) : AV := [AV.i g.k, .i g.n, .i g.r, x, .row true g.lb (fun i => .q (g.B i)), y, .row true g.lh (fun i => .q (g.H i))].getD i (.v undef)
theorem fld_next {s : St} {t a : Nat} {b b' : Blk} {F : Nat → Blk} {e : List (Nat × AV)} {l : List (Nat × Fam)} (ha : s.heap a = some (1, F)) (hF : F 0 = b') (hb : BLe (s1 t a) b' b) (hok : b.ok (fun _ => false)) (h60 : s.used 60 = false) (hn : notIn t a (keys l) = true)
    (he : AllE s (s1 t a) (fun g => memN g (t :: keys l)) e) (hl : AllH s (s1 t a) (fun g => memN g (t :: keys l)) l) : Imp s (stl e ((t, (1, fun _ => b)) :: l)) := by
  refine imp_stl (h := (t, (1, fun _ => b)) :: l) (s1 t a) (fun h => by rw [h60] at h; cases h) (s1_injl hn) he ⟨fun r hr => ?_, hl⟩ (by rw [h60]; rfl)
  obtain rfl : r = 0 := by omega
  rw [s1_t]
  exact ⟨1, F, ha, Nat.zero_lt_one, by rw [hF]; exact hb, Blk.ok_mono (fun g h => by cases h) hok⟩
theorem awp_bjoin {P : Program} {M id : Nat} {c y : Code} {Q : Exit → St → Prop} {s : St} (s1 : St) (h : AWP P M c (blockQ id (joinQ s1)) s) (k : AWP P M y Q s1) : AWP P M c (blockQ id (thenQ P M y Q)) s :=
  awp_mono h fun e s' hq => by
    unfold blockQ at hq ⊢
    have key : ∀ e, joinQ s1 e s' → thenQ P M y Q e s' := fun e ⟨he, hi⟩ => by subst he; exact awp_imp hi k
    split at hq
    · rename_i i
      cases hb : Nat.beq i id with
      | true => rw [hb] at hq; exact key _ hq
      | false => rw [hb] at hq; exact key _ hq
    · exact key _ hq
theorem le7 {σ : Ren} {T : TypeId} {f f' : Nat → AV} (h0 : Le σ (f 0) (f' 0)) (h1 : Le σ (f 1) (f' 1)) (h2 : Le σ (f 2) (f' 2)) (h3 : Le σ (f 3) (f' 3)) (h4 : Le σ (f 4) (f' 4)) (h5 : Le σ (f 5) (f' 5)) (h6 : Le σ (f 6) (f' 6)) : BLe σ (.ones T 7 f) (.ones T 7 f') :=
  bleo rfl fun i hi => by
    match i, hi with
    | 0, _ => exact h0
    | 1, _ => exact h1
    | 2, _ => exact h2
    | 3, _ => exact h3
    | 4, _ => exact h4
    | 5, _ => exact h5
    | 6, _ => exact h6
theorem GD.ftok (g : GD) (U : Nat → Bool) : ∀ i, (g.ft i).ok U
  | 0 | 1 | 2 | 3 | 4 | 5 | 6 => trivial
  | _ + 7 => trivial
theorem GD.le_ft (g : GD) {σ : Ren} {T : TypeId} : BLe σ (.ones T 7 g.ft) (.ones T 7 g.ft) := le7 (Le.eq rfl rfl) (Le.eq rfl rfl) (Le.eq rfl rfl) (Le.eq rfl rfl) (Le.eq rfl rfl) (Le.eq rfl rfl) (Le.eq rfl rfl)
theorem GD.fwok (g : GD) {x y : AV} {U : Nat → Bool} (hx : x.ok U) (hy : y.ok U) : ∀ i, (g.fw x y i).ok U
  | 0 | 1 | 2 | 4 | 6 => trivial
  | 3 => hx
  | 5 => hy
  | _ + 7 => trivial
abbrev nilS : AV := .v (.slice none 0 0)
abbrev hAB (a b : GD) : List (Nat × Fam) := [(10, (1, fun _ => .ones 24 7 a.ft)), (11, (1, fun _ => .ones 24 7 (gB a b).ft))]
/-- The sum's first row, k numbers of it. -/
def linA (a b : GD) (E : List (Nat × AV)) : Nat → St
  | 0 => stl E [(10, (1, fun _ => .ones 24 7 a.ft)), (11, (1, fun _ => .ones 24 7 (gB a b).ft)), (12, (1, fun _ => .ones 24 7 (a.fw nilS nilS)))]
  | k + 1 => stl E [(70, (1, fun _ => .rats (k + 1) fun i => .q ((gS a b).A i))), (10, (1, fun _ => .ones 24 7 a.ft)), (11, (1, fun _ => .ones 24 7 (gB a b).ft)), (12, (1, fun _ => .ones 24 7 (a.fw (.own 70 0) nilS)))]
/-- .. its third row. -/
def linG (a b : GD) (E : List (Nat × AV)) : Nat → St
  | 0 => stl E [(10, (1, fun _ => .ones 24 7 a.ft)), (11, (1, fun _ => .ones 24 7 (gB a b).ft)), (12, (1, fun _ => .ones 24 7 (a.fw (.row true a.la fun i => .q ((gS a b).A i)) nilS)))]
  | k + 1 => stl E [(71, (1, fun _ => .rats (k + 1) fun i => .q ((gS a b).G i))), (10, (1, fun _ => .ones 24 7 a.ft)), (11, (1, fun _ => .ones 24 7 (gB a b).ft)), (12, (1, fun _ => .ones 24 7 (a.fw (.row true a.la fun i => .q ((gS a b).A i)) (.own 71 0))))]
theorem k_linear {kind n : Int} {zs ms : List Int} (hk : Fits .i64 kind) (hn : Fits .i64 n) (hz : AllFit zs) (hm : AllFit ms) : Has Try.prog 5 [.i kind, .i n, .seq .i64 zs, .seq .i64 ms] (.b true) := by
  obtain ⟨hkk, eK, hK⟩ := lin_k kind
  obtain ⟨h1, h2⟩ := wthn_lt (a := kind) (n := 5) (by decide)
  have ekk : ([0, 1, 2, 5, 6] : List Int).getD (wthn kind 5).toNat 0 = lin5.getD (wthn kind 5).toNat 0 := rfl
  generalize lin5.getD (wthn kind 5).toNat 0 = kk at *
  have m1 := k_mk (kind := kk) (n := n) (most := 5) (zs := zs) (by show _ ∧ _; omega) hn hz (by decide) (by decide)
  have m2 := k_mk (kind := kk) (n := n) (most := 5) (zs := ms) (by show _ ∧ _; omega) hn hm (by decide) (by decide)
  have o := mkg_ok (kind := kk) (n := n) (zs := zs) (most := 5) (by decide) (by decide)
  have t := two_mk (kk := kk) (n := n) (zs := zs) (ms := ms) hK
  have ek : ((mkg kk n zs 5).k : Int) = kk + 1 := eK
  generalize mkg kk n zs 5 = a at *
  generalize mkg kk n ms 5 = b at *
  have ob := gB_ok o t; have os := gS_ok o t
  have n8 := o.n8; have n1 := o.n1
  have la := o.lenle 0 (by omega); have lg := o.lenle 2 (by omega)
  have la : a.la ≤ 1000000 := la
  have lg : a.lg ≤ 1000000 := lg
  refine has_of Try.func5 (by kernel_rfl) rfl Try.ntmps5 Try.results5 rfl rfl rfl ?_
  repeat(first|refine run1p ?_|((with_reducible apply st_call);exact rfl;exact rfl;exact rfl;first|(exact k_known5))|((with_reducible apply st_callg);exact rfl;exact rfl;(first|exact rfl|assumption);exact rfl;exact rfl;exact rfl;first|(exact k_known5)))
  refine awp_no rfl rfl ?_
  repeat(first|refine run1p ?_|((with_reducible apply st_call);exact rfl;exact rfl;exact rfl;first|(exact k_within5 (by decide) (by decide)))|((with_reducible apply st_callg);exact rfl;exact rfl;(first|exact rfl|assumption);exact rfl;exact rfl;exact rfl;first|(exact k_within5 (by decide) (by decide))))
  rw [ekk]
  repeat(first|refine run1p ?_|((with_reducible apply st_call);exact rfl;exact rfl;exact rfl;first|(exact m1)|(exact m2))|((with_reducible apply st_callg);exact rfl;exact rfl;(first|exact rfl|assumption);exact rfl;exact rfl;exact rfl;first|(exact m1)|(exact m2)))
  refine awp_join (stl [(9, .i kk), (10, .ptr 10 0 0), (11, .ptr 11 0 0)] (hAB a b)) ?_ ?_
  · refine awp_if rfl (fun h => ?_) (fun h => ?_)
    · have h7 : a.k = 7 := by omega
      refine run0p ?_
      refine ⟨rfl, imp_id ?_ ?_⟩
      · exact eA
      · exact allh rfl (by decide) (bleo rfl fun _ _ => Le.id rfl) (fun i _ => a.ftok _ i) (allh rfl (by decide) (le7 (Le.id (congrArg (fun k : Nat => AV.i k) t.k)) (Le.id (congrArg (fun k : Nat => AV.i k) t.n)) (Le.id (congrArg (fun k : Nat => AV.i k) t.r)) (Le.row rfl (fun i _ => congrArg RA.q (show a.A i = if a.k = 7 then a.A i else b.A i by rw [if_pos h7])) fun h => h) (Le.id rfl) (Le.row t.lg (fun _ _ => rfl) fun h => h) (Le.id rfl)) (fun i _ => (gB a b).ftok _ i) True.intro)
    · have h7 : ¬ a.k = 7 := by omega
      refine run0p ?_
      refine ⟨rfl, imp_id ?_ ?_⟩
      · exact eA
      · exact allh rfl (by decide) (bleo rfl fun _ _ => Le.id rfl) (fun i _ => a.ftok _ i) (allh rfl (by decide) (le7 (Le.id (congrArg (fun k : Nat => AV.i k) t.k)) (Le.id (congrArg (fun k : Nat => AV.i k) t.n)) (Le.id (congrArg (fun k : Nat => AV.i k) t.r)) (Le.row t.la (fun i _ => congrArg RA.q (show b.A i = if a.k = 7 then a.A i else b.A i by rw [if_neg h7])) fun h => h) (Le.id rfl) (Le.row t.lg (fun _ _ => rfl) fun h => h) (Le.id rfl)) (fun i _ => (gB a b).ftok _ i) True.intro)
  refine run0p ?_
  refine awp_bjoin (stl [(9, .i kk), (10, .ptr 10 0 0), (11, .ptr 11 0 0), (12, .ptr 12 0 0)] [(10, (1, fun _ => .ones 24 7 a.ft)), (11, (1, fun _ => .ones 24 7 (gB a b).ft)), (12, (1, fun _ => .ones 24 7 (a.fw (.row true a.la fun i => .q ((gS a b).A i)) nilS)))]) (awp_loop (fun m' s => ∃ k, k ≤ a.la ∧ m' = a.la - k ∧ s = linA a b [(9, .i kk), (10, .ptr 10 0 0), (11, .ptr 11 0 0), (12, .ptr 12 0 0), (13, .i (k : Int))] k) a.la _ (imp_id (e := [(9, .i kk), (10, .ptr 10 0 0), (11, .ptr 11 0 0), (12, .ptr 12 0 0), (13, .i ((0 : Nat) : Int))]) (h := [(10, (1, fun _ => .ones 24 7 a.ft)), (11, (1, fun _ => .ones 24 7 (gB a b).ft)), (12, (1, fun _ => .ones 24 7 (a.fw nilS nilS)))]) ?_ ?_) ⟨0, Nat.zero_le _, rfl, rfl⟩ ?_) ?_
  · exact eA
  · exact allh rfl (by decide) (bleo rfl fun _ _ => Le.id rfl) (fun i _ => a.ftok _ i) (allh rfl (by decide) (bleo rfl fun _ _ => Le.id rfl) (fun i _ => (gB a b).ftok _ i) (allh rfl (by decide) (ble7 rfl rfl rfl rfl rfl rfl rfl) (fun i _ => a.fwok (x := nilS) (y := nilS) True.intro True.intro i) True.intro))
  · rintro m' s ⟨k, hk, rfl, rfl⟩
    have w1 : ∀ i, i < a.la → wt (a.A i) ≤ 1 := t.A
    have w2 : ∀ i, i < a.la → wt ((gB a b).A i) ≤ 4 := ob.sm.A
    rcases k with _ | k
    · refine run0p ?_
      refine awp_if rfl (fun h => ?_) (fun h => ?_)
      · have h : 0 < a.la := by omega
        have u1 := w1 0 h; have u2 := w2 0 h
        refine run0p ?_
        refine awp_if rfl (fun h6 => ?_) (fun h6 => ?_)
        · have h7 : a.k = 7 := by omega
          refine run0p ?_
          refine q_loop (m' := a.la - (0 + 1)) (by omega) (fld_next (t := 70) (a := 66) rfl rfl (blen rfl fun i hi => ?_) (by exact True.intro) rfl rfl ?_ ?_) ⟨0 + 1, by omega, rfl, rfl⟩
          · obtain rfl : i = 0 := by omega
            exact congrArg RA.q (show a.A 0 = if a.k = 7 then a.A 0 else a.A 0 + b.A 0 by rw [if_pos h7])
          · exact alle rfl (Le.eq rfl rfl) True.intro (alle rfl (Le.ptr (s1_ne (by decide))) rfl (alle rfl (Le.ptr (s1_ne (by decide))) rfl (alle rfl (Le.ptr (s1_ne (by decide))) rfl (alle rfl (Le.eq rfl rfl) True.intro True.intro))))
          · exact allh rfl Nat.zero_lt_one a.le_ft (fun i _ => a.ftok _ i) (allh rfl Nat.zero_lt_one (gB a b).le_ft (fun i _ => (gB a b).ftok _ i) (allh rfl Nat.zero_lt_one (le7 (Le.eq rfl rfl) (Le.eq rfl rfl) (Le.eq rfl rfl) (Le.own s1_t) (Le.eq rfl rfl) (Le.eq rfl rfl) (Le.eq rfl rfl)) (fun i _ => a.fwok (x := .own 70 0) (y := nilS) (by exact rfl) True.intro i) True.intro))
        · have h7 : ¬ a.k = 7 := by omega
          repeat(first|refine run1p ?_|((with_reducible apply st_call);exact rfl;exact rfl;exact rfl;first|(exact hs_add (p := a.A 0) (q := (gB a b).A 0) (by omega) (by omega)))|((with_reducible apply st_callg);exact rfl;exact rfl;(first|exact rfl|assumption);exact rfl;exact rfl;exact rfl;first|(exact hs_add (p := a.A 0) (q := (gB a b).A 0) (by omega) (by omega))))
          refine q_loop (m' := a.la - (0 + 1)) (by omega) (fld_next (t := 70) (a := 82) rfl rfl (blen rfl fun i hi => ?_) (by exact True.intro) rfl rfl ?_ ?_) ⟨0 + 1, by omega, rfl, rfl⟩
          · obtain rfl : i = 0 := by omega
            exact congrArg RA.q (show a.A 0 + (if a.k = 7 then a.A 0 else b.A 0) = if a.k = 7 then a.A 0 else a.A 0 + b.A 0 by rw [if_neg h7, if_neg h7])
          · exact alle rfl (Le.eq rfl rfl) True.intro (alle rfl (Le.ptr (s1_ne (by decide))) rfl (alle rfl (Le.ptr (s1_ne (by decide))) rfl (alle rfl (Le.ptr (s1_ne (by decide))) rfl (alle rfl (Le.eq rfl rfl) True.intro True.intro))))
          · exact allh rfl Nat.zero_lt_one a.le_ft (fun i _ => a.ftok _ i) (allh rfl Nat.zero_lt_one (gB a b).le_ft (fun i _ => (gB a b).ftok _ i) (allh rfl Nat.zero_lt_one (le7 (Le.eq rfl rfl) (Le.eq rfl rfl) (Le.eq rfl rfl) (Le.own s1_t) (Le.eq rfl rfl) (Le.eq rfl rfl) (Le.eq rfl rfl)) (fun i _ => a.fwok (x := .own 70 0) (y := nilS) (by exact rfl) True.intro i) True.intro))
      · have h0 : a.la = 0 := by omega
        refine run0p ?_
        refine ⟨rfl, imp_id ?_ ?_⟩
        · exact eA
        · exact allh rfl (by decide) (bleo rfl fun _ _ => Le.id rfl) (fun i _ => a.ftok _ i) (allh rfl (by decide) (bleo rfl fun _ _ => Le.id rfl) (fun i _ => (gB a b).ftok _ i) (allh rfl (by decide) (le7 (Le.id rfl) (Le.id rfl) (Le.id rfl) (show Le idR nilS (.row true a.la fun i => .q ((gS a b).A i)) by rw [h0]; exact Le.nilrow) (Le.id rfl) (Le.id rfl) (Le.id rfl)) (fun i _ => a.fwok (x := .row true a.la fun i => .q ((gS a b).A i)) (y := nilS) True.intro True.intro i) True.intro))
    · refine run0p ?_
      refine awp_if rfl (fun h => ?_) (fun h => ?_)
      · have h : k + 1 < a.la := by omega
        have u1 := w1 (k + 1) h; have u2 := w2 (k + 1) h
        refine run0p ?_
        refine awp_if rfl (fun h6 => ?_) (fun h6 => ?_)
        · have h7 : a.k = 7 := by omega
          refine run0p ?_
          refine q_loop (m' := a.la - (k + 1 + 1)) (by omega) (fld_next (t := 70) (a := 66) rfl rfl (glue_one (congrArg RA.q (show a.A (k + 1) = if a.k = 7 then a.A (k + 1) else a.A (k + 1) + b.A (k + 1) by rw [if_pos h7]))) (by exact True.intro) rfl rfl ?_ ?_) ⟨k + 1 + 1, by omega, rfl, rfl⟩
          · exact alle rfl (Le.eq rfl rfl) True.intro (alle rfl (Le.ptr (s1_ne (by decide))) rfl (alle rfl (Le.ptr (s1_ne (by decide))) rfl (alle rfl (Le.ptr (s1_ne (by decide))) rfl (alle rfl (Le.eq rfl rfl) True.intro True.intro))))
          · exact allh rfl Nat.zero_lt_one a.le_ft (fun i _ => a.ftok _ i) (allh rfl Nat.zero_lt_one (gB a b).le_ft (fun i _ => (gB a b).ftok _ i) (allh rfl Nat.zero_lt_one (le7 (Le.eq rfl rfl) (Le.eq rfl rfl) (Le.eq rfl rfl) (Le.own s1_t) (Le.eq rfl rfl) (Le.eq rfl rfl) (Le.eq rfl rfl)) (fun i _ => a.fwok (x := .own 70 0) (y := nilS) (by exact rfl) True.intro i) True.intro))
        · have h7 : ¬ a.k = 7 := by omega
          repeat(first|refine run1p ?_|((with_reducible apply st_call);exact rfl;exact rfl;exact rfl;first|(exact hs_add (p := a.A (k + 1)) (q := (gB a b).A (k + 1)) (by omega) (by omega)))|((with_reducible apply st_callg);exact rfl;exact rfl;(first|exact rfl|assumption);exact rfl;exact rfl;exact rfl;first|(exact hs_add (p := a.A (k + 1)) (q := (gB a b).A (k + 1)) (by omega) (by omega))))
          refine q_loop (m' := a.la - (k + 1 + 1)) (by omega) (fld_next (t := 70) (a := 82) rfl rfl (glue_one (congrArg RA.q (show a.A (k + 1) + (if a.k = 7 then a.A (k + 1) else b.A (k + 1)) = if a.k = 7 then a.A (k + 1) else a.A (k + 1) + b.A (k + 1) by rw [if_neg h7, if_neg h7]))) (by exact True.intro) rfl rfl ?_ ?_) ⟨k + 1 + 1, by omega, rfl, rfl⟩
          · exact alle rfl (Le.eq rfl rfl) True.intro (alle rfl (Le.ptr (s1_ne (by decide))) rfl (alle rfl (Le.ptr (s1_ne (by decide))) rfl (alle rfl (Le.ptr (s1_ne (by decide))) rfl (alle rfl (Le.eq rfl rfl) True.intro True.intro))))
          · exact allh rfl Nat.zero_lt_one a.le_ft (fun i _ => a.ftok _ i) (allh rfl Nat.zero_lt_one (gB a b).le_ft (fun i _ => (gB a b).ftok _ i) (allh rfl Nat.zero_lt_one (le7 (Le.eq rfl rfl) (Le.eq rfl rfl) (Le.eq rfl rfl) (Le.own s1_t) (Le.eq rfl rfl) (Le.eq rfl rfl) (Le.eq rfl rfl)) (fun i _ => a.fwok (x := .own 70 0) (y := nilS) (by exact rfl) True.intro i) True.intro))
      · have h0 : k + 1 = a.la := by omega
        refine run0p ?_
        refine ⟨rfl, (imp_pub 12 3 rfl rfl (by decide) rfl rfl rfl (by decide)).trans (imp_id ?_ ?_)⟩
        · exact eA
        · exact allh rfl (by decide) (bleo rfl fun _ _ => Le.id rfl) (fun i _ => a.ftok _ i) (allh rfl (by decide) (bleo rfl fun _ _ => Le.id rfl) (fun i _ => (gB a b).ftok _ i) (allh rfl (by decide) (le7 (Le.id rfl) (Le.id rfl) (Le.id rfl) (Le.row h0 (fun _ _ => rfl) fun h => h) (Le.id rfl) (Le.id rfl) (Le.id rfl)) (fun i _ => a.fwok (x := .row true a.la fun i => .q ((gS a b).A i)) (y := nilS) True.intro True.intro i) True.intro))
  refine run0p ?_
  refine awp_bjoin (stl [(9, .i kk), (10, .ptr 10 0 0), (11, .ptr 11 0 0), (12, .ptr 12 0 0)] [(10, (1, fun _ => .ones 24 7 a.ft)), (11, (1, fun _ => .ones 24 7 (gB a b).ft)), (12, (1, fun _ => .ones 24 7 (gS a b).ft))]) (awp_loop (fun m' s => ∃ k, k ≤ a.lg ∧ m' = a.lg - k ∧ s = linG a b [(9, .i kk), (10, .ptr 10 0 0), (11, .ptr 11 0 0), (12, .ptr 12 0 0), (14, .i (k : Int))] k) a.lg _ (imp_id (e := [(9, .i kk), (10, .ptr 10 0 0), (11, .ptr 11 0 0), (12, .ptr 12 0 0), (14, .i ((0 : Nat) : Int))]) (h := [(10, (1, fun _ => .ones 24 7 a.ft)), (11, (1, fun _ => .ones 24 7 (gB a b).ft)), (12, (1, fun _ => .ones 24 7 (a.fw (.row true a.la fun i => .q ((gS a b).A i)) nilS)))]) ?_ ?_) ⟨0, Nat.zero_le _, rfl, rfl⟩ ?_) ?_
  · exact eA
  · exact allh rfl (by decide) (bleo rfl fun _ _ => Le.id rfl) (fun i _ => a.ftok _ i) (allh rfl (by decide) (bleo rfl fun _ _ => Le.id rfl) (fun i _ => (gB a b).ftok _ i) (allh rfl (by decide) (bleo rfl fun _ _ => Le.id rfl) (fun i _ => a.fwok (x := .row true a.la fun i => .q ((gS a b).A i)) (y := nilS) True.intro True.intro i) True.intro))
  · rintro m' s ⟨k, hk, rfl, rfl⟩
    have w1 : ∀ i, i < a.lg → wt (a.G i) ≤ 1 := t.G
    have w2 : ∀ i, i < a.lg → wt ((gB a b).G i) ≤ 1 := t.G'
    rcases k with _ | k
    · refine run0p ?_
      refine awp_if rfl (fun h => ?_) (fun h => ?_)
      · have h : 0 < a.lg := by omega
        have u1 := w1 0 h; have u2 := w2 0 h
        repeat(first|refine run1p ?_|((with_reducible apply st_call);exact rfl;exact rfl;exact rfl;first|(exact hs_add (p := a.G 0) (q := (gB a b).G 0) (by omega) (by omega)))|((with_reducible apply st_callg);exact rfl;exact rfl;(first|exact rfl|assumption);exact rfl;exact rfl;exact rfl;first|(exact hs_add (p := a.G 0) (q := (gB a b).G 0) (by omega) (by omega))))
        refine q_loop (m' := a.lg - (0 + 1)) (by omega) (fld_next (t := 71) (a := 105) rfl rfl (blen rfl fun i hi => ?_) (by exact True.intro) rfl rfl ?_ ?_) ⟨0 + 1, by omega, rfl, rfl⟩
        · obtain rfl : i = 0 := by omega
          exact congrArg RA.q (rfl)
        · exact alle rfl (Le.eq rfl rfl) True.intro (alle rfl (Le.ptr (s1_ne (by decide))) rfl (alle rfl (Le.ptr (s1_ne (by decide))) rfl (alle rfl (Le.ptr (s1_ne (by decide))) rfl (alle rfl (Le.eq rfl rfl) True.intro True.intro))))
        · exact allh rfl Nat.zero_lt_one a.le_ft (fun i _ => a.ftok _ i) (allh rfl Nat.zero_lt_one (gB a b).le_ft (fun i _ => (gB a b).ftok _ i) (allh rfl Nat.zero_lt_one (le7 (Le.eq rfl rfl) (Le.eq rfl rfl) (Le.eq rfl rfl) (Le.eq rfl rfl) (Le.eq rfl rfl) (Le.own s1_t) (Le.eq rfl rfl)) (fun i _ => a.fwok (x := .row true a.la fun i => .q ((gS a b).A i)) (y := .own 71 0) True.intro (by exact rfl) i) True.intro))
      · have h0 : a.lg = 0 := by omega
        refine run0p ?_
        refine ⟨rfl, imp_id ?_ ?_⟩
        · exact eA
        · exact allh rfl (by decide) (bleo rfl fun _ _ => Le.id rfl) (fun i _ => a.ftok _ i) (allh rfl (by decide) (bleo rfl fun _ _ => Le.id rfl) (fun i _ => (gB a b).ftok _ i) (allh rfl (by decide) (le7 (Le.id rfl) (Le.id rfl) (Le.id rfl) (Le.id rfl) (Le.id rfl) (show Le idR nilS (.row true a.lg fun i => .q ((gS a b).G i)) by rw [h0]; exact Le.nilrow) (Le.id rfl)) (fun i _ => (gS a b).ftok _ i) True.intro))
    · refine run0p ?_
      refine awp_if rfl (fun h => ?_) (fun h => ?_)
      · have h : k + 1 < a.lg := by omega
        have u1 := w1 (k + 1) h; have u2 := w2 (k + 1) h
        repeat(first|refine run1p ?_|((with_reducible apply st_call);exact rfl;exact rfl;exact rfl;first|(exact hs_add (p := a.G (k + 1)) (q := (gB a b).G (k + 1)) (by omega) (by omega)))|((with_reducible apply st_callg);exact rfl;exact rfl;(first|exact rfl|assumption);exact rfl;exact rfl;exact rfl;first|(exact hs_add (p := a.G (k + 1)) (q := (gB a b).G (k + 1)) (by omega) (by omega))))
        refine q_loop (m' := a.lg - (k + 1 + 1)) (by omega) (fld_next (t := 71) (a := 105) rfl rfl (glue_one (congrArg RA.q (rfl))) (by exact True.intro) rfl rfl ?_ ?_) ⟨k + 1 + 1, by omega, rfl, rfl⟩
        · exact alle rfl (Le.eq rfl rfl) True.intro (alle rfl (Le.ptr (s1_ne (by decide))) rfl (alle rfl (Le.ptr (s1_ne (by decide))) rfl (alle rfl (Le.ptr (s1_ne (by decide))) rfl (alle rfl (Le.eq rfl rfl) True.intro True.intro))))
        · exact allh rfl Nat.zero_lt_one a.le_ft (fun i _ => a.ftok _ i) (allh rfl Nat.zero_lt_one (gB a b).le_ft (fun i _ => (gB a b).ftok _ i) (allh rfl Nat.zero_lt_one (le7 (Le.eq rfl rfl) (Le.eq rfl rfl) (Le.eq rfl rfl) (Le.eq rfl rfl) (Le.eq rfl rfl) (Le.own s1_t) (Le.eq rfl rfl)) (fun i _ => a.fwok (x := .row true a.la fun i => .q ((gS a b).A i)) (y := .own 71 0) True.intro (by exact rfl) i) True.intro))
      · have h0 : k + 1 = a.lg := by omega
        refine run0p ?_
        refine ⟨rfl, (imp_pub 12 5 rfl rfl (by decide) rfl rfl rfl (by decide)).trans (imp_id ?_ ?_)⟩
        · exact eA
        · exact allh rfl (by decide) (bleo rfl fun _ _ => Le.id rfl) (fun i _ => a.ftok _ i) (allh rfl (by decide) (bleo rfl fun _ _ => Le.id rfl) (fun i _ => (gB a b).ftok _ i) (allh rfl (by decide) (le7 (Le.id rfl) (Le.id rfl) (Le.id rfl) (Le.id rfl) (Le.id rfl) (Le.row h0 (fun _ _ => rfl) fun h => h) (Le.id rfl)) (fun i _ => (gS a b).ftok _ i) True.intro))
  have x1 : Has Try.prog 19 [.ag 7 fun i => (a.ft i).old] (.mat true a.n (fun _ => a.n) (fun i j => .q (gent a i j))) := Has.ag (u' := a.f) (g7 rfl rfl rfl rfl rfl rfl rfl) (ge_expand (g := a) o)
  have x2 : Has Try.prog 19 [.ag 7 fun i => ((gB a b).ft i).old] (.mat true a.n (fun _ => a.n) (fun i j => .q (gent (gB a b) i j))) := Has.ag (u' := (gB a b).f) (g7 rfl rfl rfl rfl rfl rfl rfl) (ge_expand (g := gB a b) ob)
  have x3 : Has Try.prog 19 [.ag 7 fun i => ((gS a b).ft i).old] (.mat true a.n (fun _ => a.n) (fun i j => .q (gent (gS a b) i j))) := Has.ag (u' := (gS a b).f) (g7 rfl rfl rfl rfl rfl rfl rfl) (ge_expand (g := gS a b) os)
  have w1 : ∀ i j, i < a.n → j < a.n → wt (gent a i j) ≤ 300 := fun i j hi hj => gent_wt o hi hj
  have w2 : ∀ i j, i < a.n → j < a.n → wt (gent (gB a b) i j) ≤ 300 := fun i j hi hj => gent_wt ob hi hj
  have w3 : ∀ i j, i < a.n → j < a.n → wt (gent (gS a b) i j) ≤ 300 := fun i j hi hj => gent_wt os hi hj
  have hadd := gent_add t
  have gN : decide ((a.n : Int) ≠ a.n) = false := decide_eq_false fun h => h rfl
  have gN2 : (decide ((a.n : Int) ≠ a.n) == false) = true := by rw [gN]; rfl
  repeat(first|refine run1p ?_|((with_reducible apply st_call);exact rfl;exact rfl;exact rfl;first|(exact x1)|(exact x2)|(exact x3))|((with_reducible apply st_callg);exact rfl;exact rfl;(first|exact rfl|assumption);exact rfl;exact rfl;exact rfl;first|(exact x1)|(exact x2)|(exact x3)))
  refine awp_no rfl gN ?_
  refine run0p ?_
  refine awp_loop (fun m' s => ∃ k, k ≤ a.n ∧ m' = a.n - k ∧ s = stl [(10, .ptr 10 0 0), (15, .mat true a.n (fun _ => a.n) (fun i j => .q (gent a i j))), (16, .mat true a.n (fun _ => a.n) (fun i j => .q (gent (gB a b) i j))), (17, .mat true a.n (fun _ => a.n) (fun i j => .q (gent (gS a b) i j))), (18, .i (k : Int))] [(10, (1, fun _ => .ones 24 7 a.ft))]) a.n _ (imp_id ?_ ?_) ⟨0, Nat.zero_le _, rfl, rfl⟩ ?_
  · exact eA
  · exact allh rfl (by decide) (bleo rfl fun _ _ => Le.id rfl) (fun i _ => a.ftok _ i) True.intro
  · rintro m' s ⟨k, hk, rfl, rfl⟩
    refine run0p ?_
    refine awp_if rfl (fun h => ?_) (fun h => ?_)
    · have h : k < a.n := by omega
      refine run0p ?_
      refine awp_loop (fun m' s => ∃ j, j ≤ a.n ∧ m' = a.n - j ∧ s = stl [(10, .ptr 10 0 0), (15, .mat true a.n (fun _ => a.n) (fun i j => .q (gent a i j))), (16, .mat true a.n (fun _ => a.n) (fun i j => .q (gent (gB a b) i j))), (17, .mat true a.n (fun _ => a.n) (fun i j => .q (gent (gS a b) i j))), (18, .i (k : Int)), (19, .i (j : Int))] [(10, (1, fun _ => .ones 24 7 a.ft))]) a.n _ (imp_id ?_ ?_) ⟨0, Nat.zero_le _, rfl, rfl⟩ ?_
      · exact eA
      · exact allh rfl (by decide) (bleo rfl fun _ _ => Le.id rfl) (fun i _ => a.ftok _ i) True.intro
      · rintro m' s ⟨j, hj, rfl, rfl⟩
        refine run0p ?_
        refine awp_if rfl (fun h1 => ?_) (fun h1 => ?_)
        · have h1 : j < a.n := by omega
          have u1 := w1 k j h h1; have u2 := w2 k j h h1; have u3 := w3 k j h h1
          have u4 := wt_add (gent a k j) (gent (gB a b) k j)
          have c5 := hs_add (p := gent a k j) (q := gent (gB a b) k j) (by omega) (by omega)
          have c4 := same_true (p := gent (gS a b) k j) (q := gent a k j + gent (gB a b) k j) (by omega) (by omega) (hadd k j)
          repeat(first|refine run1p ?_|((with_reducible apply st_call);exact rfl;exact rfl;exact rfl;first|(exact c5)|(exact c4))|((with_reducible apply st_callg);exact rfl;exact rfl;(first|exact rfl|assumption);exact rfl;exact rfl;exact rfl;first|(exact c5)|(exact c4)))
          refine awp_no rfl rfl ?_
          refine run0p ?_
          refine q_loop ?_ (imp_id ?_ ?_) ⟨j + 1, ?_, rfl, rfl⟩
          · omega
          · exact eA
          · exact allh rfl (by decide) (bleo rfl fun _ _ => Le.id rfl) (fun i _ => a.ftok _ i) True.intro
          · omega
        · refine run0p ?_
          refine q_loop ?_ (imp_id ?_ ?_) ⟨k + 1, ?_, rfl, rfl⟩
          · omega
          · exact eA
          · exact allh rfl (by decide) (bleo rfl fun _ _ => Le.id rfl) (fun i _ => a.ftok _ i) True.intro
          · omega
    · refine run0p ?_
      exact ⟨.inr rfl, _, Imp.refl _, .one (.tmp rfl)⟩
end Go.Proofs.Ytjngpgpgajkieaa.AM

/- Joined texts, 3: RatB AmA AmB. -/
import Derived.Test.YtpclkgjhfhhddaaJLawGenChecks2
set_option linter.unusedVariables false
set_option linter.unusedSimpArgs false
/- Rational numbers: walks: products. -/
namespace Go.Proofs.Ytpclkgjhfhhddaa.V
open Go Go.RowKit Go.Proofs.Ytpclkgjhfhhddaa.PN
set_option linter.unusedVariables false
set_option linter.unusedSimpArgs false
/-! ### Two boxes that are read while calls make memory -/
theorem two_step {W w w1 : World} {g h : Nat} {a b c a' b' c' : Value}
    (hs : Kept W w ∧ w.cell? ⟨g, 0, none⟩ = some a ∧ w.cell? ⟨g, 1, none⟩ = some b ∧ w.cell? ⟨g, 2, none⟩ = some c ∧ w.cell? ⟨h, 0, none⟩ = some a' ∧ w.cell? ⟨h, 1, none⟩ = some b' ∧ w.cell? ⟨h, 2, none⟩ = some c') (hk : Kept w w1) :
    Kept W w1 ∧ w1.cell? ⟨g, 0, none⟩ = some a ∧ w1.cell? ⟨g, 1, none⟩ = some b ∧ w1.cell? ⟨g, 2, none⟩ = some c ∧ w1.cell? ⟨h, 0, none⟩ = some a' ∧ w1.cell? ⟨h, 1, none⟩ = some b' ∧ w1.cell? ⟨h, 2, none⟩ = some c' :=
  ⟨Kept.then hs.1 hk, hk.cell hs.2.1, hk.cell hs.2.2.1, hk.cell hs.2.2.2.1, hk.cell hs.2.2.2.2.1, hk.cell hs.2.2.2.2.2.1, hk.cell hs.2.2.2.2.2.2⟩
theorem cell_set3 (w : World) (g : Nat) (s : Bool) (vn vd : Value) {k : Nat} (o : Nat) (h : k ≠ g) : (set3 w g s vn vd).cell? ⟨k, o, none⟩ = w.cell? ⟨k, o, none⟩ := by
  unfold set3
  rw [World.cell?_setCell_other (h := fun e => h (by cases e; rfl)), World.cell?_setCell_other (h := fun e => h (by cases e; rfl)), World.cell?_setCell_other (h := fun e => h (by cases e; rfl))]
theorem three {w : World} {g : Nat} {x y z : Value} {T : TypeId} (h : Row? w g #[x, y, z] T) : w.cell? ⟨g, 0, none⟩ = some x ∧ w.cell? ⟨g, 1, none⟩ = some y ∧ w.cell? ⟨g, 2, none⟩ = some z ∧ w.frozen? ⟨g, 0, none⟩ = false ∧ w.frozen? ⟨g, 1, none⟩ = false ∧ w.frozen? ⟨g, 2, none⟩ = false :=
  ⟨cell_of_row w g 0 _ _ _ h, cell_of_row w g 1 _ _ _ h, cell_of_row w g 2 _ _ _ h, frozen_of_row w g 0 _ _ h, frozen_of_row w g 1 _ _ h, frozen_of_row w g 2 _ _ h⟩
theorem row_newAt {g : Nat} (w : World) (cs : Array Value) (T : TypeId) (h : g = w.heap.size) : Row? (w.alloc (.cells cs T)) g cs T := by subst h; exact row_new w cs T
theorem bne_flip (a b : Bool) : (a != b) = (!a == b) := by cases a <;> cases b <;> rfl
theorem two_set {W w : World} {g h : Nat} {a b c a' b' c' : Value} {r : Nat} {s : Bool} {vn vd : Value}
    (hs : Kept W w ∧ w.cell? ⟨g, 0, none⟩ = some a ∧ w.cell? ⟨g, 1, none⟩ = some b ∧ w.cell? ⟨g, 2, none⟩ = some c ∧ w.cell? ⟨h, 0, none⟩ = some a' ∧ w.cell? ⟨h, 1, none⟩ = some b' ∧ w.cell? ⟨h, 2, none⟩ = some c') (hr : W.heap.size ≤ r) (hg : g ≠ r) (hh : h ≠ r) :
    Kept W (set3 w r s vn vd) ∧ (set3 w r s vn vd).cell? ⟨g, 0, none⟩ = some a ∧ (set3 w r s vn vd).cell? ⟨g, 1, none⟩ = some b ∧ (set3 w r s vn vd).cell? ⟨g, 2, none⟩ = some c ∧ (set3 w r s vn vd).cell? ⟨h, 0, none⟩ = some a' ∧ (set3 w r s vn vd).cell? ⟨h, 1, none⟩ = some b' ∧ (set3 w r s vn vd).cell? ⟨h, 2, none⟩ = some c' := by
  obtain ⟨h0, h1, h2, h3, h4, h5, h6⟩ := hs
  exact ⟨kept_set3 h0 hr s vn vd, (cell_set3 w r s vn vd 0 hg).trans h1, (cell_set3 w r s vn vd 1 hg).trans h2, (cell_set3 w r s vn vd 2 hg).trans h3, (cell_set3 w r s vn vd 0 hh).trans h4, (cell_set3 w r s vn vd 1 hh).trans h5, (cell_set3 w r s vn vd 2 hh).trans h6⟩
/-- Three boxes are made, then order is drawn. -/
theorem Kept.three (w : World) (x y z : Obj) : Kept w (((w.alloc x).alloc y).alloc z).drew := Kept.then (Kept.then (Kept.alloc _ _) (Kept.alloc _ _)) (Kept.then (Kept.alloc _ _) (Kept.drew _))
theorem results_cell2 {fn : Func} {p t : Tmp} (h : fn.results = #[.cell p RT, .tmp t]) (tmps : Array Value) (w : World) (g : Nat) (cs : Array Value) (u : Value) (hp : tmps.getD p undef = .pointer (some ⟨g, 0, none⟩)) (hu : tmps.getD t undef = u) (hg : Row? w g cs RT) (hz : cs.size = 3) :
    (results fn tmps).run Try.prog w = .ok (.tuple #[.agg cs, u]) w := by
  have hp' : tmps[p]?.getD undef = .pointer (some ⟨g, 0, none⟩) := by simpa using hp
  have hu' : tmps[t]?.getD undef = u := by simpa using hu
  simp [results, h, hp', hu', asAddr, run_loadVar_row w g RT RT cs (0, 0) _ hg Try.underlying43 rfl (by rw [hz]; exact info_rat)]
/-- A number and an error code are handed back. -/
def MadeRatE (w : World) (q : Rat) (c : Int) (e : Ending) (w' : World) : Prop :=
  ∃ s vn vd, e = .returned (.tuple #[.agg #[.bool s, vn, vd], .int .i64 c]) ∧ RatS w' (fun _ => True) s vn vd q ∧ Kept w w'
theorem ret_rat2 {fn : Func} {p t : Tmp} {a : Act} {w w1 : World} {g : Nat} {x y z : Value} {s : Bool} {vn vd : Value} {q : Rat} {c : Int} (h : fn.results = #[.cell p RT, .tmp t]) (hp : a.tmps.getD p undef = .pointer (some ⟨g, 0, none⟩)) (ht : a.tmps.getD t undef = .int .i64 c) (hd : a.defers = [])
    (r : Row? w1 g #[x, y, z] RT) (hg : w.heap.size ≤ g) (hk : Kept w w1) (hq : RatS w1 (fun _ => True) s vn vd q) : bodyPost Try.prog fn (MadeRatE w q c) .ret a (set3 w1 g s vn vd) :=
  bodyPost_ret (results_cell2 h a.tmps _ g _ _ hp ht (row_set3 r s vn vd) rfl) hd ⟨s, vn, vd, rfl, hq.up (up_set3 (Up.refl w1) r s vn vd), kept_set3 hk hg s vn vd⟩
theorem low_v {w : World} {neg : Bool} {vn vd : Value} {n d : Nat} [hn : NatAt w vn n] [hd : NatAt w vd d] (hs : size n ≤ 4398046511103) (hs' : size d ≤ 4398046511103) (hd0 : d ≠ 0) :
    Calls Try.prog 102 #[.bool neg, vn, vd] w (MadeRat w (mk neg n d)) := low_any neg vn vd n d w hn hd hs hs' hd0
set_option maxHeartbeats 2000000 in
theorem make_any (neg : Bool) (vn vd : Value) (n d : Nat) (w : World) (hn : NatAt w vn n) (hd : NatAt w vd d) (hs : size n ≤ 4398046511103) (hs' : size d ≤ 4398046511103) (hd0 : d ≠ 0) :
    Calls Try.prog 113 #[.bool neg, vn, vd] w (MadeRatE w (mk neg n d) 0) := by
  obtain ⟨An, cn, rfl, hcn, han⟩ := hn.at
  obtain ⟨Ad, cd, rfl, hcd, had⟩ := hd.at
  have HN := Lib.hid hn.up; have HD := Lib.hid hd.up
  clear han had hn hd
  have hz : ((size d : Int) == 0) = false := by
    have := size_pos (s := d) (by omega)
    simp; omega
  go_enter Try.func113, Try.ntmps113
  have iN := HN.out; have iD := HD.out
  go_wp2_with (go_at_call 102; refine (low_any neg _ _ n d _ inferInstance inferInstance hs hs' hd0).mono ?_; rintro e w1 ⟨s1, vn1, vd1, rfl, hq1, hk1⟩; obtain ⟨An1, cn1, rfl, _, _⟩ := hq1.2.1.at; obtain ⟨Ad1, cd1, rfl, _, _⟩ := hq1.2.2.at; have HQ1 := Lib.hid hq1; have HK1 := Lib.hid hk1; obtain ⟨hc1, hf1⟩ := bcell hk1; clear hq1 hk1)
  exact ret_rat2 rfl rfl rfl rfl (HK1.out.row (row_new w _ _)) (Nat.le_refl _) ((Kept.alloc w _).then HK1.out) HQ1.out
theorem make_v {w : World} {neg : Bool} {vn vd : Value} {n d : Nat} [hn : NatAt w vn n] [hd : NatAt w vd d] (hs : size n ≤ 4398046511103) (hs' : size d ≤ 4398046511103) (hd0 : d ≠ 0) :
    Calls Try.prog 113 #[.bool neg, vn, vd] w (MadeRatE w (mk neg n d) 0) := make_any neg vn vd n d w hn hd hs hs' hd0
set_option maxHeartbeats 2000000 in
theorem mul_rat {w : World} {s s' : Bool} {vn vd vn' vd' : Value} {p q : Rat} [hp : RatAt w s vn vd p] [hq : RatAt w s' vn' vd' q] (hs : wt p ≤ 1000000000000) (hs' : wt q ≤ 1000000000000) :
    Calls Try.prog 105 #[.agg #[.bool s, vn, vd], .agg #[.bool s', vn', vd']] w (MadeRat w (p * q)) := by
  obtain ⟨rfl, hn, hd⟩ := hp.out
  obtain ⟨rfl, hn', hd'⟩ := hq.out
  obtain ⟨An, cn, rfl, _, _⟩ := hn.at
  obtain ⟨Ad, cd, rfl, _, _⟩ := hd.at
  obtain ⟨An', cn', rfl, _, _⟩ := hn'.at
  obtain ⟨Ad', cd', rfl, _, _⟩ := hd'.at
  have HN := Lib.hid (NatS.lift hn); have HD := Lib.hid (NatS.lift hd); have HN' := Lib.hid (NatS.lift hn'); have HD' := Lib.hid (NatS.lift hd')
  clear hn hd hn' hd' hp hq
  have b1 := wt_num p; have b2 := wt_den p; have b3 := wt_num q; have b4 := wt_den q
  have b5 := size_mul (nm p) (nm q); have b6 := size_mul p.den q.den
  rw [mul_parts, bne_flip]
  go_enter Try.func105, Try.ntmps105
  have iN := HN.out; have iD := HD.out; have iN' := HN'.out; have iD' := HD'.out
  go_wp2
  go_region_held3 (fun w' => Kept w w' ∧ w'.cell? ⟨w.heap.size, 0, none⟩ = some (.bool (ng p)) ∧ w'.cell? ⟨w.heap.size, 1, none⟩ = some (Value.slice An (size (nm p)) cn) ∧ w'.cell? ⟨w.heap.size, 2, none⟩ = some (Value.slice Ad (size p.den) cd) ∧ w'.cell? ⟨w.heap.size + 1, 0, none⟩ = some (.bool (ng q)) ∧ w'.cell? ⟨w.heap.size + 1, 1, none⟩ = some (Value.slice An' (size (nm q)) cn') ∧ w'.cell? ⟨w.heap.size + 1, 2, none⟩ = some (Value.slice Ad' (size q.den) cd'))
    (first | exact two_step (by assumption) (by assumption) | exact two_set (by assumption) (by omega) (by omega) (by omega) | (refine ⟨Kept.three _ _ _ _, ?_⟩; simp [go_sem, World.cell?_alloc_past]))
    (first
      | (go_at_call 100; first | (refine Calls.mono (mul_v (a := nm p) (b := nm q) (by omega) (by omega)) ?_; rintro e w1 ⟨v1, rfl, hv1, hk1⟩; have i1 := NatS.lift hv1; have u1 := Kept.chain hk1) | (refine Calls.mono (mul_v (a := p.den) (b := q.den) (by omega) (by omega)) ?_; rintro e w2 ⟨v2, rfl, hv2, hk2⟩; have i2 := NatS.lift hv2; have u2 := Kept.chain hk2))
      | (go_at_call 102; refine Calls.mono (low_v (n := nm p * nm q) (d := p.den * q.den) (by omega) (by omega) (Nat.mul_ne_zero p.den_nz q.den_nz)) ?_; rintro e w3 ⟨s3, vn3, vd3, rfl, hq3, hk3⟩; obtain ⟨An3, cn3, rfl, _, _⟩ := hq3.2.1.at; obtain ⟨Ad3, cd3, rfl, _, _⟩ := hq3.2.2.at; have hr3 := Kept.row hk3 (Kept.row hk2 (Kept.row hk1 (Kept.row (Kept.drew _) (row_newAt (g := w.heap.size + 1 + 1) _ _ _ (by simp))))); obtain ⟨c0, c1, c2, f0, f1, f2⟩ := three hr3))
  go_wp2
  exact ret_rat rfl rfl rfl hr3 (by omega) (Kept.then (Kept.three _ _ _ _) (Kept.then hk1 (Kept.then hk2 hk3))) hq3
end Go.Proofs.Ytpclkgjhfhhddaa.V
/- Abstract values: what a value in memory says, and what keeps it so. -/
namespace Go.Proofs.Ytpclkgjhfhhddaa.AM
open Go Go.RowKit Go.Proofs.Ytpclkgjhfhhddaa.PN Go.Proofs.Ytpclkgjhfhhddaa.V
set_option linter.unusedVariables false
set_option linter.unusedSimpArgs false
/-- A number as the program holds it: a right one, or whatever came in. -/
inductive RA where
  | q (q : Rat)
  | raw (s : Bool) (n d : List Nat)
/-- The type of rows of numbers. -/
abbrev WT : TypeId := 24
/-- The type of matrices. -/
abbrev MT : TypeId := 60
inductive AV where
  | v (x : Value)
  | nat (n : Nat)
  | lb (l : List Nat)
  | ra (r : RA)
  | rs (r : RA)
  | rn (r : RA)
  | rd (r : RA)
  | row (fr : Bool) (n : Nat) (f : Nat → RA)
  | rowx (n : Nat) (f : Nat → RA)
  | mat (fr : Bool) (n : Nat) (m : Nat → Nat) (F : Nat → Nat → RA)
  | rp (r : RA)
  | cp (x : AV)
  | seq (k : IntKind) (l : List Int)
  | own (g r : Nat)
  | ownx (g r : Nat)
  | ptr (g r i : Nat)
  | rptr (g r i : Nat)
  | fld (g r i j : Nat)
  | sl (g r off n : Nat)
  | mp (f : Int → Int → Option (Int × Int × Int))
  | ag (n : Nat) (f : Nat → AV)
  | tup (a b : AV)
  | tup3 (a b c : AV)
  | clo (f : FuncId) (n : Nat) (c : Nat → AV)
  | bnd (f : FuncId) (x : AV)
  | mf (ks : List Int) (f : Nat → AV)
  | plb (l : List Nat)
  | pp (s : Bool) (n d : List Nat)
  | prow (n : Nat) (s : Nat → Bool) (f g : Nat → List Nat)
  | arr (n m : Nat) (f : Nat → AV)
  | pa (m : Nat) (f : Nat → AV)
  | lp (x : Value)
  | e0
/-- v is a slice of these limbs. -/
def Lbs (w : World) (v : Value) (l : List Nat) : Prop :=
  ∃ A c, v = .slice A l.length c ∧ l.length ≤ c ∧ ∀ i, i < l.length → ∃ b off cs, A = some ⟨b, off, none⟩ ∧ Row? w b cs U32 ∧ cs[off + i]? = some (.int .u32 (l.getD i 0 : Nat))
/-- v is a slice of these limbs, wherever they lie. -/
def PLb (S : Nat → Prop) (w : World) (v : Value) (l : List Nat) : Prop :=
  ∃ A c, v = .slice A l.length c ∧ l.length ≤ c ∧ ∀ i, i < l.length → ∃ b off, A = some ⟨b, off, none⟩ ∧ (S b ∨ ∃ cs, Row? w b cs U32) ∧ w.cell? ⟨b, off + i, none⟩ = some (.int .u32 (l.getD i 0 : Nat))
/-- A number's three cells, wherever they lie. -/
def PCell (S : Nat → Prop) (w : World) (b o : Nat) (s : Bool) (n d : List Nat) : Prop :=
  ∃ vn vd, w.cell? ⟨b, o, none⟩ = some (.bool s) ∧ w.cell? ⟨b, o + 1, none⟩ = some vn ∧ w.cell? ⟨b, o + 2, none⟩ = some vd ∧ PLb S w vn n ∧ PLb S w vd d
def RA.sgn : RA → Bool
  | .q p => ng p
  | .raw s _ _ => s
def RN (w : World) : RA → Value → Prop
  | .q p, v => NatS w (fun _ => True) v (nm p)
  | .raw _ n _, v => Lbs w v n
def RD (w : World) : RA → Value → Prop
  | .q p, v => NatS w (fun _ => True) v p.den
  | .raw _ _ d, v => Lbs w v d
/-- The three parts of a number. -/
def R3 (w : World) (r : RA) (s : Bool) (vn vd : Value) : Prop := s = r.sgn ∧ RN w r vn ∧ RD w r vd
def RatCell (w : World) (b o : Nat) (r : RA) : Prop :=
  ∃ cs s vn vd, Row? w b cs RT ∧ cs[o]? = some (.bool s) ∧ cs[o + 1]? = some vn ∧ cs[o + 2]? = some vd ∧ R3 w r s vn vd
def RowV (S : Nat → Prop) (B : Nat) (w : World) (fr : Bool) (n : Nat) (f : Nat → RA) (v : Value) : Prop :=
  ∃ A c, v = .slice A n c ∧ n ≤ c ∧ c ≤ maxLen ∧ ∀ i, i < n → ∃ b off, A = some ⟨b, off, none⟩ ∧ S b ∧ (fr = true → B ≤ b) ∧ RatCell w b (off + i * 3) (f i)
def MatV (S : Nat → Prop) (B : Nat) (w : World) (fr : Bool) (n : Nat) (m : Nat → Nat) (F : Nat → Nat → RA) (v : Value) : Prop :=
  ∃ A c, v = .slice A n c ∧ n ≤ c ∧ c ≤ maxLen ∧ ∀ i, i < n → ∃ b off cs x, A = some ⟨b, off, none⟩ ∧ S b ∧ (fr = true → B ≤ b) ∧ Row? w b cs WT ∧ cs[off + i]? = some x ∧ RowV S B w fr (m i) (F i) x
def SeqV (S : Nat → Prop) (w : World) (k : IntKind) (l : List Int) (v : Value) : Prop :=
  ∃ A c, v = .slice A l.length c ∧ l.length ≤ c ∧ c ≤ maxLen ∧ ∀ i, i < l.length → ∃ p, A = some p ∧ S p.block ∧ w.cell? (p.add i) = some (.int k (l.getD i 0))
/-- A map from pairs of numbers to three numbers. -/
def MapIs (es : Array MapEntry) (f : Int → Int → Option (Int × Int × Int)) : Prop :=
  (∀ e ∈ es.toList, ∃ a b x y z, e.key = .agg #[.int .i64 a, .int .i64 b] ∧ e.val = .agg #[.int .i64 x, .int .i64 y, .int .i64 z] ∧ f a b = some (x, y, z)) ∧
  ∀ a b p, f a b = some p → ∃ e ∈ es.toList, e.key = .agg #[.int .i64 a, .int .i64 b]
/-- The block of an own value. -/
def ub : Value → Option Nat
  | .pointer (some a) => some a.block
  | .slice (some a) _ _ => some a.block
  | _ => none
/-- What a value says: S are the blocks that are not the call's own; from B on all is new since the call began; β are the call's own values. -/
def RV (S : Nat → Prop) (B : Nat) (β : Nat → Nat → Value) (w : World) : AV → Value → Prop
  | .v x, v => v = x
  | .nat n, v => NatS w (fun _ => True) v n
  | .lb l, v => Lbs w v l
  | .ra r, v => ∃ s vn vd, v = .agg #[.bool s, vn, vd] ∧ R3 w r s vn vd
  | .rs r, v => v = .bool r.sgn
  | .rn r, v => RN w r v
  | .rd r, v => RD w r v
  | .row fr n f, v => RowV S B w fr n f v
  | .rowx n f, v => (∃ A, v = .slice A n n) ∧ RowV S B w false n f v
  | .mat fr n m F, v => MatV S B w fr n m F v
  | .rp r, v => ∃ b o, v = .pointer (some ⟨b, o, none⟩) ∧ S b ∧ RatCell w b o r
  | .cp x, v => ∃ p y, v = .pointer (some p) ∧ S p.block ∧ w.cell? p = some y ∧ RV S B β w x y
  | .seq k l, v => SeqV S w k l v
  | .own g r, v => v = β g r ∧ ∃ A n c, v = .slice A n c
  | .ownx g r, v => v = β g r ∧ ∃ A n, v = .slice A n n
  | .ptr g r i, v => ∃ b, ub (β g r) = some b ∧ v = .pointer (some ⟨b, i, none⟩)
  | .rptr g r i, v => ∃ b, ub (β g r) = some b ∧ v = .pointer (some ⟨b, i * 3, none⟩)
  | .fld g r i j, v => ∃ b, ub (β g r) = some b ∧ v = .pointer (some ⟨b, i * 3 + j, none⟩)
  | .sl g r off n, v => ∃ A c, v = .slice A n c ∧ n ≤ c ∧ c ≤ maxLen ∧ (0 < n → ∃ b, ub (β g r) = some b ∧ A = some ⟨b, off * 3, none⟩)
  | .mp f, v => ∃ r es ck, v = .map (some r) ∧ S r ∧ w.heap[r]? = some (.map es ck) ∧ MapIs es f
  | .ag n f, v => ∃ cs : Array Value, v = .agg cs ∧ cs.size = n ∧ ∀ i, i < n → ∃ y, cs[i]? = some y ∧ y.oneCell' = true ∧ RV S B β w (f i) y
  | .tup a b, v => ∃ x y, v = .tuple #[x, y] ∧ RV S B β w a x ∧ RV S B β w b y
  | .tup3 a b c, v => ∃ x y z, v = .tuple #[x, y, z] ∧ RV S B β w a x ∧ RV S B β w b y ∧ RV S B β w c z
  | .clo f n c, v => ∃ cap : Array Value, v = .func (.func f) #[] cap ∧ cap.size = n ∧ ∀ i, i < n → ∃ y, cap[i]? = some y ∧ RV S B β w (c i) y
  | .bnd f x, v => ∃ u, v = .func (.func f) #[u] #[] ∧ RV S B β w x u
  | .mf ks f, v => ∃ r es ck, v = .map (some r) ∧ S r ∧ w.heap[r]? = some (.map es ck) ∧ (∀ e ∈ es.toList, ∃ i, i < ks.length ∧ e.key = .int .i64 (ks.getD i 0) ∧ RV S B β w (f i) e.val) ∧ ∀ i, i < ks.length → ∃ e ∈ es.toList, e.key = .int .i64 (ks.getD i 0)
  | .plb l, v => PLb S w v l
  | .pp s n d, v => ∃ b o, v = .pointer (some ⟨b, o, none⟩) ∧ S b ∧ PCell S w b o s n d
  | .prow n s f g, v => ∃ A c, v = .slice A n c ∧ n ≤ c ∧ c ≤ maxLen ∧ ∀ i, i < n → ∃ b off, A = some ⟨b, off, none⟩ ∧ S b ∧ PCell S w b (off + i * 3) (s i) (f i) (g i)
  | .arr n m f, v => ∃ A c, v = .slice A n c ∧ n ≤ c ∧ c ≤ maxLen ∧ ∀ i, i < n * m → ∃ b off y, A = some ⟨b, off, none⟩ ∧ S b ∧ w.cell? ⟨b, off + i, none⟩ = some y ∧ y.oneCell' = true ∧ RV S B β w (f i) y
  | .pa m f, v => ∃ b o, v = .pointer (some ⟨b, o, none⟩) ∧ S b ∧ b < w.heap.size ∧ ∀ i, i < m → ∃ y, w.cell? ⟨b, o + i, none⟩ = some y ∧ y.oneCell' = true ∧ RV S B β w (f i) y
  | .lp x, v => ∃ b o cs, v = .pointer (some ⟨b, o, none⟩) ∧ Row? w b cs U32 ∧ cs[o]? = some x
  | .e0, v => ∃ g, v = .slice (some ⟨g, 0, none⟩) 0 0 ∧ Row? w g #[] U32
/-- It names own values of U alone. -/
def AV.ok (U : Nat → Bool) : AV → Prop
  | .own g _ => U g = true
  | .ownx g _ => U g = true
  | .ptr g _ _ => U g = true
  | .rptr g _ _ => U g = true
  | .fld g _ _ _ => U g = true
  | .sl g _ _ _ => U g = true
  | .cp x => x.ok U
  | .ag n f => ∀ i, i < n → (f i).ok U
  | .tup a b => a.ok U ∧ b.ok U
  | .tup3 a b c => a.ok U ∧ b.ok U ∧ c.ok U
  | .clo _ n c => ∀ i, i < n → (c i).ok U
  | .bnd _ x => x.ok U
  | .mf ks f => ∀ i, i < ks.length → (f i).ok U
  | .arr n m f => ∀ i, i < n * m → (f i).ok U
  | .pa m f => ∀ i, i < m → (f i).ok U
  | _ => True
/-- It is of one cell. -/
def AV.one : AV → Bool
  | .v x => x.oneCell'
  | .ra _ | .ag _ _ | .tup _ _ | .tup3 _ _ _ => false
  | _ => true
/-! ### What goes on -/
/-- Blocks of O alone have turned, and new ones have come; limbs are as they were. -/
structure Ext (O : Nat → Prop) (w w' : World) : Prop where
  size : w.heap.size ≤ w'.heap.size
  block : ∀ k, k < w.heap.size → ¬ O k → w'.heap[k]? = w.heap[k]?
  limb : ∀ k cs, Row? w k cs U32 → Row? w' k cs U32
theorem Ext.refl (O : Nat → Prop) (w : World) : Ext O w w := ⟨Nat.le_refl _, fun _ _ _ => rfl, fun _ _ h => h⟩
theorem Ext.trans {O : Nat → Prop} {a b c : World} (h : Ext O a b) (k : Ext O b c) : Ext O a c :=
  ⟨Nat.le_trans h.size k.size, fun i hi ho => (k.block i (Nat.lt_of_lt_of_le hi h.size) ho).trans (h.block i hi ho), fun i cs r => k.limb i cs (h.limb i cs r)⟩
theorem Ext.mono {O O' : Nat → Prop} {a b : World} (h : Ext O a b) (k : ∀ i, O i → O' i) : Ext O' a b := ⟨h.size, fun i hi ho => h.block i hi (fun x => ho (k i x)), h.limb⟩
theorem Ext.of_kept {a b : World} (h : Kept a b) (O : Nat → Prop) : Ext O a b := ⟨h.size, fun k hk _ => h.block k hk, fun k cs r => h.row r⟩
theorem Ext.row {O : Nat → Prop} {a b : World} (h : Ext O a b) {k : Nat} {cs : Array Value} {T : TypeId} (r : Row? a k cs T) (ho : ¬ O k) : Row? b k cs T := (h.block k r.lt ho).trans r
theorem Ext.cell {O : Nat → Prop} {a b : World} (h : Ext O a b) {p : Addr} {y : Value} (r : a.cell? p = some y) (ho : ¬ O p.block) : b.cell? p = some y :=
  (World.cell?_of_block (h.block p.block (World.block_lt_of_cell? a p r) ho)).trans r
theorem Ext.set {w : World} {k : Nat} {cs : Array Value} {T : TypeId} (r : Row? w k cs T) (hT : T ≠ U32) (o : Nat) (u : Value) : Ext (fun i => i = k) w (w.setCell ⟨k, o, none⟩ u) := by
  refine ⟨by simp [World.setCell], fun i _ hi => Below.heap_setCell w ⟨k, o, none⟩ u i hi, fun i cs' r' => ?_⟩
  refine (Below.heap_setCell w ⟨k, o, none⟩ u i ?_).trans r'
  rintro rfl
  unfold Row? at r r'
  rw [r] at r'
  injection r' with r'
  injection r' with _ r'
  exact hT r'
theorem dg_ext {w w' : World} {O S : Nat → Prop} {v : Value} {s n : Nat} (h : Dg w S v s n) (k : Ext O w w') : Dg w' S v s n := by
  obtain ⟨A, c, hv, hc, hx⟩ := h
  refine ⟨A, c, hv, hc, fun i hi => ?_⟩
  obtain ⟨b, off, cs, hA, hS, hr, hcell⟩ := hx i hi
  exact ⟨b, off, cs, hA, hS, k.limb b cs hr, hcell⟩
theorem lbs_ext {w w' : World} {O : Nat → Prop} {v : Value} {l : List Nat} (h : Lbs w v l) (k : Ext O w w') : Lbs w' v l := by
  obtain ⟨A, c, hv, hc, hx⟩ := h
  refine ⟨A, c, hv, hc, fun i hi => ?_⟩
  obtain ⟨b, off, cs, hA, hr, hcell⟩ := hx i hi
  exact ⟨b, off, cs, hA, k.limb b cs hr, hcell⟩
theorem rn_ext {w w' : World} {O : Nat → Prop} {r : RA} {v : Value} (h : RN w r v) (k : Ext O w w') : RN w' r v := by
  cases r
  · exact dg_ext (h : NatS _ _ _ _) k
  · exact lbs_ext (h : Lbs _ _ _) k
theorem rd_ext {w w' : World} {O : Nat → Prop} {r : RA} {v : Value} (h : RD w r v) (k : Ext O w w') : RD w' r v := by
  cases r
  · exact dg_ext (h : NatS _ _ _ _) k
  · exact lbs_ext (h : Lbs _ _ _) k
theorem r3_ext {w w' : World} {O : Nat → Prop} {r : RA} {s : Bool} {vn vd : Value} (h : R3 w r s vn vd) (k : Ext O w w') : R3 w' r s vn vd := ⟨h.1, rn_ext h.2.1 k, rd_ext h.2.2 k⟩
theorem ratcell_ext {w w' : World} {O : Nat → Prop} {b o : Nat} {r : RA} (h : RatCell w b o r) (k : Ext O w w') (ho : ¬ O b) : RatCell w' b o r := by
  obtain ⟨cs, s, vn, vd, hr, h0, h1, h2, h3⟩ := h
  exact ⟨cs, s, vn, vd, k.row hr ho, h0, h1, h2, r3_ext h3 k⟩
theorem RatCell.lt {w : World} {b o : Nat} {r : RA} (h : RatCell w b o r) : b < w.heap.size := by obtain ⟨cs, s, vn, vd, hr, _⟩ := h; exact hr.lt
/-- From a world to a later one. -/
structure Fwd (S S' : Nat → Prop) (B B' : Nat) (U : Nat → Bool) (β β' : Nat → Nat → Value) (O : Nat → Prop) (w w' : World) : Prop where
  ext : Ext O w w'
  out : ∀ b, S b → ¬ O b
  set : ∀ b, S b → b < w.heap.size → S' b
  base : B' ≤ B
  val : ∀ g r, U g = true → β' g r = β g r
section
variable {S S' : Nat → Prop} {B B' : Nat} {U : Nat → Bool} {β β' : Nat → Nat → Value} {O : Nat → Prop} {w w' : World}
theorem RowV.fwd {fr : Bool} {n : Nat} {f : Nat → RA} {v : Value} (k : Fwd S S' B B' U β β' O w w') (h : RowV S B w fr n f v) : RowV S' B' w' fr n f v := by
  obtain ⟨A, c, hv, hc, hm, hx⟩ := h
  refine ⟨A, c, hv, hc, hm, fun i hi => ?_⟩
  obtain ⟨b, off, hA, hS, hb, hcell⟩ := hx i hi
  exact ⟨b, off, hA, k.set b hS hcell.lt, fun e => Nat.le_trans k.base (hb e), ratcell_ext hcell k.ext (k.out b hS)⟩
theorem PLb.fwd {v : Value} {l : List Nat} (k : Fwd S S' B B' U β β' O w w') (h : PLb S w v l) : PLb S' w' v l := by
  obtain ⟨A, c, hv, hc, hx⟩ := h
  refine ⟨A, c, hv, hc, fun i hi => ?_⟩
  obtain ⟨b, off, hA, hS, hcell⟩ := hx i hi
  have hlt : b < w.heap.size := World.block_lt_of_cell? _ _ hcell
  rcases hS with hS | ⟨cs, hr⟩
  · exact ⟨b, off, hA, .inl (k.set b hS hlt), k.ext.cell hcell (k.out b hS)⟩
  · have hr' := k.ext.limb b cs hr
    exact ⟨b, off, hA, .inr ⟨cs, hr'⟩, by rw [cell_of_row w' b _ cs U32 (0, 0) hr', ← cell_of_row w b _ cs U32 (0, 0) hr]; exact hcell⟩
theorem PCell.lt {b o : Nat} {s : Bool} {n d : List Nat} (h : PCell S w b o s n d) : b < w.heap.size := by
  obtain ⟨vn, vd, h0, _⟩ := h
  exact World.block_lt_of_cell? _ _ h0
theorem PCell.fwd {b o : Nat} {s : Bool} {n d : List Nat} (k : Fwd S S' B B' U β β' O w w') (hS : S b) (h : PCell S w b o s n d) : PCell S' w' b o s n d := by
  obtain ⟨vn, vd, h0, h1, h2, h3, h4⟩ := h
  have ho := k.out b hS
  exact ⟨vn, vd, k.ext.cell h0 ho, k.ext.cell h1 ho, k.ext.cell h2 ho, h3.fwd k, h4.fwd k⟩
theorem RV.fwd (k : Fwd S S' B B' U β β' O w w') : ∀ {x : AV} {v : Value}, x.ok U → RV S B β w x v → RV S' B' β' w' x v := by
  intro x
  induction x with
  | v y => intro v _ h; exact h
  | nat n => intro v _ h; exact dg_ext (h : NatS _ _ _ _) k.ext
  | lb l => intro v _ h; exact lbs_ext h k.ext
  | ra r => rintro v _ ⟨s, vn, vd, hv, h⟩; exact ⟨s, vn, vd, hv, r3_ext h k.ext⟩
  | rs r => intro v _ h; exact h
  | rn r => intro v _ h; exact rn_ext h k.ext
  | rd r => intro v _ h; exact rd_ext h k.ext
  | row fr n f => intro v _ h; exact RowV.fwd k h
  | rowx n f => intro v _ h; exact ⟨h.1, RowV.fwd k h.2⟩
  | mat fr n m F =>
    rintro v _ ⟨A, c, hv, hc, hm, hx⟩
    refine ⟨A, c, hv, hc, hm, fun i hi => ?_⟩
    obtain ⟨b, off, cs, x, hA, hS, hb, hr, hx, hcell⟩ := hx i hi
    exact ⟨b, off, cs, x, hA, k.set b hS hr.lt, fun e => Nat.le_trans k.base (hb e), k.ext.row hr (k.out b hS), hx, RowV.fwd k hcell⟩
  | rp r => rintro v _ ⟨b, o, hv, hS, h⟩; exact ⟨b, o, hv, k.set b hS h.lt, ratcell_ext h k.ext (k.out b hS)⟩
  | cp x ih => rintro v hu ⟨p, y, hv, hS, hc, h⟩; exact ⟨p, y, hv, k.set _ hS (World.block_lt_of_cell? _ _ hc), k.ext.cell hc (k.out _ hS), ih hu h⟩
  | seq kd l =>
    rintro v _ ⟨A, c, hv, hc, hm, hx⟩
    refine ⟨A, c, hv, hc, hm, fun i hi => ?_⟩
    obtain ⟨p, hA, hS, hcell⟩ := hx i hi
    have hb : (p.add i).block = p.block := by unfold Addr.add; split <;> rfl
    have hl := World.block_lt_of_cell? _ _ hcell
    rw [hb] at hl
    exact ⟨p, hA, k.set _ hS hl, k.ext.cell hcell (by rw [hb]; exact k.out _ hS)⟩
  | own g r => rintro v hu ⟨h, h'⟩; exact ⟨by rw [k.val g r hu]; exact h, h'⟩
  | ownx g r => rintro v hu ⟨h, h'⟩; exact ⟨by rw [k.val g r hu]; exact h, h'⟩
  | ptr g r i => rintro v hu ⟨b, hb, h⟩; exact ⟨b, by rw [k.val g r hu]; exact hb, h⟩
  | rptr g r i => rintro v hu ⟨b, hb, h⟩; exact ⟨b, by rw [k.val g r hu]; exact hb, h⟩
  | fld g r i j => rintro v hu ⟨b, hb, h⟩; exact ⟨b, by rw [k.val g r hu]; exact hb, h⟩
  | sl g r off n => rintro v hu ⟨A, c, h1, h2, h3, h4⟩; exact ⟨A, c, h1, h2, h3, fun hn => by rw [k.val g r hu]; exact h4 hn⟩
  | mp f =>
    rintro v _ ⟨r, es, ck, hv, hS, hh, hm⟩
    have hlt : r < w.heap.size := (Array.getElem?_eq_some_iff.1 hh).1
    exact ⟨r, es, ck, hv, k.set r hS hlt, (k.ext.block r hlt (k.out r hS)).trans hh, hm⟩
  | ag n f ih => rintro v hu ⟨cs, hv, hs, hx⟩; exact ⟨cs, hv, hs, fun i hi => by obtain ⟨y, h0, h1, h2⟩ := hx i hi; exact ⟨y, h0, h1, ih i (hu i hi) h2⟩⟩
  | tup a b iha ihb => rintro v hu ⟨x, y, hv, h1, h2⟩; exact ⟨x, y, hv, iha hu.1 h1, ihb hu.2 h2⟩
  | tup3 a b c iha ihb ihc => rintro v hu ⟨x, y, z, hv, h1, h2, h3⟩; exact ⟨x, y, z, hv, iha hu.1 h1, ihb hu.2.1 h2, ihc hu.2.2 h3⟩
  | clo f n c ih => rintro v hu ⟨cs, hv, hs, hx⟩; exact ⟨cs, hv, hs, fun i hi => by obtain ⟨y, h0, h2⟩ := hx i hi; exact ⟨y, h0, ih i (hu i hi) h2⟩⟩
  | bnd f x ih => rintro v hu ⟨u, hv, h⟩; exact ⟨u, hv, ih hu h⟩
  | mf ks f ih =>
    rintro v hu ⟨r, es, ck, hv, hS, hh, h1, h2⟩
    have hlt : r < w.heap.size := (Array.getElem?_eq_some_iff.1 hh).1
    exact ⟨r, es, ck, hv, k.set r hS hlt, (k.ext.block r hlt (k.out r hS)).trans hh, fun e he => by obtain ⟨i, hi, e1, e2⟩ := h1 e he; exact ⟨i, hi, e1, ih i (hu i hi) e2⟩, h2⟩
  | plb l => intro v _ h; exact PLb.fwd k h
  | pp s n d => rintro v _ ⟨b, o, hv, hS, h⟩; exact ⟨b, o, hv, k.set b hS h.lt, h.fwd k hS⟩
  | prow n s f g =>
    rintro v _ ⟨A, c, hv, hc, hm, hx⟩
    refine ⟨A, c, hv, hc, hm, fun i hi => ?_⟩
    obtain ⟨b, off, hA, hS, h⟩ := hx i hi
    exact ⟨b, off, hA, k.set b hS h.lt, h.fwd k hS⟩
  | arr n m f ih =>
    rintro v hu ⟨A, c, hv, hc, hm, hx⟩
    refine ⟨A, c, hv, hc, hm, fun i hi => ?_⟩
    obtain ⟨b, off, y, hA, hS, h, h1, h2⟩ := hx i hi
    exact ⟨b, off, y, hA, k.set b hS (World.block_lt_of_cell? _ _ h), k.ext.cell h (k.out b hS), h1, ih i (hu i hi) h2⟩
  | pa m f ih =>
    rintro v hu ⟨b, o, hv, hS, hb, hx⟩
    refine ⟨b, o, hv, k.set b hS hb, Nat.lt_of_lt_of_le hb k.ext.size, fun i hi => ?_⟩
    obtain ⟨y, h, h1, h2⟩ := hx i hi
    exact ⟨y, k.ext.cell h (k.out b hS), h1, ih i (hu i hi) h2⟩
  | lp x => rintro v _ ⟨b, o, cs, hv, hr, hc⟩; exact ⟨b, o, cs, hv, k.ext.limb b cs hr, hc⟩
  | e0 => rintro v _ ⟨g, hv, hr⟩; exact ⟨g, hv, k.ext.limb g _ hr⟩
end
theorem AV.ok_mono {U U' : Nat → Bool} (h : ∀ g, U g = true → U' g = true) : ∀ {x : AV}, x.ok U → x.ok U' := by
  intro x
  induction x with
  | own g r => exact h g
  | ownx g r => exact h g
  | ptr g r i => exact h g
  | rptr g r i => exact h g
  | fld g r i j => exact h g
  | sl g r off n => exact h g
  | cp x ih => exact ih
  | ag n f ih => exact fun k i hi => ih i (k i hi)
  | clo f n c ih => exact fun k i hi => ih i (k i hi)
  | bnd f x ih => exact ih
  | mf ks f ih => exact fun k i hi => ih i (k i hi)
  | arr n m f ih => exact fun k i hi => ih i (k i hi)
  | pa m f ih => exact fun k i hi => ih i (k i hi)
  | tup a b iha ihb => exact fun k => ⟨iha k.1, ihb k.2⟩
  | tup3 a b c iha ihb ihc => exact fun k => ⟨iha k.1, ihb k.2.1, ihc k.2.2⟩
  | _ => exact fun _ => trivial
theorem dg_slice {w : World} {S : Nat → Prop} {v : Value} {s n : Nat} (h : Dg w S v s n) : ∃ A c, v = .slice A n c ∧ n ≤ c := by
  obtain ⟨A, c, hv, hc, _⟩ := h; exact ⟨A, c, hv, hc⟩
theorem rn_one {w : World} {r : RA} {v : Value} (h : RN w r v) : v.oneCell' = true := by
  cases r
  · obtain ⟨A, c, rfl, _⟩ := dg_slice (h : NatS _ _ _ _); rfl
  · obtain ⟨A, c, rfl, _⟩ := (h : Lbs _ _ _); rfl
theorem rd_one {w : World} {r : RA} {v : Value} (h : RD w r v) : v.oneCell' = true := by
  cases r
  · obtain ⟨A, c, rfl, _⟩ := dg_slice (h : NatS _ _ _ _); rfl
  · obtain ⟨A, c, rfl, _⟩ := (h : Lbs _ _ _); rfl
theorem RV.one {S : Nat → Prop} {B : Nat} {β : Nat → Nat → Value} {w : World} : ∀ {x : AV} {v : Value}, x.one = true → RV S B β w x v → v.oneCell' = true := by
  intro x v ho h
  cases x with
  | v y => cases h; exact ho
  | nat n => obtain ⟨A, c, rfl, _⟩ := dg_slice (h : NatS _ _ _ _); rfl
  | lb l => obtain ⟨A, c, rfl, _⟩ := h; rfl
  | ra r => cases ho
  | rs r => cases h; rfl
  | rn r => exact rn_one h
  | rd r => exact rd_one h
  | row fr n f => obtain ⟨A, c, rfl, _⟩ := h; rfl
  | rowx n f => obtain ⟨⟨A, rfl⟩, _⟩ := h; rfl
  | mat fr n m F => obtain ⟨A, c, rfl, _⟩ := h; rfl
  | rp r => obtain ⟨b, o, rfl, _⟩ := h; rfl
  | cp x => obtain ⟨p, y, rfl, _⟩ := h; rfl
  | seq k l => obtain ⟨A, c, rfl, _⟩ := h; rfl
  | own g r => obtain ⟨_, A, n, c, rfl⟩ := h; rfl
  | ownx g r => obtain ⟨_, A, n, rfl⟩ := h; rfl
  | ptr g r i => obtain ⟨b, _, rfl⟩ := h; rfl
  | rptr g r i => obtain ⟨b, _, rfl⟩ := h; rfl
  | fld g r i j => obtain ⟨b, _, rfl⟩ := h; rfl
  | sl g r off n => obtain ⟨A, c, rfl, _⟩ := h; rfl
  | mp f => obtain ⟨r, es, ck, rfl, _⟩ := h; rfl
  | ag n f => cases ho
  | tup a b => cases ho
  | tup3 a b c => cases ho
  | clo f n c => obtain ⟨cs, rfl, _⟩ := h; rfl
  | bnd f x => obtain ⟨u, rfl, _⟩ := h; rfl
  | mf ks f => obtain ⟨r, es, ck, rfl, _⟩ := h; rfl
  | plb l => obtain ⟨A, c, rfl, _⟩ := h; rfl
  | pp s n d => obtain ⟨b, o, rfl, _⟩ := h; rfl
  | prow n s f g => obtain ⟨A, c, rfl, _⟩ := h; rfl
  | arr n m f => obtain ⟨A, c, rfl, _⟩ := h; rfl
  | pa m f => obtain ⟨b, o, rfl, _⟩ := h; rfl
  | lp x => obtain ⟨b, o, cs, rfl, _⟩ := h; rfl
  | e0 => obtain ⟨g, rfl, _⟩ := h; rfl
end Go.Proofs.Ytpclkgjhfhhddaa.AM
/- The abstract state; a region's operations in whatever order. -/
namespace Go.Proofs.Ytpclkgjhfhhddaa.AM
open Go Go.RowKit Go.Proofs.Ytpclkgjhfhhddaa.PN Go.Proofs.Ytpclkgjhfhhddaa.V
set_option linter.unusedVariables false
set_option linter.unusedSimpArgs false
/-- What an own block holds. -/
inductive Blk where
  | rats (n : Nat) (f : Nat → RA)
  | ones (T : TypeId) (n : Nat) (f : Nat → AV)
  | lims (n : Nat) (f : Nat → Nat)
def Blk.ok (U : Nat → Bool) : Blk → Prop
  | .rats _ _ => True
  | .ones _ n f => ∀ i, i < n → (f i).ok U
  | .lims _ _ => U 77 = true
/-- u is a variable, or a slice from its block's head on. -/
def IsAt (u : Value) (k n sz size : Nat) : Prop :=
  (u = .pointer (some ⟨k, 0, none⟩) ∧ n * sz ≤ size) ∨ ∃ cap, u = .slice (some ⟨k, 0, none⟩) n cap ∧ n ≤ cap ∧ cap ≤ maxLen ∧ size = cap * sz
def RB (S : Nat → Prop) (B : Nat) (β : Nat → Nat → Value) (w : World) (u : Value) : Blk → Prop
  | .rats n f => (u = .slice none 0 0 ∧ n = 0) ∨ ∃ k cs, B ≤ k ∧ Row? w k cs RT ∧ IsAt u k n 3 cs.size ∧ ∀ i, i < n → ∃ s vn vd, cs[i * 3]? = some (.bool s) ∧ cs[i * 3 + 1]? = some vn ∧ cs[i * 3 + 2]? = some vd ∧ R3 w (f i) s vn vd
  | .ones T n f => T ≠ U32 ∧ ((u = .slice none 0 0 ∧ n = 0) ∨ ∃ k cs, B ≤ k ∧ Row? w k cs T ∧ IsAt u k n 1 cs.size ∧ ∀ i, i < n → ∃ y, cs[i]? = some y ∧ y.oneCell' = true ∧ RV S B β w (f i) y)
  | .lims n f => (u = .slice none 0 0 ∧ n = 0) ∨ ∃ k cs, B ≤ k ∧ Row? w k cs U32 ∧ IsAt u k n 1 cs.size ∧ ∀ i, i < n → cs[i]? = some (.int .u32 (f i : Nat))
/-- Families of own blocks: how many, and each. -/
abbrev Fam := Nat × (Nat → Blk)
structure St where
  env : Nat → Option AV
  heap : Nat → Option Fam
  used : Nat → Bool
def Own (s : St) (β : Nat → Nat → Value) (k : Nat) : Prop := ∃ g n F r, s.heap g = some (n, F) ∧ r < n ∧ ub (β g r) = some k
/-- The world in which a call began, and the blocks that it may take for as they are. -/
def fx3 (g : Nat) : Bool := Nat.beq g 60 || Nat.beq g 61 || Nat.beq g 62
structure Wd where
  w : World
  S : Nat → Prop
  w1 : World
  P : Nat → Prop
  law : ∀ k, w.heap.size ≤ k → k < w1.heap.size → ¬ P k → S k
  lt : ∀ k, P k → k < w1.heap.size
  F : Option (Nat → Nat → Value)
abbrev Wd.of (w : World) (S : Nat → Prop) : Wd := ⟨w, S, w, fun _ => False, fun _ h1 h2 => absurd h2 (Nat.not_lt.2 h1), fun _ h => h.elim, none⟩
abbrev notOwn (W : Wd) (s : St) (β : Nat → Nat → Value) (k : Nat) : Prop := (k < W.w1.heap.size → W.S k) ∧ ¬ Own s β k
/-- What is pinned is as it was. -/
structure Fix (P : Nat → Prop) (w w' : World) : Prop where
  size : w.heap.size ≤ w'.heap.size
  block : ∀ k, k < w.heap.size → P k → w'.heap[k]? = w.heap[k]?
theorem Fix.refl (P : Nat → Prop) (w : World) : Fix P w w := ⟨Nat.le_refl _, fun _ _ _ => rfl⟩
theorem Fix.trans {P O : Nat → Prop} {a b c : World} (h : Fix P a b) (k : Ext O b c) (ho : ∀ i, O i → ¬ P i) : Fix P a c :=
  ⟨Nat.le_trans h.size k.size, fun i hi hp => (k.block i (Nat.lt_of_lt_of_le hi h.size) (fun o => ho i o hp)).trans (h.block i hi hp)⟩
structure Sim (W : Wd) (N : Nat) (β : Nat → Nat → Value) (w : World) (a : Act) (s : St) : Prop where
  kept : Kept W.w w
  nodef : a.defers = []
  size : a.tmps.size = N
  env : ∀ t x, s.env t = some x → x.ok s.used ∧ RV (notOwn W s β) W.w.heap.size β w x (a.tmps.getD t undef)
  heap : ∀ g n F r, s.heap g = some (n, F) → r < n → (F r).ok s.used ∧ RB (notOwn W s β) W.w.heap.size β w (β g r) (F r)
  live : ∀ g n F, s.heap g = some (n, F) → s.used g = true
  inj : ∀ g n F r g' n' F' r' k, s.heap g = some (n, F) → r < n → s.heap g' = some (n', F') → r' < n' → ub (β g r) = some k → ub (β g' r') = some k → g = g' ∧ r = r'
  fix : Fix W.P W.w1 w
  pin : ∀ k, Own s β k → ¬ W.P k
  fixd : ∀ u, W.F = some u → ∀ g, fx3 g = true → β g = u g
  keep : ∀ u, W.F = some u → ∀ g, fx3 g = true → s.used g = true
/-- What an operation does: its value, the families that it turns, those that it reads. -/
structure Dsc where
  r : Option AV
  upd : List (Nat × Option Fam)
  rd : List Nat
def put {α : Type} (f : Nat → Option α) (t : Nat) (x : Option α) : Nat → Option α := fun t' => bif Nat.beq t' t then x else f t'
theorem put_same {α : Type} (f : Nat → Option α) (t : Nat) (x : Option α) : put f t x t = x := by unfold put; rw [Nat.beq_refl]; rfl
theorem put_ne {α : Type} (f : Nat → Option α) {t t' : Nat} (x : Option α) (h : t' ≠ t) : put f t x t' = f t' := by
  unfold put
  have : Nat.beq t' t = false := by cases h' : Nat.beq t' t with | false => rfl | true => exact absurd (Nat.eq_of_beq_eq_true h') h
  rw [this]; rfl
theorem put_comm {α : Type} (f : Nat → Option α) {t t' : Nat} (x y : Option α) (h : t ≠ t') : put (put f t x) t' y = put (put f t' y) t x := by
  funext i
  by_cases h1 : i = t
  · subst h1; rw [put_ne _ _ h, put_same, put_same]
  · by_cases h2 : i = t'
    · subst h2; rw [put_same, put_ne _ _ h1, put_same]
    · rw [put_ne _ _ h2, put_ne _ _ h1, put_ne _ _ h1, put_ne _ _ h2]
def mark (U : Nat → Bool) (g : Nat) : Nat → Bool := fun g' => Nat.beq g' g || U g'
theorem mark_comm (U : Nat → Bool) (g h : Nat) : mark (mark U g) h = mark (mark U h) g := by
  funext i; unfold mark; cases Nat.beq i g <;> cases Nat.beq i h <;> rfl
theorem mark_mono (U : Nat → Bool) (g i : Nat) (h : U i = true) : mark U g i = true := by unfold mark; rw [h]; simp
theorem mark_same (U : Nat → Bool) (g : Nat) : mark U g g = true := by unfold mark; rw [Nat.beq_refl]; rfl
theorem mark_ne (U : Nat → Bool) {g i : Nat} (h : i ≠ g) : mark U g i = U i := by
  unfold mark
  have : Nat.beq i g = false := by cases h' : Nat.beq i g with | false => rfl | true => exact absurd (Nat.eq_of_beq_eq_true h') h
  rw [this]; rfl
def turn (s : St) : List (Nat × Option Fam) → St
  | [] => s
  | (g, b) :: l => turn { s with heap := put s.heap g b, used := mark s.used g } l
def setE (s : St) (e : Nat → Option AV) : St := ⟨e, s.heap, s.used⟩
def St.app (s : St) (d : Option Tmp) (D : Dsc) : St :=
  match d with
  | some t => setE (turn s D.upd) (put s.env t D.r)
  | none => turn s D.upd
theorem turn_env (l : List (Nat × Option Fam)) : ∀ s : St, (turn s l).env = s.env := by
  induction l with
  | nil => intro s; rfl
  | cons p l ih => intro s; obtain ⟨g, b⟩ := p; exact ih _
theorem turn_heap_ne (l : List (Nat × Option Fam)) : ∀ (s : St) (g : Nat), (∀ p ∈ l, p.1 ≠ g) → (turn s l).heap g = s.heap g := by
  induction l with
  | nil => intro s g _; rfl
  | cons p l ih =>
    intro s g h
    obtain ⟨k, b⟩ := p
    show (turn _ l).heap g = _
    rw [ih _ g (fun q hq => h q (List.mem_cons_of_mem _ hq))]
    exact put_ne _ _ (fun e => h (k, b) (List.mem_cons_self ..) e.symm)
theorem turn_used_ne (l : List (Nat × Option Fam)) : ∀ (s : St) (g : Nat), (∀ p ∈ l, p.1 ≠ g) → (turn s l).used g = s.used g := by
  induction l with
  | nil => intro s g _; rfl
  | cons p l ih =>
    intro s g h
    obtain ⟨k, b⟩ := p
    show (turn _ l).used g = _
    rw [ih _ g (fun q hq => h q (List.mem_cons_of_mem _ hq))]
    exact mark_ne _ (fun e => h (k, b) (List.mem_cons_self ..) e.symm)
theorem turn_used_mono (l : List (Nat × Option Fam)) : ∀ (s : St) (g : Nat), s.used g = true → (turn s l).used g = true := by
  induction l with
  | nil => intro s g h; exact h
  | cons p l ih => intro s g h; obtain ⟨k, b⟩ := p; exact ih _ g (mark_mono _ _ _ h)
theorem turn_put (l : List (Nat × Option Fam)) : ∀ (s : St) (g : Nat) (b : Option Fam), (∀ p ∈ l, p.1 ≠ g) →
    turn { s with heap := put s.heap g b, used := mark s.used g } l = { turn s l with heap := put (turn s l).heap g b, used := mark (turn s l).used g } := by
  induction l with
  | nil => intro s g b _; rfl
  | cons p l ih =>
    intro s g b h
    obtain ⟨k, c⟩ := p
    have hk : g ≠ k := fun e => h (k, c) (List.mem_cons_self ..) e.symm
    have := ih { s with heap := put s.heap k c, used := mark s.used k } g b (fun q hq => h q (List.mem_cons_of_mem _ hq))
    simp only [turn] at *
    rw [← this, put_comm _ _ _ hk, mark_comm]
theorem turn_comm (l l' : List (Nat × Option Fam)) (h : ∀ p ∈ l, ∀ q ∈ l', p.1 ≠ q.1) : ∀ s : St, turn (turn s l) l' = turn (turn s l') l := by
  induction l with
  | nil => intro s; rfl
  | cons p l ih =>
    intro s
    obtain ⟨g, b⟩ := p
    show turn (turn _ l) l' = turn (turn s l') ((g, b) :: l)
    rw [ih (fun p hp => h p (List.mem_cons_of_mem _ hp))]
    show _ = turn _ l
    rw [turn_put l' s g b (fun q hq e => h (g, b) (List.mem_cons_self ..) q hq e.symm)]
theorem turn_setE (l : List (Nat × Option Fam)) : ∀ (s : St) (e : Nat → Option AV), turn (setE s e) l = setE (turn s l) e := by
  induction l with
  | nil => intro s e; rfl
  | cons p l ih => intro s e; obtain ⟨g, b⟩ := p; exact ih ⟨s.env, put s.heap g b, mark s.used g⟩ e
theorem app_comm {s : St} {d d' : Option Tmp} {D D' : Dsc} (hd : ∀ t, d = some t → d' ≠ some t) (hu : ∀ p ∈ D.upd, ∀ q ∈ D'.upd, p.1 ≠ q.1) :
    (s.app d D).app d' D' = (s.app d' D').app d D := by
  have hc := turn_comm D.upd D'.upd hu s
  cases d with
  | none =>
    cases d' with
    | none => exact hc
    | some t' =>
      show setE (turn (turn s D.upd) D'.upd) (put (turn s D.upd).env t' D'.r) = turn (setE (turn s D'.upd) (put s.env t' D'.r)) D.upd
      rw [turn_setE, hc, turn_env]
  | some t =>
    cases d' with
    | none =>
      show turn (setE (turn s D.upd) (put s.env t D.r)) D'.upd = setE (turn (turn s D'.upd) D.upd) (put (turn s D'.upd).env t D.r)
      rw [turn_setE, hc, turn_env]
    | some t' =>
      have ht : t ≠ t' := fun e => hd t rfl (by rw [e])
      show setE (turn (setE (turn s D.upd) (put s.env t D.r)) D'.upd) (put (put s.env t D.r) t' D'.r) = setE (turn (setE (turn s D'.upd) (put s.env t' D'.r)) D.upd) (put (put s.env t' D'.r) t D.r)
      rw [turn_setE, turn_setE, hc, put_comm _ _ _ ht]
      rfl
/-- An operation does what is told of it, from whatever state. -/
def SOK (P : Program) (o : Oper) (s : St) (D : Dsc) : Prop :=
  ∀ W N β w a, Sim W N β w a s → (∀ t, o.dst = some t → t < N) → ∀ (K : Act → World → Prop) (Q : Exit → Act → World → Prop),
    (∀ β' a' w', Sim W N β' w' a' (s.app o.dst D) → K a' w') → o.wp P a w K Q
/-- The same where only what it looks at is known. -/
def LOK (P : Program) (o : Oper) (s : St) (D : Dsc) : Prop :=
  (∀ g, (∃ b, (g, b) ∈ D.upd) → g ∉ D.rd → s.used g = false) ∧
  ∀ s2 : St, (∀ t, Operand.tmp t ∈ o.op.operands → s2.env t = s.env t) → (∀ g ∈ D.rd, s2.heap g = s.heap g) → (∀ g ∈ D.rd, s.used g = true → s2.used g = true) → (∀ g, (∃ b, (g, b) ∈ D.upd) → g ∉ D.rd → s2.used g = false) → SOK P o s2 D
/-- What a guard says. -/
inductive Gd (ops : Array Oper) (o : Oper) (s : St) : Bool → Prop where
  | none (h : o.guard = none) : Gd ops o s true
  | some (j : Nat) (want : Bool) (t : Tmp) (b : Bool) (h : o.guard = some (j, want)) (ht : (ops[j]?).bind (·.dst) = some t) (he : s.env t = some (.v (.bool b))) : Gd ops o s (b == want)
  | un (j : Nat) (want : Bool) (t : Tmp) (h : o.guard = some (j, want)) (ht : (ops[j]?).bind (·.dst) = some t) (he : s.env t = some (.v undef)) : Gd ops o s false
def skipD : Dsc := ⟨some (.v undef), [], []⟩
/-- An operation of a region: done, or left out. -/
def ROK (P : Program) (ops : Array Oper) (o : Oper) (s : St) (D : Dsc) : Prop :=
  (Gd ops o s true ∧ LOK P o s D) ∨ (Gd ops o s false ∧ D = skipD)
/-- What is at hand when one works. -/
def slots (ops : Array Oper) (o : Oper) : List Nat := o.looksAt ops
/-- Two operations that do not touch each other. -/
structure Free (ops : Array Oper) (o o' : Oper) (D D' : Dsc) : Prop where
  dst : ∀ t, o.dst = some t → o'.dst ≠ some t ∧ t ∉ slots ops o'
  dst' : ∀ t, o'.dst = some t → t ∉ slots ops o
  upd : ∀ p ∈ D.upd, (∀ q ∈ D'.upd, p.1 ≠ q.1) ∧ p.1 ∉ D'.rd
  upd' : ∀ q ∈ D'.upd, q.1 ∉ D.rd
theorem app_env_ne {s : St} {d : Option Tmp} {D : Dsc} {t : Nat} (h : d ≠ some t) : (s.app d D).env t = s.env t := by
  cases d with
  | none => show (turn s D.upd).env t = _; rw [turn_env]
  | some t' => exact put_ne _ _ (fun e => h (by rw [e]))
theorem app_heap (s : St) (d : Option Tmp) (D : Dsc) : (s.app d D).heap = (turn s D.upd).heap := by cases d <;> rfl
theorem app_used (s : St) (d : Option Tmp) (D : Dsc) : (s.app d D).used = (turn s D.upd).used := by cases d <;> rfl
theorem mem_slots_op {ops : Array Oper} {o : Oper} {t : Nat} (h : Operand.tmp t ∈ o.op.operands) : t ∈ slots ops o := by
  unfold slots Oper.looksAt
  exact List.mem_append_left _ (List.mem_filterMap.2 ⟨.tmp t, by simpa using h, rfl⟩)
theorem mem_slots_guard {ops : Array Oper} {o : Oper} {j : Nat} {want : Bool} {t : Nat} (h : o.guard = some (j, want)) (ht : (ops[j]?).bind (·.dst) = some t) : t ∈ slots ops o := by
  unfold slots Oper.looksAt
  refine List.mem_append_right _ ?_
  rw [h]; simp only []; rw [ht]; simp
theorem Gd.same {ops : Array Oper} {o : Oper} {s s2 : St} {b : Bool} (h : Gd ops o s b) (he : ∀ t, t ∈ slots ops o → s2.env t = s.env t) : Gd ops o s2 b := by
  cases h with
  | none h => exact .none h
  | some j want t b h ht h2 => exact .some j want t b h ht ((he t (mem_slots_guard h ht)).trans h2)
  | un j want t h ht h2 => exact .un j want t h ht ((he t (mem_slots_guard h ht)).trans h2)
/-- The state that an operation works in may be the one behind a free one. -/
theorem ROK.behind {P : Program} {ops : Array Oper} {o o' : Oper} {s : St} {D D' : Dsc} (hf : Free ops o o' D D') (h : ROK P ops o s D) : ROK P ops o (s.app o'.dst D') D := by
  have he : ∀ t, t ∈ slots ops o → (s.app o'.dst D').env t = s.env t := fun t ht => app_env_ne (fun e => hf.dst' t e ht)
  have hh : ∀ g, (∀ q ∈ D'.upd, q.1 ≠ g) → (s.app o'.dst D').heap g = s.heap g := fun g hg => by rw [app_heap]; exact turn_heap_ne _ s g hg
  have hu : ∀ g, (∀ q ∈ D'.upd, q.1 ≠ g) → (s.app o'.dst D').used g = s.used g := fun g hg => by rw [app_used]; exact turn_used_ne _ s g hg
  have hrd : ∀ g ∈ D.rd, ∀ q ∈ D'.upd, q.1 ≠ g := fun g hg q hq e => hf.upd' q hq (by rw [e]; exact hg)
  have hup : ∀ g, (∃ b, (g, b) ∈ D.upd) → ∀ q ∈ D'.upd, q.1 ≠ g := fun g ⟨b, hb⟩ q hq e => (hf.upd _ hb).1 q hq e.symm
  rcases h with ⟨hg, h0, h1⟩ | ⟨hg, h⟩
  · refine .inl ⟨hg.same he, fun g hb hn => by rw [hu g (hup g hb)]; exact h0 g hb hn, fun s2 e1 e2 e3 e4 => ?_⟩
    refine h1 s2 (fun t ht => (e1 t ht).trans (he t (mem_slots_op ht))) (fun g hg => (e2 g hg).trans (hh g (hrd g hg))) (fun g hg hx => e3 g hg (by rw [hu g (hrd g hg)]; exact hx)) e4
  · exact .inr ⟨hg.same he, h⟩
theorem ROK.ahead {P : Program} {ops : Array Oper} {o o' : Oper} {s : St} {D D' : Dsc} (hf : Free ops o o' D D') (h : ROK P ops o (s.app o'.dst D') D) : ROK P ops o s D := by
  have he : ∀ t, t ∈ slots ops o → (s.app o'.dst D').env t = s.env t := fun t ht => app_env_ne (fun e => hf.dst' t e ht)
  have hh : ∀ g, (∀ q ∈ D'.upd, q.1 ≠ g) → (s.app o'.dst D').heap g = s.heap g := fun g hg => by rw [app_heap]; exact turn_heap_ne _ s g hg
  have hu : ∀ g, (∀ q ∈ D'.upd, q.1 ≠ g) → (s.app o'.dst D').used g = s.used g := fun g hg => by rw [app_used]; exact turn_used_ne _ s g hg
  have hrd : ∀ g ∈ D.rd, ∀ q ∈ D'.upd, q.1 ≠ g := fun g hg q hq e => hf.upd' q hq (by rw [e]; exact hg)
  have hup : ∀ g, (∃ b, (g, b) ∈ D.upd) → ∀ q ∈ D'.upd, q.1 ≠ g := fun g ⟨b, hb⟩ q hq e => (hf.upd _ hb).1 q hq e.symm
  rcases h with ⟨hg, h0, h1⟩ | ⟨hg, h⟩
  · refine .inl ⟨hg.same (fun t ht => (he t ht).symm), fun g hb hn => by rw [← hu g (hup g hb)]; exact h0 g hb hn, fun s2 e1 e2 e3 e4 => ?_⟩
    refine h1 s2 (fun t ht => (e1 t ht).trans (he t (mem_slots_op ht)).symm) (fun g hg => (e2 g hg).trans (hh g (hrd g hg)).symm) (fun g hg hx => e3 g hg (by rw [← hu g (hrd g hg)]; exact hx)) e4
  · exact .inr ⟨hg.same (fun t ht => (he t ht).symm), h⟩
/-- Operations one behind the other. -/
def RunL (P : Program) (ops : Array Oper) (D : Nat → Dsc) : List Nat → St → St → Prop
  | [], s, s' => s = s'
  | i :: l, s, s' => ∃ o, ops[i]? = some o ∧ ROK P ops o s (D i) ∧ RunL P ops D l (s.app o.dst (D i)) s'
/-- The later one may come ahead. -/
theorem RunL.first {P : Program} {ops : Array Oper} {D : Nat → Dsc} {i : Nat} {o : Oper} (ho : ops[i]? = some o) : ∀ (l l' : List Nat) (s s' : St),
    (∀ j ∈ l, ∀ oj, ops[j]? = some oj → Free ops o oj (D i) (D j) ∧ Free ops oj o (D j) (D i)) → RunL P ops D (l ++ i :: l') s s' → ROK P ops o s (D i) ∧ RunL P ops D (l ++ l') (s.app o.dst (D i)) s' := by
  intro l
  induction l with
  | nil =>
    rintro l' s s' _ ⟨o', ho', hr, h⟩
    rw [ho] at ho'
    cases ho'
    exact ⟨hr, h⟩
  | cons j l ih =>
    rintro l' s s' hf ⟨oj, hoj, hr, h⟩
    obtain ⟨f1, f2⟩ := hf j (List.mem_cons_self ..) oj hoj
    obtain ⟨h1, h2⟩ := ih l' _ s' (fun k hk => hf k (List.mem_cons_of_mem _ hk)) h
    refine ⟨ROK.ahead f1 h1, oj, hoj, ROK.behind f2 hr, ?_⟩
    rw [app_comm (fun t ht => (f1.dst t ht).1) (fun p hp q hq => (f1.upd p hp).1 q hq)]
    exact h2
theorem RB.fwd {S S' : Nat → Prop} {B B' : Nat} {U : Nat → Bool} {β β' : Nat → Nat → Value} {O : Nat → Prop} {w w' : World} (k : Fwd S S' B B' U β β' O w w') {u : Value} {b : Blk} (hu : b.ok U) (ho : ∀ i, ub u = some i → ¬ O i) (h : RB S B β w u b) : RB S' B' β' w' u b := by
  have hat : ∀ {i n sz size : Nat}, IsAt u i n sz size → ¬ O i := by
    intro i n sz size ha
    refine ho i ?_
    rcases ha with ⟨rfl, _⟩ | ⟨_, rfl, _⟩ <;> rfl
  cases b with
  | rats n f =>
    rcases h with h | ⟨i, cs, hb, hr, ha, hx⟩
    · exact .inl h
    · exact .inr ⟨i, cs, Nat.le_trans k.base hb, k.ext.row hr (hat ha), ha, fun j hj => by obtain ⟨s, vn, vd, h0, h1, h2, h3⟩ := hx j hj; exact ⟨s, vn, vd, h0, h1, h2, r3_ext h3 k.ext⟩⟩
  | ones T n f =>
    obtain ⟨hT, h⟩ := h
    refine ⟨hT, ?_⟩
    rcases h with h | ⟨i, cs, hb, hr, ha, hx⟩
    · exact .inl h
    · exact .inr ⟨i, cs, Nat.le_trans k.base hb, k.ext.row hr (hat ha), ha, fun j hj => by obtain ⟨y, h0, h1, h2⟩ := hx j hj; exact ⟨y, h0, h1, h2.fwd k (hu j hj)⟩⟩
  | lims n f =>
    rcases h with h | ⟨i, cs, hb, hr, ha, hx⟩
    · exact .inl h
    · exact .inr ⟨i, cs, Nat.le_trans k.base hb, k.ext.row hr (hat ha), ha, hx⟩
theorem Sim.later {W : Wd} {N : Nat} {β : Nat → Nat → Value} {w w' : World} {a : Act} {s : St} (h : Sim W N β w a s) (k : Kept w w') : Sim W N β w' a s := by
  have kf : Fwd (notOwn W s β) (notOwn W s β) W.w.heap.size W.w.heap.size s.used β β (fun _ => False) w w' := ⟨Ext.of_kept k _, fun _ _ h => h, fun _ h _ => h, Nat.le_refl _, fun _ _ _ => rfl⟩
  exact ⟨Kept.then h.kept k, h.nodef, h.size, fun t x hx => ⟨(h.env t x hx).1, (h.env t x hx).2.fwd kf (h.env t x hx).1⟩,
    fun g n F r hg hr => ⟨(h.heap g n F r hg hr).1, RB.fwd kf (h.heap g n F r hg hr).1 (fun _ _ h => h) (h.heap g n F r hg hr).2⟩, h.live, h.inj, h.fix.trans (Ext.of_kept k (fun _ => False)) (fun _ h => h.elim), h.pin, h.fixd, h.keep⟩
theorem gd_wanted {ops : Array Oper} {o : Oper} {s : St} {b : Bool} (hg : Gd ops o s b) {W : Wd} {N : Nat} {β : Nat → Nat → Value} {w : World} {a : Act} (h : Sim W N β w a s) (hN : ∀ (t j : Nat) (o' : Oper), ops[j]? = some o' → o'.dst = some t → t < N) : Region.wanted o (yielded ops a.tmps) = b := by
  cases hg with
  | none hn => unfold Region.wanted; rw [hn]
  | some j want t b hn ht he =>
    unfold Region.wanted
    rw [hn]
    simp only []
    have hv := (h.env t _ he).2
    have hv : a.tmps.getD t undef = .bool b := hv
    have hlt : t < a.tmps.size := by
      rw [h.size]
      cases hj : ops[j]? with
      | none => rw [hj] at ht; cases ht
      | some o' => rw [hj] at ht; exact hN t j o' hj ht
    have hy : yielded ops a.tmps j = some b := by
      unfold yielded
      rw [ht]
      simp only [Option.bind_some]
      rw [Array.getD_eq_getD_getElem?, Array.getElem?_eq_getElem hlt] at hv
      rw [Array.getElem?_eq_getElem hlt]
      simp only [Option.getD_some] at hv
      rw [hv]
    rw [hy]
    cases b <;> cases want <;> rfl
  | un j want t hn ht he =>
    unfold Region.wanted
    rw [hn]
    simp only []
    have hv := (h.env t _ he).2
    have hv : a.tmps.getD t undef = undef := hv
    have hy : yielded ops a.tmps j = none := by
      unfold yielded
      rw [ht]
      simp only [Option.bind_some]
      rw [Array.getD_eq_getD_getElem?] at hv
      cases e : a.tmps[t]? with
      | none => rfl
      | some v => rw [e] at hv; simp only [Option.getD_some] at hv; rw [hv]; rfl
    rw [hy]
    rfl
end Go.Proofs.Ytpclkgjhfhhddaa.AM

/- Joined texts, 18: RwD RwE AmLi. -/
import Derived.Test.YtpclkgjhfhhddaaJLawCodeCut17
import Derived.Test.YtpclkgjhfhhddaaJLawCodeCut16
set_option linter.unusedVariables false
set_option linter.unusedSimpArgs false
/- Package gen: whatever comes in is checked (printed by gen/gen_rwd.py). -/
namespace Go.Proofs.Ytpclkgjhfhhddaa.AM
open Go Go.RowKit Go.Proofs.Ytpclkgjhfhhddaa.PN Go.Proofs.Ytpclkgjhfhhddaa.V
set_option linter.unusedVariables false
set_option linter.unusedSimpArgs false
set_option maxRecDepth 8000
set_option maxHeartbeats 8000000
/-- A row as it came in. -/
structure PR where
  m : Nat
  s : Nat → Bool
  f : Nat → List Nat
  g : Nat → List Nat
def PR.v (r : PR) : AV := .prow r.m r.s r.f r.g
structure PR.Fin (r : PR) : Prop where
  f : ∀ i, i < r.m → LF (r.f i)
  g : ∀ i, i < r.m → LF (r.g i)
/-- A system as it came in. -/
structure GR where
  k : Int
  n : Int
  r : Int
  A : PR
  B : PR
  G : PR
  H : PR
def GR.l (g : GR) : List AV := [.i g.k, .i g.n, .i g.r, g.A.v, g.B.v, g.G.v, g.H.v]
def GR.f (g : GR) (i : Nat) : AV := g.l.getD i (.v undef)
def GR.v (g : GR) : AV := .ag 7 g.f
def GR.rw (g : GR) (i : Nat) : AV := (g.l.drop 3).getD i (.v undef)
theorem GR.fok (g : GR) (U : Nat → Bool) : ∀ i, (g.f i).ok U
  | 0 | 1 | 2 | 3 | 4 | 5 | 6 => trivial
  | _ + 7 => trivial
theorem GR.rok (g : GR) (U : Nat → Bool) : ∀ i, (g.rw i).ok U
  | 0 | 1 | 2 | 3 => trivial
  | _ + 4 => trivial
structure GR.Fin (g : GR) : Prop where
  A : g.A.Fin
  B : g.B.Fin
  G : g.G.Fin
  H : g.H.Fin
def likeZ (k : Int) : Bool := decide (k = 6) || decide (k = 7)
def sizedB (k n r : Int) : Bool := !(decide (n < 1) || decide (8 < n)) && (bif likeZ k then decide (1 ≤ r) && decide (r ≤ 3) else decide (r = 0))
def kindB (k : Int) : Bool := decide (k < 1) || decide (7 < k)
def cnt (k n r : Int) (i : Nat) : Int := mpz (cmap k i) 0 * n + mpz (cmap k i) 1 * n * r + mpz (cmap k i) 2
def PR.len (r : PR) (c : Int) : Bool := decide ((r.m : Int) = c)
def PR.sm (r : PR) : Bool := decide (∀ i, i < r.m → smB (r.s i) (r.f i) (r.g i) = true)
def PR.has (r : PR) (s : Bool) (n d : List Nat) : Bool := !decide (∀ j, j < r.m → eqB s n d (r.s j) (r.f j) (r.g j) = false)
def PR.meets (a b : PR) : Bool := !decide (∀ i, i < a.m → b.has (a.s i) (a.f i) (a.g i) = false)
def chkV (b0 b1 b2 b3 s0 s1 s2 s3 e : Bool) : Int := bif b0 && b1 && b2 && b3 then (bif s0 && s1 && s2 && s3 then (bif e then 5 else 0) else 1) else 3
def chkR (g : GR) : Int := chkV (g.A.len (cnt g.k g.n g.r 0)) (g.B.len (cnt g.k g.n g.r 1)) (g.G.len (cnt g.k g.n g.r 2)) (g.H.len (cnt g.k g.n g.r 3)) g.A.sm g.B.sm g.G.sm g.H.sm (g.A.meets g.B)
/-- What is told of a system. -/
def chk (g : GR) : Int := bif kindB g.k then 2 else bif sizedB g.k g.n g.r then chkR g else 1
theorem g_rowsr (g : GR) : Has Try.prog 49 [g.v] (.ag 4 g.rw) := by
  refine has_of Try.func49 (by kernel_rfl) rfl Try.ntmps49 Try.results49 rfl rfl rfl ?_
  refine run0p ?_
  refine ⟨.inr rfl, _, Imp.refl _, ?_⟩
  exact .one (.agg rfl rfl rfl rfl (by decide) rfl rfl)
theorem likeZ_nat (k : Nat) : likeZ (k : Int) = likeB k := by
  unfold likeZ likeB
  congr 1 <;> exact decide_eq_decide.2 (by omega)
theorem g_sizedr (k : Nat) (n r : Int) (A B G H : PR) : Has Try.prog 48 [GR.v ⟨k, n, r, A, B, G, H⟩] (.b (sizedB k n r)) := by
  refine has_of Try.func48 (by kernel_rfl) rfl Try.ntmps48 Try.results48 rfl rfl rfl ?_
  by_cases h1 : n < 1
  · have e0 : decide (n < 1) = true := decide_eq_true h1
    have e1 : (decide (n < 1) == false) = false := by rw [e0]; rfl
    rw [show sizedB k n r = false by unfold sizedB; rw [e0]; rfl]
    refine run0p ?_
    refine awp_yes rfl rfl ?_
    refine run0p ?_
    exact ⟨.inr rfl, _, Imp.refl _, .one (.tmp rfl)⟩
  have e0 : decide (n < 1) = false := decide_eq_false h1
  have e1 : (decide (n < 1) == false) = true := by rw [e0]; rfl
  refine run0p ?_
  by_cases h8 : 8 < n
  · have e2 : decide ((8 : Int) < n) = true := decide_eq_true h8
    rw [show sizedB k n r = false by unfold sizedB; rw [e2]; simp]
    refine awp_yes rfl e2 ?_
    refine run0p ?_
    exact ⟨.inr rfl, _, Imp.refl _, .one (.tmp rfl)⟩
  have e2 : decide ((8 : Int) < n) = false := decide_eq_false h8
  refine awp_no rfl e2 ?_
  repeat(first|refine run1p ?_|((with_reducible apply st_call);exact rfl;exact rfl;exact rfl;first|(exact g_ranked k))|((with_reducible apply st_callg);exact rfl;exact rfl;(first|exact rfl|assumption);exact rfl;exact rfl;exact rfl;first|(exact g_ranked k)))
  cases hk : likeB k with
  | true =>
    rw [show sizedB k n r = (decide (1 ≤ r) && decide (r ≤ 3)) by unfold sizedB; rw [e0, e2, likeZ_nat, hk]; rfl]
    refine awp_yes rfl rfl ?_
    by_cases h3 : 1 ≤ r
    · have e3 : decide ((1 : Int) ≤ r) = true := decide_eq_true h3
      have e4 : (decide ((1 : Int) ≤ r) == true) = true := by rw [e3]; rfl
      rw [e3, Bool.true_and]
      refine run0p ?_
      exact ⟨.inr rfl, _, Imp.refl _, .one (.tmp rfl)⟩
    · have e3 : decide ((1 : Int) ≤ r) = false := decide_eq_false h3
      have e4 : (decide ((1 : Int) ≤ r) == true) = false := by rw [e3]; rfl
      rw [e3, Bool.false_and]
      refine run0p ?_
      exact ⟨.inr rfl, _, Imp.refl _, .one (.tmp rfl)⟩
  | false =>
    rw [show sizedB k n r = decide (r = 0) by unfold sizedB; rw [e0, e2, likeZ_nat, hk]; rfl]
    refine awp_no rfl rfl ?_
    refine run0p ?_
    exact ⟨.inr rfl, _, Imp.refl _, .one (.tmp rfl)⟩
/-- The least one that is asked for. -/
theorem first_true {b : Nat → Bool} : ∀ n, ¬ (∀ i, i < n → b i = false) → ∃ k, k < n ∧ b k = true ∧ ∀ i, i < k → b i = false
  | 0, h => absurd (fun i hi => absurd hi (Nat.not_lt_zero _)) h
  | n + 1, h => by
    by_cases e : ∀ i, i < n → b i = false
    · refine ⟨n, by omega, ?_, e⟩
      cases hb : b n with
      | true => rfl
      | false =>
        refine absurd (fun i hi => ?_) h
        rcases Nat.lt_or_ge i n with h' | h'
        · exact e i h'
        · rw [show i = n by omega]; exact hb
    · obtain ⟨k, h1, h2, h3⟩ := first_true n e
      exact ⟨k, by omega, h2, h3⟩
theorem g_indexr {n m : Nat} {s : Nat → Bool} {p q : Nat → List Nat} {f : FuncId} {c : Nat → AV} {b : Nat → Bool} (hc : (AV.clo f m c).closed = true) (hn : n ≤ 1000000) (h : ∀ i, i < n → ∀ u : Nat → AV, u 0 = .v (.bool (s i)) → u 1 = .plb (p i) → u 2 = .plb (q i) → Has Try.prog f (([AV.ag 3 u] ++ (List.range m).map c).map AV.old) (.b (b i))) :
    ∃ z : Int, Has Try.prog 78 [.prow n s p q, .clo f m c] (.i z) ∧ decide (z ≥ 0) = !decide (∀ i, i < n → b i = false) := by
  by_cases hall : ∀ i, i < n → b i = false
  · refine ⟨-1, ?_, by rw [decide_eq_true hall]; rfl⟩
    refine has_of Try.func78 (by kernel_rfl) rfl Try.ntmps78 Try.results78 (by show (true && ((AV.clo f m c).closed && true)) = true; rw [hc]; rfl) rfl rfl ?_
    refine run0p ?_
    refine awp_loop (fun m' t => ∃ k, k ≤ n ∧ m' = n - k ∧ t = stl [(0, .prow n s p q), (1, .clo f m c), (7, .i n), (8, .i (k : Int))] []) n _ (imp_id ?_ ?_) ⟨0, Nat.zero_le _, rfl, rfl⟩ ?_
    · refine alle rfl (Le.id rfl) True.intro (alle rfl (Le.id rfl) (ok_none (closed_ok hc)) ?_)
      exact eA
    · exact hA
    · rintro m' t ⟨k, hk, rfl, rfl⟩
      refine run0p ?_
      refine awp_if rfl (fun h' => ?_) (fun h' => ?_)
      · have hk' : k < n := by omega
        have hb := hall k hk'
        repeat(first|refine run1p ?_|((with_reducible apply st_call);exact rfl;exact rfl;exact rfl;first|(exact h k hk' _ rfl rfl rfl))|((with_reducible apply st_callg);exact rfl;exact rfl;(first|exact rfl|assumption);exact rfl;exact rfl;exact rfl;first|(exact h k hk' _ rfl rfl rfl)))
        refine awp_no rfl hb ?_
        refine run0p ?_
        refine q_loop ?_ (imp_id ?_ ?_) ⟨k + 1, ?_, rfl, rfl⟩
        · omega
        · refine alle rfl (Le.id rfl) True.intro (alle rfl (Le.id rfl) (ok_none (closed_ok hc)) ?_)
          exact eA
        · exact hA
        · omega
      · refine run0p ?_
        exact ⟨.inr rfl, _, Imp.refl _, .one (.tmp rfl)⟩
  · obtain ⟨k0, hk0, hb0, hlt⟩ := first_true n hall
    refine ⟨k0, ?_, by rw [decide_eq_false hall]; simp⟩
    refine has_of Try.func78 (by kernel_rfl) rfl Try.ntmps78 Try.results78 (by show (true && ((AV.clo f m c).closed && true)) = true; rw [hc]; rfl) rfl rfl ?_
    refine run0p ?_
    refine awp_loop (fun m' t => ∃ k, k ≤ k0 ∧ m' = n - k ∧ t = stl [(0, .prow n s p q), (1, .clo f m c), (7, .i n), (8, .i (k : Int))] []) n _ (imp_id ?_ ?_) ⟨0, Nat.zero_le _, rfl, rfl⟩ ?_
    · refine alle rfl (Le.id rfl) True.intro (alle rfl (Le.id rfl) (ok_none (closed_ok hc)) ?_)
      exact eA
    · exact hA
    · rintro m' t ⟨k, hk, rfl, rfl⟩
      have hk' : k < n := by omega
      refine run0p ?_
      refine awp_yes rfl (decide_eq_true (by omega)) ?_
      repeat(first|refine run1p ?_|((with_reducible apply st_call);exact rfl;exact rfl;exact rfl;first|(exact h k hk' _ rfl rfl rfl))|((with_reducible apply st_callg);exact rfl;exact rfl;(first|exact rfl|assumption);exact rfl;exact rfl;exact rfl;first|(exact h k hk' _ rfl rfl rfl)))
      by_cases e : k = k0
      · subst e
        refine awp_yes rfl hb0 ?_
        refine run0p ?_
        exact ⟨.inr rfl, _, Imp.refl _, .one (.tmp rfl)⟩
      · refine awp_no rfl (hlt k (by omega)) ?_
        refine run0p ?_
        refine q_loop ?_ (imp_id ?_ ?_) ⟨k + 1, ?_, rfl, rfl⟩
        · omega
        · refine alle rfl (Le.id rfl) True.intro (alle rfl (Le.id rfl) (ok_none (closed_ok hc)) ?_)
          exact eA
        · exact hA
        · omega
theorem g_containsr {n m : Nat} {s : Nat → Bool} {p q : Nat → List Nat} {f : FuncId} {c : Nat → AV} {b : Nat → Bool} (hc : (AV.clo f m c).closed = true) (hc2 : (AV.clo f m fun i => (c i).old).closed = true) (hn : n ≤ 1000000) (h : ∀ i, i < n → ∀ u : Nat → AV, u 0 = .v (.bool (s i)) → u 1 = .plb (p i) → u 2 = .plb (q i) → Has Try.prog f (([AV.ag 3 u] ++ (List.range m).map fun i => (c i).old).map AV.old) (.b (b i))) :
    Has Try.prog 51 [.prow n s p q, .clo f m c] (.b (!decide (∀ i, i < n → b i = false))) := by
  refine has_of Try.func51 (by kernel_rfl) rfl Try.ntmps51 Try.results51 (by show (true && ((AV.clo f m c).closed && true)) = true; rw [hc]; rfl) rfl rfl ?_
  obtain ⟨z, H, hz⟩ := g_indexr hc2 hn h
  rw [← hz]
  repeat(first|refine run1p ?_|((with_reducible apply st_call);exact rfl;exact rfl;exact rfl;first|(exact H))|((with_reducible apply st_callg);exact rfl;exact rfl;(first|exact rfl|assumption);exact rfl;exact rfl;exact rfl;first|(exact H)))
  exact ⟨.inr rfl, _, Imp.refl _, .one (.tmp rfl)⟩
theorem g_contains0r {n : Nat} {s : Nat → Bool} {p q : Nat → List Nat} {f : FuncId} {b : Nat → Bool} (hn : n ≤ 1000000) (h : ∀ i, i < n → ∀ u : Nat → AV, u 0 = .v (.bool (s i)) → u 1 = .plb (p i) → u 2 = .plb (q i) → Has Try.prog f [(AV.ag 3 u).old] (.b (b i))) :
    Has Try.prog 51 [.prow n s p q, .v (.func (.func f) #[] #[])] (.b (!decide (∀ i, i < n → b i = false))) :=
  Has.args (g_containsr (m := 0) (c := fun _ => .v undef) rfl rfl hn h) fun S B β w vs hv => rvs_cons (fun v hv => hv) (fun us hu => rvs_cons rv_fn (fun us hu => hu) hu) hv
/-- A row's numbers are all small. -/
theorem g_badr {r : PR} (h : r.Fin) (hn : r.m ≤ 1000000) : Has Try.prog 51 [r.v, .v (.func (.func 52) #[] #[])] (.b (!r.sm)) := by
  have := g_contains0r (f := 52) (n := r.m) (s := r.s) (p := r.f) (q := r.g) (b := fun i => !smB (r.s i) (r.f i) (r.g i)) hn fun i hi u h0 h1 h2 => Has.p1 (by rw [h0]; rfl) (by rw [h1]; rfl) (by rw [h2]; rfl) (p_bad (h.f i hi) (h.g i hi))
  rw [show (decide (∀ i, i < r.m → (!smB (r.s i) (r.f i) (r.g i)) = false)) = r.sm from decide_eq_decide.2 ⟨fun h i hi => by have := h i hi; simpa using this, fun h i hi => by rw [h i hi]; rfl⟩] at this
  exact this
/-- A small row's numbers. -/
theorem PR.isp {r : PR} (h : r.Fin) (hs : r.sm = true) {i : Nat} (hi : i < r.m) : ∃ p : Rat, ng p = r.s i ∧ IsP (r.f i) (r.g i) p := by
  have := of_decide_eq_true hs i hi
  unfold smB at this
  rw [Bool.and_eq_true, Bool.and_eq_true] at this
  have l1 := of_decide_eq_true this.1.1
  have l2 := of_decide_eq_true this.1.2
  exact rgt_isp this.2 (h.f i hi) (h.g i hi) (by omega) (by omega)
theorem g_eqsr {n d n' d' : List Nat} {p q : Rat} (hp : IsP n d p) (hq : IsP n' d' q) : Has Try.prog 54 [.ag 3 (pag (ng q) n' d'), .pp (ng p) n d] (.b (decide (p = q))) := by
  refine has_of Try.func54 (by kernel_rfl) rfl Try.ntmps54 Try.results54 rfl rfl rfl ?_
  repeat(first|refine run1p ?_|((with_reducible apply st_call);exact rfl;exact rfl;exact rfl;first|(exact Has.p2 rfl rfl rfl rfl rfl rfl (p_same hp hq)))|((with_reducible apply st_callg);exact rfl;exact rfl;(first|exact rfl|assumption);exact rfl;exact rfl;exact rfl;first|(exact Has.p2 rfl rfl rfl rfl rfl rfl (p_same hp hq))))
  exact ⟨.inr rfl, _, Imp.refl _, .one (.tmp rfl)⟩
/-- A variable that holds a number, wherever it lies, and is written no more. -/
theorem imp_pp {s : St} (t : Nat) {g : Nat} {F : Nat → Blk} {f : Nat → AV} {b : Bool} {n d : List Nat} {T : TypeId} (hx : s.env t = some (.ptr g 0 0)) (hg : s.heap g = some (1, F)) (hF : F 0 = .ones T 3 f) (h0 : f 0 = .v (.bool b)) (h1 : f 1 = .plb n) (h2 : f 2 = .plb d) : Imp s ⟨put s.env t (some (.pp b n d)), put s.heap g none, s.used⟩ :=
  imp_turn1 hx hg trivial fun W N β w a hs v hv hok hb S' k1 k2 => by
    rw [hF] at hb hok
    obtain ⟨bb, hub, e⟩ := hv
    obtain ⟨hT, cs, hB, hr, hat, hx⟩ := rb_ones hb hub
    obtain ⟨y0, a0, _, b0⟩ := hx 0 (by decide)
    obtain ⟨y1, a1, _, b1⟩ := hx 1 (by decide)
    obtain ⟨y2, a2, _, b2⟩ := hx 2 (by decide)
    rw [h0] at b0; rw [h1] at b1; rw [h2] at b2
    have b0 : y0 = .bool b := b0
    subst b0
    have fw : ∀ {v : Value} {l : List Nat}, PLb (notOwn W s β) w v l → PLb S' w v l := by
      rintro v l ⟨A, c, e1, e2, e3⟩
      exact ⟨A, c, e1, e2, fun i hi => by obtain ⟨b, off, q1, q2, q3⟩ := e3 i hi; exact ⟨b, off, q1, q2.imp (k1 b) id, q3⟩⟩
    refine ⟨bb, 0, e, k2 bb hub, y1, y2, ?_, ?_, ?_, fw b1, fw b2⟩
    · rw [cell_of_row w bb _ cs T (0, 0) hr]; exact a0
    · rw [cell_of_row w bb _ cs T (0, 0) hr]; exact a1
    · rw [cell_of_row w bb _ cs T (0, 0) hr]; exact a2
/-- Whatever comes in. -/
theorem g_checkr {g : GR} (hf : g.Fin) : Has Try.prog 22 [g.v] (.i (chk g)) := by
  obtain ⟨k, n, r, A, B, G, H⟩ := g
  obtain ⟨fA, fB, fG, fH⟩ := hf
  change A.Fin at fA
  change B.Fin at fB
  change G.Fin at fG
  change H.Fin at fH
  by_cases h1 : k < 1
  · have e0 : decide (k < 1) = true := decide_eq_true h1
    have e1 : (decide (k < 1) == false) = false := by rw [e0]; rfl
    rw [show chk ⟨k, n, r, A, B, G, H⟩ = 2 by unfold chk kindB; rw [e0]; rfl]
    refine has_of Try.func22 (by kernel_rfl) rfl Try.ntmps22 Try.results22 rfl rfl rfl ?_
    refine run0p ?_
    refine awp_yes rfl rfl ?_
    refine run0p ?_
    exact ⟨.inr rfl, _, Imp.refl _, .one (.tmp rfl)⟩
  have e0 : decide (k < 1) = false := decide_eq_false h1
  have e1 : (decide (k < 1) == false) = true := by rw [e0]; rfl
  by_cases h7 : 7 < k
  · have e2 : decide ((7 : Int) < k) = true := decide_eq_true h7
    rw [show chk ⟨k, n, r, A, B, G, H⟩ = 2 by unfold chk kindB; rw [e0, e2]; rfl]
    refine has_of Try.func22 (by kernel_rfl) rfl Try.ntmps22 Try.results22 rfl rfl rfl ?_
    refine run0p ?_
    refine awp_yes rfl e2 ?_
    refine run0p ?_
    exact ⟨.inr rfl, _, Imp.refl _, .one (.tmp rfl)⟩
  have e2 : decide ((7 : Int) < k) = false := decide_eq_false h7
  obtain ⟨k, rfl⟩ : ∃ k' : Nat, k = k' := ⟨k.toNat, by omega⟩
  have cs := g_sizedr k n r A B G H
  cases hz : sizedB k n r with
  | false =>
    rw [hz] at cs
    rw [show chk ⟨k, n, r, A, B, G, H⟩ = 1 by unfold chk kindB; rw [e0, e2, hz]; rfl]
    refine has_of Try.func22 (by kernel_rfl) rfl Try.ntmps22 Try.results22 rfl rfl rfl ?_
    refine run0p ?_
    refine awp_no rfl e2 ?_
    repeat(first|refine run1p ?_|((with_reducible apply st_call);exact rfl;exact rfl;exact rfl;first|(exact Has.ag (g7 rfl rfl rfl rfl rfl rfl rfl) cs))|((with_reducible apply st_callg);exact rfl;exact rfl;(first|exact rfl|assumption);exact rfl;exact rfl;exact rfl;first|(exact Has.ag (g7 rfl rfl rfl rfl rfl rfl rfl) cs)))
    refine awp_yes rfl rfl ?_
    refine run0p ?_
    exact ⟨.inr rfl, _, Imp.refl _, .one (.tmp rfl)⟩
  | true =>
  rw [hz] at cs
  rw [show chk ⟨k, n, r, A, B, G, H⟩ = chkR ⟨k, n, r, A, B, G, H⟩ by unfold chk kindB; rw [e0, e2, hz]; rfl]
  have hzz := hz
  unfold sizedB at hz
  rw [Bool.and_eq_true, Bool.not_eq_true', Bool.or_eq_false_iff] at hz
  have n1 := of_decide_eq_false hz.1.1
  have n8 := of_decide_eq_false hz.1.2
  have hr : 0 ≤ r ∧ r ≤ 3 := by
    have h := hz.2
    cases hl : likeZ k with
    | true => rw [hl, cond_true, Bool.and_eq_true] at h; have a := of_decide_eq_true h.1; have b := of_decide_eq_true h.2; omega
    | false => rw [hl, cond_false] at h; have a := of_decide_eq_true h; omega
  clear hz
  obtain ⟨n, rfl⟩ : ∃ n' : Nat, n = n' := ⟨n.toNat, by omega⟩
  obtain ⟨r, rfl⟩ : ∃ r' : Nat, r = r' := ⟨r.toNat, by omega⟩
  have cf : ∀ i : Nat, i < 4 → Fits .i64 (mpz (cmap k i) 0 * n) ∧ Fits .i64 (mpz (cmap k i) 1 * n) ∧ Fits .i64 (mpz (cmap k i) 1 * n * r) ∧ Fits .i64 (mpz (cmap k i) 0 * n + mpz (cmap k i) 1 * n * r) ∧
      Fits .i64 (mpz (cmap k i) 0 * n + mpz (cmap k i) 1 * n * r + mpz (cmap k i) 2) ∧ cnt k n r i ≤ 1000000 := fun i hi => by
    obtain ⟨c0, c1, c2⟩ := cmap_le (k := k) (by omega) (by omega) hi
    obtain ⟨p0, _⟩ := cmap_mul (n := n) (r := r) c0 (by omega) (by omega)
    obtain ⟨p1, p2⟩ := cmap_mul (n := n) (r := r) ⟨c1.1, Int.le_trans c1.2 (by decide)⟩ (by omega) (by omega)
    refine ⟨?_, ?_, ?_, ?_, ?_, ?_⟩
    · simp only [Fits]; omega
    · simp only [Fits]; omega
    · simp only [Fits]; omega
    · simp only [Fits]; omega
    · simp only [Fits]; omega
    · unfold cnt; omega
  have q0 : decide ((A.m : Int) ≠ mpz (cmap k (0 : Nat)) 0 * n + mpz (cmap k (0 : Nat)) 1 * n * r + mpz (cmap k (0 : Nat)) 2) = !A.len (cnt k n r 0) := by
    unfold PR.len cnt; simp
  have u0 : A.len (cnt k n r 0) = true → A.m ≤ 1000000 := fun h => by have a := of_decide_eq_true h; have b := (cf 0 (by decide)).2.2.2.2.2; omega
  have t0 := fun h => g_badr fA (u0 h)
  have q1 : decide ((B.m : Int) ≠ mpz (cmap k (1 : Nat)) 0 * n + mpz (cmap k (1 : Nat)) 1 * n * r + mpz (cmap k (1 : Nat)) 2) = !B.len (cnt k n r 1) := by
    unfold PR.len cnt; simp
  have u1 : B.len (cnt k n r 1) = true → B.m ≤ 1000000 := fun h => by have a := of_decide_eq_true h; have b := (cf 1 (by decide)).2.2.2.2.2; omega
  have t1 := fun h => g_badr fB (u1 h)
  have q2 : decide ((G.m : Int) ≠ mpz (cmap k (2 : Nat)) 0 * n + mpz (cmap k (2 : Nat)) 1 * n * r + mpz (cmap k (2 : Nat)) 2) = !G.len (cnt k n r 2) := by
    unfold PR.len cnt; simp
  have u2 : G.len (cnt k n r 2) = true → G.m ≤ 1000000 := fun h => by have a := of_decide_eq_true h; have b := (cf 2 (by decide)).2.2.2.2.2; omega
  have t2 := fun h => g_badr fG (u2 h)
  have q3 : decide ((H.m : Int) ≠ mpz (cmap k (3 : Nat)) 0 * n + mpz (cmap k (3 : Nat)) 1 * n * r + mpz (cmap k (3 : Nat)) 2) = !H.len (cnt k n r 3) := by
    unfold PR.len cnt; simp
  have u3 : H.len (cnt k n r 3) = true → H.m ≤ 1000000 := fun h => by have a := of_decide_eq_true h; have b := (cf 3 (by decide)).2.2.2.2.2; omega
  have t3 := fun h => g_badr fH (u3 h)
  show Has Try.prog _ _ (.i (chkV (A.len (cnt k n r 0)) (B.len (cnt k n r 1)) (G.len (cnt k n r 2)) (H.len (cnt k n r 3)) A.sm B.sm G.sm H.sm (A.meets B)))
  have spA := fun (hs : A.sm = true) (i : Nat) (hi : i < A.m) => PR.isp fA hs hi
  have spB := fun (hs : B.sm = true) (i : Nat) (hi : i < B.m) => PR.isp fB hs hi
  have gr := g_rowsr ⟨k, n, r, A, B, G, H⟩
  generalize A.len (cnt k n r 0) = b0 at *
  generalize B.len (cnt k n r 1) = b1 at *
  generalize G.len (cnt k n r 2) = b2 at *
  generalize H.len (cnt k n r 3) = b3 at *
  generalize hs0 : A.sm = s0 at *
  generalize hs1 : B.sm = s1 at *
  generalize hs2 : G.sm = s2 at *
  generalize hs3 : H.sm = s3 at *
  generalize hg : (⟨k, n, r, A, B, G, H⟩ : GR) = g at *
  have gA : g.A = A := by rw [← hg]
  have gB : g.B = B := by rw [← hg]
  have fe : g.f = fun i => ([AV.i (k : Int), .i (n : Int), .i (r : Int), A.v, B.v, G.v, H.v] : List AV).getD i (.v undef) := by rw [← hg]; rfl
  have re : g.rw = fun i => ([A.v, B.v, G.v, H.v] : List AV).getD i (.v undef) := by rw [← hg]; rfl
  subst hg
  refine has_of Try.func22 (by kernel_rfl) rfl Try.ntmps22 Try.results22 rfl rfl rfl ?_
  refine run0p ?_
  refine awp_no rfl e2 ?_
  repeat(first|refine run1p ?_|((with_reducible apply st_call);exact rfl;exact rfl;exact rfl;first|(exact Has.ag (g7 rfl rfl rfl rfl rfl rfl rfl) cs))|((with_reducible apply st_callg);exact rfl;exact rfl;(first|exact rfl|assumption);exact rfl;exact rfl;exact rfl;first|(exact Has.ag (g7 rfl rfl rfl rfl rfl rfl rfl) cs)))
  refine awp_no rfl rfl ?_
  repeat(first|refine run1p ?_|((with_reducible apply st_call);exact rfl;exact rfl;exact rfl;first|(exact Has.ag (g7 rfl rfl rfl rfl rfl rfl rfl) gr)|(exact V.c_counts))|((with_reducible apply st_callg);exact rfl;exact rfl;(first|exact rfl|assumption);exact rfl;exact rfl;exact rfl;first|(exact Has.ag (g7 rfl rfl rfl rfl rfl rfl rfl) gr)|(exact V.c_counts)))
  refine awp_loop (fun m' s => ∃ k0, k0 ≤ 4 ∧ m' = 4 - k0 ∧ (1 ≤ k0 → b0 = true) ∧ (2 ≤ k0 → b1 = true) ∧ (3 ≤ k0 → b2 = true) ∧ (4 ≤ k0 → b3 = true) ∧ s = stl [(1, .ptr 1 0 0), (3, .ptr 3 0 0), (4, .mp cmap), (28, .ag 4 (GR.rw ⟨k, n, r, A, B, G, H⟩)), (29, .i (k0 : Int))] [(1, (1, fun _ => .ones 26 7 (GR.f ⟨k, n, r, A, B, G, H⟩))), (3, (1, fun _ => .ones 68 4 (GR.rw ⟨k, n, r, A, B, G, H⟩)))]) 4 _ (imp_id ?_ ?_) ⟨0, by omega, rfl, by omega, by omega, by omega, by omega, rfl⟩ ?_
  · refine alle rfl (Le.id rfl) rfl (alle rfl (Le.id rfl) rfl (alle rfl (Le.id rfl) True.intro (alle rfl (Le.id rfl) (fun i _ => GR.rok _ _ i) ?_)))
    exact eA
  · refine allh rfl (by decide) (bleo rfl fun _ _ => Le.id rfl) (fun i _ => GR.fok _ _ i) (allh rfl (by decide) (bleo rfl fun _ _ => Le.id rfl) (fun i _ => GR.rok _ _ i) True.intro)
  · rintro m' s ⟨k0, hk0, rfl, v0, v1, v2, v3, rfl⟩
    match k0, hk0 with
    | 0, _ =>
      obtain ⟨⟨a0, c0⟩, ⟨a1, c1⟩, ⟨a2, c2⟩, ⟨a3, c3⟩, ⟨a4, c4⟩, hl⟩ := cf 0 (by omega)
      refine run0p ?_
      refine awp_yes rfl rfl ?_
      refine run0p ?_
      cases hb : b0 with
      | false =>
        rw [hb] at q0
        refine awp_yes rfl q0 ?_
        refine run0p ?_
        exact ⟨.inr rfl, _, Imp.refl _, .one (.tmp rfl)⟩
      | true =>
        rw [hb] at q0
        refine awp_no rfl q0 ?_
        refine run0p ?_
        refine q_loop ?_ (imp_id ?_ ?_) ⟨1, ?_, rfl, fun _ => rfl, by omega, by omega, by omega, rfl⟩
        · decide
        · refine alle rfl (Le.id rfl) rfl (alle rfl (Le.id rfl) rfl (alle rfl (Le.id rfl) True.intro (alle rfl (Le.id rfl) (fun i _ => GR.rok _ _ i) ?_)))
          exact eA
        · refine allh rfl (by decide) (bleo rfl fun _ _ => Le.id rfl) (fun i _ => GR.fok _ _ i) (allh rfl (by decide) (bleo rfl fun _ _ => Le.id rfl) (fun i _ => GR.rok _ _ i) True.intro)
        · decide
    | 1, _ =>
      have z0 := v0 (by decide)
      subst z0
      obtain ⟨⟨a0, c0⟩, ⟨a1, c1⟩, ⟨a2, c2⟩, ⟨a3, c3⟩, ⟨a4, c4⟩, hl⟩ := cf 1 (by omega)
      refine run0p ?_
      refine awp_yes rfl rfl ?_
      refine run0p ?_
      cases hb : b1 with
      | false =>
        rw [hb] at q1
        refine awp_yes rfl q1 ?_
        refine run0p ?_
        exact ⟨.inr rfl, _, Imp.refl _, .one (.tmp rfl)⟩
      | true =>
        rw [hb] at q1
        refine awp_no rfl q1 ?_
        refine run0p ?_
        refine q_loop ?_ (imp_id ?_ ?_) ⟨2, ?_, rfl, fun _ => rfl, fun _ => rfl, by omega, by omega, rfl⟩
        · decide
        · refine alle rfl (Le.id rfl) rfl (alle rfl (Le.id rfl) rfl (alle rfl (Le.id rfl) True.intro (alle rfl (Le.id rfl) (fun i _ => GR.rok _ _ i) ?_)))
          exact eA
        · refine allh rfl (by decide) (bleo rfl fun _ _ => Le.id rfl) (fun i _ => GR.fok _ _ i) (allh rfl (by decide) (bleo rfl fun _ _ => Le.id rfl) (fun i _ => GR.rok _ _ i) True.intro)
        · decide
    | 2, _ =>
      have z0 := v0 (by decide)
      subst z0
      have z1 := v1 (by decide)
      subst z1
      obtain ⟨⟨a0, c0⟩, ⟨a1, c1⟩, ⟨a2, c2⟩, ⟨a3, c3⟩, ⟨a4, c4⟩, hl⟩ := cf 2 (by omega)
      refine run0p ?_
      refine awp_yes rfl rfl ?_
      refine run0p ?_
      cases hb : b2 with
      | false =>
        rw [hb] at q2
        refine awp_yes rfl q2 ?_
        refine run0p ?_
        exact ⟨.inr rfl, _, Imp.refl _, .one (.tmp rfl)⟩
      | true =>
        rw [hb] at q2
        refine awp_no rfl q2 ?_
        refine run0p ?_
        refine q_loop ?_ (imp_id ?_ ?_) ⟨3, ?_, rfl, fun _ => rfl, fun _ => rfl, fun _ => rfl, by omega, rfl⟩
        · decide
        · refine alle rfl (Le.id rfl) rfl (alle rfl (Le.id rfl) rfl (alle rfl (Le.id rfl) True.intro (alle rfl (Le.id rfl) (fun i _ => GR.rok _ _ i) ?_)))
          exact eA
        · refine allh rfl (by decide) (bleo rfl fun _ _ => Le.id rfl) (fun i _ => GR.fok _ _ i) (allh rfl (by decide) (bleo rfl fun _ _ => Le.id rfl) (fun i _ => GR.rok _ _ i) True.intro)
        · decide
    | 3, _ =>
      have z0 := v0 (by decide)
      subst z0
      have z1 := v1 (by decide)
      subst z1
      have z2 := v2 (by decide)
      subst z2
      obtain ⟨⟨a0, c0⟩, ⟨a1, c1⟩, ⟨a2, c2⟩, ⟨a3, c3⟩, ⟨a4, c4⟩, hl⟩ := cf 3 (by omega)
      refine run0p ?_
      refine awp_yes rfl rfl ?_
      refine run0p ?_
      cases hb : b3 with
      | false =>
        rw [hb] at q3
        refine awp_yes rfl q3 ?_
        refine run0p ?_
        exact ⟨.inr rfl, _, Imp.refl _, .one (.tmp rfl)⟩
      | true =>
        rw [hb] at q3
        refine awp_no rfl q3 ?_
        refine run0p ?_
        refine q_loop ?_ (imp_id ?_ ?_) ⟨4, ?_, rfl, fun _ => rfl, fun _ => rfl, fun _ => rfl, fun _ => rfl, rfl⟩
        · decide
        · refine alle rfl (Le.id rfl) rfl (alle rfl (Le.id rfl) rfl (alle rfl (Le.id rfl) True.intro (alle rfl (Le.id rfl) (fun i _ => GR.rok _ _ i) ?_)))
          exact eA
        · refine allh rfl (by decide) (bleo rfl fun _ _ => Le.id rfl) (fun i _ => GR.fok _ _ i) (allh rfl (by decide) (bleo rfl fun _ _ => Le.id rfl) (fun i _ => GR.rok _ _ i) True.intro)
        · decide
    | 4, _ =>
      have z0 := v0 (by decide)
      subst z0
      have z1 := v1 (by decide)
      subst z1
      have z2 := v2 (by decide)
      subst z2
      have z3 := v3 (by decide)
      subst z3
      have t0 := t0 rfl
      have u0 := u0 rfl
      have t1 := t1 rfl
      have u1 := u1 rfl
      have t2 := t2 rfl
      have u2 := u2 rfl
      have t3 := t3 rfl
      have u3 := u3 rfl
      refine run0p ?_
      refine awp_no rfl rfl ?_
      refine run0p ?_
      refine awp_loop (fun m' s => ∃ k0, k0 ≤ 4 ∧ m' = 4 - k0 ∧ (1 ≤ k0 → s0 = true) ∧ (2 ≤ k0 → s1 = true) ∧ (3 ≤ k0 → s2 = true) ∧ (4 ≤ k0 → s3 = true) ∧ s = stl [(1, .ptr 1 0 0), (60, .ag 4 (GR.rw ⟨k, n, r, A, B, G, H⟩)), (61, .i (k0 : Int))] [(1, (1, fun _ => .ones 26 7 (GR.f ⟨k, n, r, A, B, G, H⟩)))]) 4 _ (imp_id ?_ ?_) ⟨0, by omega, rfl, by omega, by omega, by omega, by omega, rfl⟩ ?_
      · refine alle rfl (Le.id rfl) rfl (alle rfl (Le.id rfl) (fun i _ => GR.rok _ _ i) ?_)
        exact eA
      · refine allh rfl (by decide) (bleo rfl fun _ _ => Le.id rfl) (fun i _ => GR.fok _ _ i) True.intro
      · rintro m' s ⟨k0, hk0, rfl, v0, v1, v2, v3, rfl⟩
        match k0, hk0 with
        | 0, _ =>
          refine run0p ?_
          refine awp_yes rfl rfl ?_
          repeat(first|refine run1p ?_|((with_reducible apply st_call);exact rfl;exact rfl;exact rfl;first|(exact t0))|((with_reducible apply st_callg);exact rfl;exact rfl;(first|exact rfl|assumption);exact rfl;exact rfl;exact rfl;first|(exact t0)))
          cases hb : s0 with
          | false =>
            refine awp_yes rfl rfl ?_
            refine run0p ?_
            refine ⟨.inr rfl, _, Imp.refl _, ?_⟩
            exact .one (.tmp rfl)
          | true =>
            refine awp_no rfl rfl ?_
            refine run0p ?_
            refine q_loop ?_ (imp_id ?_ ?_) ⟨1, ?_, rfl, fun _ => rfl, by omega, by omega, by omega, rfl⟩
            · decide
            · refine alle rfl (Le.id rfl) rfl (alle rfl (Le.id rfl) (fun i _ => GR.rok _ _ i) ?_)
              exact eA
            · refine allh rfl (by decide) (bleo rfl fun _ _ => Le.id rfl) (fun i _ => GR.fok _ _ i) True.intro
            · decide
        | 1, _ =>
          refine run0p ?_
          refine awp_yes rfl rfl ?_
          repeat(first|refine run1p ?_|((with_reducible apply st_call);exact rfl;exact rfl;exact rfl;first|(exact t1))|((with_reducible apply st_callg);exact rfl;exact rfl;(first|exact rfl|assumption);exact rfl;exact rfl;exact rfl;first|(exact t1)))
          cases hb : s1 with
          | false =>
            refine awp_yes rfl rfl ?_
            refine run0p ?_
            refine ⟨.inr rfl, _, Imp.refl _, ?_⟩
            rw [v0 (by decide)]
            exact .one (.tmp rfl)
          | true =>
            refine awp_no rfl rfl ?_
            refine run0p ?_
            refine q_loop ?_ (imp_id ?_ ?_) ⟨2, ?_, rfl, fun _ => v0 (by decide), fun _ => rfl, by omega, by omega, rfl⟩
            · decide
            · refine alle rfl (Le.id rfl) rfl (alle rfl (Le.id rfl) (fun i _ => GR.rok _ _ i) ?_)
              exact eA
            · refine allh rfl (by decide) (bleo rfl fun _ _ => Le.id rfl) (fun i _ => GR.fok _ _ i) True.intro
            · decide
        | 2, _ =>
          refine run0p ?_
          refine awp_yes rfl rfl ?_
          repeat(first|refine run1p ?_|((with_reducible apply st_call);exact rfl;exact rfl;exact rfl;first|(exact t2))|((with_reducible apply st_callg);exact rfl;exact rfl;(first|exact rfl|assumption);exact rfl;exact rfl;exact rfl;first|(exact t2)))
          cases hb : s2 with
          | false =>
            refine awp_yes rfl rfl ?_
            refine run0p ?_
            refine ⟨.inr rfl, _, Imp.refl _, ?_⟩
            rw [v0 (by decide)]
            rw [v1 (by decide)]
            exact .one (.tmp rfl)
          | true =>
            refine awp_no rfl rfl ?_
            refine run0p ?_
            refine q_loop ?_ (imp_id ?_ ?_) ⟨3, ?_, rfl, fun _ => v0 (by decide), fun _ => v1 (by decide), fun _ => rfl, by omega, rfl⟩
            · decide
            · refine alle rfl (Le.id rfl) rfl (alle rfl (Le.id rfl) (fun i _ => GR.rok _ _ i) ?_)
              exact eA
            · refine allh rfl (by decide) (bleo rfl fun _ _ => Le.id rfl) (fun i _ => GR.fok _ _ i) True.intro
            · decide
        | 3, _ =>
          refine run0p ?_
          refine awp_yes rfl rfl ?_
          repeat(first|refine run1p ?_|((with_reducible apply st_call);exact rfl;exact rfl;exact rfl;first|(exact t3))|((with_reducible apply st_callg);exact rfl;exact rfl;(first|exact rfl|assumption);exact rfl;exact rfl;exact rfl;first|(exact t3)))
          cases hb : s3 with
          | false =>
            refine awp_yes rfl rfl ?_
            refine run0p ?_
            refine ⟨.inr rfl, _, Imp.refl _, ?_⟩
            rw [v0 (by decide)]
            rw [v1 (by decide)]
            rw [v2 (by decide)]
            exact .one (.tmp rfl)
          | true =>
            refine awp_no rfl rfl ?_
            refine run0p ?_
            refine q_loop ?_ (imp_id ?_ ?_) ⟨4, ?_, rfl, fun _ => v0 (by decide), fun _ => v1 (by decide), fun _ => v2 (by decide), fun _ => rfl, rfl⟩
            · decide
            · refine alle rfl (Le.id rfl) rfl (alle rfl (Le.id rfl) (fun i _ => GR.rok _ _ i) ?_)
              exact eA
            · refine allh rfl (by decide) (bleo rfl fun _ _ => Le.id rfl) (fun i _ => GR.fok _ _ i) True.intro
            · decide
        | 4, _ =>
          have z0 := v0 (by decide)
          rw [z0]
          have z1 := v1 (by decide)
          rw [z1]
          have z2 := v2 (by decide)
          rw [z2]
          have z3 := v3 (by decide)
          rw [z3]
          refine run0p ?_
          refine awp_no rfl rfl ?_
          refine run0p ?_
          have spA := spA z0
          have spB := spB z1
          have hme : A.meets B = !decide (∀ i, i < A.m → B.has (A.s i) (A.f i) (A.g i) = false) := rfl
          refine awp_loop (fun m' s => ∃ k0, k0 ≤ A.m ∧ m' = A.m - k0 ∧ (∀ i, i < k0 → B.has (A.s i) (A.f i) (A.g i) = false) ∧ s = stl [(1, .ptr 1 0 0), (68, A.v), (69, .i A.m), (70, .i (k0 : Int))] [(1, (1, fun _ => .ones 26 7 (GR.f ⟨k, n, r, A, B, G, H⟩)))]) A.m _ (imp_id ?_ ?_) ⟨0, Nat.zero_le _, rfl, fun i hi => absurd hi (Nat.not_lt_zero _), rfl⟩ ?_
          · refine alle rfl (Le.id rfl) rfl (alle rfl (Le.id rfl) True.intro ?_)
            exact eA
          · refine allh rfl (by decide) (bleo rfl fun _ _ => Le.id rfl) (fun i _ => GR.fok _ _ i) True.intro
          · rintro m' s ⟨k0, hk0, rfl, hprev, rfl⟩
            refine run0p ?_
            refine awp_if rfl (fun h' => ?_) (fun h' => ?_)
            · have hk' : k0 < A.m := by omega
              obtain ⟨p, p1, p2⟩ := spA k0 hk'
              have c : Has Try.prog 51 [B.v, .clo 54 1 fun i => [AV.pp (A.s k0) (A.f k0) (A.g k0)].getD i (.v undef)] (.b (B.has (A.s k0) (A.f k0) (A.g k0))) :=
                g_containsr (f := 54) (m := 1) (c := fun i => [AV.pp (A.s k0) (A.f k0) (A.g k0)].getD i (.v undef)) (n := B.m) (s := B.s) (p := B.f) (q := B.g) (b := fun j => eqB (A.s k0) (A.f k0) (A.g k0) (B.s j) (B.f j) (B.g j)) rfl rfl u1 fun i hi u h0 h1 h2 => by
                  obtain ⟨q, q1, q2⟩ := spB i hi
                  have e := g_eqsr p2 q2
                  rw [← isp_eq p2 q2, p1, q1] at e
                  exact Has.p1 (by rw [h0]; rfl) (by rw [h1]; rfl) (by rw [h2]; rfl) e
              refine run3 ?_
              refine st_ev rfl (by exact ⟨by omega, by omega⟩) ?_
              refine st_ev rfl trivial ?_
              refine st_lok (ok_alloc_ones (g := 11) rfl rfl zero_rat (by decide) rfl rfl) ?_
              refine run4p ?_
              refine awp_imp (imp_pp 11 rfl rfl rfl rfl rfl rfl) ?_
              repeat(first|refine run1p ?_|((with_reducible apply st_call);exact rfl;exact rfl;exact rfl;first|(exact Has.clo2 (one1 rfl) c))|((with_reducible apply st_callg);exact rfl;exact rfl;(first|exact rfl|assumption);exact rfl;exact rfl;exact rfl;first|(exact Has.clo2 (one1 rfl) c)))
              cases hb : B.has (A.s k0) (A.f k0) (A.g k0) with
              | true =>
                refine awp_yes rfl rfl ?_
                refine run0p ?_
                refine ⟨.inr rfl, _, Imp.refl _, ?_⟩
                rw [hme, decide_eq_false (fun h2 : ∀ i, i < A.m → B.has (A.s i) (A.f i) (A.g i) = false => by rw [h2 k0 hk'] at hb; cases hb)]
                exact .one (.tmp rfl)
              | false =>
                refine awp_no rfl rfl ?_
                refine run0p ?_
                refine q_loop ?_ (imp_id ?_ ?_) ⟨k0 + 1, ?_, rfl, fun i hi => ?_, rfl⟩
                · omega
                · refine alle rfl (Le.id rfl) rfl (alle rfl (Le.id rfl) True.intro ?_)
                  exact eA
                · refine allh rfl (by decide) (bleo rfl fun _ _ => Le.id rfl) (fun i _ => GR.fok _ _ i) True.intro
                · omega
                · rcases Nat.lt_or_ge i k0 with h | h
                  · exact hprev i h
                  · obtain rfl : i = k0 := by omega
                    exact hb
            · refine run0p ?_
              refine ⟨.inr rfl, _, Imp.refl _, ?_⟩
              rw [hme, decide_eq_true fun i hi => hprev i (by omega)]
              exact .one (.tmp rfl)
end Go.Proofs.Ytpclkgjhfhhddaa.AM
/- The document's check of whatever comes in (printed by gen/gen_rwe.py). -/
namespace Go.Proofs.Ytpclkgjhfhhddaa.AM
open Go Go.RowKit Go.Proofs.Ytpclkgjhfhhddaa.PN Go.Proofs.Ytpclkgjhfhhddaa.V
set_option linter.unusedVariables false
set_option linter.unusedSimpArgs false
set_option maxRecDepth 8000
set_option maxHeartbeats 8000000
/-- What the rows' lengths are. -/
theorem cnt_eq {k n r : Nat} (h1 : 1 ≤ k) (h7 : k ≤ 7) (n1 : 1 ≤ n) : cnt k n r 0 = (cnA k n : Nat) ∧ cnt k n r 1 = (cnB k n : Nat) ∧ cnt k n r 2 = (cnH k n r : Nat) ∧ cnt k n r 3 = (cnH k n r : Nat) := by
  have e : ((n * r : Nat) : Int) = (n : Int) * r := Int.natCast_mul n r
  have hk : k = 1 ∨ k = 2 ∨ k = 3 ∨ k = 4 ∨ k = 5 ∨ k = 6 ∨ k = 7 := by omega
  have c : ∀ (x y z n r : Int), x = 0 → y = 1 → z = 0 → x * n + y * n * r + z = n * r := by intro x y z n r hx hy hz; subst hx; subst hy; subst hz; simp
  have d : ∀ (x y z n r : Int), x = 1 → y = 0 → z = 0 → x * n + y * n * r + z = n := by intro x y z n r hx hy hz; subst hx; subst hy; subst hz; simp
  have f : ∀ (x y z n r : Int), x = 2 → y = 0 → z = -1 → x * n + y * n * r + z = 2 * n - 1 := by intro x y z n r hx hy hz; subst hx; subst hy; subst hz; simp; omega
  have z : ∀ (x y z n r : Int), x = 0 → y = 0 → z = 0 → x * n + y * n * r + z = 0 := by intro x y z n r hx hy hz; subst hx; subst hy; subst hz; simp
  unfold cnt
  rcases hk with rfl | rfl | rfl | rfl | rfl | rfl | rfl
  all_goals
    refine ⟨?_, ?_, ?_, ?_⟩
    all_goals
      simp only [cnA, cnB, cnH]
      first
        | (rw [z _ _ _ _ _ (by decide) (by decide) (by decide)] <;> omega)
        | (rw [f _ _ _ _ _ (by decide) (by decide) (by decide)] <;> omega)
        | (rw [d _ _ _ _ _ (by decide) (by decide) (by decide)] <;> omega)
        | (rw [c _ _ _ _ _ (by decide) (by decide) (by decide)] <;> omega)
/-- What is wrong with kind and size. -/
def headV (k n r : Int) : Int := bif kindB k then 2 else bif sizedB k n r then 0 else 1
end Go.Proofs.Ytpclkgjhfhhddaa.AM
/- Own limbs: made, laid behind, handed out. -/
namespace Go.Proofs.Ytpclkgjhfhhddaa.AM
open Go Go.RowKit Go.Proofs.Ytpclkgjhfhhddaa.PN Go.Proofs.Ytpclkgjhfhhddaa.V
set_option linter.unusedVariables false
set_option linter.unusedSimpArgs false
/-- It holds no limbs, and speaks not of family g. -/
def freeG (g : Nat) : AV → Bool
  | .v _ | .seq _ _ => true
  | .own q _ | .ptr q _ _ => !(Nat.beq q g)
  | _ => false
theorem freeG_rv {S S' : Nat → Prop} {B : Nat} {β β' : Nat → Nat → Value} {w w' : World} {O : Nat → Prop} {g : Nat} (hblk : ∀ i, i < w.heap.size → ¬ O i → w'.heap[i]? = w.heap[i]?) (hS : ∀ b, S b → b < w.heap.size → ¬ O b ∧ S' b) (hβ : ∀ q r, q ≠ g → β' q r = β q r) {x : AV} {v : Value} (hf : freeG g x = true) (h : RV S B β w x v) : RV S' B β' w' x v := by
  cases x <;> first | (cases hf; done) | skip
  case v y => exact h
  case seq k l =>
    obtain ⟨A, c, e1, e2, e3, e4⟩ := h
    refine ⟨A, c, e1, e2, e3, fun i hi => ?_⟩
    obtain ⟨p, a1, a2, a3⟩ := e4 i hi
    have hb : (p.add i).block = p.block := by unfold Addr.add; split <;> rfl
    have hlt := World.block_lt_of_cell? _ _ a3
    rw [hb] at hlt
    obtain ⟨q1, q2⟩ := hS _ a2 hlt
    exact ⟨p, a1, q2, (World.cell?_of_block (by rw [hb]; exact hblk _ hlt q1)).trans a3⟩
  case own q r =>
    have hne : q ≠ g := fun e => by simp [freeG, e] at hf
    exact ⟨by rw [hβ q r hne]; exact h.1, h.2⟩
  case ptr q r i =>
    have hne : q ≠ g := fun e => by simp [freeG, e] at hf
    obtain ⟨b, e1, e2⟩ := h
    exact ⟨b, by rw [hβ q r hne]; exact e1, e2⟩
/-- The rest of memory holds no limbs. -/
def FreeH (g : Nat) : List (Nat × Fam) → Prop
  | [] => True
  | (q, (n, F)) :: l => (q ≠ g ∧ ∀ r, r < n → ∃ T m f, F r = .ones T m f ∧ ∀ i, i < m → freeG g (f i) = true) ∧ FreeH g l
theorem FreeH.get {g : Nat} : ∀ {h : List (Nat × Fam)}, FreeH g h → ∀ {q n : Nat} {F : Nat → Blk}, lkp h q = some (n, F) → q ≠ g ∧ ∀ r, r < n → ∃ T m f, F r = .ones T m f ∧ ∀ i, i < m → freeG g (f i) = true
  | [], _, q, n, F, h => by cases h
  | (k, (m, G)) :: l, hf, q, n, F, h => by
    unfold lkp at h
    cases e : Nat.beq q k with
    | true =>
      rw [e, cond_true] at h
      cases h
      have := Nat.eq_of_beq_eq_true e
      subst this
      exact hf.1
    | false => rw [e, cond_false] at h; exact hf.2.get h
/-- What is kept of a state. -/
def SubE (g : Nat) (e0 : List (Nat × AV)) : List (Nat × AV) → Prop
  | [] => True
  | (t, x) :: l => (lkp e0 t = some x ∧ freeG g x = true) ∧ SubE g e0 l
theorem SubE.get {g : Nat} {e0 : List (Nat × AV)} : ∀ {e : List (Nat × AV)}, SubE g e0 e → ∀ {t : Nat} {x : AV}, lkp e t = some x → lkp e0 t = some x ∧ freeG g x = true
  | [], _, t, x, h => by cases h
  | (k, y) :: l, hf, t, x, h => by
    unfold lkp at h
    cases e : Nat.beq t k with
    | true =>
      rw [e, cond_true] at h
      cases h
      rw [Nat.eq_of_beq_eq_true e]
      exact hf.1
    | false => rw [e, cond_false] at h; exact hf.2.get h
theorem lkp_if {α : Type} {k : Nat} {x : α} {l : List (Nat × α)} {t : Nat} : lkp ((k, x) :: l) t = if t = k then some x else lkp l t := by
  show (bif Nat.beq t k then some x else lkp l t) = _
  by_cases h : t = k
  · subst h; rw [Nat.beq_refl, if_pos rfl]; rfl
  · have : Nat.beq t k = false := by cases e : Nat.beq t k with | false => rfl | true => exact absurd (Nat.eq_of_beq_eq_true e) h
    rw [this, if_neg h]
    rfl
/-- Own limbs have turned; nothing else that is told has. -/
theorem Sim.lims {W : Wd} {N : Nat} {β : Nat → Nat → Value} {w w' : World} {a : Act} {e0 e : List (Nat × AV)} {h : List (Nat × Fam)} {g n m : Nat} {f f' : Nat → Nat} {v' : Value} (hs : Sim W N β w a (stl e0 ((g, (1, fun _ => .lims n f)) :: h))) (he : SubE g e0 e) (hh : FreeH g h) (hgx : fx3 g = false)
    (hk : Kept W.w w') (hsz : w.heap.size ≤ w'.heap.size) (hblk : ∀ i, i < w.heap.size → ¬ ub (β g 0) = some i → w'.heap[i]? = w.heap[i]?) (hv : ∀ k, ub v' = some k → ub (β g 0) = some k ∨ w.heap.size ≤ k) (hb : ∀ (S : Nat → Prop) (β : Nat → Nat → Value), RB S W.w.heap.size β w' v' (.lims m f')) (a' : Act) (ha : a'.defers = []) (hN : a'.tmps.size = N)
    (hae : ∀ t x, lkp e t = some x → a'.tmps.getD t undef = a.tmps.getD t undef) :
    Sim W N (setv β g v') w' a' (stl e ((g, (1, fun _ => .lims m f')) :: h)) := by
  have hgh : (stl e0 ((g, (1, fun _ => .lims n f)) :: h)).heap g = some (1, fun _ => .lims n f) := by show lkp _ _ = _; rw [lkp_if, if_pos rfl]
  have hu : ∀ (e : List (Nat × AV)) (x : Nat × Fam), x.1 = g → ∀ q, (stl e (x :: h)).used q = memN q (g :: keys h) := fun e x hx q => by obtain ⟨k, y⟩ := x; cases hx; rfl
  have hq : ∀ (e : List (Nat × AV)) (x : Fam) (q : Nat), q ≠ g → (stl e ((g, x) :: h)).heap q = lkp h q := fun e x q hne => by show lkp _ _ = _; rw [lkp_if, if_neg hne]
  have hβ : ∀ q r, q ≠ g → setv β g v' q r = β q r := fun q r hne => by unfold setv; rw [if_neg hne]
  have hβg : ∀ r, setv β g v' g r = v' := fun r => by unfold setv; rw [if_pos rfl]
  -- own blocks, then and now
  have hown : ∀ i, Own (stl e ((g, (1, fun _ => .lims m f')) :: h)) (setv β g v') i → Own (stl e0 ((g, (1, fun _ => .lims n f)) :: h)) β i ∨ w.heap.size ≤ i := by
    rintro i ⟨q, n1, F1, r1, h1, h2, h3⟩
    by_cases c : q = g
    · subst c
      rw [hβg] at h3
      rcases hv i h3 with h4 | h4
      · exact .inl ⟨q, 1, _, 0, hgh, Nat.zero_lt_one, h4⟩
      · exact .inr h4
    · rw [hq _ _ _ c] at h1
      rw [hβ q r1 c] at h3
      exact .inl ⟨q, n1, F1, r1, by rw [hq _ _ _ c]; exact h1, h2, h3⟩
  have hS : ∀ b, notOwn W (stl e0 ((g, (1, fun _ => .lims n f)) :: h)) β b → b < w.heap.size → ¬ ub (β g 0) = some b ∧ notOwn W (stl e ((g, (1, fun _ => .lims m f')) :: h)) (setv β g v') b := by
    intro b hb hlt
    refine ⟨fun c => hb.2 ⟨g, 1, _, 0, hgh, Nat.zero_lt_one, c⟩, hb.1, fun ho => ?_⟩
    rcases hown b ho with h1 | h1
    · exact hb.2 h1
    · omega
  refine ⟨hk, ha, hN, fun t x hx => ?_, fun q n1 F1 r h1 h2 => ?_, fun q n1 F1 h1 => lkp_key h1, fun q n1 F1 r q' n2 F2 r' i h1 h2 h3 h4 h5 h6 => ?_, ?_, fun k ho hP => ?_, fun u hu' q hqx => ?_, fun u hu' q hqx => ?_⟩
  · obtain ⟨h1, h2⟩ := he.get (show lkp e t = some x from hx)
    obtain ⟨k1, k2⟩ := hs.env t x h1
    exact ⟨k1, by rw [hae t x hx]; exact freeG_rv hblk hS hβ h2 k2⟩
  · by_cases c : q = g
    · subst c
      have h1 : lkp ((q, ((1, fun _ => Blk.lims m f') : Fam)) :: h) q = some (n1, F1) := h1
      rw [lkp_if, if_pos rfl] at h1
      cases h1
      refine ⟨?_, by rw [hβg]; exact hb _ _⟩
      exact (hs.heap q 1 _ 0 hgh Nat.zero_lt_one).1
    · rw [hq _ _ _ c] at h1
      have h1' : (stl e0 ((g, (1, fun _ => .lims n f)) :: h)).heap q = some (n1, F1) := by rw [hq _ _ _ c]; exact h1
      obtain ⟨k1, k2⟩ := hs.heap q n1 F1 r h1' h2
      obtain ⟨_, hfr⟩ := hh.get h1
      obtain ⟨T, mm, ff, e1, e2⟩ := hfr r h2
      refine ⟨k1, ?_⟩
      rw [hβ q r c]
      rw [e1] at k2 ⊢
      obtain ⟨hT, k2⟩ := k2
      refine ⟨hT, ?_⟩
      rcases k2 with k2 | ⟨k, cs, q1, q2, q3, q4⟩
      · exact .inl k2
      · have hne : ¬ ub (β g 0) = some k := fun c2 => c (hs.inj q n1 F1 r g 1 _ 0 k h1' h2 hgh Nat.zero_lt_one (ub_at q3) c2).1
        exact .inr ⟨k, cs, q1, (hblk k q2.lt hne).trans q2, q3, fun i hi => by obtain ⟨y, a0, a1, a2⟩ := q4 i hi; exact ⟨y, a0, a1, freeG_rv hblk hS hβ (e2 i hi) a2⟩⟩
  · by_cases c : q = g <;> by_cases c' : q' = g
    · refine ⟨c.trans c'.symm, ?_⟩
      subst c
      have e1 : lkp ((q, ((1, fun _ => Blk.lims m f') : Fam)) :: h) q = some (n1, F1) := h1
      rw [lkp_if, if_pos rfl] at e1; cases e1
      subst c'
      have e2 : lkp ((q', ((1, fun _ => Blk.lims m f') : Fam)) :: h) q' = some (n2, F2) := h3
      rw [lkp_if, if_pos rfl] at e2; cases e2
      omega
    · exfalso
      subst c
      rw [hβg] at h5
      rw [hq _ _ _ c'] at h3
      rw [hβ q' r' c'] at h6
      have h3' : (stl e0 ((q, (1, fun _ => .lims n f)) :: h)).heap q' = some (n2, F2) := by rw [hq _ _ _ c']; exact h3
      rcases hv i h5 with h7 | h7
      · exact c' (hs.inj q' n2 F2 r' q 1 _ 0 i h3' h4 hgh Nat.zero_lt_one h6 h7).1
      · have := (own_lt hs ⟨q', n2, F2, r', h3', h4, h6⟩).2; omega
    · exfalso
      subst c'
      rw [hβg] at h6
      rw [hq _ _ _ c] at h1
      rw [hβ q r c] at h5
      have h1' : (stl e0 ((q', (1, fun _ => .lims n f)) :: h)).heap q = some (n1, F1) := by rw [hq _ _ _ c]; exact h1
      rcases hv i h6 with h7 | h7
      · exact c (hs.inj q n1 F1 r q' 1 _ 0 i h1' h2 hgh Nat.zero_lt_one h5 h7).1
      · have := (own_lt hs ⟨q, n1, F1, r, h1', h2, h5⟩).2; omega
    · rw [hq _ _ _ c] at h1; rw [hq _ _ _ c'] at h3
      rw [hβ q r c] at h5; rw [hβ q' r' c'] at h6
      exact hs.inj q n1 F1 r q' n2 F2 r' i (by rw [hq _ _ _ c]; exact h1) h2 (by rw [hq _ _ _ c']; exact h3) h4 h5 h6
  · refine ⟨Nat.le_trans hs.fix.size hsz, fun k hk hP => ?_⟩
    refine (hblk k (Nat.lt_of_lt_of_le hk hs.fix.size) fun c => ?_).trans (hs.fix.block k hk hP)
    exact hs.pin k ⟨g, 1, _, 0, hgh, Nat.zero_lt_one, c⟩ hP
  · rcases hown k ho with h1 | h1
    · exact hs.pin k h1 hP
    · have := W.lt k hP
      have := hs.fix.size
      omega
  · have hne : q ≠ g := fun c => by rw [c, hgx] at hqx; cases hqx
    rw [← hs.fixd u hu' q hqx]
    funext r
    exact hβ q r hne
  · have := hs.keep u hu' q hqx
    rw [hu _ _ rfl] at this
    rw [hu _ _ rfl]; exact this
/-- A limb is laid behind own ones. -/
theorem xok_append {o : Oper} {x y : Operand} {d g n : Nat} {f : Nat → Nat} {z : Nat} {e0 e : List (Nat × AV)} {h : List (Nat × Fam)} (ho : o.op = .call { callee := .builtin .append, args := #[x, y], argTypes := #[41, 41] }) (hd : o.dst = some d)
    (hx : avo (stl e0 ((g, (1, fun _ => .lims n f)) :: h)) x = some (.own g 0)) (hy : avo (stl e0 ((g, (1, fun _ => .lims n f)) :: h)) y = some (.lb [z])) (he : SubE g e0 e) (hde : memN d (keys e) = false) (hh : FreeH g h) (hgx : fx3 g = false) (hn : n ≤ 1000000) :
    XOK Try.prog o (stl e0 ((g, (1, fun _ => .lims n f)) :: h)) (stl ((d, .own g 0) :: e) ((g, (1, fun _ => .lims (n + 1) (glue n f fun _ => z))) :: h)) := by
  intro W N β w a hs hN K Q hK
  obtain ⟨i0, hi0, hz0, hz1, hz2⟩ := info_parts info_u32
  have hgh : (stl e0 ((g, (1, fun _ => .lims n f)) :: h)).heap g = some (1, fun _ => .lims n f) := by show lkp _ _ = _; rw [lkp_if, if_pos rfl]
  obtain ⟨_, e1, A0, n0, c0, e2⟩ := hs.opd hx
  obtain ⟨_, A, c, ey, hc, hcell⟩ := hs.opd hy
  obtain ⟨hok, hb⟩ := hs.heap g 1 _ 0 hgh Nat.zero_lt_one
  have hb : RB _ _ _ w (β g 0) (.lims n f) := hb
  have hown : ∃ xs, w.ownsRow W.w.heap.size U32 1 (β g 0) n xs ∧ ∀ i, i < n → xs[i]? = some (.int .u32 (f i : Nat)) := by
    rcases hb with ⟨e3, rfl⟩ | ⟨k, cs, hB, hrow, hat, hx⟩
    · exact ⟨[], by rw [e3]; exact World.ownsRow_nil _ _ _ _, fun i hi => absurd hi (Nat.not_lt_zero _)⟩
    · have hsz := at_size hat
      rcases hat with ⟨e3, _⟩ | ⟨cap, e3, h1, h2, h3⟩
      · rw [← e1, e2] at e3; cases e3
      · refine ⟨cs.toList.take (n * 1), ?_, fun i hi => ?_⟩
        · rw [e3]
          exact ⟨by simp; omega, .inr ⟨k, cap, cs, rfl, hB, hrow, h1, h2, h3, rfl⟩⟩
        · rw [List.getElem?_take_of_lt (by omega), Array.getElem?_toList]; exact hx i hi
  obtain ⟨xs, hown, hxs⟩ := hown
  have hxl : xs.length = n := by have := hown.1; omega
  obtain ⟨b1, off1, cs1, hA1, hr1, hc1⟩ := hcell 0 (by simp)
  have hc1 : cs1[off1 + 0]? = some (.int .u32 (z : Int)) := hc1
  obtain ⟨v', w', hrun, hown', hgrow, hwhere⟩ := append_core (P := Try.prog) w W.w.heap.size 41 o.type U32 i0 _ 1 4 Try.underlying41 hi0 hz0 hz1 hz2 (by rfl) (by decide) (β g 0) n xs hown A 1 c [.int .u32 (z : Int)] rfl (fun e => by rw [hA1] at e; cases e) (fun p hp j u hu => by
    rw [hA1] at hp; cases hp
    cases j with
    | zero =>
      cases hu
      rw [add_at, cell_of_row w b1 _ cs1 U32 (0, 0) hr1]; exact hc1
    | succ j => cases hu) (fun u hu => by simp at hu; rw [hu]; rfl) (by unfold maxLen; omega) (by omega) hs.kept.size
  have hubg : ub (β g 0) = (β g 0).ownBlock := by rw [← e1, e2]; exact ub_slice
  have hv' : ∃ A' n' c', v' = .slice A' n' c' := by
    rcases hown'.2 with ⟨e, _⟩ | ⟨_, _, _, e, _⟩ <;> exact ⟨_, _, _, e⟩
  obtain ⟨A', n', c', ev'⟩ := hv'
  have hub' : ub v' = v'.ownBlock := by rw [ev']; exact ub_slice
  have hop : (execOp a.eval o).run Try.prog w = .ok (.value v') w' := by
    unfold execOp; rw [ho]; simp only [resolve, List.map_toArray, List.map_cons, List.map_nil]; rw [e1, ey]
    simp only [Sem.run_bind, Sem.run_pure, Result.andThen_ok, invoke, builtin]
    rw [show ([z] : List Nat).length = 1 from rfl, hrun]
    rfl
  unfold Oper.wp
  rw [hop]
  have hlt := hN d hd
  have hput : a.put o.dst v' = { a with tmps := a.tmps.setIfInBounds d v' } := by rw [hd]; rfl
  have hsize : (a.put o.dst v').tmps.size = N := by rw [hput]; simp [hs.size]
  have hsim := hs.lims (w' := w') (m := n + 1) (f' := glue n f fun _ => z) (v' := v') (e := e) he hh hgx (Below.grown hs.kept hgrow hs.kept.size (fun k hk => (hown.lt k hk).1)) hgrow.size (fun i hi hne => hgrow.block i hi (fun c2 => hne (by rw [hubg]; exact c2.symm))) (fun k hk => by
      rw [hub'] at hk
      rcases hwhere with h1 | h1
      · left; rw [hubg, ← h1]; exact hk
      · rw [h1] at hk; cases hk; exact .inr (Nat.le_refl _)) (fun S β2 => by
      rcases hown'.2 with ⟨e3, h0⟩ | ⟨k, cap, cur, e3, hB, hrow, h1, h2, h3, h4⟩
      · exact .inl ⟨e3, h0⟩
      · refine .inr ⟨k, cur, hB, hrow, .inr ⟨cap, e3, h1, h2, by omega⟩, fun i hi => ?_⟩
        have hget : cur[i]? = (xs ++ [Value.int .u32 (z : Int)])[i]? := by rw [← h4, List.getElem?_take_of_lt (by omega), Array.getElem?_toList]
        rw [hget]
        unfold glue
        by_cases c2 : i < n
        · rw [if_pos c2, List.getElem?_append_left (by omega)]; exact hxs i c2
        · rw [if_neg c2, List.getElem?_append_right (by omega), show i - xs.length = 0 by omega]; rfl) (a.put o.dst v') (by rw [hput]; exact hs.nodef) hsize (fun t x hx => by
      have hne : t ≠ d := fun c2 => by
        have := lkp_key hx
        rw [c2, hde] at this; cases this
      rw [hput]
      exact getD_set_ne' (Ne.symm hne))
  refine hK (setv β g v') _ w' ?_
  have hnot : notOwn W (stl ((d, .own g 0) :: e) ((g, (1, fun _ => .lims (n + 1) (glue n f fun _ => z))) :: h)) (setv β g v') = notOwn W (stl e ((g, (1, fun _ => .lims (n + 1) (glue n f fun _ => z))) :: h)) (setv β g v') := rfl
  refine ⟨hsim.kept, hsim.nodef, hsim.size, fun t x hx => ?_, hsim.heap, hsim.live, hsim.inj, hsim.fix, hsim.pin, hsim.fixd, hsim.keep⟩
  have hx : lkp ((d, AV.own g 0) :: e) t = some x := hx
  rw [lkp_if] at hx
  by_cases c2 : t = d
  · subst c2
    rw [if_pos rfl] at hx
    cases hx
    refine ⟨by show memN g (g :: keys h) = true; unfold memN; rw [Nat.beq_refl]; rfl, ?_, A', n', c', ?_⟩
    · show (a.put o.dst v').tmps.getD t undef = setv β g v' g 0
      rw [hput, getD_set_same' (by rw [hs.size]; exact hlt)]
      unfold setv; rw [if_pos rfl]
    · show (a.put o.dst v').tmps.getD t undef = _
      rw [hput, getD_set_same' (by rw [hs.size]; exact hlt), ev']
  · rw [if_neg c2] at hx
    exact hsim.env t x hx
/-- An assignment in its own state. -/
theorem xok_lok {P : Program} {o : Oper} {s : St} {D : Dsc} (h : LOK P o s D) (hu : ∀ g, (∃ b, (g, b) ∈ D.upd) → g ∉ D.rd → s.used g = false) : XOK P o s (s.app o.dst D) := by
  intro W N β w a hs hN K Q hK
  exact h.2 s (fun _ _ => rfl) (fun _ _ => rfl) (fun _ _ h => h) hu W N β w a hs hN K Q hK
theorem xok_imp {P : Program} {o : Oper} {s s1 s2 : St} (hi : Imp s s1) (h : XOK P o s1 s2) : XOK P o s s2 := by
  intro W N β w a hs hN K Q hK
  obtain ⟨β', hs'⟩ := hi W N β w a hs
  exact h W N β' w a hs' hN K Q hK
/-- Limbs are made. -/
theorem xok_make {o : Oper} {s : St} {x y : Operand} {d g : Nat} {k k' : IntKind} {l c : Int} (ho : o.op = .makeSlice 41 x y) (hd : o.dst = some d) (hx : avo s x = some (.v (.int k l))) (hy : avo s y = some (.v (.int k' c))) (hg : s.used g = false) (h77 : s.used 77 = true) (h0 : 0 ≤ l) (hlc : l ≤ c) (hc : c ≤ 1000000000) :
    XOK Try.prog o s ⟨put s.env d (some (.own g 0)), put s.heap g (some (1, fun _ => .lims l.toNat (fun _ => 0))), mark s.used g⟩ := by
  intro W N β w a hs hN K Q hK
  have h1 : a.eval x = .int k l := hs.opv hx
  have h2 : a.eval y = .int k' c := hs.opv hy
  obtain ⟨i0, hi, hz0, hz1, hz2⟩ := info_parts info_u32
  have hrun := run_make (P := Try.prog) w 41 U32 i0 _ Try.underlying41 hi hz0 k k' l c h0 hlc (by rw [hz2]; omega) (by omega)
  rw [hz1] at hrun
  generalize hcs : madeCells _ (c.toNat * 1) = cs at hrun
  have hcsz : cs.size = c.toNat * 1 := by rw [← hcs]; exact size_madeCells _ _
  have hget : ∀ i, i < l.toNat → cs[i]? = some (.int .u32 ((0 : Nat) : Int)) := fun i hi' => by
    rw [← hcs, made_get (by omega) (by simp [Value.cells])]
    simp [Nat.mod_one, Value.cells]
  have hop : (execOp a.eval o).run Try.prog w = .ok (.value (.slice (some ⟨w.heap.size, 0, none⟩) l.toNat c.toNat)) (w.alloc (.cells cs U32)) := by
    unfold execOp; rw [ho]; simp only []; rw [h1, h2]; simp only [Sem.run_bind, hrun]; rfl
  have hk := Kept.alloc w (.cells cs U32)
  have hs' := hs.newfam hg none (fun o ho => by cases ho) (.slice (some ⟨w.heap.size, 0, none⟩) l.toNat c.toNat) (.lims l.toNat fun _ => 0) (O := fun _ => False) (hs.kept.then hk) (Ext.of_kept hk _) (fun i h => h.elim) (fun i hi => .inl (by cases hi; exact Nat.le_refl _)) (fun S' β' _ => ⟨h77, .inr ⟨w.heap.size, cs, hs.kept.size, row_new w cs U32, .inr ⟨c.toNat, rfl, by omega, by unfold maxLen; omega, hcsz⟩, hget⟩⟩)
  unfold Oper.wp
  rw [hop]
  have hs2 := hs'.putv (d := some d) (v := .slice (some ⟨w.heap.size, 0, none⟩) l.toNat c.toNat) (r := some (.own g 0)) (fun t ht => by cases ht; exact hN d hd) (fun z hz _ => by
    cases hz
    exact ⟨mark_same _ _, (show setv β g (.slice (some ⟨w.heap.size, 0, none⟩) l.toNat c.toNat) g 0 = _ from if_pos rfl).symm, _, _, _, rfl⟩)
  refine hK (setv β g (.slice (some ⟨w.heap.size, 0, none⟩) l.toNat c.toNat)) _ _ ?_
  rw [hd]
  exact hs2
/-- Family 77 tells that limbs may be own. -/
theorem imp_mark (s : St) (k : Nat) : Imp s ⟨s.env, s.heap, mark s.used k⟩ := by
  intro W N β w a hs
  refine ⟨β, hs.kept, hs.nodef, hs.size, fun t x hx => ⟨AV.ok_mono (fun g h => mark_mono _ _ _ h) (hs.env t x hx).1, (hs.env t x hx).2⟩, fun g n F r h1 h2 => ⟨Blk.ok_mono (fun g h => mark_mono _ _ _ h) (hs.heap g n F r h1 h2).1, (hs.heap g n F r h1 h2).2⟩, fun g n F h => mark_mono _ _ _ (hs.live g n F h), hs.inj, hs.fix, hs.pin, hs.fixd, fun u hu g hg => mark_mono _ _ _ (hs.keep u hu g hg)⟩
/-- Own limbs are handed out. -/
theorem imp_lims {s : St} (t : Nat) {g n : Nat} {F : Nat → Blk} {f : Nat → Nat} (l : List Nat) (hx : s.env t = some (.own g 0)) (hg : s.heap g = some (1, F)) (hF : F 0 = .lims n f) (hl : l.length = n) (hf : ∀ i, i < n → f i = l.getD i 0) : Imp s ⟨put s.env t (some (.lb l)), put s.heap g none, s.used⟩ :=
  imp_turn1 hx hg trivial fun W N β w a hs v hv hok hb S' h1 h2 => by
    rw [hF] at hb
    subst hl
    obtain ⟨e0, A, n', c, e⟩ := hv
    rcases hb with ⟨e', hn⟩ | ⟨kb, cs, hB, hr, hat, hx⟩
    · exact ⟨none, 0, by rw [hn]; exact e0.trans e', by omega, fun i hi => by omega⟩
    · rcases hat with ⟨e', _⟩ | ⟨cap, e', h3, h4, _⟩
      · rw [← e0, e] at e'; cases e'
      · exact ⟨_, cap, e0.trans e', h3, fun i hi => ⟨kb, 0, cs, rfl, hr, by rw [Nat.zero_add, hx i hi, hf i hi]⟩⟩
end Go.Proofs.Ytpclkgjhfhhddaa.AM

/- Joined texts, 21: RwD GcA. -/
import Derived.Test.YtpclkgjhfhhddaaJLawGenChecks20
import Derived.Test.YtpclkgjhfhhddaaJLawGenChecks16
set_option linter.unusedVariables false
set_option linter.unusedSimpArgs false
/- Package gen: whatever comes in is checked (printed by gen/gen_rwd.py). -/
namespace Go.Proofs.Ytpclkgjhfhhddaa.AM
open Go Go.RowKit Go.Proofs.Ytpclkgjhfhhddaa.PN Go.Proofs.Ytpclkgjhfhhddaa.V
set_option linter.unusedVariables false
set_option linter.unusedSimpArgs false
set_option maxRecDepth 8000
set_option maxHeartbeats 8000000
/-- A row as it came in. -/
structure PR where
  m : Nat
  s : Nat → Bool
  f : Nat → List Nat
  g : Nat → List Nat
def PR.v (r : PR) : AV := .prow r.m r.s r.f r.g
structure PR.Fin (r : PR) : Prop where
  f : ∀ i, i < r.m → LF (r.f i)
  g : ∀ i, i < r.m → LF (r.g i)
/-- A system as it came in. -/
structure GR where
  k : Int
  n : Int
  r : Int
  A : PR
  B : PR
  G : PR
  H : PR
def GR.l (g : GR) : List AV := [.i g.k, .i g.n, .i g.r, g.A.v, g.B.v, g.G.v, g.H.v]
def GR.f (g : GR) (i : Nat) : AV := g.l.getD i (.v undef)
def GR.v (g : GR) : AV := .ag 7 g.f
def GR.rw (g : GR) (i : Nat) : AV := (g.l.drop 3).getD i (.v undef)
theorem GR.fok (g : GR) (U : Nat → Bool) : ∀ i, (g.f i).ok U
  | 0 | 1 | 2 | 3 | 4 | 5 | 6 => trivial
  | _ + 7 => trivial
theorem GR.rok (g : GR) (U : Nat → Bool) : ∀ i, (g.rw i).ok U
  | 0 | 1 | 2 | 3 => trivial
  | _ + 4 => trivial
structure GR.Fin (g : GR) : Prop where
  A : g.A.Fin
  B : g.B.Fin
  G : g.G.Fin
  H : g.H.Fin
def likeZ (k : Int) : Bool := decide (k = 6) || decide (k = 7)
def sizedB (k n r : Int) : Bool := !(decide (n < 1) || decide (8 < n)) && (bif likeZ k then decide (1 ≤ r) && decide (r ≤ 3) else decide (r = 0))
def kindB (k : Int) : Bool := decide (k < 1) || decide (7 < k)
def cnt (k n r : Int) (i : Nat) : Int := mpz (cmap k i) 0 * n + mpz (cmap k i) 1 * n * r + mpz (cmap k i) 2
def PR.len (r : PR) (c : Int) : Bool := decide ((r.m : Int) = c)
def PR.sm (r : PR) : Bool := decide (∀ i, i < r.m → smB (r.s i) (r.f i) (r.g i) = true)
def PR.has (r : PR) (s : Bool) (n d : List Nat) : Bool := !decide (∀ j, j < r.m → eqB s n d (r.s j) (r.f j) (r.g j) = false)
def PR.meets (a b : PR) : Bool := !decide (∀ i, i < a.m → b.has (a.s i) (a.f i) (a.g i) = false)
def chkV (b0 b1 b2 b3 s0 s1 s2 s3 e : Bool) : Int := bif b0 && b1 && b2 && b3 then (bif s0 && s1 && s2 && s3 then (bif e then 5 else 0) else 1) else 3
def chkR (g : GR) : Int := chkV (g.A.len (cnt g.k g.n g.r 0)) (g.B.len (cnt g.k g.n g.r 1)) (g.G.len (cnt g.k g.n g.r 2)) (g.H.len (cnt g.k g.n g.r 3)) g.A.sm g.B.sm g.G.sm g.H.sm (g.A.meets g.B)
/-- What is told of a system. -/
def chk (g : GR) : Int := bif kindB g.k then 2 else bif sizedB g.k g.n g.r then chkR g else 1
theorem g_rowsr (g : GR) : Has Try.prog 49 [g.v] (.ag 4 g.rw) := by
  refine has_of Try.func49 (by kernel_rfl) rfl Try.ntmps49 Try.results49 rfl rfl rfl ?_
  refine run0p ?_
  refine ⟨.inr rfl, _, Imp.refl _, ?_⟩
  exact .one (.agg rfl rfl rfl rfl (by decide) rfl rfl)
theorem likeZ_nat (k : Nat) : likeZ (k : Int) = likeB k := by
  unfold likeZ likeB
  congr 1 <;> exact decide_eq_decide.2 (by omega)
theorem g_sizedr (k : Nat) (n r : Int) (A B G H : PR) : Has Try.prog 48 [GR.v ⟨k, n, r, A, B, G, H⟩] (.b (sizedB k n r)) := by
  refine has_of Try.func48 (by kernel_rfl) rfl Try.ntmps48 Try.results48 rfl rfl rfl ?_
  by_cases h1 : n < 1
  · have e0 : decide (n < 1) = true := decide_eq_true h1
    have e1 : (decide (n < 1) == false) = false := by rw [e0]; rfl
    rw [show sizedB k n r = false by unfold sizedB; rw [e0]; rfl]
    refine run0p ?_
    refine awp_yes rfl rfl ?_
    refine run0p ?_
    exact ⟨.inr rfl, _, Imp.refl _, .one (.tmp rfl)⟩
  have e0 : decide (n < 1) = false := decide_eq_false h1
  have e1 : (decide (n < 1) == false) = true := by rw [e0]; rfl
  refine run0p ?_
  by_cases h8 : 8 < n
  · have e2 : decide ((8 : Int) < n) = true := decide_eq_true h8
    rw [show sizedB k n r = false by unfold sizedB; rw [e2]; simp]
    refine awp_yes rfl e2 ?_
    refine run0p ?_
    exact ⟨.inr rfl, _, Imp.refl _, .one (.tmp rfl)⟩
  have e2 : decide ((8 : Int) < n) = false := decide_eq_false h8
  refine awp_no rfl e2 ?_
  repeat(first|refine run1p ?_|((with_reducible apply st_call);exact rfl;exact rfl;exact rfl;first|(exact g_ranked k))|((with_reducible apply st_callg);exact rfl;exact rfl;(first|exact rfl|assumption);exact rfl;exact rfl;exact rfl;first|(exact g_ranked k)))
  cases hk : likeB k with
  | true =>
    rw [show sizedB k n r = (decide (1 ≤ r) && decide (r ≤ 3)) by unfold sizedB; rw [e0, e2, likeZ_nat, hk]; rfl]
    refine awp_yes rfl rfl ?_
    by_cases h3 : 1 ≤ r
    · have e3 : decide ((1 : Int) ≤ r) = true := decide_eq_true h3
      have e4 : (decide ((1 : Int) ≤ r) == true) = true := by rw [e3]; rfl
      rw [e3, Bool.true_and]
      refine run0p ?_
      exact ⟨.inr rfl, _, Imp.refl _, .one (.tmp rfl)⟩
    · have e3 : decide ((1 : Int) ≤ r) = false := decide_eq_false h3
      have e4 : (decide ((1 : Int) ≤ r) == true) = false := by rw [e3]; rfl
      rw [e3, Bool.false_and]
      refine run0p ?_
      exact ⟨.inr rfl, _, Imp.refl _, .one (.tmp rfl)⟩
  | false =>
    rw [show sizedB k n r = decide (r = 0) by unfold sizedB; rw [e0, e2, likeZ_nat, hk]; rfl]
    refine awp_no rfl rfl ?_
    refine run0p ?_
    exact ⟨.inr rfl, _, Imp.refl _, .one (.tmp rfl)⟩
/-- The least one that is asked for. -/
theorem first_true {b : Nat → Bool} : ∀ n, ¬ (∀ i, i < n → b i = false) → ∃ k, k < n ∧ b k = true ∧ ∀ i, i < k → b i = false
  | 0, h => absurd (fun i hi => absurd hi (Nat.not_lt_zero _)) h
  | n + 1, h => by
    by_cases e : ∀ i, i < n → b i = false
    · refine ⟨n, by omega, ?_, e⟩
      cases hb : b n with
      | true => rfl
      | false =>
        refine absurd (fun i hi => ?_) h
        rcases Nat.lt_or_ge i n with h' | h'
        · exact e i h'
        · rw [show i = n by omega]; exact hb
    · obtain ⟨k, h1, h2, h3⟩ := first_true n e
      exact ⟨k, by omega, h2, h3⟩
theorem g_indexr {n m : Nat} {s : Nat → Bool} {p q : Nat → List Nat} {f : FuncId} {c : Nat → AV} {b : Nat → Bool} (hc : (AV.clo f m c).closed = true) (hn : n ≤ 1000000) (h : ∀ i, i < n → ∀ u : Nat → AV, u 0 = .v (.bool (s i)) → u 1 = .plb (p i) → u 2 = .plb (q i) → Has Try.prog f (([AV.ag 3 u] ++ (List.range m).map c).map AV.old) (.b (b i))) :
    ∃ z : Int, Has Try.prog 78 [.prow n s p q, .clo f m c] (.i z) ∧ decide (z ≥ 0) = !decide (∀ i, i < n → b i = false) := by
  by_cases hall : ∀ i, i < n → b i = false
  · refine ⟨-1, ?_, by rw [decide_eq_true hall]; rfl⟩
    refine has_of Try.func78 (by kernel_rfl) rfl Try.ntmps78 Try.results78 (by show (true && ((AV.clo f m c).closed && true)) = true; rw [hc]; rfl) rfl rfl ?_
    refine run0p ?_
    refine awp_loop (fun m' t => ∃ k, k ≤ n ∧ m' = n - k ∧ t = stl [(0, .prow n s p q), (1, .clo f m c), (7, .i n), (8, .i (k : Int))] []) n _ (imp_id ?_ ?_) ⟨0, Nat.zero_le _, rfl, rfl⟩ ?_
    · refine alle rfl (Le.id rfl) True.intro (alle rfl (Le.id rfl) (ok_none (closed_ok hc)) ?_)
      exact eA
    · exact hA
    · rintro m' t ⟨k, hk, rfl, rfl⟩
      refine run0p ?_
      refine awp_if rfl (fun h' => ?_) (fun h' => ?_)
      · have hk' : k < n := by omega
        have hb := hall k hk'
        repeat(first|refine run1p ?_|((with_reducible apply st_call);exact rfl;exact rfl;exact rfl;first|(exact h k hk' _ rfl rfl rfl))|((with_reducible apply st_callg);exact rfl;exact rfl;(first|exact rfl|assumption);exact rfl;exact rfl;exact rfl;first|(exact h k hk' _ rfl rfl rfl)))
        refine awp_no rfl hb ?_
        refine run0p ?_
        refine q_loop ?_ (imp_id ?_ ?_) ⟨k + 1, ?_, rfl, rfl⟩
        · omega
        · refine alle rfl (Le.id rfl) True.intro (alle rfl (Le.id rfl) (ok_none (closed_ok hc)) ?_)
          exact eA
        · exact hA
        · omega
      · refine run0p ?_
        exact ⟨.inr rfl, _, Imp.refl _, .one (.tmp rfl)⟩
  · obtain ⟨k0, hk0, hb0, hlt⟩ := first_true n hall
    refine ⟨k0, ?_, by rw [decide_eq_false hall]; simp⟩
    refine has_of Try.func78 (by kernel_rfl) rfl Try.ntmps78 Try.results78 (by show (true && ((AV.clo f m c).closed && true)) = true; rw [hc]; rfl) rfl rfl ?_
    refine run0p ?_
    refine awp_loop (fun m' t => ∃ k, k ≤ k0 ∧ m' = n - k ∧ t = stl [(0, .prow n s p q), (1, .clo f m c), (7, .i n), (8, .i (k : Int))] []) n _ (imp_id ?_ ?_) ⟨0, Nat.zero_le _, rfl, rfl⟩ ?_
    · refine alle rfl (Le.id rfl) True.intro (alle rfl (Le.id rfl) (ok_none (closed_ok hc)) ?_)
      exact eA
    · exact hA
    · rintro m' t ⟨k, hk, rfl, rfl⟩
      have hk' : k < n := by omega
      refine run0p ?_
      refine awp_yes rfl (decide_eq_true (by omega)) ?_
      repeat(first|refine run1p ?_|((with_reducible apply st_call);exact rfl;exact rfl;exact rfl;first|(exact h k hk' _ rfl rfl rfl))|((with_reducible apply st_callg);exact rfl;exact rfl;(first|exact rfl|assumption);exact rfl;exact rfl;exact rfl;first|(exact h k hk' _ rfl rfl rfl)))
      by_cases e : k = k0
      · subst e
        refine awp_yes rfl hb0 ?_
        refine run0p ?_
        exact ⟨.inr rfl, _, Imp.refl _, .one (.tmp rfl)⟩
      · refine awp_no rfl (hlt k (by omega)) ?_
        refine run0p ?_
        refine q_loop ?_ (imp_id ?_ ?_) ⟨k + 1, ?_, rfl, rfl⟩
        · omega
        · refine alle rfl (Le.id rfl) True.intro (alle rfl (Le.id rfl) (ok_none (closed_ok hc)) ?_)
          exact eA
        · exact hA
        · omega
theorem g_containsr {n m : Nat} {s : Nat → Bool} {p q : Nat → List Nat} {f : FuncId} {c : Nat → AV} {b : Nat → Bool} (hc : (AV.clo f m c).closed = true) (hc2 : (AV.clo f m fun i => (c i).old).closed = true) (hn : n ≤ 1000000) (h : ∀ i, i < n → ∀ u : Nat → AV, u 0 = .v (.bool (s i)) → u 1 = .plb (p i) → u 2 = .plb (q i) → Has Try.prog f (([AV.ag 3 u] ++ (List.range m).map fun i => (c i).old).map AV.old) (.b (b i))) :
    Has Try.prog 51 [.prow n s p q, .clo f m c] (.b (!decide (∀ i, i < n → b i = false))) := by
  refine has_of Try.func51 (by kernel_rfl) rfl Try.ntmps51 Try.results51 (by show (true && ((AV.clo f m c).closed && true)) = true; rw [hc]; rfl) rfl rfl ?_
  obtain ⟨z, H, hz⟩ := g_indexr hc2 hn h
  rw [← hz]
  repeat(first|refine run1p ?_|((with_reducible apply st_call);exact rfl;exact rfl;exact rfl;first|(exact H))|((with_reducible apply st_callg);exact rfl;exact rfl;(first|exact rfl|assumption);exact rfl;exact rfl;exact rfl;first|(exact H)))
  exact ⟨.inr rfl, _, Imp.refl _, .one (.tmp rfl)⟩
theorem g_contains0r {n : Nat} {s : Nat → Bool} {p q : Nat → List Nat} {f : FuncId} {b : Nat → Bool} (hn : n ≤ 1000000) (h : ∀ i, i < n → ∀ u : Nat → AV, u 0 = .v (.bool (s i)) → u 1 = .plb (p i) → u 2 = .plb (q i) → Has Try.prog f [(AV.ag 3 u).old] (.b (b i))) :
    Has Try.prog 51 [.prow n s p q, .v (.func (.func f) #[] #[])] (.b (!decide (∀ i, i < n → b i = false))) :=
  Has.args (g_containsr (m := 0) (c := fun _ => .v undef) rfl rfl hn h) fun S B β w vs hv => rvs_cons (fun v hv => hv) (fun us hu => rvs_cons rv_fn (fun us hu => hu) hu) hv
/-- A row's numbers are all small. -/
theorem g_badr {r : PR} (h : r.Fin) (hn : r.m ≤ 1000000) : Has Try.prog 51 [r.v, .v (.func (.func 52) #[] #[])] (.b (!r.sm)) := by
  have := g_contains0r (f := 52) (n := r.m) (s := r.s) (p := r.f) (q := r.g) (b := fun i => !smB (r.s i) (r.f i) (r.g i)) hn fun i hi u h0 h1 h2 => Has.p1 (by rw [h0]; rfl) (by rw [h1]; rfl) (by rw [h2]; rfl) (p_bad (h.f i hi) (h.g i hi))
  rw [show (decide (∀ i, i < r.m → (!smB (r.s i) (r.f i) (r.g i)) = false)) = r.sm from decide_eq_decide.2 ⟨fun h i hi => by have := h i hi; simpa using this, fun h i hi => by rw [h i hi]; rfl⟩] at this
  exact this
/-- A small row's numbers. -/
theorem PR.isp {r : PR} (h : r.Fin) (hs : r.sm = true) {i : Nat} (hi : i < r.m) : ∃ p : Rat, ng p = r.s i ∧ IsP (r.f i) (r.g i) p := by
  have := of_decide_eq_true hs i hi
  unfold smB at this
  rw [Bool.and_eq_true, Bool.and_eq_true] at this
  have l1 := of_decide_eq_true this.1.1
  have l2 := of_decide_eq_true this.1.2
  exact rgt_isp this.2 (h.f i hi) (h.g i hi) (by omega) (by omega)
theorem g_eqsr {n d n' d' : List Nat} {p q : Rat} (hp : IsP n d p) (hq : IsP n' d' q) : Has Try.prog 54 [.ag 3 (pag (ng q) n' d'), .pp (ng p) n d] (.b (decide (p = q))) := by
  refine has_of Try.func54 (by kernel_rfl) rfl Try.ntmps54 Try.results54 rfl rfl rfl ?_
  repeat(first|refine run1p ?_|((with_reducible apply st_call);exact rfl;exact rfl;exact rfl;first|(exact Has.p2 rfl rfl rfl rfl rfl rfl (p_same hp hq)))|((with_reducible apply st_callg);exact rfl;exact rfl;(first|exact rfl|assumption);exact rfl;exact rfl;exact rfl;first|(exact Has.p2 rfl rfl rfl rfl rfl rfl (p_same hp hq))))
  exact ⟨.inr rfl, _, Imp.refl _, .one (.tmp rfl)⟩
/-- A variable that holds a number, wherever it lies, and is written no more. -/
theorem imp_pp {s : St} (t : Nat) {g : Nat} {F : Nat → Blk} {f : Nat → AV} {b : Bool} {n d : List Nat} {T : TypeId} (hx : s.env t = some (.ptr g 0 0)) (hg : s.heap g = some (1, F)) (hF : F 0 = .ones T 3 f) (h0 : f 0 = .v (.bool b)) (h1 : f 1 = .plb n) (h2 : f 2 = .plb d) : Imp s ⟨put s.env t (some (.pp b n d)), put s.heap g none, s.used⟩ :=
  imp_turn1 hx hg trivial fun W N β w a hs v hv hok hb S' k1 k2 => by
    rw [hF] at hb hok
    obtain ⟨bb, hub, e⟩ := hv
    obtain ⟨hT, cs, hB, hr, hat, hx⟩ := rb_ones hb hub
    obtain ⟨y0, a0, _, b0⟩ := hx 0 (by decide)
    obtain ⟨y1, a1, _, b1⟩ := hx 1 (by decide)
    obtain ⟨y2, a2, _, b2⟩ := hx 2 (by decide)
    rw [h0] at b0; rw [h1] at b1; rw [h2] at b2
    have b0 : y0 = .bool b := b0
    subst b0
    have fw : ∀ {v : Value} {l : List Nat}, PLb (notOwn W s β) w v l → PLb S' w v l := by
      rintro v l ⟨A, c, e1, e2, e3⟩
      exact ⟨A, c, e1, e2, fun i hi => by obtain ⟨b, off, q1, q2, q3⟩ := e3 i hi; exact ⟨b, off, q1, q2.imp (k1 b) id, q3⟩⟩
    refine ⟨bb, 0, e, k2 bb hub, y1, y2, ?_, ?_, ?_, fw b1, fw b2⟩
    · rw [cell_of_row w bb _ cs T (0, 0) hr]; exact a0
    · rw [cell_of_row w bb _ cs T (0, 0) hr]; exact a1
    · rw [cell_of_row w bb _ cs T (0, 0) hr]; exact a2
/-- Whatever comes in. -/
theorem g_checkr {g : GR} (hf : g.Fin) : Has Try.prog 22 [g.v] (.i (chk g)) := by
  obtain ⟨k, n, r, A, B, G, H⟩ := g
  obtain ⟨fA, fB, fG, fH⟩ := hf
  change A.Fin at fA
  change B.Fin at fB
  change G.Fin at fG
  change H.Fin at fH
  by_cases h1 : k < 1
  · have e0 : decide (k < 1) = true := decide_eq_true h1
    have e1 : (decide (k < 1) == false) = false := by rw [e0]; rfl
    rw [show chk ⟨k, n, r, A, B, G, H⟩ = 2 by unfold chk kindB; rw [e0]; rfl]
    refine has_of Try.func22 (by kernel_rfl) rfl Try.ntmps22 Try.results22 rfl rfl rfl ?_
    refine run0p ?_
    refine awp_yes rfl rfl ?_
    refine run0p ?_
    exact ⟨.inr rfl, _, Imp.refl _, .one (.tmp rfl)⟩
  have e0 : decide (k < 1) = false := decide_eq_false h1
  have e1 : (decide (k < 1) == false) = true := by rw [e0]; rfl
  by_cases h7 : 7 < k
  · have e2 : decide ((7 : Int) < k) = true := decide_eq_true h7
    rw [show chk ⟨k, n, r, A, B, G, H⟩ = 2 by unfold chk kindB; rw [e0, e2]; rfl]
    refine has_of Try.func22 (by kernel_rfl) rfl Try.ntmps22 Try.results22 rfl rfl rfl ?_
    refine run0p ?_
    refine awp_yes rfl e2 ?_
    refine run0p ?_
    exact ⟨.inr rfl, _, Imp.refl _, .one (.tmp rfl)⟩
  have e2 : decide ((7 : Int) < k) = false := decide_eq_false h7
  obtain ⟨k, rfl⟩ : ∃ k' : Nat, k = k' := ⟨k.toNat, by omega⟩
  have cs := g_sizedr k n r A B G H
  cases hz : sizedB k n r with
  | false =>
    rw [hz] at cs
    rw [show chk ⟨k, n, r, A, B, G, H⟩ = 1 by unfold chk kindB; rw [e0, e2, hz]; rfl]
    refine has_of Try.func22 (by kernel_rfl) rfl Try.ntmps22 Try.results22 rfl rfl rfl ?_
    refine run0p ?_
    refine awp_no rfl e2 ?_
    repeat(first|refine run1p ?_|((with_reducible apply st_call);exact rfl;exact rfl;exact rfl;first|(exact Has.ag (g7 rfl rfl rfl rfl rfl rfl rfl) cs))|((with_reducible apply st_callg);exact rfl;exact rfl;(first|exact rfl|assumption);exact rfl;exact rfl;exact rfl;first|(exact Has.ag (g7 rfl rfl rfl rfl rfl rfl rfl) cs)))
    refine awp_yes rfl rfl ?_
    refine run0p ?_
    exact ⟨.inr rfl, _, Imp.refl _, .one (.tmp rfl)⟩
  | true =>
  rw [hz] at cs
  rw [show chk ⟨k, n, r, A, B, G, H⟩ = chkR ⟨k, n, r, A, B, G, H⟩ by unfold chk kindB; rw [e0, e2, hz]; rfl]
  have hzz := hz
  unfold sizedB at hz
  rw [Bool.and_eq_true, Bool.not_eq_true', Bool.or_eq_false_iff] at hz
  have n1 := of_decide_eq_false hz.1.1
  have n8 := of_decide_eq_false hz.1.2
  have hr : 0 ≤ r ∧ r ≤ 3 := by
    have h := hz.2
    cases hl : likeZ k with
    | true => rw [hl, cond_true, Bool.and_eq_true] at h; have a := of_decide_eq_true h.1; have b := of_decide_eq_true h.2; omega
    | false => rw [hl, cond_false] at h; have a := of_decide_eq_true h; omega
  clear hz
  obtain ⟨n, rfl⟩ : ∃ n' : Nat, n = n' := ⟨n.toNat, by omega⟩
  obtain ⟨r, rfl⟩ : ∃ r' : Nat, r = r' := ⟨r.toNat, by omega⟩
  have cf : ∀ i : Nat, i < 4 → Fits .i64 (mpz (cmap k i) 0 * n) ∧ Fits .i64 (mpz (cmap k i) 1 * n) ∧ Fits .i64 (mpz (cmap k i) 1 * n * r) ∧ Fits .i64 (mpz (cmap k i) 0 * n + mpz (cmap k i) 1 * n * r) ∧
      Fits .i64 (mpz (cmap k i) 0 * n + mpz (cmap k i) 1 * n * r + mpz (cmap k i) 2) ∧ cnt k n r i ≤ 1000000 := fun i hi => by
    obtain ⟨c0, c1, c2⟩ := cmap_le (k := k) (by omega) (by omega) hi
    obtain ⟨p0, _⟩ := cmap_mul (n := n) (r := r) c0 (by omega) (by omega)
    obtain ⟨p1, p2⟩ := cmap_mul (n := n) (r := r) ⟨c1.1, Int.le_trans c1.2 (by decide)⟩ (by omega) (by omega)
    refine ⟨?_, ?_, ?_, ?_, ?_, ?_⟩
    · simp only [Fits]; omega
    · simp only [Fits]; omega
    · simp only [Fits]; omega
    · simp only [Fits]; omega
    · simp only [Fits]; omega
    · unfold cnt; omega
  have q0 : decide ((A.m : Int) ≠ mpz (cmap k (0 : Nat)) 0 * n + mpz (cmap k (0 : Nat)) 1 * n * r + mpz (cmap k (0 : Nat)) 2) = !A.len (cnt k n r 0) := by
    unfold PR.len cnt; simp
  have u0 : A.len (cnt k n r 0) = true → A.m ≤ 1000000 := fun h => by have a := of_decide_eq_true h; have b := (cf 0 (by decide)).2.2.2.2.2; omega
  have t0 := fun h => g_badr fA (u0 h)
  have q1 : decide ((B.m : Int) ≠ mpz (cmap k (1 : Nat)) 0 * n + mpz (cmap k (1 : Nat)) 1 * n * r + mpz (cmap k (1 : Nat)) 2) = !B.len (cnt k n r 1) := by
    unfold PR.len cnt; simp
  have u1 : B.len (cnt k n r 1) = true → B.m ≤ 1000000 := fun h => by have a := of_decide_eq_true h; have b := (cf 1 (by decide)).2.2.2.2.2; omega
  have t1 := fun h => g_badr fB (u1 h)
  have q2 : decide ((G.m : Int) ≠ mpz (cmap k (2 : Nat)) 0 * n + mpz (cmap k (2 : Nat)) 1 * n * r + mpz (cmap k (2 : Nat)) 2) = !G.len (cnt k n r 2) := by
    unfold PR.len cnt; simp
  have u2 : G.len (cnt k n r 2) = true → G.m ≤ 1000000 := fun h => by have a := of_decide_eq_true h; have b := (cf 2 (by decide)).2.2.2.2.2; omega
  have t2 := fun h => g_badr fG (u2 h)
  have q3 : decide ((H.m : Int) ≠ mpz (cmap k (3 : Nat)) 0 * n + mpz (cmap k (3 : Nat)) 1 * n * r + mpz (cmap k (3 : Nat)) 2) = !H.len (cnt k n r 3) := by
    unfold PR.len cnt; simp
  have u3 : H.len (cnt k n r 3) = true → H.m ≤ 1000000 := fun h => by have a := of_decide_eq_true h; have b := (cf 3 (by decide)).2.2.2.2.2; omega
  have t3 := fun h => g_badr fH (u3 h)
  show Has Try.prog _ _ (.i (chkV (A.len (cnt k n r 0)) (B.len (cnt k n r 1)) (G.len (cnt k n r 2)) (H.len (cnt k n r 3)) A.sm B.sm G.sm H.sm (A.meets B)))
  have spA := fun (hs : A.sm = true) (i : Nat) (hi : i < A.m) => PR.isp fA hs hi
  have spB := fun (hs : B.sm = true) (i : Nat) (hi : i < B.m) => PR.isp fB hs hi
  have gr := g_rowsr ⟨k, n, r, A, B, G, H⟩
  generalize A.len (cnt k n r 0) = b0 at *
  generalize B.len (cnt k n r 1) = b1 at *
  generalize G.len (cnt k n r 2) = b2 at *
  generalize H.len (cnt k n r 3) = b3 at *
  generalize hs0 : A.sm = s0 at *
  generalize hs1 : B.sm = s1 at *
  generalize hs2 : G.sm = s2 at *
  generalize hs3 : H.sm = s3 at *
  generalize hg : (⟨k, n, r, A, B, G, H⟩ : GR) = g at *
  have gA : g.A = A := by rw [← hg]
  have gB : g.B = B := by rw [← hg]
  have fe : g.f = fun i => ([AV.i (k : Int), .i (n : Int), .i (r : Int), A.v, B.v, G.v, H.v] : List AV).getD i (.v undef) := by rw [← hg]; rfl
  have re : g.rw = fun i => ([A.v, B.v, G.v, H.v] : List AV).getD i (.v undef) := by rw [← hg]; rfl
  subst hg
  refine has_of Try.func22 (by kernel_rfl) rfl Try.ntmps22 Try.results22 rfl rfl rfl ?_
  refine run0p ?_
  refine awp_no rfl e2 ?_
  repeat(first|refine run1p ?_|((with_reducible apply st_call);exact rfl;exact rfl;exact rfl;first|(exact Has.ag (g7 rfl rfl rfl rfl rfl rfl rfl) cs))|((with_reducible apply st_callg);exact rfl;exact rfl;(first|exact rfl|assumption);exact rfl;exact rfl;exact rfl;first|(exact Has.ag (g7 rfl rfl rfl rfl rfl rfl rfl) cs)))
  refine awp_no rfl rfl ?_
  repeat(first|refine run1p ?_|((with_reducible apply st_call);exact rfl;exact rfl;exact rfl;first|(exact Has.ag (g7 rfl rfl rfl rfl rfl rfl rfl) gr)|(exact V.c_counts))|((with_reducible apply st_callg);exact rfl;exact rfl;(first|exact rfl|assumption);exact rfl;exact rfl;exact rfl;first|(exact Has.ag (g7 rfl rfl rfl rfl rfl rfl rfl) gr)|(exact V.c_counts)))
  refine awp_loop (fun m' s => ∃ k0, k0 ≤ 4 ∧ m' = 4 - k0 ∧ (1 ≤ k0 → b0 = true) ∧ (2 ≤ k0 → b1 = true) ∧ (3 ≤ k0 → b2 = true) ∧ (4 ≤ k0 → b3 = true) ∧ s = stl [(1, .ptr 1 0 0), (3, .ptr 3 0 0), (4, .mp cmap), (28, .ag 4 (GR.rw ⟨k, n, r, A, B, G, H⟩)), (29, .i (k0 : Int))] [(1, (1, fun _ => .ones 26 7 (GR.f ⟨k, n, r, A, B, G, H⟩))), (3, (1, fun _ => .ones 68 4 (GR.rw ⟨k, n, r, A, B, G, H⟩)))]) 4 _ (imp_id ?_ ?_) ⟨0, by omega, rfl, by omega, by omega, by omega, by omega, rfl⟩ ?_
  · refine alle rfl (Le.id rfl) rfl (alle rfl (Le.id rfl) rfl (alle rfl (Le.id rfl) True.intro (alle rfl (Le.id rfl) (fun i _ => GR.rok _ _ i) ?_)))
    exact eA
  · refine allh rfl (by decide) (bleo rfl fun _ _ => Le.id rfl) (fun i _ => GR.fok _ _ i) (allh rfl (by decide) (bleo rfl fun _ _ => Le.id rfl) (fun i _ => GR.rok _ _ i) True.intro)
  · rintro m' s ⟨k0, hk0, rfl, v0, v1, v2, v3, rfl⟩
    match k0, hk0 with
    | 0, _ =>
      obtain ⟨⟨a0, c0⟩, ⟨a1, c1⟩, ⟨a2, c2⟩, ⟨a3, c3⟩, ⟨a4, c4⟩, hl⟩ := cf 0 (by omega)
      refine run0p ?_
      refine awp_yes rfl rfl ?_
      refine run0p ?_
      cases hb : b0 with
      | false =>
        rw [hb] at q0
        refine awp_yes rfl q0 ?_
        refine run0p ?_
        exact ⟨.inr rfl, _, Imp.refl _, .one (.tmp rfl)⟩
      | true =>
        rw [hb] at q0
        refine awp_no rfl q0 ?_
        refine run0p ?_
        refine q_loop ?_ (imp_id ?_ ?_) ⟨1, ?_, rfl, fun _ => rfl, by omega, by omega, by omega, rfl⟩
        · decide
        · refine alle rfl (Le.id rfl) rfl (alle rfl (Le.id rfl) rfl (alle rfl (Le.id rfl) True.intro (alle rfl (Le.id rfl) (fun i _ => GR.rok _ _ i) ?_)))
          exact eA
        · refine allh rfl (by decide) (bleo rfl fun _ _ => Le.id rfl) (fun i _ => GR.fok _ _ i) (allh rfl (by decide) (bleo rfl fun _ _ => Le.id rfl) (fun i _ => GR.rok _ _ i) True.intro)
        · decide
    | 1, _ =>
      have z0 := v0 (by decide)
      subst z0
      obtain ⟨⟨a0, c0⟩, ⟨a1, c1⟩, ⟨a2, c2⟩, ⟨a3, c3⟩, ⟨a4, c4⟩, hl⟩ := cf 1 (by omega)
      refine run0p ?_
      refine awp_yes rfl rfl ?_
      refine run0p ?_
      cases hb : b1 with
      | false =>
        rw [hb] at q1
        refine awp_yes rfl q1 ?_
        refine run0p ?_
        exact ⟨.inr rfl, _, Imp.refl _, .one (.tmp rfl)⟩
      | true =>
        rw [hb] at q1
        refine awp_no rfl q1 ?_
        refine run0p ?_
        refine q_loop ?_ (imp_id ?_ ?_) ⟨2, ?_, rfl, fun _ => rfl, fun _ => rfl, by omega, by omega, rfl⟩
        · decide
        · refine alle rfl (Le.id rfl) rfl (alle rfl (Le.id rfl) rfl (alle rfl (Le.id rfl) True.intro (alle rfl (Le.id rfl) (fun i _ => GR.rok _ _ i) ?_)))
          exact eA
        · refine allh rfl (by decide) (bleo rfl fun _ _ => Le.id rfl) (fun i _ => GR.fok _ _ i) (allh rfl (by decide) (bleo rfl fun _ _ => Le.id rfl) (fun i _ => GR.rok _ _ i) True.intro)
        · decide
    | 2, _ =>
      have z0 := v0 (by decide)
      subst z0
      have z1 := v1 (by decide)
      subst z1
      obtain ⟨⟨a0, c0⟩, ⟨a1, c1⟩, ⟨a2, c2⟩, ⟨a3, c3⟩, ⟨a4, c4⟩, hl⟩ := cf 2 (by omega)
      refine run0p ?_
      refine awp_yes rfl rfl ?_
      refine run0p ?_
      cases hb : b2 with
      | false =>
        rw [hb] at q2
        refine awp_yes rfl q2 ?_
        refine run0p ?_
        exact ⟨.inr rfl, _, Imp.refl _, .one (.tmp rfl)⟩
      | true =>
        rw [hb] at q2
        refine awp_no rfl q2 ?_
        refine run0p ?_
        refine q_loop ?_ (imp_id ?_ ?_) ⟨3, ?_, rfl, fun _ => rfl, fun _ => rfl, fun _ => rfl, by omega, rfl⟩
        · decide
        · refine alle rfl (Le.id rfl) rfl (alle rfl (Le.id rfl) rfl (alle rfl (Le.id rfl) True.intro (alle rfl (Le.id rfl) (fun i _ => GR.rok _ _ i) ?_)))
          exact eA
        · refine allh rfl (by decide) (bleo rfl fun _ _ => Le.id rfl) (fun i _ => GR.fok _ _ i) (allh rfl (by decide) (bleo rfl fun _ _ => Le.id rfl) (fun i _ => GR.rok _ _ i) True.intro)
        · decide
    | 3, _ =>
      have z0 := v0 (by decide)
      subst z0
      have z1 := v1 (by decide)
      subst z1
      have z2 := v2 (by decide)
      subst z2
      obtain ⟨⟨a0, c0⟩, ⟨a1, c1⟩, ⟨a2, c2⟩, ⟨a3, c3⟩, ⟨a4, c4⟩, hl⟩ := cf 3 (by omega)
      refine run0p ?_
      refine awp_yes rfl rfl ?_
      refine run0p ?_
      cases hb : b3 with
      | false =>
        rw [hb] at q3
        refine awp_yes rfl q3 ?_
        refine run0p ?_
        exact ⟨.inr rfl, _, Imp.refl _, .one (.tmp rfl)⟩
      | true =>
        rw [hb] at q3
        refine awp_no rfl q3 ?_
        refine run0p ?_
        refine q_loop ?_ (imp_id ?_ ?_) ⟨4, ?_, rfl, fun _ => rfl, fun _ => rfl, fun _ => rfl, fun _ => rfl, rfl⟩
        · decide
        · refine alle rfl (Le.id rfl) rfl (alle rfl (Le.id rfl) rfl (alle rfl (Le.id rfl) True.intro (alle rfl (Le.id rfl) (fun i _ => GR.rok _ _ i) ?_)))
          exact eA
        · refine allh rfl (by decide) (bleo rfl fun _ _ => Le.id rfl) (fun i _ => GR.fok _ _ i) (allh rfl (by decide) (bleo rfl fun _ _ => Le.id rfl) (fun i _ => GR.rok _ _ i) True.intro)
        · decide
    | 4, _ =>
      have z0 := v0 (by decide)
      subst z0
      have z1 := v1 (by decide)
      subst z1
      have z2 := v2 (by decide)
      subst z2
      have z3 := v3 (by decide)
      subst z3
      have t0 := t0 rfl
      have u0 := u0 rfl
      have t1 := t1 rfl
      have u1 := u1 rfl
      have t2 := t2 rfl
      have u2 := u2 rfl
      have t3 := t3 rfl
      have u3 := u3 rfl
      refine run0p ?_
      refine awp_no rfl rfl ?_
      refine run0p ?_
      refine awp_loop (fun m' s => ∃ k0, k0 ≤ 4 ∧ m' = 4 - k0 ∧ (1 ≤ k0 → s0 = true) ∧ (2 ≤ k0 → s1 = true) ∧ (3 ≤ k0 → s2 = true) ∧ (4 ≤ k0 → s3 = true) ∧ s = stl [(1, .ptr 1 0 0), (60, .ag 4 (GR.rw ⟨k, n, r, A, B, G, H⟩)), (61, .i (k0 : Int))] [(1, (1, fun _ => .ones 26 7 (GR.f ⟨k, n, r, A, B, G, H⟩)))]) 4 _ (imp_id ?_ ?_) ⟨0, by omega, rfl, by omega, by omega, by omega, by omega, rfl⟩ ?_
      · refine alle rfl (Le.id rfl) rfl (alle rfl (Le.id rfl) (fun i _ => GR.rok _ _ i) ?_)
        exact eA
      · refine allh rfl (by decide) (bleo rfl fun _ _ => Le.id rfl) (fun i _ => GR.fok _ _ i) True.intro
      · rintro m' s ⟨k0, hk0, rfl, v0, v1, v2, v3, rfl⟩
        match k0, hk0 with
        | 0, _ =>
          refine run0p ?_
          refine awp_yes rfl rfl ?_
          repeat(first|refine run1p ?_|((with_reducible apply st_call);exact rfl;exact rfl;exact rfl;first|(exact t0))|((with_reducible apply st_callg);exact rfl;exact rfl;(first|exact rfl|assumption);exact rfl;exact rfl;exact rfl;first|(exact t0)))
          cases hb : s0 with
          | false =>
            refine awp_yes rfl rfl ?_
            refine run0p ?_
            refine ⟨.inr rfl, _, Imp.refl _, ?_⟩
            exact .one (.tmp rfl)
          | true =>
            refine awp_no rfl rfl ?_
            refine run0p ?_
            refine q_loop ?_ (imp_id ?_ ?_) ⟨1, ?_, rfl, fun _ => rfl, by omega, by omega, by omega, rfl⟩
            · decide
            · refine alle rfl (Le.id rfl) rfl (alle rfl (Le.id rfl) (fun i _ => GR.rok _ _ i) ?_)
              exact eA
            · refine allh rfl (by decide) (bleo rfl fun _ _ => Le.id rfl) (fun i _ => GR.fok _ _ i) True.intro
            · decide
        | 1, _ =>
          refine run0p ?_
          refine awp_yes rfl rfl ?_
          repeat(first|refine run1p ?_|((with_reducible apply st_call);exact rfl;exact rfl;exact rfl;first|(exact t1))|((with_reducible apply st_callg);exact rfl;exact rfl;(first|exact rfl|assumption);exact rfl;exact rfl;exact rfl;first|(exact t1)))
          cases hb : s1 with
          | false =>
            refine awp_yes rfl rfl ?_
            refine run0p ?_
            refine ⟨.inr rfl, _, Imp.refl _, ?_⟩
            rw [v0 (by decide)]
            exact .one (.tmp rfl)
          | true =>
            refine awp_no rfl rfl ?_
            refine run0p ?_
            refine q_loop ?_ (imp_id ?_ ?_) ⟨2, ?_, rfl, fun _ => v0 (by decide), fun _ => rfl, by omega, by omega, rfl⟩
            · decide
            · refine alle rfl (Le.id rfl) rfl (alle rfl (Le.id rfl) (fun i _ => GR.rok _ _ i) ?_)
              exact eA
            · refine allh rfl (by decide) (bleo rfl fun _ _ => Le.id rfl) (fun i _ => GR.fok _ _ i) True.intro
            · decide
        | 2, _ =>
          refine run0p ?_
          refine awp_yes rfl rfl ?_
          repeat(first|refine run1p ?_|((with_reducible apply st_call);exact rfl;exact rfl;exact rfl;first|(exact t2))|((with_reducible apply st_callg);exact rfl;exact rfl;(first|exact rfl|assumption);exact rfl;exact rfl;exact rfl;first|(exact t2)))
          cases hb : s2 with
          | false =>
            refine awp_yes rfl rfl ?_
            refine run0p ?_
            refine ⟨.inr rfl, _, Imp.refl _, ?_⟩
            rw [v0 (by decide)]
            rw [v1 (by decide)]
            exact .one (.tmp rfl)
          | true =>
            refine awp_no rfl rfl ?_
            refine run0p ?_
            refine q_loop ?_ (imp_id ?_ ?_) ⟨3, ?_, rfl, fun _ => v0 (by decide), fun _ => v1 (by decide), fun _ => rfl, by omega, rfl⟩
            · decide
            · refine alle rfl (Le.id rfl) rfl (alle rfl (Le.id rfl) (fun i _ => GR.rok _ _ i) ?_)
              exact eA
            · refine allh rfl (by decide) (bleo rfl fun _ _ => Le.id rfl) (fun i _ => GR.fok _ _ i) True.intro
            · decide
        | 3, _ =>
          refine run0p ?_
          refine awp_yes rfl rfl ?_
          repeat(first|refine run1p ?_|((with_reducible apply st_call);exact rfl;exact rfl;exact rfl;first|(exact t3))|((with_reducible apply st_callg);exact rfl;exact rfl;(first|exact rfl|assumption);exact rfl;exact rfl;exact rfl;first|(exact t3)))
          cases hb : s3 with
          | false =>
            refine awp_yes rfl rfl ?_
            refine run0p ?_
            refine ⟨.inr rfl, _, Imp.refl _, ?_⟩
            rw [v0 (by decide)]
            rw [v1 (by decide)]
            rw [v2 (by decide)]
            exact .one (.tmp rfl)
          | true =>
            refine awp_no rfl rfl ?_
            refine run0p ?_
            refine q_loop ?_ (imp_id ?_ ?_) ⟨4, ?_, rfl, fun _ => v0 (by decide), fun _ => v1 (by decide), fun _ => v2 (by decide), fun _ => rfl, rfl⟩
            · decide
            · refine alle rfl (Le.id rfl) rfl (alle rfl (Le.id rfl) (fun i _ => GR.rok _ _ i) ?_)
              exact eA
            · refine allh rfl (by decide) (bleo rfl fun _ _ => Le.id rfl) (fun i _ => GR.fok _ _ i) True.intro
            · decide
        | 4, _ =>
          have z0 := v0 (by decide)
          rw [z0]
          have z1 := v1 (by decide)
          rw [z1]
          have z2 := v2 (by decide)
          rw [z2]
          have z3 := v3 (by decide)
          rw [z3]
          refine run0p ?_
          refine awp_no rfl rfl ?_
          refine run0p ?_
          have spA := spA z0
          have spB := spB z1
          have hme : A.meets B = !decide (∀ i, i < A.m → B.has (A.s i) (A.f i) (A.g i) = false) := rfl
          refine awp_loop (fun m' s => ∃ k0, k0 ≤ A.m ∧ m' = A.m - k0 ∧ (∀ i, i < k0 → B.has (A.s i) (A.f i) (A.g i) = false) ∧ s = stl [(1, .ptr 1 0 0), (68, A.v), (69, .i A.m), (70, .i (k0 : Int))] [(1, (1, fun _ => .ones 26 7 (GR.f ⟨k, n, r, A, B, G, H⟩)))]) A.m _ (imp_id ?_ ?_) ⟨0, Nat.zero_le _, rfl, fun i hi => absurd hi (Nat.not_lt_zero _), rfl⟩ ?_
          · refine alle rfl (Le.id rfl) rfl (alle rfl (Le.id rfl) True.intro ?_)
            exact eA
          · refine allh rfl (by decide) (bleo rfl fun _ _ => Le.id rfl) (fun i _ => GR.fok _ _ i) True.intro
          · rintro m' s ⟨k0, hk0, rfl, hprev, rfl⟩
            refine run0p ?_
            refine awp_if rfl (fun h' => ?_) (fun h' => ?_)
            · have hk' : k0 < A.m := by omega
              obtain ⟨p, p1, p2⟩ := spA k0 hk'
              have c : Has Try.prog 51 [B.v, .clo 54 1 fun i => [AV.pp (A.s k0) (A.f k0) (A.g k0)].getD i (.v undef)] (.b (B.has (A.s k0) (A.f k0) (A.g k0))) :=
                g_containsr (f := 54) (m := 1) (c := fun i => [AV.pp (A.s k0) (A.f k0) (A.g k0)].getD i (.v undef)) (n := B.m) (s := B.s) (p := B.f) (q := B.g) (b := fun j => eqB (A.s k0) (A.f k0) (A.g k0) (B.s j) (B.f j) (B.g j)) rfl rfl u1 fun i hi u h0 h1 h2 => by
                  obtain ⟨q, q1, q2⟩ := spB i hi
                  have e := g_eqsr p2 q2
                  rw [← isp_eq p2 q2, p1, q1] at e
                  exact Has.p1 (by rw [h0]; rfl) (by rw [h1]; rfl) (by rw [h2]; rfl) e
              refine run3 ?_
              refine st_ev rfl (by exact ⟨by omega, by omega⟩) ?_
              refine st_ev rfl trivial ?_
              refine st_lok (ok_alloc_ones (g := 11) rfl rfl zero_rat (by decide) rfl rfl) ?_
              refine run4p ?_
              refine awp_imp (imp_pp 11 rfl rfl rfl rfl rfl rfl) ?_
              repeat(first|refine run1p ?_|((with_reducible apply st_call);exact rfl;exact rfl;exact rfl;first|(exact Has.clo2 (one1 rfl) c))|((with_reducible apply st_callg);exact rfl;exact rfl;(first|exact rfl|assumption);exact rfl;exact rfl;exact rfl;first|(exact Has.clo2 (one1 rfl) c)))
              cases hb : B.has (A.s k0) (A.f k0) (A.g k0) with
              | true =>
                refine awp_yes rfl rfl ?_
                refine run0p ?_
                refine ⟨.inr rfl, _, Imp.refl _, ?_⟩
                rw [hme, decide_eq_false (fun h2 : ∀ i, i < A.m → B.has (A.s i) (A.f i) (A.g i) = false => by rw [h2 k0 hk'] at hb; cases hb)]
                exact .one (.tmp rfl)
              | false =>
                refine awp_no rfl rfl ?_
                refine run0p ?_
                refine q_loop ?_ (imp_id ?_ ?_) ⟨k0 + 1, ?_, rfl, fun i hi => ?_, rfl⟩
                · omega
                · refine alle rfl (Le.id rfl) rfl (alle rfl (Le.id rfl) True.intro ?_)
                  exact eA
                · refine allh rfl (by decide) (bleo rfl fun _ _ => Le.id rfl) (fun i _ => GR.fok _ _ i) True.intro
                · omega
                · rcases Nat.lt_or_ge i k0 with h | h
                  · exact hprev i h
                  · obtain rfl : i = k0 := by omega
                    exact hb
            · refine run0p ?_
              refine ⟨.inr rfl, _, Imp.refl _, ?_⟩
              rw [hme, decide_eq_true fun i hi => hprev i (by omega)]
              exact .one (.tmp rfl)
end Go.Proofs.Ytpclkgjhfhhddaa.AM
/- Own rows of numbers, cell by cell. -/
namespace Go.Proofs.Ytpclkgjhfhhddaa.AM
open Go Go.RowKit Go.Proofs.Ytpclkgjhfhhddaa.PN Go.Proofs.Ytpclkgjhfhhddaa.V
set_option linter.unusedVariables false
set_option linter.unusedSimpArgs false
set_option maxRecDepth 8000
set_option maxHeartbeats 4000000
/-- All families but one. -/
def noG (g : Nat) : Nat → Bool := fun q => !(Nat.beq q g)
theorem noG_ne {g q : Nat} (h : noG g q = true) : q ≠ g := fun e => by
  subst e
  unfold noG at h
  rw [Nat.beq_refl] at h; cases h
/-- The cells of numbers. -/
def rcel (f : Nat → RA) (i : Nat) : AV := if i % 3 = 0 then .rs (f (i / 3)) else if i % 3 = 1 then .rn (f (i / 3)) else .rd (f (i / 3))
theorem rcel_ok {f : Nat → RA} {U : Nat → Bool} (i : Nat) : (rcel f i).ok U := by
  unfold rcel
  split
  · trivial
  · split <;> trivial
/-- An own row that lies in a cell of another own block, cell by cell. -/
theorem imp_ghost {s : St} {g g' n N j : Nat} {T : TypeId} {F F' : Nat → Blk} {f : Nat → RA} {f' : Nat → AV} (hg : s.heap g = some (1, F)) (hF : F 0 = .rats n f) (hg' : s.heap g' = some (1, F')) (hF' : F' 0 = .ones T N f') (hj : j < N) (hfj : f' j = .own g 0) (hne : g ≠ g') (hn : 0 < n) (hfx : fx3 g = false)
    (he : ∀ t x, s.env t = some x → x.ok (noG g)) (hh : ∀ q m G r, q ≠ g → q ≠ g' → s.heap q = some (m, G) → r < m → (G r).ok (noG g)) (hf' : ∀ i, i < N → i ≠ j → (f' i).ok (noG g)) (hlim : ∀ q m G r a b, s.heap q = some (m, G) → r < m → G r ≠ .lims a b) :
    Imp s ⟨s.env, put (put s.heap g (some (1, fun _ => .ones RT (n * 3) (rcel f)))) g' (some (1, fun _ => .ones T N (updN f' j (.sl g 0 0 n)))), s.used⟩ := by
  intro W M β w a hs
  obtain ⟨hok', hb'⟩ := hs.heap g' 1 F' 0 hg' Nat.zero_lt_one
  rw [hF'] at hok' hb'
  obtain ⟨hok, hb⟩ := hs.heap g 1 F 0 hg Nat.zero_lt_one
  rw [hF] at hb
  have hb0 := hb
  rcases hb with ⟨_, e⟩ | ⟨k, cs, hB, hrow, hat, hx⟩
  · omega
  have hub : ub (β g 0) = some k := ub_at hat
  have hsz := at_size hat
  -- the family's value is a slice
  have hsl : ∃ cap, β g 0 = .slice (some ⟨k, 0, none⟩) n cap ∧ n ≤ cap ∧ cap ≤ maxLen := by
    rcases hb'.2 with ⟨e1, e2⟩ | ⟨k', cs', hB', hrow', hat', hx'⟩
    · omega
    · obtain ⟨y, _, _, a2⟩ := hx' j hj
      rw [hfj] at a2
      obtain ⟨e0, A, n', c, e1⟩ := a2
      rcases hat with ⟨e', _⟩ | ⟨cap, e', h3, h4, _⟩
      · rw [← e0, e1] at e'; cases e'
      · exact ⟨cap, e', h3, h4⟩
  obtain ⟨cap, esl, hcap, hmax⟩ := hsl
  let β' := setv β g (.pointer (some ⟨k, 0, none⟩))
  have hβg : β' g 0 = .pointer (some ⟨k, 0, none⟩) := if_pos rfl
  have hβ : ∀ q r, q ≠ g → β' q r = β q r := fun q r hq => by
    show setv β g _ q r = _
    unfold setv
    rw [if_neg hq]
  generalize hs' : (⟨s.env, put (put s.heap g (some (1, fun _ => .ones RT (n * 3) (rcel f)))) g' (some (1, fun _ => .ones T N (updN f' j (.sl g 0 0 n)))), s.used⟩ : St) = s'
  have henv : s'.env = s.env := by rw [← hs']
  have hus : s'.used = s.used := by rw [← hs']
  have hheap : ∀ q n1 F1 r, s'.heap q = some (n1, F1) → r < n1 → (q = g' ∧ r = 0 ∧ F1 = fun _ => .ones T N (updN f' j (.sl g 0 0 n))) ∨ (q = g ∧ r = 0 ∧ F1 = fun _ => .ones RT (n * 3) (rcel f)) ∨ (q ≠ g ∧ q ≠ g' ∧ s.heap q = some (n1, F1)) := by
    intro q n1 F1 r h1 h2
    rw [← hs'] at h1
    have h1 : put (put s.heap g _) g' _ q = some (n1, F1) := h1
    by_cases c1 : q = g'
    · subst c1
      rw [put_same] at h1; cases h1
      exact .inl ⟨rfl, by omega, rfl⟩
    · rw [put_ne _ _ c1] at h1
      by_cases c2 : q = g
      · subst c2
        rw [put_same] at h1; cases h1
        exact .inr (.inl ⟨rfl, by omega, rfl⟩)
      · rw [put_ne _ _ c2] at h1
        exact .inr (.inr ⟨c2, c1, h1⟩)
  have hold : ∀ q n1 F1 r, s'.heap q = some (n1, F1) → r < n1 → ∃ n2 F2, s.heap q = some (n2, F2) ∧ r < n2 ∧ ub (β' q r) = ub (β q r) := by
    intro q n1 F1 r h1 h2
    rcases hheap q n1 F1 r h1 h2 with ⟨rfl, rfl, _⟩ | ⟨rfl, rfl, _⟩ | ⟨c1, c2, h3⟩
    · exact ⟨1, F', hg', Nat.zero_lt_one, by rw [hβ _ _ (Ne.symm hne)]⟩
    · exact ⟨1, F, hg, Nat.zero_lt_one, by rw [hβg, hub]; rfl⟩
    · exact ⟨n1, F1, h3, h2, by rw [hβ _ _ c1]⟩
  have hown : ∀ i, Own s' β' i → Own s β i := by
    rintro i ⟨q, n1, F1, r, h1, h2, h3⟩
    obtain ⟨n2, F2, a1, a2, a3⟩ := hold q n1 F1 r h1 h2
    exact ⟨q, n2, F2, r, a1, a2, by rw [← a3]; exact h3⟩
  have kf : Fwd (notOwn W s β) (notOwn W s' β') W.w.heap.size W.w.heap.size (noG g) β β' (fun _ => False) w w :=
    ⟨Ext.refl _ _, fun _ _ h => h, fun b hb _ => ⟨hb.1, fun ho => hb.2 (hown b ho)⟩, Nat.le_refl _, fun q r hq => hβ q r (noG_ne hq)⟩
  refine ⟨β', hs.kept, hs.nodef, hs.size, fun t z hz => ?_, fun q n1 F1 r h1 h2 => ?_, fun q n1 F1 h1 => ?_, fun g1 n1 F1 r1 g2 n2 F2 r2 i h1 h2 h3 h4 h5 h6 => ?_, hs.fix, fun i ho => hs.pin i (hown i ho), fun u hu q hq => ?_, by rw [hus]; exact hs.keep⟩
  · rw [henv] at hz
    rw [hus]
    exact ⟨(hs.env t z hz).1, (hs.env t z hz).2.fwd kf (he t z hz)⟩
  · rw [hus]
    rcases hheap q n1 F1 r h1 h2 with ⟨rfl, rfl, rfl⟩ | ⟨rfl, rfl, rfl⟩ | ⟨c1, c2, h3⟩
    · refine ⟨fun i hi => ?_, hb'.1, ?_⟩
      · by_cases c : i = j
        · subst c; rw [updN_same]; exact hs.live _ _ _ hg
        · rw [updN_ne _ _ c]; exact hok' i hi
      · rw [hβ _ _ (Ne.symm hne)]
        rcases hb'.2 with e | ⟨k', cs', hB', hrow', hat', hx'⟩
        · exact .inl e
        · refine .inr ⟨k', cs', hB', hrow', hat', fun i hi => ?_⟩
          obtain ⟨y, a0, a1, a2⟩ := hx' i hi
          by_cases c : i = j
          · subst c
            rw [hfj] at a2
            rw [updN_same]
            exact ⟨y, a0, a1, some ⟨k, 0, none⟩, cap, a2.1.trans esl, hcap, hmax, fun _ => ⟨k, by rw [hβg]; rfl, by rw [Nat.zero_mul]⟩⟩
          · rw [updN_ne _ _ c]
            exact ⟨y, a0, a1, a2.fwd kf (hf' i hi c)⟩
    · refine ⟨fun i _ => rcel_ok i, by decide, .inr ⟨k, cs, hB, hrow, .inl ⟨hβg, by rw [Nat.mul_one]; exact hsz⟩, fun i hi => ?_⟩⟩
      obtain ⟨sg, vn, vd, a0, a1, a2, a3⟩ := hx (i / 3) (by omega)
      unfold rcel
      by_cases c0 : i % 3 = 0
      · rw [if_pos c0]
        exact ⟨_, by rw [show i = i / 3 * 3 by omega]; exact a0, rfl, by show Value.bool sg = .bool _; rw [a3.1]⟩
      · rw [if_neg c0]
        by_cases c1 : i % 3 = 1
        · rw [if_pos c1]
          exact ⟨vn, by rw [show i = i / 3 * 3 + 1 by omega]; exact a1, rn_one a3.2.1, a3.2.1⟩
        · rw [if_neg c1]
          exact ⟨vd, by rw [show i = i / 3 * 3 + 2 by omega]; exact a2, rd_one a3.2.2, a3.2.2⟩
    · obtain ⟨q1, q2⟩ := hs.heap q n1 F1 r h3 h2
      rw [hβ _ _ c1]
      exact ⟨q1, RB.fwd kf (hh q n1 F1 r c1 c2 h3 h2) (fun _ _ h => h) q2⟩
  · rw [hus]
    have h1' := h1
    rw [← hs'] at h1
    have h1 : put (put s.heap g _) g' _ q = some (n1, F1) := h1
    by_cases c1 : q = g'
    · subst c1; exact hs.live _ _ _ hg'
    · rw [put_ne _ _ c1] at h1
      by_cases c2 : q = g
      · subst c2; exact hs.live _ _ _ hg
      · rw [put_ne _ _ c2] at h1; exact hs.live _ _ _ h1
  · obtain ⟨m1, G1, a1, a2, a3⟩ := hold g1 n1 F1 r1 h1 h2
    obtain ⟨m2, G2, b1, b2, b3⟩ := hold g2 n2 F2 r2 h3 h4
    exact hs.inj _ _ _ _ _ _ _ _ i a1 a2 b1 b2 (by rw [← a3]; exact h5) (by rw [← b3]; exact h6)
  · rw [← hs.fixd u hu q hq]
    funext r
    exact hβ q r (fun e => by rw [e, hfx] at hq; cases hq)
/-- Three cells turned. -/
def put3 (f : Nat → AV) (i : Nat) (u : Nat → AV) (j : Nat) : AV := if i * 3 ≤ j ∧ j < i * 3 + 3 then u (j - i * 3) else f j
section
variable {o : Oper} {s : St}
theorem ok_store_cells {x y : Operand} {g r i n m : Nat} {T' : TypeId} {F : Nat → Blk} {f u : Nat → AV} (hd : o.dst = none) (ho : o.op = .store RT x y) (hx : avo s x = some (.rptr g r i)) (hy : avo s y = some (.ag 3 u)) (hg : s.heap g = some (n, F)) (hr : r < n) (hF : F r = .ones T' m f) (hi : i * 3 + 3 ≤ m) :
    LOK Try.prog o s ⟨none, [(g, some (n, updN F r (.ones T' m (put3 f i u))))], [g]⟩ := by
  refine lok_turn hd hg hr (List.mem_singleton.2 rfl) (fun r' _ hne => updN_ne _ _ hne) fun s2 hl W N β w ac hs hg2 => ?_
  obtain ⟨_, b, hb, h1⟩ := hs.opd (x := x) (by rw [hl.avo (by rw [ho]; simp [Op.operands])]; exact hx)
  obtain ⟨hok, vs, h2, h3, h5⟩ := hs.opd (x := y) (by rw [hl.avo (by rw [ho]; simp [Op.operands])]; exact hy)
  obtain ⟨hu, h⟩ := hs.heap g n F r hg2 hr
  rw [hF] at h hu
  obtain ⟨hT', cs, hB, hrow, hat, h4⟩ := rb_ones h hb
  have hsz := at_size hat
  have hfit : i * 3 + 3 ≤ cs.size := by omega
  have he : Ext (fun j => j = b) w (w.setRow b (seg cs (i * 3) vs.toList)) := Ext.row_set hrow hT'
  have kf : Fwd (notOwn W s2 β) (notOwn W s2 β) W.w.heap.size W.w.heap.size s2.used β β (fun j => j = b) w (w.setRow b (seg cs (i * 3) vs.toList)) := ⟨he, fun j hj e => hj.2 (by rw [e]; exact ⟨g, n, F, r, hg2, hr, hb⟩), fun _ h _ => h, Nat.le_refl _, fun _ _ _ => rfl⟩
  have hrun := run_storeagg rt_sz hrow h3 hfit (fun v hv => by
      obtain ⟨q, hq, e⟩ := List.mem_iff_getElem.1 hv
      have hq' : q < vs.size := by simpa using hq
      obtain ⟨y, a0, a1, _⟩ := h5 q (by omega)
      rw [Array.getElem?_eq_getElem hq'] at a0
      cases a0
      have e : vs[q] = v := by simpa using e
      rw [← e]; exact a1)
  have hvl : vs.toList.length = 3 := by simp [h3]
  refine ⟨_, by unfold execOp; rw [ho]; simp only []; rw [h1, h2]; simp only [Sem.run_bind, hrun]; rfl, he.mono (fun j hj => by rw [hj]; exact hb), Kept.row_set hs.kept hB _, ?_, ?_⟩
  · rw [updN_same]
    intro j hj
    unfold put3
    split
    · exact hok _ (by omega)
    · exact hu j hj
  rw [updN_same]
  refine ⟨hT', .inr ⟨b, _, hB, setRow_heap w b cs _ T' _ hrow, by rw [seg_size (by rw [hvl]; exact hfit)]; exact hat, fun j hj => ?_⟩⟩
  unfold put3
  by_cases e : i * 3 ≤ j ∧ j < i * 3 + 3
  · rw [if_pos e]
    obtain ⟨y, a0, a1, a2⟩ := h5 (j - i * 3) (by omega)
    refine ⟨y, ?_, a1, a2.fwd kf (hok _ (by omega))⟩
    have := seg_in (cs := cs) (o := i * 3) (vs := vs.toList) (by rw [hvl]; exact hfit) (j := j - i * 3) (by rw [hvl]; omega)
    rw [show i * 3 + (j - i * 3) = j by omega] at this
    rw [this, Array.getElem?_toList]; exact a0
  · rw [if_neg e]
    obtain ⟨y0, a0, a1, a2⟩ := h4 j hj
    exact ⟨y0, (seg_out (by rw [hvl]; exact hfit) (by rw [hvl]; omega)).trans a0, a1, a2.fwd kf (hu j hj)⟩
/-- What a cell of an own block of cells holds. -/
theorem ok_load_cell {x : Operand} {T T' : TypeId} {g r i j n m : Nat} {F : Nat → Blk} {f : Nat → AV} (ho : o.op = .load T x) (hT : memN T flatT = true) (hx : avo s x = some (.fld g r i j)) (hg : s.heap g = some (n, F)) (hr : r < n) (hF : F r = .ones T' m f) (hi : i * 3 + j < m) :
    LOK Try.prog o s ⟨some (f (i * 3 + j)), [], [g]⟩ := by
  refine lok_val fun s2 hl W N β w ac hs => ?_
  obtain ⟨_, b, hb, h1⟩ := hs.opd (x := x) (by rw [hl.avo (by rw [ho]; simp [Op.operands])]; exact hx)
  have hg2 := (hl.heap g (List.mem_singleton.2 rfl)).trans hg
  obtain ⟨hu, h⟩ := hs.heap g n F r hg2 hr
  rw [hF] at h hu
  obtain ⟨hT', cs, hB, hrow, hat, h4⟩ := rb_ones h hb
  obtain ⟨y, a0, a1, a2⟩ := h4 (i * 3 + j) hi
  have hcell := (cell_of_row w b (i * 3 + j) cs T' (0, 0) hrow).trans a0
  have hrun := run_loadflat hT hcell
  exact ⟨y, by unfold execOp; rw [ho]; simp only []; rw [h1]; simp only [Sem.run_bind, hrun]; rfl, fun z hz => by cases hz; exact ⟨hu _ hi, a2⟩⟩
end
/-- What a number's cells say. -/
def CellNum (x y z : AV) (s : Bool) (n d : List Nat) : Prop :=
  (∀ S B β w v, RV S B β w x v → v = .bool s) ∧ (∀ S B β w v, RV S B β w y v → PLb S w v n) ∧ ∀ S B β w v, RV S B β w z v → PLb S w v d
/-- A part of own cells is written no more. -/
theorem imp_pubcells {s : St} {g g' n N j : Nat} {T T' : TypeId} {F F' : Nat → Blk} {f f' : Nat → AV} {sg : Nat → Bool} {fn fd : Nat → List Nat} (hg : s.heap g = some (1, F)) (hF : F 0 = .ones T' (n * 3) f) (hg' : s.heap g' = some (1, F')) (hF' : F' 0 = .ones T N f') (hj : j < N) (hfj : f' j = .sl g 0 0 n) (hne : g ≠ g') (hn : 0 < n)
    (hc : ∀ i, i < n → CellNum (f (i * 3)) (f (i * 3 + 1)) (f (i * 3 + 2)) (sg i) (fn i) (fd i)) :
    Imp s ⟨s.env, put (put s.heap g none) g' (some (1, fun _ => .ones T N (updN f' j (.prow n sg fn fd)))), s.used⟩ := by
  intro W M β w a hs
  have hheap : ∀ h n1 F1 r, put (put s.heap g none) g' (some (1, fun _ => .ones T N (updN f' j (.prow n sg fn fd)))) h = some (n1, F1) → r < n1 → ∃ n2 F2, s.heap h = some (n2, F2) ∧ r < n2 ∧ h ≠ g ∧ (h = g' → F1 r = .ones T N (updN f' j (.prow n sg fn fd)) ∧ r = 0) ∧ (h ≠ g' → F1 = F2) := by
    intro h n1 F1 r e1 e2
    by_cases c1 : h = g'
    · subst c1
      rw [put_same] at e1; cases e1
      obtain rfl : r = 0 := by omega
      exact ⟨1, F', hg', by decide, fun e => hne e.symm, fun _ => ⟨rfl, rfl⟩, fun e => absurd rfl e⟩
    · rw [put_ne _ _ c1] at e1
      by_cases c2 : h = g
      · subst c2; rw [put_same] at e1; cases e1
      · rw [put_ne _ _ c2] at e1
        exact ⟨n1, F1, e1, e2, c2, fun e => absurd e c1, fun _ => rfl⟩
  generalize hs' : (⟨s.env, put (put s.heap g none) g' (some (1, fun _ => .ones T N (updN f' j (.prow n sg fn fd)))), s.used⟩ : St) = s'
  have hown : ∀ k, Own s' β k → Own s β k ∧ ub (β g 0) ≠ some k := by
    rintro k ⟨h, n1, F1, r, h1, h2, h3⟩
    subst hs'
    obtain ⟨n2, F2, a1, a2, a3, _⟩ := hheap h n1 F1 r h1 h2
    exact ⟨⟨h, n2, F2, r, a1, a2, h3⟩, fun e => a3 (hs.inj _ _ _ _ _ _ _ _ k a1 a2 hg (by decide) h3 e).1⟩
  have kf : Fwd (notOwn W s β) (notOwn W s' β) W.w.heap.size W.w.heap.size s.used β β (fun _ => False) w w :=
    ⟨Ext.refl _ _, fun _ _ h => h, fun b hb _ => ⟨hb.1, fun ho => hb.2 (hown b ho).1⟩, Nat.le_refl _, fun _ _ _ => rfl⟩
  have hpub : ∀ b, ub (β g 0) = some b → notOwn W s' β b := fun b hb => ⟨fun hlt => W.law b (own_lt hs ⟨g, 1, F, 0, hg, by decide, hb⟩).1 hlt (hs.pin b ⟨g, 1, F, 0, hg, by decide, hb⟩), fun ho => (hown b ho).2 hb⟩
  refine ⟨β, hs.kept, hs.nodef, hs.size, fun t z hz => ?_, fun h n1 F1 r h1 h2 => ?_, fun h n1 F1 h1 => ?_, fun g1 n1 F1 r1 g2 n2 F2 r2 k h1 h2 h3 h4 h5 h6 => ?_, hs.fix, fun i ho => hs.pin i (hown i ho).1, by subst hs'; exact hs.fixd, by subst hs'; exact hs.keep⟩
  · subst hs'
    exact ⟨(hs.env t z hz).1, (hs.env t z hz).2.fwd kf (hs.env t z hz).1⟩
  · have h1' : put (put s.heap g none) g' (some (1, fun _ => .ones T N (updN f' j (.prow n sg fn fd)))) h = some (n1, F1) := by subst hs'; exact h1
    have hu : s'.used = s.used := by subst hs'; rfl
    rw [hu]
    obtain ⟨n2, F2, a1, a2, a3, a4, a5⟩ := hheap h n1 F1 r h1' h2
    obtain ⟨q1, q2⟩ := hs.heap h n2 F2 r a1 a2
    by_cases c1 : h = g'
    · obtain ⟨e1, rfl⟩ := a4 c1
      subst c1
      rw [hg'] at a1; cases a1
      rw [hF'] at q1 q2
      have q3 := RB.fwd kf q1 (fun _ _ h => h) q2
      obtain ⟨hok, hb⟩ := hs.heap g 1 F 0 hg (by decide)
      rw [hF] at hb hok
      have hb := RB.fwd kf hok (fun _ _ h => h) hb
      rw [e1]
      refine ⟨fun i hi => ?_, q3.1, ?_⟩
      · by_cases c2 : i = j
        · subst c2; rw [updN_same]; exact True.intro
        · rw [updN_ne _ _ c2]; exact q1 i hi
      · rcases q3.2 with e | ⟨k, cs, hB, hr, hat, hx⟩
        · exact .inl e
        · refine .inr ⟨k, cs, hB, hr, hat, fun i hi => ?_⟩
          obtain ⟨y, b1, b2, b3⟩ := hx i hi
          by_cases c2 : i = j
          · subst c2
            rw [hfj] at b3
            refine ⟨y, b1, b2, ?_⟩
            rw [updN_same]
            obtain ⟨A, c, rfl, hnc, hcm, hA⟩ := b3
            obtain ⟨bk, hbk, rfl⟩ := hA hn
            obtain ⟨_, cg, _, hrow, hatg, hxg⟩ := rb_ones hb hbk
            refine ⟨_, c, rfl, hnc, hcm, fun t ht => ⟨bk, _, rfl, hpub bk hbk, ?_⟩⟩
            have cell : ∀ u, u < 3 → ∃ y, w.cell? ⟨bk, 0 * 3 + t * 3 + u, none⟩ = some y ∧ RV (notOwn W s' β) W.w.heap.size β w (f (t * 3 + u)) y := fun u hu3 => by
              obtain ⟨y, d1, d2, d3⟩ := hxg (t * 3 + u) (by omega)
              exact ⟨y, by rw [Nat.zero_mul, Nat.zero_add]; exact (cell_of_row w bk _ cg _ (0, 0) hrow).trans d1, d3⟩
            obtain ⟨k0, k1, k2⟩ := hc t ht
            obtain ⟨y0, m0, r0⟩ := cell 0 (by decide)
            obtain ⟨y1, m1, r1⟩ := cell 1 (by decide)
            obtain ⟨y2, m2, r2⟩ := cell 2 (by decide)
            have e0 := k0 _ _ _ _ _ r0
            subst e0
            exact ⟨y1, y2, m0, m1, m2, k1 _ _ _ _ _ r1, k2 _ _ _ _ _ r2⟩
          · exact ⟨y, b1, b2, by rw [updN_ne _ _ c2]; exact b3⟩
    · rw [a5 c1]
      exact ⟨q1, RB.fwd kf q1 (fun _ _ h => h) q2⟩
  · subst hs'
    by_cases c1 : h = g'
    · subst c1; exact hs.live _ _ _ hg'
    · have h1 : put (put s.heap g none) g' _ h = _ := h1
      rw [put_ne _ _ c1] at h1
      by_cases c2 : h = g
      · subst c2; rw [put_same] at h1; cases h1
      · rw [put_ne _ _ c2] at h1; exact hs.live _ _ _ h1
  · subst hs'
    obtain ⟨m1, G1, a1, a2, _⟩ := hheap g1 n1 F1 r1 h1 h2
    obtain ⟨m2, G2, b1, b2, _⟩ := hheap g2 n2 F2 r2 h3 h4
    exact hs.inj _ _ _ _ _ _ _ _ k a1 a2 b1 b2 h5 h6
end Go.Proofs.Ytpclkgjhfhhddaa.AM

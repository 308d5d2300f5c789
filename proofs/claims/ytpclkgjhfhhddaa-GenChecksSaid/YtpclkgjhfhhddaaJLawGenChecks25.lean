/- Joined texts, 25: LawGc. -/
import Derived.Test.YtpclkgjhfhhddaaJLawGenChecks22
import Derived.Test.YtpclkgjhfhhddaaJLawGenChecks23
import Derived.Test.YtpclkgjhfhhddaaJLawGenChecks16
import Derived.Test.YtpclkgjhfhhddaaJLawGenChecks19
import Derived.Test.YtpclkgjhfhhddaaJLawGenChecks18
import Derived.Test.YtpclkgjhfhhddaaJLawGenChecks24
set_option linter.unusedVariables false
set_option linter.unusedSimpArgs false
/- GenChecks, walked. -/
namespace Go.Proofs.Ytpclkgjhfhhddaa.AM
open Go Go.RowKit Go.Proofs.Ytpclkgjhfhhddaa.PN Go.Proofs.Ytpclkgjhfhhddaa.V
set_option linter.unusedVariables false
set_option linter.unusedSimpArgs false
set_option maxRecDepth 8000
set_option maxHeartbeats 8000000
theorem len_allg : ∀ k : Nat, k < 8 → ∀ n : Nat, n < 9 → ∀ r : Nat, r < 4 → ∀ i : Nat, i < 4 → mpz (cmap k i) 0 * ((n : Nat) : Int) + mpz (cmap k i) 1 * (n : Nat) * (r : Nat) + mpz (cmap k i) 2 ≤ 50 := by decide +kernel
theorem len_le50g {g : GD} (o : g.OK) {i : Nat} (hi : i < 4) : g.len i ≤ 50 := by
  have h := o.len i hi
  have k7 := o.k7; have n8 := o.n8; have r3 := o.r3
  have := len_allg g.k (by omega) g.n (by omega) g.r (by omega) i hi
  omega
theorem lb_all : ∀ k : Nat, k < 7 → ∀ n : Nat, n < 8 → ∀ r : Nat, r < 4 → mpz (cmap (k + 1) (1 : Nat)) 0 * ((n + 1 : Nat) : Int) + mpz (cmap (k + 1) (1 : Nat)) 1 * (n + 1 : Nat) * (r : Nat) + mpz (cmap (k + 1) (1 : Nat)) 2 ≤ 0 ∨ 0 < mpz (cmap (k + 1) (0 : Nat)) 0 * ((n + 1 : Nat) : Int) + mpz (cmap (k + 1) (0 : Nat)) 1 * (n + 1 : Nat) * (r : Nat) + mpz (cmap (k + 1) (0 : Nat)) 2 := by decide +kernel
theorem lb_la {g : GD} (o : g.OK) (h : 0 < g.lb) : 0 < g.la := by
  have h0 : ((g.la : Nat) : Int) = _ := o.len 0 (by decide)
  have h1 : ((g.lb : Nat) : Int) = _ := o.len 1 (by decide)
  have k1 := o.k1; have k7 := o.k7; have n1 := o.n1; have n8 := o.n8; have r3 := o.r3
  have e1 : g.k - 1 + 1 = g.k := by omega
  have e2 : g.n - 1 + 1 = g.n := by omega
  have := lb_all (g.k - 1) (by omega) (g.n - 1) (by omega) g.r (by omega)
  have e3 : ((g.k - 1 : Nat) : Int) + 1 = (g.k : Int) := by omega
  rw [e2, e3, ← h1] at this
  rw [← h0] at this
  omega
theorem glue_c1 {m : Nat} {A : Nat → Rat} {z : Rat} {e0 : Nat → RA} {t : Nat} (ht : t < 0 + m + 1) : glue (0 + m) (glue 0 e0 fun i => RA.q (A i)) (fun i => [RA.q z].getD i ra0) t = .q (if t < m then A t else z) := by
  unfold glue
  by_cases h : t < m
  · rw [if_pos (show t < 0 + m by omega), if_neg (Nat.not_lt_zero t), if_pos h]; rfl
  · rw [if_neg (show ¬ t < 0 + m by omega), if_neg h, show t - (0 + m) = 0 by omega]; rfl
theorem fin_qs {m : Nat} {f : Nat → Rat} : (prR m fun i => .q (f i)).Fin := ⟨fun i _ => limbsOf_lf _, fun i _ => limbsOf_lf _⟩
theorem pagc {s : Bool} {n d : List Nat} (U : Nat → Bool) : ∀ i, (pag s n d i).ok U
  | 0 | 1 | 2 => trivial
  | _ + 3 => trivial
theorem stl_env {P : AV → Prop} {e : List (Nat × AV)} {h : List (Nat × Fam)} (H : ∀ p ∈ e, P p.2) {t : Nat} {x : AV} (hx : (stl e h).env t = some x) : P x := H _ (lkp_mem hx)
theorem stl_heap {P : Nat → Blk → Prop} {e : List (Nat × AV)} {h : List (Nat × Fam)} (H : ∀ p ∈ h, ∀ r, r < p.2.1 → P p.1 (p.2.2 r)) {q m r : Nat} {G : Nat → Blk} (hx : (stl e h).heap q = some (m, G)) (hr : r < m) : P q (G r) := H _ (lkp_mem hx) r hr
theorem all_nil {α : Type} {P : α → Prop} : ∀ p ∈ ([] : List α), P p := fun _ h => by cases h
theorem all_cons {α : Type} {P : α → Prop} {x : α} {l : List α} (h : P x) (k : ∀ p ∈ l, P p) : ∀ p ∈ x :: l, P p := fun p hp => by
  rcases List.mem_cons.1 hp with e | e
  · rw [e]; exact h
  · exact k p e
theorem cn_q {f : Nat → RA} {i : Nat} : CellNum (rcel f (i * 3)) (rcel f (i * 3 + 1)) (rcel f (i * 3 + 2)) (f i).sgn (raN (f i)) (raD (f i)) := by
  have e0 : rcel f (i * 3) = .rs (f i) := by unfold rcel; rw [if_pos (by omega), show i * 3 / 3 = i by omega]
  have e1 : rcel f (i * 3 + 1) = .rn (f i) := by unfold rcel; rw [if_neg (by omega), if_pos (by omega), show (i * 3 + 1) / 3 = i by omega]
  have e2 : rcel f (i * 3 + 2) = .rd (f i) := by unfold rcel; rw [if_neg (by omega), if_neg (by omega), show (i * 3 + 2) / 3 = i by omega]
  rw [e0, e1, e2]
  exact ⟨fun _ _ _ _ _ h => h, fun _ _ _ _ _ h => plb_rn h, fun _ _ _ _ _ h => plb_rd h⟩
theorem cn_put {f : Nat → AV} {u : Nat → AV} {i t : Nat} {s s' : Bool} {n d n' d' : List Nat} (h1 : CellNum (u 0) (u 1) (u 2) s n d) (h2 : t ≠ i → CellNum (f (t * 3)) (f (t * 3 + 1)) (f (t * 3 + 2)) s' n' d') :
    CellNum (put3 f i u (t * 3)) (put3 f i u (t * 3 + 1)) (put3 f i u (t * 3 + 2)) (if t = i then s else s') (if t = i then n else n') (if t = i then d else d') := by
  unfold put3
  by_cases e : t = i
  · subst e
    rw [if_pos (by omega), if_pos (by omega), if_pos (by omega), if_pos rfl, if_pos rfl, if_pos rfl, show t * 3 - t * 3 = 0 by omega, show t * 3 + 1 - t * 3 = 1 by omega, show t * 3 + 2 - t * 3 = 2 by omega]
    exact h1
  · rw [if_neg (by omega), if_neg (by omega), if_neg (by omega), if_neg e, if_neg e, if_neg e]
    exact h2 e
theorem cn_pag {s : Bool} {n d : List Nat} : CellNum (pag s n d 0) (pag s n d 1) (pag s n d 2) s n d := ⟨fun _ _ _ _ _ h => h, fun _ _ _ _ _ h => h, fun _ _ _ _ _ h => h⟩
theorem gcU_ok {q : Nat} {U : Nat → Bool} (h : U q = true) : ∀ i, (gcU q i).ok U
  | 0 => trivial
  | 1 => h
  | 2 => fun i hi => by
    obtain rfl : i = 0 := by omega
    trivial
  | _ + 3 => trivial
theorem k_genchecks {gr : GR} (hf : gr.Fin) {kind n which k : Int} {ns : List Int} {an ad : List Nat} (hk : Fits .i64 kind) (hn : Fits .i64 n) (hz : AllFit ns) (hw : Fits .i64 which) (hkk : Fits .i64 k) (s : Bool) (h1 : LF an) (h2 : LF ad) (_ : an.length ≤ 9223372036854775807) (_ : ad.length ≤ 9223372036854775807) :
    Has Try.prog 8 [gr.v, .i kind, .i n, .seq .i64 ns, .i which, .i k, .ag 3 (pag s an ad)] (.b true) := by
  have m := k_mk (kind := kind) (n := n) (most := 8) (zs := ns) hk hn hz (by decide) (by decide)
  have o := mkg_ok (kind := kind) (n := n) (zs := ns) (most := 8) (by decide) (by decide)
  generalize mkg kind n ns 8 = g at *
  have hA50 : g.la ≤ 50 := len_le50g o (i := 0) (by decide)
  have hB50 : g.lb ≤ 50 := len_le50g o (i := 1) (by decide)
  have hG50 : g.lg ≤ 50 := len_le50g o (i := 2) (by decide)
  have hH50 : g.lh ≤ 50 := len_le50g o (i := 3) (by decide)
  have cf := k_few gr
  have cg := g_checkr hf
  have cr := r5_checkr hf
  have c0 := g_check o
  refine hast_of Try.func8 (by kernel_rfl) rfl Try.ntmps8 Try.results8 rfl rfl (fun W hW => ?_)
  repeat(first|refine run1t ?_|((with_reducible apply st_call);exact rfl;exact rfl;exact rfl;first|(exact k_known5))|((with_reducible apply st_callg);exact rfl;exact rfl;(first|exact rfl|assumption);exact rfl;exact rfl;exact rfl;first|(exact k_known5)))
  refine awpt_no rfl rfl ?_
  cases hq : fewG gr with
  | false =>
    rw [hq] at cf
    repeat(first|refine run1t ?_|((with_reducible apply st_call);exact rfl;exact rfl;exact rfl;first|(exact Has.ag (u' := gr.f) (g7 rfl rfl rfl rfl rfl rfl rfl) cf))|((with_reducible apply st_callg);exact rfl;exact rfl;(first|exact rfl|assumption);exact rfl;exact rfl;exact rfl;first|(exact Has.ag (u' := gr.f) (g7 rfl rfl rfl rfl rfl rfl rfl) cf)))
    refine awpt_yes rfl rfl ?_
    refine run0t ?_
    exact ⟨.inr rfl, _, Imp.refl _, .one (.tmp rfl)⟩
  | true =>
  rw [hq] at cf
  rcases Nat.lt_or_ge 10 an.length with hl1 | hl1
  · have e1 : decide ((10 : Int) < (an.length : Int)) = true := decide_eq_true (by omega)
    have e1' : (decide ((10 : Int) < (an.length : Int)) == false) = false := by rw [e1]; rfl
    repeat(first|refine run1t ?_|((with_reducible apply st_call);exact rfl;exact rfl;exact rfl;first|(exact Has.ag (u' := gr.f) (g7 rfl rfl rfl rfl rfl rfl rfl) cf))|((with_reducible apply st_callg);exact rfl;exact rfl;(first|exact rfl|assumption);exact rfl;exact rfl;exact rfl;first|(exact Has.ag (u' := gr.f) (g7 rfl rfl rfl rfl rfl rfl rfl) cf)))
    refine awpt_yes rfl rfl ?_
    refine run0t ?_
    exact ⟨.inr rfl, _, Imp.refl _, .one (.tmp rfl)⟩
  have e1 : decide ((10 : Int) < (an.length : Int)) = false := decide_eq_false (by omega)
  have e1' : (decide ((10 : Int) < (an.length : Int)) == false) = true := by rw [e1]; rfl
  rcases Nat.lt_or_ge 10 ad.length with hl2 | hl2
  · have e2 : decide ((10 : Int) < (ad.length : Int)) = true := decide_eq_true (by omega)
    repeat(first|refine run1t ?_|((with_reducible apply st_call);exact rfl;exact rfl;exact rfl;first|(exact Has.ag (u' := gr.f) (g7 rfl rfl rfl rfl rfl rfl rfl) cf))|((with_reducible apply st_callg);exact rfl;exact rfl;(first|exact rfl|assumption);exact rfl;exact rfl;exact rfl;first|(exact Has.ag (u' := gr.f) (g7 rfl rfl rfl rfl rfl rfl rfl) cf)))
    refine awpt_yes rfl e2 ?_
    refine run0t ?_
    exact ⟨.inr rfl, _, Imp.refl _, .one (.tmp rfl)⟩
  have e2 : decide ((10 : Int) < (ad.length : Int)) = false := decide_eq_false (by omega)
  have hcc : decide (chk gr ≠ chk gr) = false := decide_eq_false (fun h => h rfl)
  have hcc' : (decide (chk gr ≠ chk gr) == false) = true := by rw [hcc]; rfl
  repeat(first|refine run1t ?_|((with_reducible apply st_call);exact rfl;exact rfl;exact rfl;first|(exact Has.ag (u' := gr.f) (g7 rfl rfl rfl rfl rfl rfl rfl) cf))|((with_reducible apply st_callg);exact rfl;exact rfl;(first|exact rfl|assumption);exact rfl;exact rfl;exact rfl;first|(exact Has.ag (u' := gr.f) (g7 rfl rfl rfl rfl rfl rfl rfl) cf)))
  refine awpt_no rfl e2 ?_
  repeat(first|refine run1t ?_|((with_reducible apply st_call);exact rfl;exact rfl;exact rfl;first|(exact m)|(exact Has.ag (u' := gr.f) (g7 rfl rfl rfl rfl rfl rfl rfl) cg)|(exact Has.ag (u' := gr.f) (g7 rfl rfl rfl rfl rfl rfl rfl) cr)|(exact Has.ag (u' := g.f) (g7 rfl rfl rfl rfl rfl rfl rfl) c0))|((with_reducible apply st_callg);exact rfl;exact rfl;(first|exact rfl|assumption);exact rfl;exact rfl;exact rfl;first|(exact m)|(exact Has.ag (u' := gr.f) (g7 rfl rfl rfl rfl rfl rfl rfl) cg)|(exact Has.ag (u' := gr.f) (g7 rfl rfl rfl rfl rfl rfl rfl) cr)|(exact Has.ag (u' := g.f) (g7 rfl rfl rfl rfl rfl rfl rfl) c0)))
  obtain ⟨w1, w2⟩ := wthn_lt (a := which) (n := 9) (by decide)
  have kw := k_within5 (a := which) (n := 9) (by decide) (by decide)
  refine awpt_no rfl rfl ?_
  refine run0t ?_
  refine st_call rfl rfl rfl kw ?_
  refine run4p ?_
  generalize hww : wthn which 9 = ww at *
  obtain ⟨j, rfl⟩ : ∃ j : Nat, ww = (j : Int) := ⟨ww.toNat, by omega⟩
  have hj9 : j < 9 := by omega
  clear hww kw w1 w2 cf cg cr m
  refine awpt_imp (s' := stl [(5, .i k), (13, .ptr 13 0 0), (15, .ptr 15 0 0), (48, .i (j : Int))] [(13, (1, fun _ => .ones 43 3 (pag s an ad))), (15, (1, fun _ => .ones 26 7 g.ft))]) (Imp.t (imp_id ?_ ?_)) ?_
  · exact eA
  · exact allh rfl (by decide) (bleo rfl fun _ _ => Le.id rfl) (fun i hi => pagc _ i) (allh rfl (by decide) (bleo rfl fun i hi => Le.id rfl) (fun i hi => g.ftok _ i) True.intro)
  match j, hj9 with
  | 0, _ =>
    have hG : GR.Fin (⟨k, (g.n : Int), (g.r : Int), prR g.la (fun i => .q (g.A i)), prR g.lb (fun i => .q (g.B i)), prR g.lg (fun i => .q (g.G i)), prR g.lh (fun i => .q (g.H i))⟩ : GR) := ⟨fin_qs, fin_qs, fin_qs, fin_qs⟩
    have d1 := g_checkr hG
    have d2 := r5_checkr hG
    have hE : decide (chk (⟨k, (g.n : Int), (g.r : Int), prR g.la (fun i => .q (g.A i)), prR g.lb (fun i => .q (g.B i)), prR g.lg (fun i => .q (g.G i)), prR g.lh (fun i => .q (g.H i))⟩ : GR) = chk (⟨k, (g.n : Int), (g.r : Int), prR g.la (fun i => .q (g.A i)), prR g.lb (fun i => .q (g.B i)), prR g.lg (fun i => .q (g.G i)), prR g.lh (fun i => .q (g.H i))⟩ : GR)) = true := decide_eq_true rfl
    refine run0t ?_
    refine awpt_yes rfl rfl ?_
    repeat(first|refine run1t ?_|((with_reducible apply st_call);exact rfl;exact rfl;exact rfl;first|(exact Has.gr (g := (⟨k, (g.n : Int), (g.r : Int), prR g.la (fun i => .q (g.A i)), prR g.lb (fun i => .q (g.B i)), prR g.lg (fun i => .q (g.G i)), prR g.lh (fun i => .q (g.H i))⟩ : GR)) rfl d1)|(exact Has.gr (g := (⟨k, (g.n : Int), (g.r : Int), prR g.la (fun i => .q (g.A i)), prR g.lb (fun i => .q (g.B i)), prR g.lg (fun i => .q (g.G i)), prR g.lh (fun i => .q (g.H i))⟩ : GR)) rfl d2))|((with_reducible apply st_callg);exact rfl;exact rfl;(first|exact rfl|assumption);exact rfl;exact rfl;exact rfl;first|(exact Has.gr (g := (⟨k, (g.n : Int), (g.r : Int), prR g.la (fun i => .q (g.A i)), prR g.lb (fun i => .q (g.B i)), prR g.lg (fun i => .q (g.G i)), prR g.lh (fun i => .q (g.H i))⟩ : GR)) rfl d1)|(exact Has.gr (g := (⟨k, (g.n : Int), (g.r : Int), prR g.la (fun i => .q (g.A i)), prR g.lb (fun i => .q (g.B i)), prR g.lg (fun i => .q (g.G i)), prR g.lh (fun i => .q (g.H i))⟩ : GR)) rfl d2)))
    exact ⟨.inr rfl, _, Imp.refl _, .one (.tmp (congrArg (fun z => some (AV.b z)) hE))⟩
  | 1, _ =>
    have hG : GR.Fin (⟨(g.k : Int), k, (g.r : Int), prR g.la (fun i => .q (g.A i)), prR g.lb (fun i => .q (g.B i)), prR g.lg (fun i => .q (g.G i)), prR g.lh (fun i => .q (g.H i))⟩ : GR) := ⟨fin_qs, fin_qs, fin_qs, fin_qs⟩
    have d1 := g_checkr hG
    have d2 := r5_checkr hG
    have hE : decide (chk (⟨(g.k : Int), k, (g.r : Int), prR g.la (fun i => .q (g.A i)), prR g.lb (fun i => .q (g.B i)), prR g.lg (fun i => .q (g.G i)), prR g.lh (fun i => .q (g.H i))⟩ : GR) = chk (⟨(g.k : Int), k, (g.r : Int), prR g.la (fun i => .q (g.A i)), prR g.lb (fun i => .q (g.B i)), prR g.lg (fun i => .q (g.G i)), prR g.lh (fun i => .q (g.H i))⟩ : GR)) = true := decide_eq_true rfl
    refine run0t ?_
    refine awpt_no rfl rfl ?_
    refine run0t ?_
    refine awpt_yes rfl rfl ?_
    repeat(first|refine run1t ?_|((with_reducible apply st_call);exact rfl;exact rfl;exact rfl;first|(exact Has.gr (g := (⟨(g.k : Int), k, (g.r : Int), prR g.la (fun i => .q (g.A i)), prR g.lb (fun i => .q (g.B i)), prR g.lg (fun i => .q (g.G i)), prR g.lh (fun i => .q (g.H i))⟩ : GR)) rfl d1)|(exact Has.gr (g := (⟨(g.k : Int), k, (g.r : Int), prR g.la (fun i => .q (g.A i)), prR g.lb (fun i => .q (g.B i)), prR g.lg (fun i => .q (g.G i)), prR g.lh (fun i => .q (g.H i))⟩ : GR)) rfl d2))|((with_reducible apply st_callg);exact rfl;exact rfl;(first|exact rfl|assumption);exact rfl;exact rfl;exact rfl;first|(exact Has.gr (g := (⟨(g.k : Int), k, (g.r : Int), prR g.la (fun i => .q (g.A i)), prR g.lb (fun i => .q (g.B i)), prR g.lg (fun i => .q (g.G i)), prR g.lh (fun i => .q (g.H i))⟩ : GR)) rfl d1)|(exact Has.gr (g := (⟨(g.k : Int), k, (g.r : Int), prR g.la (fun i => .q (g.A i)), prR g.lb (fun i => .q (g.B i)), prR g.lg (fun i => .q (g.G i)), prR g.lh (fun i => .q (g.H i))⟩ : GR)) rfl d2)))
    exact ⟨.inr rfl, _, Imp.refl _, .one (.tmp (congrArg (fun z => some (AV.b z)) hE))⟩
  | 2, _ =>
    have hG : GR.Fin (⟨(g.k : Int), (g.n : Int), k, prR g.la (fun i => .q (g.A i)), prR g.lb (fun i => .q (g.B i)), prR g.lg (fun i => .q (g.G i)), prR g.lh (fun i => .q (g.H i))⟩ : GR) := ⟨fin_qs, fin_qs, fin_qs, fin_qs⟩
    have d1 := g_checkr hG
    have d2 := r5_checkr hG
    have hE : decide (chk (⟨(g.k : Int), (g.n : Int), k, prR g.la (fun i => .q (g.A i)), prR g.lb (fun i => .q (g.B i)), prR g.lg (fun i => .q (g.G i)), prR g.lh (fun i => .q (g.H i))⟩ : GR) = chk (⟨(g.k : Int), (g.n : Int), k, prR g.la (fun i => .q (g.A i)), prR g.lb (fun i => .q (g.B i)), prR g.lg (fun i => .q (g.G i)), prR g.lh (fun i => .q (g.H i))⟩ : GR)) = true := decide_eq_true rfl
    refine run0t ?_
    refine awpt_no rfl rfl ?_
    refine run0t ?_
    refine awpt_no rfl rfl ?_
    refine run0t ?_
    refine awpt_yes rfl rfl ?_
    repeat(first|refine run1t ?_|((with_reducible apply st_call);exact rfl;exact rfl;exact rfl;first|(exact Has.gr (g := (⟨(g.k : Int), (g.n : Int), k, prR g.la (fun i => .q (g.A i)), prR g.lb (fun i => .q (g.B i)), prR g.lg (fun i => .q (g.G i)), prR g.lh (fun i => .q (g.H i))⟩ : GR)) rfl d1)|(exact Has.gr (g := (⟨(g.k : Int), (g.n : Int), k, prR g.la (fun i => .q (g.A i)), prR g.lb (fun i => .q (g.B i)), prR g.lg (fun i => .q (g.G i)), prR g.lh (fun i => .q (g.H i))⟩ : GR)) rfl d2))|((with_reducible apply st_callg);exact rfl;exact rfl;(first|exact rfl|assumption);exact rfl;exact rfl;exact rfl;first|(exact Has.gr (g := (⟨(g.k : Int), (g.n : Int), k, prR g.la (fun i => .q (g.A i)), prR g.lb (fun i => .q (g.B i)), prR g.lg (fun i => .q (g.G i)), prR g.lh (fun i => .q (g.H i))⟩ : GR)) rfl d1)|(exact Has.gr (g := (⟨(g.k : Int), (g.n : Int), k, prR g.la (fun i => .q (g.A i)), prR g.lb (fun i => .q (g.B i)), prR g.lg (fun i => .q (g.G i)), prR g.lh (fun i => .q (g.H i))⟩ : GR)) rfl d2)))
    exact ⟨.inr rfl, _, Imp.refl _, .one (.tmp (congrArg (fun z => some (AV.b z)) hE))⟩
  | 3, _ =>
    have ci := hs_int 99 (by decide) (by decide)
    refine run0t ?_
    refine awpt_no rfl rfl ?_
    refine run0t ?_
    refine awpt_no rfl rfl ?_
    refine run0t ?_
    refine awpt_no rfl rfl ?_
    refine run0t ?_
    refine awpt_yes rfl rfl ?_
    refine run3t ?_
    repeat(first|refine run4p ?_|((with_reducible apply st_call);exact rfl;exact rfl;exact rfl;first|(exact ci))|((with_reducible apply st_callg);exact rfl;exact rfl;(first|exact rfl|assumption);exact rfl;exact rfl;exact rfl;first|(exact ci)))
    refine q_thent ?_
    refine awpt_imp (s' := stl [(15, .ptr 15 0 0)] [(15, (1, fun _ => .ones 26 7 (updN g.ft 3 (.row false (g.la + 1) (fun i => .q (if i < g.la then g.A i else ((99 : Int) : Rat)))))))]) (Imp.t ((imp_pub 15 3 rfl rfl (by decide) (updN_same _ _ _) rfl rfl (by decide)).trans (imp_id ?_ ?_))) ?_
    · exact eA
    · refine allh rfl (by decide) (bleo rfl fun i hi => ?_) (fun i hi => ?_) True.intro
      · match i, hi with
        | 0, _ => exact Le.id rfl
        | 1, _ => exact Le.id rfl
        | 2, _ => exact Le.id rfl
        | 3, _ => exact Le.row (by omega) (fun t ht => glue_c1 ht) (fun h => by cases h)
        | 4, _ => exact Le.id rfl
        | 5, _ => exact Le.id rfl
        | 6, _ => exact Le.id rfl
      · unfold updN
        split
        · trivial
        · exact g.ftok _ i
    have hG : GR.Fin (⟨(g.k : Int), (g.n : Int), (g.r : Int), prR (g.la + 1) (fun i => .q (if i < g.la then g.A i else ((99 : Int) : Rat))), prR g.lb (fun i => .q (g.B i)), prR g.lg (fun i => .q (g.G i)), prR g.lh (fun i => .q (g.H i))⟩ : GR) := ⟨fin_qs, fin_qs, fin_qs, fin_qs⟩
    have d1 := g_checkr hG
    have d2 := r5_checkr hG
    have hE : decide (chk (⟨(g.k : Int), (g.n : Int), (g.r : Int), prR (g.la + 1) (fun i => .q (if i < g.la then g.A i else ((99 : Int) : Rat))), prR g.lb (fun i => .q (g.B i)), prR g.lg (fun i => .q (g.G i)), prR g.lh (fun i => .q (g.H i))⟩ : GR) = chk (⟨(g.k : Int), (g.n : Int), (g.r : Int), prR (g.la + 1) (fun i => .q (if i < g.la then g.A i else ((99 : Int) : Rat))), prR g.lb (fun i => .q (g.B i)), prR g.lg (fun i => .q (g.G i)), prR g.lh (fun i => .q (g.H i))⟩ : GR)) = true := decide_eq_true rfl
    repeat(first|refine run1t ?_|((with_reducible apply st_call);exact rfl;exact rfl;exact rfl;first|(exact Has.gr (g := (⟨(g.k : Int), (g.n : Int), (g.r : Int), prR (g.la + 1) (fun i => .q (if i < g.la then g.A i else ((99 : Int) : Rat))), prR g.lb (fun i => .q (g.B i)), prR g.lg (fun i => .q (g.G i)), prR g.lh (fun i => .q (g.H i))⟩ : GR)) rfl d1)|(exact Has.gr (g := (⟨(g.k : Int), (g.n : Int), (g.r : Int), prR (g.la + 1) (fun i => .q (if i < g.la then g.A i else ((99 : Int) : Rat))), prR g.lb (fun i => .q (g.B i)), prR g.lg (fun i => .q (g.G i)), prR g.lh (fun i => .q (g.H i))⟩ : GR)) rfl d2))|((with_reducible apply st_callg);exact rfl;exact rfl;(first|exact rfl|assumption);exact rfl;exact rfl;exact rfl;first|(exact Has.gr (g := (⟨(g.k : Int), (g.n : Int), (g.r : Int), prR (g.la + 1) (fun i => .q (if i < g.la then g.A i else ((99 : Int) : Rat))), prR g.lb (fun i => .q (g.B i)), prR g.lg (fun i => .q (g.G i)), prR g.lh (fun i => .q (g.H i))⟩ : GR)) rfl d1)|(exact Has.gr (g := (⟨(g.k : Int), (g.n : Int), (g.r : Int), prR (g.la + 1) (fun i => .q (if i < g.la then g.A i else ((99 : Int) : Rat))), prR g.lb (fun i => .q (g.B i)), prR g.lg (fun i => .q (g.G i)), prR g.lh (fun i => .q (g.H i))⟩ : GR)) rfl d2)))
    exact ⟨.inr rfl, _, Imp.refl _, .one (.tmp (congrArg (fun z => some (AV.b z)) hE))⟩
  | 4, _ =>
    have ci := hs_int 98 (by decide) (by decide)
    refine run0t ?_
    refine awpt_no rfl rfl ?_
    refine run0t ?_
    refine awpt_no rfl rfl ?_
    refine run0t ?_
    refine awpt_no rfl rfl ?_
    refine run0t ?_
    refine awpt_no rfl rfl ?_
    refine run0t ?_
    refine awpt_yes rfl rfl ?_
    refine run3t ?_
    repeat(first|refine run4p ?_|((with_reducible apply st_call);exact rfl;exact rfl;exact rfl;first|(exact ci))|((with_reducible apply st_callg);exact rfl;exact rfl;(first|exact rfl|assumption);exact rfl;exact rfl;exact rfl;first|(exact ci)))
    refine q_thent ?_
    refine awpt_imp (s' := stl [(15, .ptr 15 0 0)] [(15, (1, fun _ => .ones 26 7 (updN g.ft 4 (.row false (g.lb + 1) (fun i => .q (if i < g.lb then g.B i else ((98 : Int) : Rat)))))))]) (Imp.t ((imp_pub 15 4 rfl rfl (by decide) (updN_same _ _ _) rfl rfl (by decide)).trans (imp_id ?_ ?_))) ?_
    · exact eA
    · refine allh rfl (by decide) (bleo rfl fun i hi => ?_) (fun i hi => ?_) True.intro
      · match i, hi with
        | 0, _ => exact Le.id rfl
        | 1, _ => exact Le.id rfl
        | 2, _ => exact Le.id rfl
        | 3, _ => exact Le.id rfl
        | 4, _ => exact Le.row (by omega) (fun t ht => glue_c1 ht) (fun h => by cases h)
        | 5, _ => exact Le.id rfl
        | 6, _ => exact Le.id rfl
      · unfold updN
        split
        · trivial
        · exact g.ftok _ i
    have hG : GR.Fin (⟨(g.k : Int), (g.n : Int), (g.r : Int), prR g.la (fun i => .q (g.A i)), prR (g.lb + 1) (fun i => .q (if i < g.lb then g.B i else ((98 : Int) : Rat))), prR g.lg (fun i => .q (g.G i)), prR g.lh (fun i => .q (g.H i))⟩ : GR) := ⟨fin_qs, fin_qs, fin_qs, fin_qs⟩
    have d1 := g_checkr hG
    have d2 := r5_checkr hG
    have hE : decide (chk (⟨(g.k : Int), (g.n : Int), (g.r : Int), prR g.la (fun i => .q (g.A i)), prR (g.lb + 1) (fun i => .q (if i < g.lb then g.B i else ((98 : Int) : Rat))), prR g.lg (fun i => .q (g.G i)), prR g.lh (fun i => .q (g.H i))⟩ : GR) = chk (⟨(g.k : Int), (g.n : Int), (g.r : Int), prR g.la (fun i => .q (g.A i)), prR (g.lb + 1) (fun i => .q (if i < g.lb then g.B i else ((98 : Int) : Rat))), prR g.lg (fun i => .q (g.G i)), prR g.lh (fun i => .q (g.H i))⟩ : GR)) = true := decide_eq_true rfl
    repeat(first|refine run1t ?_|((with_reducible apply st_call);exact rfl;exact rfl;exact rfl;first|(exact Has.gr (g := (⟨(g.k : Int), (g.n : Int), (g.r : Int), prR g.la (fun i => .q (g.A i)), prR (g.lb + 1) (fun i => .q (if i < g.lb then g.B i else ((98 : Int) : Rat))), prR g.lg (fun i => .q (g.G i)), prR g.lh (fun i => .q (g.H i))⟩ : GR)) rfl d1)|(exact Has.gr (g := (⟨(g.k : Int), (g.n : Int), (g.r : Int), prR g.la (fun i => .q (g.A i)), prR (g.lb + 1) (fun i => .q (if i < g.lb then g.B i else ((98 : Int) : Rat))), prR g.lg (fun i => .q (g.G i)), prR g.lh (fun i => .q (g.H i))⟩ : GR)) rfl d2))|((with_reducible apply st_callg);exact rfl;exact rfl;(first|exact rfl|assumption);exact rfl;exact rfl;exact rfl;first|(exact Has.gr (g := (⟨(g.k : Int), (g.n : Int), (g.r : Int), prR g.la (fun i => .q (g.A i)), prR (g.lb + 1) (fun i => .q (if i < g.lb then g.B i else ((98 : Int) : Rat))), prR g.lg (fun i => .q (g.G i)), prR g.lh (fun i => .q (g.H i))⟩ : GR)) rfl d1)|(exact Has.gr (g := (⟨(g.k : Int), (g.n : Int), (g.r : Int), prR g.la (fun i => .q (g.A i)), prR (g.lb + 1) (fun i => .q (if i < g.lb then g.B i else ((98 : Int) : Rat))), prR g.lg (fun i => .q (g.G i)), prR g.lh (fun i => .q (g.H i))⟩ : GR)) rfl d2)))
    exact ⟨.inr rfl, _, Imp.refl _, .one (.tmp (congrArg (fun z => some (AV.b z)) hE))⟩
  | 5, _ =>
    have ci := hs_int 97 (by decide) (by decide)
    refine run0t ?_
    refine awpt_no rfl rfl ?_
    refine run0t ?_
    refine awpt_no rfl rfl ?_
    refine run0t ?_
    refine awpt_no rfl rfl ?_
    refine run0t ?_
    refine awpt_no rfl rfl ?_
    refine run0t ?_
    refine awpt_no rfl rfl ?_
    refine run0t ?_
    refine awpt_yes rfl rfl ?_
    refine run3t ?_
    repeat(first|refine run4p ?_|((with_reducible apply st_call);exact rfl;exact rfl;exact rfl;first|(exact ci))|((with_reducible apply st_callg);exact rfl;exact rfl;(first|exact rfl|assumption);exact rfl;exact rfl;exact rfl;first|(exact ci)))
    refine q_thent ?_
    refine awpt_imp (s' := stl [(15, .ptr 15 0 0)] [(15, (1, fun _ => .ones 26 7 (updN g.ft 6 (.row false (g.lh + 1) (fun i => .q (if i < g.lh then g.H i else ((97 : Int) : Rat)))))))]) (Imp.t ((imp_pub 15 6 rfl rfl (by decide) (updN_same _ _ _) rfl rfl (by decide)).trans (imp_id ?_ ?_))) ?_
    · exact eA
    · refine allh rfl (by decide) (bleo rfl fun i hi => ?_) (fun i hi => ?_) True.intro
      · match i, hi with
        | 0, _ => exact Le.id rfl
        | 1, _ => exact Le.id rfl
        | 2, _ => exact Le.id rfl
        | 3, _ => exact Le.id rfl
        | 4, _ => exact Le.id rfl
        | 5, _ => exact Le.id rfl
        | 6, _ => exact Le.row (by omega) (fun t ht => glue_c1 ht) (fun h => by cases h)
      · unfold updN
        split
        · trivial
        · exact g.ftok _ i
    have hG : GR.Fin (⟨(g.k : Int), (g.n : Int), (g.r : Int), prR g.la (fun i => .q (g.A i)), prR g.lb (fun i => .q (g.B i)), prR g.lg (fun i => .q (g.G i)), prR (g.lh + 1) (fun i => .q (if i < g.lh then g.H i else ((97 : Int) : Rat)))⟩ : GR) := ⟨fin_qs, fin_qs, fin_qs, fin_qs⟩
    have d1 := g_checkr hG
    have d2 := r5_checkr hG
    have hE : decide (chk (⟨(g.k : Int), (g.n : Int), (g.r : Int), prR g.la (fun i => .q (g.A i)), prR g.lb (fun i => .q (g.B i)), prR g.lg (fun i => .q (g.G i)), prR (g.lh + 1) (fun i => .q (if i < g.lh then g.H i else ((97 : Int) : Rat)))⟩ : GR) = chk (⟨(g.k : Int), (g.n : Int), (g.r : Int), prR g.la (fun i => .q (g.A i)), prR g.lb (fun i => .q (g.B i)), prR g.lg (fun i => .q (g.G i)), prR (g.lh + 1) (fun i => .q (if i < g.lh then g.H i else ((97 : Int) : Rat)))⟩ : GR)) = true := decide_eq_true rfl
    repeat(first|refine run1t ?_|((with_reducible apply st_call);exact rfl;exact rfl;exact rfl;first|(exact Has.gr (g := (⟨(g.k : Int), (g.n : Int), (g.r : Int), prR g.la (fun i => .q (g.A i)), prR g.lb (fun i => .q (g.B i)), prR g.lg (fun i => .q (g.G i)), prR (g.lh + 1) (fun i => .q (if i < g.lh then g.H i else ((97 : Int) : Rat)))⟩ : GR)) rfl d1)|(exact Has.gr (g := (⟨(g.k : Int), (g.n : Int), (g.r : Int), prR g.la (fun i => .q (g.A i)), prR g.lb (fun i => .q (g.B i)), prR g.lg (fun i => .q (g.G i)), prR (g.lh + 1) (fun i => .q (if i < g.lh then g.H i else ((97 : Int) : Rat)))⟩ : GR)) rfl d2))|((with_reducible apply st_callg);exact rfl;exact rfl;(first|exact rfl|assumption);exact rfl;exact rfl;exact rfl;first|(exact Has.gr (g := (⟨(g.k : Int), (g.n : Int), (g.r : Int), prR g.la (fun i => .q (g.A i)), prR g.lb (fun i => .q (g.B i)), prR g.lg (fun i => .q (g.G i)), prR (g.lh + 1) (fun i => .q (if i < g.lh then g.H i else ((97 : Int) : Rat)))⟩ : GR)) rfl d1)|(exact Has.gr (g := (⟨(g.k : Int), (g.n : Int), (g.r : Int), prR g.la (fun i => .q (g.A i)), prR g.lb (fun i => .q (g.B i)), prR g.lg (fun i => .q (g.G i)), prR (g.lh + 1) (fun i => .q (if i < g.lh then g.H i else ((97 : Int) : Rat)))⟩ : GR)) rfl d2)))
    exact ⟨.inr rfl, _, Imp.refl _, .one (.tmp (congrArg (fun z => some (AV.b z)) hE))⟩
  | 6, _ =>
    refine run0t ?_
    refine awpt_no rfl rfl ?_
    refine run0t ?_
    refine awpt_no rfl rfl ?_
    refine run0t ?_
    refine awpt_no rfl rfl ?_
    refine run0t ?_
    refine awpt_no rfl rfl ?_
    refine run0t ?_
    refine awpt_no rfl rfl ?_
    refine run0t ?_
    refine awpt_no rfl rfl ?_
    refine run0t ?_
    refine awpt_yes rfl rfl ?_
    refine run0t ?_
    refine awpt_if rfl (fun h => ?_) (fun h => ?_)
    · skip
      refine run3t ?_
      repeat(first|refine run4p ?_)
      refine q_thent ?_
      refine awpt_imp (s' := stl [(5, .i k), (13, .ptr 13 0 0), (15, .ptr 15 0 0)] [(13, (1, fun _ => .ones 43 3 (pag s an ad))), (15, (1, fun _ => .ones 26 7 (updN g.ft 3 (.own 100 0)))), (100, (1, fun _ => .rats g.la (fun i => .q (g.A i))))]) (Imp.t (imp_id ?_ ?_)) ?_
      · exact eA
      · refine allh rfl (by decide) (bleo rfl fun _ _ => Le.id rfl) (fun i hi => pagc _ i) (allh rfl (by decide) (bleo rfl fun i hi => ?_) (fun i hi => ?_) (allh rfl (by decide) ⟨by omega, fun i hi => ?_⟩ True.intro True.intro))
        · match i, hi with
          | 0, _ => exact Le.id rfl
          | 1, _ => exact Le.id rfl
          | 2, _ => exact Le.id rfl
          | 3, _ => exact Le.id rfl
          | 4, _ => exact Le.id rfl
          | 5, _ => exact Le.id rfl
          | 6, _ => exact Le.id rfl
        · unfold updN
          split
          · rfl
          · exact g.ftok _ i
        · unfold glue
          rw [if_neg (Nat.not_lt_zero i)]; rfl
      have h : (0 : Int) < (g.la : Int) := h
      obtain ⟨v1, v2⟩ := wthn_lt (a := k) (n := (g.la : Int)) h
      have k1 := k_within5 (a := k) (n := (g.la : Int)) h (by omega)
      generalize wthn k (g.la : Int) = ka' at *
      obtain ⟨ka, rfl⟩ : ∃ t : Nat, ka' = (t : Int) := ⟨ka'.toNat, by omega⟩
      refine awpt_imp (s' := stl [(5, .i k), (13, .ptr 13 0 0), (15, .ptr 15 0 0)] [(13, (1, fun _ => .ones 43 3 (pag s an ad))), (15, (1, fun _ => .ones 26 7 (updN g.ft 3 (.sl 100 0 0 g.la)))), (100, (1, fun _ => .ones 43 (g.la * 3) (rcel fun i => .q (g.A i))))]) (Imp.t ((imp_ghost (g := 100) (g' := 15) (j := 3) rfl rfl rfl rfl (by decide) (updN_same _ _ _) (by decide) (by omega) rfl ?_ ?_ ?_ ?_).trans (imp_id ?_ ?_))) ?_
      · exact fun t x hx => stl_env (P := fun x => x.ok (noG 100)) (by exact all_cons trivial (all_cons rfl (all_cons rfl all_nil))) hx
      · exact fun q m G r h1 h2 hx hr => stl_heap (P := fun q b => q ≠ 100 → q ≠ 15 → b.ok (noG 100)) (by exact all_cons (fun r hr _ _ i _ => pagc _ i) (all_cons (fun r hr _ e => absurd rfl e) (all_cons (fun r hr e => absurd rfl e) all_nil))) hx hr h1 h2
      · intro i hi hne
        rw [updN_ne _ _ hne]
        exact g.ftok _ i
      · exact fun q m G r a b hx hr => stl_heap (P := fun q b' => b' ≠ .lims a b) (by exact all_cons (fun r hr e => by cases e) (all_cons (fun r hr e => by cases e) (all_cons (fun r hr e => by cases e) all_nil))) hx hr
      · exact eA
      · refine allh rfl (by decide) (bleo rfl fun _ _ => Le.id rfl) (fun i hi => pagc _ i) (allh rfl (by decide) (bleo rfl fun i hi => ?_) (fun i hi => ?_) (allh rfl (by decide) (bleo rfl fun _ _ => Le.id rfl) (fun i _ => rcel_ok i) True.intro))
        · match i, hi with
          | 0, _ => exact Le.id rfl
          | 1, _ => exact Le.id rfl
          | 2, _ => exact Le.id rfl
          | 3, _ => exact Le.id rfl
          | 4, _ => exact Le.id rfl
          | 5, _ => exact Le.id rfl
          | 6, _ => exact Le.id rfl
        · unfold updN
          split
          · rfl
          · exact g.ftok _ i
      let A' : PR := ⟨g.la, fun t => if t = ka then s else (RA.q (g.A t)).sgn, fun t => if t = ka then an else raN (.q (g.A t)), fun t => if t = ka then ad else raD (.q (g.A t))⟩
      have hA' : A'.Fin := ⟨fun i _ => by show LF (if i = ka then an else raN (.q (g.A i))); split; exact h1; exact limbsOf_lf _, fun i _ => by show LF (if i = ka then ad else raD (.q (g.A i))); split; exact h2; exact limbsOf_lf _⟩
      have hG : GR.Fin (⟨(g.k : Int), (g.n : Int), (g.r : Int), A', prR g.lb (fun i => .q (g.B i)), prR g.lg (fun i => .q (g.G i)), prR g.lh (fun i => .q (g.H i))⟩ : GR) := ⟨hA', fin_qs, fin_qs, fin_qs⟩
      have d1 := g_checkr hG
      have d2 := r5_checkr hG
      have hE : decide (chk (⟨(g.k : Int), (g.n : Int), (g.r : Int), A', prR g.lb (fun i => .q (g.B i)), prR g.lg (fun i => .q (g.G i)), prR g.lh (fun i => .q (g.H i))⟩ : GR) = chk (⟨(g.k : Int), (g.n : Int), (g.r : Int), A', prR g.lb (fun i => .q (g.B i)), prR g.lg (fun i => .q (g.G i)), prR g.lh (fun i => .q (g.H i))⟩ : GR)) = true := decide_eq_true rfl
      have hka : 0 + ((ka : Nat) : Int).toNat = ka := by rw [Int.toNat_natCast]; omega
      refine run3t ?_
      repeat(first|refine run4p ?_|((with_reducible apply st_call);exact rfl;exact rfl;exact rfl;first|(exact k1))|((with_reducible apply st_callg);exact rfl;exact rfl;(first|exact rfl|assumption);exact rfl;exact rfl;exact rfl;first|(exact k1)))
      refine st_lok (ok_store_cells rfl rfl rfl rfl rfl (by decide) rfl (by omega)) ?_
      refine run4p ?_
      refine q_thent ?_
      refine awpt_imp (s' := stl [(15, .ptr 15 0 0)] [(15, (1, fun _ => .ones 26 7 (updN g.ft 3 A'.v)))]) (Imp.t ((imp_pubcells (g := 100) (g' := 15) (j := 3) (sg := A'.s) (fn := A'.f) (fd := A'.g) rfl rfl rfl rfl (by decide) (updN_same _ _ _) (by decide) (by omega) ?_).trans (imp_id ?_ ?_))) ?_
      · intro i hi
        rw [hka]
        exact cn_put cn_pag (fun _ => cn_q)
      · exact eA
      · refine allh rfl (by decide) (bleo rfl fun i hi => ?_) (fun i hi => ?_) True.intro
        · match i, hi with
          | 0, _ => exact Le.id rfl
          | 1, _ => exact Le.id rfl
          | 2, _ => exact Le.id rfl
          | 3, _ => exact Le.id rfl
          | 4, _ => exact Le.id rfl
          | 5, _ => exact Le.id rfl
          | 6, _ => exact Le.id rfl
        · unfold updN
          split
          · trivial
          · exact g.ftok _ i
      repeat(first|refine run1t ?_|((with_reducible apply st_call);exact rfl;exact rfl;exact rfl;first|(exact Has.gr (g := (⟨(g.k : Int), (g.n : Int), (g.r : Int), A', prR g.lb (fun i => .q (g.B i)), prR g.lg (fun i => .q (g.G i)), prR g.lh (fun i => .q (g.H i))⟩ : GR)) rfl d1)|(exact Has.gr (g := (⟨(g.k : Int), (g.n : Int), (g.r : Int), A', prR g.lb (fun i => .q (g.B i)), prR g.lg (fun i => .q (g.G i)), prR g.lh (fun i => .q (g.H i))⟩ : GR)) rfl d2))|((with_reducible apply st_callg);exact rfl;exact rfl;(first|exact rfl|assumption);exact rfl;exact rfl;exact rfl;first|(exact Has.gr (g := (⟨(g.k : Int), (g.n : Int), (g.r : Int), A', prR g.lb (fun i => .q (g.B i)), prR g.lg (fun i => .q (g.G i)), prR g.lh (fun i => .q (g.H i))⟩ : GR)) rfl d1)|(exact Has.gr (g := (⟨(g.k : Int), (g.n : Int), (g.r : Int), A', prR g.lb (fun i => .q (g.B i)), prR g.lg (fun i => .q (g.G i)), prR g.lh (fun i => .q (g.H i))⟩ : GR)) rfl d2)))
      exact ⟨.inr rfl, _, Imp.refl _, .one (.tmp (congrArg (fun z => some (AV.b z)) hE))⟩
    · have hG : GR.Fin (⟨(g.k : Int), (g.n : Int), (g.r : Int), prR g.la (fun i => .q (g.A i)), prR g.lb (fun i => .q (g.B i)), prR g.lg (fun i => .q (g.G i)), prR g.lh (fun i => .q (g.H i))⟩ : GR) := ⟨fin_qs, fin_qs, fin_qs, fin_qs⟩
      have d1 := g_checkr hG
      have d2 := r5_checkr hG
      have hE : decide (chk (⟨(g.k : Int), (g.n : Int), (g.r : Int), prR g.la (fun i => .q (g.A i)), prR g.lb (fun i => .q (g.B i)), prR g.lg (fun i => .q (g.G i)), prR g.lh (fun i => .q (g.H i))⟩ : GR) = chk (⟨(g.k : Int), (g.n : Int), (g.r : Int), prR g.la (fun i => .q (g.A i)), prR g.lb (fun i => .q (g.B i)), prR g.lg (fun i => .q (g.G i)), prR g.lh (fun i => .q (g.H i))⟩ : GR)) = true := decide_eq_true rfl
      repeat(first|refine run1t ?_|((with_reducible apply st_call);exact rfl;exact rfl;exact rfl;first|(exact Has.gr (g := (⟨(g.k : Int), (g.n : Int), (g.r : Int), prR g.la (fun i => .q (g.A i)), prR g.lb (fun i => .q (g.B i)), prR g.lg (fun i => .q (g.G i)), prR g.lh (fun i => .q (g.H i))⟩ : GR)) rfl d1)|(exact Has.gr (g := (⟨(g.k : Int), (g.n : Int), (g.r : Int), prR g.la (fun i => .q (g.A i)), prR g.lb (fun i => .q (g.B i)), prR g.lg (fun i => .q (g.G i)), prR g.lh (fun i => .q (g.H i))⟩ : GR)) rfl d2))|((with_reducible apply st_callg);exact rfl;exact rfl;(first|exact rfl|assumption);exact rfl;exact rfl;exact rfl;first|(exact Has.gr (g := (⟨(g.k : Int), (g.n : Int), (g.r : Int), prR g.la (fun i => .q (g.A i)), prR g.lb (fun i => .q (g.B i)), prR g.lg (fun i => .q (g.G i)), prR g.lh (fun i => .q (g.H i))⟩ : GR)) rfl d1)|(exact Has.gr (g := (⟨(g.k : Int), (g.n : Int), (g.r : Int), prR g.la (fun i => .q (g.A i)), prR g.lb (fun i => .q (g.B i)), prR g.lg (fun i => .q (g.G i)), prR g.lh (fun i => .q (g.H i))⟩ : GR)) rfl d2)))
      exact ⟨.inr rfl, _, Imp.refl _, .one (.tmp (congrArg (fun z => some (AV.b z)) hE))⟩
  | 7, _ =>
    refine run0t ?_
    refine awpt_no rfl rfl ?_
    refine run0t ?_
    refine awpt_no rfl rfl ?_
    refine run0t ?_
    refine awpt_no rfl rfl ?_
    refine run0t ?_
    refine awpt_no rfl rfl ?_
    refine run0t ?_
    refine awpt_no rfl rfl ?_
    refine run0t ?_
    refine awpt_no rfl rfl ?_
    refine run0t ?_
    refine awpt_no rfl rfl ?_
    refine run0t ?_
    refine awpt_yes rfl rfl ?_
    refine run0t ?_
    refine awpt_if rfl (fun h => ?_) (fun h => ?_)
    · skip
      refine run3t ?_
      repeat(first|refine run4p ?_)
      refine q_thent ?_
      refine awpt_imp (s' := stl [(5, .i k), (15, .ptr 15 0 0)] [(15, (1, fun _ => .ones 26 7 (updN g.ft 5 (.own 120 0)))), (120, (1, fun _ => .rats g.lg (fun i => .q (g.G i))))]) (Imp.t (imp_id ?_ ?_)) ?_
      · exact eA
      · refine allh rfl (by decide) (bleo rfl fun i hi => ?_) (fun i hi => ?_) (allh rfl (by decide) ⟨by omega, fun i hi => ?_⟩ True.intro True.intro)
        · match i, hi with
          | 0, _ => exact Le.id rfl
          | 1, _ => exact Le.id rfl
          | 2, _ => exact Le.id rfl
          | 3, _ => exact Le.id rfl
          | 4, _ => exact Le.id rfl
          | 5, _ => exact Le.id rfl
          | 6, _ => exact Le.id rfl
        · unfold updN
          split
          · rfl
          · exact g.ftok _ i
        · unfold glue
          rw [if_neg (Nat.not_lt_zero i)]; rfl
      have h : (0 : Int) < (g.lg : Int) := h
      obtain ⟨v1, v2⟩ := wthn_lt (a := k) (n := (g.lg : Int)) h
      obtain ⟨v3, v4⟩ := wthn_lt (a := k.tdiv 8) (n := 3) (by decide)
      have k1 := k_within5 (a := k) (n := (g.lg : Int)) h (by omega)
      have k2 := k_within5 (a := k.tdiv 8) (n := 3) (by decide) (by decide)
      have hk' : -9223372036854775808 ≤ k ∧ k ≤ 9223372036854775807 := hkk
      have hq0 : (k.tdiv 8).natAbs = k.natAbs / 8 := Int.natAbs_tdiv k 8
      have hq1 : -9223372036854775808 ≤ k.tdiv 8 := by omega
      have hq2 : k.tdiv 8 ≤ 9223372036854775807 := by omega
      generalize wthn k (g.lg : Int) = ka' at *
      generalize wthn (k.tdiv 8) 3 = kz' at *
      obtain ⟨ka, rfl⟩ : ∃ t : Nat, ka' = (t : Int) := ⟨ka'.toNat, by omega⟩
      obtain ⟨kz, rfl⟩ : ∃ t : Nat, kz' = (t : Int) := ⟨kz'.toNat, by omega⟩
      refine awpt_imp (s' := gcS k g.lg (g.lg * 3) g.ft (rcel fun i => .q (g.G i))) (Imp.t ((imp_ghost (g := 120) (g' := 15) (j := 5) rfl rfl rfl rfl (by decide) (updN_same _ _ _) (by decide) (by omega) rfl ?_ ?_ ?_ ?_).trans (imp_id ?_ ?_))) ?_
      · exact fun t x hx => stl_env (P := fun x => x.ok (noG 120)) (by exact all_cons trivial (all_cons rfl all_nil)) hx
      · exact fun q m G r h1 h2 hx hr => stl_heap (P := fun q b => q ≠ 120 → q ≠ 15 → b.ok (noG 120)) (by exact all_cons (fun r hr _ e => absurd rfl e) (all_cons (fun r hr e => absurd rfl e) all_nil)) hx hr h1 h2
      · intro i hi hne
        rw [updN_ne _ _ hne]
        exact g.ftok _ i
      · exact fun q m G r a b hx hr => stl_heap (P := fun q b' => b' ≠ .lims a b) (by exact all_cons (fun r hr e => by cases e) (all_cons (fun r hr e => by cases e) all_nil)) hx hr
      · exact eA
      · refine allh rfl (by decide) (bleo rfl fun i hi => ?_) (fun i hi => ?_) (allh rfl (by decide) (bleo rfl fun _ _ => Le.id rfl) (fun i _ => rcel_ok i) True.intro)
        · match i, hi with
          | 0, _ => exact Le.id rfl
          | 1, _ => exact Le.id rfl
          | 2, _ => exact Le.id rfl
          | 3, _ => exact Le.id rfl
          | 4, _ => exact Le.id rfl
          | 5, _ => exact Le.id rfl
          | 6, _ => exact Le.id rfl
        · unfold updN
          split
          · rfl
          · exact g.ftok _ i
      refine gc_frame hW (q := 133) (L := 3 + kz) (ka := ka) (F := updN (fun _ => 0) (2 + kz) 1) ((List.range (3 + kz)).map (updN (fun _ => 0) (2 + kz) 1)) (by omega) rfl rfl (fun i _ _ => g.ftok _ i) (fun i _ => rcel_ok i) (by simp) (fun i hi => by rw [List.getD_eq_getElem?_getD, List.getElem?_map, List.getElem?_range hi]; rfl) (fun W' V U => ?_) ?_
      · skip
        refine run3t ?_
        repeat(first|refine run4p ?_|((with_reducible apply st_call);exact rfl;exact rfl;exact rfl;first|(exact k1)|(exact k2))|((with_reducible apply st_callg);exact rfl;exact rfl;(first|exact rfl|assumption);exact rfl;exact rfl;exact rfl;first|(exact k1)|(exact k2)))
        refine st_lok (ok_make_lim (g := 133) rfl rfl rfl rfl rfl rfl rfl (by omega) (by omega) (by omega)) ?_
        refine st_lok (ok_build_arr (E := U32) (m := 1) (n := 1) rfl celU rfl rfl (by decide) rfl rfl) ?_
        refine st_lok (ok_build_ag rfl lay_rt rfl rfl rfl) ?_
        refine run4p ?_
        have hka : 0 + ((ka : Nat) : Int).toNat = ka := by rw [Int.toNat_natCast]; omega
        have hkz : (2 + ((kz : Nat) : Int)).toNat = 2 + kz := by omega
        have hkz3 : (3 + ((kz : Nat) : Int)).toNat = 3 + kz := by omega
        refine st_lok (ok_store_cells rfl rfl rfl rfl rfl (by decide) rfl (by omega)) ?_
        refine run4p ?_
        refine q_thent ?_
        refine awpt_imp (s' := stl [(5, .i k), (15, .ptr 15 0 0)] [(15, (1, fun _ => .ones 26 7 (updN (fun i => .v (V i)) 5 (.sl 120 0 0 g.lg)))), (120, (1, fun _ => .ones 43 (g.lg * 3) (put3 (fun i => .v (U i)) ka (gcU 133)))), (133, (1, fun _ => .lims (3 + kz) (fun _ => 0))), (77, (0, fun _ => .rats 0 fun _ => ra0))]) (Imp.t (imp_id ?_ ?_)) ?_
        · exact eA
        · refine allh rfl (by decide) (bleo rfl fun i hi => Le.id rfl) (fun i hi => ?_) (allh rfl (by decide) (bleo rfl fun i hi => ?_) (fun i hi => ?_) (allh rfl (by decide) ⟨hkz3, fun _ _ => rfl⟩ rfl ⟨fun r hr => absurd hr (Nat.not_lt_zero _), True.intro⟩))
          · unfold updN
            split
            · rfl
            · trivial
          · rw [hka]
            exact Le.id rfl
          · unfold put3
            split
            · exact gcU_ok rfl _
            · trivial
        refine run3t ?_
        repeat(first|refine run4p ?_|((with_reducible apply st_call);exact rfl;exact rfl;exact rfl;first|(exact k1)|(exact k2))|((with_reducible apply st_callg);exact rfl;exact rfl;(first|exact rfl|assumption);exact rfl;exact rfl;exact rfl;first|(exact k1)|(exact k2)))
        refine st_lok (ok_load_cellz (z := .own 133 0) rfl (by decide) rfl rfl (by decide) rfl (by omega) (by rw [hka]; unfold put3; rw [if_pos (by omega), show ka * 3 + 1 - ka * 3 = 1 by omega]; rfl)) ?_
        refine run4p ?_
        refine st_call rfl rfl rfl k2 ?_
        refine run4p ?_
        refine st_lok (ok_index_lim rfl rfl rfl (by decide) rfl rfl (by omega) (by omega)) ?_
        refine .suf rfl ⟨rfl, _, xok_imp (imp_id (e := [(15, .ptr 15 0 0), (151, .ptr 133 0 (2 + ((kz : Nat) : Int)).toNat)]) (h := [(15, (1, fun _ => .ones 26 7 (updN (fun i => .v (V i)) 5 (.sl 120 0 0 g.lg)))), (120, (1, fun _ => .ones 43 (g.lg * 3) (put3 (fun i => .v (U i)) ka (gcU 133)))), (133, (1, fun _ => .lims (3 + kz) (fun _ => 0))), (77, (0, fun _ => .rats 0 fun _ => ra0))]) ?_ ?_) (xok_store_lim (z := 1) rfl rfl rfl (by omega) rfl rfl), rfl⟩ ?_
        · exact eA
        · refine allh rfl (by decide) (bleo rfl fun i hi => Le.id rfl) (fun i hi => ?_) (allh rfl (by decide) (bleo rfl fun i hi => Le.id rfl) (fun i hi => ?_) (allh rfl (by decide) ⟨rfl, fun _ _ => rfl⟩ rfl ⟨fun r hr => absurd hr (Nat.not_lt_zero _), True.intro⟩))
          · unfold updN
            split
            · rfl
            · trivial
          · unfold put3
            split
            · exact gcU_ok rfl _
            · trivial
        · rw [hkz]
          exact ⟨.inr rfl, rfl, (Imp.refl _).t⟩
      · let G' : PR := ⟨g.lg, fun t => if t = ka then false else (RA.q (g.G t)).sgn, fun t => if t = ka then (List.range (3 + kz)).map (updN (fun _ => 0) (2 + kz) 1) else raN (.q (g.G t)), fun t => if t = ka then [1] else raD (.q (g.G t))⟩
        have hl0 : LF ((List.range (3 + kz)).map (updN (fun _ => 0) (2 + kz) 1)) := fun x hx => by
          obtain ⟨t, _, rfl⟩ := List.mem_map.1 hx
          unfold updN
          split
          · show 1 < B; decide
          · show 0 < B; decide
        have hl1 : LF [1] := fun x hx => by
          obtain rfl := List.mem_singleton.1 hx
          show 1 < B; decide
        have hG' : G'.Fin := ⟨fun i _ => by show LF (if i = ka then _ else raN (.q (g.G i))); split; exact hl0; exact limbsOf_lf _, fun i _ => by show LF (if i = ka then [1] else raD (.q (g.G i))); split; exact hl1; exact limbsOf_lf _⟩
        have hG : GR.Fin (⟨(g.k : Int), (g.n : Int), (g.r : Int), prR g.la (fun i => .q (g.A i)), prR g.lb (fun i => .q (g.B i)), G', prR g.lh (fun i => .q (g.H i))⟩ : GR) := ⟨fin_qs, fin_qs, hG', fin_qs⟩
        have d1 := g_checkr hG
        have d2 := r5_checkr hG
        have hE : decide (chk (⟨(g.k : Int), (g.n : Int), (g.r : Int), prR g.la (fun i => .q (g.A i)), prR g.lb (fun i => .q (g.B i)), G', prR g.lh (fun i => .q (g.H i))⟩ : GR) = chk (⟨(g.k : Int), (g.n : Int), (g.r : Int), prR g.la (fun i => .q (g.A i)), prR g.lb (fun i => .q (g.B i)), G', prR g.lh (fun i => .q (g.H i))⟩ : GR)) = true := decide_eq_true rfl
        refine q_block ?_
        refine q_thent ?_
        refine awpt_imp (s' := stl [(15, .ptr 15 0 0)] [(15, (1, fun _ => .ones 26 7 (updN g.ft 5 G'.v)))]) (Imp.t ((imp_pubcells (g := 120) (g' := 15) (j := 5) (sg := G'.s) (fn := G'.f) (fd := G'.g) rfl rfl rfl rfl (by decide) (updN_same _ _ _) (by decide) (by omega) ?_).trans (imp_id ?_ ?_))) ?_
        · intro i hi
          exact cn_put cn_pag (fun _ => cn_q)
        · exact eA
        · refine allh rfl (by decide) (bleo rfl fun i hi => ?_) (fun i hi => ?_) True.intro
          · match i, hi with
            | 0, _ => exact Le.id rfl
            | 1, _ => exact Le.id rfl
            | 2, _ => exact Le.id rfl
            | 3, _ => exact Le.id rfl
            | 4, _ => exact Le.id rfl
            | 5, _ => exact Le.id rfl
            | 6, _ => exact Le.id rfl
          · unfold updN
            split
            · trivial
            · exact g.ftok _ i
        repeat(first|refine run1t ?_|((with_reducible apply st_call);exact rfl;exact rfl;exact rfl;first|(exact Has.gr (g := (⟨(g.k : Int), (g.n : Int), (g.r : Int), prR g.la (fun i => .q (g.A i)), prR g.lb (fun i => .q (g.B i)), G', prR g.lh (fun i => .q (g.H i))⟩ : GR)) rfl d1)|(exact Has.gr (g := (⟨(g.k : Int), (g.n : Int), (g.r : Int), prR g.la (fun i => .q (g.A i)), prR g.lb (fun i => .q (g.B i)), G', prR g.lh (fun i => .q (g.H i))⟩ : GR)) rfl d2))|((with_reducible apply st_callg);exact rfl;exact rfl;(first|exact rfl|assumption);exact rfl;exact rfl;exact rfl;first|(exact Has.gr (g := (⟨(g.k : Int), (g.n : Int), (g.r : Int), prR g.la (fun i => .q (g.A i)), prR g.lb (fun i => .q (g.B i)), G', prR g.lh (fun i => .q (g.H i))⟩ : GR)) rfl d1)|(exact Has.gr (g := (⟨(g.k : Int), (g.n : Int), (g.r : Int), prR g.la (fun i => .q (g.A i)), prR g.lb (fun i => .q (g.B i)), G', prR g.lh (fun i => .q (g.H i))⟩ : GR)) rfl d2)))
        exact ⟨.inr rfl, _, Imp.refl _, .one (.tmp (congrArg (fun z => some (AV.b z)) hE))⟩
    · have hG : GR.Fin (⟨(g.k : Int), (g.n : Int), (g.r : Int), prR g.la (fun i => .q (g.A i)), prR g.lb (fun i => .q (g.B i)), prR g.lg (fun i => .q (g.G i)), prR g.lh (fun i => .q (g.H i))⟩ : GR) := ⟨fin_qs, fin_qs, fin_qs, fin_qs⟩
      have d1 := g_checkr hG
      have d2 := r5_checkr hG
      have hE : decide (chk (⟨(g.k : Int), (g.n : Int), (g.r : Int), prR g.la (fun i => .q (g.A i)), prR g.lb (fun i => .q (g.B i)), prR g.lg (fun i => .q (g.G i)), prR g.lh (fun i => .q (g.H i))⟩ : GR) = chk (⟨(g.k : Int), (g.n : Int), (g.r : Int), prR g.la (fun i => .q (g.A i)), prR g.lb (fun i => .q (g.B i)), prR g.lg (fun i => .q (g.G i)), prR g.lh (fun i => .q (g.H i))⟩ : GR)) = true := decide_eq_true rfl
      repeat(first|refine run1t ?_|((with_reducible apply st_call);exact rfl;exact rfl;exact rfl;first|(exact Has.gr (g := (⟨(g.k : Int), (g.n : Int), (g.r : Int), prR g.la (fun i => .q (g.A i)), prR g.lb (fun i => .q (g.B i)), prR g.lg (fun i => .q (g.G i)), prR g.lh (fun i => .q (g.H i))⟩ : GR)) rfl d1)|(exact Has.gr (g := (⟨(g.k : Int), (g.n : Int), (g.r : Int), prR g.la (fun i => .q (g.A i)), prR g.lb (fun i => .q (g.B i)), prR g.lg (fun i => .q (g.G i)), prR g.lh (fun i => .q (g.H i))⟩ : GR)) rfl d2))|((with_reducible apply st_callg);exact rfl;exact rfl;(first|exact rfl|assumption);exact rfl;exact rfl;exact rfl;first|(exact Has.gr (g := (⟨(g.k : Int), (g.n : Int), (g.r : Int), prR g.la (fun i => .q (g.A i)), prR g.lb (fun i => .q (g.B i)), prR g.lg (fun i => .q (g.G i)), prR g.lh (fun i => .q (g.H i))⟩ : GR)) rfl d1)|(exact Has.gr (g := (⟨(g.k : Int), (g.n : Int), (g.r : Int), prR g.la (fun i => .q (g.A i)), prR g.lb (fun i => .q (g.B i)), prR g.lg (fun i => .q (g.G i)), prR g.lh (fun i => .q (g.H i))⟩ : GR)) rfl d2)))
      exact ⟨.inr rfl, _, Imp.refl _, .one (.tmp (congrArg (fun z => some (AV.b z)) hE))⟩
  | 8, _ =>
    refine run0t ?_
    refine awpt_no rfl rfl ?_
    refine run0t ?_
    refine awpt_no rfl rfl ?_
    refine run0t ?_
    refine awpt_no rfl rfl ?_
    refine run0t ?_
    refine awpt_no rfl rfl ?_
    refine run0t ?_
    refine awpt_no rfl rfl ?_
    refine run0t ?_
    refine awpt_no rfl rfl ?_
    refine run0t ?_
    refine awpt_no rfl rfl ?_
    refine run0t ?_
    refine awpt_no rfl rfl ?_
    refine run0t ?_
    refine awpt_yes rfl rfl ?_
    refine run0t ?_
    refine awpt_if rfl (fun h => ?_) (fun h => ?_)
    · skip
      refine run3t ?_
      repeat(first|refine run4p ?_)
      refine q_thent ?_
      refine awpt_imp (s' := stl [(5, .i k), (15, .ptr 15 0 0)] [(15, (1, fun _ => .ones 26 7 (updN g.ft 4 (.own 161 0)))), (161, (1, fun _ => .rats g.lb (fun i => .q (g.B i))))]) (Imp.t (imp_id ?_ ?_)) ?_
      · exact eA
      · refine allh rfl (by decide) (bleo rfl fun i hi => ?_) (fun i hi => ?_) (allh rfl (by decide) ⟨by omega, fun i hi => ?_⟩ True.intro True.intro)
        · match i, hi with
          | 0, _ => exact Le.id rfl
          | 1, _ => exact Le.id rfl
          | 2, _ => exact Le.id rfl
          | 3, _ => exact Le.id rfl
          | 4, _ => exact Le.id rfl
          | 5, _ => exact Le.id rfl
          | 6, _ => exact Le.id rfl
        · unfold updN
          split
          · rfl
          · exact g.ftok _ i
        · unfold glue
          rw [if_neg (Nat.not_lt_zero i)]; rfl
      have h : (0 : Int) < (g.lb : Int) := h
      have hla : 0 < g.la := lb_la o (by omega)
      obtain ⟨v1, v2⟩ := wthn_lt (a := k) (n := (g.lb : Int)) h
      obtain ⟨v3, v4⟩ := wthn_lt (a := k.tdiv 8) (n := (g.la : Int)) (by omega)
      have k1 := k_within5 (a := k) (n := (g.lb : Int)) h (by omega)
      have k2 := k_within5 (a := k.tdiv 8) (n := (g.la : Int)) (by omega) (by omega)
      have hk' : -9223372036854775808 ≤ k ∧ k ≤ 9223372036854775807 := hkk
      have hq0 : (k.tdiv 8).natAbs = k.natAbs / 8 := Int.natAbs_tdiv k 8
      have hq1 : -9223372036854775808 ≤ k.tdiv 8 := by omega
      have hq2 : k.tdiv 8 ≤ 9223372036854775807 := by omega
      generalize wthn k (g.lb : Int) = kb' at *
      generalize wthn (k.tdiv 8) (g.la : Int) = ka' at *
      obtain ⟨kb, rfl⟩ : ∃ t : Nat, kb' = (t : Int) := ⟨kb'.toNat, by omega⟩
      obtain ⟨ka, rfl⟩ : ∃ t : Nat, ka' = (t : Int) := ⟨ka'.toNat, by omega⟩
      have k3 := k_copy (p := g.A ka) (by have := o.sm.A ka (by omega); omega)
      have hE : decide (chk (⟨(g.k : Int), (g.n : Int), (g.r : Int), prR g.la (fun i => .q (g.A i)), prR g.lb (fun i => .q (if i = kb then g.A ka else g.B i)), prR g.lg (fun i => .q (g.G i)), prR g.lh (fun i => .q (g.H i))⟩ : GR) = chk (⟨(g.k : Int), (g.n : Int), (g.r : Int), prR g.la (fun i => .q (g.A i)), prR g.lb (fun i => .q (if i = kb then g.A ka else g.B i)), prR g.lg (fun i => .q (g.G i)), prR g.lh (fun i => .q (g.H i))⟩ : GR)) = true := decide_eq_true rfl
      have hG : GR.Fin (⟨(g.k : Int), (g.n : Int), (g.r : Int), prR g.la (fun i => .q (g.A i)), prR g.lb (fun i => .q (if i = kb then g.A ka else g.B i)), prR g.lg (fun i => .q (g.G i)), prR g.lh (fun i => .q (g.H i))⟩ : GR) := ⟨fin_qs, fin_qs, fin_qs, fin_qs⟩
      have d1 := g_checkr hG
      have d2 := r5_checkr hG
      refine run3t ?_
      repeat(first|refine run4p ?_|((with_reducible apply st_call);exact rfl;exact rfl;exact rfl;first|(exact k1)|(exact k2)|(exact k3))|((with_reducible apply st_callg);exact rfl;exact rfl;(first|exact rfl|assumption);exact rfl;exact rfl;exact rfl;first|(exact k1)|(exact k2)|(exact k3)))
      refine q_thent ?_
      refine awpt_imp (s' := stl [(15, .ptr 15 0 0)] [(15, (1, fun _ => .ones 26 7 (updN g.ft 4 (.row false g.lb (fun i => .q (if i = kb then g.A ka else g.B i))))))]) (Imp.t ((imp_pub 15 4 rfl rfl (by decide) (updN_same _ _ _) rfl rfl (by decide)).trans (imp_id ?_ ?_))) ?_
      · exact eA
      · refine allh rfl (by decide) (bleo rfl fun i hi => ?_) (fun i hi => ?_) True.intro
        · match i, hi with
          | 0, _ => exact Le.id rfl
          | 1, _ => exact Le.id rfl
          | 2, _ => exact Le.id rfl
          | 3, _ => exact Le.id rfl
          | 4, _ => exact Le.row (by omega) (fun t ht => by
              unfold updN
              rw [Int.toNat_natCast]
              split <;> rfl) (fun h => by cases h)
          | 5, _ => exact Le.id rfl
          | 6, _ => exact Le.id rfl
        · unfold updN
          split
          · trivial
          · exact g.ftok _ i
      repeat(first|refine run1t ?_|((with_reducible apply st_call);exact rfl;exact rfl;exact rfl;first|(exact Has.gr (g := (⟨(g.k : Int), (g.n : Int), (g.r : Int), prR g.la (fun i => .q (g.A i)), prR g.lb (fun i => .q (if i = kb then g.A ka else g.B i)), prR g.lg (fun i => .q (g.G i)), prR g.lh (fun i => .q (g.H i))⟩ : GR)) rfl d1)|(exact Has.gr (g := (⟨(g.k : Int), (g.n : Int), (g.r : Int), prR g.la (fun i => .q (g.A i)), prR g.lb (fun i => .q (if i = kb then g.A ka else g.B i)), prR g.lg (fun i => .q (g.G i)), prR g.lh (fun i => .q (g.H i))⟩ : GR)) rfl d2))|((with_reducible apply st_callg);exact rfl;exact rfl;(first|exact rfl|assumption);exact rfl;exact rfl;exact rfl;first|(exact Has.gr (g := (⟨(g.k : Int), (g.n : Int), (g.r : Int), prR g.la (fun i => .q (g.A i)), prR g.lb (fun i => .q (if i = kb then g.A ka else g.B i)), prR g.lg (fun i => .q (g.G i)), prR g.lh (fun i => .q (g.H i))⟩ : GR)) rfl d1)|(exact Has.gr (g := (⟨(g.k : Int), (g.n : Int), (g.r : Int), prR g.la (fun i => .q (g.A i)), prR g.lb (fun i => .q (if i = kb then g.A ka else g.B i)), prR g.lg (fun i => .q (g.G i)), prR g.lh (fun i => .q (g.H i))⟩ : GR)) rfl d2)))
      exact ⟨.inr rfl, _, Imp.refl _, .one (.tmp (congrArg (fun z => some (AV.b z)) hE))⟩
    · have hG : GR.Fin (⟨(g.k : Int), (g.n : Int), (g.r : Int), prR g.la (fun i => .q (g.A i)), prR g.lb (fun i => .q (g.B i)), prR g.lg (fun i => .q (g.G i)), prR g.lh (fun i => .q (g.H i))⟩ : GR) := ⟨fin_qs, fin_qs, fin_qs, fin_qs⟩
      have d1 := g_checkr hG
      have d2 := r5_checkr hG
      have hE : decide (chk (⟨(g.k : Int), (g.n : Int), (g.r : Int), prR g.la (fun i => .q (g.A i)), prR g.lb (fun i => .q (g.B i)), prR g.lg (fun i => .q (g.G i)), prR g.lh (fun i => .q (g.H i))⟩ : GR) = chk (⟨(g.k : Int), (g.n : Int), (g.r : Int), prR g.la (fun i => .q (g.A i)), prR g.lb (fun i => .q (g.B i)), prR g.lg (fun i => .q (g.G i)), prR g.lh (fun i => .q (g.H i))⟩ : GR)) = true := decide_eq_true rfl
      repeat(first|refine run1t ?_|((with_reducible apply st_call);exact rfl;exact rfl;exact rfl;first|(exact Has.gr (g := (⟨(g.k : Int), (g.n : Int), (g.r : Int), prR g.la (fun i => .q (g.A i)), prR g.lb (fun i => .q (g.B i)), prR g.lg (fun i => .q (g.G i)), prR g.lh (fun i => .q (g.H i))⟩ : GR)) rfl d1)|(exact Has.gr (g := (⟨(g.k : Int), (g.n : Int), (g.r : Int), prR g.la (fun i => .q (g.A i)), prR g.lb (fun i => .q (g.B i)), prR g.lg (fun i => .q (g.G i)), prR g.lh (fun i => .q (g.H i))⟩ : GR)) rfl d2))|((with_reducible apply st_callg);exact rfl;exact rfl;(first|exact rfl|assumption);exact rfl;exact rfl;exact rfl;first|(exact Has.gr (g := (⟨(g.k : Int), (g.n : Int), (g.r : Int), prR g.la (fun i => .q (g.A i)), prR g.lb (fun i => .q (g.B i)), prR g.lg (fun i => .q (g.G i)), prR g.lh (fun i => .q (g.H i))⟩ : GR)) rfl d1)|(exact Has.gr (g := (⟨(g.k : Int), (g.n : Int), (g.r : Int), prR g.la (fun i => .q (g.A i)), prR g.lb (fun i => .q (g.B i)), prR g.lg (fun i => .q (g.G i)), prR g.lh (fun i => .q (g.H i))⟩ : GR)) rfl d2)))
      exact ⟨.inr rfl, _, Imp.refl _, .one (.tmp (congrArg (fun z => some (AV.b z)) hE))⟩
end Go.Proofs.Ytpclkgjhfhhddaa.AM

/- Joined texts, 13: DnG AmY PElim DnH DnI LawA LawB LawC. -/
import Derived.Test.YtjmpanhacfjcaaaJ12
set_option linter.unusedVariables false
set_option linter.unusedSimpArgs false
/- Dense matrices: walks: rows on which steps are done. -/
namespace Go.Proofs.Ytjmpanhacfjcaaa.AM
open Go Go.RowKit Go.Proofs.Ytjmpanhacfjcaaa.PN Go.Proofs.Ytjmpanhacfjcaaa.V
open Go.Proofs.Ytjmpanhacfjcaaa.LA (S S_succ S_zero S_congr)
set_option linter.unusedVariables false
set_option linter.unusedSimpArgs false
set_option maxRecDepth 4000
set_option maxHeartbeats 2000000
theorem HasH.arg2 {P : Program} {f : FuncId} {h h' : List (Nat × Fam)} {a x x' r : AV} (H : HasH P f h [a, x'] r h') (hx : ∀ S B β w v, RV S B β w x v → RV S B β w x' v) (hok : x'.ok (fun _ => false)) : HasH P f h [a, x] r h' := by
  refine ⟨H.b, fun W β w vs hl hF hs => H.run W β w vs hl hF ⟨hs.kept, hs.nodef, hs.size, fun t y hy => ?_, hs.heap, hs.live, hs.inj, hs.fix, hs.pin, hs.fixd, hs.keep⟩⟩
  match t, hy with
  | 0, hy => exact hs.env 0 y hy
  | 1, hy => cases hy; exact ⟨ok_none hok, hx _ _ _ _ _ (hs.env 1 x rfl).2⟩
/-- Rows with something beside each. -/
def aug (n : Nat) (F G : Nat → Nat → Rat) : Nat → Nat → Rat := fun i j => if j < n then F i j else G i (j - n)
/-- The variable, before it bears rows. -/
def wk0 (y : AV) : Nat → AV := fun i => match i with
  | 0 => y
  | 1 => .rs (.q 1)
  | 2 => .rn (.q 1)
  | _ => .rd (.q 1)
theorem wk0_ok {U : Nat → Bool} {y : AV} (hy : y.ok U) : ∀ i, (wk0 y i).ok U := fun i => by
  match i with
  | 0 => exact hy
  | 1 => trivial
  | 2 => trivial
  | _ + 3 => trivial
def offs (m k : Nat) (A : Nat → Nat → Rat) : List (Nat × Fam) := match k with
  | 0 => [(10, (1, fun _ => .ones 81 4 (wk0 (.v (.slice none 0 0)))))]
  | k + 1 => [(10, (1, fun _ => .ones 81 4 (wk0 (.own 11 0)))), (11, (1, fun _ => .ones WT (k + 1) (fun i => .own 12 i))), (12, (k + 1, fun r => .rats m (fun j => .q (A r j))))]
def sg (k : Nat) : Ren := fun g r => if g = 12 then (if r < k then (12, r) else (32, r - k)) else if g = 11 then (34, r) else (g, r)
theorem sg_inj (k : Nat) (g r g' r' : Nat) (hg : memN g [10, 11, 12] = true) (hg' : memN g' [10, 11, 12] = true) (e : sg k g r = sg k g' r') : g = g' ∧ r = r' := by
  have m1 := memN_spec hg
  have m2 := memN_spec hg'
  simp only [List.mem_cons, List.not_mem_nil, or_false] at m1 m2
  unfold sg at e
  rcases m1 with rfl | rfl | rfl <;> rcases m2 with rfl | rfl | rfl <;> simp at e ⊢
  · exact e
  · split at e <;> simp at e
  · exact e
  · split at e <;> simp at e
  · split at e <;> simp at e
  · split at e <;> simp at e
  · split at e <;> split at e <;> simp at e <;> omega
theorem of_close {s : St} {e : List (Nat × AV)} {k m : Nat} {A : Nat → Nat → Rat} {F0 F1 F2 F3 : Nat → Blk} {f0 f1 : Nat → AV} (h10 : s.heap 10 = some (1, F0)) (e10 : F0 0 = .ones 81 4 f0) (g10 : ∀ i, i < 4 → f0 i = wk0 (.own 34 0) i)
    (h34 : s.heap 34 = some (1, F1)) (e34 : F1 0 = .ones WT (k + 1) f1) (g34 : ∀ i, i < k → f1 i = .own 12 i) (g34' : f1 k = .own 32 0) (h12 : 0 < k → s.heap 12 = some (k, F2)) (g12 : ∀ r, r < k → BLe (sg k) (F2 r) (.rats m fun j => .q (A r j)))
    (h32 : s.heap 32 = some (1, F3)) (g32 : BLe (sg k) (F3 0) (.rats m fun j => .q (A k j))) (h60 : s.used 60 = false) (he : AllE s (sg k) (fun g => memN g [10, 11, 12]) e) : Imp s (stl e (offs m (k + 1) A)) := by
  refine imp_stl (h := offs m (k + 1) A) (sg k) (fun h => by rw [h60] at h; cases h) (fun g r g' r' h1 h2 => sg_inj k g r g' r' h1 h2) he ⟨fun r hr => ?_, fun r hr => ?_, fun r hr => ?_, trivial⟩ (by rw [h60]; rfl)
  · obtain rfl : r = 0 := by omega
    refine ⟨1, F0, h10, Nat.zero_lt_one, ?_, fun i hi => wk0_ok (U := fun g => memN g [10, 11, 12]) (y := .own 11 0) rfl i⟩
    show BLe (sg k) (F0 0) _
    rw [e10]
    refine bleo rfl fun i hi => ?_
    rw [g10 i hi]
    match i, hi with
    | 0, _ => exact Le.own rfl
    | 1, _ => exact Le.same trivial
    | 2, _ => exact Le.same trivial
    | 3, _ => exact Le.same trivial
  · obtain rfl : r = 0 := by omega
    refine ⟨1, F1, h34, Nat.zero_lt_one, ?_, fun i hi => rfl⟩
    show BLe (sg k) (F1 0) _
    rw [e34]
    refine bleo rfl fun i hi => ?_
    by_cases e : i < k
    · rw [g34 i e]; exact Le.own (by unfold sg; rw [if_pos rfl, if_pos e])
    · obtain rfl : i = k := by omega
      rw [g34']; exact Le.own (by unfold sg; rw [if_pos rfl, if_neg e, Nat.sub_self])
  · by_cases e : r < k
    · have e1 : sg k 12 r = (12, r) := by unfold sg; rw [if_pos rfl, if_pos e]
      rw [e1]
      exact ⟨k, F2, h12 (by omega), e, g12 r e, trivial⟩
    · obtain rfl : r = k := by omega
      have e1 : sg r 12 r = (32, 0) := by unfold sg; rw [if_pos rfl, if_neg e, Nat.sub_self]
      rw [e1]
      exact ⟨1, F3, h32, by decide, g32, trivial⟩
def sf : Ren := fun g r => if g = 60 then (10, r) else if g = 61 then (11, r) else if g = 62 then (12, r) else (g, r)
theorem sf_inj (g r g' r' : Nat) (hg : memN g [60, 61, 62] = true) (hg' : memN g' [60, 61, 62] = true) (e : sf g r = sf g' r') : g = g' ∧ r = r' := by
  have m1 := memN_spec hg
  have m2 := memN_spec hg'
  simp only [List.mem_cons, List.not_mem_nil, or_false] at m1 m2
  unfold sf at e
  rcases m1 with rfl | rfl | rfl <;> rcases m2 with rfl | rfl | rfl <;> simp at e ⊢
  · exact e
  · exact e
  · exact e
theorem of_end {s : St} {e : List (Nat × AV)} {k m : Nat} {A : Nat → Nat → Rat} (h10 : s.heap 10 = some (1, fun _ => .ones 81 4 (wk0 (.own 11 0)))) (h11 : s.heap 11 = some (1, fun _ => .ones WT (k + 1) (fun i => .own 12 i))) (h12 : s.heap 12 = some (k + 1, fun r => .rats m (fun j => .q (A r j)))) (h60 : s.used 60 = false)
    (he : AllE s sf (fun g => memN g [60, 61, 62]) e) : Imp s (stl e (WH (k + 1) m 1 (fun i => i) A)) := by
  refine imp_stl (h := WH (k + 1) m 1 (fun i => i) A) sf (fun h => by rw [h60] at h; cases h) sf_inj he ⟨fun r hr => ?_, fun r hr => ?_, fun r hr => ?_, trivial⟩ (by rw [h60]; rfl)
  · obtain rfl : r = 0 := by omega
    refine ⟨1, _, h10, Nat.zero_lt_one, bleo rfl fun i hi => ?_, fun i hi => wk_ok rfl 1 i⟩
    match i, hi with
    | 0, _ => exact Le.own rfl
    | 1, _ => exact Le.same trivial
    | 2, _ => exact Le.same trivial
    | 3, _ => exact Le.same trivial
  · obtain rfl : r = 0 := by omega
    exact ⟨1, _, h11, Nat.zero_lt_one, bleo rfl fun i hi => Le.own rfl, fun i hi => rfl⟩
  · exact ⟨k + 1, _, h12, hr, blen rfl fun j hj => rfl, trivial⟩
theorem d_of {n e mm : Nat} {g : FuncId} {c : Nat → AV} {F G : Nat → Nat → Rat} (hn : n ≤ 8) (h0 : 0 < n) (he : e ≤ 1) (hc : (AV.clo g mm c).closed = true) (H : ∀ i, i < n → Has Try.prog g (([AV.i i] ++ (List.range mm).map c).map AV.old) (.row false e (fun j => .q (G i j)))) :
    HasH Try.prog 53 [] [.mat false n (fun _ => n) (fun i j => .q (F i j)), .clo g mm c] (.ptr 60 0 0) (WH n (n + e) 1 (fun i => i) (aug n F G)) := by
  refine hasH_of Try.func53 (by kernel_rfl) rfl Try.ntmps53 Try.results53 rfl rfl rfl ?_
  repeat(first|refine run1 ?_|((with_reducible apply st_call);exact rfl;exact rfl;exact rfl;first|(exact d_one))|((with_reducible apply st_callg);exact rfl;exact rfl;(first|exact rfl|assumption);exact rfl;exact rfl;exact rfl;first|(exact d_one)))
  have hcl := closed_ok hc
  refine awp_loop (fun m' s => ∃ k, k ≤ n ∧ m' = n - k ∧ s = stl [(0, .mat false n (fun _ => n) (fun i j => .q (F i j))), (1, .clo g mm c), (5, .ptr 10 0 0), (11, .mat false n (fun _ => n) (fun i j => .q (F i j))), (12, .i n), (13, .i (k : Int))] (offs (n + e) k (aug n F G))) n _ (imp_id ?_ ?_) ⟨0, Nat.zero_le _, rfl, rfl⟩ ?_
  · refine alle rfl (Le.id rfl) True.intro (alle rfl (Le.id rfl) (ok_none hcl) ?_)
    exact eA
  · refine allh rfl (by decide) (bleo rfl fun i hi => Le.id ?_) (fun i hi => wk0_ok (y := .v (.slice none 0 0)) True.intro i) True.intro
    match i, hi with
    | 0, _ => rfl
    | 1, _ => rfl
    | 2, _ => rfl
    | 3, _ => rfl
  · rintro m' s ⟨k, hk, rfl, rfl⟩
    have hsz : 0 + n + e = n + e := by omega
    have hrow : ∀ k, BLe (sg k) (.rats (0 + n + e) (glue (0 + n) (glue 0 (fun _ => ra0) (fun j => .q (F k j))) (fun j => .q (G k j)))) (.rats (n + e) fun j => .q (aug n F G k j)) := fun k => blen hsz fun j hj => by
      unfold glue aug
      rw [Nat.zero_add, if_neg (Nat.not_lt_zero _), Nat.sub_zero]
      split <;> rfl
    rcases k with _ | k
    · refine run0 ?_
      refine awp_if rfl (fun h => ?_) (fun h => absurd (show ((0 : Nat) : Int) < n by omega) h)
      have H0 := H 0 h0
      repeat(first|refine run1 ?_|((with_reducible apply st_call);exact rfl;exact rfl;exact rfl;first|(exact H0))|((with_reducible apply st_callg);exact rfl;exact rfl;(first|exact rfl|assumption);exact rfl;exact rfl;exact rfl;first|(exact H0)))
      refine q_loop ?_ (of_close (F2 := fun _ => .rats 0 fun _ => ra0) rfl rfl ?_ rfl rfl (fun i hi => absurd hi (Nat.not_lt_zero _)) rfl (fun h => absurd h (Nat.lt_irrefl _)) (fun r hr => absurd hr (Nat.not_lt_zero _)) rfl (hrow 0) rfl ?_) ⟨0 + 1, ?_, rfl, rfl⟩
      · omega
      · intro i hi
        match i, hi with
        | 0, _ => rfl
        | 1, _ => rfl
        | 2, _ => rfl
        | 3, _ => rfl
      · refine alle rfl (Le.eq rfl rfl) True.intro (alle rfl (Le.same hcl) (ok_none hcl) (alle rfl (Le.ptr rfl) rfl (alle rfl (Le.eq rfl rfl) True.intro (alle rfl (Le.eq rfl rfl) True.intro (alle rfl (Le.eq rfl rfl) True.intro True.intro)))))
      · omega
    · refine run0 ?_
      refine awp_if rfl (fun h => ?_) (fun h => ?_)
      · have h : k + 1 < n := by omega
        have H1 := H (k + 1) h
        repeat(first|refine run1 ?_|((with_reducible apply st_call);exact rfl;exact rfl;exact rfl;first|(exact H1))|((with_reducible apply st_callg);exact rfl;exact rfl;(first|exact rfl|assumption);exact rfl;exact rfl;exact rfl;first|(exact H1)))
        refine q_loop ?_ (of_close (k := k + 1) rfl rfl ?_ rfl rfl ?_ ?_ (fun _ => rfl) ?_ rfl (hrow (k + 1)) rfl ?_) ⟨k + 1 + 1, ?_, rfl, rfl⟩
        · omega
        · intro i hi
          match i, hi with
          | 0, _ => rfl
          | 1, _ => rfl
          | 2, _ => rfl
          | 3, _ => rfl
        · intro i hi
          exact if_pos hi
        · show (if _ then _ else _) = _
          rw [if_neg (Nat.lt_irrefl _), Nat.sub_self]; rfl
        · intro r hr
          exact blen rfl fun j hj => rfl
        · refine alle rfl (Le.eq rfl rfl) True.intro (alle rfl (Le.same hcl) (ok_none hcl) (alle rfl (Le.ptr rfl) rfl (alle rfl (Le.eq rfl rfl) True.intro (alle rfl (Le.eq rfl rfl) True.intro (alle rfl (Le.eq rfl rfl) True.intro True.intro)))))
        · omega
      · obtain rfl : k + 1 = n := by omega
        refine run0 ?_
        refine ⟨.inr rfl, [(4, .ptr 60 0 0)], of_end (k := k) rfl rfl rfl rfl (alle rfl (Le.ptr rfl) rfl True.intro), .one (.tmp rfl)⟩
end Go.Proofs.Ytjmpanhacfjcaaa.AM
/- Rows that are gathered, all of them own: in whatever slot. -/
namespace Go.Proofs.Ytjmpanhacfjcaaa.AM
open Go Go.RowKit Go.Proofs.Ytjmpanhacfjcaaa.PN Go.Proofs.Ytjmpanhacfjcaaa.V
set_option linter.unusedVariables false
set_option linter.unusedSimpArgs false
/-- k rows of m numbers, gathered in slot t: family t bears them, family g is them. -/
def famT (t g : Nat) (e : List (Nat × AV)) (l : List (Nat × Fam)) (m : Nat) (A : Nat → Nat → Rat) : Nat → St
  | 0 => stl ((t, .v (.slice none 0 0)) :: e) l
  | k + 1 => stl ((t, .own t 0) :: e) ((t, (1, fun _ => .ones WT (k + 1) (fun i => .own g i))) :: (g, (k + 1, fun r => .rats m (fun j => .q (A r j)))) :: l)
def sT (t g a b k : Nat) : Ren := fun g' r => if g' = g then (if r < k then (g, r) else (b, r - k)) else if g' = t then (a, r) else (g', r)
theorem sT_g {t g a b k r : Nat} (h : r < k) : sT t g a b k g r = (g, r) := by unfold sT; rw [if_pos rfl, if_pos h]
theorem sT_b {t g a b k : Nat} : sT t g a b k g k = (b, 0) := by unfold sT; rw [if_pos rfl, if_neg (Nat.lt_irrefl _), Nat.sub_self]
theorem sT_t {t g a b k r : Nat} (h : t ≠ g) : sT t g a b k t r = (a, r) := by unfold sT; rw [if_neg h, if_pos rfl]
def farL (t g a b : Nat) : List Nat → Bool
  | [] => true
  | x :: l => !(Nat.beq x t) && (!(Nat.beq x g) && (!(Nat.beq x a) && (!(Nat.beq x b) && farL t g a b l)))
theorem farL_ne {t g a b : Nat} : ∀ {l : List Nat}, farL t g a b l = true → ∀ x, memN x l = true → x ≠ t ∧ x ≠ g ∧ x ≠ a ∧ x ≠ b
  | [], _, x, h => by cases h
  | y :: l, hf, x, h => by
    unfold farL at hf
    simp only [Bool.and_eq_true, Bool.not_eq_true'] at hf
    obtain ⟨h1, h2, h3, h4, h5⟩ := hf
    unfold memN at h
    have ne : ∀ {p q : Nat}, Nat.beq p q = false → p ≠ q := fun h e => by rw [e, Nat.beq_refl] at h; cases h
    cases e : Nat.beq x y with
    | true =>
      have := Nat.eq_of_beq_eq_true e
      subst this
      exact ⟨ne h1, ne h2, ne h3, ne h4⟩
    | false => rw [e] at h; exact farL_ne h5 x h
theorem sT_far {t g a b k x r : Nat} (h : x ≠ t ∧ x ≠ g) : sT t g a b k x r = (x, r) := by unfold sT; rw [if_neg h.2, if_neg h.1]
theorem memN_uncons {x t : Nat} {l : List Nat} (h : memN x (t :: l) = true) : x = t ∨ memN x l = true := by
  unfold memN at h
  cases e : Nat.beq x t with
  | true => exact .inl (Nat.eq_of_beq_eq_true e)
  | false => rw [e] at h; exact .inr h
theorem memN_head (t : Nat) (l : List Nat) : memN t (t :: l) = true := by unfold memN; rw [Nat.beq_refl]; rfl
theorem memN_tail {x t : Nat} {l : List Nat} (h : memN x l = true) : memN x (t :: l) = true := by unfold memN; cases Nat.beq x t <;> first | rfl | exact h
theorem sT_inj {t g a b k : Nat} {l : List Nat} (htg : t ≠ g) (hag : a ≠ g) (hab : a ≠ b) (hbg : b ≠ g) (hl : farL t g a b l = true) (g1 r1 g2 r2 : Nat) (h1 : memN g1 (t :: g :: l) = true) (h2 : memN g2 (t :: g :: l) = true) (e : sT t g a b k g1 r1 = sT t g a b k g2 r2) : g1 = g2 ∧ r1 = r2 := by
  have hb : ∀ r, sT t g a b k g r = (g, r) ∨ (sT t g a b k g r = (b, r - k) ∧ ¬ r < k) := fun r => by
    unfold sT; rw [if_pos rfl]; split
    · exact .inl rfl
    · rename_i h; exact .inr ⟨rfl, h⟩
  rcases memN_uncons h1 with rfl | h1
  · rcases memN_uncons h2 with rfl | h2
    · rw [sT_t htg, sT_t htg] at e; cases e; exact ⟨rfl, rfl⟩
    · rw [sT_t htg] at e
      rcases memN_uncons h2 with rfl | h2
      · rcases hb r2 with e2 | ⟨e2, _⟩ <;> rw [e2] at e <;> cases e <;> contradiction
      · obtain ⟨n1, n2, n3, n4⟩ := farL_ne hl _ h2
        rw [sT_far ⟨n1, n2⟩] at e; cases e; exact absurd rfl n3
  · rcases memN_uncons h1 with rfl | h1
    · rcases memN_uncons h2 with rfl | h2
      · rw [sT_t htg] at e
        rcases hb r1 with e1 | ⟨e1, _⟩ <;> rw [e1] at e <;> cases e <;> contradiction
      · rcases memN_uncons h2 with rfl | h2
        · rcases hb r1 with e1 | ⟨e1, q1⟩ <;> rcases hb r2 with e2 | ⟨e2, q2⟩ <;> rw [e1, e2] at e <;> simp only [Prod.mk.injEq] at e
          · exact ⟨rfl, e.2⟩
          · exact absurd e.1.symm hbg
          · exact absurd e.1 hbg
          · exact ⟨rfl, by omega⟩
        · obtain ⟨n1, n2, n3, n4⟩ := farL_ne hl _ h2
          rw [sT_far ⟨n1, n2⟩] at e
          rcases hb r1 with e1 | ⟨e1, _⟩ <;> rw [e1] at e <;> cases e
          · exact absurd rfl n2
          · exact absurd rfl n4
    · obtain ⟨n1, n2, n3, n4⟩ := farL_ne hl _ h1
      rw [sT_far ⟨n1, n2⟩] at e
      rcases memN_uncons h2 with rfl | h2
      · rw [sT_t htg] at e; cases e; exact absurd rfl n3
      · rcases memN_uncons h2 with rfl | h2
        · rcases hb r2 with e2 | ⟨e2, _⟩ <;> rw [e2] at e <;> cases e
          · exact absurd rfl n2
          · exact absurd rfl n4
        · obtain ⟨m1, m2, m3, m4⟩ := farL_ne hl _ h2
          rw [sT_far ⟨m1, m2⟩] at e; cases e; exact ⟨rfl, rfl⟩
theorem famT_close {s : St} {e : List (Nat × AV)} {l : List (Nat × Fam)} {t g a b k m : Nat} {A : Nat → Nat → Rat} {F1 F2 F3 : Nat → Blk} {f1 : Nat → AV} (h6 : s.env t = some (.own a 0))
    (h33 : s.heap a = some (1, F1)) (e33 : F1 0 = .ones WT (k + 1) f1) (g33 : ∀ i, i < k → f1 i = .own g i) (g33' : f1 k = .own b 0) (h3 : 0 < k → s.heap g = some (k, F2)) (g3 : ∀ r, r < k → BLe (sT t g a b k) (F2 r) (.rats m fun j => .q (A r j)))
    (h31 : s.heap b = some (1, F3)) (g31 : BLe (sT t g a b k) (F3 0) (.rats m fun j => .q (A k j))) (h60 : s.used 60 = false) (hne : (t ≠ g ∧ a ≠ g) ∧ a ≠ b ∧ b ≠ g) (hf : farL t g a b (keys l) = true) (he : AllE s (sT t g a b k) (fun x => memN x (t :: g :: keys l)) e) (hl : AllH s (sT t g a b k) (fun x => memN x (t :: g :: keys l)) l) : Imp s (famT t g e l m A (k + 1)) := by
  obtain ⟨⟨htg, hag⟩, hab, hbg⟩ := hne
  have hmt : memN t (t :: g :: keys l) = true := memN_head _ _
  have hmg : memN g (t :: g :: keys l) = true := memN_tail (memN_head _ _)
  refine imp_stl (h := (t, (1, fun _ => .ones WT (k + 1) (fun i => .own g i))) :: (g, (k + 1, fun r => .rats m (fun j => .q (A r j)))) :: l) (sT t g a b k) (fun h => by rw [h60] at h; cases h) (fun g1 r1 g2 r2 h1 h2 => sT_inj htg hag hab hbg hf g1 r1 g2 r2 h1 h2) ⟨⟨_, h6, Le.own (sT_t htg), hmt⟩, he⟩ ⟨fun r hr => ?_, fun r hr => ?_, hl⟩ (by rw [h60]; rfl)
  · obtain rfl : r = 0 := by omega
    rw [sT_t htg]
    refine ⟨1, F1, h33, Nat.zero_lt_one, ?_, fun i hi => hmg⟩
    show BLe _ (F1 0) _
    rw [e33]
    refine bleo rfl fun i hi => ?_
    by_cases e : i < k
    · rw [g33 i e]; exact Le.own (sT_g e)
    · obtain rfl : i = k := by omega
      rw [g33']; exact Le.own sT_b
  · by_cases e : r < k
    · rw [sT_g e]
      exact ⟨k, F2, h3 (by omega), e, g3 r e, trivial⟩
    · obtain rfl : r = k := by omega
      rw [sT_b]
      exact ⟨1, F3, h31, Nat.zero_lt_one, g31, trivial⟩
/-- Rows in whatever order, with more memory beside. -/
abbrev TH (t g n m : Nat) (π : Nat → Nat) (A : Nat → Nat → Rat) (l : List (Nat × Fam)) : List (Nat × Fam) :=
  (t, (1, fun _ => .ones WT n (fun i => .own g (π i)))) :: (g, (n, fun r => .rats m (fun j => .q (A r j)))) :: l
theorem imp_TH {s : St} {e : List (Nat × AV)} {l : List (Nat × Fam)} {t g n m : Nat} {π : Nat → Nat} {A : Nat → Nat → Rat} {F1 F2 : Nat → Blk} {f1 : Nat → AV} (h6 : s.heap t = some (1, F1)) (e6 : F1 0 = .ones WT n f1) (g6 : ∀ i, i < n → f1 i = .own g (π i)) (h3 : s.heap g = some (n, F2)) (g3 : ∀ r, r < n → BLe idR (F2 r) (.rats m fun j => .q (A r j)))
    (h60 : s.used 60 = false) (he : AllE s idR (fun x => memN x (t :: g :: keys l)) e) (hl : AllH s idR (fun x => memN x (t :: g :: keys l)) l) : Imp s (stl e (TH t g n m π A l)) := by
  have hmg : memN g (t :: g :: keys l) = true := by unfold memN; cases Nat.beq g t <;> simp [memN]
  refine imp_id (h := TH t g n m π A l) he ⟨fun r hr => ?_, fun r hr => ⟨n, F2, h3, hr, g3 r hr, trivial⟩, hl⟩ (by rw [h60]; rfl)
  obtain rfl : r = 0 := by omega
  refine ⟨1, F1, h6, Nat.zero_lt_one, ?_, fun i hi => hmg⟩
  show BLe idR (F1 0) _
  rw [e6]; exact bleo rfl fun i hi => Le.id (g6 i hi)
/-- The rows, brought into the order in which they lie. -/
def sP (g n : Nat) (π : Nat → Nat) : Ren := fun g' r => if g' = g ∧ r < n then (g, π r) else (g', r)
theorem sP_ne {g n : Nat} {π : Nat → Nat} {g' : Nat} (h : g' ≠ g) (r : Nat) : sP g n π g' r = (g', r) := by unfold sP; rw [if_neg (fun h' => h h'.1)]
theorem sP_g {g n : Nat} {π : Nat → Nat} {r : Nat} (h : r < n) : sP g n π g r = (g, π r) := by unfold sP; rw [if_pos ⟨rfl, h⟩]
theorem sP_inj {g n : Nat} {π : Nat → Nat} (hlt : ∀ i, i < n → π i < n) (hinj : ∀ i j, i < n → j < n → π i = π j → i = j) (g1 r1 g2 r2 : Nat) (e : sP g n π g1 r1 = sP g n π g2 r2) : g1 = g2 ∧ r1 = r2 := by
  unfold sP at e
  split at e <;> split at e <;> simp only [Prod.mk.injEq] at e
  · rename_i h1 h2
    exact ⟨h1.1.trans h2.1.symm, hinj _ _ h1.2 h2.2 e.2⟩
  · rename_i h1 h2
    have := hlt r1 h1.2
    exact absurd ⟨e.1.symm, by omega⟩ h2
  · rename_i h1 h2
    have := hlt r2 h2.2
    exact absurd ⟨e.1, by omega⟩ h1
  · exact e
end Go.Proofs.Ytjmpanhacfjcaaa.AM
/- Elimination, as plain functions: what the steps on rows make. -/
namespace Go.Proofs.Ytjmpanhacfjcaaa.AM
open Go.Proofs.Ytjmpanhacfjcaaa.LA (S S_succ S_zero S_congr)
open Classical
set_option linter.unusedVariables false
set_option linter.unusedSimpArgs false
/-- The first number from i on, at most k further, that has p. -/
noncomputable def fnd (p : Nat → Prop) : Nat → Nat → Nat
  | 0, i => i
  | k + 1, i => if p i then i else fnd p k (i + 1)
theorem fnd_le (p : Nat → Prop) : ∀ k i, i ≤ fnd p k i ∧ fnd p k i ≤ i + k ∧ (∀ j, i ≤ j → j < fnd p k i → ¬ p j) ∧ (fnd p k i < i + k → p (fnd p k i))
  | 0, i => ⟨Nat.le_refl _, Nat.le_refl _, fun j h1 h2 => absurd h2 (by unfold fnd; omega), fun h => absurd h (by unfold fnd; omega)⟩
  | k + 1, i => by
    unfold fnd
    by_cases h : p i
    · rw [if_pos h]; exact ⟨Nat.le_refl _, by omega, fun j h1 h2 => by omega, fun _ => h⟩
    · rw [if_neg h]
      obtain ⟨h1, h2, h3, h4⟩ := fnd_le p k (i + 1)
      refine ⟨by omega, by omega, fun j h5 h6 => ?_, fun h5 => h4 (by omega)⟩
      by_cases e : j = i
      · subst e; exact h
      · exact h3 j (by omega) h6
structure ES where
  at' : Nat
  d : Rat
  π : Nat → Nat
  A : Nat → Nat → Rat
/-- Which rows are cleaned. -/
def tst (all : Bool) (at' i : Nat) : Prop := at' < i ∨ (all = true ∧ i < at')
/-- The rows up to k cleaned. -/
noncomputable def cln (A : Nat → Nat → Rat) (π : Nat → Nat) (all : Bool) (at' col m k : Nat) : Nat → Nat → Rat := fun r j =>
  if (∃ i, i < k ∧ tst all at' i ∧ r = π i) ∧ col ≤ j ∧ j < m then A r j - A r col / A (π at') col * A (π at') j else A r j
theorem tst_ne {all : Bool} {at' i : Nat} (h : tst all at' i) : i ≠ at' := by
  rcases h with h | h <;> omega
theorem cln_zero (A : Nat → Nat → Rat) (π : Nat → Nat) (all : Bool) (at' col m : Nat) : cln A π all at' col m 0 = A := by
  funext r j
  unfold cln
  rw [if_neg]
  rintro ⟨⟨i, h, _⟩, _⟩
  omega
theorem cln_skip {A : Nat → Nat → Rat} {π : Nat → Nat} {all : Bool} {at' col m k : Nat} (h : ¬ tst all at' k) : cln A π all at' col m k = cln A π all at' col m (k + 1) := by
  funext r j
  unfold cln
  have e : (∃ i, i < k ∧ tst all at' i ∧ r = π i) ↔ (∃ i, i < k + 1 ∧ tst all at' i ∧ r = π i) := by
    constructor
    · rintro ⟨i, h1, h2, h3⟩; exact ⟨i, by omega, h2, h3⟩
    · rintro ⟨i, h1, h2, h3⟩
      refine ⟨i, ?_, h2, h3⟩
      rcases Nat.lt_or_ge i k with h4 | h4
      · exact h4
      · obtain rfl : i = k := by omega
        exact absurd h2 h
  simp only [e]
theorem cln_row {A : Nat → Nat → Rat} {π : Nat → Nat} {all : Bool} {at' col m k n r : Nat} (hr : ∀ i, i < k → tst all at' i → r ≠ π i) (j : Nat) : cln A π all at' col m k r j = A r j := by
  unfold cln
  rw [if_neg]
  rintro ⟨⟨i, h1, h2, h3⟩, _⟩
  exact hr i h1 h2 h3
theorem cln_step {A : Nat → Nat → Rat} {π : Nat → Nat} {all : Bool} {at' col m k n : Nat} (hinj : ∀ i j, i < n → j < n → π i = π j → i = j) (ha : at' < n) (hk : k < n) (ht : tst all at' k) :
    clr (cln A π all at' col m k) (cln A π all at' col m k (π k) col / cln A π all at' col m k (π at') col) (π k) (π at') col m = cln A π all at' col m (k + 1) := by
  have h1 : ∀ j, cln A π all at' col m k (π k) j = A (π k) j := cln_row (n := n) fun i h1 h2 h3 => by
    have := hinj k i hk (by omega) h3
    omega
  have h2 : ∀ j, cln A π all at' col m k (π at') j = A (π at') j := cln_row (n := n) fun i h1 h2 h3 => by
    have := hinj at' i ha (by omega) h3
    exact tst_ne h2 this.symm
  funext r j
  unfold clr
  rw [h1, h1, h2, h2]
  by_cases e : r = π k
  · subst e
    by_cases c : col ≤ j ∧ j < m
    · rw [if_pos ⟨rfl, c⟩]
      unfold cln
      rw [if_pos ⟨⟨k, by omega, ht, rfl⟩, c⟩]
    · rw [if_neg (fun h => c h.2), h1]
      unfold cln
      rw [if_neg (fun h => c h.2)]
  · rw [if_neg (fun h => e h.1)]
    unfold cln
    have e2 : (∃ i, i < k ∧ tst all at' i ∧ r = π i) ↔ (∃ i, i < k + 1 ∧ tst all at' i ∧ r = π i) := by
      constructor
      · rintro ⟨i, h1, h2, h3⟩; exact ⟨i, by omega, h2, h3⟩
      · rintro ⟨i, h1, h2, h3⟩
        refine ⟨i, ?_, h2, h3⟩
        rcases Nat.lt_or_ge i k with h4 | h4
        · exact h4
        · obtain rfl : i = k := by omega
          exact absurd h3 e
    simp only [e2]
/-- One column. -/
noncomputable def stp (n m : Nat) (all : Bool) (s : ES) (col : Nat) : ES :=
  if fnd (fun i => s.A (s.π i) col ≠ 0) (n - s.at') s.at' < n then
    ⟨s.at' + 1, det1 s.d (fnd (fun i => s.A (s.π i) col ≠ 0) (n - s.at') s.at') s.at' * s.A (s.π (fnd (fun i => s.A (s.π i) col ≠ 0) (n - s.at') s.at')) col, swp s.π (fnd (fun i => s.A (s.π i) col ≠ 0) (n - s.at') s.at') s.at',
      cln s.A (swp s.π (fnd (fun i => s.A (s.π i) col ≠ 0) (n - s.at') s.at') s.at') all s.at' col m n⟩
  else s
noncomputable def stps (n m : Nat) (all : Bool) (A : Nat → Nat → Rat) : Nat → ES
  | 0 => ⟨0, 1, fun i => i, A⟩
  | c + 1 => stp n m all (stps n m all A c) c
/-- What holds of the rows at all times. -/
structure EOK (n c X : Nat) (s : ES) : Prop where
  le : s.at' ≤ c
  lt : ∀ i, i < n → s.π i < n
  inj : ∀ i j, i < n → j < n → s.π i = s.π j → i = j
  wd : Wt s.d X
  wA : ∀ i j, Wt (s.A i j) X
theorem swp_lt {π : Nat → Nat} {n i j : Nat} (h : ∀ i, i < n → π i < n) (hi : i < n) (hj : j < n) (k : Nat) (hk : k < n) : swp π i j k < n := by
  unfold swp updN
  split
  · exact h i hi
  · split
    · exact h j hj
    · exact h k hk
theorem swp_inj {π : Nat → Nat} {n i j : Nat} (h : ∀ i j, i < n → j < n → π i = π j → i = j) (hi : i < n) (hj : j < n) (a b : Nat) (ha : a < n) (hb : b < n) (e : swp π i j a = swp π i j b) : a = b := by
  unfold swp updN at e
  split at e <;> split at e <;> (try split at e) <;> (try split at e) <;> (first | omega | (have := h _ _ (by assumption) (by assumption) e; omega))
theorem det1_wt {d : Rat} {X i j : Nat} [h : Wt d X] : Wt (det1 d i j) X := by
  unfold det1; split
  · exact h
  · exact inferInstance
theorem cln_wt {A : Nat → Nat → Rat} {π : Nat → Nat} {all : Bool} {at' col m k X : Nat} [h : ∀ i j, Wt (A i j) X] (r j : Nat) : Wt (cln A π all at' col m k r j) (4 * X + 1) := by
  unfold cln
  split
  · exact (inferInstance : Wt (A r j - A r col / A (π at') col * A (π at') j) (X + (X + X + X) + 1)).mono (by omega)
  · exact (h r j).mono (by omega)
theorem stp_ok {n m c X : Nat} {all : Bool} {s : ES} (hX : 1 ≤ X) (h : EOK n c X s) : EOK n (c + 1) (5 * X) (stp n m all s c) := by
  have hA := h.wA
  have hd := h.wd
  unfold stp
  split
  · rename_i hi
    obtain ⟨h1, h2, _, _⟩ := fnd_le (fun i => s.A (s.π i) c ≠ 0) (n - s.at') s.at'
    have h3 := h.le
    refine ⟨by show s.at' + 1 ≤ c + 1; omega, swp_lt h.lt hi (by omega), swp_inj h.inj hi (by omega), ?_, fun i j => (cln_wt i j).mono (by omega)⟩
    have w1 : Wt (det1 s.d (fnd (fun i => s.A (s.π i) c ≠ 0) (n - s.at') s.at') s.at') X := det1_wt
    exact (inferInstance : Wt (det1 s.d (fnd (fun i => s.A (s.π i) c ≠ 0) (n - s.at') s.at') s.at' * s.A (s.π (fnd (fun i => s.A (s.π i) c ≠ 0) (n - s.at') s.at')) c) (X + X)).mono (by omega)
  · exact ⟨by have := h.le; omega, h.lt, h.inj, h.wd.mono (by omega), fun i j => (h.wA i j).mono (by omega)⟩
theorem stps_ok {n m K : Nat} {all : Bool} {A : Nat → Nat → Rat} [hA : ∀ i j, Wt (A i j) K] : ∀ c, EOK n c (5 ^ c * (K + 1)) (stps n m all A c)
  | 0 => ⟨Nat.le_refl _, fun i hi => hi, fun i j _ _ e => e, (inferInstance : Wt 1 1).mono (by omega), fun i j => (hA i j).mono (by omega)⟩
  | c + 1 => by
    have h := stp_ok (m := m) (all := all) (Nat.mul_pos (Nat.pow_pos (by decide)) (Nat.succ_pos K)) (stps_ok (n := n) (m := m) (all := all) (A := A) c)
    rw [show 5 ^ (c + 1) * (K + 1) = 5 * (5 ^ c * (K + 1)) by rw [Nat.pow_succ]; ac_rfl]
    exact h
end Go.Proofs.Ytjmpanhacfjcaaa.AM
/- Dense matrices: walks: all steps. -/
namespace Go.Proofs.Ytjmpanhacfjcaaa.AM
open Go Go.RowKit Go.Proofs.Ytjmpanhacfjcaaa.PN Go.Proofs.Ytjmpanhacfjcaaa.V
open Go.Proofs.Ytjmpanhacfjcaaa.LA (S S_succ S_zero S_congr)
set_option linter.unusedVariables false
set_option linter.unusedSimpArgs false
set_option maxRecDepth 4000
set_option maxHeartbeats 4000000
theorem okf_WH {n m : Nat} {d : Rat} {π : Nat → Nat} {A : Nat → Nat → Rat} : okf (fun g => memN g (keys (WH n m d π A))) (WH n m d π A) :=
  ⟨fun _ _ i _ => wk_ok rfl d i, fun _ _ _ _ => rfl, fun _ _ => True.intro, True.intro⟩
theorem stp_yes {n m col : Nat} {all : Bool} {s : ES} (h : fnd (fun i => s.A (s.π i) col ≠ 0) (n - s.at') s.at' < n) : stp n m all s col = ⟨s.at' + 1, det1 s.d (fnd (fun i => s.A (s.π i) col ≠ 0) (n - s.at') s.at') s.at' * s.A (s.π (fnd (fun i => s.A (s.π i) col ≠ 0) (n - s.at') s.at')) col, swp s.π (fnd (fun i => s.A (s.π i) col ≠ 0) (n - s.at') s.at') s.at',
      cln s.A (swp s.π (fnd (fun i => s.A (s.π i) col ≠ 0) (n - s.at') s.at') s.at') all s.at' col m n⟩ := if_pos h
theorem stp_no {n m col : Nat} {all : Bool} {s : ES} (h : ¬ fnd (fun i => s.A (s.π i) col ≠ 0) (n - s.at') s.at' < n) : stp n m all s col = s := if_neg h
theorem d_steps {n m K : Nat} {all : Bool} {A : Nat → Nat → Rat} [hA : ∀ i j, Wt (A i j) K] (hK : K ≤ 400) (hn : n ≤ 8) (hm : m ≤ 9) (hnm : n ≤ m) :
    HasH Try.prog 55 (WH n m 1 (fun i => i) A) [.ptr 60 0 0, .b all] (.i (stps n m all A n).at') (WH n m (stps n m all A n).d (stps n m all A n).π (stps n m all A n).A) := by
  refine hasH_of Try.func55 (by kernel_rfl) rfl Try.ntmps55 Try.results55 True.intro rfl rfl ?_
  refine run0 ?_
  refine awp_loop (fun m' s => ∃ c, c ≤ n ∧ m' = n - c ∧ s = stl [(0, .ptr 60 0 0), (1, .b all), (5, .i (stps n m all A c).at'), (6, .i (c : Int))] (WH n m (stps n m all A c).d (stps n m all A c).π (stps n m all A c).A)) n _ (imp_WH rfl rfl (fun _ _ => rfl) rfl rfl (fun _ _ => rfl) rfl (fun r hr => blen rfl fun _ _ => rfl) ?_) ⟨0, Nat.zero_le _, rfl, rfl⟩ ?_
  · exact eA
  · rintro m' s ⟨c, hc, rfl, rfl⟩
    have hok := stps_ok (n := n) (m := m) (all := all) (A := A) c
    have hnx : stps n m all A (c + 1) = stp n m all (stps n m all A c) c := rfl
    have hX : 5 ^ c * (K + 1) ≤ 390625 * 401 := Nat.mul_le_mul (Nat.pow_le_pow_right (by decide) (show c ≤ 8 by omega)) (by omega)
    generalize 5 ^ c * (K + 1) = X at hok hX
    generalize hT : stps n m all A c = T at *
    obtain ⟨a, d, π, B⟩ := T
    have hle : a ≤ c := hok.le
    have hlt : ∀ i, i < n → π i < n := hok.lt
    have hinj : ∀ i j, i < n → j < n → π i = π j → i = j := hok.inj
    have wd : Wt d X := hok.wd
    have wB : ∀ i j, Wt (B i j) X := hok.wA
    by_cases hcn : c < n
    · have hcn' : (c : Int) < (n : Int) := by omega
      have g1 : (decide ((c : Int) < (n : Int)) == true) = true := by rw [decide_eq_true hcn']; rfl
      have g2 : decide ((c : Int) < (n : Int)) = true := decide_eq_true hcn'
      refine run0 ?_
      refine awp_yes rfl ?_ ?_
      · exact decide_eq_true (show (a : Int) < n by omega)
      clear g1 g2
      refine run0 ?_
      have han : a < n := by omega
      obtain ⟨f1, f2, f3, f4⟩ := fnd_le (fun i => B (π i) c ≠ 0) (n - a) a
      by_cases hfn : fnd (fun i => B (π i) c ≠ 0) (n - a) a < n
      · have e1 := stp_yes (m := m) (all := all) (s := ⟨a, d, π, B⟩) (col := c) hfn
        have hnz := f4 (by omega)
        dsimp only at e1 hnz
        generalize fnd (fun i => B (π i) c ≠ 0) (n - a) a = i at *
        have hz : ∀ j, a ≤ j → j < i → B (π j) c = 0 := fun j h1 h2 => Classical.byContradiction fun h => f3 j h1 h2 h
        ((with_reducible apply st_callH); exact rfl; exact rfl; exact rfl; exact (d_pivot_yes (hA := wB) (hd := wd) (by omega) (by omega) hn hm (by omega) hlt f1 hfn hz hnz); (first | exact True.intro | exact ⟨rfl, rfl, rfl, True.intro⟩); exact rfl; exact rfl; exact rfl; exact rfl; (focus (repeat (first | exact True.intro | refine ⟨(by first | exact True.intro | rfl | exact ok_none (closed_ok rfl)), ?_⟩))); (first | exact True.intro | exact okf_WH))
        refine run0 ?_
        refine awp_no rfl rfl ?_
        refine run0 ?_
        have hlt' := swp_lt hlt hfn han
        have hinj' := swp_inj hinj hfn han
        have hat : swp π i a a = π i := swp_at π i a
        generalize swp π i a = π' at *
        generalize det1 d i a * B (π i) c = d' at *
        refine awp_loop (fun m' s => ∃ k, k ≤ n ∧ m' = n - k ∧ s = stl [(0, .ptr 60 0 0), (1, .b all), (5, .i (a : Int)), (6, .i (c : Int)), (35, .i (n : Int)), (36, .i (k : Int))] (WH n m d' π' (cln B π' all a c m k))) n _ (imp_WH rfl rfl (fun _ _ => rfl) rfl rfl (fun _ _ => rfl) rfl (fun r hr => blen rfl fun j _ => congrArg RA.q (congrFun (congrFun (cln_zero B π' all a c m).symm r) j)) ?_) ⟨0, Nat.zero_le _, rfl, rfl⟩ ?_
        · exact eA
        · rintro m' s ⟨k, hk, rfl, rfl⟩
          refine run0 ?_
          refine awp_if rfl (fun h => ?_) (fun h => ?_)
          · have hkn : k < n := by omega
            have wC : ∀ r j, Wt (cln B π' all a c m k r j) (4 * X + 1) := fun r j => cln_wt (h := wB) r j
            have hpk := hlt' k hkn
            have hpa := hlt' a han
            have hrow : cln B π' all a c m k (π' a) c = B (π' a) c := cln_row (n := n) (fun i h1 h2 h3 => tst_ne h2 (hinj' a i han (by omega) h3).symm) c
            have hne0 : cln B π' all a c m k (π' a) c ≠ 0 := by rw [hrow, hat]; exact hnz
            by_cases ht : tst all a k
            · have hne : π' k ≠ π' a := fun e => tst_ne ht (hinj' k a hkn han e)
              have est := cln_step (m := m) (all := all) (A := B) (col := c) hinj' han hkn ht
              rcases ht with h1 | ⟨hall, h1⟩
              · have hi1 : (a : Int) < (k : Int) := by omega
                have gA : (decide ((a : Int) < (k : Int)) == false) = false := by rw [decide_eq_true hi1]; rfl
                have pA : decide ((a : Int) < (k : Int)) = true := decide_eq_true hi1
                refine run0 ?_
                refine awp_yes rfl rfl ?_
                refine run0 ?_
                ((with_reducible apply st_callH); exact rfl; exact rfl; exact rfl; exact (d_clean (d := d') (hA := wC) (by omega) hn hm (by omega) hkn han hpk hpa hne hne0); (first | exact True.intro | exact ⟨rfl, rfl, rfl, True.intro⟩); exact rfl; exact rfl; exact rfl; exact rfl; (focus (repeat (first | exact True.intro | refine ⟨(by first | exact True.intro | rfl | exact ok_none (closed_ok rfl)), ?_⟩))); (first | exact True.intro | exact okf_WH))
                refine run0 ?_
                refine q_loop (m' := n - (k + 1)) (by omega) (imp_WH (e := [(0, .ptr 60 0 0), (1, .b all), (5, .i (a : Int)), (6, .i (c : Int)), (35, .i (n : Int)), (36, .i ((k + 1 : Nat) : Int))]) (n := n) (m := m) (d := d') (π := π') (A := cln B π' all a c m (k + 1)) rfl rfl (fun _ _ => rfl) rfl rfl (fun _ _ => rfl) rfl (fun r hr => blen rfl fun j _ => congrArg RA.q (congrFun (congrFun est r) j)) ?_) ⟨k + 1, by omega, rfl, rfl⟩
                exact eA
              · subst hall
                have hi1 : ¬ (a : Int) < (k : Int) := by omega
                have gA : (decide ((a : Int) < (k : Int)) == false) = true := by rw [decide_eq_false hi1]; rfl
                have pA : decide ((a : Int) < (k : Int)) = false := decide_eq_false hi1
                refine run0 ?_
                refine awp_yes rfl ?_ ?_
                · exact decide_eq_true (show (k : Int) < (a : Int) by omega)
                refine run0 ?_
                ((with_reducible apply st_callH); exact rfl; exact rfl; exact rfl; exact (d_clean (d := d') (hA := wC) (by omega) hn hm (by omega) hkn han hpk hpa hne hne0); (first | exact True.intro | exact ⟨rfl, rfl, rfl, True.intro⟩); exact rfl; exact rfl; exact rfl; exact rfl; (focus (repeat (first | exact True.intro | refine ⟨(by first | exact True.intro | rfl | exact ok_none (closed_ok rfl)), ?_⟩))); (first | exact True.intro | exact okf_WH))
                refine run0 ?_
                refine q_loop (m' := n - (k + 1)) (by omega) (imp_WH (e := [(0, .ptr 60 0 0), (1, .b true), (5, .i (a : Int)), (6, .i (c : Int)), (35, .i (n : Int)), (36, .i ((k + 1 : Nat) : Int))]) (n := n) (m := m) (d := d') (π := π') (A := cln B π' true a c m (k + 1)) rfl rfl (fun _ _ => rfl) rfl rfl (fun _ _ => rfl) rfl (fun r hr => blen rfl fun j _ => congrArg RA.q (congrFun (congrFun est r) j)) ?_) ⟨k + 1, by omega, rfl, rfl⟩
                exact eA
            · have est := cln_skip (A := B) (π := π') (col := c) (m := m) ht
              have hi1 : ¬ (a : Int) < (k : Int) := fun h => ht (.inl (by omega))
              have gA : (decide ((a : Int) < (k : Int)) == false) = true := by rw [decide_eq_false hi1]; rfl
              have pA : decide ((a : Int) < (k : Int)) = false := decide_eq_false hi1
              cases all with
              | false =>
                refine run0 ?_
                refine awp_no rfl rfl ?_
                refine run0 ?_
                refine q_loop (m' := n - (k + 1)) (by omega) (imp_WH (e := [(0, .ptr 60 0 0), (1, .b false), (5, .i (a : Int)), (6, .i (c : Int)), (35, .i (n : Int)), (36, .i ((k + 1 : Nat) : Int))]) (n := n) (m := m) (d := d') (π := π') (A := cln B π' false a c m (k + 1)) rfl rfl (fun _ _ => rfl) rfl rfl (fun _ _ => rfl) rfl (fun r hr => blen rfl fun j _ => congrArg RA.q (congrFun (congrFun est r) j)) ?_) ⟨k + 1, by omega, rfl, rfl⟩
                exact eA
              | true =>
                refine run0 ?_
                refine awp_no rfl ?_ ?_
                · exact decide_eq_false (show ¬ (k : Int) < (a : Int) from fun h => ht (.inr ⟨rfl, by omega⟩))
                refine run0 ?_
                refine q_loop (m' := n - (k + 1)) (by omega) (imp_WH (e := [(0, .ptr 60 0 0), (1, .b true), (5, .i (a : Int)), (6, .i (c : Int)), (35, .i (n : Int)), (36, .i ((k + 1 : Nat) : Int))]) (n := n) (m := m) (d := d') (π := π') (A := cln B π' true a c m (k + 1)) rfl rfl (fun _ _ => rfl) rfl rfl (fun _ _ => rfl) rfl (fun r hr => blen rfl fun j _ => congrArg RA.q (congrFun (congrFun est r) j)) ?_) ⟨k + 1, by omega, rfl, rfl⟩
                exact eA
          · obtain rfl : k = n := by omega
            refine run0 ?_
            refine q_loop (m' := k - (c + 1)) (by omega) (imp_WH (e := [(0, .ptr 60 0 0), (1, .b all), (5, .i ((a + 1 : Nat) : Int)), (6, .i ((c + 1 : Nat) : Int))]) (n := k) (m := m) (d := d') (π := π') (A := cln B π' all a c m k) rfl rfl (fun _ _ => rfl) rfl rfl (fun _ _ => rfl) rfl (fun r hr => blen rfl fun _ _ => rfl) ?_) ⟨c + 1, by omega, rfl, ?_⟩
            · exact eA
            · have e := hnx.trans e1
              rw [e]
      · have e1 := stp_no (m := m) (all := all) (s := ⟨a, d, π, B⟩) (col := c) hfn
        have hz : ∀ j, a ≤ j → j < n → B (π j) c = 0 := fun j h1 h2 => Classical.byContradiction fun h => f3 j h1 (by omega) h
        ((with_reducible apply st_callH); exact rfl; exact rfl; exact rfl; exact (d_pivot_no (d := d) (at' := a) (col := c) hn hm (by omega) hlt (by omega) hz); (first | exact True.intro | exact ⟨rfl, rfl, rfl, True.intro⟩); exact rfl; exact rfl; exact rfl; exact rfl; (focus (repeat (first | exact True.intro | refine ⟨(by first | exact True.intro | rfl | exact ok_none (closed_ok rfl)), ?_⟩))); (first | exact True.intro | exact okf_WH))
        refine run0 ?_
        refine awp_yes rfl rfl ?_
        refine run0 ?_
        refine q_loop (m' := n - (c + 1)) (by omega) (imp_WH (e := [(0, .ptr 60 0 0), (1, .b all), (5, .i (a : Int)), (6, .i ((c + 1 : Nat) : Int))]) (n := n) (m := m) (d := d) (π := π) (A := B) rfl rfl (fun _ _ => rfl) rfl rfl (fun _ _ => rfl) rfl (fun r hr => blen rfl fun _ _ => rfl) ?_) ⟨c + 1, by omega, rfl, ?_⟩
        · exact eA
        · have e := hnx.trans e1
          rw [e]
    · obtain rfl : c = n := by omega
      have hcn' : ¬ (c : Int) < (c : Int) := by omega
      have g1 : (decide ((c : Int) < (c : Int)) == true) = false := by rw [decide_eq_false hcn']; rfl
      have g2 : decide ((c : Int) < (c : Int)) = false := decide_eq_false hcn'
      refine run0 ?_
      refine awp_no rfl rfl ?_
      refine run0 ?_
      refine ⟨.inr rfl, [(4, .i (a : Int))], ?_, ?_⟩
      · rw [hT]
        refine imp_WH rfl rfl (fun _ _ => rfl) rfl rfl (fun _ _ => rfl) rfl (fun r hr => blen rfl fun _ _ => rfl) ?_
        exact eA
      · rw [hT]; exact .one (.tmp rfl)
end Go.Proofs.Ytjmpanhacfjcaaa.AM
/- Dense matrices: walks: determinants, ranks. -/
namespace Go.Proofs.Ytjmpanhacfjcaaa.AM
open Go Go.RowKit Go.Proofs.Ytjmpanhacfjcaaa.PN Go.Proofs.Ytjmpanhacfjcaaa.V
open Go.Proofs.Ytjmpanhacfjcaaa.LA (S S_succ S_zero S_congr)
set_option linter.unusedVariables false
set_option linter.unusedSimpArgs false
set_option maxRecDepth 4000
set_option maxHeartbeats 4000000
theorem d_of0 {n : Nat} {F : Nat → Nat → Rat} (hn : n ≤ 8) (h0 : 0 < n) :
    HasH Try.prog 53 [] [.mat false n (fun _ => n) (fun i j => .q (F i j)), .v (.func (.func 54) #[] #[])] (.ptr 60 0 0) (WH n n 1 (fun i => i) (aug n F fun _ _ => 0)) :=
  HasH.arg2 (x' := .clo 54 0 (fun _ => .v undef)) (d_of (e := 0) (G := fun _ _ => 0) hn h0 (by decide) rfl fun i _ => Has.imp d_nothing rfl fun S B β w v hv => by
    obtain ⟨A, c, e1, e2, e3, e4⟩ := hv
    exact ⟨A, c, e1, e2, e3, fun j hj => absurd hj (Nat.not_lt_zero _)⟩) (fun S B β w v hv => by
      have hv : v = .func (.func 54) #[] #[] := hv
      exact ⟨#[], hv, rfl, fun i hi => absurd hi (Nat.not_lt_zero _)⟩) (fun i hi => absurd hi (Nat.not_lt_zero _))
theorem aug_wt {n K : Nat} {F : Nat → Nat → Rat} [hf : ∀ i j, Wt (F i j) K] (i j : Nat) : Wt (aug n F (fun _ _ => 0) i j) (K + 1) := by
  unfold aug
  split
  · exact (hf i j).mono (by omega)
  · exact (inferInstance : Wt 0 1).mono (by omega)
/-- What the steps make of a matrix. -/
noncomputable def gs (n : Nat) (F : Nat → Nat → Rat) : ES := stps n n false (aug n F fun _ _ => 0) n
noncomputable def gdet (n : Nat) (F : Nat → Nat → Rat) : Rat := if (gs n F).at' < n then 0 else (gs n F).d
theorem d_det {n K : Nat} {F : Nat → Nat → Rat} [hf : ∀ i j, Wt (F i j) K] (hK : K ≤ 399) (h0 : 0 < n) (hn : n ≤ 8) : Has Try.prog 47 [.mat false n (fun _ => n) (fun i j => .q (F i j))] (.q (gdet n F)) := by
  have wA : ∀ i j, Wt (aug n F (fun _ _ => 0) i j) (K + 1) := fun i j => aug_wt (hf := hf) i j
  refine has_of Try.func47 (by kernel_rfl) rfl Try.ntmps47 Try.results47 rfl rfl rfl ?_
  refine run0 ?_
  ((with_reducible apply st_callH); exact rfl; exact rfl; exact rfl; exact (d_of0 hn h0); (first | exact True.intro | exact ⟨rfl, rfl, rfl, True.intro⟩); exact rfl; exact rfl; exact rfl; exact rfl; (focus (repeat (first | exact True.intro | refine ⟨(by first | exact True.intro | rfl | exact ok_none (closed_ok rfl)), ?_⟩))); (first | exact True.intro | exact okf_WH))
  refine run0 ?_
  ((with_reducible apply st_callH); exact rfl; exact rfl; exact rfl; exact (d_steps (all := false) (hA := wA) (by omega) hn (by omega) (Nat.le_refl _)); (first | exact True.intro | exact ⟨rfl, rfl, rfl, True.intro⟩); exact rfl; exact rfl; exact rfl; exact rfl; (focus (repeat (first | exact True.intro | refine ⟨(by first | exact True.intro | rfl | exact ok_none (closed_ok rfl)), ?_⟩))); (first | exact True.intro | exact okf_WH))
  refine run0 ?_
  have eg : stps n n false (aug n F fun _ _ => 0) n = gs n F := rfl
  refine awp_if rfl (fun h => ?_) (fun h => ?_)
  · have e : gdet n F = 0 := if_pos (by rw [← eg]; omega)
    rw [e]
    repeat(first|refine run1 ?_|((with_reducible apply st_call);exact rfl;exact rfl;exact rfl;first|(exact d_zero))|((with_reducible apply st_callg);exact rfl;exact rfl;(first|exact rfl|assumption);exact rfl;exact rfl;exact rfl;first|(exact d_zero)))
    refine ⟨.inr rfl, _, Imp.refl _, ?_⟩
    exact .one (.rat rfl rfl (by decide) rfl (by decide) rfl)
  · have e : gdet n F = (gs n F).d := if_neg (by rw [← eg]; omega)
    rw [e]
    refine run0 ?_
    refine ⟨.inr rfl, _, Imp.refl _, ?_⟩
    exact .one (.rat rfl rfl (by decide) rfl (by decide) rfl)
theorem d_Det {n K : Nat} {F : Nat → Nat → Rat} [hf : ∀ i j, Wt (F i j) K] (hK : K ≤ 399) (h0 : 0 < n) (hn : n ≤ 8) : Has Try.prog 15 [.mat false n (fun _ => n) (fun i j => .q (F i j))] (.q (gdet n F)) := by
  refine has_of Try.func15 (by kernel_rfl) rfl Try.ntmps15 Try.results15 rfl rfl rfl ?_
  repeat(first|refine run1 ?_|((with_reducible apply st_call);exact rfl;exact rfl;exact rfl;first|(exact d_square (hf := hf) (by omega) h0 (by omega)))|((with_reducible apply st_callg);exact rfl;exact rfl;(first|exact rfl|assumption);exact rfl;exact rfl;exact rfl;first|(exact d_square (hf := hf) (by omega) h0 (by omega))))
  refine awp_no rfl rfl ?_
  repeat(first|refine run1 ?_|((with_reducible apply st_call);exact rfl;exact rfl;exact rfl;first|(exact d_det (hf := hf) hK h0 hn))|((with_reducible apply st_callg);exact rfl;exact rfl;(first|exact rfl|assumption);exact rfl;exact rfl;exact rfl;first|(exact d_det (hf := hf) hK h0 hn)))
  refine ⟨.inr rfl, _, Imp.refl _, ?_⟩
  exact .one (.rat rfl rfl (by decide) rfl (by decide) rfl)
theorem d_Rank {n K : Nat} {F : Nat → Nat → Rat} [hf : ∀ i j, Wt (F i j) K] (hK : K ≤ 399) (h0 : 0 < n) (hn : n ≤ 8) : Has Try.prog 19 [.mat false n (fun _ => n) (fun i j => .q (F i j))] (.i (gs n F).at') := by
  have wA : ∀ i j, Wt (aug n F (fun _ _ => 0) i j) (K + 1) := fun i j => aug_wt (hf := hf) i j
  refine has_of Try.func19 (by kernel_rfl) rfl Try.ntmps19 Try.results19 rfl rfl rfl ?_
  repeat(first|refine run1 ?_|((with_reducible apply st_call);exact rfl;exact rfl;exact rfl;first|(exact d_square (hf := hf) (by omega) h0 (by omega)))|((with_reducible apply st_callg);exact rfl;exact rfl;(first|exact rfl|assumption);exact rfl;exact rfl;exact rfl;first|(exact d_square (hf := hf) (by omega) h0 (by omega))))
  refine awp_no rfl rfl ?_
  refine run0 ?_
  ((with_reducible apply st_callH); exact rfl; exact rfl; exact rfl; exact (d_of0 hn h0); (first | exact True.intro | exact ⟨rfl, rfl, rfl, True.intro⟩); exact rfl; exact rfl; exact rfl; exact rfl; (focus (repeat (first | exact True.intro | refine ⟨(by first | exact True.intro | rfl | exact ok_none (closed_ok rfl)), ?_⟩))); (first | exact True.intro | exact okf_WH))
  refine run0 ?_
  ((with_reducible apply st_callH); exact rfl; exact rfl; exact rfl; exact (d_steps (all := false) (hA := wA) (by omega) hn (by omega) (Nat.le_refl _)); (first | exact True.intro | exact ⟨rfl, rfl, rfl, True.intro⟩); exact rfl; exact rfl; exact rfl; exact rfl; (focus (repeat (first | exact True.intro | refine ⟨(by first | exact True.intro | rfl | exact ok_none (closed_ok rfl)), ?_⟩))); (first | exact True.intro | exact okf_WH))
  refine run0 ?_
  refine ⟨.inr rfl, _, Imp.refl _, ?_⟩
  exact .one (.tmp rfl)
end Go.Proofs.Ytjmpanhacfjcaaa.AM
/- Laws of dense matrices: walks: what they share. -/
namespace Go.Proofs.Ytjmpanhacfjcaaa.AM
open Go Go.RowKit Go.Proofs.Ytjmpanhacfjcaaa.PN Go.Proofs.Ytjmpanhacfjcaaa.V
open Go.Proofs.Ytjmpanhacfjcaaa.LA (S S_succ S_zero S_congr)
set_option linter.unusedVariables false
set_option linter.unusedSimpArgs false
set_option maxRecDepth 4000
set_option maxHeartbeats 4000000
theorem gdet_one {x : Rat} (h : x ≠ 0) : gdet 1 (fun _ _ => x) = x := by
  have e : gs 1 (fun _ _ => x) = ⟨1, x, swp (fun i => i) 0 0, cln (aug 1 (fun _ _ => x) fun _ _ => 0) (swp (fun i => i) 0 0) false 0 0 1 1⟩ := by
    show stp 1 1 false ⟨0, 1, fun i => i, aug 1 (fun _ _ => x) fun _ _ => 0⟩ 0 = _
    have hf : fnd (fun i => aug 1 (fun _ _ => x) (fun _ _ => 0) i 0 ≠ 0) 1 0 = 0 := by
      unfold fnd; rw [if_pos]; exact h
    unfold stp
    show (if fnd (fun i => aug 1 (fun _ _ => x) (fun _ _ => 0) i 0 ≠ 0) 1 0 < 1 then _ else _) = _
    rw [if_pos (by rw [hf]; decide)]
    show ES.mk _ _ _ _ = _
    simp only [show fnd (fun i => aug 1 (fun _ _ => x) (fun _ _ => 0) i 0 ≠ 0) (1 - 0) 0 = 0 from hf]
    congr 1
    show det1 1 0 0 * x = x
    unfold det1
    rw [if_pos rfl, Rat.one_mul]
  unfold gdet
  rw [e]
  exact if_neg (Nat.lt_irrefl 1)
theorem c_three : Has Try.prog 36 [.i 3] (.q 3) := by
  have h := hs_int 3 (by decide) (by decide)
  rw [show ((3 : Int) : Rat) = 3 from rfl] at h
  exact h
theorem k_known : Has Try.prog 11 [] (.b true) := by
  refine has_of Try.func11 (by kernel_rfl) rfl Try.ntmps11 Try.results11 rfl rfl rfl ?_
  have w3 : Wt 3 10 := ⟨by decide⟩
  repeat(first|refine run1 ?_|((with_reducible apply st_call);exact rfl;exact rfl;exact rfl;first|(exact c_three))|((with_reducible apply st_callg);exact rfl;exact rfl;(first|exact rfl|assumption);exact rfl;exact rfl;exact rfl;first|(exact c_three)))
  with_reducible apply st_callO [2, 3]
  · exact rfl
  · exact rfl
  · exact rfl
  · refine .cons (.mat (n := 1) (m := fun _ => 1) (G := fun _ _ => .q 3) rfl (by decide) rfl (by decide) fun i hi => ?_) .nil
    obtain rfl : i = 0 := by omega
    refine .own rfl (by decide) rfl (by decide) fun j hj => ?_
    obtain rfl : j = 0 := by omega
    rfl
  · exact d_Det (F := fun _ _ => 3) (hf := fun _ _ => w3) (by decide) (by decide) (by decide)
  · exact rfl
  rw [gdet_one (show (3 : Rat) ≠ 0 by decide)]
  repeat(first|refine run1 ?_|((with_reducible apply st_call);exact rfl;exact rfl;exact rfl;first|(exact c_three)|(exact cs_same ⟨by omega, by omega⟩))|((with_reducible apply st_callg);exact rfl;exact rfl;(first|exact rfl|assumption);exact rfl;exact rfl;exact rfl;first|(exact c_three)|(exact cs_same ⟨by omega, by omega⟩)))
  refine ⟨.inr rfl, _, Imp.refl _, ?_⟩
  have e : decide ((3 : Rat) = 3) = true := decide_eq_true rfl
  exact .one (.tmp (congrArg (fun b => some (AV.b b)) e))
/-! ### Numbers that are drawn -/
theorem hs_of (n d : Int) (h1 : -9223372036854775808 ≤ n) (h2 : n < 9223372036854775808) (h3 : 0 < d) (h4 : d < 9223372036854775808) : Has Try.prog 43 [.i n, .i d] (.tup (.q ((n : Rat) / (d : Rat))) (.i 0)) := by
  refine ⟨by kernel_rfl, ⟨trivial, trivial⟩, fun w S β vs hv => ?_⟩
  obtain ⟨v, u, rfl, e1, e2⟩ := rvs2 hv
  have e1 : v = .int .i64 n := e1
  have e2 : u = .int .i64 d := e2
  subst e1; subst e2
  refine (s_of n d w h1 h2 (by omega) h4 (by omega)).mono ?_
  rintro e w' ⟨s, vn, vd, rfl, h1, h2⟩
  refine ⟨_, rfl, h2, _, _, rfl, ?_, rfl⟩
  have hq : mk (decide (n < 0) != decide (d < 0)) n.natAbs d.natAbs = (n : Rat) / (d : Rat) := by
    have h5 : (decide (n < 0) != decide (d < 0)) = decide (n < 0) := by rw [decide_eq_false (show ¬ d < 0 by omega)]; simp
    rw [h5]
    have h6 : PN.sg (decide (n < 0)) n.natAbs = n := by
      unfold PN.sg
      by_cases h : n < 0
      · rw [decide_eq_true h]; simp; omega
      · rw [decide_eq_false h]; simp; omega
    unfold mk
    rw [h6, Rat.mkRat_eq_div]
    have h7 : ((d.natAbs : Nat) : Int) = d := by omega
    rw [show ((d.natAbs : Nat) : Rat) = (((d.natAbs : Nat) : Int) : Rat) from rfl, h7]
  rw [← hq]
  exact rat_rv h1
/-- A number from 0 to n - 1. -/
def wthn (a n : Int) : Int := if a.tmod n < 0 then a.tmod n + n else a.tmod n
theorem wthn_lt {a n : Int} (hn : 0 < n) : 0 ≤ wthn a n ∧ wthn a n < n := by
  unfold wthn
  have h1 := Int.tmod_lt_of_pos a hn
  have h2 : -n < a.tmod n := Int.lt_tmod_of_pos a hn
  split <;> omega
theorem k_within2 {a n : Int} (hn : 0 < n) (hn' : n < 1000000000) : Has Try.prog 45 [.i a, .i n] (.i (wthn a n)) := by
  refine has_of Try.func45 (by kernel_rfl) rfl Try.ntmps45 Try.results45 rfl rfl rfl ?_
  have h1 := Int.tmod_lt_of_pos a hn
  have h2 : -n < a.tmod n := Int.lt_tmod_of_pos a hn
  refine run0 ?_
  refine awp_if rfl (fun h => ?_) (fun h => ?_)
  · have e : wthn a n = a.tmod n + n := if_pos h
    rw [e]
    refine run0 ?_
    refine ⟨.inr rfl, _, Imp.refl _, ?_⟩
    exact .one (.tmp rfl)
  · have e : wthn a n = a.tmod n := if_neg h
    rw [e]
    refine run0 ?_
    refine ⟨.inr rfl, _, Imp.refl _, ?_⟩
    exact .one (.tmp rfl)
theorem k_within7 {a n : Int} (hn : 0 < n) (hn' : n < 1000000000) : Has Try.prog 12 [.i a, .i n] (.i (wthn a n)) := by
  refine has_of Try.func12 (by kernel_rfl) rfl Try.ntmps12 Try.results12 rfl rfl rfl ?_
  have h1 := Int.tmod_lt_of_pos a hn
  have h2 : -n < a.tmod n := Int.lt_tmod_of_pos a hn
  refine run0 ?_
  refine awp_if rfl (fun h => ?_) (fun h => ?_)
  · have e : wthn a n = a.tmod n + n := if_pos h
    rw [e]
    refine run0 ?_
    refine ⟨.inr rfl, _, Imp.refl _, ?_⟩
    exact .one (.tmp rfl)
  · have e : wthn a n = a.tmod n := if_neg h
    rw [e]
    refine run0 ?_
    refine ⟨.inr rfl, _, Imp.refl _, ?_⟩
    exact .one (.tmp rfl)
/-- A small number. -/
def smal (a : Int) : Rat := ((wthn a 41 - 20 : Int) : Rat) / ((1 + wthn (a.tdiv 41) 5 : Int) : Rat)
theorem smal_key : ∀ x : _root_.Fin 41, ∀ y : _root_.Fin 5, wt ((((x.val : Int) - 20 : Int) : Rat) / ((1 + (y.val : Int) : Int) : Rat)) ≤ 1 := by decide +kernel
instance smal_wt (a : Int) : Wt (smal a) 1 := ⟨by
  obtain ⟨h1, h2⟩ := wthn_lt (a := a) (n := 41) (by decide)
  obtain ⟨h3, h4⟩ := wthn_lt (a := a.tdiv 41) (n := 5) (by decide)
  have := smal_key ⟨(wthn a 41).toNat, by omega⟩ ⟨(wthn (a.tdiv 41) 5).toNat, by omega⟩
  rw [show (((wthn a 41).toNat : Nat) : Int) = wthn a 41 by omega, show (((wthn (a.tdiv 41) 5).toNat : Nat) : Int) = wthn (a.tdiv 41) 5 by omega] at this
  exact this⟩
theorem k_small {a : Int} (ha : Fits .i64 a) : Has Try.prog 14 [.i a] (.q (smal a)) := by
  refine has_of Try.func14 (by kernel_rfl) rfl Try.ntmps14 Try.results14 rfl rfl rfl ?_
  obtain ⟨h1, h2⟩ := wthn_lt (a := a) (n := 41) (by decide)
  obtain ⟨h3, h4⟩ := wthn_lt (a := a.tdiv 41) (n := 5) (by decide)
  have hf : -9223372036854775808 ≤ a ∧ a ≤ 9223372036854775807 := ha
  have h5 : Fits .i64 (a.tdiv 41) := by
    have e1 : (a.tdiv 41).natAbs = a.natAbs / 41 := Int.natAbs_tdiv a 41
    show -9223372036854775808 ≤ _ ∧ _ ≤ (9223372036854775807 : Int)
    omega
  obtain ⟨h5a, h5b⟩ : -9223372036854775808 ≤ a.tdiv 41 ∧ a.tdiv 41 ≤ 9223372036854775807 := h5
  repeat(first|refine run1 ?_|((with_reducible apply st_call);exact rfl;exact rfl;exact rfl;first|(exact k_within2 (by decide) (by decide))|(exact hs_of _ _ (by omega) (by omega) (by omega) (by omega)))|((with_reducible apply st_callg);exact rfl;exact rfl;(first|exact rfl|assumption);exact rfl;exact rfl;exact rfl;first|(exact k_within2 (by decide) (by decide))|(exact hs_of _ _ (by omega) (by omega) (by omega) (by omega))))
  refine ⟨.inr rfl, _, Imp.refl _, ?_⟩
  exact .one (.rat rfl rfl (by decide) rfl (by decide) rfl)
end Go.Proofs.Ytjmpanhacfjcaaa.AM
/- Laws of dense matrices: walks: rows of numbers. -/
namespace Go.Proofs.Ytjmpanhacfjcaaa.AM
open Go Go.RowKit Go.Proofs.Ytjmpanhacfjcaaa.PN Go.Proofs.Ytjmpanhacfjcaaa.V
open Go.Proofs.Ytjmpanhacfjcaaa.LA (S S_succ S_zero S_congr)
set_option linter.unusedVariables false
set_option linter.unusedSimpArgs false
set_option maxRecDepth 4000
set_option maxHeartbeats 4000000
/-- What a list of whole numbers says at a place. -/
def rowx (zs : List Int) (i : Nat) : Int := if i < zs.length then zs.getD i 0 else 3 * i + 1
def rowq (zs : List Int) (i : Nat) : Rat := smal (rowx zs i)
instance rowq_wt (zs : List Int) (i : Nat) : Wt (rowq zs i) 1 := smal_wt _
/-- Family g of one block, named anew: it was a. -/
def s1 (g a : Nat) : Ren := fun g' r => if g' = g then (a, r) else (g', r)
theorem s1_inj (g a g1 r1 g2 r2 : Nat) (h1 : memN g1 [g] = true) (h2 : memN g2 [g] = true) (e : s1 g a g1 r1 = s1 g a g2 r2) : g1 = g2 ∧ r1 = r2 := by
  have m1 := memN_spec h1
  have m2 := memN_spec h2
  simp only [List.mem_singleton] at m1 m2
  subst m1; subst m2
  unfold s1 at e
  rw [if_pos rfl, if_pos rfl] at e
  cases e; exact ⟨rfl, rfl⟩
def rowS (e : List (Nat × AV)) (v : Nat → RA) : Nat → St
  | 0 => stl ((5, .v (.slice none 0 0)) :: e) []
  | k + 1 => stl ((5, .own 5 0) :: e) [(5, (1, fun _ => .rats (k + 1) v))]
theorem row_close {s : St} {e : List (Nat × AV)} {k : Nat} {v f : Nat → RA} {F : Nat → Blk} {a : Nat} (h5 : s.env 5 = some (.own a 0)) (ha : s.heap a = some (1, F)) (hF : F 0 = .rats (k + 1) f) (hf : ∀ i, i < k + 1 → f i = v i) (h60 : s.used 60 = false) (he : AllE s (s1 5 a) (fun g => memN g [5]) e) : Imp s (rowS e v (k + 1)) := by
  refine imp_stl (h := [(5, (1, fun _ => .rats (k + 1) v))]) (s1 5 a) (fun h => by rw [h60] at h; cases h) (fun g r g' r' h1 h2 => s1_inj 5 a g r g' r' h1 h2) ⟨⟨_, h5, Le.own (by unfold s1; rw [if_pos rfl]), rfl⟩, he⟩ ⟨fun r hr => ?_, trivial⟩ (by rw [h60]; rfl)
  obtain rfl : r = 0 := by omega
  have e1 : s1 5 a 5 0 = (a, 0) := by unfold s1; rw [if_pos rfl]
  rw [e1]
  refine ⟨1, F, ha, Nat.zero_lt_one, ?_, trivial⟩
  show BLe _ (F 0) _
  rw [hF]; exact blen rfl hf
theorem k_row {zs : List Int} {n : Nat} (hn : n ≤ 1000) (hz : ∀ i, i < zs.length → Fits .i64 (zs.getD i 0)) : Has Try.prog 21 [.seq .i64 zs, .i n] (.row true n (fun i => .q (rowq zs i))) := by
  refine has_of Try.func21 (by kernel_rfl) rfl Try.ntmps21 Try.results21 rfl rfl rfl ?_
  refine run0 ?_
  refine awp_loop (fun m s => ∃ k, k ≤ n ∧ m = n - k ∧ s = rowS [(0, .seq .i64 zs), (1, .i n), (6, .i (k : Int))] (fun i => .q (rowq zs i)) k) n _ (imp_id (h := []) (e := [(5, .v (.slice none 0 0)), (0, .seq .i64 zs), (1, .i n), (6, .i ((0 : Nat) : Int))]) ?_ ?_) ⟨0, Nat.zero_le _, rfl, rfl⟩ ?_
  · exact eA
  · exact True.intro
  · rintro m s ⟨k, hk, rfl, rfl⟩
    have hx : ∀ k : Nat, k < zs.length → rowx zs k = zs.getD k 0 := fun k h => if_pos h
    have hy : ∀ k : Nat, ¬ k < zs.length → rowx zs k = 3 * (k : Int) + 1 := fun k h => if_neg h
    rcases k with _ | k
    · refine run0 ?_
      refine awp_if rfl (fun h => ?_) (fun h => ?_)
      · have h : 0 < n := by omega
        refine run0 ?_
        refine awp_if rfl (fun h1 => ?_) (fun h1 => ?_)
        · have h1' : (((0 : Nat) : Int)) < (zs.length : Int) := h1
          have h1 : 0 < zs.length := by omega
          have hf := hz 0 h1
          repeat(first|refine run1 ?_|((with_reducible apply st_call);exact rfl;exact rfl;exact rfl;first|(exact k_small hf))|((with_reducible apply st_callg);exact rfl;exact rfl;(first|exact rfl|assumption);exact rfl;exact rfl;exact rfl;first|(exact k_small hf)))
          refine q_loop ?_ (row_close (k := 0) (a := 28) rfl rfl rfl ?_ rfl ?_) ⟨0 + 1, ?_, rfl, rfl⟩
          · omega
          · intro i hi
            obtain rfl : i = 0 := by omega
            exact congrArg (fun x => RA.q (smal x)) (hx 0 h1).symm
          · refine alle rfl (Le.eq rfl rfl) True.intro (alle rfl (Le.eq rfl rfl) True.intro (alle rfl (Le.eq rfl rfl) True.intro True.intro))
          · omega
        · have h1' : ¬ (((0 : Nat) : Int)) < (zs.length : Int) := h1
          have h1 : ¬ 0 < zs.length := by omega
          have hf : Fits .i64 (3 * ((0 : Nat) : Int) + 1) := by show _ ∧ _; omega
          repeat(first|refine run1 ?_|((with_reducible apply st_call);exact rfl;exact rfl;exact rfl;first|(exact k_small hf))|((with_reducible apply st_callg);exact rfl;exact rfl;(first|exact rfl|assumption);exact rfl;exact rfl;exact rfl;first|(exact k_small hf)))
          refine q_loop ?_ (row_close (k := 0) (a := 28) rfl rfl rfl ?_ rfl ?_) ⟨0 + 1, ?_, rfl, rfl⟩
          · omega
          · intro i hi
            obtain rfl : i = 0 := by omega
            exact congrArg (fun x => RA.q (smal x)) (hy 0 h1).symm
          · refine alle rfl (Le.eq rfl rfl) True.intro (alle rfl (Le.eq rfl rfl) True.intro (alle rfl (Le.eq rfl rfl) True.intro True.intro))
          · omega
      · obtain rfl : 0 = n := by omega
        refine run0 ?_
        refine ⟨.inr rfl, _, imp_slot (y := .row true 0 fun i => .q (rowq zs i)) 4 rfl True.intro Le.nilrow, ?_⟩
        exact .one (.tmp rfl)
    · refine run0 ?_
      refine awp_if rfl (fun h => ?_) (fun h => ?_)
      · have h : (k + 1) < n := by omega
        refine run0 ?_
        refine awp_if rfl (fun h1 => ?_) (fun h1 => ?_)
        · have h1' : ((((k + 1) : Nat) : Int)) < (zs.length : Int) := h1
          have h1 : (k + 1) < zs.length := by omega
          have hf := hz (k + 1) h1
          repeat(first|refine run1 ?_|((with_reducible apply st_call);exact rfl;exact rfl;exact rfl;first|(exact k_small hf))|((with_reducible apply st_callg);exact rfl;exact rfl;(first|exact rfl|assumption);exact rfl;exact rfl;exact rfl;first|(exact k_small hf)))
          refine q_loop ?_ (row_close (k := (k + 1)) (a := 28) rfl rfl rfl ?_ rfl ?_) ⟨(k + 1) + 1, ?_, rfl, rfl⟩
          · omega
          · intro i hi
            by_cases e : i < k + 1
            · exact if_pos e
            · obtain rfl : i = k + 1 := by omega
              refine (if_neg (Nat.lt_irrefl _)).trans ?_
              rw [Nat.sub_self]
              exact congrArg (fun x => RA.q (smal x)) (hx (k + 1) h1).symm
          · refine alle rfl (Le.eq rfl rfl) True.intro (alle rfl (Le.eq rfl rfl) True.intro (alle rfl (Le.eq rfl rfl) True.intro True.intro))
          · omega
        · have h1' : ¬ ((((k + 1) : Nat) : Int)) < (zs.length : Int) := h1
          have h1 : ¬ (k + 1) < zs.length := by omega
          have hf : Fits .i64 (3 * (((k + 1) : Nat) : Int) + 1) := by show _ ∧ _; omega
          repeat(first|refine run1 ?_|((with_reducible apply st_call);exact rfl;exact rfl;exact rfl;first|(exact k_small hf))|((with_reducible apply st_callg);exact rfl;exact rfl;(first|exact rfl|assumption);exact rfl;exact rfl;exact rfl;first|(exact k_small hf)))
          refine q_loop ?_ (row_close (k := (k + 1)) (a := 28) rfl rfl rfl ?_ rfl ?_) ⟨(k + 1) + 1, ?_, rfl, rfl⟩
          · omega
          · intro i hi
            by_cases e : i < k + 1
            · exact if_pos e
            · obtain rfl : i = k + 1 := by omega
              refine (if_neg (Nat.lt_irrefl _)).trans ?_
              rw [Nat.sub_self]
              exact congrArg (fun x => RA.q (smal x)) (hy (k + 1) h1).symm
          · refine alle rfl (Le.eq rfl rfl) True.intro (alle rfl (Le.eq rfl rfl) True.intro (alle rfl (Le.eq rfl rfl) True.intro True.intro))
          · omega
      · obtain rfl : (k + 1) = n := by omega
        refine run0 ?_
        refine ⟨.inr rfl, _, imp_row 4 rfl rfl rfl, ?_⟩
        exact .one (.tmp rfl)
end Go.Proofs.Ytjmpanhacfjcaaa.AM
/- Laws of dense matrices: walks: rows and matrices that are the same; ones. -/
namespace Go.Proofs.Ytjmpanhacfjcaaa.AM
open Go Go.RowKit Go.Proofs.Ytjmpanhacfjcaaa.PN Go.Proofs.Ytjmpanhacfjcaaa.V
open Go.Proofs.Ytjmpanhacfjcaaa.LA (S S_succ S_zero S_congr)
set_option linter.unusedVariables false
set_option linter.unusedSimpArgs false
set_option maxRecDepth 4000
set_option maxHeartbeats 4000000
theorem k_rows {n K : Nat} {f g : Nat → Rat} [hf : ∀ i, Wt (f i) K] (hK : K ≤ 1000000000000) (hn : n ≤ 1000) (h : ∀ i, i < n → f i = g i) : Has Try.prog 24 [.row false n (fun i => .q (f i)), .row false n (fun i => .q (g i))] (.b true) := by
  refine has_of Try.func24 (by kernel_rfl) rfl Try.ntmps24 Try.results24 rfl rfl rfl ?_
  refine run0 ?_
  refine awp_no rfl (decide_eq_false (fun h => h rfl)) ?_
  refine run0 ?_
  refine awp_loop (fun m s => ∃ k, k ≤ n ∧ m = n - k ∧ s = stl [(0, .row false n (fun i => .q (f i))), (1, .row false n (fun i => .q (g i))), (5, .i (k : Int))] []) n _ (imp_id ?_ ?_) ⟨0, Nat.zero_le _, rfl, rfl⟩ ?_
  · exact eA
  · exact hA
  · rintro m s ⟨k, hk, rfl, rfl⟩
    refine run0 ?_
    refine awp_if rfl (fun h1 => ?_) (fun h1 => ?_)
    · have h1 : k < n := by omega
      have e := h k h1
      have wg : Wt (g k) K := by rw [← e]; exact hf k
      have C := cs_same (p := f k) (q := g k) ⟨hK, hK⟩
      rw [decide_eq_true e] at C
      repeat(first|refine run1 ?_|((with_reducible apply st_call);exact rfl;exact rfl;exact rfl;first|(exact C))|((with_reducible apply st_callg);exact rfl;exact rfl;(first|exact rfl|assumption);exact rfl;exact rfl;exact rfl;first|(exact C)))
      refine awp_no rfl rfl ?_
      refine run0 ?_
      refine q_loop ?_ (imp_id ?_ ?_) ⟨k + 1, ?_, rfl, rfl⟩
      · omega
      · exact eA
      · exact hA
      · omega
    · refine run0 ?_
      refine ⟨.inr rfl, _, Imp.refl _, ?_⟩
      exact .one (.tmp rfl)
theorem k_all {n m K : Nat} {F G : Nat → Nat → Rat} [hf : ∀ i j, Wt (F i j) K] (hK : K ≤ 1000000000000) (hn : n ≤ 1000) (hm : m ≤ 1000) (h : ∀ i, i < n → ∀ j, j < m → F i j = G i j) : Has Try.prog 37 [.mat false n (fun _ => m) (fun i j => .q (F i j)), .mat false n (fun _ => m) (fun i j => .q (G i j))] (.b true) := by
  refine has_of Try.func37 (by kernel_rfl) rfl Try.ntmps37 Try.results37 rfl rfl rfl ?_
  refine run0 ?_
  refine awp_no rfl (decide_eq_false (fun h => h rfl)) ?_
  refine run0 ?_
  refine awp_loop (fun m' s => ∃ k, k ≤ n ∧ m' = n - k ∧ s = stl [(0, .mat false n (fun _ => m) (fun i j => .q (F i j))), (1, .mat false n (fun _ => m) (fun i j => .q (G i j))), (5, .i (k : Int))] []) n _ (imp_id ?_ ?_) ⟨0, Nat.zero_le _, rfl, rfl⟩ ?_
  · exact eA
  · exact hA
  · rintro m' s ⟨k, hk, rfl, rfl⟩
    refine run0 ?_
    refine awp_if rfl (fun h1 => ?_) (fun h1 => ?_)
    · have h1 : k < n := by omega
      repeat(first|refine run1 ?_|((with_reducible apply st_call);exact rfl;exact rfl;exact rfl;first|(exact k_rows (hf := hf k) hK hm (h k h1)))|((with_reducible apply st_callg);exact rfl;exact rfl;(first|exact rfl|assumption);exact rfl;exact rfl;exact rfl;first|(exact k_rows (hf := hf k) hK hm (h k h1))))
      refine awp_no rfl rfl ?_
      refine run0 ?_
      refine q_loop ?_ (imp_id ?_ ?_) ⟨k + 1, ?_, rfl, rfl⟩
      · omega
      · exact eA
      · exact hA
      · omega
    · refine run0 ?_
      refine ⟨.inr rfl, _, Imp.refl _, ?_⟩
      exact .one (.tmp rfl)
end Go.Proofs.Ytjmpanhacfjcaaa.AM

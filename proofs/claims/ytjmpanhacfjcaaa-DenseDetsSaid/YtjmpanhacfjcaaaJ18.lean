/- Joined texts, 18: DnG PElim. -/
import Derived.Test.YtjmpanhacfjcaaaJ17
/- Dense matrices: walks: rows on which steps are done. -/
namespace Go.Proofs.Ytjmpanhacfjcaaa.AM
open Go Go.RowKit Go.Proofs.Ytjmpanhacfjcaaa.PN Go.Proofs.Ytjmpanhacfjcaaa.V
open Go.Proofs.Ytjmpanhacfjcaaa.LA (S S_succ S_zero S_congr)
set_option linter.unusedVariables false
set_option linter.unusedSimpArgs false
set_option maxRecDepth 4000
set_option maxHeartbeats 2000000
theorem HasH.arg2 {P : Program} {f : FuncId} {h h' : List (Nat × Fam)} {a x x' r : AV} (H : HasH P f h [a, x'] r h') (hx : ∀ S B β w v, RV S B β w x v → RV S B β w x' v) (hok : x'.ok (fun _ => false)) : HasH P f h [a, x] r h' := by
  refine ⟨H.b, fun W β w vs hl hF hs => H.run W β w vs hl hF ⟨hs.kept, hs.nodef, hs.size, fun t y hy => ?_, hs.heap, hs.live, hs.inj, hs.fix, hs.pin, hs.fixd, hs.keep⟩⟩
  match t, hy with
  | 0, hy => exact hs.env 0 y hy
  | 1, hy => cases hy; exact ⟨ok_none hok, hx _ _ _ _ _ (hs.env 1 x rfl).2⟩
/-- Rows with something beside each. -/
def aug (n : Nat) (F G : Nat → Nat → Rat) : Nat → Nat → Rat := fun i j => if j < n then F i j else G i (j - n)
/-- The variable, before it bears rows. -/
def wk0 (y : AV) : Nat → AV := fun i => match i with
  | 0 => y
  | 1 => .rs (.q 1)
  | 2 => .rn (.q 1)
  | _ => .rd (.q 1)
theorem wk0_ok {U : Nat → Bool} {y : AV} (hy : y.ok U) : ∀ i, (wk0 y i).ok U := fun i => by
  match i with
  | 0 => exact hy
  | 1 => trivial
  | 2 => trivial
  | _ + 3 => trivial
def offs (m k : Nat) (A : Nat → Nat → Rat) : List (Nat × Fam) := match k with
  | 0 => [(10, (1, fun _ => .ones 81 4 (wk0 (.v (.slice none 0 0)))))]
  | k + 1 => [(10, (1, fun _ => .ones 81 4 (wk0 (.own 11 0)))), (11, (1, fun _ => .ones WT (k + 1) (fun i => .own 12 i))), (12, (k + 1, fun r => .rats m (fun j => .q (A r j))))]
def sg (k : Nat) : Ren := fun g r => if g = 12 then (if r < k then (12, r) else (32, r - k)) else if g = 11 then (34, r) else (g, r)
theorem sg_inj (k : Nat) (g r g' r' : Nat) (hg : memN g [10, 11, 12] = true) (hg' : memN g' [10, 11, 12] = true) (e : sg k g r = sg k g' r') : g = g' ∧ r = r' := by
  have m1 := memN_spec hg
  have m2 := memN_spec hg'
  simp only [List.mem_cons, List.not_mem_nil, or_false] at m1 m2
  unfold sg at e
  rcases m1 with rfl | rfl | rfl <;> rcases m2 with rfl | rfl | rfl <;> simp at e ⊢
  · exact e
  · split at e <;> simp at e
  · exact e
  · split at e <;> simp at e
  · split at e <;> simp at e
  · split at e <;> simp at e
  · split at e <;> split at e <;> simp at e <;> omega
theorem of_close {s : St} {e : List (Nat × AV)} {k m : Nat} {A : Nat → Nat → Rat} {F0 F1 F2 F3 : Nat → Blk} {f0 f1 : Nat → AV} (h10 : s.heap 10 = some (1, F0)) (e10 : F0 0 = .ones 81 4 f0) (g10 : ∀ i, i < 4 → f0 i = wk0 (.own 34 0) i)
    (h34 : s.heap 34 = some (1, F1)) (e34 : F1 0 = .ones WT (k + 1) f1) (g34 : ∀ i, i < k → f1 i = .own 12 i) (g34' : f1 k = .own 32 0) (h12 : 0 < k → s.heap 12 = some (k, F2)) (g12 : ∀ r, r < k → BLe (sg k) (F2 r) (.rats m fun j => .q (A r j)))
    (h32 : s.heap 32 = some (1, F3)) (g32 : BLe (sg k) (F3 0) (.rats m fun j => .q (A k j))) (h60 : s.used 60 = false) (he : AllE s (sg k) (fun g => memN g [10, 11, 12]) e) : Imp s (stl e (offs m (k + 1) A)) := by
  refine imp_stl (h := offs m (k + 1) A) (sg k) (fun h => by rw [h60] at h; cases h) (fun g r g' r' h1 h2 => sg_inj k g r g' r' h1 h2) he ⟨fun r hr => ?_, fun r hr => ?_, fun r hr => ?_, trivial⟩ (by rw [h60]; rfl)
  · obtain rfl : r = 0 := by omega
    refine ⟨1, F0, h10, Nat.zero_lt_one, ?_, fun i hi => wk0_ok (U := fun g => memN g [10, 11, 12]) (y := .own 11 0) rfl i⟩
    show BLe (sg k) (F0 0) _
    rw [e10]
    refine bleo rfl fun i hi => ?_
    rw [g10 i hi]
    match i, hi with
    | 0, _ => exact Le.own rfl
    | 1, _ => exact Le.same trivial
    | 2, _ => exact Le.same trivial
    | 3, _ => exact Le.same trivial
  · obtain rfl : r = 0 := by omega
    refine ⟨1, F1, h34, Nat.zero_lt_one, ?_, fun i hi => rfl⟩
    show BLe (sg k) (F1 0) _
    rw [e34]
    refine bleo rfl fun i hi => ?_
    by_cases e : i < k
    · rw [g34 i e]; exact Le.own (by unfold sg; rw [if_pos rfl, if_pos e])
    · obtain rfl : i = k := by omega
      rw [g34']; exact Le.own (by unfold sg; rw [if_pos rfl, if_neg e, Nat.sub_self])
  · by_cases e : r < k
    · have e1 : sg k 12 r = (12, r) := by unfold sg; rw [if_pos rfl, if_pos e]
      rw [e1]
      exact ⟨k, F2, h12 (by omega), e, g12 r e, trivial⟩
    · obtain rfl : r = k := by omega
      have e1 : sg r 12 r = (32, 0) := by unfold sg; rw [if_pos rfl, if_neg e, Nat.sub_self]
      rw [e1]
      exact ⟨1, F3, h32, by decide, g32, trivial⟩
def sf : Ren := fun g r => if g = 60 then (10, r) else if g = 61 then (11, r) else if g = 62 then (12, r) else (g, r)
theorem sf_inj (g r g' r' : Nat) (hg : memN g [60, 61, 62] = true) (hg' : memN g' [60, 61, 62] = true) (e : sf g r = sf g' r') : g = g' ∧ r = r' := by
  have m1 := memN_spec hg
  have m2 := memN_spec hg'
  simp only [List.mem_cons, List.not_mem_nil, or_false] at m1 m2
  unfold sf at e
  rcases m1 with rfl | rfl | rfl <;> rcases m2 with rfl | rfl | rfl <;> simp at e ⊢
  · exact e
  · exact e
  · exact e
theorem of_end {s : St} {e : List (Nat × AV)} {k m : Nat} {A : Nat → Nat → Rat} (h10 : s.heap 10 = some (1, fun _ => .ones 81 4 (wk0 (.own 11 0)))) (h11 : s.heap 11 = some (1, fun _ => .ones WT (k + 1) (fun i => .own 12 i))) (h12 : s.heap 12 = some (k + 1, fun r => .rats m (fun j => .q (A r j)))) (h60 : s.used 60 = false)
    (he : AllE s sf (fun g => memN g [60, 61, 62]) e) : Imp s (stl e (WH (k + 1) m 1 (fun i => i) A)) := by
  refine imp_stl (h := WH (k + 1) m 1 (fun i => i) A) sf (fun h => by rw [h60] at h; cases h) sf_inj he ⟨fun r hr => ?_, fun r hr => ?_, fun r hr => ?_, trivial⟩ (by rw [h60]; rfl)
  · obtain rfl : r = 0 := by omega
    refine ⟨1, _, h10, Nat.zero_lt_one, bleo rfl fun i hi => ?_, fun i hi => wk_ok rfl 1 i⟩
    match i, hi with
    | 0, _ => exact Le.own rfl
    | 1, _ => exact Le.same trivial
    | 2, _ => exact Le.same trivial
    | 3, _ => exact Le.same trivial
  · obtain rfl : r = 0 := by omega
    exact ⟨1, _, h11, Nat.zero_lt_one, bleo rfl fun i hi => Le.own rfl, fun i hi => rfl⟩
  · exact ⟨k + 1, _, h12, hr, blen rfl fun j hj => rfl, trivial⟩
theorem d_of {n e mm : Nat} {g : FuncId} {c : Nat → AV} {F G : Nat → Nat → Rat} (hn : n ≤ 8) (h0 : 0 < n) (he : e ≤ 1) (hc : (AV.clo g mm c).closed = true) (H : ∀ i, i < n → Has Try.prog g (([AV.i i] ++ (List.range mm).map c).map AV.old) (.row false e (fun j => .q (G i j)))) :
    HasH Try.prog 53 [] [.mat false n (fun _ => n) (fun i j => .q (F i j)), .clo g mm c] (.ptr 60 0 0) (WH n (n + e) 1 (fun i => i) (aug n F G)) := by
  refine hasH_of Try.func53 (by kernel_rfl) rfl Try.ntmps53 Try.results53 rfl rfl rfl ?_
  repeat(first|(with_reducible first|refine awp_seq ?_|refine awp_block ?_|refine awp_skip ?_|refine awp_exit ?_|refine awp_ret ?_|refine q_then ?_|refine q_block ?_|refine q_then_exit ?_|refine q_then_ret ?_|refine q_block_exit ?_|refine q_block_ret ?_|refine q_loop_exit ?_|refine q_loop_ret ?_)|((with_reducible refine q_block_other ?_ ?_);exact rfl)|((with_reducible refine reg ?_ ?_);exact rfl)|((with_reducible refine st_end ?_ ?_);first|exact .inl rfl|exact .inr rfl)|(with_reducible apply st_build0)|((with_reducible apply st_ev);exact rfl;(first|exact True.intro|((repeat' apply And.intro)<;>first|exact True.intro|with_reducible rfl|(simp only[Fits];omega)|omega|assumption|decide|(simp;done)|exact rfl)))|((with_reducible apply st_evg);exact rfl;exact rfl;(first|exact rfl|assumption);exact rfl;(first|exact True.intro|((repeat' apply And.intro)<;>first|exact True.intro|with_reducible rfl|(simp only[Fits];omega)|omega|assumption|decide|(simp;done)|exact rfl)))|((with_reducible apply st_skip);exact rfl;exact rfl;(first|exact rfl|assumption))|((with_reducible apply st_app0);exact rfl;exact rfl;exact rfl;omega)|((with_reducible apply st_skipu);exact rfl;exact rfl)|((with_reducible apply st_pickt);exact rfl;assumption;exact rfl)|((with_reducible apply st_pickf);exact rfl;assumption;exact rfl)|((with_reducible apply st_pickgt);exact rfl;exact rfl;(first|exact rfl|assumption);exact rfl;(first|exact rfl|assumption);exact rfl)|((with_reducible apply st_pickgf);exact rfl;exact rfl;(first|exact rfl|assumption);exact rfl;(first|exact rfl|assumption);exact rfl)|((with_reducible apply st_build);exact rfl;first|exact rfl|(first|exact True.intro|((repeat' apply And.intro)<;>first|exact True.intro|with_reducible rfl|(simp only[Fits];omega)|omega|assumption|decide|(simp;done)|exact rfl)))|((with_reducible apply st_call);exact rfl;exact rfl;exact rfl;first|(exact d_one))|((with_reducible apply st_callg);exact rfl;exact rfl;(first|exact rfl|assumption);exact rfl;exact rfl;exact rfl;first|(exact d_one)))
  have hcl := closed_ok hc
  refine awp_loop (fun m' s => ∃ k, k ≤ n ∧ m' = n - k ∧ s = stl [(0, .mat false n (fun _ => n) (fun i j => .q (F i j))), (1, .clo g mm c), (5, .ptr 10 0 0), (11, .mat false n (fun _ => n) (fun i j => .q (F i j))), (12, .i n), (13, .i (k : Int))] (offs (n + e) k (aug n F G))) n _ (imp_id ?_ ?_) ⟨0, Nat.zero_le _, rfl, rfl⟩ ?_
  · refine alle rfl (Le.id rfl) True.intro (alle rfl (Le.id rfl) (ok_none hcl) ?_)
    repeat (first | exact True.intro | refine alle rfl (Le.id rfl) (by first | exact True.intro | rfl) ?_)
  · refine allh rfl (by decide) (bleo rfl fun i hi => Le.id ?_) (fun i hi => wk0_ok (y := .v (.slice none 0 0)) True.intro i) True.intro
    match i, hi with
    | 0, _ => rfl
    | 1, _ => rfl
    | 2, _ => rfl
    | 3, _ => rfl
  · rintro m' s ⟨k, hk, rfl, rfl⟩
    have hsz : 0 + n + e = n + e := by omega
    have hrow : ∀ k, BLe (sg k) (.rats (0 + n + e) (glue (0 + n) (glue 0 (fun _ => ra0) (fun j => .q (F k j))) (fun j => .q (G k j)))) (.rats (n + e) fun j => .q (aug n F G k j)) := fun k => blen hsz fun j hj => by
      unfold glue aug
      rw [Nat.zero_add, if_neg (Nat.not_lt_zero _), Nat.sub_zero]
      split <;> rfl
    rcases k with _ | k
    · repeat(first|(with_reducible first|refine awp_seq ?_|refine awp_block ?_|refine awp_skip ?_|refine awp_exit ?_|refine awp_ret ?_|refine q_then ?_|refine q_block ?_|refine q_then_exit ?_|refine q_then_ret ?_|refine q_block_exit ?_|refine q_block_ret ?_|refine q_loop_exit ?_|refine q_loop_ret ?_)|((with_reducible refine q_block_other ?_ ?_);exact rfl)|((with_reducible refine reg ?_ ?_);exact rfl)|((with_reducible refine st_end ?_ ?_);first|exact .inl rfl|exact .inr rfl)|(with_reducible apply st_build0)|((with_reducible apply st_ev);exact rfl;(first|exact True.intro|((repeat' apply And.intro)<;>first|exact True.intro|with_reducible rfl|(simp only[Fits];omega)|omega|assumption|decide|(simp;done)|exact rfl)))|((with_reducible apply st_evg);exact rfl;exact rfl;(first|exact rfl|assumption);exact rfl;(first|exact True.intro|((repeat' apply And.intro)<;>first|exact True.intro|with_reducible rfl|(simp only[Fits];omega)|omega|assumption|decide|(simp;done)|exact rfl)))|((with_reducible apply st_skip);exact rfl;exact rfl;(first|exact rfl|assumption))|((with_reducible apply st_app0);exact rfl;exact rfl;exact rfl;omega)|((with_reducible apply st_skipu);exact rfl;exact rfl)|((with_reducible apply st_pickt);exact rfl;assumption;exact rfl)|((with_reducible apply st_pickf);exact rfl;assumption;exact rfl)|((with_reducible apply st_pickgt);exact rfl;exact rfl;(first|exact rfl|assumption);exact rfl;(first|exact rfl|assumption);exact rfl)|((with_reducible apply st_pickgf);exact rfl;exact rfl;(first|exact rfl|assumption);exact rfl;(first|exact rfl|assumption);exact rfl)|((with_reducible apply st_build);exact rfl;first|exact rfl|(first|exact True.intro|((repeat' apply And.intro)<;>first|exact True.intro|with_reducible rfl|(simp only[Fits];omega)|omega|assumption|decide|(simp;done)|exact rfl))))
      refine awp_if rfl (fun h => ?_) (fun h => absurd (show ((0 : Nat) : Int) < n by omega) h)
      have H0 := H 0 h0
      repeat(first|(with_reducible first|refine awp_seq ?_|refine awp_block ?_|refine awp_skip ?_|refine awp_exit ?_|refine awp_ret ?_|refine q_then ?_|refine q_block ?_|refine q_then_exit ?_|refine q_then_ret ?_|refine q_block_exit ?_|refine q_block_ret ?_|refine q_loop_exit ?_|refine q_loop_ret ?_)|((with_reducible refine q_block_other ?_ ?_);exact rfl)|((with_reducible refine reg ?_ ?_);exact rfl)|((with_reducible refine st_end ?_ ?_);first|exact .inl rfl|exact .inr rfl)|(with_reducible apply st_build0)|((with_reducible apply st_ev);exact rfl;(first|exact True.intro|((repeat' apply And.intro)<;>first|exact True.intro|with_reducible rfl|(simp only[Fits];omega)|omega|assumption|decide|(simp;done)|exact rfl)))|((with_reducible apply st_evg);exact rfl;exact rfl;(first|exact rfl|assumption);exact rfl;(first|exact True.intro|((repeat' apply And.intro)<;>first|exact True.intro|with_reducible rfl|(simp only[Fits];omega)|omega|assumption|decide|(simp;done)|exact rfl)))|((with_reducible apply st_skip);exact rfl;exact rfl;(first|exact rfl|assumption))|((with_reducible apply st_app0);exact rfl;exact rfl;exact rfl;omega)|((with_reducible apply st_skipu);exact rfl;exact rfl)|((with_reducible apply st_pickt);exact rfl;assumption;exact rfl)|((with_reducible apply st_pickf);exact rfl;assumption;exact rfl)|((with_reducible apply st_pickgt);exact rfl;exact rfl;(first|exact rfl|assumption);exact rfl;(first|exact rfl|assumption);exact rfl)|((with_reducible apply st_pickgf);exact rfl;exact rfl;(first|exact rfl|assumption);exact rfl;(first|exact rfl|assumption);exact rfl)|((with_reducible apply st_build);exact rfl;first|exact rfl|(first|exact True.intro|((repeat' apply And.intro)<;>first|exact True.intro|with_reducible rfl|(simp only[Fits];omega)|omega|assumption|decide|(simp;done)|exact rfl)))|((with_reducible apply st_call);exact rfl;exact rfl;exact rfl;first|(exact H0))|((with_reducible apply st_callg);exact rfl;exact rfl;(first|exact rfl|assumption);exact rfl;exact rfl;exact rfl;first|(exact H0)))
      refine q_loop ?_ (of_close (F2 := fun _ => .rats 0 fun _ => ra0) rfl rfl ?_ rfl rfl (fun i hi => absurd hi (Nat.not_lt_zero _)) rfl (fun h => absurd h (Nat.lt_irrefl _)) (fun r hr => absurd hr (Nat.not_lt_zero _)) rfl (hrow 0) rfl ?_) ⟨0 + 1, ?_, rfl, rfl⟩
      · omega
      · intro i hi
        match i, hi with
        | 0, _ => rfl
        | 1, _ => rfl
        | 2, _ => rfl
        | 3, _ => rfl
      · refine alle rfl (Le.eq rfl rfl) True.intro (alle rfl (Le.same hcl) (ok_none hcl) (alle rfl (Le.ptr rfl) rfl (alle rfl (Le.eq rfl rfl) True.intro (alle rfl (Le.eq rfl rfl) True.intro (alle rfl (Le.eq rfl rfl) True.intro True.intro)))))
      · omega
    · repeat(first|(with_reducible first|refine awp_seq ?_|refine awp_block ?_|refine awp_skip ?_|refine awp_exit ?_|refine awp_ret ?_|refine q_then ?_|refine q_block ?_|refine q_then_exit ?_|refine q_then_ret ?_|refine q_block_exit ?_|refine q_block_ret ?_|refine q_loop_exit ?_|refine q_loop_ret ?_)|((with_reducible refine q_block_other ?_ ?_);exact rfl)|((with_reducible refine reg ?_ ?_);exact rfl)|((with_reducible refine st_end ?_ ?_);first|exact .inl rfl|exact .inr rfl)|(with_reducible apply st_build0)|((with_reducible apply st_ev);exact rfl;(first|exact True.intro|((repeat' apply And.intro)<;>first|exact True.intro|with_reducible rfl|(simp only[Fits];omega)|omega|assumption|decide|(simp;done)|exact rfl)))|((with_reducible apply st_evg);exact rfl;exact rfl;(first|exact rfl|assumption);exact rfl;(first|exact True.intro|((repeat' apply And.intro)<;>first|exact True.intro|with_reducible rfl|(simp only[Fits];omega)|omega|assumption|decide|(simp;done)|exact rfl)))|((with_reducible apply st_skip);exact rfl;exact rfl;(first|exact rfl|assumption))|((with_reducible apply st_app0);exact rfl;exact rfl;exact rfl;omega)|((with_reducible apply st_skipu);exact rfl;exact rfl)|((with_reducible apply st_pickt);exact rfl;assumption;exact rfl)|((with_reducible apply st_pickf);exact rfl;assumption;exact rfl)|((with_reducible apply st_pickgt);exact rfl;exact rfl;(first|exact rfl|assumption);exact rfl;(first|exact rfl|assumption);exact rfl)|((with_reducible apply st_pickgf);exact rfl;exact rfl;(first|exact rfl|assumption);exact rfl;(first|exact rfl|assumption);exact rfl)|((with_reducible apply st_build);exact rfl;first|exact rfl|(first|exact True.intro|((repeat' apply And.intro)<;>first|exact True.intro|with_reducible rfl|(simp only[Fits];omega)|omega|assumption|decide|(simp;done)|exact rfl))))
      refine awp_if rfl (fun h => ?_) (fun h => ?_)
      · have h : k + 1 < n := by omega
        have H1 := H (k + 1) h
        repeat(first|(with_reducible first|refine awp_seq ?_|refine awp_block ?_|refine awp_skip ?_|refine awp_exit ?_|refine awp_ret ?_|refine q_then ?_|refine q_block ?_|refine q_then_exit ?_|refine q_then_ret ?_|refine q_block_exit ?_|refine q_block_ret ?_|refine q_loop_exit ?_|refine q_loop_ret ?_)|((with_reducible refine q_block_other ?_ ?_);exact rfl)|((with_reducible refine reg ?_ ?_);exact rfl)|((with_reducible refine st_end ?_ ?_);first|exact .inl rfl|exact .inr rfl)|(with_reducible apply st_build0)|((with_reducible apply st_ev);exact rfl;(first|exact True.intro|((repeat' apply And.intro)<;>first|exact True.intro|with_reducible rfl|(simp only[Fits];omega)|omega|assumption|decide|(simp;done)|exact rfl)))|((with_reducible apply st_evg);exact rfl;exact rfl;(first|exact rfl|assumption);exact rfl;(first|exact True.intro|((repeat' apply And.intro)<;>first|exact True.intro|with_reducible rfl|(simp only[Fits];omega)|omega|assumption|decide|(simp;done)|exact rfl)))|((with_reducible apply st_skip);exact rfl;exact rfl;(first|exact rfl|assumption))|((with_reducible apply st_app0);exact rfl;exact rfl;exact rfl;omega)|((with_reducible apply st_skipu);exact rfl;exact rfl)|((with_reducible apply st_pickt);exact rfl;assumption;exact rfl)|((with_reducible apply st_pickf);exact rfl;assumption;exact rfl)|((with_reducible apply st_pickgt);exact rfl;exact rfl;(first|exact rfl|assumption);exact rfl;(first|exact rfl|assumption);exact rfl)|((with_reducible apply st_pickgf);exact rfl;exact rfl;(first|exact rfl|assumption);exact rfl;(first|exact rfl|assumption);exact rfl)|((with_reducible apply st_build);exact rfl;first|exact rfl|(first|exact True.intro|((repeat' apply And.intro)<;>first|exact True.intro|with_reducible rfl|(simp only[Fits];omega)|omega|assumption|decide|(simp;done)|exact rfl)))|((with_reducible apply st_call);exact rfl;exact rfl;exact rfl;first|(exact H1))|((with_reducible apply st_callg);exact rfl;exact rfl;(first|exact rfl|assumption);exact rfl;exact rfl;exact rfl;first|(exact H1)))
        refine q_loop ?_ (of_close (k := k + 1) rfl rfl ?_ rfl rfl ?_ ?_ (fun _ => rfl) ?_ rfl (hrow (k + 1)) rfl ?_) ⟨k + 1 + 1, ?_, rfl, rfl⟩
        · omega
        · intro i hi
          match i, hi with
          | 0, _ => rfl
          | 1, _ => rfl
          | 2, _ => rfl
          | 3, _ => rfl
        · intro i hi
          exact if_pos hi
        · show (if _ then _ else _) = _
          rw [if_neg (Nat.lt_irrefl _), Nat.sub_self]; rfl
        · intro r hr
          exact blen rfl fun j hj => rfl
        · refine alle rfl (Le.eq rfl rfl) True.intro (alle rfl (Le.same hcl) (ok_none hcl) (alle rfl (Le.ptr rfl) rfl (alle rfl (Le.eq rfl rfl) True.intro (alle rfl (Le.eq rfl rfl) True.intro (alle rfl (Le.eq rfl rfl) True.intro True.intro)))))
        · omega
      · obtain rfl : k + 1 = n := by omega
        repeat(first|(with_reducible first|refine awp_seq ?_|refine awp_block ?_|refine awp_skip ?_|refine awp_exit ?_|refine awp_ret ?_|refine q_then ?_|refine q_block ?_|refine q_then_exit ?_|refine q_then_ret ?_|refine q_block_exit ?_|refine q_block_ret ?_|refine q_loop_exit ?_|refine q_loop_ret ?_)|((with_reducible refine q_block_other ?_ ?_);exact rfl)|((with_reducible refine reg ?_ ?_);exact rfl)|((with_reducible refine st_end ?_ ?_);first|exact .inl rfl|exact .inr rfl)|(with_reducible apply st_build0)|((with_reducible apply st_ev);exact rfl;(first|exact True.intro|((repeat' apply And.intro)<;>first|exact True.intro|with_reducible rfl|(simp only[Fits];omega)|omega|assumption|decide|(simp;done)|exact rfl)))|((with_reducible apply st_evg);exact rfl;exact rfl;(first|exact rfl|assumption);exact rfl;(first|exact True.intro|((repeat' apply And.intro)<;>first|exact True.intro|with_reducible rfl|(simp only[Fits];omega)|omega|assumption|decide|(simp;done)|exact rfl)))|((with_reducible apply st_skip);exact rfl;exact rfl;(first|exact rfl|assumption))|((with_reducible apply st_app0);exact rfl;exact rfl;exact rfl;omega)|((with_reducible apply st_skipu);exact rfl;exact rfl)|((with_reducible apply st_pickt);exact rfl;assumption;exact rfl)|((with_reducible apply st_pickf);exact rfl;assumption;exact rfl)|((with_reducible apply st_pickgt);exact rfl;exact rfl;(first|exact rfl|assumption);exact rfl;(first|exact rfl|assumption);exact rfl)|((with_reducible apply st_pickgf);exact rfl;exact rfl;(first|exact rfl|assumption);exact rfl;(first|exact rfl|assumption);exact rfl)|((with_reducible apply st_build);exact rfl;first|exact rfl|(first|exact True.intro|((repeat' apply And.intro)<;>first|exact True.intro|with_reducible rfl|(simp only[Fits];omega)|omega|assumption|decide|(simp;done)|exact rfl))))
        refine ⟨.inr rfl, [(4, .ptr 60 0 0)], of_end (k := k) rfl rfl rfl rfl (alle rfl (Le.ptr rfl) rfl True.intro), .one (.tmp rfl)⟩
end Go.Proofs.Ytjmpanhacfjcaaa.AM
/- Elimination, as plain functions: what the steps on rows make. -/
namespace Go.Proofs.Ytjmpanhacfjcaaa.AM
open Go.Proofs.Ytjmpanhacfjcaaa.LA (S S_succ S_zero S_congr)
open Classical
set_option linter.unusedVariables false
set_option linter.unusedSimpArgs false
/-- The first number from i on, at most k further, that has p. -/
noncomputable def fnd (p : Nat → Prop) : Nat → Nat → Nat
  | 0, i => i
  | k + 1, i => if p i then i else fnd p k (i + 1)
theorem fnd_le (p : Nat → Prop) : ∀ k i, i ≤ fnd p k i ∧ fnd p k i ≤ i + k ∧ (∀ j, i ≤ j → j < fnd p k i → ¬ p j) ∧ (fnd p k i < i + k → p (fnd p k i))
  | 0, i => ⟨Nat.le_refl _, Nat.le_refl _, fun j h1 h2 => absurd h2 (by unfold fnd; omega), fun h => absurd h (by unfold fnd; omega)⟩
  | k + 1, i => by
    unfold fnd
    by_cases h : p i
    · rw [if_pos h]; exact ⟨Nat.le_refl _, by omega, fun j h1 h2 => by omega, fun _ => h⟩
    · rw [if_neg h]
      obtain ⟨h1, h2, h3, h4⟩ := fnd_le p k (i + 1)
      refine ⟨by omega, by omega, fun j h5 h6 => ?_, fun h5 => h4 (by omega)⟩
      by_cases e : j = i
      · subst e; exact h
      · exact h3 j (by omega) h6
structure ES where
  at' : Nat
  d : Rat
  π : Nat → Nat
  A : Nat → Nat → Rat
/-- Which rows are cleaned. -/
def tst (all : Bool) (at' i : Nat) : Prop := at' < i ∨ (all = true ∧ i < at')
/-- The rows up to k cleaned. -/
noncomputable def cln (A : Nat → Nat → Rat) (π : Nat → Nat) (all : Bool) (at' col m k : Nat) : Nat → Nat → Rat := fun r j =>
  if (∃ i, i < k ∧ tst all at' i ∧ r = π i) ∧ col ≤ j ∧ j < m then A r j - A r col / A (π at') col * A (π at') j else A r j
theorem tst_ne {all : Bool} {at' i : Nat} (h : tst all at' i) : i ≠ at' := by
  rcases h with h | h <;> omega
theorem cln_zero (A : Nat → Nat → Rat) (π : Nat → Nat) (all : Bool) (at' col m : Nat) : cln A π all at' col m 0 = A := by
  funext r j
  unfold cln
  rw [if_neg]
  rintro ⟨⟨i, h, _⟩, _⟩
  omega
theorem cln_skip {A : Nat → Nat → Rat} {π : Nat → Nat} {all : Bool} {at' col m k : Nat} (h : ¬ tst all at' k) : cln A π all at' col m k = cln A π all at' col m (k + 1) := by
  funext r j
  unfold cln
  have e : (∃ i, i < k ∧ tst all at' i ∧ r = π i) ↔ (∃ i, i < k + 1 ∧ tst all at' i ∧ r = π i) := by
    constructor
    · rintro ⟨i, h1, h2, h3⟩; exact ⟨i, by omega, h2, h3⟩
    · rintro ⟨i, h1, h2, h3⟩
      refine ⟨i, ?_, h2, h3⟩
      rcases Nat.lt_or_ge i k with h4 | h4
      · exact h4
      · obtain rfl : i = k := by omega
        exact absurd h2 h
  simp only [e]
theorem cln_row {A : Nat → Nat → Rat} {π : Nat → Nat} {all : Bool} {at' col m k n r : Nat} (hr : ∀ i, i < k → tst all at' i → r ≠ π i) (j : Nat) : cln A π all at' col m k r j = A r j := by
  unfold cln
  rw [if_neg]
  rintro ⟨⟨i, h1, h2, h3⟩, _⟩
  exact hr i h1 h2 h3
theorem cln_step {A : Nat → Nat → Rat} {π : Nat → Nat} {all : Bool} {at' col m k n : Nat} (hinj : ∀ i j, i < n → j < n → π i = π j → i = j) (ha : at' < n) (hk : k < n) (ht : tst all at' k) :
    clr (cln A π all at' col m k) (cln A π all at' col m k (π k) col / cln A π all at' col m k (π at') col) (π k) (π at') col m = cln A π all at' col m (k + 1) := by
  have h1 : ∀ j, cln A π all at' col m k (π k) j = A (π k) j := cln_row (n := n) fun i h1 h2 h3 => by
    have := hinj k i hk (by omega) h3
    omega
  have h2 : ∀ j, cln A π all at' col m k (π at') j = A (π at') j := cln_row (n := n) fun i h1 h2 h3 => by
    have := hinj at' i ha (by omega) h3
    exact tst_ne h2 this.symm
  funext r j
  unfold clr
  rw [h1, h1, h2, h2]
  by_cases e : r = π k
  · subst e
    by_cases c : col ≤ j ∧ j < m
    · rw [if_pos ⟨rfl, c⟩]
      unfold cln
      rw [if_pos ⟨⟨k, by omega, ht, rfl⟩, c⟩]
    · rw [if_neg (fun h => c h.2), h1]
      unfold cln
      rw [if_neg (fun h => c h.2)]
  · rw [if_neg (fun h => e h.1)]
    unfold cln
    have e2 : (∃ i, i < k ∧ tst all at' i ∧ r = π i) ↔ (∃ i, i < k + 1 ∧ tst all at' i ∧ r = π i) := by
      constructor
      · rintro ⟨i, h1, h2, h3⟩; exact ⟨i, by omega, h2, h3⟩
      · rintro ⟨i, h1, h2, h3⟩
        refine ⟨i, ?_, h2, h3⟩
        rcases Nat.lt_or_ge i k with h4 | h4
        · exact h4
        · obtain rfl : i = k := by omega
          exact absurd h3 e
    simp only [e2]
/-- One column. -/
noncomputable def stp (n m : Nat) (all : Bool) (s : ES) (col : Nat) : ES :=
  if fnd (fun i => s.A (s.π i) col ≠ 0) (n - s.at') s.at' < n then
    ⟨s.at' + 1, det1 s.d (fnd (fun i => s.A (s.π i) col ≠ 0) (n - s.at') s.at') s.at' * s.A (s.π (fnd (fun i => s.A (s.π i) col ≠ 0) (n - s.at') s.at')) col, swp s.π (fnd (fun i => s.A (s.π i) col ≠ 0) (n - s.at') s.at') s.at',
      cln s.A (swp s.π (fnd (fun i => s.A (s.π i) col ≠ 0) (n - s.at') s.at') s.at') all s.at' col m n⟩
  else s
noncomputable def stps (n m : Nat) (all : Bool) (A : Nat → Nat → Rat) : Nat → ES
  | 0 => ⟨0, 1, fun i => i, A⟩
  | c + 1 => stp n m all (stps n m all A c) c
/-- What holds of the rows at all times. -/
structure EOK (n c X : Nat) (s : ES) : Prop where
  le : s.at' ≤ c
  lt : ∀ i, i < n → s.π i < n
  inj : ∀ i j, i < n → j < n → s.π i = s.π j → i = j
  wd : Wt s.d X
  wA : ∀ i j, Wt (s.A i j) X
theorem swp_lt {π : Nat → Nat} {n i j : Nat} (h : ∀ i, i < n → π i < n) (hi : i < n) (hj : j < n) (k : Nat) (hk : k < n) : swp π i j k < n := by
  unfold swp updN
  split
  · exact h i hi
  · split
    · exact h j hj
    · exact h k hk
theorem swp_inj {π : Nat → Nat} {n i j : Nat} (h : ∀ i j, i < n → j < n → π i = π j → i = j) (hi : i < n) (hj : j < n) (a b : Nat) (ha : a < n) (hb : b < n) (e : swp π i j a = swp π i j b) : a = b := by
  unfold swp updN at e
  split at e <;> split at e <;> (try split at e) <;> (try split at e) <;> (first | omega | (have := h _ _ (by assumption) (by assumption) e; omega))
theorem det1_wt {d : Rat} {X i j : Nat} [h : Wt d X] : Wt (det1 d i j) X := by
  unfold det1; split
  · exact h
  · exact inferInstance
theorem cln_wt {A : Nat → Nat → Rat} {π : Nat → Nat} {all : Bool} {at' col m k X : Nat} [h : ∀ i j, Wt (A i j) X] (r j : Nat) : Wt (cln A π all at' col m k r j) (4 * X + 1) := by
  unfold cln
  split
  · exact (inferInstance : Wt (A r j - A r col / A (π at') col * A (π at') j) (X + (X + X + X) + 1)).mono (by omega)
  · exact (h r j).mono (by omega)
theorem stp_ok {n m c X : Nat} {all : Bool} {s : ES} (hX : 1 ≤ X) (h : EOK n c X s) : EOK n (c + 1) (5 * X) (stp n m all s c) := by
  have hA := h.wA
  have hd := h.wd
  unfold stp
  split
  · rename_i hi
    obtain ⟨h1, h2, _, _⟩ := fnd_le (fun i => s.A (s.π i) c ≠ 0) (n - s.at') s.at'
    have h3 := h.le
    refine ⟨by show s.at' + 1 ≤ c + 1; omega, swp_lt h.lt hi (by omega), swp_inj h.inj hi (by omega), ?_, fun i j => (cln_wt i j).mono (by omega)⟩
    have w1 : Wt (det1 s.d (fnd (fun i => s.A (s.π i) c ≠ 0) (n - s.at') s.at') s.at') X := det1_wt
    exact (inferInstance : Wt (det1 s.d (fnd (fun i => s.A (s.π i) c ≠ 0) (n - s.at') s.at') s.at' * s.A (s.π (fnd (fun i => s.A (s.π i) c ≠ 0) (n - s.at') s.at')) c) (X + X)).mono (by omega)
  · exact ⟨by have := h.le; omega, h.lt, h.inj, h.wd.mono (by omega), fun i j => (h.wA i j).mono (by omega)⟩
theorem stps_ok {n m K : Nat} {all : Bool} {A : Nat → Nat → Rat} [hA : ∀ i j, Wt (A i j) K] : ∀ c, EOK n c (5 ^ c * (K + 1)) (stps n m all A c)
  | 0 => ⟨Nat.le_refl _, fun i hi => hi, fun i j _ _ e => e, (inferInstance : Wt 1 1).mono (by omega), fun i j => (hA i j).mono (by omega)⟩
  | c + 1 => by
    have h := stp_ok (m := m) (all := all) (Nat.mul_pos (Nat.pow_pos (by decide)) (Nat.succ_pos K)) (stps_ok (n := n) (m := m) (all := all) (A := A) c)
    rw [show 5 ^ (c + 1) * (K + 1) = 5 * (5 ^ c * (K + 1)) by rw [Nat.pow_succ]; ac_rfl]
    exact h
end Go.Proofs.Ytjmpanhacfjcaaa.AM

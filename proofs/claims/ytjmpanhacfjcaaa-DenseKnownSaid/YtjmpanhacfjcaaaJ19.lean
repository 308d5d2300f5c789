/- Joined texts, 19: AmPb LawR LawS. -/
import Derived.Test.YtjmpanhacfjcaaaJ15
import Derived.Test.YtjmpanhacfjcaaaJ14
import Derived.Test.YtjmpanhacfjcaaaJ17
set_option linter.unusedVariables false
set_option linter.unusedSimpArgs false
/- Slices that are built and written no more. -/
namespace Go.Proofs.Ytjmpanhacfjcaaa.AM
open Go Go.RowKit Go.Proofs.Ytjmpanhacfjcaaa.PN Go.Proofs.Ytjmpanhacfjcaaa.V
set_option linter.unusedVariables false
set_option linter.unusedSimpArgs false
theorem put_put {α : Type} (f : Nat → Option α) (t : Nat) (x y : Option α) : put (put f t x) t y = put f t y := by
  funext t'; unfold put; cases Nat.beq t' t <;> rfl
theorem lok_pub {P : Program} {o : Oper} {s : St} {g d : Nat} {F : Nat → Blk} {rd : List Nat} {y : AV} (h : LOK P o s ⟨some (.own g 0), [(g, some (1, F))], rd⟩) (hd : o.dst = some d)
    (hp : ∀ s' : St, s'.env d = some (.own g 0) → s'.heap g = some (1, F) → Imp s' ⟨put s'.env d (some y), put s'.heap g none, s'.used⟩) : LOK P o s ⟨some y, [(g, none)], rd⟩ := by
  refine ⟨fun g' hg' hr => h.1 g' (by
    obtain ⟨b, hb⟩ := hg'
    simp only [List.mem_singleton, Prod.mk.injEq] at hb
    exact ⟨some (1, F), by rw [hb.1]; exact List.mem_singleton.2 rfl⟩) hr, fun s2 e1 e2 e3 e4 => ?_⟩
  have h2 := h.2 s2 e1 e2 e3 (fun g' hg' hr => e4 g' (by
    obtain ⟨b, hb⟩ := hg'
    simp only [List.mem_singleton, Prod.mk.injEq] at hb
    exact ⟨none, by rw [hb.1]; exact List.mem_singleton.2 rfl⟩) hr)
  intro W N β w a hs hdN K Q hK
  refine h2 W N β w a hs hdN K Q fun β' a' w' hs' => ?_
  rw [hd] at hs'
  obtain ⟨β'', hs''⟩ := hp (s2.app (some d) ⟨some (.own g 0), [(g, some (1, F))], rd⟩) (put_same _ _ _) (put_same _ _ _) W N β' w' a' hs'
  refine hK β'' a' w' ?_
  rw [hd]
  have e : s2.app (some d) ⟨some y, [(g, none)], rd⟩ = ⟨put (s2.app (some d) ⟨some (.own g 0), [(g, some (1, F))], rd⟩).env d (some y), put (s2.app (some d) ⟨some (.own g 0), [(g, some (1, F))], rd⟩).heap g none, (s2.app (some d) ⟨some (.own g 0), [(g, some (1, F))], rd⟩).used⟩ := by
    show (⟨put s2.env d (some y), put s2.heap g none, mark s2.used g⟩ : St) = ⟨put (put s2.env d _) d (some y), put (put s2.heap g _) g none, mark s2.used g⟩
    rw [put_put, put_put]
  rw [e]; exact hs''
theorem imp_seq {s : St} (t : Nat) {g n : Nat} {T : TypeId} {k : IntKind} {F : Nat → Blk} {f : Nat → AV} (l : List Int) (hx : s.env t = some (.own g 0)) (hg : s.heap g = some (1, F)) (hF : F 0 = .ones T n f) (hl : l.length = n) (hf : ∀ i, i < n → f i = .v (.int k (l.getD i 0))) : Imp s ⟨put s.env t (some (.seq k l)), put s.heap g none, s.used⟩ :=
  imp_turn1 hx hg trivial fun W N β w a hs v hv hok hb S' h1 h2 => by
    rw [hF] at hb
    subst hl
    obtain ⟨e0, A, n', c, e⟩ := hv
    rcases hb.2 with ⟨e', hn⟩ | ⟨kb, cs, hB, hr, hat, hx⟩
    · exact ⟨none, 0, by rw [hn]; exact e0.trans e', by omega, Nat.zero_le _, fun i hi => by omega⟩
    · have hub := ub_at hat
      rcases hat with ⟨e', _⟩ | ⟨cap, e', h3, h4, _⟩
      · rw [← e0, e] at e'; cases e'
      · refine ⟨_, cap, e0.trans e', h3, h4, fun i hi => ?_⟩
        obtain ⟨y, a0, a1, a2⟩ := hx i hi
        rw [hf i hi] at a2
        have a2 : y = .int k (l.getD i 0) := a2
        subst a2
        refine ⟨_, rfl, h2 kb hub, ?_⟩
        have := cell_of_row w kb i cs T (0, 0) hr
        show w.cell? (Addr.add ⟨kb, 0, none⟩ i) = _
        rw [show Addr.add ⟨kb, 0, none⟩ i = ⟨kb, i, none⟩ by unfold Addr.add; simp; intro h; exact h.symm]
        rw [this]; exact a0
def ints : List AV → Option (List Int)
  | [] => some []
  | .v (.int .i64 n) :: l => match ints l with
    | some ns => some (n :: ns)
    | none => none
  | _ :: _ => none
theorem ints_get : ∀ {l : List AV} {qs : List Int}, ints l = some qs → qs.length = l.length ∧ ∀ (j : Nat), j < l.length → l.getD j (.v undef) = AV.v (.int .i64 (qs.getD j 0))
  | [], qs, h => by cases h; exact ⟨rfl, fun j hj => absurd hj (Nat.not_lt_zero _)⟩
  | .v (.int .i64 n) :: l, qs, h => by
    unfold ints at h
    split at h
    · rename_i ns e
      cases h
      obtain ⟨h1, h2⟩ := ints_get e
      refine ⟨by simp [h1], fun j hj => ?_⟩
      cases j with
      | zero => rfl
      | succ j => exact h2 j (by simpa using hj)
    · cases h
def rows1 : List AV → Option (List (Nat × (Nat → RA)))
  | [] => some []
  | .row _ n f :: l => match rows1 l with
    | some qs => some ((n, f) :: qs)
    | none => none
  | _ :: _ => none
theorem rows1_get : ∀ {l : List AV} {qs : List (Nat × (Nat → RA))}, rows1 l = some qs → qs.length = l.length ∧ ∀ (j : Nat), j < l.length → ∃ fr, l.getD j (.v undef) = AV.row fr (qs.getD j (0, fun _ => ra0)).1 (qs.getD j (0, fun _ => ra0)).2
  | [], qs, h => by cases h; exact ⟨rfl, fun j hj => absurd hj (Nat.not_lt_zero _)⟩
  | .row fr n f :: l, qs, h => by
    unfold rows1 at h
    split at h
    · rename_i ns e
      cases h
      obtain ⟨h1, h2⟩ := rows1_get e
      refine ⟨by simp [h1], fun j hj => ?_⟩
      cases j with
      | zero => exact ⟨fr, rfl⟩
      | succ j => exact h2 j (by simpa using hj)
    · cases h
def outP (s : St) (d : Option Tmp) (r : AV) (c : Prop) : Ev :=
  bif s.used (fresh s d) then none else force (fresh s d) fun g => some (⟨some r, [(g, none)], []⟩, c)
theorem outP_inj {s : St} {d : Option Tmp} {r : AV} {c c' : Prop} {D : Dsc} (h : outP s d r c' = some (D, c)) : s.used (fresh s d) = false ∧ D = ⟨some r, [(fresh s d, none)], []⟩ ∧ c = c' := by
  unfold outP at h
  cases e : s.used (fresh s d) with
  | true => rw [e] at h; cases h
  | false => rw [e, cond_false, force_eq] at h; cases h; exact ⟨rfl, rfl, rfl⟩
def evBuildP (s : St) (d : Option Tmp) (T : TypeId) (n : Nat) (l : List (Nat × Operand)) : Ev :=
  match avos s l with
  | some [] => none
  | some ys =>
    bif Nat.beq T WT then (match ras ys with
      | some qs => outP s d (.row true n (fun i => qs.getD i ra0)) (idxs 0 l = true ∧ l.length = n ∧ n ≤ 100000)
      | none => none) else
    match elT T with
    | some (E, _) => bif Nat.beq T MT then (match rows1 ys with
        | some qs => outP s d (.mat false n (fun i => (qs.getD i (0, fun _ => ra0)).1) (fun i => (qs.getD i (0, fun _ => ra0)).2)) (idxs 0 l = true ∧ l.length = n ∧ n ≤ 100000 ∧ ys.all (·.one) = true)
        | none => none) else
      (match ints ys with
        | some qs => outP s d (.seq .i64 qs) (idxs 0 l = true ∧ l.length = n ∧ n ≤ 100000 ∧ ys.all (·.one) = true)
        | none => none)
    | none => none
  | none => none
theorem evBuildP_ok {o : Oper} {s : St} {D : Dsc} {c : Prop} {T : TypeId} {n d : Nat} {parts : Array (Nat × Operand)} (ho : o.op = .buildSlice T n parts) (hd : o.dst = some d) (h : evBuildP s o.dst T n parts.toList = some (D, c)) (hc : c) : LOK Try.prog o s D := by
  unfold evBuildP at h
  split at h
  · cases h
  · rename_i ys _ e1
    have hlen := avos_len e1
    cases e : Nat.beq T WT with
    | true =>
      rw [e] at h; have hT := Nat.eq_of_beq_eq_true e; subst hT
      simp only [cond_true] at h
      split at h
      · rename_i qs e2
        obtain ⟨hu, rfl, rfl⟩ := outP_inj h
        exact lok_pub (ok_build_rat ho hu hc.1 hc.2.1 hc.2.2 e1 e2) hd fun s' h1 h2 => imp_row d h1 h2 rfl
      · cases h
    | false =>
      rw [e] at h
      simp only [cond_false] at h
      split at h
      · rename_i E z e3
        obtain ⟨bytes, he⟩ := el_ok e3
        cases e4 : Nat.beq T MT with
        | true =>
          rw [e4] at h; have hT := Nat.eq_of_beq_eq_true e4; subst hT
          have hE : E = WT := by
            have h5 : elT MT = some (WT, .slice none 0 0) := by rfl
            rw [h5] at e3; cases e3; rfl
          subst hE
          simp only [cond_true] at h
          split at h
          · rename_i qs e2
            obtain ⟨hu, rfl, rfl⟩ := outP_inj h
            obtain ⟨hq1, hq2⟩ := rows1_get e2
            exact lok_pub (ok_build_one ho he hu hc.1 hc.2.1 hc.2.2.1 e1 hc.2.2.2) hd fun s' h1 h2 => imp_matf d _ _ h1 h2 rfl fun i hi => hq2 i (by rw [hlen, hc.2.1]; exact hi)
          · cases h
        | false =>
          rw [e4] at h
          simp only [cond_false] at h
          split at h
          · rename_i qs e2
            obtain ⟨hu, rfl, rfl⟩ := outP_inj h
            obtain ⟨hq1, hq2⟩ := ints_get e2
            exact lok_pub (ok_build_one ho he hu hc.1 hc.2.1 hc.2.2.1 e1 hc.2.2.2) hd fun s' h1 h2 => imp_seq d qs h1 h2 rfl (by rw [hq1, hlen, hc.2.1]) fun i hi => hq2 i (by rw [hlen, hc.2.1]; exact hi)
          · cases h
      · cases h
  · cases h
section
variable {ops : Array Oper} {l : List Oper} {s : St} {acc : List Fp} {K : St → List Fp → Prop} {c : Prop} {d : Nat} {r : Option AV} {upd : List (Nat × Option Fam)} {rd : List Nat} {ty : TypeId} {ps : String} {aft : Array Edge} {T : TypeId} {n : Nat} {parts : Array (Nat × Operand)}
theorem st_bp (h : evBuildP s (some d) T n parts.toList = some (⟨r, upd, rd⟩, c)) (hc : c) (k : AOps Try.prog ops l (nxt s (some d) r upd) ((rd, upd.map (·.1)) :: acc) K) : AOps Try.prog ops (⟨some d, .buildSlice T n parts, ty, ps, aft, none⟩ :: l) s acc K :=
  .cons _ (.inl ⟨.none rfl, evBuildP_ok rfl rfl h hc⟩) k
theorem st_bpg {j : Nat} {want b : Bool} {t : Tmp} (ht : (ops[j]?).bind (·.dst) = some t) (he : s.env t = some (.v (.bool b))) (hb : (b == want) = true) (h : evBuildP s (some d) T n parts.toList = some (⟨r, upd, rd⟩, c)) (hc : c) (k : AOps Try.prog ops l (nxt s (some d) r upd) ((rd, upd.map (·.1)) :: acc) K) : AOps Try.prog ops (⟨some d, .buildSlice T n parts, ty, ps, aft, some (j, want)⟩ :: l) s acc K :=
  .cons _ (.inl ⟨hb ▸ .some j want t b rfl ht he, evBuildP_ok rfl rfl h hc⟩) k
end
/-! Long regions are lists put together. -/
theorem st_ap {P : Program} {ops : Array Oper} {x : Oper} {l m : List Oper} {s : St} {acc : List Fp} {K : St → List Fp → Prop} (h : AOps P ops (x :: List.append l m) s acc K) : AOps P ops (List.append (x :: l) m) s acc K := h
theorem st_ap0 {P : Program} {ops : Array Oper} {m : List Oper} {s : St} {acc : List Fp} {K : St → List Fp → Prop} (h : AOps P ops m s acc K) : AOps P ops (List.append [] m) s acc K := h
theorem st_apa {P : Program} {ops : Array Oper} {l m n : List Oper} {s : St} {acc : List Fp} {K : St → List Fp → Prop} (h : AOps P ops (List.append l (List.append m n)) s acc K) : AOps P ops (List.append (List.append l m) n) s acc K := by
  have e : List.append (List.append l m) n = List.append l (List.append m n) := List.append_assoc l m n
  rw [e]; exact h
theorem run0p {G R : Prop} (k : R) (f : Held R → G := by intro hR; (repeat(first|(with_reducible first|refine awp_seq ?_|refine awp_block ?_|refine awp_skip ?_|refine awp_exit ?_|refine awp_ret ?_|refine q_then ?_|refine q_block ?_|refine q_then_exit ?_|refine q_then_ret ?_|refine q_block_exit ?_|refine q_block_ret ?_|refine q_loop_exit ?_|refine q_loop_ret ?_)|((with_reducible refine q_block_other ?_ ?_);exact rfl)|((with_reducible refine reg ?_ ?_);exact rfl)|(with_reducible first|apply st_ap|apply st_ap0|apply st_apa)|((with_reducible apply st_bp);exact rfl;(first|exact True.intro|((repeat' apply And.intro)<;>first|exact True.intro|with_reducible rfl|(simp only[Fits];omega)|omega|assumption|decide|(simp;done)|exact rfl)))|((with_reducible apply st_bpg);exact rfl;exact rfl;(first|exact rfl|assumption);exact rfl;(first|exact True.intro|((repeat' apply And.intro)<;>first|exact True.intro|with_reducible rfl|(simp only[Fits];omega)|omega|assumption|decide|(simp;done)|exact rfl)))|((with_reducible refine st_end ?_ ?_);first|exact .inl rfl|exact .inr rfl)|(with_reducible apply st_build0)|((with_reducible apply st_ev);exact rfl;(first|exact True.intro|((repeat' apply And.intro)<;>first|exact True.intro|with_reducible rfl|(simp only[Fits];omega)|omega|assumption|decide|(simp;done)|exact rfl)))|((with_reducible apply st_evg);exact rfl;exact rfl;(first|exact rfl|assumption);exact rfl;(first|exact True.intro|((repeat' apply And.intro)<;>first|exact True.intro|with_reducible rfl|(simp only[Fits];omega)|omega|assumption|decide|(simp;done)|exact rfl)))|((with_reducible apply st_skip);exact rfl;exact rfl;(first|exact rfl|assumption))|((with_reducible apply st_app0);exact rfl;exact rfl;exact rfl;omega)|((with_reducible apply st_skipu);exact rfl;exact rfl)|((with_reducible apply st_pickt);exact rfl;assumption;exact rfl)|((with_reducible apply st_pickf);exact rfl;assumption;exact rfl)|((with_reducible apply st_pickgt);exact rfl;exact rfl;(first|exact rfl|assumption);exact rfl;(first|exact rfl|assumption);exact rfl)|((with_reducible apply st_pickgf);exact rfl;exact rfl;(first|exact rfl|assumption);exact rfl;(first|exact rfl|assumption);exact rfl)|((with_reducible apply st_build);exact rfl;first|exact rfl|(first|exact True.intro|((repeat' apply And.intro)<;>first|exact True.intro|with_reducible rfl|(simp only[Fits];omega)|omega|assumption|decide|(simp;done)|exact rfl))))); exact hR.out) : G := f ⟨k⟩
theorem run1p {G R : Prop} (k : R) (f : Held R → G := by intro hR; (first|(with_reducible first|refine awp_seq ?_|refine awp_block ?_|refine awp_skip ?_|refine awp_exit ?_|refine awp_ret ?_|refine q_then ?_|refine q_block ?_|refine q_then_exit ?_|refine q_then_ret ?_|refine q_block_exit ?_|refine q_block_ret ?_|refine q_loop_exit ?_|refine q_loop_ret ?_)|((with_reducible refine q_block_other ?_ ?_);exact rfl)|((with_reducible refine reg ?_ ?_);exact rfl)|(with_reducible first|apply st_ap|apply st_ap0|apply st_apa)|((with_reducible apply st_bp);exact rfl;(first|exact True.intro|((repeat' apply And.intro)<;>first|exact True.intro|with_reducible rfl|(simp only[Fits];omega)|omega|assumption|decide|(simp;done)|exact rfl)))|((with_reducible apply st_bpg);exact rfl;exact rfl;(first|exact rfl|assumption);exact rfl;(first|exact True.intro|((repeat' apply And.intro)<;>first|exact True.intro|with_reducible rfl|(simp only[Fits];omega)|omega|assumption|decide|(simp;done)|exact rfl)))|((with_reducible refine st_end ?_ ?_);first|exact .inl rfl|exact .inr rfl)|(with_reducible apply st_build0)|((with_reducible apply st_ev);exact rfl;(first|exact True.intro|((repeat' apply And.intro)<;>first|exact True.intro|with_reducible rfl|(simp only[Fits];omega)|omega|assumption|decide|(simp;done)|exact rfl)))|((with_reducible apply st_evg);exact rfl;exact rfl;(first|exact rfl|assumption);exact rfl;(first|exact True.intro|((repeat' apply And.intro)<;>first|exact True.intro|with_reducible rfl|(simp only[Fits];omega)|omega|assumption|decide|(simp;done)|exact rfl)))|((with_reducible apply st_skip);exact rfl;exact rfl;(first|exact rfl|assumption))|((with_reducible apply st_app0);exact rfl;exact rfl;exact rfl;omega)|((with_reducible apply st_skipu);exact rfl;exact rfl)|((with_reducible apply st_pickt);exact rfl;assumption;exact rfl)|((with_reducible apply st_pickf);exact rfl;assumption;exact rfl)|((with_reducible apply st_pickgt);exact rfl;exact rfl;(first|exact rfl|assumption);exact rfl;(first|exact rfl|assumption);exact rfl)|((with_reducible apply st_pickgf);exact rfl;exact rfl;(first|exact rfl|assumption);exact rfl;(first|exact rfl|assumption);exact rfl)|((with_reducible apply st_build);exact rfl;first|exact rfl|(first|exact True.intro|((repeat' apply And.intro)<;>first|exact True.intro|with_reducible rfl|(simp only[Fits];omega)|omega|assumption|decide|(simp;done)|exact rfl))));(repeat(first|(with_reducible first|refine awp_seq ?_|refine awp_block ?_|refine awp_skip ?_|refine awp_exit ?_|refine awp_ret ?_|refine q_then ?_|refine q_block ?_|refine q_then_exit ?_|refine q_then_ret ?_|refine q_block_exit ?_|refine q_block_ret ?_|refine q_loop_exit ?_|refine q_loop_ret ?_)|((with_reducible refine q_block_other ?_ ?_);exact rfl)|((with_reducible refine reg ?_ ?_);exact rfl)|(with_reducible first|apply st_ap|apply st_ap0|apply st_apa)|((with_reducible apply st_bp);exact rfl;(first|exact True.intro|((repeat' apply And.intro)<;>first|exact True.intro|with_reducible rfl|(simp only[Fits];omega)|omega|assumption|decide|(simp;done)|exact rfl)))|((with_reducible apply st_bpg);exact rfl;exact rfl;(first|exact rfl|assumption);exact rfl;(first|exact True.intro|((repeat' apply And.intro)<;>first|exact True.intro|with_reducible rfl|(simp only[Fits];omega)|omega|assumption|decide|(simp;done)|exact rfl)))|((with_reducible refine st_end ?_ ?_);first|exact .inl rfl|exact .inr rfl)|(with_reducible apply st_build0)|((with_reducible apply st_ev);exact rfl;(first|exact True.intro|((repeat' apply And.intro)<;>first|exact True.intro|with_reducible rfl|(simp only[Fits];omega)|omega|assumption|decide|(simp;done)|exact rfl)))|((with_reducible apply st_evg);exact rfl;exact rfl;(first|exact rfl|assumption);exact rfl;(first|exact True.intro|((repeat' apply And.intro)<;>first|exact True.intro|with_reducible rfl|(simp only[Fits];omega)|omega|assumption|decide|(simp;done)|exact rfl)))|((with_reducible apply st_skip);exact rfl;exact rfl;(first|exact rfl|assumption))|((with_reducible apply st_app0);exact rfl;exact rfl;exact rfl;omega)|((with_reducible apply st_skipu);exact rfl;exact rfl)|((with_reducible apply st_pickt);exact rfl;assumption;exact rfl)|((with_reducible apply st_pickf);exact rfl;assumption;exact rfl)|((with_reducible apply st_pickgt);exact rfl;exact rfl;(first|exact rfl|assumption);exact rfl;(first|exact rfl|assumption);exact rfl)|((with_reducible apply st_pickgf);exact rfl;exact rfl;(first|exact rfl|assumption);exact rfl;(first|exact rfl|assumption);exact rfl)|((with_reducible apply st_build);exact rfl;first|exact rfl|(first|exact True.intro|((repeat' apply And.intro)<;>first|exact True.intro|with_reducible rfl|(simp only[Fits];omega)|omega|assumption|decide|(simp;done)|exact rfl))))); exact hR.out) : G := f ⟨k⟩
theorem run4p {G R : Prop} (k : R) (f : Held R → G := by intro hR; (first|(with_reducible first|refine awp_seq ?_|refine awp_block ?_|refine awp_skip ?_|refine awp_exit ?_|refine awp_ret ?_|refine q_then ?_|refine q_block ?_|refine q_then_exit ?_|refine q_then_ret ?_|refine q_block_exit ?_|refine q_block_ret ?_|refine q_loop_exit ?_|refine q_loop_ret ?_)|((with_reducible refine q_block_other ?_ ?_);exact rfl)|(with_reducible first|apply st_ap|apply st_ap0|apply st_apa)|((with_reducible apply st_bp);exact rfl;(first|exact True.intro|((repeat' apply And.intro)<;>first|exact True.intro|with_reducible rfl|(simp only[Fits];omega)|omega|assumption|decide|(simp;done)|exact rfl)))|((with_reducible apply st_bpg);exact rfl;exact rfl;(first|exact rfl|assumption);exact rfl;(first|exact True.intro|((repeat' apply And.intro)<;>first|exact True.intro|with_reducible rfl|(simp only[Fits];omega)|omega|assumption|decide|(simp;done)|exact rfl)))|((with_reducible refine st_end ?_ ?_);first|exact .inl rfl|exact .inr rfl)|(with_reducible apply st_build0)|((with_reducible apply st_ev);exact rfl;(first|exact True.intro|((repeat' apply And.intro)<;>first|exact True.intro|with_reducible rfl|(simp only[Fits];omega)|omega|assumption|decide|(simp;done)|exact rfl)))|((with_reducible apply st_evg);exact rfl;exact rfl;(first|exact rfl|assumption);exact rfl;(first|exact True.intro|((repeat' apply And.intro)<;>first|exact True.intro|with_reducible rfl|(simp only[Fits];omega)|omega|assumption|decide|(simp;done)|exact rfl)))|((with_reducible apply st_skip);exact rfl;exact rfl;(first|exact rfl|assumption))|((with_reducible apply st_app0);exact rfl;exact rfl;exact rfl;omega)|((with_reducible apply st_skipu);exact rfl;exact rfl)|((with_reducible apply st_pickt);exact rfl;assumption;exact rfl)|((with_reducible apply st_pickf);exact rfl;assumption;exact rfl)|((with_reducible apply st_pickgt);exact rfl;exact rfl;(first|exact rfl|assumption);exact rfl;(first|exact rfl|assumption);exact rfl)|((with_reducible apply st_pickgf);exact rfl;exact rfl;(first|exact rfl|assumption);exact rfl;(first|exact rfl|assumption);exact rfl)|((with_reducible apply st_build);exact rfl;first|exact rfl|(first|exact True.intro|((repeat' apply And.intro)<;>first|exact True.intro|with_reducible rfl|(simp only[Fits];omega)|omega|assumption|decide|(simp;done)|exact rfl))));(repeat(first|(with_reducible first|refine awp_seq ?_|refine awp_block ?_|refine awp_skip ?_|refine awp_exit ?_|refine awp_ret ?_|refine q_then ?_|refine q_block ?_|refine q_then_exit ?_|refine q_then_ret ?_|refine q_block_exit ?_|refine q_block_ret ?_|refine q_loop_exit ?_|refine q_loop_ret ?_)|((with_reducible refine q_block_other ?_ ?_);exact rfl)|(with_reducible first|apply st_ap|apply st_ap0|apply st_apa)|((with_reducible apply st_bp);exact rfl;(first|exact True.intro|((repeat' apply And.intro)<;>first|exact True.intro|with_reducible rfl|(simp only[Fits];omega)|omega|assumption|decide|(simp;done)|exact rfl)))|((with_reducible apply st_bpg);exact rfl;exact rfl;(first|exact rfl|assumption);exact rfl;(first|exact True.intro|((repeat' apply And.intro)<;>first|exact True.intro|with_reducible rfl|(simp only[Fits];omega)|omega|assumption|decide|(simp;done)|exact rfl)))|((with_reducible refine st_end ?_ ?_);first|exact .inl rfl|exact .inr rfl)|(with_reducible apply st_build0)|((with_reducible apply st_ev);exact rfl;(first|exact True.intro|((repeat' apply And.intro)<;>first|exact True.intro|with_reducible rfl|(simp only[Fits];omega)|omega|assumption|decide|(simp;done)|exact rfl)))|((with_reducible apply st_evg);exact rfl;exact rfl;(first|exact rfl|assumption);exact rfl;(first|exact True.intro|((repeat' apply And.intro)<;>first|exact True.intro|with_reducible rfl|(simp only[Fits];omega)|omega|assumption|decide|(simp;done)|exact rfl)))|((with_reducible apply st_skip);exact rfl;exact rfl;(first|exact rfl|assumption))|((with_reducible apply st_app0);exact rfl;exact rfl;exact rfl;omega)|((with_reducible apply st_skipu);exact rfl;exact rfl)|((with_reducible apply st_pickt);exact rfl;assumption;exact rfl)|((with_reducible apply st_pickf);exact rfl;assumption;exact rfl)|((with_reducible apply st_pickgt);exact rfl;exact rfl;(first|exact rfl|assumption);exact rfl;(first|exact rfl|assumption);exact rfl)|((with_reducible apply st_pickgf);exact rfl;exact rfl;(first|exact rfl|assumption);exact rfl;(first|exact rfl|assumption);exact rfl)|((with_reducible apply st_build);exact rfl;first|exact rfl|(first|exact True.intro|((repeat' apply And.intro)<;>first|exact True.intro|with_reducible rfl|(simp only[Fits];omega)|omega|assumption|decide|(simp;done)|exact rfl))))); exact hR.out) : G := f ⟨k⟩
end Go.Proofs.Ytjmpanhacfjcaaa.AM
/- Laws of dense matrices: whole numbers; DenseKnown's numbers. -/
namespace Go.Proofs.Ytjmpanhacfjcaaa.AM
open Go Go.RowKit Go.Proofs.Ytjmpanhacfjcaaa.PN Go.Proofs.Ytjmpanhacfjcaaa.V
open Go.Proofs.Ytjmpanhacfjcaaa.LA (S S_succ S_zero S_congr app det HasRank rank_full unique)
set_option linter.unusedVariables false
set_option linter.unusedSimpArgs false
set_option maxRecDepth 8000
set_option maxHeartbeats 8000000
/-- A matrix, a vector of whole numbers. -/
def mz (zs : List Int) (n i j : Nat) : Rat := ((zs.getD (i * n + j) 0 : Int) : Rat)
def vz (zs : List Int) (i : Nat) : Rat := ((zs.getD i 0 : Int) : Rat)
theorem k_ints {n : Nat} {zs : List Int} (hn : n ≤ 8) (hl : n * n ≤ zs.length) (hz : AllFit zs) : Has Try.prog 42 [.i n, .seq .i64 zs] (.mat true n (fun _ => n) (fun i j => .q (mz zs n i j))) := by
  refine has_of Try.func42 (by kernel_rfl) rfl Try.ntmps42 Try.results42 rfl rfl rfl ?_
  refine run0 ?_
  refine awp_loop (fun m' s => ∃ r, r ≤ n ∧ m' = n - r ∧ s = accS 5 (.ones WT r fun i => .row true n fun j => .q (mz zs n i j)) [(0, .i n), (1, .seq .i64 zs), (6, .i (r : Int))] []) n _ (acc_start rfl rfl (by exact ⟨by decide, rfl⟩) rfl (by decide) ?_ ?_) ⟨0, Nat.zero_le _, rfl, rfl⟩ ?_
  · exact eA
  · exact hA
  · rintro m' s ⟨r, hr, rfl, rfl⟩
    refine run0 ?_
    refine awp_if rfl (fun h => ?_) (fun h => ?_)
    · have h : r < n := by omega
      have hrn : r * n + n ≤ n * n := by
        have := Nat.mul_le_mul_right n (show r + 1 ≤ n from h)
        rw [Nat.succ_mul] at this
        exact this
      have hrn2 : r * n ≤ 64 := Nat.mul_le_mul (show r ≤ 8 by omega) hn
      have em : (r : Int) * (n : Int) = ((r * n : Nat) : Int) := (Int.natCast_mul r n).symm
      refine run0 ?_
      refine awp_loop (fun m' s => ∃ c, c ≤ n ∧ m' = n - c ∧ s = accS 7 (.rats c fun j => .q (mz zs n r j)) [(0, .i n), (1, .seq .i64 zs), (5, .own 5 0), (6, .i (r : Int)), (8, .i (c : Int))] [(5, (1, fun _ => .ones WT r fun i => .row true n fun j => .q (mz zs n i j)))]) n _ (acc_start rfl rfl (by exact rfl) rfl (by decide) ?_ ?_) ⟨0, Nat.zero_le _, rfl, rfl⟩ ?_
      · exact eA
      · exact hA
      · rintro m' s ⟨c, hc, rfl, rfl⟩
        refine run0 ?_
        refine awp_if rfl (fun h1 => ?_) (fun h1 => ?_)
        · have h1 : c < n := by omega
          have q1 : 0 ≤ (r : Int) * (n : Int) ∧ (r : Int) * (n : Int) ≤ 64 ∧ (r : Int) * (n : Int) + c < zs.length := by rw [em]; omega
          have hf : -9223372036854775808 ≤ zs.getD (r * n + c) 0 ∧ zs.getD (r * n + c) 0 ≤ 9223372036854775807 := hz (r * n + c) (by omega)
          have c1 := hs_int (zs.getD (r * n + c) 0) hf.1 (by omega)
          have ei : ((r : Int) * (n : Int) + (c : Int)).toNat = r * n + c := by rw [em]; omega
          obtain ⟨q1a, q1b, q1c⟩ := q1
          refine run0 ?_
          rw [ei]
          repeat(first|refine run1 ?_|((with_reducible apply st_call);exact rfl;exact rfl;exact rfl;first|(exact c1))|((with_reducible apply st_callg);exact rfl;exact rfl;(first|exact rfl|assumption);exact rfl;exact rfl;exact rfl;first|(exact c1)))
          refine q_loop (m' := n - (c + 1)) (by omega) (acc_next (a := 30) rfl rfl rfl (glue_one rfl) (by exact True.intro) rfl rfl ?_ ?_) ⟨c + 1, by omega, rfl, rfl⟩
          · refine alle rfl (Le.eq rfl rfl) True.intro (alle rfl (Le.eq rfl rfl) True.intro (alle rfl (Le.own (s1_ne (by decide))) rfl (alle rfl (Le.eq rfl rfl) True.intro (alle rfl (Le.eq rfl rfl) True.intro True.intro))))
          · refine allh rfl Nat.zero_lt_one (bleo rfl fun _ _ => Le.eq rfl rfl) (fun _ _ => True.intro) True.intro
        · obtain rfl : c = n := by omega
          refine run0 ?_
          refine q_loop (m' := c - (r + 1)) (by omega) (acc_pub (a := 34) (c := 7) rfl rfl rfl (fun i hi => if_pos hi) (by show (if _ then _ else _) = _; rw [if_neg (Nat.lt_irrefl _), Nat.sub_self]; rfl) rfl rfl (fun _ _ => rfl) rfl rfl (fun _ => by exact True.intro) (by decide) rfl rfl ?_ (by exact True.intro)) ⟨r + 1, by omega, rfl, rfl⟩
          refine alle rfl (Le.eq rfl rfl) True.intro (alle rfl (Le.eq rfl rfl) True.intro (alle rfl (Le.eq rfl rfl) True.intro True.intro))
    · obtain rfl : r = n := by omega
      refine run0 ?_
      refine ⟨.inr rfl, _, imp_mat 4 (fun _ => r) (fun i j => .q (mz zs r i j)) rfl rfl rfl (fun _ _ => rfl), ?_⟩
      exact .one (.tmp rfl)
theorem getD_mem0 (zs : List Int) (k : Nat) : zs.getD k 0 = 0 ∨ zs.getD k 0 ∈ zs := by
  rw [List.getD_eq_getElem?_getD]
  cases e : zs[k]? with
  | none => exact .inl rfl
  | some z => exact .inr (List.mem_of_getElem? e)
theorem zs_wt {zs : List Int} {K : Nat} (h : (zs.all fun z => Nat.ble (wt (z : Rat)) K) = true) (hK : 1 ≤ K) (k : Nat) : Wt ((zs.getD k 0 : Int) : Rat) K := by
  rcases getD_mem0 zs k with e | e
  · rw [e]; exact (inferInstance : Wt 0 1).mono hK
  · exact ⟨Nat.le_of_ble_eq_true (List.all_eq_true.1 h _ e)⟩
theorem mz_wt {zs : List Int} {K : Nat} (h : (zs.all fun z => Nat.ble (wt (z : Rat)) K) = true) (hK : 1 ≤ K) (n i j : Nat) : Wt (mz zs n i j) K := zs_wt h hK _
theorem vz_wt {zs : List Int} {K : Nat} (h : (zs.all fun z => Nat.ble (wt (z : Rat)) K) = true) (hK : 1 ≤ K) (i : Nat) : Wt (vz zs i) K := zs_wt h hK _
/-- Rows against numbers that are written out. -/
theorem k_rowsl {n K : Nat} {f : Nat → Rat} {qs : List RA} (hf : ∀ i, i < n → Wt (f i) K) (hK1 : 1 ≤ K) (hK : K ≤ 1000000000000) (hn : n ≤ 1000) (h : ∀ i, i < n → qs.getD i ra0 = .q (f i)) : Has Try.prog 24 [.row false n (fun i => .q (f i)), .row false n (fun i => qs.getD i ra0)] (.b true) :=
  Has.args (k_rowsb (g := f) hf hK1 hK hn fun _ _ => rfl) fun S B β w vs hv => rvs_cons (fun v hv => hv) (fun us hu => rvs_cons (rv_row fun i hi => h i hi) (fun us hu => hu) hu) hv
theorem d_solvel {n K : Nat} {F : Nat → Nat → Rat} {b : Nat → Rat} {qs : List RA} [hf : ∀ i j, Wt (F i j) K] [hb : ∀ i, Wt (b i) K] (hK : K ≤ 399) (h0 : 0 < n) (hn : n ≤ 8) (h : ∀ i, i < n → qs.getD i ra0 = .q (b i)) : Has Try.prog 22 [.mat false n (fun _ => n) (fun i j => .q (F i j)), .row false n (fun i => qs.getD i ra0)] (if gdet n F = 0 then .tup (.row true 0 fun _ => .q 0) (.i 9) else .tup (.row true n fun i => .q (gjx n F b i)) (.i 0)) :=
  Has.args (d_solve (hf := hf) (hb := hb) hK h0 hn) fun S B β w vs hv => rvs_cons (fun v hv => hv) (fun us hu => rvs_cons (rv_row fun i hi => h i hi) (fun us hu => hu) hu) hv
abbrev mA := mz [1, 2, 3, 4] 2
abbrev mB := mz [1, 2, 3, 4, 5, 6, 7, 8, 9] 3
abbrev mC := mz [0, 0, 2, 0, 3, 0, 4, 0, 0] 3
abbrev mO := mz [0, 0, 0, 0] 2
theorem dA2 : gdet 2 mA = ((-2 : Int) : Rat) := by rw [gdet_det]; decide +kernel
theorem dB3 : gdet 3 mB = 0 := by rw [gdet_det]; decide +kernel
theorem dB2 : gdet 2 mB = ((-3 : Int) : Rat) := by rw [gdet_det]; decide +kernel
theorem dB1 : gdet 1 mB = ((1 : Int) : Rat) := by rw [gdet_det]; decide +kernel
theorem dC3 : gdet 3 mC = ((-24 : Int) : Rat) := by rw [gdet_det]; decide +kernel
theorem dC2 : gdet 2 mC = 0 := by rw [gdet_det]; decide +kernel
theorem dC1 : gdet 1 mC = 0 := by rw [gdet_det]; decide +kernel
theorem dO2 : gdet 2 mO = 0 := by rw [gdet_det]; decide +kernel
theorem rank_nz {n : Nat} {F : Nat → Nat → Rat} (h : gdet n F ≠ 0) : (gs n F).at' = n := by
  have h1 := gs_le n F
  rcases Nat.lt_or_ge (gs n F).at' n with h2 | h2
  · exact absurd ((gdet_zero n F).2 h2) h
  · omega
theorem rA : (gs 2 mA).at' = 2 := rank_nz (by rw [dA2]; decide +kernel)
theorem rC : (gs 3 mC).at' = 3 := rank_nz (by rw [dC3]; decide +kernel)
theorem fin2 {n : Nat} {P : Nat → Nat → Prop} (h : ∀ i j : _root_.Fin n, P i.val j.val) : ∀ i j, i < n → j < n → P i j := fun i j hi hj => h ⟨i, hi⟩ ⟨j, hj⟩
theorem rB : (gs 3 mB).at' = 2 := gs_of ⟨⟨fun i k => (([1, 0, 0, 1, -1, 2].getD (i * 2 + k) 0 : Int) : Rat), fun k j => (([1, 2, 3, 4, 5, 6].getD (k * 3 + j) 0 : Int) : Rat), fin2 (by decide +kernel)⟩,
  ⟨fun a i => if a = i then 1 else 0, fun j b => (([5, -2, -4, 1, 0, 0].getD (j * 2 + b) 0 : Int) : Rat) / ((-3 : Int) : Rat), fin2 (by decide +kernel)⟩⟩
theorem rO : (gs 2 mO).at' = 0 := gs_of ⟨⟨fun _ _ => 0, fun _ _ => 0, fin2 (by decide +kernel)⟩, ⟨fun _ _ => 0, fun _ _ => 0, fun a b ha => absurd ha (Nat.not_lt_zero _)⟩⟩
end Go.Proofs.Ytjmpanhacfjcaaa.AM
/- Laws of dense matrices: DenseKnown, walked. -/
namespace Go.Proofs.Ytjmpanhacfjcaaa.AM
open Go Go.RowKit Go.Proofs.Ytjmpanhacfjcaaa.PN Go.Proofs.Ytjmpanhacfjcaaa.V
open Go.Proofs.Ytjmpanhacfjcaaa.LA (S S_succ S_zero S_congr app unique)
set_option linter.unusedVariables false
set_option linter.unusedSimpArgs false
set_option maxRecDepth 8000
set_option maxHeartbeats 8000000
theorem gjx_known {n : Nat} {F : Nat → Nat → Rat} {b e : Nat → Rat} (h : gdet n F ≠ 0) (he : ∀ i, i < n → app n F e i = b i) : ∀ i, i < n → gjx n F b i = e i :=
  unique (by rw [← gdet_det]; exact h) fun i hi => by rw [(gj_nz (b := b) h).2.2 i hi, he i hi]
theorem fin1 {n : Nat} {P : Nat → Prop} (h : ∀ i : _root_.Fin n, P i.val) : ∀ i, i < n → P i := fun i hi => h ⟨i, hi⟩
def xA (i : Nat) : Rat := if i = 0 then ((-4 : Int) : Rat) else ((9 : Int) : Rat) / ((2 : Int) : Rat)
theorem allfit {zs : List Int} (h : (zs.all fun z => decide (-9223372036854775808 ≤ z) && decide (z ≤ 9223372036854775807)) = true) : AllFit zs := fun i hi => by
  have := List.all_eq_true.1 h (zs.getD i 0) (by rw [List.getD_eq_getElem?_getD, List.getElem?_eq_getElem hi]; exact List.getElem_mem _)
  rw [Bool.and_eq_true] at this
  exact ⟨of_decide_eq_true this.1, of_decide_eq_true this.2⟩
theorem k_dknown {k : Int} (_ : Fits .i64 k) : Has Try.prog 10 [.i k] (.b true) := by
  refine has_of Try.func10 (by kernel_rfl) rfl Try.ntmps10 Try.results10 rfl rfl rfl ?_
  have wA : ∀ i j, Wt (mA i j) 1 := mz_wt (by decide +kernel) (by decide) 2
  have wB : ∀ i j, Wt (mB i j) 1 := mz_wt (by decide +kernel) (by decide) 3
  have wC : ∀ i j, Wt (mC i j) 1 := mz_wt (by decide +kernel) (by decide) 3
  have wO : ∀ i j, Wt (mO i j) 1 := mz_wt (by decide +kernel) (by decide) 2
  have wa : ∀ i, Wt (vz [5, 6] i) 1 := vz_wt (by decide +kernel) (by decide)
  have wb : ∀ i, Wt (vz [1, 1, 1] i) 1 := vz_wt (by decide +kernel) (by decide)
  have wc : ∀ i, Wt (vz [2, 6, 12] i) 1 := vz_wt (by decide +kernel) (by decide)
  have m1 := k_ints (n := 2) (zs := [1, 2, 3, 4]) (by decide) (by decide) (allfit (by decide))
  have m2 := k_ints (n := 3) (zs := [1, 2, 3, 4, 5, 6, 7, 8, 9]) (by decide) (by decide) (allfit (by decide))
  have m3 := k_ints (n := 3) (zs := [0, 0, 2, 0, 3, 0, 4, 0, 0]) (by decide) (by decide) (allfit (by decide))
  have m4 := k_ints (n := 2) (zs := [7, 10, 15, 22]) (by decide) (by decide) (allfit (by decide))
  have m5 := k_ints (n := 2) (zs := [1, 3, 2, 4]) (by decide) (by decide) (allfit (by decide))
  have m6 := k_ints (n := 2) (zs := [0, 0, 0, 0]) (by decide) (by decide) (allfit (by decide))
  have nA : gdet 2 mA ≠ 0 := by rw [dA2]; decide +kernel
  have nC : gdet 3 mC ≠ 0 := by rw [dC3]; decide +kernel
  have s1 := d_solvel (n := 2) (F := mA) (b := vz [5, 6]) (qs := [.q ((5 : Int) : Rat), .q ((6 : Int) : Rat)]) (hf := wA) (hb := wa) (by decide) (by decide) (by decide) (fun i hi => by match i, hi with | 0, _ => rfl | 1, _ => rfl)
  rw [if_neg nA] at s1
  have s2 := d_solvel (n := 3) (F := mB) (b := vz [1, 1, 1]) (qs := [.q ((1 : Int) : Rat), .q ((1 : Int) : Rat), .q ((1 : Int) : Rat)]) (hf := wB) (hb := wb) (by decide) (by decide) (by decide) (fun i hi => by match i, hi with | 0, _ => rfl | 1, _ => rfl | 2, _ => rfl)
  rw [if_pos dB3] at s2
  have s3 := d_solvel (n := 3) (F := mC) (b := vz [2, 6, 12]) (qs := [.q ((2 : Int) : Rat), .q ((6 : Int) : Rat), .q ((12 : Int) : Rat)]) (hf := wC) (hb := wc) (by decide) (by decide) (by decide) (fun i hi => by match i, hi with | 0, _ => rfl | 1, _ => rfl | 2, _ => rfl)
  rw [if_neg nC] at s3
  have x1 : ∀ i, i < 2 → gjx 2 mA (vz [5, 6]) i = xA i := gjx_known nA (fin1 (by decide +kernel))
  have x3 : ∀ i, i < 3 → gjx 3 mC (vz [2, 6, 12]) i = vz [3, 2, 1] i := gjx_known nC (fin1 (by decide +kernel))
  have r1 := k_rowsl (n := 2) (f := gjx 2 mA (vz [5, 6])) (qs := [.q ((-4 : Int) : Rat), .q (((9 : Int) : Rat) / ((2 : Int) : Rat))]) (K := 1) (fun i hi => by rw [x1 i hi]; exact ⟨fin1 (n := 2) (P := fun i => wt (xA i) ≤ 1) (by decide +kernel) i hi⟩) (by decide) (by decide) (by decide) (fun i hi => by rw [x1 i hi]; match i, hi with | 0, _ => rfl | 1, _ => rfl)
  have r3 := k_rowsl (n := 3) (f := gjx 3 mC (vz [2, 6, 12])) (qs := [.q ((3 : Int) : Rat), .q ((2 : Int) : Rat), .q ((1 : Int) : Rat)]) (K := 1) (fun i hi => by rw [x3 i hi]; exact vz_wt (by decide +kernel) (by decide) i) (by decide) (by decide) (by decide) (fun i hi => by rw [x3 i hi]; match i, hi with | 0, _ => rfl | 1, _ => rfl | 2, _ => rfl)
  have o1 := hs_of 9 2 (by decide) (by decide) (by decide) (by decide)
  have dA := d_Det (hf := wA) (by decide) (show 0 < 2 by decide) (by decide)
  rw [dA2] at dA
  have dB := d_Det (hf := wB) (by decide) (show 0 < 3 by decide) (by decide)
  rw [dB3] at dB
  have dC := d_Det (hf := wC) (by decide) (show 0 < 3 by decide) (by decide)
  rw [dC3] at dC
  have dO := d_Det (hf := wO) (by decide) (show 0 < 2 by decide) (by decide)
  rw [dO2] at dO
  have kA := d_Rank (hf := wA) (by decide) (show 0 < 2 by decide) (by decide)
  rw [rA] at kA
  have kB := d_Rank (hf := wB) (by decide) (show 0 < 3 by decide) (by decide)
  rw [rB] at kB
  have kC := d_Rank (hf := wC) (by decide) (show 0 < 3 by decide) (by decide)
  rw [rC] at kC
  have kO := d_Rank (hf := wO) (by decide) (show 0 < 2 by decide) (by decide)
  rw [rO] at kO
  have e1 := cs_same (p := ((-2 : Int) : Rat)) (q := ((-2 : Int) : Rat)) (hp := ⟨(by decide +kernel : _ ≤ 1)⟩) (hq := ⟨(by decide +kernel : _ ≤ 1)⟩) ⟨by decide, by decide⟩
  rw [decide_eq_true rfl] at e1
  have e2 := cs_same (p := ((-24 : Int) : Rat)) (q := ((-24 : Int) : Rat)) (hp := ⟨(by decide +kernel : _ ≤ 1)⟩) (hq := ⟨(by decide +kernel : _ ≤ 1)⟩) ⟨by decide, by decide⟩
  rw [decide_eq_true rfl] at e2
  have z1 := hs_nought (p := 0)
  rw [decide_eq_true rfl] at z1
  have n1 := d_minors (hf := wB) (by decide) (show 0 < 3 by decide) (by decide)
  have n2 := d_minors (hf := wC) (by decide) (show 0 < 3 by decide) (by decide)
  have q1 := k_rowsl (n := 3) (f := fun i => gdet (i + 1) mB) (qs := [.q ((1 : Int) : Rat), .q ((-3 : Int) : Rat), .q ((0 : Int) : Rat)]) (K := 1) (fun i hi => by
    match i, hi with
    | 0, _ => exact ⟨by show wt (gdet 1 mB) ≤ 1; rw [dB1]; decide +kernel⟩
    | 1, _ => exact ⟨by show wt (gdet 2 mB) ≤ 1; rw [dB2]; decide +kernel⟩
    | 2, _ => exact ⟨by show wt (gdet 3 mB) ≤ 1; rw [dB3]; decide +kernel⟩) (by decide) (by decide) (by decide) (fun i hi => by
    match i, hi with
    | 0, _ => exact congrArg RA.q dB1.symm
    | 1, _ => exact congrArg RA.q dB2.symm
    | 2, _ => exact congrArg RA.q dB3.symm)
  have q2 := k_rowsl (n := 3) (f := fun i => gdet (i + 1) mC) (qs := [.q ((0 : Int) : Rat), .q ((0 : Int) : Rat), .q ((-24 : Int) : Rat)]) (K := 1) (fun i hi => by
    match i, hi with
    | 0, _ => exact ⟨by show wt (gdet 1 mC) ≤ 1; rw [dC1]; decide +kernel⟩
    | 1, _ => exact ⟨by show wt (gdet 2 mC) ≤ 1; rw [dC2]; decide +kernel⟩
    | 2, _ => exact ⟨by show wt (gdet 3 mC) ≤ 1; rw [dC3]; decide +kernel⟩) (by decide) (by decide) (by decide) (fun i hi => by
    match i, hi with
    | 0, _ => exact congrArg RA.q dC1.symm
    | 1, _ => exact congrArg RA.q dC2.symm
    | 2, _ => exact congrArg RA.q dC3.symm)
  have u1 := d_mul (hf := wA) (hg := wA) (by decide) (by decide) (show 0 < 2 by decide) (by decide)
  have wAA : ∀ i j, Wt (S 2 fun k => mA i k * mA k j) 25 := fun i j => (Wt.sum (by decide) fun k _ => (inferInstance : Wt (mA i k * mA k j) (1 + 1)))
  have u2 := k_all (hf := wAA) (G := mz [7, 10, 15, 22] 2) (by decide) (show 2 ≤ 1000 by decide) (show 2 ≤ 1000 by decide) (fun i hi j hj => fin2 (n := 2) (P := fun i j => (S 2 fun k => mA i k * mA k j) = mz [7, 10, 15, 22] 2 i j) (by decide +kernel) i j hi hj)
  have u3 := d_turn (hf := wA) (by decide) (show 0 < 2 by decide) (by decide)
  have u4 := k_all (F := fun i j => mA j i) (hf := fun i j => wA j i) (G := mz [1, 3, 2, 4] 2) (by decide) (show 2 ≤ 1000 by decide) (show 2 ≤ 1000 by decide) (fun i hi j hj => fin2 (n := 2) (P := fun i j => mA j i = mz [1, 3, 2, 4] 2 i j) (by decide +kernel) i j hi hj)
  repeat(first|refine run1 ?_|((with_reducible apply st_call);exact rfl;exact rfl;exact rfl;first|(exact k_known))|((with_reducible apply st_callg);exact rfl;exact rfl;(first|exact rfl|assumption);exact rfl;exact rfl;exact rfl;first|(exact k_known)))
  refine awp_no rfl rfl ?_
  repeat(first|refine run1p ?_|((with_reducible apply st_call);exact rfl;exact rfl;exact rfl;first|(exact hs_int _ (by decide) (by decide))|(exact m1)|(exact m2)|(exact m3)|(exact m4)|(exact m5)|(exact m6)|(exact s1)|(exact s2)|(exact s3)|(exact r1)|(exact r3)|(exact o1)|(exact dA)|(exact dB)|(exact dC)|(exact dO)|(exact kA)|(exact kB)|(exact kC)|(exact kO)|(exact e1)|(exact e2)|(exact z1)|(exact n1)|(exact n2)|(exact q1)|(exact q2)|(exact u1)|(exact u2)|(exact u3)|(exact u4))|((with_reducible apply st_callg);exact rfl;exact rfl;(first|exact rfl|assumption);exact rfl;exact rfl;exact rfl;first|(exact hs_int _ (by decide) (by decide))|(exact m1)|(exact m2)|(exact m3)|(exact m4)|(exact m5)|(exact m6)|(exact s1)|(exact s2)|(exact s3)|(exact r1)|(exact r3)|(exact o1)|(exact dA)|(exact dB)|(exact dC)|(exact dO)|(exact kA)|(exact kB)|(exact kC)|(exact kO)|(exact e1)|(exact e2)|(exact z1)|(exact n1)|(exact n2)|(exact q1)|(exact q2)|(exact u1)|(exact u2)|(exact u3)|(exact u4)))
  obtain ⟨w1, w2⟩ := wthn_lt (a := k) (n := 10) (by decide)
  have b1 := k_within7 (a := k) (n := 10) (by decide) (by decide)
  obtain ⟨I, hI⟩ : ∃ I : Nat, wthn k 10 = (I : Int) := ⟨(wthn k 10).toNat, by omega⟩
  rw [hI] at b1 w1 w2
  have hI10 : I < 10 := by omega
  repeat(first|refine run1 ?_|((with_reducible apply st_call);exact rfl;exact rfl;exact rfl;first|(exact b1))|((with_reducible apply st_callg);exact rfl;exact rfl;(first|exact rfl|assumption);exact rfl;exact rfl;exact rfl;first|(exact b1)))
  refine ⟨.inr rfl, _, Imp.refl _, .one (.tmp ?_)⟩
  match I, hI10 with
  | 0, _ => rfl
  | 1, _ => rfl
  | 2, _ => rfl
  | 3, _ => rfl
  | 4, _ => rfl
  | 5, _ => rfl
  | 6, _ => rfl
  | 7, _ => rfl
  | 8, _ => rfl
  | 9, _ => rfl
end Go.Proofs.Ytjmpanhacfjcaaa.AM

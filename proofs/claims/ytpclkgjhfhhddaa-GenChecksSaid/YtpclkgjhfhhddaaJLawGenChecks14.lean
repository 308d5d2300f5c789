/- Joined texts, 14: AmPb. -/
import Derived.Test.YtpclkgjhfhhddaaJLawGenChecks13
set_option linter.unusedVariables false
set_option linter.unusedSimpArgs false
/- Slices that are built and written no more. -/
namespace Go.Proofs.Ytpclkgjhfhhddaa.AM
open Go Go.RowKit Go.Proofs.Ytpclkgjhfhhddaa.PN Go.Proofs.Ytpclkgjhfhhddaa.V
set_option linter.unusedVariables false
set_option linter.unusedSimpArgs false
theorem put_put {α : Type} (f : Nat → Option α) (t : Nat) (x y : Option α) : put (put f t x) t y = put f t y := by
  funext t'; unfold put; cases Nat.beq t' t <;> rfl
theorem lok_pub {P : Program} {o : Oper} {s : St} {g d : Nat} {F : Nat → Blk} {rd : List Nat} {y : AV} (h : LOK P o s ⟨some (.own g 0), [(g, some (1, F))], rd⟩) (hd : o.dst = some d)
    (hp : ∀ s' : St, s'.env d = some (.own g 0) → s'.heap g = some (1, F) → Imp s' ⟨put s'.env d (some y), put s'.heap g none, s'.used⟩) : LOK P o s ⟨some y, [(g, none)], rd⟩ := by
  refine ⟨fun g' hg' hr => h.1 g' (by
    obtain ⟨b, hb⟩ := hg'
    simp only [List.mem_singleton, Prod.mk.injEq] at hb
    exact ⟨some (1, F), by rw [hb.1]; exact List.mem_singleton.2 rfl⟩) hr, fun s2 e1 e2 e3 e4 => ?_⟩
  have h2 := h.2 s2 e1 e2 e3 (fun g' hg' hr => e4 g' (by
    obtain ⟨b, hb⟩ := hg'
    simp only [List.mem_singleton, Prod.mk.injEq] at hb
    exact ⟨none, by rw [hb.1]; exact List.mem_singleton.2 rfl⟩) hr)
  intro W N β w a hs hdN K Q hK
  refine h2 W N β w a hs hdN K Q fun β' a' w' hs' => ?_
  rw [hd] at hs'
  obtain ⟨β'', hs''⟩ := hp (s2.app (some d) ⟨some (.own g 0), [(g, some (1, F))], rd⟩) (put_same _ _ _) (put_same _ _ _) W N β' w' a' hs'
  refine hK β'' a' w' ?_
  rw [hd]
  have e : s2.app (some d) ⟨some y, [(g, none)], rd⟩ = ⟨put (s2.app (some d) ⟨some (.own g 0), [(g, some (1, F))], rd⟩).env d (some y), put (s2.app (some d) ⟨some (.own g 0), [(g, some (1, F))], rd⟩).heap g none, (s2.app (some d) ⟨some (.own g 0), [(g, some (1, F))], rd⟩).used⟩ := by
    show (⟨put s2.env d (some y), put s2.heap g none, mark s2.used g⟩ : St) = ⟨put (put s2.env d _) d (some y), put (put s2.heap g _) g none, mark s2.used g⟩
    rw [put_put, put_put]
  rw [e]; exact hs''
theorem imp_seq {s : St} (t : Nat) {g n : Nat} {T : TypeId} {k : IntKind} {F : Nat → Blk} {f : Nat → AV} (l : List Int) (hx : s.env t = some (.own g 0)) (hg : s.heap g = some (1, F)) (hF : F 0 = .ones T n f) (hl : l.length = n) (hf : ∀ i, i < n → f i = .v (.int k (l.getD i 0))) : Imp s ⟨put s.env t (some (.seq k l)), put s.heap g none, s.used⟩ :=
  imp_turn1 hx hg trivial fun W N β w a hs v hv hok hb S' h1 h2 => by
    rw [hF] at hb
    subst hl
    obtain ⟨e0, A, n', c, e⟩ := hv
    rcases hb.2 with ⟨e', hn⟩ | ⟨kb, cs, hB, hr, hat, hx⟩
    · exact ⟨none, 0, by rw [hn]; exact e0.trans e', by omega, Nat.zero_le _, fun i hi => by omega⟩
    · have hub := ub_at hat
      rcases hat with ⟨e', _⟩ | ⟨cap, e', h3, h4, _⟩
      · rw [← e0, e] at e'; cases e'
      · refine ⟨_, cap, e0.trans e', h3, h4, fun i hi => ?_⟩
        obtain ⟨y, a0, a1, a2⟩ := hx i hi
        rw [hf i hi] at a2
        have a2 : y = .int k (l.getD i 0) := a2
        subst a2
        refine ⟨_, rfl, h2 kb hub, ?_⟩
        have := cell_of_row w kb i cs T (0, 0) hr
        show w.cell? (Addr.add ⟨kb, 0, none⟩ i) = _
        rw [show Addr.add ⟨kb, 0, none⟩ i = ⟨kb, i, none⟩ by unfold Addr.add; simp; intro h; exact h.symm]
        rw [this]; exact a0
def ints : List AV → Option (List Int)
  | [] => some []
  | .v (.int .i64 n) :: l => match ints l with
    | some ns => some (n :: ns)
    | none => none
  | _ :: _ => none
theorem ints_get : ∀ {l : List AV} {qs : List Int}, ints l = some qs → qs.length = l.length ∧ ∀ (j : Nat), j < l.length → l.getD j (.v undef) = AV.v (.int .i64 (qs.getD j 0))
  | [], qs, h => by cases h; exact ⟨rfl, fun j hj => absurd hj (Nat.not_lt_zero _)⟩
  | .v (.int .i64 n) :: l, qs, h => by
    unfold ints at h
    split at h
    · rename_i ns e
      cases h
      obtain ⟨h1, h2⟩ := ints_get e
      refine ⟨by simp [h1], fun j hj => ?_⟩
      cases j with
      | zero => rfl
      | succ j => exact h2 j (by simpa using hj)
    · cases h
def rows1 : List AV → Option (List (Nat × (Nat → RA)))
  | [] => some []
  | .row _ n f :: l => match rows1 l with
    | some qs => some ((n, f) :: qs)
    | none => none
  | _ :: _ => none
theorem rows1_get : ∀ {l : List AV} {qs : List (Nat × (Nat → RA))}, rows1 l = some qs → qs.length = l.length ∧ ∀ (j : Nat), j < l.length → ∃ fr, l.getD j (.v undef) = AV.row fr (qs.getD j (0, fun _ => ra0)).1 (qs.getD j (0, fun _ => ra0)).2
  | [], qs, h => by cases h; exact ⟨rfl, fun j hj => absurd hj (Nat.not_lt_zero _)⟩
  | .row fr n f :: l, qs, h => by
    unfold rows1 at h
    split at h
    · rename_i ns e
      cases h
      obtain ⟨h1, h2⟩ := rows1_get e
      refine ⟨by simp [h1], fun j hj => ?_⟩
      cases j with
      | zero => exact ⟨fr, rfl⟩
      | succ j => exact h2 j (by simpa using hj)
    · cases h
def outP (s : St) (d : Option Tmp) (r : AV) (c : Prop) : Ev :=
  bif s.used (fresh s d) then none else force (fresh s d) fun g => some (⟨some r, [(g, none)], []⟩, c)
theorem outP_inj {s : St} {d : Option Tmp} {r : AV} {c c' : Prop} {D : Dsc} (h : outP s d r c' = some (D, c)) : s.used (fresh s d) = false ∧ D = ⟨some r, [(fresh s d, none)], []⟩ ∧ c = c' := by
  unfold outP at h
  cases e : s.used (fresh s d) with
  | true => rw [e] at h; cases h
  | false => rw [e, cond_false, force_eq] at h; cases h; exact ⟨rfl, rfl, rfl⟩
def evBuildP (s : St) (d : Option Tmp) (T : TypeId) (n : Nat) (l : List (Nat × Operand)) : Ev :=
  match avos s l with
  | some [] => none
  | some ys =>
    bif Nat.beq T WT then (match ras ys with
      | some qs => outP s d (.row true n (fun i => qs.getD i ra0)) (idxs 0 l = true ∧ l.length = n ∧ n ≤ 100000)
      | none => none) else
    match elT T with
    | some (E, _) => bif Nat.beq T MT then (match rows1 ys with
        | some qs => outP s d (.mat false n (fun i => (qs.getD i (0, fun _ => ra0)).1) (fun i => (qs.getD i (0, fun _ => ra0)).2)) (idxs 0 l = true ∧ l.length = n ∧ n ≤ 100000 ∧ ys.all (·.one) = true)
        | none => none) else
      (match ints ys with
        | some qs => outP s d (.seq .i64 qs) (idxs 0 l = true ∧ l.length = n ∧ n ≤ 100000 ∧ ys.all (·.one) = true)
        | none => none)
    | none => none
  | none => none
theorem evBuildP_ok {o : Oper} {s : St} {D : Dsc} {c : Prop} {T : TypeId} {n d : Nat} {parts : Array (Nat × Operand)} (ho : o.op = .buildSlice T n parts) (hd : o.dst = some d) (h : evBuildP s o.dst T n parts.toList = some (D, c)) (hc : c) : LOK Try.prog o s D := by
  unfold evBuildP at h
  split at h
  · cases h
  · rename_i ys _ e1
    have hlen := avos_len e1
    cases e : Nat.beq T WT with
    | true =>
      rw [e] at h; have hT := Nat.eq_of_beq_eq_true e; subst hT
      simp only [cond_true] at h
      split at h
      · rename_i qs e2
        obtain ⟨hu, rfl, rfl⟩ := outP_inj h
        exact lok_pub (ok_build_rat ho hu hc.1 hc.2.1 hc.2.2 e1 e2) hd fun s' h1 h2 => imp_row d h1 h2 rfl
      · cases h
    | false =>
      rw [e] at h
      simp only [cond_false] at h
      split at h
      · rename_i E z e3
        obtain ⟨bytes, he⟩ := el_ok e3
        cases e4 : Nat.beq T MT with
        | true =>
          rw [e4] at h; have hT := Nat.eq_of_beq_eq_true e4; subst hT
          have hE : E = WT := by
            have h5 : elT MT = some (WT, .slice none 0 0) := by rfl
            rw [h5] at e3; cases e3; rfl
          subst hE
          simp only [cond_true] at h
          split at h
          · rename_i qs e2
            obtain ⟨hu, rfl, rfl⟩ := outP_inj h
            obtain ⟨hq1, hq2⟩ := rows1_get e2
            exact lok_pub (ok_build_one ho he hu hc.1 hc.2.1 hc.2.2.1 e1 hc.2.2.2) hd fun s' h1 h2 => imp_matf d _ _ h1 h2 rfl fun i hi => hq2 i (by rw [hlen, hc.2.1]; exact hi)
          · cases h
        | false =>
          rw [e4] at h
          simp only [cond_false] at h
          split at h
          · rename_i qs e2
            obtain ⟨hu, rfl, rfl⟩ := outP_inj h
            obtain ⟨hq1, hq2⟩ := ints_get e2
            exact lok_pub (ok_build_one ho he hu hc.1 hc.2.1 hc.2.2.1 e1 hc.2.2.2) hd fun s' h1 h2 => imp_seq d qs h1 h2 rfl (by rw [hq1, hlen, hc.2.1]) fun i hi => hq2 i (by rw [hlen, hc.2.1]; exact hi)
          · cases h
      · cases h
  · cases h
section
variable {ops : Array Oper} {l : List Oper} {s : St} {acc : List Fp} {K : St → List Fp → Prop} {c : Prop} {d : Nat} {r : Option AV} {upd : List (Nat × Option Fam)} {rd : List Nat} {ty : TypeId} {ps : String} {aft : Array Edge} {T : TypeId} {n : Nat} {parts : Array (Nat × Operand)}
theorem st_bp (h : evBuildP s (some d) T n parts.toList = some (⟨r, upd, rd⟩, c)) (hc : c) (k : AOps Try.prog ops l (nxt s (some d) r upd) ((rd, upd.map (·.1)) :: acc) K) : AOps Try.prog ops (⟨some d, .buildSlice T n parts, ty, ps, aft, none⟩ :: l) s acc K :=
  .cons _ (.inl ⟨.none rfl, evBuildP_ok rfl rfl h hc⟩) k
theorem st_bpg {j : Nat} {want b : Bool} {t : Tmp} (ht : (ops[j]?).bind (·.dst) = some t) (he : s.env t = some (.v (.bool b))) (hb : (b == want) = true) (h : evBuildP s (some d) T n parts.toList = some (⟨r, upd, rd⟩, c)) (hc : c) (k : AOps Try.prog ops l (nxt s (some d) r upd) ((rd, upd.map (·.1)) :: acc) K) : AOps Try.prog ops (⟨some d, .buildSlice T n parts, ty, ps, aft, some (j, want)⟩ :: l) s acc K :=
  .cons _ (.inl ⟨hb ▸ .some j want t b rfl ht he, evBuildP_ok rfl rfl h hc⟩) k
end
/-! Long regions are lists put together. -/
theorem st_ap {P : Program} {ops : Array Oper} {x : Oper} {l m : List Oper} {s : St} {acc : List Fp} {K : St → List Fp → Prop} (h : AOps P ops (x :: List.append l m) s acc K) : AOps P ops (List.append (x :: l) m) s acc K := h
theorem st_ap0 {P : Program} {ops : Array Oper} {m : List Oper} {s : St} {acc : List Fp} {K : St → List Fp → Prop} (h : AOps P ops m s acc K) : AOps P ops (List.append [] m) s acc K := h
theorem st_apa {P : Program} {ops : Array Oper} {l m n : List Oper} {s : St} {acc : List Fp} {K : St → List Fp → Prop} (h : AOps P ops (List.append l (List.append m n)) s acc K) : AOps P ops (List.append (List.append l m) n) s acc K := by
  have e : List.append (List.append l m) n = List.append l (List.append m n) := List.append_assoc l m n
  rw [e]; exact h
theorem run0p {G R : Prop} (k : R) (f : Held R → G := by intro hR; (repeat(first|(with_reducible first|refine awp_seq ?_|refine awp_block ?_|refine awp_skip ?_|refine awp_exit ?_|refine awp_ret ?_|refine q_then ?_|refine q_block ?_|refine q_then_exit ?_|refine q_then_ret ?_|refine q_block_exit ?_|refine q_block_ret ?_|refine q_loop_exit ?_|refine q_loop_ret ?_)|((with_reducible refine q_block_other ?_ ?_);exact rfl)|((with_reducible refine reg ?_ ?_);exact rfl)|(with_reducible first|apply st_ap|apply st_ap0|apply st_apa)|((with_reducible apply st_bp);exact rfl;(first|exact True.intro|((repeat' apply And.intro)<;>first|exact True.intro|with_reducible rfl|(simp only[Fits];omega)|omega|assumption|decide|(simp;done)|exact rfl)))|((with_reducible apply st_bpg);exact rfl;exact rfl;(first|exact rfl|assumption);exact rfl;(first|exact True.intro|((repeat' apply And.intro)<;>first|exact True.intro|with_reducible rfl|(simp only[Fits];omega)|omega|assumption|decide|(simp;done)|exact rfl)))|((with_reducible apply st_ev2);exact rfl;(first|exact True.intro|((repeat' apply And.intro)<;>first|exact True.intro|with_reducible rfl|(simp only[Fits];omega)|omega|assumption|decide|(simp;done)|exact rfl)))|((with_reducible apply st_evg2);exact rfl;exact rfl;(first|exact rfl|assumption);exact rfl;(first|exact True.intro|((repeat' apply And.intro)<;>first|exact True.intro|with_reducible rfl|(simp only[Fits];omega)|omega|assumption|decide|(simp;done)|exact rfl)))|((with_reducible refine st_end ?_ ?_);first|exact .inl rfl|exact .inr rfl)|(with_reducible apply st_build0)|((with_reducible apply st_ev);exact rfl;(first|exact True.intro|((repeat' apply And.intro)<;>first|exact True.intro|with_reducible rfl|(simp only[Fits];omega)|omega|assumption|decide|(simp;done)|exact rfl)))|((with_reducible apply st_evg);exact rfl;exact rfl;(first|exact rfl|assumption);exact rfl;(first|exact True.intro|((repeat' apply And.intro)<;>first|exact True.intro|with_reducible rfl|(simp only[Fits];omega)|omega|assumption|decide|(simp;done)|exact rfl)))|((with_reducible apply st_skip);exact rfl;exact rfl;(first|exact rfl|assumption))|((with_reducible apply st_app0);exact rfl;exact rfl;exact rfl;omega)|((with_reducible apply st_skipu);exact rfl;exact rfl)|((with_reducible apply st_pickt);exact rfl;assumption;exact rfl)|((with_reducible apply st_pickf);exact rfl;assumption;exact rfl)|((with_reducible apply st_pickgt);exact rfl;exact rfl;(first|exact rfl|assumption);exact rfl;(first|exact rfl|assumption);exact rfl)|((with_reducible apply st_pickgf);exact rfl;exact rfl;(first|exact rfl|assumption);exact rfl;(first|exact rfl|assumption);exact rfl)|((with_reducible apply st_build);exact rfl;first|exact rfl|(first|exact True.intro|((repeat' apply And.intro)<;>first|exact True.intro|with_reducible rfl|(simp only[Fits];omega)|omega|assumption|decide|(simp;done)|exact rfl))))); exact hR.out) : G := f ⟨k⟩
theorem run1p {G R : Prop} (k : R) (f : Held R → G := by intro hR; (first|(with_reducible first|refine awp_seq ?_|refine awp_block ?_|refine awp_skip ?_|refine awp_exit ?_|refine awp_ret ?_|refine q_then ?_|refine q_block ?_|refine q_then_exit ?_|refine q_then_ret ?_|refine q_block_exit ?_|refine q_block_ret ?_|refine q_loop_exit ?_|refine q_loop_ret ?_)|((with_reducible refine q_block_other ?_ ?_);exact rfl)|((with_reducible refine reg ?_ ?_);exact rfl)|(with_reducible first|apply st_ap|apply st_ap0|apply st_apa)|((with_reducible apply st_bp);exact rfl;(first|exact True.intro|((repeat' apply And.intro)<;>first|exact True.intro|with_reducible rfl|(simp only[Fits];omega)|omega|assumption|decide|(simp;done)|exact rfl)))|((with_reducible apply st_bpg);exact rfl;exact rfl;(first|exact rfl|assumption);exact rfl;(first|exact True.intro|((repeat' apply And.intro)<;>first|exact True.intro|with_reducible rfl|(simp only[Fits];omega)|omega|assumption|decide|(simp;done)|exact rfl)))|((with_reducible apply st_ev2);exact rfl;(first|exact True.intro|((repeat' apply And.intro)<;>first|exact True.intro|with_reducible rfl|(simp only[Fits];omega)|omega|assumption|decide|(simp;done)|exact rfl)))|((with_reducible apply st_evg2);exact rfl;exact rfl;(first|exact rfl|assumption);exact rfl;(first|exact True.intro|((repeat' apply And.intro)<;>first|exact True.intro|with_reducible rfl|(simp only[Fits];omega)|omega|assumption|decide|(simp;done)|exact rfl)))|((with_reducible refine st_end ?_ ?_);first|exact .inl rfl|exact .inr rfl)|(with_reducible apply st_build0)|((with_reducible apply st_ev);exact rfl;(first|exact True.intro|((repeat' apply And.intro)<;>first|exact True.intro|with_reducible rfl|(simp only[Fits];omega)|omega|assumption|decide|(simp;done)|exact rfl)))|((with_reducible apply st_evg);exact rfl;exact rfl;(first|exact rfl|assumption);exact rfl;(first|exact True.intro|((repeat' apply And.intro)<;>first|exact True.intro|with_reducible rfl|(simp only[Fits];omega)|omega|assumption|decide|(simp;done)|exact rfl)))|((with_reducible apply st_skip);exact rfl;exact rfl;(first|exact rfl|assumption))|((with_reducible apply st_app0);exact rfl;exact rfl;exact rfl;omega)|((with_reducible apply st_skipu);exact rfl;exact rfl)|((with_reducible apply st_pickt);exact rfl;assumption;exact rfl)|((with_reducible apply st_pickf);exact rfl;assumption;exact rfl)|((with_reducible apply st_pickgt);exact rfl;exact rfl;(first|exact rfl|assumption);exact rfl;(first|exact rfl|assumption);exact rfl)|((with_reducible apply st_pickgf);exact rfl;exact rfl;(first|exact rfl|assumption);exact rfl;(first|exact rfl|assumption);exact rfl)|((with_reducible apply st_build);exact rfl;first|exact rfl|(first|exact True.intro|((repeat' apply And.intro)<;>first|exact True.intro|with_reducible rfl|(simp only[Fits];omega)|omega|assumption|decide|(simp;done)|exact rfl))));(repeat(first|(with_reducible first|refine awp_seq ?_|refine awp_block ?_|refine awp_skip ?_|refine awp_exit ?_|refine awp_ret ?_|refine q_then ?_|refine q_block ?_|refine q_then_exit ?_|refine q_then_ret ?_|refine q_block_exit ?_|refine q_block_ret ?_|refine q_loop_exit ?_|refine q_loop_ret ?_)|((with_reducible refine q_block_other ?_ ?_);exact rfl)|((with_reducible refine reg ?_ ?_);exact rfl)|(with_reducible first|apply st_ap|apply st_ap0|apply st_apa)|((with_reducible apply st_bp);exact rfl;(first|exact True.intro|((repeat' apply And.intro)<;>first|exact True.intro|with_reducible rfl|(simp only[Fits];omega)|omega|assumption|decide|(simp;done)|exact rfl)))|((with_reducible apply st_bpg);exact rfl;exact rfl;(first|exact rfl|assumption);exact rfl;(first|exact True.intro|((repeat' apply And.intro)<;>first|exact True.intro|with_reducible rfl|(simp only[Fits];omega)|omega|assumption|decide|(simp;done)|exact rfl)))|((with_reducible apply st_ev2);exact rfl;(first|exact True.intro|((repeat' apply And.intro)<;>first|exact True.intro|with_reducible rfl|(simp only[Fits];omega)|omega|assumption|decide|(simp;done)|exact rfl)))|((with_reducible apply st_evg2);exact rfl;exact rfl;(first|exact rfl|assumption);exact rfl;(first|exact True.intro|((repeat' apply And.intro)<;>first|exact True.intro|with_reducible rfl|(simp only[Fits];omega)|omega|assumption|decide|(simp;done)|exact rfl)))|((with_reducible refine st_end ?_ ?_);first|exact .inl rfl|exact .inr rfl)|(with_reducible apply st_build0)|((with_reducible apply st_ev);exact rfl;(first|exact True.intro|((repeat' apply And.intro)<;>first|exact True.intro|with_reducible rfl|(simp only[Fits];omega)|omega|assumption|decide|(simp;done)|exact rfl)))|((with_reducible apply st_evg);exact rfl;exact rfl;(first|exact rfl|assumption);exact rfl;(first|exact True.intro|((repeat' apply And.intro)<;>first|exact True.intro|with_reducible rfl|(simp only[Fits];omega)|omega|assumption|decide|(simp;done)|exact rfl)))|((with_reducible apply st_skip);exact rfl;exact rfl;(first|exact rfl|assumption))|((with_reducible apply st_app0);exact rfl;exact rfl;exact rfl;omega)|((with_reducible apply st_skipu);exact rfl;exact rfl)|((with_reducible apply st_pickt);exact rfl;assumption;exact rfl)|((with_reducible apply st_pickf);exact rfl;assumption;exact rfl)|((with_reducible apply st_pickgt);exact rfl;exact rfl;(first|exact rfl|assumption);exact rfl;(first|exact rfl|assumption);exact rfl)|((with_reducible apply st_pickgf);exact rfl;exact rfl;(first|exact rfl|assumption);exact rfl;(first|exact rfl|assumption);exact rfl)|((with_reducible apply st_build);exact rfl;first|exact rfl|(first|exact True.intro|((repeat' apply And.intro)<;>first|exact True.intro|with_reducible rfl|(simp only[Fits];omega)|omega|assumption|decide|(simp;done)|exact rfl))))); exact hR.out) : G := f ⟨k⟩
theorem run4p {G R : Prop} (k : R) (f : Held R → G := by intro hR; (first|(with_reducible first|refine awp_seq ?_|refine awp_block ?_|refine awp_skip ?_|refine awp_exit ?_|refine awp_ret ?_|refine q_then ?_|refine q_block ?_|refine q_then_exit ?_|refine q_then_ret ?_|refine q_block_exit ?_|refine q_block_ret ?_|refine q_loop_exit ?_|refine q_loop_ret ?_)|((with_reducible refine q_block_other ?_ ?_);exact rfl)|(with_reducible first|apply st_ap|apply st_ap0|apply st_apa)|((with_reducible apply st_bp);exact rfl;(first|exact True.intro|((repeat' apply And.intro)<;>first|exact True.intro|with_reducible rfl|(simp only[Fits];omega)|omega|assumption|decide|(simp;done)|exact rfl)))|((with_reducible apply st_bpg);exact rfl;exact rfl;(first|exact rfl|assumption);exact rfl;(first|exact True.intro|((repeat' apply And.intro)<;>first|exact True.intro|with_reducible rfl|(simp only[Fits];omega)|omega|assumption|decide|(simp;done)|exact rfl)))|((with_reducible apply st_ev2);exact rfl;(first|exact True.intro|((repeat' apply And.intro)<;>first|exact True.intro|with_reducible rfl|(simp only[Fits];omega)|omega|assumption|decide|(simp;done)|exact rfl)))|((with_reducible apply st_evg2);exact rfl;exact rfl;(first|exact rfl|assumption);exact rfl;(first|exact True.intro|((repeat' apply And.intro)<;>first|exact True.intro|with_reducible rfl|(simp only[Fits];omega)|omega|assumption|decide|(simp;done)|exact rfl)))|((with_reducible refine st_end ?_ ?_);first|exact .inl rfl|exact .inr rfl)|(with_reducible apply st_build0)|((with_reducible apply st_ev);exact rfl;(first|exact True.intro|((repeat' apply And.intro)<;>first|exact True.intro|with_reducible rfl|(simp only[Fits];omega)|omega|assumption|decide|(simp;done)|exact rfl)))|((with_reducible apply st_evg);exact rfl;exact rfl;(first|exact rfl|assumption);exact rfl;(first|exact True.intro|((repeat' apply And.intro)<;>first|exact True.intro|with_reducible rfl|(simp only[Fits];omega)|omega|assumption|decide|(simp;done)|exact rfl)))|((with_reducible apply st_skip);exact rfl;exact rfl;(first|exact rfl|assumption))|((with_reducible apply st_app0);exact rfl;exact rfl;exact rfl;omega)|((with_reducible apply st_skipu);exact rfl;exact rfl)|((with_reducible apply st_pickt);exact rfl;assumption;exact rfl)|((with_reducible apply st_pickf);exact rfl;assumption;exact rfl)|((with_reducible apply st_pickgt);exact rfl;exact rfl;(first|exact rfl|assumption);exact rfl;(first|exact rfl|assumption);exact rfl)|((with_reducible apply st_pickgf);exact rfl;exact rfl;(first|exact rfl|assumption);exact rfl;(first|exact rfl|assumption);exact rfl)|((with_reducible apply st_build);exact rfl;first|exact rfl|(first|exact True.intro|((repeat' apply And.intro)<;>first|exact True.intro|with_reducible rfl|(simp only[Fits];omega)|omega|assumption|decide|(simp;done)|exact rfl))));(repeat(first|(with_reducible first|refine awp_seq ?_|refine awp_block ?_|refine awp_skip ?_|refine awp_exit ?_|refine awp_ret ?_|refine q_then ?_|refine q_block ?_|refine q_then_exit ?_|refine q_then_ret ?_|refine q_block_exit ?_|refine q_block_ret ?_|refine q_loop_exit ?_|refine q_loop_ret ?_)|((with_reducible refine q_block_other ?_ ?_);exact rfl)|(with_reducible first|apply st_ap|apply st_ap0|apply st_apa)|((with_reducible apply st_bp);exact rfl;(first|exact True.intro|((repeat' apply And.intro)<;>first|exact True.intro|with_reducible rfl|(simp only[Fits];omega)|omega|assumption|decide|(simp;done)|exact rfl)))|((with_reducible apply st_bpg);exact rfl;exact rfl;(first|exact rfl|assumption);exact rfl;(first|exact True.intro|((repeat' apply And.intro)<;>first|exact True.intro|with_reducible rfl|(simp only[Fits];omega)|omega|assumption|decide|(simp;done)|exact rfl)))|((with_reducible apply st_ev2);exact rfl;(first|exact True.intro|((repeat' apply And.intro)<;>first|exact True.intro|with_reducible rfl|(simp only[Fits];omega)|omega|assumption|decide|(simp;done)|exact rfl)))|((with_reducible apply st_evg2);exact rfl;exact rfl;(first|exact rfl|assumption);exact rfl;(first|exact True.intro|((repeat' apply And.intro)<;>first|exact True.intro|with_reducible rfl|(simp only[Fits];omega)|omega|assumption|decide|(simp;done)|exact rfl)))|((with_reducible refine st_end ?_ ?_);first|exact .inl rfl|exact .inr rfl)|(with_reducible apply st_build0)|((with_reducible apply st_ev);exact rfl;(first|exact True.intro|((repeat' apply And.intro)<;>first|exact True.intro|with_reducible rfl|(simp only[Fits];omega)|omega|assumption|decide|(simp;done)|exact rfl)))|((with_reducible apply st_evg);exact rfl;exact rfl;(first|exact rfl|assumption);exact rfl;(first|exact True.intro|((repeat' apply And.intro)<;>first|exact True.intro|with_reducible rfl|(simp only[Fits];omega)|omega|assumption|decide|(simp;done)|exact rfl)))|((with_reducible apply st_skip);exact rfl;exact rfl;(first|exact rfl|assumption))|((with_reducible apply st_app0);exact rfl;exact rfl;exact rfl;omega)|((with_reducible apply st_skipu);exact rfl;exact rfl)|((with_reducible apply st_pickt);exact rfl;assumption;exact rfl)|((with_reducible apply st_pickf);exact rfl;assumption;exact rfl)|((with_reducible apply st_pickgt);exact rfl;exact rfl;(first|exact rfl|assumption);exact rfl;(first|exact rfl|assumption);exact rfl)|((with_reducible apply st_pickgf);exact rfl;exact rfl;(first|exact rfl|assumption);exact rfl;(first|exact rfl|assumption);exact rfl)|((with_reducible apply st_build);exact rfl;first|exact rfl|(first|exact True.intro|((repeat' apply And.intro)<;>first|exact True.intro|with_reducible rfl|(simp only[Fits];omega)|omega|assumption|decide|(simp;done)|exact rfl))))); exact hR.out) : G := f ⟨k⟩
end Go.Proofs.Ytpclkgjhfhhddaa.AM

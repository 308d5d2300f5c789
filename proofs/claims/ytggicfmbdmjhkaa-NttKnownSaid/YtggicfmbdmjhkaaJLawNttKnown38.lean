/- Joined texts, 38: AmPb AmBy. -/
import Derived.Test.YtggicfmbdmjhkaaJLawNttKnown37
import Derived.Laws.Concat
import Derived.Laws.BytesString
import Derived.Laws.CopyRow
set_option linter.unusedVariables false
set_option linter.unusedSimpArgs false
/- Slices that are built and written no more. -/
namespace Go.Proofs.Ytggicfmbdmjhkaa.AM
open Go Go.RowKit Go.Proofs.Ytggicfmbdmjhkaa.PN Go.Proofs.Ytggicfmbdmjhkaa.V
set_option linter.unusedVariables false
set_option linter.unusedSimpArgs false
theorem put_put {α : Type} (f : Nat → Option α) (t : Nat) (x y : Option α) : put (put f t x) t y = put f t y := by
  funext t'; unfold put; cases Nat.beq t' t <;> rfl
theorem lok_pub {P : Program} {o : Oper} {s : St} {g d : Nat} {F : Nat → Blk} {rd : List Nat} {y : AV} (h : LOK P o s ⟨some (.own g 0), [(g, some (1, F))], rd⟩) (hd : o.dst = some d)
    (hp : ∀ s' : St, s'.env d = some (.own g 0) → s'.heap g = some (1, F) → Imp s' ⟨put s'.env d (some y), put s'.heap g none, s'.used⟩) : LOK P o s ⟨some y, [(g, none)], rd⟩ := by
  refine ⟨fun g' hg' hr => h.1 g' (by
    obtain ⟨b, hb⟩ := hg'
    simp only [List.mem_singleton, Prod.mk.injEq] at hb
    exact ⟨some (1, F), by rw [hb.1]; exact List.mem_singleton.2 rfl⟩) hr, fun s2 e1 e2 e3 e4 => ?_⟩
  have h2 := h.2 s2 e1 e2 e3 (fun g' hg' hr => e4 g' (by
    obtain ⟨b, hb⟩ := hg'
    simp only [List.mem_singleton, Prod.mk.injEq] at hb
    exact ⟨none, by rw [hb.1]; exact List.mem_singleton.2 rfl⟩) hr)
  intro W N β w a hs hdN K Q hK
  refine h2 W N β w a hs hdN K Q fun β' a' w' hs' => ?_
  rw [hd] at hs'
  obtain ⟨β'', hs''⟩ := hp (s2.app (some d) ⟨some (.own g 0), [(g, some (1, F))], rd⟩) (put_same _ _ _) (put_same _ _ _) W N β' w' a' hs'
  refine hK β'' a' w' ?_
  rw [hd]
  have e : s2.app (some d) ⟨some y, [(g, none)], rd⟩ = ⟨put (s2.app (some d) ⟨some (.own g 0), [(g, some (1, F))], rd⟩).env d (some y), put (s2.app (some d) ⟨some (.own g 0), [(g, some (1, F))], rd⟩).heap g none, (s2.app (some d) ⟨some (.own g 0), [(g, some (1, F))], rd⟩).used⟩ := by
    show (⟨put s2.env d (some y), put s2.heap g none, mark s2.used g⟩ : St) = ⟨put (put s2.env d _) d (some y), put (put s2.heap g _) g none, mark s2.used g⟩
    rw [put_put, put_put]
  rw [e]; exact hs''
theorem imp_seq {s : St} (t : Nat) {g n : Nat} {T : TypeId} {k : IntKind} {F : Nat → Blk} {f : Nat → AV} (l : List Int) (hx : s.env t = some (.own g 0)) (hg : s.heap g = some (1, F)) (hF : F 0 = .ones T n f) (hl : l.length = n) (hf : ∀ i, i < n → f i = .v (.int k (l.getD i 0))) : Imp s ⟨put s.env t (some (.seq k l)), put s.heap g none, s.used⟩ :=
  imp_turn1 hx hg trivial fun W N β w a hs v hv hok hb S' h1 h2 => by
    rw [hF] at hb
    subst hl
    obtain ⟨e0, A, n', c, e⟩ := hv
    rcases hb.2 with ⟨e', hn⟩ | ⟨kb, cs, hB, hr, hat, hx⟩
    · exact ⟨none, 0, by rw [hn]; exact e0.trans e', by omega, Nat.zero_le _, fun i hi => by omega⟩
    · have hub := ub_at hat
      rcases hat with ⟨e', _⟩ | ⟨cap, e', h3, h4, _⟩
      · rw [← e0, e] at e'; cases e'
      · refine ⟨_, cap, e0.trans e', h3, h4, fun i hi => ?_⟩
        obtain ⟨y, a0, a1, a2⟩ := hx i hi
        rw [hf i hi] at a2
        have a2 : y = .int k (l.getD i 0) := a2
        subst a2
        refine ⟨_, rfl, h2 kb hub, ?_⟩
        have := cell_of_row w kb i cs T (0, 0) hr
        show w.cell? (Addr.add ⟨kb, 0, none⟩ i) = _
        rw [show Addr.add ⟨kb, 0, none⟩ i = ⟨kb, i, none⟩ by unfold Addr.add; simp; intro h; exact h.symm]
        rw [this]; exact a0
def ints : List AV → Option (List Int)
  | [] => some []
  | .v (.int .i64 n) :: l => match ints l with
    | some ns => some (n :: ns)
    | none => none
  | _ :: _ => none
theorem ints_get : ∀ {l : List AV} {qs : List Int}, ints l = some qs → qs.length = l.length ∧ ∀ (j : Nat), j < l.length → l.getD j (.v undef) = AV.v (.int .i64 (qs.getD j 0))
  | [], qs, h => by cases h; exact ⟨rfl, fun j hj => absurd hj (Nat.not_lt_zero _)⟩
  | .v (.int .i64 n) :: l, qs, h => by
    unfold ints at h
    split at h
    · rename_i ns e
      cases h
      obtain ⟨h1, h2⟩ := ints_get e
      refine ⟨by simp [h1], fun j hj => ?_⟩
      cases j with
      | zero => rfl
      | succ j => exact h2 j (by simpa using hj)
    · cases h
def rows1 : List AV → Option (List (Nat × (Nat → RA)))
  | [] => some []
  | .row _ n f :: l => match rows1 l with
    | some qs => some ((n, f) :: qs)
    | none => none
  | _ :: _ => none
theorem rows1_get : ∀ {l : List AV} {qs : List (Nat × (Nat → RA))}, rows1 l = some qs → qs.length = l.length ∧ ∀ (j : Nat), j < l.length → ∃ fr, l.getD j (.v undef) = AV.row fr (qs.getD j (0, fun _ => ra0)).1 (qs.getD j (0, fun _ => ra0)).2
  | [], qs, h => by cases h; exact ⟨rfl, fun j hj => absurd hj (Nat.not_lt_zero _)⟩
  | .row fr n f :: l, qs, h => by
    unfold rows1 at h
    split at h
    · rename_i ns e
      cases h
      obtain ⟨h1, h2⟩ := rows1_get e
      refine ⟨by simp [h1], fun j hj => ?_⟩
      cases j with
      | zero => exact ⟨fr, rfl⟩
      | succ j => exact h2 j (by simpa using hj)
    · cases h
def outP (s : St) (d : Option Tmp) (r : AV) (c : Prop) : Ev :=
  bif s.used (fresh s d) then none else force (fresh s d) fun g => some (⟨some r, [(g, none)], []⟩, c)
theorem outP_inj {s : St} {d : Option Tmp} {r : AV} {c c' : Prop} {D : Dsc} (h : outP s d r c' = some (D, c)) : s.used (fresh s d) = false ∧ D = ⟨some r, [(fresh s d, none)], []⟩ ∧ c = c' := by
  unfold outP at h
  cases e : s.used (fresh s d) with
  | true => rw [e] at h; cases h
  | false => rw [e, cond_false, force_eq] at h; cases h; exact ⟨rfl, rfl, rfl⟩
def evBuildP (s : St) (d : Option Tmp) (T : TypeId) (n : Nat) (l : List (Nat × Operand)) : Ev :=
  match avos s l with
  | some [] => none
  | some ys =>
    bif Nat.beq T WT then (match ras ys with
      | some qs => outP s d (.row true n (fun i => qs.getD i ra0)) (idxs 0 l = true ∧ l.length = n ∧ n ≤ 100000)
      | none => none) else
    match elT T with
    | some (E, _) => bif Nat.beq T MT then (match rows1 ys with
        | some qs => outP s d (.mat false n (fun i => (qs.getD i (0, fun _ => ra0)).1) (fun i => (qs.getD i (0, fun _ => ra0)).2)) (idxs 0 l = true ∧ l.length = n ∧ n ≤ 100000 ∧ ys.all (·.one) = true)
        | none => none) else
      (match ints ys with
        | some qs => outP s d (.seq .i64 qs) (idxs 0 l = true ∧ l.length = n ∧ n ≤ 100000 ∧ ys.all (·.one) = true)
        | none => none)
    | none => none
  | none => none
theorem evBuildP_ok {o : Oper} {s : St} {D : Dsc} {c : Prop} {T : TypeId} {n d : Nat} {parts : Array (Nat × Operand)} (ho : o.op = .buildSlice T n parts) (hd : o.dst = some d) (h : evBuildP s o.dst T n parts.toList = some (D, c)) (hc : c) : LOK Try.prog o s D := by
  unfold evBuildP at h
  split at h
  · cases h
  · rename_i ys _ e1
    have hlen := avos_len e1
    cases e : Nat.beq T WT with
    | true =>
      rw [e] at h; have hT := Nat.eq_of_beq_eq_true e; subst hT
      simp only [cond_true] at h
      split at h
      · rename_i qs e2
        obtain ⟨hu, rfl, rfl⟩ := outP_inj h
        exact lok_pub (ok_build_rat ho hu hc.1 hc.2.1 hc.2.2 e1 e2) hd fun s' h1 h2 => imp_row d h1 h2 rfl
      · cases h
    | false =>
      rw [e] at h
      simp only [cond_false] at h
      split at h
      · rename_i E z e3
        obtain ⟨bytes, he⟩ := el_ok e3
        cases e4 : Nat.beq T MT with
        | true =>
          rw [e4] at h; have hT := Nat.eq_of_beq_eq_true e4; subst hT
          have hE : E = WT := by
            have h5 : elT MT = some (WT, .slice none 0 0) := by rfl
            rw [h5] at e3; cases e3; rfl
          subst hE
          simp only [cond_true] at h
          split at h
          · rename_i qs e2
            obtain ⟨hu, rfl, rfl⟩ := outP_inj h
            obtain ⟨hq1, hq2⟩ := rows1_get e2
            exact lok_pub (ok_build_one ho he hu hc.1 hc.2.1 hc.2.2.1 e1 hc.2.2.2) hd fun s' h1 h2 => imp_matf d _ _ h1 h2 rfl fun i hi => hq2 i (by rw [hlen, hc.2.1]; exact hi)
          · cases h
        | false =>
          rw [e4] at h
          simp only [cond_false] at h
          split at h
          · rename_i qs e2
            obtain ⟨hu, rfl, rfl⟩ := outP_inj h
            obtain ⟨hq1, hq2⟩ := ints_get e2
            exact lok_pub (ok_build_one ho he hu hc.1 hc.2.1 hc.2.2.1 e1 hc.2.2.2) hd fun s' h1 h2 => imp_seq d qs h1 h2 rfl (by rw [hq1, hlen, hc.2.1]) fun i hi => hq2 i (by rw [hlen, hc.2.1]; exact hi)
          · cases h
      · cases h
  · cases h
section
variable {ops : Array Oper} {l : List Oper} {s : St} {acc : List Fp} {K : St → List Fp → Prop} {c : Prop} {d : Nat} {r : Option AV} {upd : List (Nat × Option Fam)} {rd : List Nat} {ty : TypeId} {ps : String} {aft : Array Edge} {T : TypeId} {n : Nat} {parts : Array (Nat × Operand)}
theorem st_bp (h : evBuildP s (some d) T n parts.toList = some (⟨r, upd, rd⟩, c)) (hc : c) (k : AOps Try.prog ops l (nxt s (some d) r upd) ((rd, upd.map (·.1)) :: acc) K) : AOps Try.prog ops (⟨some d, .buildSlice T n parts, ty, ps, aft, none⟩ :: l) s acc K :=
  .cons _ (.inl ⟨.none rfl, evBuildP_ok rfl rfl h hc⟩) k
theorem st_bpg {j : Nat} {want b : Bool} {t : Tmp} (ht : (ops[j]?).bind (·.dst) = some t) (he : s.env t = some (.v (.bool b))) (hb : (b == want) = true) (h : evBuildP s (some d) T n parts.toList = some (⟨r, upd, rd⟩, c)) (hc : c) (k : AOps Try.prog ops l (nxt s (some d) r upd) ((rd, upd.map (·.1)) :: acc) K) : AOps Try.prog ops (⟨some d, .buildSlice T n parts, ty, ps, aft, some (j, want)⟩ :: l) s acc K :=
  .cons _ (.inl ⟨hb ▸ .some j want t b rfl ht he, evBuildP_ok rfl rfl h hc⟩) k
end
/-! Long regions are lists put together. -/
theorem st_ap {P : Program} {ops : Array Oper} {x : Oper} {l m : List Oper} {s : St} {acc : List Fp} {K : St → List Fp → Prop} (h : AOps P ops (x :: List.append l m) s acc K) : AOps P ops (List.append (x :: l) m) s acc K := h
theorem st_ap0 {P : Program} {ops : Array Oper} {m : List Oper} {s : St} {acc : List Fp} {K : St → List Fp → Prop} (h : AOps P ops m s acc K) : AOps P ops (List.append [] m) s acc K := h
theorem st_apa {P : Program} {ops : Array Oper} {l m n : List Oper} {s : St} {acc : List Fp} {K : St → List Fp → Prop} (h : AOps P ops (List.append l (List.append m n)) s acc K) : AOps P ops (List.append (List.append l m) n) s acc K := by
  have e : List.append (List.append l m) n = List.append l (List.append m n) := List.append_assoc l m n
  rw [e]; exact h
theorem run1p {G R : Prop} (k : R) (f : Held R → G := by intro hR; (first|(with_reducible first|refine awp_seq ?_|refine awp_block ?_|refine awp_skip ?_|refine awp_exit ?_|refine awp_ret ?_|refine q_then ?_|refine q_block ?_|refine q_then_exit ?_|refine q_then_ret ?_|refine q_block_exit ?_|refine q_block_ret ?_|refine q_loop_exit ?_|refine q_loop_ret ?_)|((with_reducible refine q_block_other ?_ ?_);exact rfl)|((with_reducible refine reg ?_ ?_);exact rfl)|(with_reducible first|apply st_ap|apply st_ap0|apply st_apa)|((with_reducible apply st_bp);exact rfl;(first|exact True.intro|((repeat' apply And.intro)<;>first|exact True.intro|with_reducible rfl|(simp only[Fits];omega)|omega|assumption|decide|(simp;done)|exact rfl)))|((with_reducible apply st_bpg);exact rfl;exact rfl;(first|exact rfl|assumption);exact rfl;(first|exact True.intro|((repeat' apply And.intro)<;>first|exact True.intro|with_reducible rfl|(simp only[Fits];omega)|omega|assumption|decide|(simp;done)|exact rfl)))|((with_reducible apply st_ev2);exact rfl;(first|exact True.intro|((repeat' apply And.intro)<;>first|exact True.intro|with_reducible rfl|(simp only[Fits];omega)|omega|assumption|decide|(simp;done)|exact rfl)))|((with_reducible apply st_evg2);exact rfl;exact rfl;(first|exact rfl|assumption);exact rfl;(first|exact True.intro|((repeat' apply And.intro)<;>first|exact True.intro|with_reducible rfl|(simp only[Fits];omega)|omega|assumption|decide|(simp;done)|exact rfl)))|((with_reducible refine st_end ?_ ?_);first|exact .inl rfl|exact .inr rfl)|(with_reducible apply st_build0)|((with_reducible apply st_ev);exact rfl;(first|exact True.intro|((repeat' apply And.intro)<;>first|exact True.intro|with_reducible rfl|(simp only[Fits];omega)|omega|assumption|decide|(simp;done)|exact rfl)))|((with_reducible apply st_evg);exact rfl;exact rfl;(first|exact rfl|assumption);exact rfl;(first|exact True.intro|((repeat' apply And.intro)<;>first|exact True.intro|with_reducible rfl|(simp only[Fits];omega)|omega|assumption|decide|(simp;done)|exact rfl)))|((with_reducible apply st_skip);exact rfl;exact rfl;(first|exact rfl|assumption))|((with_reducible apply st_app0);exact rfl;exact rfl;exact rfl;omega)|((with_reducible apply st_skipu);exact rfl;exact rfl)|((with_reducible apply st_pickt);exact rfl;assumption;exact rfl)|((with_reducible apply st_pickf);exact rfl;assumption;exact rfl)|((with_reducible apply st_pickgt);exact rfl;exact rfl;(first|exact rfl|assumption);exact rfl;(first|exact rfl|assumption);exact rfl)|((with_reducible apply st_pickgf);exact rfl;exact rfl;(first|exact rfl|assumption);exact rfl;(first|exact rfl|assumption);exact rfl)|((with_reducible apply st_build);exact rfl;first|exact rfl|(first|exact True.intro|((repeat' apply And.intro)<;>first|exact True.intro|with_reducible rfl|(simp only[Fits];omega)|omega|assumption|decide|(simp;done)|exact rfl))));(repeat(first|(with_reducible first|refine awp_seq ?_|refine awp_block ?_|refine awp_skip ?_|refine awp_exit ?_|refine awp_ret ?_|refine q_then ?_|refine q_block ?_|refine q_then_exit ?_|refine q_then_ret ?_|refine q_block_exit ?_|refine q_block_ret ?_|refine q_loop_exit ?_|refine q_loop_ret ?_)|((with_reducible refine q_block_other ?_ ?_);exact rfl)|((with_reducible refine reg ?_ ?_);exact rfl)|(with_reducible first|apply st_ap|apply st_ap0|apply st_apa)|((with_reducible apply st_bp);exact rfl;(first|exact True.intro|((repeat' apply And.intro)<;>first|exact True.intro|with_reducible rfl|(simp only[Fits];omega)|omega|assumption|decide|(simp;done)|exact rfl)))|((with_reducible apply st_bpg);exact rfl;exact rfl;(first|exact rfl|assumption);exact rfl;(first|exact True.intro|((repeat' apply And.intro)<;>first|exact True.intro|with_reducible rfl|(simp only[Fits];omega)|omega|assumption|decide|(simp;done)|exact rfl)))|((with_reducible apply st_ev2);exact rfl;(first|exact True.intro|((repeat' apply And.intro)<;>first|exact True.intro|with_reducible rfl|(simp only[Fits];omega)|omega|assumption|decide|(simp;done)|exact rfl)))|((with_reducible apply st_evg2);exact rfl;exact rfl;(first|exact rfl|assumption);exact rfl;(first|exact True.intro|((repeat' apply And.intro)<;>first|exact True.intro|with_reducible rfl|(simp only[Fits];omega)|omega|assumption|decide|(simp;done)|exact rfl)))|((with_reducible refine st_end ?_ ?_);first|exact .inl rfl|exact .inr rfl)|(with_reducible apply st_build0)|((with_reducible apply st_ev);exact rfl;(first|exact True.intro|((repeat' apply And.intro)<;>first|exact True.intro|with_reducible rfl|(simp only[Fits];omega)|omega|assumption|decide|(simp;done)|exact rfl)))|((with_reducible apply st_evg);exact rfl;exact rfl;(first|exact rfl|assumption);exact rfl;(first|exact True.intro|((repeat' apply And.intro)<;>first|exact True.intro|with_reducible rfl|(simp only[Fits];omega)|omega|assumption|decide|(simp;done)|exact rfl)))|((with_reducible apply st_skip);exact rfl;exact rfl;(first|exact rfl|assumption))|((with_reducible apply st_app0);exact rfl;exact rfl;exact rfl;omega)|((with_reducible apply st_skipu);exact rfl;exact rfl)|((with_reducible apply st_pickt);exact rfl;assumption;exact rfl)|((with_reducible apply st_pickf);exact rfl;assumption;exact rfl)|((with_reducible apply st_pickgt);exact rfl;exact rfl;(first|exact rfl|assumption);exact rfl;(first|exact rfl|assumption);exact rfl)|((with_reducible apply st_pickgf);exact rfl;exact rfl;(first|exact rfl|assumption);exact rfl;(first|exact rfl|assumption);exact rfl)|((with_reducible apply st_build);exact rfl;first|exact rfl|(first|exact True.intro|((repeat' apply And.intro)<;>first|exact True.intro|with_reducible rfl|(simp only[Fits];omega)|omega|assumption|decide|(simp;done)|exact rfl))))); exact hR.out) : G := f ⟨k⟩
end Go.Proofs.Ytggicfmbdmjhkaa.AM
/- Structs in slices, bytes, strings (printed by gen/gen_amby.py). -/
namespace Go.Proofs.Ytggicfmbdmjhkaa.AM
open Go Go.RowKit Go.Proofs.Ytggicfmbdmjhkaa.PN Go.Proofs.Ytggicfmbdmjhkaa.V
set_option linter.unusedVariables false
set_option linter.unusedSimpArgs false
theorem fold_set : ∀ (vs : List Value) (k off : Nat) (cs : Array Value), off + k + vs.length ≤ cs.size →
    ((vs.zipIdx k).foldl (fun (cs : Array Value) (p : Value × Nat) => cs.setIfInBounds (off + p.2) p.1) cs).size = cs.size ∧ (∀ t, t < vs.length → ((vs.zipIdx k).foldl (fun (cs : Array Value) (p : Value × Nat) => cs.setIfInBounds (off + p.2) p.1) cs)[off + k + t]? = vs[t]?) ∧
      ∀ q, (q < off + k ∨ off + k + vs.length ≤ q) → ((vs.zipIdx k).foldl (fun (cs : Array Value) (p : Value × Nat) => cs.setIfInBounds (off + p.2) p.1) cs)[q]? = cs[q]?
  | [], k, off, cs, _ => ⟨rfl, fun t ht => absurd ht (Nat.not_lt_zero _), fun q _ => rfl⟩
  | v :: vs, k, off, cs, h => by
    simp only [List.length_cons] at h
    obtain ⟨h1, h2, h3⟩ := fold_set vs (k + 1) off (cs.setIfInBounds (off + k) v) (by simp; omega)
    simp only [List.zipIdx_cons, List.foldl_cons]
    refine ⟨by rw [h1]; simp, fun t ht => ?_, fun q hq => ?_⟩
    · cases t with
      | zero =>
        rw [show off + k + 0 = off + k from rfl, h3 (off + k) (by omega), Array.getElem?_setIfInBounds_self_of_lt (by omega)]; rfl
      | succ t =>
        have := h2 t (by simpa using ht)
        rw [show off + k + (t + 1) = off + (k + 1) + t by omega, this]; rfl
    · simp only [List.length_cons] at hq
      rw [h3 q (by omega), Array.getElem?_setIfInBounds_ne (by omega)]
theorem fillm (m : Nat) : ∀ (l : List (Nat × Value)) (k : Nat) (cells : Array Value), idxs k l = true → (∀ p ∈ l, p.2.cells.size = m) → (k + l.length) * m ≤ cells.size →
    ∃ c', Instr.fill (fun i => some (i * m, m)) cells l = some c' ∧ c'.size = cells.size ∧ (∀ j, j < l.length → ∀ t, t < m → c'[(k + j) * m + t]? = (l[j]?).bind fun p => p.2.cells[t]?) ∧ ∀ q, q < k * m → c'[q]? = cells[q]?
  | [], k, cells, _, _, _ => ⟨cells, rfl, rfl, fun j hj => absurd hj (Nat.not_lt_zero _), fun _ _ => rfl⟩
  | (i, v) :: l, k, cells, h, hv, hl => by
    simp only [idxs, Bool.and_eq_true] at h
    have hi := Nat.eq_of_beq_eq_true h.1
    subst hi
    simp only [List.length_cons] at hl
    have hc : v.cells.size = m := hv (i, v) (List.mem_cons_self ..)
    have hle : i * m + m ≤ cells.size := by
      have : (i + 1) * m ≤ (i + (l.length + 1)) * m := Nat.mul_le_mul_right _ (by omega)
      rw [Nat.succ_mul] at this
      omega
    obtain ⟨g1, g2, g3⟩ := fold_set v.cells.toList 0 (i * m) cells (by simp; omega)
    generalize hr : (v.cells.toList.zipIdx 0).foldl (fun (cs : Array Value) (p : Value × Nat) => cs.setIfInBounds (i * m + p.2) p.1) cells = r at *
    obtain ⟨c', e, hs, hx, ho⟩ := fillm m l (i + 1) r h.2 (fun p hp => hv p (List.mem_cons_of_mem _ hp)) (by rw [g1, show i + 1 + l.length = i + (l.length + 1) by omega]; exact hl)
    refine ⟨c', ?_, by rw [hs, g1], fun j hj t ht => ?_, fun q hq => ?_⟩
    · rw [← e, ← hr]
      have key : Instr.fill (fun i => some (i * m, m)) cells ((i, v) :: l) = if (v.cells.size ≠ m || i * m + v.cells.size > cells.size) = true then none else Instr.fill (fun i => some (i * m, m)) (v.cells.zipIdx.foldl (fun cs p => cs.setIfInBounds (i * m + p.2) p.1) cells) l := rfl
      rw [key, if_neg (by simp [hc]; omega)]
      congr 1
      rw [← Array.foldl_toList, Array.toList_zipIdx]
    · cases j with
      | zero =>
        rw [Nat.add_zero, ho (i * m + t) (by rw [Nat.succ_mul]; omega)]
        have := g2 t (by simp [hc]; exact ht)
        rw [Nat.add_zero] at this
        rw [this, Array.getElem?_toList]; rfl
      | succ j =>
        have := hx j (by simpa using hj) t ht
        rw [show i + (j + 1) = i + 1 + j by omega, this]; rfl
    · rw [ho q (by rw [Nat.succ_mul]; omega), g3 q (by omega)]
/-- Slices of so many cells each. -/
structure CellsOf (T E : TypeId) (m : Nat) : Prop where
  u : Try.prog.underlying T = some (.slice E)
  i : szB Try.prog E m = true
  z : ∃ i z, Try.prog.info? E = some i ∧ i.zero = some z ∧ z.cells.size = m
def zSz (P : Program) (E : TypeId) (m : Nat) : Bool := match P.info? E with
  | some i => (match i.zero with | some z => Nat.beq z.cells.size m | none => false)
  | none => false
theorem zSz_ok {P : Program} {E : TypeId} {m : Nat} (h : zSz P E m = true) : ∃ i z, P.info? E = some i ∧ i.zero = some z ∧ z.cells.size = m := by
  unfold zSz at h
  split at h
  · rename_i i e
    split at h
    · rename_i z e2; exact ⟨i, z, e, e2, Nat.eq_of_beq_eq_true h⟩
    · cases h
  · cases h
/-- Types of slices, how many cells an element has. -/
def celL : List TypeId := [48, 39]
def celT (T : TypeId) : Option Nat := bif memN T [47] then some 7 else bif memN T celL then some 1 else none
theorem cel7 : ([47] : List Nat).all (fun T => isSlice (Try.prog.underlying T) && (szB Try.prog (sliceE (Try.prog.underlying T)) 7 && zSz Try.prog (sliceE (Try.prog.underlying T)) 7)) = true := by kernel_rfl
theorem cel1 : celL.all (fun T => isSlice (Try.prog.underlying T) && (szB Try.prog (sliceE (Try.prog.underlying T)) 1 && zSz Try.prog (sliceE (Try.prog.underlying T)) 1)) = true := by kernel_rfl
theorem cells_of {T m : Nat} (h : (isSlice (Try.prog.underlying T) && (szB Try.prog (sliceE (Try.prog.underlying T)) m && zSz Try.prog (sliceE (Try.prog.underlying T)) m)) = true) : ∃ E, CellsOf T E m := by
  rw [Bool.and_eq_true, Bool.and_eq_true] at h
  obtain ⟨h1, h2, h3⟩ := h
  have key : ∀ d : Option TypeDesc, Try.prog.underlying T = d → isSlice d = true → szB Try.prog (sliceE d) m = true → zSz Try.prog (sliceE d) m = true → ∃ E, CellsOf T E m := by
    intro d e k1 k2 k3
    cases d with
    | none => cases k1
    | some d =>
      cases d with
      | slice E => exact ⟨E, e, k2, zSz_ok k3⟩
      | _ => cases k1
  exact key _ rfl h1 h2 h3
theorem cel_ok {T m : Nat} (h : celT T = some m) : ∃ E, CellsOf T E m := by
  unfold celT at h
  cases e : memN T [47] with
  | true => rw [e] at h; cases h; exact cells_of (List.all_eq_true.1 cel7 T (memN_spec e))
  | false =>
    rw [e, cond_false] at h
    cases e2 : memN T celL with
    | true => rw [e2] at h; cases h; exact cells_of (List.all_eq_true.1 cel1 T (memN_spec e2))
    | false => rw [e2] at h; cases h
/-- What the parts say, one cell behind the other. -/
def flat (m : Nat) : List AV → Option (List AV)
  | [] => some []
  | x :: l => match flat m l with
    | none => none
    | some r => match x with
      | .ag k f => bif Nat.beq k m && !Nat.beq m 1 then some ((List.range m).map f ++ r) else none
      | y => bif Nat.beq m 1 && y.one then some (y :: r) else none
theorem flat_get {m : Nat} : ∀ {l r : List AV}, flat m l = some r → r.length = l.length * m ∧ ∀ j, j < l.length → (∃ f, l[j]? = some (.ag m f) ∧ ∀ t, t < m → r[j * m + t]? = some (f t)) ∨ (m = 1 ∧ ∃ y, l[j]? = some y ∧ y.one = true ∧ r[j * m]? = some y)
  | [], r, h => by cases h; exact ⟨by simp, fun j hj => absurd hj (Nat.not_lt_zero _)⟩
  | x :: l, r, h => by
    unfold flat at h
    split at h
    · cases h
    · rename_i r0 e
      obtain ⟨h1, h2⟩ := flat_get e
      split at h
      · rename_i k f
        cases hb : Nat.beq k m && !Nat.beq m 1 with
        | false => rw [hb] at h; cases h
        | true =>
          rw [hb] at h
          rw [Bool.and_eq_true] at hb
          have hk := Nat.eq_of_beq_eq_true hb.1
          subst hk
          cases h
          refine ⟨by simp [h1, Nat.succ_mul]; omega, fun j hj => ?_⟩
          cases j with
          | zero =>
            refine .inl ⟨f, rfl, fun t ht => ?_⟩
            rw [Nat.zero_mul, Nat.zero_add, List.getElem?_append_left (by simp; exact ht), List.getElem?_map, List.getElem?_range ht]; rfl
          | succ j =>
            have hsh : ∀ t, ((List.range k).map f ++ r0)[(j + 1) * k + t]? = r0[j * k + t]? := fun t => by
              rw [Nat.succ_mul, List.getElem?_append_right (by simp; omega)]
              congr 1; simp; omega
            rcases h2 j (by simpa using hj) with ⟨g, a1, a2⟩ | ⟨a1, y, a2, a3, a4⟩
            · exact .inl ⟨g, a1, fun t ht => by rw [hsh]; exact a2 t ht⟩
            · exact .inr ⟨a1, y, a2, a3, by have := hsh 0; rw [Nat.add_zero, Nat.add_zero] at this; rw [this]; exact a4⟩
      · rename_i y hy
        cases hb : Nat.beq m 1 && x.one with
        | false => rw [hb] at h; cases h
        | true =>
          rw [hb] at h
          rw [Bool.and_eq_true] at hb
          have hm := Nat.eq_of_beq_eq_true hb.1
          subst hm
          cases h
          refine ⟨by simp [h1], fun j hj => ?_⟩
          cases j with
          | zero => exact .inr ⟨rfl, x, rfl, hb.2, rfl⟩
          | succ j =>
            rcases h2 j (by simpa using hj) with ⟨g, a1, a2⟩ | ⟨a1, y, a2, a3, a4⟩
            · exact .inl ⟨g, a1, fun t ht => by
                have ht0 : t = 0 := by omega
                have hh := a2 t ht
                subst ht0
                simpa using hh⟩
            · exact .inr ⟨a1, y, a2, a3, by simpa using a4⟩
section
variable {o : Oper} {s : St}
theorem ok_build_arr {T E : TypeId} {n m : Nat} {parts : Array (Nat × Operand)} {ys r : List AV} (ho : o.op = .buildSlice T n parts) (hT : CellsOf T E m) (hi : idxs 0 parts.toList = true) (hn : parts.toList.length = n) (hb : n * m ≤ 100000 ∧ 0 < m)
    (hy : avos s parts.toList = some ys) (h1 : flat m ys = some r) : LOK Try.prog o s ⟨some (.arr n m (fun i => r.getD i (.v undef))), [], []⟩ := by
  refine lok_kept fun s2 hl W N β w a hs K Q hK => ?_
  obtain ⟨i0, z0, hi0, hz0, hzs⟩ := hT.z
  obtain ⟨i1, hi1, hz2⟩ := sz_info hT.i
  have hz2 : i0.size = m := by rw [hi0] at hi1; cases hi1; exact hz2
  have hm := build_mem ho
  have hyl := avos_len hy
  obtain ⟨hql, hqg⟩ := flat_get h1
  have hval : ∀ j, j < n → ∃ p, parts.toList[j]? = some p ∧ (a.eval p.2).cells.size = m ∧ ∀ t, t < m → ∃ x y, r[j * m + t]? = some x ∧ (a.eval p.2).cells[t]? = some y ∧ y.oneCell' = true ∧ x.ok s2.used ∧ RV (notOwn W s2 β) W.w.heap.size β w x y := by
    intro j hj
    have hp : parts.toList[j]? = some (parts.toList[j]'(by omega)) := List.getElem?_eq_getElem (by omega)
    obtain ⟨y, e1, e2, e3⟩ := hs.opds hl hy hm hp
    refine ⟨_, hp, ?_⟩
    rcases hqg j (by omega) with ⟨f, a1, a2⟩ | ⟨hm1, y', a1, a2, a3⟩
    · rw [a1] at e1; cases e1
      obtain ⟨cs, q1, q2, q3⟩ := e3
      rw [q1]
      refine ⟨q2, fun t ht => ?_⟩
      obtain ⟨y, b1, b2, b3⟩ := q3 t ht
      exact ⟨f t, y, a2 t ht, b1, b2, e2 t ht, b3⟩
    · have e1 : y = y' := by rw [a1] at e1; cases e1; rfl
      subst e1
      subst hm1
      have h1c := RV.one a2 e3
      have hcells : (a.eval (parts.toList[j]'(by omega)).2).cells = #[a.eval (parts.toList[j]'(by omega)).2] := by
        generalize a.eval (parts.toList[j]'(by omega)).2 = v at *
        cases v <;> first | rfl | cases h1c
      rw [hcells]
      refine ⟨rfl, fun t ht => ?_⟩
      obtain rfl : t = 0 := by omega
      exact ⟨y, _, by simpa using a3, rfl, h1c, e2, e3⟩
  have hcell : ∀ p ∈ (parts.toList.map fun p => (p.1, a.eval p.2)), p.2.cells.size = m := by
    intro q hq
    obtain ⟨p, hp, rfl⟩ := List.mem_map.1 hq
    obtain ⟨j, hj, e⟩ := List.mem_iff_getElem.1 hp
    obtain ⟨p', e1, e4, _⟩ := hval j (by omega)
    rw [List.getElem?_eq_getElem hj, e] at e1
    cases e1
    exact e4
  obtain ⟨c', hf, hs', hx, _⟩ := fillm m (parts.toList.map fun p => (p.1, a.eval p.2)) 0 (madeCells z0.cells (n * m)) (idxs_map _ _ _ hi) hcell (by rw [size_madeCells, List.length_map, hn, Nat.zero_add]; exact Nat.le_refl _)
  have hrun : (Instr.buildSlice T n (parts.map fun p => (p.1, a.eval p.2))).run Try.prog w = .ok (.slice (some ⟨w.heap.size, 0, none⟩) n n) (w.alloc (.cells c' E)) :=
    run_buildSlice w hT.u hi0 hz0 hz2 (by omega) (by rw [Array.toList_map]; exact hf)
  have hop : (execOp a.eval o).run Try.prog w = .ok (.value (.slice (some ⟨w.heap.size, 0, none⟩) n n)) (w.alloc (.cells c' E)) := by
    unfold execOp; rw [ho]; simp only [Sem.run_bind, hrun]; rfl
  unfold Oper.wp
  rw [hop]
  have hk := Kept.alloc w (.cells c' E)
  refine hK _ _ hk fun x hx' => ?_
  cases hx'
  have kf : Fwd (notOwn W s2 β) (notOwn W s2 β) W.w.heap.size W.w.heap.size s2.used β β (fun _ => False) w (w.alloc (.cells c' E)) := ⟨Ext.of_kept hk _, fun _ _ h => h, fun _ h _ => h, Nat.le_refl _, fun _ _ _ => rfl⟩
  have hnew : notOwn W s2 β w.heap.size := by
    refine ⟨fun hlt => ?_, fun ho => ?_⟩
    · have := hs.fix.size; omega
    · exact absurd (own_lt hs ho).2 (Nat.lt_irrefl _)
  have hmx : n ≤ maxLen := by
    have := Nat.mul_le_mul_left n hb.2
    unfold maxLen; omega
  have hall : ∀ i, i < n * m → ∃ y, (w.alloc (.cells c' E)).cell? ⟨w.heap.size, 0 + i, none⟩ = some y ∧ y.oneCell' = true ∧ (r.getD i (.v undef)).ok s2.used ∧ RV (notOwn W s2 β) W.w.heap.size β (w.alloc (.cells c' E)) (r.getD i (.v undef)) y := by
    intro i hin
    have hm0 : 0 < m := Nat.pos_of_ne_zero fun e => by rw [e, Nat.mul_zero] at hin; exact absurd hin (Nat.not_lt_zero _)
    have hd : i = i / m * m + i % m := by have := Nat.div_add_mod i m; rw [Nat.mul_comm] at this; exact this.symm
    have hj : i / m < n := Nat.div_lt_of_lt_mul (by rw [Nat.mul_comm]; exact hin)
    have ht : i % m < m := Nat.mod_lt _ hm0
    obtain ⟨p, e0, e1, e2⟩ := hval (i / m) hj
    obtain ⟨x, y, b1, b2, b3, b4, b5⟩ := e2 (i % m) ht
    rw [← hd] at b1
    have := hx (i / m) (by rw [List.length_map, hn]; exact hj) (i % m) ht
    rw [Nat.zero_add, ← hd, List.getElem?_map, e0] at this
    refine ⟨y, ?_, b3, ?_, ?_⟩
    · rw [cell_of_row (w.alloc (.cells c' E)) w.heap.size _ c' E (0, 0) (row_new w c' E), Nat.zero_add, this]; exact b2
    · rw [List.getD_eq_getElem?_getD, b1]; exact b4
    · rw [List.getD_eq_getElem?_getD, b1]; exact b5.fwd kf b4
  refine ⟨fun i hin => (hall i hin).choose_spec.2.2.1, some ⟨w.heap.size, 0, none⟩, n, rfl, Nat.le_refl _, ?_, fun i hin => ?_⟩
  · exact hmx
  · obtain ⟨y, q1, q2, q3, q4⟩ := hall i hin
    exact ⟨w.heap.size, 0, y, rfl, hnew, q1, q2, q4⟩
theorem ok_index_one {x y : Operand} {T E : TypeId} {n : Nat} {f : Nat → AV} {k : IntKind} {z : Int} (ho : o.op = .indexAddr T x y) (hT : CellsOf T E 1) (hx : avo s x = some (.arr n 1 f)) (hy : avo s y = some (.v (.int k z))) (h0 : 0 ≤ z) (h1 : z < n) : LOK Try.prog o s ⟨some (.cp (f z.toNat)), [], []⟩ := by
  refine lok_val fun s2 hl W N β w a hs => ?_
  obtain ⟨hok, A, c, e1, _, _, e2⟩ := hs.opd (x := x) (by rw [hl.avo (by rw [ho]; simp [Op.operands])]; exact hx)
  have e3 : a.eval y = .int k z := hs.opv (by rw [hl.avo (by rw [ho]; simp [Op.operands])]; exact hy)
  obtain ⟨b, off, v, rfl, hS, hc, _, hv⟩ := e2 z.toNat (by omega)
  refine ⟨_, by unfold execOp; rw [ho]; simp only []; rw [e1, e3]; simp only [Sem.run_bind, run_index hT.u (sz_info hT.i) w _ n c k z h0 h1]; rfl, fun q hq => ?_⟩
  cases hq
  exact ⟨hok z.toNat (by omega), ⟨b, off + z.toNat, none⟩, v, by rw [add_at, Nat.mul_one], hS, hc, hv⟩
theorem ok_index_many {x y : Operand} {T E : TypeId} {n m : Nat} {f : Nat → AV} {k : IntKind} {z : Int} (ho : o.op = .indexAddr T x y) (hT : CellsOf T E m) (hm : 0 < m) (hx : avo s x = some (.arr n m f)) (hy : avo s y = some (.v (.int k z))) (h0 : 0 ≤ z) (h1 : z < n) : LOK Try.prog o s ⟨some (.pa m (fun j => f (z.toNat * m + j))), [], []⟩ := by
  refine lok_val fun s2 hl W N β w a hs => ?_
  obtain ⟨hok, A, c, e1, _, _, e2⟩ := hs.opd (x := x) (by rw [hl.avo (by rw [ho]; simp [Op.operands])]; exact hx)
  have e3 : a.eval y = .int k z := hs.opv (by rw [hl.avo (by rw [ho]; simp [Op.operands])]; exact hy)
  have hin : ∀ j, j < m → z.toNat * m + j < n * m := fun j hj => by
    have := Nat.mul_le_mul_right m (show z.toNat + 1 ≤ n by omega)
    rw [Nat.succ_mul] at this
    omega
  obtain ⟨b, off, v, rfl, hS, hc, _, hv⟩ := e2 (z.toNat * m + 0) (hin 0 hm)
  refine ⟨_, by unfold execOp; rw [ho]; simp only []; rw [e1, e3]; simp only [Sem.run_bind, run_index hT.u (sz_info hT.i) w _ n c k z h0 h1]; rfl, fun q hq => ?_⟩
  cases hq
  refine ⟨fun j hj => hok _ (hin j hj), b, off + z.toNat * m, by rw [add_at], hS, World.block_lt_of_cell? _ _ hc, fun j hj => ?_⟩
  obtain ⟨b', off', v', e, hS', hc', h1', hv'⟩ := e2 (z.toNat * m + j) (hin j hj)
  cases e
  exact ⟨v', by rw [Nat.add_assoc]; exact hc', h1', hv'⟩
theorem ok_load_pa {x : Operand} {T : TypeId} {m : Nat} {f : Nat → AV} (ho : o.op = .load T x) (ha : isAggD (Try.prog.underlying T) = true) (hz : szB Try.prog T m = true) (hx : avo s x = some (.pa m f)) : LOK Try.prog o s ⟨some (.ag m f), [], []⟩ := by
  refine lok_val fun s2 hl W N β w ac hs => ?_
  obtain ⟨hu, b, off, e1, _, _, h4⟩ := hs.opd (x := x) (by rw [hl.avo (by rw [ho]; simp [Op.operands])]; exact hx)
  let vs : List Value := (List.range m).map fun i => (w.cell? ⟨b, off + i, none⟩).getD undef
  have hlen : vs.length = m := by simp [vs]
  have hget : ∀ i, i < m → ∃ y, vs[i]? = some y ∧ w.cell? ⟨b, off + i, none⟩ = some y ∧ y.oneCell' = true ∧ RV (notOwn W s2 β) W.w.heap.size β w (f i) y := fun i hi => by
    obtain ⟨y, a0, a1, a2⟩ := h4 i hi
    refine ⟨y, ?_, a0, a1, a2⟩
    show ((List.range m).map _)[i]? = _
    rw [List.getElem?_map, List.getElem?_range hi]
    simp [a0]
  refine ⟨.agg vs.toArray, ?_, fun z hz' => ?_⟩
  · unfold execOp; rw [ho]; simp only []; rw [e1]
    have := run_loadagg ha hz (w := w) (k := b) (o := off) (vs := vs) hlen (fun j v hv => by
      have hj : j < m := by rw [← hlen]; exact (List.getElem?_eq_some_iff.1 hv).1
      obtain ⟨y, a0, a1, _⟩ := hget j hj
      rw [a0] at hv; cases hv
      exact a1)
    simp [this]
  · cases hz'
    refine ⟨hu, _, rfl, by simp [hlen], fun i hi => ?_⟩
    obtain ⟨y, a0, a1, a2, a3⟩ := hget i hi
    exact ⟨y, by rw [List.getElem?_toArray]; exact a0, a2, a3⟩
theorem ok_field_pa {x : Operand} {T : TypeId} {j m : Nat} {f : Nat → AV} (ho : o.op = .fieldAddr T x j) (hf : fieldB Try.prog T j j = true) (hj : j < m) (hx : avo s x = some (.pa m f)) : LOK Try.prog o s ⟨some (.cp (f j)), [], []⟩ := by
  refine lok_val fun s2 hl W N β w a hs => ?_
  obtain ⟨hu, b, off, e1, hS, _, h4⟩ := hs.opd (x := x) (by rw [hl.avo (by rw [ho]; simp [Op.operands])]; exact hx)
  obtain ⟨y, a0, a1, a2⟩ := h4 j hj
  exact ⟨_, by unfold execOp; rw [ho]; simp only []; rw [e1]; simp only [Sem.run_bind, run_field hf]; rfl, fun q hq => by cases hq; exact ⟨hu j hj, ⟨b, off + j, none⟩, y, by rw [add_at], hS, a0, a2⟩⟩
theorem ok_addstr {x y : Operand} {T T' : TypeId} {a b : ByteArray} (ho : o.op = .binOp .add T x y T') (hx : avo s x = some (.v (.string a))) (hy : avo s y = some (.v (.string b))) (hn : a.size + b.size ≤ 1000000) : LOK Try.prog o s ⟨some (.v (.string (a ++ b))), [], []⟩ := by
  refine lok_val fun s2 hl W N β w ac hs => ⟨.string (a ++ b), ?_, fun z hz => by cases hz; exact ⟨trivial, rfl⟩⟩
  have h1 : ac.eval x = .string a := hs.opv (by rw [hl.avo (by rw [ho]; simp [Op.operands])]; exact hx)
  have h2 : ac.eval y = .string b := hs.opv (by rw [hl.avo (by rw [ho]; simp [Op.operands])]; exact hy)
  have hb := run_string_add_sum (P := Try.prog) w a b (by omega)
  unfold execOp; rw [ho]; simp only []; rw [h1, h2]
  simp [eqGuard, binOp, hb]
theorem ok_eqstr {x y : Operand} {T T' : TypeId} {a b : ByteArray} {r : Bool} (ho : o.op = .binOp .eql T x y T') (hx : avo s x = some (.v (.string a))) (hy : avo s y = some (.v (.string b))) (hr : (a.toList == b.toList) = r) : LOK Try.prog o s ⟨some (.v (.bool r)), [], []⟩ := by
  refine lok_val fun s2 hl W N β w ac hs => ⟨.bool r, ?_, fun z hz => by cases hz; exact ⟨trivial, rfl⟩⟩
  have h1 : ac.eval x = .string a := hs.opv (by rw [hl.avo (by rw [ho]; simp [Op.operands])]; exact hx)
  have h2 : ac.eval y = .string b := hs.opv (by rw [hl.avo (by rw [ho]; simp [Op.operands])]; exact hy)
  unfold execOp; rw [ho]; simp only []; rw [h1, h2]
  simp [eqGuard, binOp, Op.stringOp, hr]
theorem slice_run1 {T E : TypeId} (hu : Try.prog.underlying T = some (.slice E)) (hsz : ∃ i, Try.prog.info? E = some i ∧ i.size = 1) {w : World} {a : Act} {s : St} {x : Operand} {lo hi mx : Option Operand} {A : Option Addr} {n c : Nat} {l h m : Int} (ho : o.op = .slice T x lo hi mx) (hv' : ∀ (y : Operand) (k : IntKind) (z : Int), y ∈ o.op.operands → avo s y = some (.v (.int k z)) → a.eval y = .int k z) (e1 : a.eval x = .slice A n c) (e2 : n ≤ c) (hl : bnd s 0 lo = some l) (hh : bnd s n hi = some h) (hm : bnd s n mx = some m) (hmh : mx.isSome = true → hi.isSome = true)
    (h0 : 0 ≤ l) (h1 : l ≤ h) (h2 : h ≤ m) (h3 : m ≤ n) : ∃ m' : Nat, h ≤ (m' : Int) ∧ m' ≤ c ∧ (execOp a.eval o).run Try.prog w = .ok (.value (.slice (if m' = l.toNat then A else A.map (·.add (l.toNat * 1))) (h.toNat - l.toNat) (m' - l.toNat))) w := by
  have val : ∀ {d z : Int} {q : Option Operand} (y : Operand), q = some y → bnd s d q = some z → y ∈ o.op.operands → ∃ k, a.eval y = .int k z := by
    intro d z q y e hb hy
    subst e
    have hb : (match avo s y with | some (.v (.int _ z)) => some z | _ => none) = some z := hb
    cases hv : avo s y with
    | none => rw [hv] at hb; cases hb
    | some v =>
      rw [hv] at hb
      cases v <;> first | (cases hb; done) | skip
      rename_i v
      cases v <;> first | (cases hb; done) | skip
      cases hb
      exact ⟨_, hv' y _ _ hy hv⟩
  have fin : ∀ m' : Nat, h ≤ (m' : Int) → m' ≤ c → (Instr.sliceAt T (.slice A n c) (lo.map a.eval) (hi.map a.eval) (mx.map a.eval)).run Try.prog w = .ok (.slice (if m' = l.toNat then A else A.map (·.add (l.toNat * 1))) (h.toNat - l.toNat) (m' - l.toNat)) w →
      ∃ m' : Nat, h ≤ (m' : Int) ∧ m' ≤ c ∧ (execOp a.eval o).run Try.prog w = .ok (.value (.slice (if m' = l.toNat then A else A.map (·.add (l.toNat * 1))) (h.toNat - l.toNat) (m' - l.toNat))) w := by
    intro m' hm1 hm2 hrun
    exact ⟨m', hm1, hm2, by unfold execOp; rw [ho]; simp only []; rw [e1]; simp only [Sem.run_bind, hrun]; rfl⟩
  obtain ⟨i', hi', hz'⟩ := hsz
  have hopl : ∀ y, lo = some y → y ∈ o.op.operands := fun y e => by rw [ho, e]; simp [Op.operands]
  have hoph : ∀ y, hi = some y → y ∈ o.op.operands := fun y e => by rw [ho, e]; simp [Op.operands]
  have hopm : ∀ y, mx = some y → y ∈ o.op.operands := fun y e => by rw [ho, e]; simp [Op.operands]
  cases hmx : mx with
  | none =>
    rw [hmx] at hm
    cases hm
    refine fin c (by omega) (Nat.le_refl _) ?_
    rw [hmx]
    cases hhi : hi with
    | none =>
      rw [hhi] at hh
      cases hh
      cases hlo : lo with
      | none =>
        rw [hlo] at hl; cases hl
        simp [Instr.sliceAt, Instr.slice, run_underlying hu, Instr.sliceBounds, sizeOf, typeInfo, hi', hz']
      | some y =>
        obtain ⟨k, ey⟩ := val y hlo hl (hopl y hlo)
        simp [Instr.sliceAt, Instr.slice, run_underlying hu, Instr.sliceBounds, Instr.sliceBound, asIntOf, sizeOf, typeInfo, hi', hz', ey, h0, h1]
    | some y' =>
      obtain ⟨k', ey'⟩ := val y' hhi hh (hoph y' hhi)
      have q1 : 0 ≤ h := by omega
      have q2 : h ≤ (c : Int) := by omega
      cases hlo : lo with
      | none =>
        rw [hlo] at hl; cases hl
        simp [Instr.sliceAt, Instr.slice, run_underlying hu, Instr.sliceBounds, Instr.sliceBound, asIntOf, sizeOf, typeInfo, hi', hz', ey', q1, q2]
      | some y =>
        obtain ⟨k, ey⟩ := val y hlo hl (hopl y hlo)
        have q3 : l ≤ ((h.toNat : Nat) : Int) := by omega
        simp [Instr.sliceAt, Instr.slice, run_underlying hu, Instr.sliceBounds, Instr.sliceBound, asIntOf, sizeOf, typeInfo, hi', hz', ey, ey', h0, q1, q2, q3]
        omega
  | some ym =>
    obtain ⟨km, em⟩ := val ym hmx hm (hopm ym hmx)
    have hhs := hmh (by rw [hmx]; rfl)
    obtain ⟨y', hhi⟩ := Option.isSome_iff_exists.1 hhs
    obtain ⟨k', ey'⟩ := val y' hhi hh (hoph y' hhi)
    refine fin m.toNat (by omega) (by omega) ?_
    rw [hmx, hhi]
    have q1 : 0 ≤ h := by omega
    have q4 : 0 ≤ m := by omega
    have q5 : m ≤ (c : Int) := by omega
    have q2 : h ≤ ((m.toNat : Nat) : Int) := by omega
    cases hlo : lo with
    | none =>
      rw [hlo] at hl; cases hl
      simp [Instr.sliceAt, Instr.slice, run_underlying hu, Instr.sliceBounds, Instr.sliceBound, asIntOf, sizeOf, typeInfo, hi', hz', em, ey', q1, q2, q4, q5]
      omega
    | some y =>
      obtain ⟨k, ey⟩ := val y hlo hl (hopl y hlo)
      have q3 : l ≤ ((h.toNat : Nat) : Int) := by omega
      simp [Instr.sliceAt, Instr.slice, run_underlying hu, Instr.sliceBounds, Instr.sliceBound, asIntOf, sizeOf, typeInfo, hi', hz', em, ey, ey', h0, q1, q2, q3, q4, q5]
      rw [if_pos (by omega), if_pos (by omega)]
/-- A part of bytes. -/
theorem ok_slice_seq {T E : TypeId} {x : Operand} {lo hi mx : Option Operand} {kd : IntKind} {q : List Int} {l h m : Int} (ho : o.op = .slice T x lo hi mx) (hu : Try.prog.underlying T = some (.slice E)) (hsz : szB Try.prog E 1 = true) (hx : avo s x = some (.seq kd q)) (hl : bnd s 0 lo = some l) (hh : bnd s q.length hi = some h) (hm : bnd s q.length mx = some m) (hmh : mx.isSome = true → hi.isSome = true)
    (h0 : 0 ≤ l) (h1 : l ≤ h) (h2 : h ≤ m) (h3 : m ≤ q.length) : LOK Try.prog o s ⟨some (.seq kd ((q.take h.toNat).drop l.toNat)), [], []⟩ := by
  refine lok_val fun s2 hlk W N β w a hs => ?_
  obtain ⟨_, A, c, e1, e2, e3, e4⟩ := hs.opd (x := x) (by rw [hlk.avo (by rw [ho]; simp [Op.operands])]; exact hx)
  have hv : ∀ (y : Operand) (k : IntKind) (z : Int), y ∈ o.op.operands → avo s y = some (.v (.int k z)) → a.eval y = .int k z := fun y k z hy hz => hs.opv (by rw [hlk.avo hy]; exact hz)
  obtain ⟨m', q1, q2, q3⟩ := slice_run1 hu (sz_info hsz) ho hv e1 e2 hl hh hm hmh h0 h1 h2 h3
  refine ⟨_, q3, fun z hz => ?_⟩
  cases hz
  have hlen : ((q.take h.toNat).drop l.toNat).length = h.toNat - l.toNat := by simp; omega
  refine ⟨trivial, _, _, by rw [hlen], by rw [hlen]; omega, by omega, fun i hi => ?_⟩
  rw [hlen] at hi
  obtain ⟨p, rfl, hS, hc⟩ := e4 (l.toNat + i) (by omega)
  have hne : m' ≠ l.toNat := by omega
  have hb : ∀ (p : Addr) (k : Nat), (p.add k).block = p.block := fun p k => by unfold Addr.add; split <;> rfl
  have hadd : ∀ (p : Addr) (j k : Nat), (p.add j).add k = p.add (j + k) := fun p j k => Addr.add_add p j k
  refine ⟨p.add (l.toNat * 1), by rw [if_neg hne]; rfl, by rw [hb]; exact hS, ?_⟩
  have e : ((q.take h.toNat).drop l.toNat).getD i 0 = q.getD (l.toNat + i) 0 := by
    rw [List.getD_eq_getElem?_getD, List.getD_eq_getElem?_getD, List.getElem?_drop, List.getElem?_take_of_lt (by omega)]
  rw [hadd, Nat.mul_one, e]
  exact hc
/-- What is left of a number in a byte. -/
theorem ok_wrap8 {T T' : TypeId} {x : Operand} {k : IntKind} {n : Int} (ho : o.op = .convert T T' x) (hx : avo s x = some (.v (.int k n))) (hu : (Try.prog.underlying T).isSome = true) (hk : Try.prog.underlying T' = some (.int .u8)) : LOK Try.prog o s ⟨some (.v (.int .u8 (n % 256))), [], []⟩ := by
  refine lok_val fun s2 hl W N β w ac hs => ⟨.int .u8 (n % 256), ?_, fun z hz => by cases hz; exact ⟨trivial, rfl⟩⟩
  have h1 : ac.eval x = .int k n := hs.opv (by rw [hl.avo (by rw [ho]; simp [Op.operands])]; exact hx)
  obtain ⟨d, hd⟩ := Option.isSome_iff_exists.1 hu
  unfold execOp; rw [ho]; simp only []; rw [h1]
  have hw : IntKind.u8.wrap n = n % 256 := rfl
  simp [convert, run_underlying hd, run_underlying hk, Conv.intToInt, hw]
/-- Bytes as a text. -/
def bts (l : List Int) : ByteArray := l.foldl (fun r n => r.push (UInt8.ofNat n.toNat)) ByteArray.empty
theorem ok_tostring {T T' E : TypeId} {x : Operand} {l : List Int} (ho : o.op = .convert T T' x) (hx : avo s x = some (.seq .u8 l)) (hu : Try.prog.underlying T = some (.slice E)) (hE : Try.prog.underlying E = some (.int .u8)) (hT : Try.prog.underlying T' = some .string) : LOK Try.prog o s ⟨some (.v (.string (bts l))), [], []⟩ := by
  refine lok_val fun s2 hl W N β w ac hs => ⟨.string (bts l), ?_, fun z hz => by cases hz; exact ⟨trivial, rfl⟩⟩
  obtain ⟨_, A, c, e1, _, _, e4⟩ := hs.opd (x := x) (by rw [hl.avo (by rw [ho]; simp [Op.operands])]; exact hx)
  unfold execOp; rw [ho]; simp only []; rw [e1]
  have key : (Conv.bytesToString (.slice A l.length c)).run Try.prog w = .ok (.string (bts l)) w := by
    cases A with
    | none =>
      have hl0 : l = [] := by
        cases l with
        | nil => rfl
        | cons x l => obtain ⟨p, e, _⟩ := e4 0 (by simp); cases e
      subst hl0
      rfl
    | some p =>
      refine run_bytesToString w p l.length c l ?_
      have := run_loadCells_list (P := Try.prog) w p (l.map (Value.int .u8)) fun j v hv => by
        have hj : j < l.length := by simpa using (List.getElem?_eq_some_iff.1 hv).1
        obtain ⟨p', e, _, hc⟩ := e4 j hj
        cases e
        rw [hc, ← hv, List.getElem?_map, List.getElem?_eq_getElem hj, List.getD_eq_getElem?_getD, List.getElem?_eq_getElem hj]; rfl
      rw [List.length_map] at this
      exact this
  simp [run_convert_bytes_string w T T' E A l.length c hu hE hT, key]
theorem ok_shr {T T' : TypeId} {x y : Operand} {k k' : IntKind} {a b : Int} (ho : o.op = .binOp .shr T x y T') (hx : avo s x = some (.v (.int k a))) (hy : avo s y = some (.v (.int k' b))) (h0 : 0 ≤ b) (h1 : b ≤ 8 ∨ b.toNat ≤ k.bits) : LOK Try.prog o s ⟨some (.v (.int k (a / 2 ^ b.toNat))), [], []⟩ := by
  refine lok_val fun s2 hl W N β w ac hs => ⟨.int k (a / 2 ^ b.toNat), ?_, fun z hz => by cases hz; exact ⟨trivial, rfl⟩⟩
  have e1 : ac.eval x = .int k a := hs.opv (by rw [hl.avo (by rw [ho]; simp [Op.operands])]; exact hx)
  have e2 : ac.eval y = .int k' b := hs.opv (by rw [hl.avo (by rw [ho]; simp [Op.operands])]; exact hy)
  have hb : b.toNat ≤ k.bits := by
    rcases h1 with h1 | h1
    · have : 8 ≤ k.bits := by cases k <;> decide
      omega
    · exact h1
  have hf : a.fdiv (2 ^ b.toNat) = a / 2 ^ b.toNat := Int.fdiv_eq_ediv_of_nonneg a (Int.le_of_lt (Int.pow_pos (by decide)))
  unfold execOp; rw [ho]; simp only []; rw [e1, e2]
  simp [eqGuard, binOp, Op.shift, Nat.min_eq_left hb, hf]
  omega
theorem ok_add8 {T T' : TypeId} {x y : Operand} {a b : Int} (ho : o.op = .binOp .add T x y T') (hx : avo s x = some (.v (.int .u8 a))) (hy : avo s y = some (.v (.int .u8 b))) : LOK Try.prog o s ⟨some (.v (.int .u8 ((a + b) % 256))), [], []⟩ := by
  refine lok_val fun s2 hl W N β w ac hs => ⟨.int .u8 ((a + b) % 256), ?_, fun z hz => by cases hz; exact ⟨trivial, rfl⟩⟩
  have h1 : ac.eval x = .int .u8 a := hs.opv (by rw [hl.avo (by rw [ho]; simp [Op.operands])]; exact hx)
  have h2 : ac.eval y = .int .u8 b := hs.opv (by rw [hl.avo (by rw [ho]; simp [Op.operands])]; exact hy)
  unfold execOp; rw [ho]; simp only []; rw [h1, h2]
  have hw : IntKind.u8.wrap (a + b) = (a + b) % 256 := rfl
  simp [eqGuard, binOp, Op.intArith, hw]
end
def u8T : List TypeId := [5]
theorem u8_all : u8T.all (fun T => isKind .u8 (Try.prog.underlying T)) = true := by kernel_rfl
def bytesT : List TypeId := []
theorem bytes_all : bytesT.all (fun T => isSlice (Try.prog.underlying T) && (szB Try.prog (sliceE (Try.prog.underlying T)) 1 && isKind .u8 (Try.prog.underlying (sliceE (Try.prog.underlying T))))) = true := by kernel_rfl
theorem bytes_ok {T : TypeId} (h : memN T bytesT = true) : ∃ E, Try.prog.underlying T = some (.slice E) ∧ szB Try.prog E 1 = true ∧ Try.prog.underlying E = some (.int .u8) := by
  have h := List.all_eq_true.1 bytes_all T (memN_spec h)
  rw [Bool.and_eq_true, Bool.and_eq_true] at h
  obtain ⟨h1, h2, h3⟩ := h
  have key : ∀ d : Option TypeDesc, Try.prog.underlying T = d → isSlice d = true → szB Try.prog (sliceE d) 1 = true → isKind .u8 (Try.prog.underlying (sliceE d)) = true → ∃ E, Try.prog.underlying T = some (.slice E) ∧ szB Try.prog E 1 = true ∧ Try.prog.underlying E = some (.int .u8) := by
    intro d e k1 k2 k3
    cases d with
    | none => cases k1
    | some d =>
      cases d with
      | slice E => exact ⟨E, e, k2, isKind_eq k3⟩
      | _ => cases k1
  exact key _ rfl h1 h2 h3
def strT : List TypeId := [9]
def isStr : Option TypeDesc → Bool
  | some .string => true
  | _ => false
theorem str_all : strT.all (fun T => isStr (Try.prog.underlying T)) = true := by kernel_rfl
theorem str_ok {T : TypeId} (h : memN T strT = true) : Try.prog.underlying T = some .string := by
  have h := List.all_eq_true.1 str_all T (memN_spec h)
  generalize Try.prog.underlying T = d at *
  cases d with
  | none => cases h
  | some d => cases d <;> first | rfl | cases h
def errT : List TypeId := [48]
theorem err_all : errT.all (fun T => isSlice (Try.prog.underlying T) && szB Try.prog (sliceE (Try.prog.underlying T)) 1) = true := by kernel_rfl
theorem err_el : ∀ T, memN T errT = true → ∃ E, Try.prog.underlying T = some (.slice E) ∧ szB Try.prog E 1 = true := by
  intro T h
  have h := List.all_eq_true.1 err_all T (memN_spec h)
  rw [Bool.and_eq_true] at h
  obtain ⟨h1, h2⟩ := h
  generalize Try.prog.underlying T = d at *
  cases d with
  | none => cases h1
  | some d =>
    cases d with
    | slice E => exact ⟨E, rfl, h2⟩
    | _ => cases h1
/-- Bytes that are laid in a row. -/
def u8s : List AV → Option (List Int)
  | [] => some []
  | .v (.int .u8 n) :: l => match u8s l with
    | some ns => some (n :: ns)
    | none => none
  | _ :: _ => none
theorem u8s_get : ∀ {l : List AV} {qs : List Int}, u8s l = some qs → qs.length = l.length ∧ ∀ (j : Nat), j < l.length → l.getD j (.v undef) = AV.v (.int .u8 (qs.getD j 0))
  | [], qs, h => by cases h; exact ⟨rfl, fun j hj => absurd hj (Nat.not_lt_zero _)⟩
  | .v (.int .u8 n) :: l, qs, h => by
    unfold u8s at h
    split at h
    · rename_i ns e
      cases h
      obtain ⟨h1, h2⟩ := u8s_get e
      refine ⟨by simp [h1], fun j hj => ?_⟩
      cases j with
      | zero => rfl
      | succ j => exact h2 j (by simpa using hj)
    · cases h
/-- Further steps. -/
def ev3 (o : Oper) (s : St) : Ev :=
  match o.op with
  | .buildSlice T n parts => (match celT T with
    | some m => (match avos s parts.toList with
      | some ys => (match flat m ys with
        | some r => out (.arr n m (fun i => r.getD i (.v undef))) (idxs 0 parts.toList = true ∧ parts.toList.length = n ∧ n * m ≤ 100000 ∧ 0 < m) []
        | none => none)
      | none => none)
    | none => bif memN T bytesT then (match avos s parts.toList, o.dst with
      | some (y :: ys), some _ => (match u8s (y :: ys), elT T with
        | some qs, some _ => outP s o.dst (.seq .u8 qs) (idxs 0 parts.toList = true ∧ parts.toList.length = n ∧ n ≤ 100000 ∧ (y :: ys).all (·.one) = true)
        | _, _ => none)
      | _, _ => none) else none)
  | .indexAddr T x y => (match avo s x, avo s y with
    | some (.arr n m f), some (.v (.int _ z)) => (match celT T with
      | some m' => bif Nat.beq m' m then (bif Nat.beq m 1 then out (.cp (f z.toNat)) (0 ≤ z ∧ z < n) [] else out (.pa m (fun j => f (z.toNat * m + j))) (0 < m ∧ 0 ≤ z ∧ z < n) []) else none
      | none => none)
    | some (.seq k l), some (.v (.int _ z)) => bif memN T errT then out (.cp (.v (.int k (l.getD z.toNat 0)))) (0 ≤ z ∧ z < l.length) [] else none
    | _, _ => none)
  | .load T x => (match avo s x with
    | some (.pa m f) => out (.ag m f) (isAggD (Try.prog.underlying T) = true ∧ szB Try.prog T m = true) []
    | _ => none)
  | .fieldAddr T x j => (match avo s x with
    | some (.pa m f) => out (.cp (f j)) (fieldB Try.prog T j j = true ∧ j < m) []
    | _ => none)
  | .binOp .add T x y _ => (match avo s x, avo s y with
    | some (.v (.string a)), some (.v (.string b)) => out (.v (.string (a ++ b))) (a.size + b.size ≤ 1000000) []
    | some (.v (.int .u8 a)), some (.v (.int .u8 b)) => out (.v (.int .u8 ((a + b) % 256))) True []
    | _, _ => none)
  | .binOp .eql T x y _ => (match avo s x, avo s y with
    | some (.v (.string a)), some (.v (.string b)) => out (.v (.bool (a.toList == b.toList))) True []
    | _, _ => none)
  | .binOp .shr T x y _ => (match avo s x, avo s y with
    | some (.v (.int k a)), some (.v (.int _ b)) => out (.v (.int k (a / 2 ^ b.toNat))) (0 ≤ b ∧ (b ≤ 8 ∨ b.toNat ≤ k.bits)) []
    | _, _ => none)
  | .slice T x lo hi mx => bif memN T bytesT then (match avo s x with
    | some (.seq k q) => (match bnd s 0 lo, bnd s q.length hi, bnd s q.length mx with
      | some l, some h, some m => out (.seq k ((q.take h.toNat).drop l.toNat)) ((mx.isSome = true → hi.isSome = true) ∧ 0 ≤ l ∧ l ≤ h ∧ h ≤ m ∧ m ≤ q.length) []
      | _, _, _ => none)
    | _ => none) else none
  | .convert T T' x => (match avo s x with
    | some (.v (.int _ n)) => bif memN T' u8T then (match kindOf T with
      | some _ => out (.v (.int .u8 (n % 256))) True []
      | none => none) else none
    | some (.seq .u8 l) => bif memN T bytesT && memN T' strT then out (.v (.string (bts l))) True [] else none
    | _ => none)
  | _ => none
theorem ev3_ok {o : Oper} {s : St} {D : Dsc} {c : Prop} (h : ev3 o s = some (D, c)) (hc : c) : LOK Try.prog o s D := by
  unfold ev3 at h
  split at h
  · rename_i T n parts ho
    split at h
    · rename_i m e
      obtain ⟨E, hT⟩ := cel_ok e
      split at h
      · rename_i ys e1
        split at h
        · rename_i r e2
          obtain ⟨rfl, rfl⟩ := out_inj h
          exact ok_build_arr ho hT hc.1 hc.2.1 hc.2.2 e1 e2
        · cases h
      · cases h
    · cases eb : memN T bytesT with
      | false => rw [eb] at h; cases h
      | true =>
        rw [eb, cond_true] at h
        split at h
        · rename_i y ys d e1 e0
          split at h
          · rename_i qs p e2 e3
            obtain ⟨E, z⟩ := p
            obtain ⟨bytes, he⟩ := el_ok e3
            obtain ⟨hu, rfl, rfl⟩ := outP_inj h
            obtain ⟨hq1, hq2⟩ := u8s_get e2
            have hlen := avos_len e1
            rw [e0] at hu ⊢
            exact lok_pub (ok_build_one ho he hu hc.1 hc.2.1 hc.2.2.1 e1 hc.2.2.2) e0 fun s' h1 h2 => imp_seq d qs h1 h2 rfl (by rw [hq1, hlen, hc.2.1]) fun i hi => hq2 i (by rw [hlen, hc.2.1]; exact hi)
          · cases h
        · cases h
  · rename_i T x y ho
    split at h
    · rename_i n m f k z e1 e2
      split at h
      · rename_i m' e
        cases hm : Nat.beq m' m with
        | false => rw [hm] at h; cases h
        | true =>
          have hm := Nat.eq_of_beq_eq_true hm
          subst hm
          obtain ⟨E, hT⟩ := cel_ok e
          rw [Nat.beq_refl, cond_true] at h
          cases h1 : Nat.beq m' 1 with
          | true =>
            rw [h1, cond_true] at h
            have h1 := Nat.eq_of_beq_eq_true h1
            subst h1
            obtain ⟨rfl, rfl⟩ := out_inj h
            exact ok_index_one ho hT e1 e2 hc.1 hc.2
          | false =>
            rw [h1, cond_false] at h
            obtain ⟨rfl, rfl⟩ := out_inj h
            exact ok_index_many ho hT hc.1 e1 e2 hc.2.1 hc.2.2
      · cases h
    · rename_i k l k' z e1 e2
      cases e : memN T errT with
      | false => rw [e] at h; cases h
      | true =>
        rw [e, cond_true] at h
        obtain ⟨E, hu, hz⟩ := err_el T e
        obtain ⟨rfl, rfl⟩ := out_inj h
        exact ok_index_seq ho hu hz e1 e2 hc.1 hc.2
    · cases h
  · rename_i T x ho
    split at h
    · rename_i e1; obtain ⟨rfl, rfl⟩ := out_inj h; exact ok_load_pa ho hc.1 hc.2 e1
    · cases h
  · rename_i T x j ho
    split at h
    · rename_i e1; obtain ⟨rfl, rfl⟩ := out_inj h; exact ok_field_pa ho hc.1 hc.2 e1
    · cases h
  · rename_i T x y T' ho
    split at h
    · rename_i e1 e2; obtain ⟨rfl, rfl⟩ := out_inj h; exact ok_addstr ho e1 e2 hc
    · rename_i e1 e2; obtain ⟨rfl, rfl⟩ := out_inj h; exact ok_add8 ho e1 e2
    · cases h
  · rename_i T x y T' ho
    split at h
    · rename_i e1 e2; obtain ⟨rfl, rfl⟩ := out_inj h; exact ok_eqstr ho e1 e2 rfl
    · cases h
  · rename_i T x y T' ho
    split at h
    · rename_i e1 e2; obtain ⟨rfl, rfl⟩ := out_inj h; exact ok_shr ho e1 e2 hc.1 hc.2
    · cases h
  · rename_i T x lo hi mx ho
    cases e : memN T bytesT with
    | false => rw [e] at h; cases h
    | true =>
      rw [e, cond_true] at h
      obtain ⟨E, hu, hz, _⟩ := bytes_ok e
      split at h
      · rename_i e1
        split at h
        · rename_i a1 a2 a3; obtain ⟨rfl, rfl⟩ := out_inj h; exact ok_slice_seq ho hu hz e1 a1 a2 a3 hc.1 hc.2.1 hc.2.2.1 hc.2.2.2.1 hc.2.2.2.2
        · cases h
      · cases h
  · rename_i T T' x ho
    split at h
    · rename_i k n e1
      cases e : memN T' u8T with
      | false => rw [e] at h; cases h
      | true =>
        rw [e, cond_true] at h
        split at h
        · rename_i k' e2
          obtain ⟨rfl, rfl⟩ := out_inj h
          exact ok_wrap8 ho e1 (by rw [kind_ok e2]; rfl) (isKind_eq (List.all_eq_true.1 u8_all T' (memN_spec e)))
        · cases h
    · rename_i l e1
      cases e : memN T bytesT && memN T' strT with
      | false => rw [e] at h; cases h
      | true =>
        rw [e, cond_true] at h
        rw [Bool.and_eq_true] at e
        obtain ⟨E, hu, _, hE⟩ := bytes_ok e.1
        obtain ⟨rfl, rfl⟩ := out_inj h
        exact ok_tostring ho e1 hu hE (str_ok e.2)
    · cases h
  · cases h
end Go.Proofs.Ytggicfmbdmjhkaa.AM

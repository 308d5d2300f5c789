/- Joined texts, 8: AmL AmM. -/
import Derived.Test.YtpclkgjhfhhddaaJLawGenChecks7
set_option linter.unusedVariables false
set_option linter.unusedSimpArgs false
/- What an operation does, reckoned. -/
namespace Go.Proofs.Ytpclkgjhfhhddaa.AM
open Go Go.RowKit Go.Proofs.Ytpclkgjhfhhddaa.PN Go.Proofs.Ytpclkgjhfhhddaa.V
set_option linter.unusedVariables false
set_option linter.unusedSimpArgs false
abbrev Ev := Option (Dsc × Prop)
def out (r : AV) (c : Prop) (rd : List Nat) : Ev := some (⟨some r, [], rd⟩, c)
def evInt (op : BinOp) (k k' : IntKind) (a b : Int) : Ev :=
  match op with
  | .add => out (.v (.int k (a + b))) (k = k' ∧ Fits k (a + b)) []
  | .sub => out (.v (.int k (a - b))) (k = k' ∧ Fits k (a - b)) []
  | .mul => out (.v (.int k (a * b))) (k = k' ∧ Fits k (a * b)) []
  | .quo => out (.v (.int k (a.tdiv b))) (k = k' ∧ b ≠ 0 ∧ Fits k (a.tdiv b)) []
  | .rem => out (.v (.int k (a.tmod b))) (k = k' ∧ b ≠ 0) []
  | .eql => out (.v (.bool (decide (a = b)))) (k = k') []
  | .neq => out (.v (.bool (decide (a ≠ b)))) (k = k') []
  | .lss => out (.v (.bool (decide (a < b)))) (k = k') []
  | .leq => out (.v (.bool (decide (a ≤ b)))) (k = k') []
  | .gtr => out (.v (.bool (decide (b < a)))) (k = k') []
  | .geq => out (.v (.bool (decide (b ≤ a)))) (k = k') []
  | _ => none
section
variable {o : Oper} {s : St} {D : Dsc} {c : Prop}
theorem out_inj {r : AV} {c' : Prop} {rd : List Nat} (h : out r c' rd = some (D, c)) : D = ⟨some r, [], rd⟩ ∧ c = c' := by cases h; exact ⟨rfl, rfl⟩
theorem evInt_ok {op : BinOp} {T T' : TypeId} {x y : Operand} {k k' : IntKind} {a b : Int} (ho : o.op = .binOp op T x y T') (hx : avo s x = some (.v (.int k a))) (hy : avo s y = some (.v (.int k' b))) (h : evInt op k k' a b = some (D, c)) (hc : c) : LOK Try.prog o s D := by
  unfold evInt at h
  cases op <;> first
    | (cases h; done)
    | (obtain ⟨rfl, rfl⟩ := out_inj h; first
        | exact ok_arith ho hx hy hc.1 rfl hc.2
        | exact ok_quo ho hx hy hc.1 hc.2.1 hc.2.2
        | exact ok_rem ho hx hy hc.1 hc.2
        | exact ok_cmp ho hx hy hc rfl)
end
def evBin (op : BinOp) (T : TypeId) : Option AV → Option AV → Ev
  | some (.v (.int k a)), some (.v (.int k' b)) => evInt op k k' a b
  | some (.v (.bool a)), some (.v (.bool b)) => bif memN T [4] then (match cmpBB op a b with | some r => out (.v (.bool r)) True [] | none => none) else none
  | _, _ => none
theorem evBin_ok {o : Oper} {s : St} {D : Dsc} {c : Prop} {op : BinOp} {T T' : TypeId} {x y : Operand} (ho : o.op = .binOp op T x y T') (h : evBin op T (avo s x) (avo s y) = some (D, c)) (hc : c) : LOK Try.prog o s D := by
  unfold evBin at h
  split at h
  · rename_i e1 e2; exact evInt_ok ho e1 e2 h hc
  · rename_i e1 e2
    cases hT : memN T [4] with
    | false => rw [hT] at h; cases h
    | true =>
      rw [hT] at h
      simp only [cond_true] at h
      split at h
      · rename_i e3; obtain ⟨rfl, rfl⟩ := out_inj h; exact ok_cmpb ho hT e1 e2 e3
      · cases h
  · cases h
theorem kind_i64 : ([3, 2]).all (fun T => isKind .i64 (Try.prog.underlying T)) = true := by kernel_rfl
theorem kind_u64 : ([85, 111]).all (fun T => isKind .u64 (Try.prog.underlying T)) = true := by kernel_rfl
theorem kind_u32 : ([53]).all (fun T => isKind .u32 (Try.prog.underlying T)) = true := by kernel_rfl
theorem kind_u8 : ([5]).all (fun T => isKind .u8 (Try.prog.underlying T)) = true := by kernel_rfl
theorem kind_i32 : ([21]).all (fun T => isKind .i32 (Try.prog.underlying T)) = true := by kernel_rfl
theorem kind_err : ([30]).all (fun T => isKind .i64 (Try.prog.underlying T)) = true := by kernel_rfl
theorem isKind_eq {k : IntKind} {d : Option TypeDesc} (h : isKind k d = true) : d = some (.int k) := by
  cases d with
  | none => cases h
  | some d =>
    cases d <;> first | (cases h; done) | skip
    have h := eq_of_beq h
    rw [h]
theorem kind_ok {T : TypeId} {k : IntKind} (h : kindOf T = some k) : Try.prog.underlying T = some (.int k) := by
  unfold kindOf at h
  cases e1 : memN T [3, 2] with
  | true => rw [e1] at h; cases h; exact isKind_eq (List.all_eq_true.1 kind_i64 T (memN_spec e1))
  | false =>
    rw [e1] at h
    cases e2 : memN T [85, 111] with
    | true => rw [e2] at h; cases h; exact isKind_eq (List.all_eq_true.1 kind_u64 T (memN_spec e2))
    | false =>
      rw [e2] at h
      cases e3 : memN T [53] with
      | true => rw [e3] at h; cases h; exact isKind_eq (List.all_eq_true.1 kind_u32 T (memN_spec e3))
      | false =>
        rw [e3] at h
        cases e4 : memN T [5] with
        | true => rw [e4] at h; cases h; exact isKind_eq (List.all_eq_true.1 kind_u8 T (memN_spec e4))
        | false =>
          rw [e4] at h
          cases e5 : memN T [30] with
          | true => rw [e5] at h; cases h; exact isKind_eq (List.all_eq_true.1 kind_err T (memN_spec e5))
          | false =>
            rw [e5] at h
            cases e6 : memN T [21] with
            | true => rw [e6] at h; cases h; exact isKind_eq (List.all_eq_true.1 kind_i32 T (memN_spec e6))
            | false => rw [e6] at h; cases h
def evConv (T T' : TypeId) : Option AV → Ev
  | some (.v (.int _ n)) => match kindOf T, kindOf T' with
    | some _, some k' => out (.v (.int k' n)) (Fits k' n) []
    | _, _ => none
  | _ => none
theorem evConv_ok {o : Oper} {s : St} {D : Dsc} {c : Prop} {T T' : TypeId} {x : Operand} (ho : o.op = .convert T T' x) (h : evConv T T' (avo s x) = some (D, c)) (hc : c) : LOK Try.prog o s D := by
  unfold evConv at h
  split at h
  · rename_i e1
    split at h
    · rename_i e2 e3
      obtain ⟨rfl, rfl⟩ := out_inj h
      exact ok_convert ho e1 (by rw [kind_ok e2]; rfl) (kind_ok e3) hc
    · cases h
  · cases h
def evExtract (i : Nat) : Option AV → Ev
  | some (.tup y z) => out (sel2 i y z) (i < 2) []
  | some (.tup3 y z u) => out (sel3 i y z u) (i < 3) []
  | _ => none
theorem evExtract_ok {o : Oper} {s : St} {D : Dsc} {c : Prop} {i : Nat} {x : Operand} (ho : o.op = .extract x i) (h : evExtract i (avo s x) = some (D, c)) (hc : c) : LOK Try.prog o s D := by
  unfold evExtract at h
  split at h
  · rename_i e1; obtain ⟨rfl, rfl⟩ := out_inj h; exact ok_extract2 ho e1 hc
  · rename_i e1; obtain ⟨rfl, rfl⟩ := out_inj h; exact ok_extract3 ho e1 hc
  · cases h
/-! ### Loads, stores -/
def evLoad (s : St) (T : TypeId) : Option AV → Ev
  | some (.rp r) => bif Nat.beq T RT then out (.ra r) True [] else none
  | some (.cp y) => bif memN T flatT then out y True [] else none
  | some (.pp sg n d) => bif Nat.beq T RT then out (.ag 3 (pag sg n d)) True [] else none
  | some (.rptr g r i) => match s.heap g with
    | some (n, F) => match F r with
      | .rats m f => bif Nat.beq T RT then out (.ra (f i)) (r < n ∧ i < m) [g] else none
      | _ => none
    | none => none
  | some (.ptr g r i) => match s.heap g with
    | some (n, F) => match F r with
      | .ones _ m f => bif memN T flatT then out (f i) (r < n ∧ i < m) [g] else
        bif Nat.beq T RT then (match f i with | .rs q => out (.ra q) (r < n ∧ i + 2 < m ∧ f (i + 1) = .rn q ∧ f (i + 2) = .rd q) [g] | _ => bif Nat.beq i 0 then out (.ag m f) (r < n ∧ isAggD (Try.prog.underlying T) = true ∧ szB Try.prog T m = true) [g] else none) else
        bif Nat.beq i 0 then out (.ag m f) (r < n ∧ isAggD (Try.prog.underlying T) = true ∧ szB Try.prog T m = true) [g] else none
      | _ => none
    | none => none
  | some (.fld g r i j) => match s.heap g with
    | some (n, F) => match F r with
      | .rats m f => bif memN T flatT then out ((f i).field j) (r < n ∧ i < m ∧ j < 3) [g] else none
      | _ => none
    | none => none
  | _ => none
theorem evLoad_ok {o : Oper} {s : St} {D : Dsc} {c : Prop} {T : TypeId} {x : Operand} (ho : o.op = .load T x) (h : evLoad s T (avo s x) = some (D, c)) (hc : c) : LOK Try.prog o s D := by
  unfold evLoad at h
  split at h
  · rename_i e1
    cases hT : Nat.beq T RT with
    | false => rw [hT] at h; cases h
    | true => rw [hT] at h; obtain ⟨rfl, rfl⟩ := out_inj h; have hT := Nat.eq_of_beq_eq_true hT; subst hT; exact ok_load_rp ho e1
  · rename_i e1
    cases hT : memN T flatT with
    | false => rw [hT] at h; cases h
    | true => rw [hT] at h; obtain ⟨rfl, rfl⟩ := out_inj h; exact ok_load_cp ho hT e1
  · rename_i e1
    cases hT : Nat.beq T RT with
    | false => rw [hT] at h; cases h
    | true => rw [hT] at h; obtain ⟨rfl, rfl⟩ := out_inj h; have hT := Nat.eq_of_beq_eq_true hT; subst hT; exact ok_load_pp ho e1
  · rename_i e1
    split at h
    · rename_i e2
      split at h
      · rename_i e3
        cases hT : Nat.beq T RT with
        | false => rw [hT] at h; cases h
        | true => rw [hT] at h; obtain ⟨rfl, rfl⟩ := out_inj h; have hT := Nat.eq_of_beq_eq_true hT; subst hT; exact ok_load_rptr ho e1 e2 hc.1 e3 hc.2
      · cases h
    · cases h
  · rename_i g r i e1
    split at h
    · rename_i e2
      split at h
      · rename_i e3
        cases hT : memN T flatT with
        | true => rw [hT] at h; obtain ⟨rfl, rfl⟩ := out_inj h; exact ok_load_ptr ho hT e1 e2 hc.1 e3 hc.2
        | false =>
          rw [hT] at h
          simp only [cond_false] at h
          cases hT2 : Nat.beq T RT with
          | true =>
            rw [hT2] at h
            simp only [cond_true] at h
            split at h
            · rename_i e4
              obtain ⟨rfl, rfl⟩ := out_inj h
              have hT := Nat.eq_of_beq_eq_true hT2; subst hT
              exact ok_load_ptr3 ho e1 e2 hc.1 e3 hc.2.1 e4 hc.2.2.1 hc.2.2.2
            · cases hi : Nat.beq i 0 with
              | false => rw [hi] at h; cases h
              | true => rw [hi] at h; obtain ⟨rfl, rfl⟩ := out_inj h; have hi := Nat.eq_of_beq_eq_true hi; subst hi; exact ok_load_agg ho hc.2.1 hc.2.2 e1 e2 hc.1 e3
          | false =>
            rw [hT2] at h
            simp only [cond_false] at h
            cases hi : Nat.beq i 0 with
            | false => rw [hi] at h; cases h
            | true => rw [hi] at h; obtain ⟨rfl, rfl⟩ := out_inj h; have hi := Nat.eq_of_beq_eq_true hi; subst hi; exact ok_load_agg ho hc.2.1 hc.2.2 e1 e2 hc.1 e3
      · cases h
    · cases h
  · rename_i e1
    split at h
    · rename_i e2
      split at h
      · rename_i e3
        cases hT : memN T flatT with
        | false => rw [hT] at h; cases h
        | true => rw [hT] at h; obtain ⟨rfl, rfl⟩ := out_inj h; exact ok_load_fld ho hT e1 e2 hc.1 e3 hc.2.1 hc.2.2
      · cases h
    · cases h
  · cases h
def outS (g n : Nat) (F : Nat → Blk) (c : Prop) : Ev := some (⟨none, [(g, some (n, F))], [g]⟩, c)
theorem outS_inj {g n : Nat} {F : Nat → Blk} {D : Dsc} {c c' : Prop} (h : outS g n F c' = some (D, c)) : D = ⟨none, [(g, some (n, F))], [g]⟩ ∧ c = c' := by cases h; exact ⟨rfl, rfl⟩
def evStore (s : St) (T : TypeId) : Option AV → Option AV → Ev
  | some (.rptr g r i), some (.ra q) => match s.heap g with
    | some (n, F) => match F r with
      | .rats m f => bif Nat.beq T RT then outS g n (updN F r (.rats m (updN f i q))) (r < n ∧ i < m) else none
      | _ => none
    | none => none
  | some (.ptr g r i), some z => match s.heap g with
    | some (n, F) => match F r with
      | .ones T' m f => bif memN T flatT then outS g n (updN F r (.ones T' m (updN f i z))) (z.one = true ∧ r < n ∧ i < m) else
        (match z with
        | .ra q => bif Nat.beq T RT then outS g n (updN F r (.ones T' m (upd3 f i q))) (r < n ∧ i + 2 < m) else none
        | .ag m' f' => bif Nat.beq i 0 then outS g n (updN F r (.ones T' m f')) (m' = m ∧ r < n ∧ szB Try.prog T m = true) else none
        | _ => none)
      | _ => none
    | none => none
  | _, _ => none
theorem evStore_ok {o : Oper} {s : St} {D : Dsc} {c : Prop} {T : TypeId} {x y : Operand} (hd : o.dst = none) (ho : o.op = .store T x y) (h : evStore s T (avo s x) (avo s y) = some (D, c)) (hc : c) : LOK Try.prog o s D := by
  unfold evStore at h
  split at h
  · rename_i e1 e0
    split at h
    · rename_i e2
      split at h
      · rename_i e3
        cases hT : Nat.beq T RT with
        | false => rw [hT] at h; cases h
        | true => rw [hT] at h; obtain ⟨rfl, rfl⟩ := outS_inj h; have hT := Nat.eq_of_beq_eq_true hT; subst hT; exact ok_store_rptr hd ho e1 e0 e2 hc.1 e3 hc.2
      · cases h
    · cases h
  · rename_i g r i z e1 e0
    split at h
    · rename_i e2
      split at h
      · rename_i e3
        cases hT : memN T flatT with
        | true => rw [hT] at h; obtain ⟨rfl, rfl⟩ := outS_inj h; exact ok_store_ptr hd ho hT e1 e0 hc.1 e2 hc.2.1 e3 hc.2.2
        | false =>
          rw [hT] at h
          simp only [cond_false] at h
          split at h
          · cases hT2 : Nat.beq T RT with
            | false => rw [hT2] at h; cases h
            | true => rw [hT2] at h; obtain ⟨rfl, rfl⟩ := outS_inj h; have hT := Nat.eq_of_beq_eq_true hT2; subst hT; exact ok_store_ptr3 hd ho e1 e0 e2 hc.1 e3 hc.2
          · cases hi : Nat.beq i 0 with
            | false => rw [hi] at h; cases h
            | true => rw [hi] at h; obtain ⟨rfl, rfl⟩ := outS_inj h; have hi := Nat.eq_of_beq_eq_true hi; subst hi; obtain ⟨rfl, h1, h2⟩ := hc; exact ok_store_agg hd ho h2 e1 e0 e2 h1 e3
          · cases h
      · cases h
    · cases h
  · cases h
end Go.Proofs.Ytpclkgjhfhhddaa.AM
/- What an operation does, reckoned: the rest. -/
namespace Go.Proofs.Ytpclkgjhfhhddaa.AM
open Go Go.RowKit Go.Proofs.Ytpclkgjhfhhddaa.PN Go.Proofs.Ytpclkgjhfhhddaa.V
set_option linter.unusedVariables false
set_option linter.unusedSimpArgs false
/-- The number of a new own block: its slot's, or another one. -/
def fresh (s : St) : Option Tmp → Nat
  | some t => bif s.used t || fx3 t then (bif s.used (t + 1000) then t + 2000 else t + 1000) else t
  | none => 0
/-- A number, reckoned at once. -/
def force {α : Type} (n : Nat) (f : Nat → α) : α := match n with
  | 0 => f 0
  | k + 1 => f (k + 1)
theorem force_eq {α : Type} (n : Nat) (f : Nat → α) : force n f = f n := by cases n <;> rfl
def outN (s : St) (d : Option Tmp) (r : Nat → AV) (b : Blk) (c : Prop) (rd : List Nat) : Ev :=
  bif s.used (fresh s d) then none else bif memN (fresh s d) rd then none else force (fresh s d) fun g => some (⟨some (r g), [(g, some (1, fun _ => b))], rd⟩, c)
theorem outN_inj {s : St} {d : Option Tmp} {r : Nat → AV} {b : Blk} {c c' : Prop} {rd : List Nat} {D : Dsc} (h : outN s d r b c' rd = some (D, c)) : s.used (fresh s d) = false ∧ D = ⟨some (r (fresh s d)), [(fresh s d, some (1, fun _ => b))], rd⟩ ∧ c = c' := by
  unfold outN at h
  cases e : s.used (fresh s d) with
  | true => rw [e] at h; cases h
  | false =>
    rw [e] at h
    simp only [cond_false] at h
    cases e2 : memN (fresh s d) rd with
    | true => rw [e2] at h; cases h
    | false => rw [e2, cond_false, force_eq] at h; cases h; exact ⟨rfl, rfl, rfl⟩
/-- Types of one-cell elements: slice's type, element's type, its nought, its bytes. -/
def elTab : List (TypeId × TypeId × Value × Nat) :=
  [60].map (fun T => (T, WT, .slice none 0 0, 24)) ++ ([22].map (fun T => (T, 3, .int .i64 0, 8)) ++ ([].map (fun T => (T, 4, .bool false, 1)) ++ ([].map (fun T => (T, 22, .slice none 0 0, 24)) ++
    ([58].map (fun T => (T, 9, .string { data := #[] }, 16)) ++ ([28].map (fun T => (T, 5, .int .u8 0, 1)) ++ ([36].map (fun T => (T, 28, .slice none 0 0, 24)) ++ [46].map (fun T => (T, 30, .int .i64 0, 8))))))))
def findT (T : TypeId) : List (TypeId × TypeId × Value × Nat) → Option (TypeId × Value)
  | [] => none
  | p :: l => bif Nat.beq p.1 T then some (p.2.1, p.2.2.1) else findT T l
theorem findT_mem {T E : TypeId} {z : Value} : ∀ {l : List (TypeId × TypeId × Value × Nat)}, findT T l = some (E, z) → ∃ b, (T, E, z, b) ∈ l
  | [], h => by cases h
  | (T', E', z', b) :: l, h => by
    unfold findT at h
    cases e : Nat.beq T' T with
    | true =>
      simp only [e, cond_true] at h
      cases h
      exact ⟨b, by rw [Nat.eq_of_beq_eq_true e]; exact List.mem_cons_self ..⟩
    | false =>
      simp only [e, cond_false] at h
      obtain ⟨c, hc⟩ := findT_mem h
      exact ⟨c, List.mem_cons_of_mem _ hc⟩
def elT (T : TypeId) : Option (TypeId × Value) := findT T elTab
theorem el_one : ∀ p ∈ elTab, OneEl p.1 p.2.1 p.2.2.1 p.2.2.2 := by
  unfold elTab
  repeat' (refine List.forall_mem_append.2 ⟨?_, ?_⟩)
  all_goals
    refine List.forall_mem_map.2 fun T hT => ?_
    simp only [List.mem_cons, List.not_mem_nil, or_false] at hT <;>
    first
      | (subst hT; exact ⟨by kernel_rfl, by kernel_rfl, rfl, by decide, by decide⟩)
      | exact hT.elim
theorem el_ok {T E : TypeId} {z : Value} (h : elT T = some (E, z)) : ∃ bytes, OneEl T E z bytes := by
  obtain ⟨b, hb⟩ := findT_mem h
  exact ⟨b, el_one _ hb⟩
def zSlice (P : Program) (T : TypeId) : Bool := match P.info? T with
  | some i => (match i.zero with | some (.slice none 0 0) => true | _ => false)
  | none => false
def zInt (P : Program) (T : TypeId) : Bool := match P.info? T with
  | some i => (match i.zero with | some (.int .i64 n) => decide (n = 0) | _ => false)
  | none => false
def zBool (P : Program) (T : TypeId) : Bool := match P.info? T with
  | some i => (match i.zero with | some (.bool b) => !b | _ => false)
  | none => false
theorem zSlice_ok {P : Program} {T : TypeId} (h : zSlice P T = true) : isZero P T [.slice none 0 0] := by
  unfold zSlice at h
  split at h
  · rename_i i e
    split at h
    · rename_i e2; exact ⟨i, _, e, e2, rfl⟩
    · cases h
  · cases h
theorem zInt_ok {P : Program} {T : TypeId} (h : zInt P T = true) : isZero P T [.int .i64 0] := by
  unfold zInt at h
  split at h
  · rename_i i e
    split at h
    · rename_i n e2
      have hn := of_decide_eq_true h
      subst hn
      exact ⟨i, _, e, e2, rfl⟩
    · cases h
  · cases h
theorem zBool_ok {P : Program} {T : TypeId} (h : zBool P T = true) : isZero P T [.bool false] := by
  unfold zBool at h
  split at h
  · rename_i i e
    split at h
    · rename_i b e2
      cases b
      · exact ⟨i, _, e, e2, rfl⟩
      · cases h
    · cases h
  · cases h
theorem zSlices : ([24, 60, 22, 41, 28] : List Nat).all (zSlice Try.prog) = true := by kernel_rfl
theorem zInts : ([3, 30] : List Nat).all (zInt Try.prog) = true := by kernel_rfl
theorem zBools : ([4] : List Nat).all (zBool Try.prog) = true := by kernel_rfl
def evAlloc (s : St) (d : Option Tmp) (T : TypeId) : Ev :=
  bif Nat.beq T RT then outN s d (fun g => .rptr g 0 0) (.rats 1 (fun _ => ra0)) True [] else
  bif memN T [24, 60, 22, 41, 28] then outN s d (fun g => .ptr g 0 0) (.ones T 1 (fun i => .v ([Value.slice none 0 0].getD i undef))) (T ≠ U32) [] else
  bif memN T [3, 30] then outN s d (fun g => .ptr g 0 0) (.ones T 1 (fun i => .v ([Value.int .i64 0].getD i undef))) (T ≠ U32) [] else
  bif memN T [4] then outN s d (fun g => .ptr g 0 0) (.ones T 1 (fun i => .v ([Value.bool false].getD i undef))) (T ≠ U32) [] else
  bif memN T [26] then outN s d (fun g => .ptr g 0 0) (.ones T 7 (fun i => .v ([Value.int .i64 0, .int .i64 0, .int .i64 0, .slice none 0 0, .slice none 0 0, .slice none 0 0, .slice none 0 0].getD i undef))) (isZero Try.prog T [.int .i64 0, .int .i64 0, .int .i64 0, .slice none 0 0, .slice none 0 0, .slice none 0 0, .slice none 0 0] ∧ T ≠ U32) [] else none
theorem evAlloc_ok {o : Oper} {s : St} {D : Dsc} {c : Prop} {T : TypeId} (ho : o.op = .alloc T) (h : evAlloc s o.dst T = some (D, c)) (hc : c) : LOK Try.prog o s D := by
  unfold evAlloc at h
  cases e : Nat.beq T RT with
  | true => rw [e, cond_true] at h; have hT := Nat.eq_of_beq_eq_true e; subst hT; obtain ⟨hu, rfl, rfl⟩ := outN_inj h; exact ok_alloc_rat ho hu
  | false =>
    rw [e] at h
    simp only [cond_false] at h
    cases e : memN T [24, 60, 22, 41, 28] with
    | true => rw [e, cond_true] at h; obtain ⟨hu, rfl, rfl⟩ := outN_inj h; exact ok_alloc_ones ho hu (zSlice_ok (List.all_eq_true.1 zSlices _ (memN_spec e))) hc rfl rfl
    | false =>
      rw [e] at h
      simp only [cond_false] at h
      cases e : memN T [3, 30] with
      | true => rw [e, cond_true] at h; obtain ⟨hu, rfl, rfl⟩ := outN_inj h; exact ok_alloc_ones ho hu (zInt_ok (List.all_eq_true.1 zInts _ (memN_spec e))) hc rfl rfl
      | false =>
        rw [e] at h
        simp only [cond_false] at h
        cases e : memN T [4] with
        | true => rw [e, cond_true] at h; obtain ⟨hu, rfl, rfl⟩ := outN_inj h; exact ok_alloc_ones ho hu (zBool_ok (List.all_eq_true.1 zBools _ (memN_spec e))) hc rfl rfl
        | false =>
          rw [e] at h
          simp only [cond_false] at h
          cases e : memN T [26] with
          | true => rw [e, cond_true] at h; obtain ⟨hu, rfl, rfl⟩ := outN_inj h; exact ok_alloc_ones ho hu hc.1 hc.2 rfl rfl
          | false => rw [e] at h; cases h
def evBox (s : St) (d : Option Tmp) (T : TypeId) : Option AV → Ev
  | some (.ra q) => bif Nat.beq T RT then outN s d (fun g => .rptr g 0 0) (.rats 1 (fun _ => q)) True [] else none
  | some (.ag n f) => outN s d (fun g => .ptr g 0 0) (.ones T n f) (T ≠ U32) []
  | some y => outN s d (fun g => .ptr g 0 0) (.ones T 1 (fun _ => y)) (y.one = true ∧ T ≠ U32) []
  | none => none
theorem evBox_ok {o : Oper} {s : St} {D : Dsc} {c : Prop} {T : TypeId} {x : Operand} (ho : o.op = .box T x) (h : evBox s o.dst T (avo s x) = some (D, c)) (hc : c) : LOK Try.prog o s D := by
  unfold evBox at h
  split at h
  · rename_i e1
    cases e : Nat.beq T RT with
    | true => rw [e, cond_true] at h; have hT := Nat.eq_of_beq_eq_true e; subst hT; obtain ⟨hu, rfl, rfl⟩ := outN_inj h; exact ok_box_rat ho e1 hu
    | false => rw [e] at h; cases h
  · rename_i e1; obtain ⟨hu, rfl, rfl⟩ := outN_inj h; exact ok_box_agg ho e1 hc hu
  · rename_i e1; obtain ⟨hu, rfl, rfl⟩ := outN_inj h; exact ok_box_one ho e1 hc.1 hc.2 hu
  · cases h
def evMake (s : St) (d : Option Tmp) (T : TypeId) : Option AV → Option AV → Ev
  | some (.v (.int _ l)), some (.v (.int _ c)) => bif Nat.beq T WT then outN s d (fun g => .own g 0) (.rats l.toNat (fun _ => ra0)) (0 ≤ l ∧ l ≤ c ∧ c ≤ 1000000000) [] else
    match elT T with
    | some (E, z) => outN s d (fun g => .own g 0) (.ones E l.toNat (fun _ => .v z)) (0 ≤ l ∧ l ≤ c ∧ c ≤ 1000000000) []
    | none => none
  | _, _ => none
theorem evMake_ok {o : Oper} {s : St} {D : Dsc} {c : Prop} {T : TypeId} {x y : Operand} (ho : o.op = .makeSlice T x y) (h : evMake s o.dst T (avo s x) (avo s y) = some (D, c)) (hc : c) : LOK Try.prog o s D := by
  unfold evMake at h
  split at h
  · rename_i e1 e2
    cases e : Nat.beq T WT with
    | true => rw [e, cond_true] at h; have hT := Nat.eq_of_beq_eq_true e; subst hT; obtain ⟨hu, rfl, rfl⟩ := outN_inj h; exact ok_make_rat ho e1 e2 hu hc.1 hc.2.1 hc.2.2
    | false =>
      rw [e] at h
      simp only [cond_false] at h
      split at h
      · rename_i e3
        obtain ⟨bytes, he⟩ := el_ok e3
        obtain ⟨hu, rfl, rfl⟩ := outN_inj h
        exact ok_make_one ho he e1 e2 hu hc.1 hc.2.1 hc.2.2
      · cases h
  · cases h
def evBuildS (s : St) (d : Option Tmp) (T : TypeId) (n : Nat) (l : List (Nat × Operand)) : Ev :=
  match avos s l with
  | some ys =>
    bif Nat.beq T WT then (match ras ys with
      | some qs => outN s d (fun g => .own g 0) (.rats n (fun i => qs.getD i ra0)) (idxs 0 l = true ∧ l.length = n ∧ n ≤ 100000) []
      | none => none) else
    bif Nat.beq T 41 then (match u32s ys with
      | some ns => out (.lb ns) (idxs 0 l = true ∧ l.length = n ∧ n ≤ 100000 ∧ ∀ z : Int, AV.v (.int .u32 z) ∈ ys → 0 ≤ z) []
      | none => none) else
    match elT T with
    | some (E, _) => outN s d (fun g => .own g 0) (.ones E n (fun i => ys.getD i (.v undef))) (idxs 0 l = true ∧ l.length = n ∧ n ≤ 100000 ∧ ys.all (·.one) = true) []
    | none => none
  | none => none
theorem evBuildS_ok {o : Oper} {s : St} {D : Dsc} {c : Prop} {T : TypeId} {n : Nat} {parts : Array (Nat × Operand)} (ho : o.op = .buildSlice T n parts) (h : evBuildS s o.dst T n parts.toList = some (D, c)) (hc : c) : LOK Try.prog o s D := by
  unfold evBuildS at h
  split at h
  · rename_i e1
    cases e : Nat.beq T WT with
    | true =>
      rw [e] at h; have hT := Nat.eq_of_beq_eq_true e; subst hT
      simp only [cond_true] at h
      split at h
      · rename_i e2; obtain ⟨hu, rfl, rfl⟩ := outN_inj h; exact ok_build_rat ho hu hc.1 hc.2.1 hc.2.2 e1 e2
      · cases h
    | false =>
      rw [e] at h
      simp only [cond_false] at h
      cases e : Nat.beq T 41 with
      | true =>
        rw [e] at h; have hT := Nat.eq_of_beq_eq_true e; subst hT
        simp only [cond_true] at h
        split at h
        · rename_i e2; obtain ⟨rfl, rfl⟩ := out_inj h; exact ok_build_u32 ho hc.1 hc.2.1 hc.2.2.1 e1 e2 hc.2.2.2
        · cases h
      | false =>
        rw [e] at h
        simp only [cond_false] at h
        split at h
        · rename_i e3
          obtain ⟨bytes, he⟩ := el_ok e3
          obtain ⟨hu, rfl, rfl⟩ := outN_inj h
          exact ok_build_one ho he hu hc.1 hc.2.1 hc.2.2.1 e1 hc.2.2.2
        · cases h
  · cases h
/-! ### Places -/
/-- Types of slices of numbers of one kind. -/
def seqT : List TypeId := [22, 28]
def evIndex (s : St) (T : TypeId) : Option AV → Option AV → Ev
  | some X, some (.v (.int _ z)) => match X with
    | .row _ n f => bif Nat.beq T WT then out (.rp (f z.toNat)) (0 ≤ z ∧ z < n) [] else none
    | .prow n sg f g => bif Nat.beq T WT then out (.pp (sg z.toNat) (f z.toNat) (g z.toNat)) (0 ≤ z ∧ z < n) [] else none
    | .mat fr n m F => bif Nat.beq T MT then out (.cp (.row fr (m z.toNat) (F z.toNat))) (0 ≤ z ∧ z < n) [] else none
    | .seq k l => bif memN T seqT then out (.cp (.v (.int k (l.getD z.toNat 0)))) (0 ≤ z ∧ z < l.length) [] else none
    | .sl g r off n => bif Nat.beq T WT then out (.rptr g r (off + z.toNat)) (0 ≤ z ∧ z < n) [] else none
    | .own g r => match s.heap g with
      | some (n, F) => match F r with
        | .rats m _ => bif Nat.beq T WT then out (.rptr g r z.toNat) (r < n ∧ 0 ≤ z ∧ z < m) [g] else none
        | .ones _ m _ => (match elT T with | some _ => out (.ptr g r z.toNat) (r < n ∧ 0 ≤ z ∧ z < m) [g] | none => none)
        | .lims _ _ => none
      | none => none
    | _ => none
  | _, _ => none
def sliceE : Option TypeDesc → TypeId
  | some (.slice E) => E
  | _ => 0
theorem seq_all : seqT.all (fun T => isSlice (Try.prog.underlying T) && szB Try.prog (sliceE (Try.prog.underlying T)) 1) = true := by kernel_rfl
theorem int_el : ∀ T, memN T seqT = true → ∃ E, Try.prog.underlying T = some (.slice E) ∧ szB Try.prog E 1 = true := by
  intro T h
  have h := List.all_eq_true.1 seq_all T (memN_spec h)
  rw [Bool.and_eq_true] at h
  obtain ⟨h1, h2⟩ := h
  generalize Try.prog.underlying T = d at *
  cases d with
  | none => cases h1
  | some d =>
    cases d with
    | slice E => exact ⟨E, rfl, h2⟩
    | _ => cases h1
theorem el_sz {T E : TypeId} {z : Value} {bytes : Nat} (he : OneEl T E z bytes) : szB Try.prog E 1 = true := by
  obtain ⟨i, hi, _, h2, _⟩ := info_parts he.i
  unfold szB
  rw [hi, Option.map_some, h2]; rfl
theorem evIndex_ok {o : Oper} {s : St} {D : Dsc} {c : Prop} {T : TypeId} {x y : Operand} (ho : o.op = .indexAddr T x y) (h : evIndex s T (avo s x) (avo s y) = some (D, c)) (hc : c) : LOK Try.prog o s D := by
  unfold evIndex at h
  split at h
  · rename_i X k z e1 e2
    cases X <;> first | (cases h; done) | skip
    · cases e : Nat.beq T WT with
      | true => simp only [e, cond_true] at h; have hT := Nat.eq_of_beq_eq_true e; subst hT; obtain ⟨rfl, rfl⟩ := out_inj h; exact ok_index_row ho e1 e2 hc.1 hc.2
      | false => simp only [e, cond_false] at h; cases h
    · cases e : Nat.beq T MT with
      | true => simp only [e, cond_true] at h; have hT := Nat.eq_of_beq_eq_true e; subst hT; obtain ⟨rfl, rfl⟩ := out_inj h; exact ok_index_mat ho e1 e2 hc.1 hc.2
      | false => simp only [e, cond_false] at h; cases h
    · cases e : memN T seqT with
      | true =>
        simp only [e, cond_true] at h
        obtain ⟨E, hu, hz⟩ := int_el T e
        obtain ⟨rfl, rfl⟩ := out_inj h; exact ok_index_seq ho hu hz e1 e2 hc.1 hc.2
      | false => simp only [e, cond_false] at h; cases h
    · simp only [] at h
      split at h
      · rename_i e3
        split at h
        · rename_i e4
          cases e : Nat.beq T WT with
          | true => rw [e, cond_true] at h; have hT := Nat.eq_of_beq_eq_true e; subst hT; obtain ⟨rfl, rfl⟩ := out_inj h; exact ok_index_own_rat ho e1 e3 hc.1 e4 e2 hc.2.1 hc.2.2
          | false => rw [e] at h; cases h
        · rename_i e4
          split at h
          · rename_i p e5
            obtain ⟨E, z⟩ := p
            obtain ⟨bytes, he⟩ := el_ok e5
            obtain ⟨rfl, rfl⟩ := out_inj h; exact ok_index_own_one ho he.u (el_sz he) e1 e3 hc.1 e4 e2 hc.2.1 hc.2.2
          · cases h
        · cases h
      · cases h
    · cases e : Nat.beq T WT with
      | true => simp only [e, cond_true] at h; have hT := Nat.eq_of_beq_eq_true e; subst hT; obtain ⟨rfl, rfl⟩ := out_inj h; exact ok_index_sl ho e1 e2 hc.1 hc.2
      | false => simp only [e, cond_false] at h; cases h
    · cases e : Nat.beq T WT with
      | true => simp only [e, cond_true] at h; have hT := Nat.eq_of_beq_eq_true e; subst hT; obtain ⟨rfl, rfl⟩ := out_inj h; exact ok_index_prow ho e1 e2 hc.1 hc.2
      | false => simp only [e, cond_false] at h; cases h
  · cases h
/-- Where a field lies. -/
def offT (T : TypeId) (j : Nat) : Nat := bif memN T [] then (bif Nat.beq j 0 then 0 else j + 6) else j
def evField (T : TypeId) (j : Nat) : Option AV → Ev
  | some (.rptr g r i) => bif Nat.beq T RT then out (.fld g r i j) (j < 3) [] else none
  | some (.rp q) => bif Nat.beq T RT then out (.cp (q.field j)) (j < 3) [] else none
  | some (.pp sg n d) => bif Nat.beq T RT then out (.cp (pfield sg n d j)) (j < 3) [] else none
  | some (.ptr g r i) => bif Nat.beq i 0 then out (.ptr g r (offT T j)) (fieldB Try.prog T j (offT T j) = true) [] else none
  | _ => none
theorem evField_ok {o : Oper} {s : St} {D : Dsc} {c : Prop} {T : TypeId} {j : Nat} {x : Operand} (ho : o.op = .fieldAddr T x j) (h : evField T j (avo s x) = some (D, c)) (hc : c) : LOK Try.prog o s D := by
  unfold evField at h
  split at h
  · rename_i e1
    cases e : Nat.beq T RT with
    | true => rw [e, cond_true] at h; have hT := Nat.eq_of_beq_eq_true e; subst hT; obtain ⟨rfl, rfl⟩ := out_inj h; exact ok_field_rptr ho e1 hc
    | false => rw [e] at h; cases h
  · rename_i e1
    cases e : Nat.beq T RT with
    | true => rw [e, cond_true] at h; have hT := Nat.eq_of_beq_eq_true e; subst hT; obtain ⟨rfl, rfl⟩ := out_inj h; exact ok_field_rp ho e1 hc
    | false => rw [e] at h; cases h
  · rename_i e1
    cases e : Nat.beq T RT with
    | true => rw [e, cond_true] at h; have hT := Nat.eq_of_beq_eq_true e; subst hT; obtain ⟨rfl, rfl⟩ := out_inj h; exact ok_field_pp ho e1 hc
    | false => rw [e] at h; cases h
  · rename_i g r i e1
    cases e : Nat.beq i 0 with
    | true => rw [e, cond_true] at h; have hT := Nat.eq_of_beq_eq_true e; subst hT; obtain ⟨rfl, rfl⟩ := out_inj h; exact ok_field_ptr ho hc e1
    | false => rw [e] at h; cases h
  · cases h
def evSlice (s : St) (T : TypeId) (lo hi mx : Option Operand) : Option AV → Ev
  | some (.row fr n f) => bif Nat.beq T WT then (match bnd s 0 lo, bnd s n hi, bnd s n mx with
    | some l, some h, some m => out (.row fr (h - l).toNat (fun i => f (l.toNat + i))) ((mx.isSome = true → hi.isSome = true) ∧ 0 ≤ l ∧ l ≤ h ∧ h ≤ m ∧ m ≤ n) []
    | _, _, _ => none) else none
  | some (.own g r) => bif Nat.beq T WT then (match s.heap g with
    | some (k, F) => (match F r with
      | .rats n _ => (match bnd s 0 lo, bnd s n hi, bnd s n mx with
        | some l, some h, some m => out (.sl g r l.toNat (h - l).toNat) (r < k ∧ (mx.isSome = true → hi.isSome = true) ∧ 0 ≤ l ∧ l ≤ h ∧ h ≤ m ∧ m ≤ n) [g]
        | _, _, _ => none)
      | _ => none)
    | none => none) else none
  | _ => none
theorem evSlice_ok {o : Oper} {s : St} {D : Dsc} {c : Prop} {T : TypeId} {lo hi mx : Option Operand} {x : Operand} (ho : o.op = .slice T x lo hi mx) (h : evSlice s T lo hi mx (avo s x) = some (D, c)) (hc : c) : LOK Try.prog o s D := by
  unfold evSlice at h
  split at h
  · rename_i e1
    cases e : Nat.beq T WT with
    | true =>
      rw [e] at h; have hT := Nat.eq_of_beq_eq_true e; subst hT
      simp only [cond_true] at h
      split at h
      · rename_i a1 a2 a3; obtain ⟨rfl, rfl⟩ := out_inj h; exact ok_slice_row ho e1 a1 a2 a3 hc.1 hc.2.1 hc.2.2.1 hc.2.2.2.1 hc.2.2.2.2
      · cases h
    | false => rw [e] at h; cases h
  · rename_i e1
    cases e : Nat.beq T WT with
    | true =>
      rw [e] at h; have hT := Nat.eq_of_beq_eq_true e; subst hT
      simp only [cond_true] at h
      split at h
      · rename_i e2
        split at h
        · rename_i e3
          split at h
          · rename_i a1 a2 a3; obtain ⟨rfl, rfl⟩ := out_inj h; exact ok_slice_own ho e1 e2 hc.1 e3 a1 a2 a3 hc.2.1 hc.2.2.1 hc.2.2.2.1 hc.2.2.2.2.1 hc.2.2.2.2.2
          · cases h
        · cases h
      · cases h
    | false => rw [e] at h; cases h
  · cases h
/-! ### Builtin functions -/
def evLen (s : St) (T : TypeId) : Option AV → Ev
  | some (.own g r) => match s.heap g with
    | some (n, F) => bif memN T sliceT then out (.v (.int .i64 ((F r).len : Int))) (r < n) [g] else none
    | none => none
  | some y => match lenOf y with
    | some n => bif memN T sliceT then out (.v (.int .i64 (n : Int))) True [] else none
    | none => none
  | none => none
theorem evLen_ok {o : Oper} {s : St} {D : Dsc} {c : Prop} {T : TypeId} {x : Operand} (ho : o.op = .call { callee := .builtin .len, args := #[x], argTypes := #[T] }) (h : evLen s T (avo s x) = some (D, c)) (hc : c) : LOK Try.prog o s D := by
  unfold evLen at h
  split at h
  · rename_i e1
    split at h
    · rename_i e2
      cases e : memN T sliceT with
      | true => rw [e, cond_true] at h; obtain ⟨rfl, rfl⟩ := out_inj h; exact ok_len_own ho e e1 e2 hc
      | false => rw [e] at h; cases h
    · cases h
  · rename_i e1
    split at h
    · rename_i e2
      cases e : memN T sliceT with
      | true => rw [e, cond_true] at h; obtain ⟨rfl, rfl⟩ := out_inj h; exact ok_len ho e e1 e2
      | false => rw [e] at h; cases h
    · cases h
  · cases h
def outA (s : St) (d : Option Tmp) (old : Option Nat) (rd : List Nat) (b : Blk) (c : Prop) : Ev :=
  bif s.used (fresh s d) then none else bif memN (fresh s d) rd then none else
  match old with
  | some q => bif Nat.beq (fresh s d) q then none else bif s.used q then force (fresh s d) (fun g => some (⟨some (.own g 0), [(q, none), (g, some (1, fun (_ : Nat) => b))], q :: rd⟩, c)) else none
  | none => force (fresh s d) (fun g => some (⟨some (.own g 0), [(g, some (1, fun (_ : Nat) => b))], rd⟩, c))
theorem memN_not {t : Nat} : ∀ {l : List Nat}, memN t l = false → t ∉ l
  | [], _ => by simp
  | x :: l, h => by
    unfold memN at h
    cases e : Nat.beq t x with
    | true => rw [e] at h; cases h
    | false =>
      rw [e] at h
      intro hm
      rcases List.mem_cons.1 hm with rfl | hm
      · rw [Nat.beq_refl] at e; cases e
      · exact memN_not h hm
theorem outA_inj {s : St} {d : Option Tmp} {old : Option Nat} {rd : List Nat} {b : Blk} {c c' : Prop} {D : Dsc} (h : outA s d old rd b c' = some (D, c)) :
    s.used (fresh s d) = false ∧ fresh s d ∉ rd ∧ (∀ q : Nat, old = some q → fresh s d ≠ q ∧ s.used q = true) ∧ D = ⟨some (.own (fresh s d) 0), gone old ++ [(fresh s d, some (1, fun (_ : Nat) => b))], old.toList ++ rd⟩ ∧ c = c' := by
  unfold outA at h
  cases e : s.used (fresh s d) with
  | true => rw [e] at h; cases h
  | false =>
    rw [e] at h
    simp only [cond_false] at h
    cases e2 : memN (fresh s d) rd with
    | true => rw [e2] at h; cases h
    | false =>
      rw [e2] at h
      simp only [cond_false] at h
      cases old with
      | none => rw [force_eq] at h; cases h; exact ⟨rfl, memN_not e2, fun q hq => (by cases hq), rfl, rfl⟩
      | some q =>
        dsimp only at h
        cases e3 : Nat.beq (fresh s d) q with
        | true => rw [e3] at h; cases h
        | false =>
          rw [e3] at h
          simp only [cond_false] at h
          cases e4 : s.used q with
          | false => rw [e4] at h; cases h
          | true =>
            rw [e4, cond_true, force_eq] at h
            cases h
            exact ⟨rfl, memN_not e2, fun q' hq => by cases hq; exact ⟨fun e => (by rw [e, Nat.beq_refl] at e3; cases e3), e4⟩, rfl, rfl⟩
def evAppend (s : St) (d : Option Tmp) (T : TypeId) : Option AV → Option AV → Ev
  | some X, some Y => bif Nat.beq T WT then (match dstRat s X, srcRat s Y with
      | some (n, f, old), some (m, f', rd) => outA s d old rd (.rats (n + m) (glue n f f')) (n + m ≤ 1000000000)
      | _, _ => none) else
    match elT T with
    | some (E, _) => (match dstOne s E X, srcOne s Y with
      | some (n, f, old), some (m, f', rd) => outA s d old rd (.ones E (n + m) (glue n f f')) (n + m ≤ 1000000000)
      | _, _ => none)
    | none => none
  | _, _ => none
theorem evAppend_ok {o : Oper} {s : St} {D : Dsc} {c : Prop} {T : TypeId} {x y : Operand} (ho : o.op = .call { callee := .builtin .append, args := #[x, y], argTypes := #[T, T] }) (h : evAppend s o.dst T (avo s x) (avo s y) = some (D, c)) (hc : c) : LOK Try.prog o s D := by
  unfold evAppend at h
  split at h
  · rename_i e1 e2
    cases e : Nat.beq T WT with
    | true =>
      rw [e] at h; have hT := Nat.eq_of_beq_eq_true e; subst hT
      simp only [cond_true] at h
      split at h
      · rename_i a1 a2
        obtain ⟨h1, h2, h3, rfl, rfl⟩ := outA_inj h
        exact ok_append_rat ho e1 e2 a1 a2 h1 h2 h3 hc
      · cases h
    | false =>
      rw [e] at h
      simp only [cond_false] at h
      split at h
      · rename_i e3
        obtain ⟨bytes, he⟩ := el_ok e3
        split at h
        · rename_i a1 a2
          obtain ⟨h1, h2, h3, rfl, rfl⟩ := outA_inj h
          exact ok_append_one ho he e1 e2 a1 a2 h1 h2 h3 hc
        · cases h
      · cases h
  · cases h
def evBuiltin (s : St) (d : Option Tmp) : Builtin → List Operand → List TypeId → Ev
  | .len, [x], [T] => evLen s T (avo s x)
  | .append, [x, y], [T, T'] => bif Nat.beq T T' then evAppend s d T (avo s x) (avo s y) else none
  | .min, [x, y], _ => match avo s x, avo s y with
    | some (.v (.int k a)), some (.v (.int _ b)) => out (.v (.int k (min a b))) True []
    | _, _ => none
  | .max, [x, y], _ => match avo s x, avo s y with
    | some (.v (.int k a)), some (.v (.int _ b)) => out (.v (.int k (max a b))) True []
    | _, _ => none
  | _, _, _ => none
theorem evBuiltin_ok {o : Oper} {s : St} {D : Dsc} {c : Prop} {b : Builtin} {xs : Array Operand} {Ts : Array TypeId} (ho : o.op = .call { callee := .builtin b, args := xs, argTypes := Ts }) (h : evBuiltin s o.dst b xs.toList Ts.toList = some (D, c)) (hc : c) : LOK Try.prog o s D := by
  obtain ⟨xs⟩ := xs
  obtain ⟨Ts⟩ := Ts
  unfold evBuiltin at h
  split at h
  · rename_i e1 e2
    simp only [] at e1 e2
    subst e1; subst e2
    exact evLen_ok ho h hc
  · rename_i x y T T' e1 e2
    simp only [] at e1 e2
    subst e1; subst e2
    cases e : Nat.beq T T' with
    | true => rw [e, cond_true] at h; have hT := Nat.eq_of_beq_eq_true e; subst hT; exact evAppend_ok ho h hc
    | false => rw [e] at h; cases h
  · rename_i e1
    simp only [] at e1
    subst e1
    split at h
    · rename_i a1 a2; obtain ⟨rfl, rfl⟩ := out_inj h; exact ok_min ho a1 a2
    · cases h
  · rename_i e1
    simp only [] at e1
    subst e1
    split at h
    · rename_i a1 a2; obtain ⟨rfl, rfl⟩ := out_inj h; exact ok_max ho a1 a2
    · cases h
  · cases h
/-! ### All of them -/
def evNil : Option AV → Ev
  | some y => bif isPtr y then out y True [] else none
  | none => none
def evPick (s : St) (c x y : Operand) : Ev :=
  match avo s c with
  | some (.v (.bool b)) => match avo s (bif b then x else y) with
    | some z => out z True []
    | none => none
  | _ => none
def ev (o : Oper) (s : St) : Ev :=
  match o.op with
  | .move x | .assign x => match avo s x with | some y => out y True [] | none => none
  | .pick c x y => evPick s c x y
  | .unOp .not _ x => match avo s x with | some (.v (.bool b)) => out (.v (.bool (!b))) True [] | _ => none
  | .unOp .neg _ x => match avo s x with | some (.v (.int k n)) => out (.v (.int k (0 - n))) (Fits k (0 - n)) [] | _ => none
  | .binOp op T x y _ => evBin op T (avo s x) (avo s y)
  | .convert T T' x => evConv T T' (avo s x)
  | .extract x i => evExtract i (avo s x)
  | .nilCheck x => evNil (avo s x)
  | .load T x => evLoad s T (avo s x)
  | .store T x y => match o.dst with | none => evStore s T (avo s x) (avo s y) | some _ => none
  | .alloc T => evAlloc s o.dst T
  | .box T x => evBox s o.dst T (avo s x)
  | .makeSlice T x y => evMake s o.dst T (avo s x) (avo s y)
  | .buildSlice T n parts => evBuildS s o.dst T n parts.toList
  | .indexAddr T x y => evIndex s T (avo s x) (avo s y)
  | .fieldAddr T x j => evField T j (avo s x)
  | .slice T x lo hi mx => evSlice s T lo hi mx (avo s x)
  | .call cl => match cl.callee with
    | .builtin b => evBuiltin s o.dst b cl.args.toList cl.argTypes.toList
    | _ => none
  | .makeFunc (.func f) first cap => match first.toList, avl s cap.toList with
    | [], some l => out (.clo f l.length (fun i => l.getD i (.v undef))) True []
    | [x], some [] => (match avo s x with | some y => out (.bnd f y) True [] | none => none)
    | _, _ => none
  | _ => none
theorem ev_ok {o : Oper} {s : St} {D : Dsc} {c : Prop} (h : ev o s = some (D, c)) (hc : c) : LOK Try.prog o s D := by
  unfold ev at h
  split at h
  · rename_i ho; split at h
    · rename_i e; obtain ⟨rfl, rfl⟩ := out_inj h; exact ok_move (.inl ho) e
    · cases h
  · rename_i ho; split at h
    · rename_i e; obtain ⟨rfl, rfl⟩ := out_inj h; exact ok_move (.inr ho) e
    · cases h
  · rename_i ho
    unfold evPick at h
    split at h
    · rename_i e1; split at h
      · rename_i e2; obtain ⟨rfl, rfl⟩ := out_inj h; exact ok_pick ho e1 e2
      · cases h
    · cases h
  · rename_i ho; split at h
    · rename_i e; obtain ⟨rfl, rfl⟩ := out_inj h; exact ok_not ho e
    · cases h
  · rename_i ho; split at h
    · rename_i e; obtain ⟨rfl, rfl⟩ := out_inj h; exact ok_neg ho e hc
    · cases h
  · rename_i ho; exact evBin_ok ho h hc
  · rename_i ho; exact evConv_ok ho h hc
  · rename_i ho; exact evExtract_ok ho h hc
  · rename_i ho
    unfold evNil at h
    split at h
    · rename_i y e
      cases e2 : isPtr y with
      | true => rw [e2] at h; obtain ⟨rfl, rfl⟩ := out_inj h; exact ok_nilcheck ho e e2
      | false => rw [e2] at h; cases h
    · cases h
  · rename_i ho; exact evLoad_ok ho h hc
  · rename_i ho
    split at h
    · rename_i hd; exact evStore_ok hd ho h hc
    · cases h
  · rename_i ho; exact evAlloc_ok ho h hc
  · rename_i ho; exact evBox_ok ho h hc
  · rename_i ho; exact evMake_ok ho h hc
  · rename_i ho; exact evBuildS_ok ho h hc
  · rename_i ho; exact evIndex_ok ho h hc
  · rename_i ho; exact evField_ok ho h hc
  · rename_i ho; exact evSlice_ok ho h hc
  · rename_i cl ho
    split at h
    · rename_i b hb
      obtain ⟨cal, args, Ts⟩ := cl
      simp only [] at hb h
      subst hb
      exact evBuiltin_ok ho h hc
    · cases h
  · rename_i f first cap ho
    split at h
    · rename_i l e1 e2
      obtain ⟨rfl, rfl⟩ := out_inj h
      have hf : first = #[] := by
        obtain ⟨first⟩ := first
        simp only [] at e1
        rw [e1]
      subst hf
      obtain ⟨e3, e4⟩ := avl_get e2
      have hl : l.length = cap.size := by rw [e3, Array.length_toList]
      rw [hl]
      refine ok_makefunc ho _ fun i hi => ?_
      obtain ⟨x, e5, e6⟩ := e4 i _ (List.getElem?_eq_getElem (by rw [hl]; exact hi))
      rw [Array.getElem?_toList, Array.getElem?_eq_getElem hi] at e5
      cases e5
      rw [e6, List.getD_eq_getElem?_getD, List.getElem?_eq_getElem (by rw [hl]; exact hi)]
      rfl
    · rename_i y e1 e2
      split at h
      · rename_i z e3
        obtain ⟨rfl, rfl⟩ := out_inj h
        obtain ⟨first⟩ := first
        simp only [] at e1
        subst e1
        obtain ⟨e4, _⟩ := avl_get e2
        have hcap : cap = #[] := Array.eq_empty_of_size_eq_zero (by rw [← Array.length_toList]; exact e4.symm)
        subst hcap
        exact ok_makebnd ho e3
      · cases h
    · cases h
  · cases h
/-! ### Steps of a walk -/
/-- The state behind an operation. -/
def nxt (s : St) (d : Option Tmp) (r : Option AV) (upd : List (Nat × Option Fam)) : St :=
  match d with
  | some t => setE (turn s upd) (put s.env t r)
  | none => turn s upd
section
variable {ops : Array Oper} {l : List Oper} {s : St} {acc : List Fp} {K : St → List Fp → Prop} {c : Prop} {d : Option Tmp} {r : Option AV} {upd : List (Nat × Option Fam)} {rd : List Nat} {op : Op} {ty : TypeId} {ps : String} {aft : Array Edge}
theorem st_ev (h : ev ⟨d, op, ty, ps, aft, none⟩ s = some (⟨r, upd, rd⟩, c)) (hc : c) (k : AOps Try.prog ops l (nxt s d r upd) ((rd, upd.map (·.1)) :: acc) K) : AOps Try.prog ops (⟨d, op, ty, ps, aft, none⟩ :: l) s acc K := .cons _ (.inl ⟨.none rfl, ev_ok h hc⟩) k
theorem st_evg {j : Nat} {want b : Bool} {t : Tmp} (ht : (ops[j]?).bind (·.dst) = some t) (he : s.env t = some (.v (.bool b))) (hb : (b == want) = true) (h : ev ⟨d, op, ty, ps, aft, some (j, want)⟩ s = some (⟨r, upd, rd⟩, c)) (hc : c) (k : AOps Try.prog ops l (nxt s d r upd) ((rd, upd.map (·.1)) :: acc) K) : AOps Try.prog ops (⟨d, op, ty, ps, aft, some (j, want)⟩ :: l) s acc K :=
  .cons _ (.inl ⟨hb ▸ .some j want t b rfl ht he, ev_ok h hc⟩) k
theorem st_skip {j : Nat} {want b : Bool} {t : Tmp} (ht : (ops[j]?).bind (·.dst) = some t) (he : s.env t = some (.v (.bool b))) (hb : (b == want) = false) (k : AOps Try.prog ops l (nxt s d (some (.v undef)) []) (([], []) :: acc) K) : AOps Try.prog ops (⟨d, op, ty, ps, aft, some (j, want)⟩ :: l) s acc K :=
  .cons skipD (.inr ⟨hb ▸ .some j want t b rfl ht he, rfl⟩) k
theorem st_skipu {j : Nat} {want : Bool} {t : Tmp} (ht : (ops[j]?).bind (·.dst) = some t) (he : s.env t = some (.v undef)) (k : AOps Try.prog ops l (nxt s d (some (.v undef)) []) (([], []) :: acc) K) : AOps Try.prog ops (⟨d, op, ty, ps, aft, some (j, want)⟩ :: l) s acc K :=
  .cons skipD (.inr ⟨.un j want t rfl ht he, rfl⟩) k
theorem st_call {fo : Operand} {args : Array Operand} {Ts : Array TypeId} {F v : AV} {f : FuncId} {pre caps xs : List AV} (hF : avo s fo = some F) (hc : callee F = some (f, pre, caps)) (ha : avl s args.toList = some xs) (h : Has Try.prog f ((pre ++ xs ++ caps).map AV.old) v)
    (k : AOps Try.prog ops l (nxt s d (some v) []) (([], []) :: acc) K) : AOps Try.prog ops (⟨d, .call ⟨.value fo, args, Ts⟩, ty, ps, aft, none⟩ :: l) s acc K := .cons _ (.inl ⟨.none rfl, ok_call rfl hF hc ha h⟩) k
theorem st_callg {j : Nat} {want b : Bool} {t : Tmp} {fo : Operand} {args : Array Operand} {Ts : Array TypeId} {F v : AV} {f : FuncId} {pre caps xs : List AV} (ht : (ops[j]?).bind (·.dst) = some t) (he : s.env t = some (.v (.bool b))) (hb : (b == want) = true) (hF : avo s fo = some F) (hc : callee F = some (f, pre, caps)) (ha : avl s args.toList = some xs) (h : Has Try.prog f ((pre ++ xs ++ caps).map AV.old) v)
    (k : AOps Try.prog ops l (nxt s d (some v) []) (([], []) :: acc) K) : AOps Try.prog ops (⟨d, .call ⟨.value fo, args, Ts⟩, ty, ps, aft, some (j, want)⟩ :: l) s acc K := .cons _ (.inl ⟨hb ▸ .some j want t b rfl ht he, ok_call rfl hF hc ha h⟩) k
theorem st_lok (h : LOK Try.prog ⟨d, op, ty, ps, aft, none⟩ s ⟨r, upd, rd⟩) (k : AOps Try.prog ops l (nxt s d r upd) ((rd, upd.map (·.1)) :: acc) K) : AOps Try.prog ops (⟨d, op, ty, ps, aft, none⟩ :: l) s acc K := .cons _ (.inl ⟨.none rfl, h⟩) k
theorem st_end {dr : Bool} {Q : Exit → St → Prop} (hc : dr = false ∨ noConf ops acc = true) (h : Q .normal s) : AOps Try.prog ops [] s acc (fun s' acc => (dr = false ∨ noConf ops acc = true) ∧ Q .normal s') := .nil ⟨hc, h⟩
end
theorem mixed : Try.prog.follows .mixedOrders = true := by kernel_rfl
theorem reg {N id : Nat} {l : List Oper} {dr : Bool} {Q : Exit → St → Prop} {s : St} (hN : dstsOK l.toArray N = true) (h : AOps Try.prog l.toArray l s [] (fun s' acc => (dr = false ∨ noConf l.toArray acc = true) ∧ Q .normal s')) : AWP Try.prog N (.region id l.toArray dr) Q s := awp_region mixed hN h
section
variable {P : Program} {N : Nat} {y : Code} {Q : Exit → St → Prop} {s : St} {i j m : Nat} {I : Nat → St → Prop}
theorem q_then (h : AWP P N y Q s) : thenQ P N y Q .normal s := h
theorem q_then_exit (h : Q (.exit i) s) : thenQ P N y Q (.exit i) s := h
theorem q_then_ret (h : Q .ret s) : thenQ P N y Q .ret s := h
theorem q_block (h : Q .normal s) : blockQ i Q .normal s := h
theorem q_block_exit (h : Q .normal s) : blockQ i Q (.exit i) s := by show bif Nat.beq i i then _ else _; rw [Nat.beq_refl]; exact h
theorem q_block_other (hb : Nat.beq j i = false) (h : Q (.exit j) s) : blockQ i Q (.exit j) s := by show bif Nat.beq j i then _ else _; rw [hb]; exact h
theorem q_block_ret (h : Q .ret s) : blockQ i Q .ret s := h
theorem q_loop_exit (h : Q (.exit i) s) : loopQ I m Q (.exit i) s := h
theorem q_loop_ret (h : Q .ret s) : loopQ I m Q .ret s := h
theorem q_loop {m' : Nat} {s' : St} (hm : m' < m) (hi : Imp s s') (h : I m' s') : loopQ I m Q .normal s := ⟨m', s', hi, h, hm⟩
end
structure Held (R : Prop) : Prop where
  out : R
theorem run0 {G R : Prop} (k : R) (f : Held R → G := by intro hR; (repeat(first|(with_reducible first|refine awp_seq ?_|refine awp_block ?_|refine awp_skip ?_|refine awp_exit ?_|refine awp_ret ?_|refine q_then ?_|refine q_block ?_|refine q_then_exit ?_|refine q_then_ret ?_|refine q_block_exit ?_|refine q_block_ret ?_|refine q_loop_exit ?_|refine q_loop_ret ?_)|((with_reducible refine q_block_other ?_ ?_);exact rfl)|((with_reducible refine reg ?_ ?_);exact rfl)|((with_reducible refine st_end ?_ ?_);first|exact .inl rfl|exact .inr rfl)|(with_reducible apply st_build0)|((with_reducible apply st_ev);exact rfl;(first|exact True.intro|((repeat' apply And.intro)<;>first|exact True.intro|with_reducible rfl|(simp only[Fits];omega)|omega|assumption|decide|(simp;done)|exact rfl)))|((with_reducible apply st_evg);exact rfl;exact rfl;(first|exact rfl|assumption);exact rfl;(first|exact True.intro|((repeat' apply And.intro)<;>first|exact True.intro|with_reducible rfl|(simp only[Fits];omega)|omega|assumption|decide|(simp;done)|exact rfl)))|((with_reducible apply st_skip);exact rfl;exact rfl;(first|exact rfl|assumption))|((with_reducible apply st_app0);exact rfl;exact rfl;exact rfl;omega)|((with_reducible apply st_skipu);exact rfl;exact rfl)|((with_reducible apply st_pickt);exact rfl;assumption;exact rfl)|((with_reducible apply st_pickf);exact rfl;assumption;exact rfl)|((with_reducible apply st_pickgt);exact rfl;exact rfl;(first|exact rfl|assumption);exact rfl;(first|exact rfl|assumption);exact rfl)|((with_reducible apply st_pickgf);exact rfl;exact rfl;(first|exact rfl|assumption);exact rfl;(first|exact rfl|assumption);exact rfl)|((with_reducible apply st_build);exact rfl;first|exact rfl|(first|exact True.intro|((repeat' apply And.intro)<;>first|exact True.intro|with_reducible rfl|(simp only[Fits];omega)|omega|assumption|decide|(simp;done)|exact rfl))))); exact hR.out) : G := f ⟨k⟩
theorem run1 {G R : Prop} (k : R) (f : Held R → G := by intro hR; (first|(with_reducible first|refine awp_seq ?_|refine awp_block ?_|refine awp_skip ?_|refine awp_exit ?_|refine awp_ret ?_|refine q_then ?_|refine q_block ?_|refine q_then_exit ?_|refine q_then_ret ?_|refine q_block_exit ?_|refine q_block_ret ?_|refine q_loop_exit ?_|refine q_loop_ret ?_)|((with_reducible refine q_block_other ?_ ?_);exact rfl)|((with_reducible refine reg ?_ ?_);exact rfl)|((with_reducible refine st_end ?_ ?_);first|exact .inl rfl|exact .inr rfl)|(with_reducible apply st_build0)|((with_reducible apply st_ev);exact rfl;(first|exact True.intro|((repeat' apply And.intro)<;>first|exact True.intro|with_reducible rfl|(simp only[Fits];omega)|omega|assumption|decide|(simp;done)|exact rfl)))|((with_reducible apply st_evg);exact rfl;exact rfl;(first|exact rfl|assumption);exact rfl;(first|exact True.intro|((repeat' apply And.intro)<;>first|exact True.intro|with_reducible rfl|(simp only[Fits];omega)|omega|assumption|decide|(simp;done)|exact rfl)))|((with_reducible apply st_skip);exact rfl;exact rfl;(first|exact rfl|assumption))|((with_reducible apply st_app0);exact rfl;exact rfl;exact rfl;omega)|((with_reducible apply st_skipu);exact rfl;exact rfl)|((with_reducible apply st_pickt);exact rfl;assumption;exact rfl)|((with_reducible apply st_pickf);exact rfl;assumption;exact rfl)|((with_reducible apply st_pickgt);exact rfl;exact rfl;(first|exact rfl|assumption);exact rfl;(first|exact rfl|assumption);exact rfl)|((with_reducible apply st_pickgf);exact rfl;exact rfl;(first|exact rfl|assumption);exact rfl;(first|exact rfl|assumption);exact rfl)|((with_reducible apply st_build);exact rfl;first|exact rfl|(first|exact True.intro|((repeat' apply And.intro)<;>first|exact True.intro|with_reducible rfl|(simp only[Fits];omega)|omega|assumption|decide|(simp;done)|exact rfl))));(repeat(first|(with_reducible first|refine awp_seq ?_|refine awp_block ?_|refine awp_skip ?_|refine awp_exit ?_|refine awp_ret ?_|refine q_then ?_|refine q_block ?_|refine q_then_exit ?_|refine q_then_ret ?_|refine q_block_exit ?_|refine q_block_ret ?_|refine q_loop_exit ?_|refine q_loop_ret ?_)|((with_reducible refine q_block_other ?_ ?_);exact rfl)|((with_reducible refine reg ?_ ?_);exact rfl)|((with_reducible refine st_end ?_ ?_);first|exact .inl rfl|exact .inr rfl)|(with_reducible apply st_build0)|((with_reducible apply st_ev);exact rfl;(first|exact True.intro|((repeat' apply And.intro)<;>first|exact True.intro|with_reducible rfl|(simp only[Fits];omega)|omega|assumption|decide|(simp;done)|exact rfl)))|((with_reducible apply st_evg);exact rfl;exact rfl;(first|exact rfl|assumption);exact rfl;(first|exact True.intro|((repeat' apply And.intro)<;>first|exact True.intro|with_reducible rfl|(simp only[Fits];omega)|omega|assumption|decide|(simp;done)|exact rfl)))|((with_reducible apply st_skip);exact rfl;exact rfl;(first|exact rfl|assumption))|((with_reducible apply st_app0);exact rfl;exact rfl;exact rfl;omega)|((with_reducible apply st_skipu);exact rfl;exact rfl)|((with_reducible apply st_pickt);exact rfl;assumption;exact rfl)|((with_reducible apply st_pickf);exact rfl;assumption;exact rfl)|((with_reducible apply st_pickgt);exact rfl;exact rfl;(first|exact rfl|assumption);exact rfl;(first|exact rfl|assumption);exact rfl)|((with_reducible apply st_pickgf);exact rfl;exact rfl;(first|exact rfl|assumption);exact rfl;(first|exact rfl|assumption);exact rfl)|((with_reducible apply st_build);exact rfl;first|exact rfl|(first|exact True.intro|((repeat' apply And.intro)<;>first|exact True.intro|with_reducible rfl|(simp only[Fits];omega)|omega|assumption|decide|(simp;done)|exact rfl))))); exact hR.out) : G := f ⟨k⟩
theorem run2 {G R : Prop} (k : R) (f : Held R → G := by intro hR; (repeat(first|(with_reducible first|refine awp_seq ?_|refine awp_block ?_|refine awp_skip ?_|refine awp_exit ?_|refine awp_ret ?_|refine q_then ?_|refine q_block ?_|refine q_then_exit ?_|refine q_then_ret ?_|refine q_block_exit ?_|refine q_block_ret ?_|refine q_loop_exit ?_|refine q_loop_ret ?_)|((with_reducible refine q_block_other ?_ ?_);exact rfl)));(with_reducible refine reg ?_ ?_);(exact rfl);(repeat(first|(with_reducible first|refine awp_seq ?_|refine awp_block ?_|refine awp_skip ?_|refine awp_exit ?_|refine awp_ret ?_|refine q_then ?_|refine q_block ?_|refine q_then_exit ?_|refine q_then_ret ?_|refine q_block_exit ?_|refine q_block_ret ?_|refine q_loop_exit ?_|refine q_loop_ret ?_)|((with_reducible refine q_block_other ?_ ?_);exact rfl)|((with_reducible refine st_end ?_ ?_);first|exact .inl rfl|exact .inr rfl)|(with_reducible apply st_build0)|((with_reducible apply st_ev);exact rfl;(first|exact True.intro|((repeat' apply And.intro)<;>first|exact True.intro|with_reducible rfl|(simp only[Fits];omega)|omega|assumption|decide|(simp;done)|exact rfl)))|((with_reducible apply st_evg);exact rfl;exact rfl;(first|exact rfl|assumption);exact rfl;(first|exact True.intro|((repeat' apply And.intro)<;>first|exact True.intro|with_reducible rfl|(simp only[Fits];omega)|omega|assumption|decide|(simp;done)|exact rfl)))|((with_reducible apply st_skip);exact rfl;exact rfl;(first|exact rfl|assumption))|((with_reducible apply st_app0);exact rfl;exact rfl;exact rfl;omega)|((with_reducible apply st_skipu);exact rfl;exact rfl)|((with_reducible apply st_pickt);exact rfl;assumption;exact rfl)|((with_reducible apply st_pickf);exact rfl;assumption;exact rfl)|((with_reducible apply st_pickgt);exact rfl;exact rfl;(first|exact rfl|assumption);exact rfl;(first|exact rfl|assumption);exact rfl)|((with_reducible apply st_pickgf);exact rfl;exact rfl;(first|exact rfl|assumption);exact rfl;(first|exact rfl|assumption);exact rfl)|((with_reducible apply st_build);exact rfl;first|exact rfl|(first|exact True.intro|((repeat' apply And.intro)<;>first|exact True.intro|with_reducible rfl|(simp only[Fits];omega)|omega|assumption|decide|(simp;done)|exact rfl))))); exact hR.out) : G := f ⟨k⟩
theorem run3 {G R : Prop} (k : R) (f : Held R → G := by intro hR; (repeat(first|(with_reducible first|refine awp_seq ?_|refine awp_block ?_|refine awp_skip ?_|refine awp_exit ?_|refine awp_ret ?_|refine q_then ?_|refine q_block ?_|refine q_then_exit ?_|refine q_then_ret ?_|refine q_block_exit ?_|refine q_block_ret ?_|refine q_loop_exit ?_|refine q_loop_ret ?_)|((with_reducible refine q_block_other ?_ ?_);exact rfl)));(with_reducible refine reg ?_ ?_);(exact rfl); exact hR.out) : G := f ⟨k⟩
end Go.Proofs.Ytpclkgjhfhhddaa.AM

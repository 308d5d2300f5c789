/- Joined texts, 9: AmL. -/
import Derived.Test.YtpclkgjhfhhddaaGreatJLawFastBig8
set_option linter.unusedVariables false
set_option linter.unusedSimpArgs false
/- What an operation does, reckoned. -/
namespace Go.Proofs.YtpclkgjhfhhddaaGreat.AM
open Go Go.RowKit Go.Proofs.YtpclkgjhfhhddaaGreat.PN Go.Proofs.YtpclkgjhfhhddaaGreat.V
set_option linter.unusedVariables false
set_option linter.unusedSimpArgs false
abbrev Ev := Option (Dsc × Prop)
def out (r : AV) (c : Prop) (rd : List Nat) : Ev := some (⟨some r, [], rd⟩, c)
def evInt (op : BinOp) (k k' : IntKind) (a b : Int) : Ev :=
  match op with
  | .add => out (.v (.int k (a + b))) (k = k' ∧ Fits k (a + b)) []
  | .sub => out (.v (.int k (a - b))) (k = k' ∧ Fits k (a - b)) []
  | .mul => out (.v (.int k (a * b))) (k = k' ∧ Fits k (a * b)) []
  | .quo => out (.v (.int k (a.tdiv b))) (k = k' ∧ b ≠ 0 ∧ Fits k (a.tdiv b)) []
  | .rem => out (.v (.int k (a.tmod b))) (k = k' ∧ b ≠ 0) []
  | .eql => out (.v (.bool (decide (a = b)))) (k = k') []
  | .neq => out (.v (.bool (decide (a ≠ b)))) (k = k') []
  | .lss => out (.v (.bool (decide (a < b)))) (k = k') []
  | .leq => out (.v (.bool (decide (a ≤ b)))) (k = k') []
  | .gtr => out (.v (.bool (decide (b < a)))) (k = k') []
  | .geq => out (.v (.bool (decide (b ≤ a)))) (k = k') []
  | _ => none
section
variable {o : Oper} {s : St} {D : Dsc} {c : Prop}
theorem out_inj {r : AV} {c' : Prop} {rd : List Nat} (h : out r c' rd = some (D, c)) : D = ⟨some r, [], rd⟩ ∧ c = c' := by cases h; exact ⟨rfl, rfl⟩
theorem evInt_ok {op : BinOp} {T T' : TypeId} {x y : Operand} {k k' : IntKind} {a b : Int} (ho : o.op = .binOp op T x y T') (hx : avo s x = some (.v (.int k a))) (hy : avo s y = some (.v (.int k' b))) (h : evInt op k k' a b = some (D, c)) (hc : c) : LOK Tryz.prog o s D := by
  unfold evInt at h
  cases op <;> first
    | (cases h; done)
    | (obtain ⟨rfl, rfl⟩ := out_inj h; first
        | exact ok_arith ho hx hy hc.1 rfl hc.2
        | exact ok_quo ho hx hy hc.1 hc.2.1 hc.2.2
        | exact ok_rem ho hx hy hc.1 hc.2
        | exact ok_cmp ho hx hy hc rfl)
end
def evBin (op : BinOp) (T : TypeId) : Option AV → Option AV → Ev
  | some (.v (.int k a)), some (.v (.int k' b)) => evInt op k k' a b
  | some (.v (.bool a)), some (.v (.bool b)) => bif memN T [4] then (match cmpBB op a b with | some r => out (.v (.bool r)) True [] | none => none) else none
  | _, _ => none
theorem evBin_ok {o : Oper} {s : St} {D : Dsc} {c : Prop} {op : BinOp} {T T' : TypeId} {x y : Operand} (ho : o.op = .binOp op T x y T') (h : evBin op T (avo s x) (avo s y) = some (D, c)) (hc : c) : LOK Tryz.prog o s D := by
  unfold evBin at h
  split at h
  · rename_i e1 e2; exact evInt_ok ho e1 e2 h hc
  · rename_i e1 e2
    cases hT : memN T [4] with
    | false => rw [hT] at h; cases h
    | true =>
      rw [hT] at h
      simp only [cond_true] at h
      split at h
      · rename_i e3; obtain ⟨rfl, rfl⟩ := out_inj h; exact ok_cmpb ho hT e1 e2 e3
      · cases h
  · cases h
theorem kind_i64 : ([3, 2]).all (fun T => isKind .i64 (Tryz.prog.underlying T)) = true := by kernel_rfl
theorem kind_u64 : ([77, 79]).all (fun T => isKind .u64 (Tryz.prog.underlying T)) = true := by kernel_rfl
theorem kind_u32 : ([51]).all (fun T => isKind .u32 (Tryz.prog.underlying T)) = true := by kernel_rfl
theorem kind_u8 : ([5]).all (fun T => isKind .u8 (Tryz.prog.underlying T)) = true := by kernel_rfl
theorem kind_i32 : ([21]).all (fun T => isKind .i32 (Tryz.prog.underlying T)) = true := by kernel_rfl
theorem kind_err : ([35]).all (fun T => isKind .i64 (Tryz.prog.underlying T)) = true := by kernel_rfl
theorem isKind_eq {k : IntKind} {d : Option TypeDesc} (h : isKind k d = true) : d = some (.int k) := by
  cases d with
  | none => cases h
  | some d =>
    cases d <;> first | (cases h; done) | skip
    have h := eq_of_beq h
    rw [h]
theorem kind_ok {T : TypeId} {k : IntKind} (h : kindOf T = some k) : Tryz.prog.underlying T = some (.int k) := by
  unfold kindOf at h
  cases e1 : memN T [3, 2] with
  | true => rw [e1] at h; cases h; exact isKind_eq (List.all_eq_true.1 kind_i64 T (memN_spec e1))
  | false =>
    rw [e1] at h
    cases e2 : memN T [77, 79] with
    | true => rw [e2] at h; cases h; exact isKind_eq (List.all_eq_true.1 kind_u64 T (memN_spec e2))
    | false =>
      rw [e2] at h
      cases e3 : memN T [51] with
      | true => rw [e3] at h; cases h; exact isKind_eq (List.all_eq_true.1 kind_u32 T (memN_spec e3))
      | false =>
        rw [e3] at h
        cases e4 : memN T [5] with
        | true => rw [e4] at h; cases h; exact isKind_eq (List.all_eq_true.1 kind_u8 T (memN_spec e4))
        | false =>
          rw [e4] at h
          cases e5 : memN T [35] with
          | true => rw [e5] at h; cases h; exact isKind_eq (List.all_eq_true.1 kind_err T (memN_spec e5))
          | false =>
            rw [e5] at h
            cases e6 : memN T [21] with
            | true => rw [e6] at h; cases h; exact isKind_eq (List.all_eq_true.1 kind_i32 T (memN_spec e6))
            | false => rw [e6] at h; cases h
def evConv (T T' : TypeId) : Option AV → Ev
  | some (.v (.int _ n)) => match kindOf T, kindOf T' with
    | some _, some k' => out (.v (.int k' n)) (Fits k' n) []
    | _, _ => none
  | _ => none
theorem evConv_ok {o : Oper} {s : St} {D : Dsc} {c : Prop} {T T' : TypeId} {x : Operand} (ho : o.op = .convert T T' x) (h : evConv T T' (avo s x) = some (D, c)) (hc : c) : LOK Tryz.prog o s D := by
  unfold evConv at h
  split at h
  · rename_i e1
    split at h
    · rename_i e2 e3
      obtain ⟨rfl, rfl⟩ := out_inj h
      exact ok_convert ho e1 (by rw [kind_ok e2]; rfl) (kind_ok e3) hc
    · cases h
  · cases h
def evExtract (i : Nat) : Option AV → Ev
  | some (.tup y z) => out (sel2 i y z) (i < 2) []
  | some (.tup3 y z u) => out (sel3 i y z u) (i < 3) []
  | _ => none
theorem evExtract_ok {o : Oper} {s : St} {D : Dsc} {c : Prop} {i : Nat} {x : Operand} (ho : o.op = .extract x i) (h : evExtract i (avo s x) = some (D, c)) (hc : c) : LOK Tryz.prog o s D := by
  unfold evExtract at h
  split at h
  · rename_i e1; obtain ⟨rfl, rfl⟩ := out_inj h; exact ok_extract2 ho e1 hc
  · rename_i e1; obtain ⟨rfl, rfl⟩ := out_inj h; exact ok_extract3 ho e1 hc
  · cases h
/-! ### Loads, stores -/
def evLoad (s : St) (T : TypeId) : Option AV → Ev
  | some (.rp r) => bif Nat.beq T RT then out (.ra r) True [] else none
  | some (.cp y) => bif memN T flatT then out y True [] else none
  | some (.pp sg n d) => bif Nat.beq T RT then out (.ag 3 (pag sg n d)) True [] else none
  | some (.rptr g r i) => match s.heap g with
    | some (n, F) => match F r with
      | .rats m f => bif Nat.beq T RT then out (.ra (f i)) (r < n ∧ i < m) [g] else none
      | _ => none
    | none => none
  | some (.ptr g r i) => match s.heap g with
    | some (n, F) => match F r with
      | .ones _ m f => bif memN T flatT then out (f i) (r < n ∧ i < m) [g] else
        bif Nat.beq T RT then (match f i with | .rs q => out (.ra q) (r < n ∧ i + 2 < m ∧ f (i + 1) = .rn q ∧ f (i + 2) = .rd q) [g] | _ => bif Nat.beq i 0 then out (.ag m f) (r < n ∧ isAggD (Tryz.prog.underlying T) = true ∧ szB Tryz.prog T m = true) [g] else none) else
        bif Nat.beq i 0 then out (.ag m f) (r < n ∧ isAggD (Tryz.prog.underlying T) = true ∧ szB Tryz.prog T m = true) [g] else none
      | _ => none
    | none => none
  | some (.fld g r i j) => match s.heap g with
    | some (n, F) => match F r with
      | .rats m f => bif memN T flatT then out ((f i).field j) (r < n ∧ i < m ∧ j < 3) [g] else none
      | _ => none
    | none => none
  | _ => none
theorem evLoad_ok {o : Oper} {s : St} {D : Dsc} {c : Prop} {T : TypeId} {x : Operand} (ho : o.op = .load T x) (h : evLoad s T (avo s x) = some (D, c)) (hc : c) : LOK Tryz.prog o s D := by
  unfold evLoad at h
  split at h
  · rename_i e1
    cases hT : Nat.beq T RT with
    | false => rw [hT] at h; cases h
    | true => rw [hT] at h; obtain ⟨rfl, rfl⟩ := out_inj h; have hT := Nat.eq_of_beq_eq_true hT; subst hT; exact ok_load_rp ho e1
  · rename_i e1
    cases hT : memN T flatT with
    | false => rw [hT] at h; cases h
    | true => rw [hT] at h; obtain ⟨rfl, rfl⟩ := out_inj h; exact ok_load_cp ho hT e1
  · rename_i e1
    cases hT : Nat.beq T RT with
    | false => rw [hT] at h; cases h
    | true => rw [hT] at h; obtain ⟨rfl, rfl⟩ := out_inj h; have hT := Nat.eq_of_beq_eq_true hT; subst hT; exact ok_load_pp ho e1
  · rename_i e1
    split at h
    · rename_i e2
      split at h
      · rename_i e3
        cases hT : Nat.beq T RT with
        | false => rw [hT] at h; cases h
        | true => rw [hT] at h; obtain ⟨rfl, rfl⟩ := out_inj h; have hT := Nat.eq_of_beq_eq_true hT; subst hT; exact ok_load_rptr ho e1 e2 hc.1 e3 hc.2
      · cases h
    · cases h
  · rename_i g r i e1
    split at h
    · rename_i e2
      split at h
      · rename_i e3
        cases hT : memN T flatT with
        | true => rw [hT] at h; obtain ⟨rfl, rfl⟩ := out_inj h; exact ok_load_ptr ho hT e1 e2 hc.1 e3 hc.2
        | false =>
          rw [hT] at h
          simp only [cond_false] at h
          cases hT2 : Nat.beq T RT with
          | true =>
            rw [hT2] at h
            simp only [cond_true] at h
            split at h
            · rename_i e4
              obtain ⟨rfl, rfl⟩ := out_inj h
              have hT := Nat.eq_of_beq_eq_true hT2; subst hT
              exact ok_load_ptr3 ho e1 e2 hc.1 e3 hc.2.1 e4 hc.2.2.1 hc.2.2.2
            · cases hi : Nat.beq i 0 with
              | false => rw [hi] at h; cases h
              | true => rw [hi] at h; obtain ⟨rfl, rfl⟩ := out_inj h; have hi := Nat.eq_of_beq_eq_true hi; subst hi; exact ok_load_agg ho hc.2.1 hc.2.2 e1 e2 hc.1 e3
          | false =>
            rw [hT2] at h
            simp only [cond_false] at h
            cases hi : Nat.beq i 0 with
            | false => rw [hi] at h; cases h
            | true => rw [hi] at h; obtain ⟨rfl, rfl⟩ := out_inj h; have hi := Nat.eq_of_beq_eq_true hi; subst hi; exact ok_load_agg ho hc.2.1 hc.2.2 e1 e2 hc.1 e3
      · cases h
    · cases h
  · rename_i e1
    split at h
    · rename_i e2
      split at h
      · rename_i e3
        cases hT : memN T flatT with
        | false => rw [hT] at h; cases h
        | true => rw [hT] at h; obtain ⟨rfl, rfl⟩ := out_inj h; exact ok_load_fld ho hT e1 e2 hc.1 e3 hc.2.1 hc.2.2
      · cases h
    · cases h
  · cases h
def outS (g n : Nat) (F : Nat → Blk) (c : Prop) : Ev := some (⟨none, [(g, some (n, F))], [g]⟩, c)
theorem outS_inj {g n : Nat} {F : Nat → Blk} {D : Dsc} {c c' : Prop} (h : outS g n F c' = some (D, c)) : D = ⟨none, [(g, some (n, F))], [g]⟩ ∧ c = c' := by cases h; exact ⟨rfl, rfl⟩
def evStore (s : St) (T : TypeId) : Option AV → Option AV → Ev
  | some (.rptr g r i), some (.ra q) => match s.heap g with
    | some (n, F) => match F r with
      | .rats m f => bif Nat.beq T RT then outS g n (updN F r (.rats m (updN f i q))) (r < n ∧ i < m) else none
      | _ => none
    | none => none
  | some (.ptr g r i), some z => match s.heap g with
    | some (n, F) => match F r with
      | .ones T' m f => bif memN T flatT then outS g n (updN F r (.ones T' m (updN f i z))) (z.one = true ∧ r < n ∧ i < m) else
        (match z with
        | .ra q => bif Nat.beq T RT then outS g n (updN F r (.ones T' m (upd3 f i q))) (r < n ∧ i + 2 < m) else none
        | .ag m' f' => bif Nat.beq i 0 then outS g n (updN F r (.ones T' m f')) (m' = m ∧ r < n ∧ szB Tryz.prog T m = true) else none
        | _ => none)
      | _ => none
    | none => none
  | _, _ => none
theorem evStore_ok {o : Oper} {s : St} {D : Dsc} {c : Prop} {T : TypeId} {x y : Operand} (hd : o.dst = none) (ho : o.op = .store T x y) (h : evStore s T (avo s x) (avo s y) = some (D, c)) (hc : c) : LOK Tryz.prog o s D := by
  unfold evStore at h
  split at h
  · rename_i e1 e0
    split at h
    · rename_i e2
      split at h
      · rename_i e3
        cases hT : Nat.beq T RT with
        | false => rw [hT] at h; cases h
        | true => rw [hT] at h; obtain ⟨rfl, rfl⟩ := outS_inj h; have hT := Nat.eq_of_beq_eq_true hT; subst hT; exact ok_store_rptr hd ho e1 e0 e2 hc.1 e3 hc.2
      · cases h
    · cases h
  · rename_i g r i z e1 e0
    split at h
    · rename_i e2
      split at h
      · rename_i e3
        cases hT : memN T flatT with
        | true => rw [hT] at h; obtain ⟨rfl, rfl⟩ := outS_inj h; exact ok_store_ptr hd ho hT e1 e0 hc.1 e2 hc.2.1 e3 hc.2.2
        | false =>
          rw [hT] at h
          simp only [cond_false] at h
          split at h
          · cases hT2 : Nat.beq T RT with
            | false => rw [hT2] at h; cases h
            | true => rw [hT2] at h; obtain ⟨rfl, rfl⟩ := outS_inj h; have hT := Nat.eq_of_beq_eq_true hT2; subst hT; exact ok_store_ptr3 hd ho e1 e0 e2 hc.1 e3 hc.2
          · cases hi : Nat.beq i 0 with
            | false => rw [hi] at h; cases h
            | true => rw [hi] at h; obtain ⟨rfl, rfl⟩ := outS_inj h; have hi := Nat.eq_of_beq_eq_true hi; subst hi; obtain ⟨rfl, h1, h2⟩ := hc; exact ok_store_agg hd ho h2 e1 e0 e2 h1 e3
          · cases h
      · cases h
    · cases h
  · cases h
end Go.Proofs.YtpclkgjhfhhddaaGreat.AM

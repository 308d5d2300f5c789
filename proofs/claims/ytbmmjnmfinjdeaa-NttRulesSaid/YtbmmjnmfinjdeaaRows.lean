/-
  No cell of these rows narrows 'for every input' (looked for: loops, veiled, ifaces, maps, wideKeys, modest, calm, conditions, laid).
  DERIVED. THE GIVEN ROWS OF THIS SEAT. 8 by the template 'for every input the law returns true; each argument reads behind the call as it read before'; 0 by the template 'total and deterministic' (their statements: YtbmmjnmfinjdeaaTotals.lean).
  GIVEN WITH THE SEED: the statements are not yours to turn. If you find one false, say at which input.
  Laid BY PROGRAM, IN A SANDBOX (cutbox-rows.mjs): the forced cells as the released guide's own fill.sh prints them over the translation ccf93d18b3fca1ed… (all of the seat's roots in one cut). By AI agents, Wed Nov 11 2026. No macro, syntax, notation, axiom, sorry.
-/
import Derived.Test.YtbmmjnmfinjdeaaChecked
import GoSem.Claim
import GoSem.ClaimJoined
import GoSem.ClaimMapViews
import Derived.JoinedTies
import Derived.KernelRfl
namespace Go.Proofs.Ytbmmjnmfinjdeaa
/- THE CELL 'sum', in the pinned program and in every row, IS THE sha256 OF THE DUMP (.gsa) THAT YtbmmjnmfinjdeaaProg.lean LOADS. Nothing in Lean hashes anything: it is a label: what it is worth is what the hold of that sum in a sandbox is worth. -/
noncomputable def Try.pinned : Pinned := { name := "ytbmmjnmfinjdeaa", sum := "ccf93d18b3fca1ed65a40ff9761a29fef6036d99b07d44823f717d2e4f17b87f", checked := Try.checked }
namespace Rows
def none {H : Type} : Left H := { results := [], args := [] }

/-- 'anticlinelaw8.NttPowers': WHATEVER THE INPUT: true; the input reads as it did. -/
def nttPowersSpec : ChangeSpec := { name := "nttPowers", fn := fun _ => fun
  | [d1, d2, d3] => { results := [.lit (.bool true)], args := [d1, d2, d3] }
  | _ => none }
def nttPowersRow : OpenClaim := { program := "ytbmmjnmfinjdeaa", sum := "ccf93d18b3fca1ed65a40ff9761a29fef6036d99b07d44823f717d2e4f17b87f", func := "anticline/anticlinelaw8.NttPowers", spec := "nttPowers", unfollowed := true, recurses := true, plainKeys := false, apart := false }
def NttPowersSaid : Prop := nttPowersRow.holds Try.pinned (OpenSpec.ofChange nttPowersSpec)

/-- ITS FALSE NEIGHBOUR: 'it returns false'. Refute it at one input. -/
def nttPowersWrong : ChangeSpec := { name := "nttPowers", fn := fun _ => fun
  | [d1, d2, d3] => { results := [.lit (.bool false)], args := [d1, d2, d3] }
  | _ => none }
def NttPowersWrongFalsely : Prop := nttPowersRow.holds Try.pinned (OpenSpec.ofChange nttPowersWrong)

/-- 'anticlinelaw8.NttTransforms': WHATEVER THE INPUT: true; the input reads as it did. -/
def nttTransformsSpec : ChangeSpec := { name := "nttTransforms", fn := fun _ => fun
  | [d1, d2, d3, d4] => { results := [.lit (.bool true)], args := [d1, d2, d3, d4] }
  | _ => none }
def nttTransformsRow : OpenClaim := { program := "ytbmmjnmfinjdeaa", sum := "ccf93d18b3fca1ed65a40ff9761a29fef6036d99b07d44823f717d2e4f17b87f", func := "anticline/anticlinelaw8.NttTransforms", spec := "nttTransforms", unfollowed := true, recurses := true, plainKeys := false, apart := false }
def NttTransformsSaid : Prop := nttTransformsRow.holds Try.pinned (OpenSpec.ofChange nttTransformsSpec)

/-- ITS FALSE NEIGHBOUR: 'it returns false'. Refute it at one input. -/
def nttTransformsWrong : ChangeSpec := { name := "nttTransforms", fn := fun _ => fun
  | [d1, d2, d3, d4] => { results := [.lit (.bool false)], args := [d1, d2, d3, d4] }
  | _ => none }
def NttTransformsWrongFalsely : Prop := nttTransformsRow.holds Try.pinned (OpenSpec.ofChange nttTransformsWrong)

/-- 'anticlinelaw8.NttTurns': WHATEVER THE INPUT: true; the input reads as it did. -/
def nttTurnsSpec : ChangeSpec := { name := "nttTurns", fn := fun _ => fun
  | [d1, d2] => { results := [.lit (.bool true)], args := [d1, d2] }
  | _ => none }
def nttTurnsRow : OpenClaim := { program := "ytbmmjnmfinjdeaa", sum := "ccf93d18b3fca1ed65a40ff9761a29fef6036d99b07d44823f717d2e4f17b87f", func := "anticline/anticlinelaw8.NttTurns", spec := "nttTurns", unfollowed := true, recurses := true, plainKeys := false, apart := false }
def NttTurnsSaid : Prop := nttTurnsRow.holds Try.pinned (OpenSpec.ofChange nttTurnsSpec)

/-- ITS FALSE NEIGHBOUR: 'it returns false'. Refute it at one input. -/
def nttTurnsWrong : ChangeSpec := { name := "nttTurns", fn := fun _ => fun
  | [d1, d2] => { results := [.lit (.bool false)], args := [d1, d2] }
  | _ => none }
def NttTurnsWrongFalsely : Prop := nttTurnsRow.holds Try.pinned (OpenSpec.ofChange nttTurnsWrong)

/-- 'anticlinelaw8.NttEnds': WHATEVER THE INPUT: true; the input reads as it did. -/
def nttEndsSpec : ChangeSpec := { name := "nttEnds", fn := fun _ => fun
  | [d1, d2] => { results := [.lit (.bool true)], args := [d1, d2] }
  | _ => none }
def nttEndsRow : OpenClaim := { program := "ytbmmjnmfinjdeaa", sum := "ccf93d18b3fca1ed65a40ff9761a29fef6036d99b07d44823f717d2e4f17b87f", func := "anticline/anticlinelaw8.NttEnds", spec := "nttEnds", unfollowed := true, recurses := true, plainKeys := false, apart := false }
def NttEndsSaid : Prop := nttEndsRow.holds Try.pinned (OpenSpec.ofChange nttEndsSpec)

/-- ITS FALSE NEIGHBOUR: 'it returns false'. Refute it at one input. -/
def nttEndsWrong : ChangeSpec := { name := "nttEnds", fn := fun _ => fun
  | [d1, d2] => { results := [.lit (.bool false)], args := [d1, d2] }
  | _ => none }
def NttEndsWrongFalsely : Prop := nttEndsRow.holds Try.pinned (OpenSpec.ofChange nttEndsWrong)

/-- 'anticlinelaw8.NttProducts': WHATEVER THE INPUT: true; the input reads as it did. -/
def nttProductsSpec : ChangeSpec := { name := "nttProducts", fn := fun _ => fun
  | [d1, d2, d3, d4, d5] => { results := [.lit (.bool true)], args := [d1, d2, d3, d4, d5] }
  | _ => none }
def nttProductsRow : OpenClaim := { program := "ytbmmjnmfinjdeaa", sum := "ccf93d18b3fca1ed65a40ff9761a29fef6036d99b07d44823f717d2e4f17b87f", func := "anticline/anticlinelaw8.NttProducts", spec := "nttProducts", unfollowed := true, recurses := true, plainKeys := false, apart := false }
def NttProductsSaid : Prop := nttProductsRow.holds Try.pinned (OpenSpec.ofChange nttProductsSpec)

/-- ITS FALSE NEIGHBOUR: 'it returns false'. Refute it at one input. -/
def nttProductsWrong : ChangeSpec := { name := "nttProducts", fn := fun _ => fun
  | [d1, d2, d3, d4, d5] => { results := [.lit (.bool false)], args := [d1, d2, d3, d4, d5] }
  | _ => none }
def NttProductsWrongFalsely : Prop := nttProductsRow.holds Try.pinned (OpenSpec.ofChange nttProductsWrong)

/-- 'anticlinelaw8.NttRules': WHATEVER THE INPUT: true; the input reads as it did. -/
def nttRulesSpec : ChangeSpec := { name := "nttRules", fn := fun _ => fun
  | [d1, d2, d3, d4, d5] => { results := [.lit (.bool true)], args := [d1, d2, d3, d4, d5] }
  | _ => none }
def nttRulesRow : OpenClaim := { program := "ytbmmjnmfinjdeaa", sum := "ccf93d18b3fca1ed65a40ff9761a29fef6036d99b07d44823f717d2e4f17b87f", func := "anticline/anticlinelaw8.NttRules", spec := "nttRules", unfollowed := true, recurses := true, plainKeys := false, apart := false }
def NttRulesSaid : Prop := nttRulesRow.holds Try.pinned (OpenSpec.ofChange nttRulesSpec)

/-- ITS FALSE NEIGHBOUR: 'it returns false'. Refute it at one input. -/
def nttRulesWrong : ChangeSpec := { name := "nttRules", fn := fun _ => fun
  | [d1, d2, d3, d4, d5] => { results := [.lit (.bool false)], args := [d1, d2, d3, d4, d5] }
  | _ => none }
def NttRulesWrongFalsely : Prop := nttRulesRow.holds Try.pinned (OpenSpec.ofChange nttRulesWrong)

/-- 'anticlinelaw8.NttOrder': WHATEVER THE INPUT: true; the input reads as it did. -/
def nttOrderSpec : ChangeSpec := { name := "nttOrder", fn := fun _ => fun
  | [d1, d2, d3, d4, d5] => { results := [.lit (.bool true)], args := [d1, d2, d3, d4, d5] }
  | _ => none }
def nttOrderRow : OpenClaim := { program := "ytbmmjnmfinjdeaa", sum := "ccf93d18b3fca1ed65a40ff9761a29fef6036d99b07d44823f717d2e4f17b87f", func := "anticline/anticlinelaw8.NttOrder", spec := "nttOrder", unfollowed := true, recurses := true, plainKeys := false, apart := false }
def NttOrderSaid : Prop := nttOrderRow.holds Try.pinned (OpenSpec.ofChange nttOrderSpec)

/-- ITS FALSE NEIGHBOUR: 'it returns false'. Refute it at one input. -/
def nttOrderWrong : ChangeSpec := { name := "nttOrder", fn := fun _ => fun
  | [d1, d2, d3, d4, d5] => { results := [.lit (.bool false)], args := [d1, d2, d3, d4, d5] }
  | _ => none }
def NttOrderWrongFalsely : Prop := nttOrderRow.holds Try.pinned (OpenSpec.ofChange nttOrderWrong)

/-- 'anticlinelaw8.NttKnown': WHATEVER THE INPUT: true; the input reads as it did. -/
def nttKnownSpec : ChangeSpec := { name := "nttKnown", fn := fun _ => fun
  | [d] => { results := [.lit (.bool true)], args := [d] }
  | _ => none }
def nttKnownRow : OpenClaim := { program := "ytbmmjnmfinjdeaa", sum := "ccf93d18b3fca1ed65a40ff9761a29fef6036d99b07d44823f717d2e4f17b87f", func := "anticline/anticlinelaw8.NttKnown", spec := "nttKnown", unfollowed := true, recurses := true, plainKeys := false, apart := false }
def NttKnownSaid : Prop := nttKnownRow.holds Try.pinned (OpenSpec.ofChange nttKnownSpec)

/-- ITS FALSE NEIGHBOUR: 'it returns false'. Refute it at one input. -/
def nttKnownWrong : ChangeSpec := { name := "nttKnown", fn := fun _ => fun
  | [d] => { results := [.lit (.bool false)], args := [d] }
  | _ => none }
def NttKnownWrongFalsely : Prop := nttKnownRow.holds Try.pinned (OpenSpec.ofChange nttKnownWrong)

/- THE SECOND FORM. 'bulk': how many values and letters a reading holds, each counted each time it is reached (what is shared counts as often as it is met; a slice's spare places count too). A statement '..UptoSaid' is the law's where the arguments, and the package variables that the reading takes, are together of bulk at most 1048576: NARROWER than '..Said'. Prove '..Said' where nothing that the law and all that it calls make is longer than what came in: it says more and counts as full. Else prove '..UptoSaid'. A law counts once. -/
mutual
def uptoBulk {H : Type} : DataW H → Nat
  | .lit (.string bytes) => bytes.length + 1
  | .lit _ => 1
  | .nil => 1
  | .ptr d => uptoBulk d + 1
  | .slice elems spare => uptoBulkAll elems + uptoBulkAll spare + 1
  | .agg parts => uptoBulkAll parts + 1
  | .iface _ d => uptoBulk d + 1
  | .map entries => uptoBulkEntries entries + 1
  | .held _ => 1
def uptoBulkAll {H : Type} : List (DataW H) → Nat
  | [] => 0
  | d :: r => uptoBulk d + uptoBulkAll r
def uptoBulkEntries {H : Type} : List (Lit × DataW H) → Nat
  | [] => 0
  | x :: r => uptoBulkEntry x + uptoBulkEntries r
def uptoBulkEntry {H : Type} : Lit × DataW H → Nat
  | (.string bytes, d) => bytes.length + uptoBulk d + 1
  | (_, d) => uptoBulk d + 1
 end
def uptoSmall : (H : Type) → List (DataW H) → Bool := fun _ ds => decide (uptoBulkAll ds ≤ 1048576)
def OpenSpec.upto (s : _root_.Go.ChangeSpec) : _root_.Go.OpenSpec := { _root_.Go.OpenSpec.ofChange s with cond := some uptoSmall }

/-- 'anticlinelaw8.NttPowers', WHERE WHAT IT READS IS OF BULK AT MOST 1048576: true; the input reads as it did. -/
def nttPowersUptoRow : OpenClaim := { program := "ytbmmjnmfinjdeaa", sum := "ccf93d18b3fca1ed65a40ff9761a29fef6036d99b07d44823f717d2e4f17b87f", func := "anticline/anticlinelaw8.NttPowers", spec := "nttPowers", unfollowed := true, recurses := true, plainKeys := false, apart := false, narrowed := true }
def NttPowersUptoSaid : Prop := nttPowersUptoRow.holds Try.pinned (OpenSpec.upto nttPowersSpec)

/-- 'anticlinelaw8.NttTransforms', WHERE WHAT IT READS IS OF BULK AT MOST 1048576: true; the input reads as it did. -/
def nttTransformsUptoRow : OpenClaim := { program := "ytbmmjnmfinjdeaa", sum := "ccf93d18b3fca1ed65a40ff9761a29fef6036d99b07d44823f717d2e4f17b87f", func := "anticline/anticlinelaw8.NttTransforms", spec := "nttTransforms", unfollowed := true, recurses := true, plainKeys := false, apart := false, narrowed := true }
def NttTransformsUptoSaid : Prop := nttTransformsUptoRow.holds Try.pinned (OpenSpec.upto nttTransformsSpec)

/-- 'anticlinelaw8.NttTurns', WHERE WHAT IT READS IS OF BULK AT MOST 1048576: true; the input reads as it did. -/
def nttTurnsUptoRow : OpenClaim := { program := "ytbmmjnmfinjdeaa", sum := "ccf93d18b3fca1ed65a40ff9761a29fef6036d99b07d44823f717d2e4f17b87f", func := "anticline/anticlinelaw8.NttTurns", spec := "nttTurns", unfollowed := true, recurses := true, plainKeys := false, apart := false, narrowed := true }
def NttTurnsUptoSaid : Prop := nttTurnsUptoRow.holds Try.pinned (OpenSpec.upto nttTurnsSpec)

/-- 'anticlinelaw8.NttEnds', WHERE WHAT IT READS IS OF BULK AT MOST 1048576: true; the input reads as it did. -/
def nttEndsUptoRow : OpenClaim := { program := "ytbmmjnmfinjdeaa", sum := "ccf93d18b3fca1ed65a40ff9761a29fef6036d99b07d44823f717d2e4f17b87f", func := "anticline/anticlinelaw8.NttEnds", spec := "nttEnds", unfollowed := true, recurses := true, plainKeys := false, apart := false, narrowed := true }
def NttEndsUptoSaid : Prop := nttEndsUptoRow.holds Try.pinned (OpenSpec.upto nttEndsSpec)

/-- 'anticlinelaw8.NttProducts', WHERE WHAT IT READS IS OF BULK AT MOST 1048576: true; the input reads as it did. -/
def nttProductsUptoRow : OpenClaim := { program := "ytbmmjnmfinjdeaa", sum := "ccf93d18b3fca1ed65a40ff9761a29fef6036d99b07d44823f717d2e4f17b87f", func := "anticline/anticlinelaw8.NttProducts", spec := "nttProducts", unfollowed := true, recurses := true, plainKeys := false, apart := false, narrowed := true }
def NttProductsUptoSaid : Prop := nttProductsUptoRow.holds Try.pinned (OpenSpec.upto nttProductsSpec)

/-- 'anticlinelaw8.NttRules', WHERE WHAT IT READS IS OF BULK AT MOST 1048576: true; the input reads as it did. -/
def nttRulesUptoRow : OpenClaim := { program := "ytbmmjnmfinjdeaa", sum := "ccf93d18b3fca1ed65a40ff9761a29fef6036d99b07d44823f717d2e4f17b87f", func := "anticline/anticlinelaw8.NttRules", spec := "nttRules", unfollowed := true, recurses := true, plainKeys := false, apart := false, narrowed := true }
def NttRulesUptoSaid : Prop := nttRulesUptoRow.holds Try.pinned (OpenSpec.upto nttRulesSpec)

/-- 'anticlinelaw8.NttOrder', WHERE WHAT IT READS IS OF BULK AT MOST 1048576: true; the input reads as it did. -/
def nttOrderUptoRow : OpenClaim := { program := "ytbmmjnmfinjdeaa", sum := "ccf93d18b3fca1ed65a40ff9761a29fef6036d99b07d44823f717d2e4f17b87f", func := "anticline/anticlinelaw8.NttOrder", spec := "nttOrder", unfollowed := true, recurses := true, plainKeys := false, apart := false, narrowed := true }
def NttOrderUptoSaid : Prop := nttOrderUptoRow.holds Try.pinned (OpenSpec.upto nttOrderSpec)

/-- 'anticlinelaw8.NttKnown', WHERE WHAT IT READS IS OF BULK AT MOST 1048576: true; the input reads as it did. -/
def nttKnownUptoRow : OpenClaim := { program := "ytbmmjnmfinjdeaa", sum := "ccf93d18b3fca1ed65a40ff9761a29fef6036d99b07d44823f717d2e4f17b87f", func := "anticline/anticlinelaw8.NttKnown", spec := "nttKnown", unfollowed := true, recurses := true, plainKeys := false, apart := false, narrowed := true }
def NttKnownUptoSaid : Prop := nttKnownUptoRow.holds Try.pinned (OpenSpec.upto nttKnownSpec)

end Rows
end Go.Proofs.Ytbmmjnmfinjdeaa

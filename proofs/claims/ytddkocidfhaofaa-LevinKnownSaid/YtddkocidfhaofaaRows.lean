/-
  No cell of these rows narrows 'for every input' (looked for: loops, veiled, ifaces, maps, wideKeys, modest, calm, conditions, laid).
  DERIVED. THE GIVEN ROWS OF THIS SEAT. 3 by the template 'for every input the law returns true; each argument reads behind the call as it read before'; 0 by the template 'total and deterministic' (their statements: YtddkocidfhaofaaTotals.lean).
  GIVEN WITH THE SEED: the statements are not yours to turn. If you find one false, say at which input.
  Laid BY PROGRAM, IN A SANDBOX (cutbox-rows.mjs): the forced cells as the released guide's own fill.sh prints them over the translation e91e0a9b0dd87d21… (all of the seat's roots in one cut). By AI agents, Wed Nov 11 2026. No macro, syntax, notation, axiom, sorry.
-/
import Derived.Test.YtddkocidfhaofaaChecked
import GoSem.Claim
import GoSem.ClaimJoined
import GoSem.ClaimMapViews
import Derived.JoinedTies
import Derived.KernelRfl
namespace Go.Proofs.Ytddkocidfhaofaa
/- THE CELL 'sum', in the pinned program and in every row, IS THE sha256 OF THE DUMP (.gsa) THAT YtddkocidfhaofaaProg.lean LOADS. Nothing in Lean hashes anything: it is a label: what it is worth is what the hold of that sum in a sandbox is worth. -/
noncomputable def Try.pinned : Pinned := { name := "ytddkocidfhaofaa", sum := "e91e0a9b0dd87d21d78b5528ff13b486e092fc87f3c195fd8985bff1d3a2d4ba", checked := Try.checked }
namespace Rows
def none {H : Type} : Left H := { results := [], args := [] }

/-- 'anticlinelaw10.LevinLinear': WHATEVER THE INPUT: true; the input reads as it did. -/
def levinLinearSpec : ChangeSpec := { name := "levinLinear", fn := fun _ => fun
  | [d1, d2, d3, d4, d5] => { results := [.lit (.bool true)], args := [d1, d2, d3, d4, d5] }
  | _ => none }
def levinLinearRow : OpenClaim := { program := "ytddkocidfhaofaa", sum := "e91e0a9b0dd87d21d78b5528ff13b486e092fc87f3c195fd8985bff1d3a2d4ba", func := "anticline/anticlinelaw10.LevinLinear", spec := "levinLinear", unfollowed := true, recurses := true, plainKeys := false, apart := false }
def LevinLinearSaid : Prop := levinLinearRow.holds Try.pinned (OpenSpec.ofChange levinLinearSpec)

/-- ITS FALSE NEIGHBOUR: 'it returns false'. Refute it at one input. -/
def levinLinearWrong : ChangeSpec := { name := "levinLinear", fn := fun _ => fun
  | [d1, d2, d3, d4, d5] => { results := [.lit (.bool false)], args := [d1, d2, d3, d4, d5] }
  | _ => none }
def LevinLinearWrongFalsely : Prop := levinLinearRow.holds Try.pinned (OpenSpec.ofChange levinLinearWrong)

/-- 'anticlinelaw10.LevinKnown': WHATEVER THE INPUT: true; the input reads as it did. -/
def levinKnownSpec : ChangeSpec := { name := "levinKnown", fn := fun _ => fun
  | [d] => { results := [.lit (.bool true)], args := [d] }
  | _ => none }
def levinKnownRow : OpenClaim := { program := "ytddkocidfhaofaa", sum := "e91e0a9b0dd87d21d78b5528ff13b486e092fc87f3c195fd8985bff1d3a2d4ba", func := "anticline/anticlinelaw10.LevinKnown", spec := "levinKnown", unfollowed := true, recurses := true, plainKeys := false, apart := false }
def LevinKnownSaid : Prop := levinKnownRow.holds Try.pinned (OpenSpec.ofChange levinKnownSpec)

/-- ITS FALSE NEIGHBOUR: 'it returns false'. Refute it at one input. -/
def levinKnownWrong : ChangeSpec := { name := "levinKnown", fn := fun _ => fun
  | [d] => { results := [.lit (.bool false)], args := [d] }
  | _ => none }
def LevinKnownWrongFalsely : Prop := levinKnownRow.holds Try.pinned (OpenSpec.ofChange levinKnownWrong)

/-- 'anticlinelaw10.LevinTurned': WHATEVER THE INPUT: true; the input reads as it did. -/
def levinTurnedSpec : ChangeSpec := { name := "levinTurned", fn := fun _ => fun
  | [d1, d2, d3] => { results := [.lit (.bool true)], args := [d1, d2, d3] }
  | _ => none }
def levinTurnedRow : OpenClaim := { program := "ytddkocidfhaofaa", sum := "e91e0a9b0dd87d21d78b5528ff13b486e092fc87f3c195fd8985bff1d3a2d4ba", func := "anticline/anticlinelaw10.LevinTurned", spec := "levinTurned", unfollowed := true, recurses := true, plainKeys := false, apart := false }
def LevinTurnedSaid : Prop := levinTurnedRow.holds Try.pinned (OpenSpec.ofChange levinTurnedSpec)

/-- ITS FALSE NEIGHBOUR: 'it returns false'. Refute it at one input. -/
def levinTurnedWrong : ChangeSpec := { name := "levinTurned", fn := fun _ => fun
  | [d1, d2, d3] => { results := [.lit (.bool false)], args := [d1, d2, d3] }
  | _ => none }
def LevinTurnedWrongFalsely : Prop := levinTurnedRow.holds Try.pinned (OpenSpec.ofChange levinTurnedWrong)

/- THE SECOND FORM. 'bulk': how many values and letters a reading holds, each counted each time it is reached (what is shared counts as often as it is met; a slice's spare places count too). A statement '..UptoSaid' is the law's where the arguments, and the package variables that the reading takes, are together of bulk at most 1048576: NARROWER than '..Said'. Prove '..Said' where nothing that the law and all that it calls make is longer than what came in: it says more and counts as full. Else prove '..UptoSaid'. A law counts once. -/
mutual
def uptoBulk {H : Type} : DataW H → Nat
  | .lit (.string bytes) => bytes.length + 1
  | .lit _ => 1
  | .nil => 1
  | .ptr d => uptoBulk d + 1
  | .slice elems spare => uptoBulkAll elems + uptoBulkAll spare + 1
  | .agg parts => uptoBulkAll parts + 1
  | .iface _ d => uptoBulk d + 1
  | .map entries => uptoBulkEntries entries + 1
  | .held _ => 1
def uptoBulkAll {H : Type} : List (DataW H) → Nat
  | [] => 0
  | d :: r => uptoBulk d + uptoBulkAll r
def uptoBulkEntries {H : Type} : List (Lit × DataW H) → Nat
  | [] => 0
  | x :: r => uptoBulkEntry x + uptoBulkEntries r
def uptoBulkEntry {H : Type} : Lit × DataW H → Nat
  | (.string bytes, d) => bytes.length + uptoBulk d + 1
  | (_, d) => uptoBulk d + 1
 end
def uptoSmall : (H : Type) → List (DataW H) → Bool := fun _ ds => decide (uptoBulkAll ds ≤ 1048576)
def OpenSpec.upto (s : _root_.Go.ChangeSpec) : _root_.Go.OpenSpec := { _root_.Go.OpenSpec.ofChange s with cond := some uptoSmall }

/-- 'anticlinelaw10.LevinLinear', WHERE WHAT IT READS IS OF BULK AT MOST 1048576: true; the input reads as it did. -/
def levinLinearUptoRow : OpenClaim := { program := "ytddkocidfhaofaa", sum := "e91e0a9b0dd87d21d78b5528ff13b486e092fc87f3c195fd8985bff1d3a2d4ba", func := "anticline/anticlinelaw10.LevinLinear", spec := "levinLinear", unfollowed := true, recurses := true, plainKeys := false, apart := false, narrowed := true }
def LevinLinearUptoSaid : Prop := levinLinearUptoRow.holds Try.pinned (OpenSpec.upto levinLinearSpec)

/-- 'anticlinelaw10.LevinKnown', WHERE WHAT IT READS IS OF BULK AT MOST 1048576: true; the input reads as it did. -/
def levinKnownUptoRow : OpenClaim := { program := "ytddkocidfhaofaa", sum := "e91e0a9b0dd87d21d78b5528ff13b486e092fc87f3c195fd8985bff1d3a2d4ba", func := "anticline/anticlinelaw10.LevinKnown", spec := "levinKnown", unfollowed := true, recurses := true, plainKeys := false, apart := false, narrowed := true }
def LevinKnownUptoSaid : Prop := levinKnownUptoRow.holds Try.pinned (OpenSpec.upto levinKnownSpec)

/-- 'anticlinelaw10.LevinTurned', WHERE WHAT IT READS IS OF BULK AT MOST 1048576: true; the input reads as it did. -/
def levinTurnedUptoRow : OpenClaim := { program := "ytddkocidfhaofaa", sum := "e91e0a9b0dd87d21d78b5528ff13b486e092fc87f3c195fd8985bff1d3a2d4ba", func := "anticline/anticlinelaw10.LevinTurned", spec := "levinTurned", unfollowed := true, recurses := true, plainKeys := false, apart := false, narrowed := true }
def LevinTurnedUptoSaid : Prop := levinTurnedUptoRow.holds Try.pinned (OpenSpec.upto levinTurnedSpec)

end Rows
end Go.Proofs.Ytddkocidfhaofaa

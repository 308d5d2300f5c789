/-
  No cell of these rows narrows 'for every input' (looked for: loops, veiled, ifaces, maps, wideKeys, modest, calm, conditions, laid).
  DERIVED. THE GIVEN ROWS OF THIS SEAT. 8 by the template 'for every input the law returns true; each argument reads behind the call as it read before'; 0 by the template 'total and deterministic' (their statements: YtpclkgjhfhhddaaTotals.lean).
  GIVEN WITH THE SEED: the statements are not yours to turn. If you find one false, say at which input.
  Laid BY PROGRAM, IN A SANDBOX (cutbox-rows.mjs): the forced cells as the released guide's own fill.sh prints them over the translation ae8bf2fd4fff8fde… (all of the seat's roots in one cut). By AI agents, Wed Nov 11 2026. No macro, syntax, notation, axiom, sorry.
-/
import Derived.Test.YtpclkgjhfhhddaaChecked
import GoSem.Claim
import GoSem.ClaimJoined
import GoSem.ClaimMapViews
import Derived.JoinedTies
import Derived.KernelRfl
namespace Go.Proofs.Ytpclkgjhfhhddaa
/- THE CELL 'sum', in the pinned program and in every row, IS THE sha256 OF THE DUMP (.gsa) THAT YtpclkgjhfhhddaaProg.lean LOADS. Nothing in Lean hashes anything: it is a label: what it is worth is what the hold of that sum in a sandbox is worth. -/
noncomputable def Try.pinned : Pinned := { name := "ytpclkgjhfhhddaa", sum := "ae8bf2fd4fff8fdedaf655dd109ec094a2edd6073b025e7c1110945f3071d6c5", checked := Try.checked }
namespace Rows
def none {H : Type} : Left H := { results := [], args := [] }

/-- 'anticlinelaw6.CodeBack': WHATEVER THE INPUT: true; the input reads as it did. -/
def codeBackSpec : ChangeSpec := { name := "codeBack", fn := fun _ => fun
  | [d1, d2, d3] => { results := [.lit (.bool true)], args := [d1, d2, d3] }
  | _ => none }
def codeBackRow : OpenClaim := { program := "ytpclkgjhfhhddaa", sum := "ae8bf2fd4fff8fdedaf655dd109ec094a2edd6073b025e7c1110945f3071d6c5", func := "anticline/anticlinelaw6.CodeBack", spec := "codeBack", unfollowed := true, recurses := true, plainKeys := false, apart := false }
def CodeBackSaid : Prop := codeBackRow.holds Try.pinned (OpenSpec.ofChange codeBackSpec)

/-- ITS FALSE NEIGHBOUR: 'it returns false'. Refute it at one input. -/
def codeBackWrong : ChangeSpec := { name := "codeBack", fn := fun _ => fun
  | [d1, d2, d3] => { results := [.lit (.bool false)], args := [d1, d2, d3] }
  | _ => none }
def CodeBackWrongFalsely : Prop := codeBackRow.holds Try.pinned (OpenSpec.ofChange codeBackWrong)

/-- 'anticlinelaw6.CodeReads': WHATEVER THE INPUT: true; the input reads as it did. -/
def codeReadsSpec : ChangeSpec := { name := "codeReads", fn := fun _ => fun
  | [d1, d2, d3, d4, d5, d6, d7] => { results := [.lit (.bool true)], args := [d1, d2, d3, d4, d5, d6, d7] }
  | _ => none }
def codeReadsRow : OpenClaim := { program := "ytpclkgjhfhhddaa", sum := "ae8bf2fd4fff8fdedaf655dd109ec094a2edd6073b025e7c1110945f3071d6c5", func := "anticline/anticlinelaw6.CodeReads", spec := "codeReads", unfollowed := true, recurses := true, plainKeys := false, apart := false }
def CodeReadsSaid : Prop := codeReadsRow.holds Try.pinned (OpenSpec.ofChange codeReadsSpec)

/-- ITS FALSE NEIGHBOUR: 'it returns false'. Refute it at one input. -/
def codeReadsWrong : ChangeSpec := { name := "codeReads", fn := fun _ => fun
  | [d1, d2, d3, d4, d5, d6, d7] => { results := [.lit (.bool false)], args := [d1, d2, d3, d4, d5, d6, d7] }
  | _ => none }
def CodeReadsWrongFalsely : Prop := codeReadsRow.holds Try.pinned (OpenSpec.ofChange codeReadsWrong)

/-- 'anticlinelaw6.CodeOnly': WHATEVER THE INPUT: true; the input reads as it did. -/
def codeOnlySpec : ChangeSpec := { name := "codeOnly", fn := fun _ => fun
  | [d1, d2, d3, d4, d5, d6] => { results := [.lit (.bool true)], args := [d1, d2, d3, d4, d5, d6] }
  | _ => none }
def codeOnlyRow : OpenClaim := { program := "ytpclkgjhfhhddaa", sum := "ae8bf2fd4fff8fdedaf655dd109ec094a2edd6073b025e7c1110945f3071d6c5", func := "anticline/anticlinelaw6.CodeOnly", spec := "codeOnly", unfollowed := true, recurses := true, plainKeys := false, apart := false }
def CodeOnlySaid : Prop := codeOnlyRow.holds Try.pinned (OpenSpec.ofChange codeOnlySpec)

/-- ITS FALSE NEIGHBOUR: 'it returns false'. Refute it at one input. -/
def codeOnlyWrong : ChangeSpec := { name := "codeOnly", fn := fun _ => fun
  | [d1, d2, d3, d4, d5, d6] => { results := [.lit (.bool false)], args := [d1, d2, d3, d4, d5, d6] }
  | _ => none }
def CodeOnlyWrongFalsely : Prop := codeOnlyRow.holds Try.pinned (OpenSpec.ofChange codeOnlyWrong)

/-- 'anticlinelaw6.CodeKnown': WHATEVER THE INPUT: true; the input reads as it did. -/
def codeKnownSpec : ChangeSpec := { name := "codeKnown", fn := fun _ => fun
  | [d] => { results := [.lit (.bool true)], args := [d] }
  | _ => none }
def codeKnownRow : OpenClaim := { program := "ytpclkgjhfhhddaa", sum := "ae8bf2fd4fff8fdedaf655dd109ec094a2edd6073b025e7c1110945f3071d6c5", func := "anticline/anticlinelaw6.CodeKnown", spec := "codeKnown", unfollowed := true, recurses := true, plainKeys := false, apart := false }
def CodeKnownSaid : Prop := codeKnownRow.holds Try.pinned (OpenSpec.ofChange codeKnownSpec)

/-- ITS FALSE NEIGHBOUR: 'it returns false'. Refute it at one input. -/
def codeKnownWrong : ChangeSpec := { name := "codeKnown", fn := fun _ => fun
  | [d] => { results := [.lit (.bool false)], args := [d] }
  | _ => none }
def CodeKnownWrongFalsely : Prop := codeKnownRow.holds Try.pinned (OpenSpec.ofChange codeKnownWrong)

/-- 'anticlinelaw6.CodeCut': WHATEVER THE INPUT: true; the input reads as it did. -/
def codeCutSpec : ChangeSpec := { name := "codeCut", fn := fun _ => fun
  | [d1, d2, d3, d4, d5] => { results := [.lit (.bool true)], args := [d1, d2, d3, d4, d5] }
  | _ => none }
def codeCutRow : OpenClaim := { program := "ytpclkgjhfhhddaa", sum := "ae8bf2fd4fff8fdedaf655dd109ec094a2edd6073b025e7c1110945f3071d6c5", func := "anticline/anticlinelaw6.CodeCut", spec := "codeCut", unfollowed := true, recurses := true, plainKeys := false, apart := false }
def CodeCutSaid : Prop := codeCutRow.holds Try.pinned (OpenSpec.ofChange codeCutSpec)

/-- ITS FALSE NEIGHBOUR: 'it returns false'. Refute it at one input. -/
def codeCutWrong : ChangeSpec := { name := "codeCut", fn := fun _ => fun
  | [d1, d2, d3, d4, d5] => { results := [.lit (.bool false)], args := [d1, d2, d3, d4, d5] }
  | _ => none }
def CodeCutWrongFalsely : Prop := codeCutRow.holds Try.pinned (OpenSpec.ofChange codeCutWrong)

/-- 'anticlinelaw5.GenChecks': WHATEVER THE INPUT: true; the input reads as it did. -/
def genChecksSpec : ChangeSpec := { name := "genChecks", fn := fun _ => fun
  | [d1, d2, d3, d4, d5, d6, d7] => { results := [.lit (.bool true)], args := [d1, d2, d3, d4, d5, d6, d7] }
  | _ => none }
def genChecksRow : OpenClaim := { program := "ytpclkgjhfhhddaa", sum := "ae8bf2fd4fff8fdedaf655dd109ec094a2edd6073b025e7c1110945f3071d6c5", func := "anticline/anticlinelaw5.GenChecks", spec := "genChecks", unfollowed := true, recurses := true, plainKeys := false, apart := false }
def GenChecksSaid : Prop := genChecksRow.holds Try.pinned (OpenSpec.ofChange genChecksSpec)

/-- ITS FALSE NEIGHBOUR: 'it returns false'. Refute it at one input. -/
def genChecksWrong : ChangeSpec := { name := "genChecks", fn := fun _ => fun
  | [d1, d2, d3, d4, d5, d6, d7] => { results := [.lit (.bool false)], args := [d1, d2, d3, d4, d5, d6, d7] }
  | _ => none }
def GenChecksWrongFalsely : Prop := genChecksRow.holds Try.pinned (OpenSpec.ofChange genChecksWrong)

/-- 'anticlinelaw5.GenKnown': WHATEVER THE INPUT: true; the input reads as it did. -/
def genKnownSpec : ChangeSpec := { name := "genKnown", fn := fun _ => fun
  | [d] => { results := [.lit (.bool true)], args := [d] }
  | _ => none }
def genKnownRow : OpenClaim := { program := "ytpclkgjhfhhddaa", sum := "ae8bf2fd4fff8fdedaf655dd109ec094a2edd6073b025e7c1110945f3071d6c5", func := "anticline/anticlinelaw5.GenKnown", spec := "genKnown", unfollowed := true, recurses := true, plainKeys := false, apart := false }
def GenKnownSaid : Prop := genKnownRow.holds Try.pinned (OpenSpec.ofChange genKnownSpec)

/-- ITS FALSE NEIGHBOUR: 'it returns false'. Refute it at one input. -/
def genKnownWrong : ChangeSpec := { name := "genKnown", fn := fun _ => fun
  | [d] => { results := [.lit (.bool false)], args := [d] }
  | _ => none }
def GenKnownWrongFalsely : Prop := genKnownRow.holds Try.pinned (OpenSpec.ofChange genKnownWrong)

/-- 'anticlinelaw5.GenErrs': WHATEVER THE INPUT: true; the input reads as it did. -/
def genErrsSpec : ChangeSpec := { name := "genErrs", fn := fun _ => fun
  | [d1, d2] => { results := [.lit (.bool true)], args := [d1, d2] }
  | _ => none }
def genErrsRow : OpenClaim := { program := "ytpclkgjhfhhddaa", sum := "ae8bf2fd4fff8fdedaf655dd109ec094a2edd6073b025e7c1110945f3071d6c5", func := "anticline/anticlinelaw5.GenErrs", spec := "genErrs", unfollowed := true, recurses := true, plainKeys := false, apart := false }
def GenErrsSaid : Prop := genErrsRow.holds Try.pinned (OpenSpec.ofChange genErrsSpec)

/-- ITS FALSE NEIGHBOUR: 'it returns false'. Refute it at one input. -/
def genErrsWrong : ChangeSpec := { name := "genErrs", fn := fun _ => fun
  | [d1, d2] => { results := [.lit (.bool false)], args := [d1, d2] }
  | _ => none }
def GenErrsWrongFalsely : Prop := genErrsRow.holds Try.pinned (OpenSpec.ofChange genErrsWrong)

/- THE SECOND FORM. 'bulk': how many values and letters a reading holds, each counted each time it is reached (what is shared counts as often as it is met; a slice's spare places count too). A statement '..UptoSaid' is the law's where the arguments, and the package variables that the reading takes, are together of bulk at most 1048576: NARROWER than '..Said'. Prove '..Said' where nothing that the law and all that it calls make is longer than what came in: it says more and counts as full. Else prove '..UptoSaid'. A law counts once. -/
mutual
def uptoBulk {H : Type} : DataW H → Nat
  | .lit (.string bytes) => bytes.length + 1
  | .lit _ => 1
  | .nil => 1
  | .ptr d => uptoBulk d + 1
  | .slice elems spare => uptoBulkAll elems + uptoBulkAll spare + 1
  | .agg parts => uptoBulkAll parts + 1
  | .iface _ d => uptoBulk d + 1
  | .map entries => uptoBulkEntries entries + 1
  | .held _ => 1
def uptoBulkAll {H : Type} : List (DataW H) → Nat
  | [] => 0
  | d :: r => uptoBulk d + uptoBulkAll r
def uptoBulkEntries {H : Type} : List (Lit × DataW H) → Nat
  | [] => 0
  | x :: r => uptoBulkEntry x + uptoBulkEntries r
def uptoBulkEntry {H : Type} : Lit × DataW H → Nat
  | (.string bytes, d) => bytes.length + uptoBulk d + 1
  | (_, d) => uptoBulk d + 1
 end
def uptoSmall : (H : Type) → List (DataW H) → Bool := fun _ ds => decide (uptoBulkAll ds ≤ 1048576)
def OpenSpec.upto (s : _root_.Go.ChangeSpec) : _root_.Go.OpenSpec := { _root_.Go.OpenSpec.ofChange s with cond := some uptoSmall }

/-- 'anticlinelaw6.CodeBack', WHERE WHAT IT READS IS OF BULK AT MOST 1048576: true; the input reads as it did. -/
def codeBackUptoRow : OpenClaim := { program := "ytpclkgjhfhhddaa", sum := "ae8bf2fd4fff8fdedaf655dd109ec094a2edd6073b025e7c1110945f3071d6c5", func := "anticline/anticlinelaw6.CodeBack", spec := "codeBack", unfollowed := true, recurses := true, plainKeys := false, apart := false, narrowed := true }
def CodeBackUptoSaid : Prop := codeBackUptoRow.holds Try.pinned (OpenSpec.upto codeBackSpec)

/-- 'anticlinelaw6.CodeReads', WHERE WHAT IT READS IS OF BULK AT MOST 1048576: true; the input reads as it did. -/
def codeReadsUptoRow : OpenClaim := { program := "ytpclkgjhfhhddaa", sum := "ae8bf2fd4fff8fdedaf655dd109ec094a2edd6073b025e7c1110945f3071d6c5", func := "anticline/anticlinelaw6.CodeReads", spec := "codeReads", unfollowed := true, recurses := true, plainKeys := false, apart := false, narrowed := true }
def CodeReadsUptoSaid : Prop := codeReadsUptoRow.holds Try.pinned (OpenSpec.upto codeReadsSpec)

/-- 'anticlinelaw6.CodeOnly', WHERE WHAT IT READS IS OF BULK AT MOST 1048576: true; the input reads as it did. -/
def codeOnlyUptoRow : OpenClaim := { program := "ytpclkgjhfhhddaa", sum := "ae8bf2fd4fff8fdedaf655dd109ec094a2edd6073b025e7c1110945f3071d6c5", func := "anticline/anticlinelaw6.CodeOnly", spec := "codeOnly", unfollowed := true, recurses := true, plainKeys := false, apart := false, narrowed := true }
def CodeOnlyUptoSaid : Prop := codeOnlyUptoRow.holds Try.pinned (OpenSpec.upto codeOnlySpec)

/-- 'anticlinelaw6.CodeKnown', WHERE WHAT IT READS IS OF BULK AT MOST 1048576: true; the input reads as it did. -/
def codeKnownUptoRow : OpenClaim := { program := "ytpclkgjhfhhddaa", sum := "ae8bf2fd4fff8fdedaf655dd109ec094a2edd6073b025e7c1110945f3071d6c5", func := "anticline/anticlinelaw6.CodeKnown", spec := "codeKnown", unfollowed := true, recurses := true, plainKeys := false, apart := false, narrowed := true }
def CodeKnownUptoSaid : Prop := codeKnownUptoRow.holds Try.pinned (OpenSpec.upto codeKnownSpec)

/-- 'anticlinelaw6.CodeCut', WHERE WHAT IT READS IS OF BULK AT MOST 1048576: true; the input reads as it did. -/
def codeCutUptoRow : OpenClaim := { program := "ytpclkgjhfhhddaa", sum := "ae8bf2fd4fff8fdedaf655dd109ec094a2edd6073b025e7c1110945f3071d6c5", func := "anticline/anticlinelaw6.CodeCut", spec := "codeCut", unfollowed := true, recurses := true, plainKeys := false, apart := false, narrowed := true }
def CodeCutUptoSaid : Prop := codeCutUptoRow.holds Try.pinned (OpenSpec.upto codeCutSpec)

/-- 'anticlinelaw5.GenChecks', WHERE WHAT IT READS IS OF BULK AT MOST 1048576: true; the input reads as it did. -/
def genChecksUptoRow : OpenClaim := { program := "ytpclkgjhfhhddaa", sum := "ae8bf2fd4fff8fdedaf655dd109ec094a2edd6073b025e7c1110945f3071d6c5", func := "anticline/anticlinelaw5.GenChecks", spec := "genChecks", unfollowed := true, recurses := true, plainKeys := false, apart := false, narrowed := true }
def GenChecksUptoSaid : Prop := genChecksUptoRow.holds Try.pinned (OpenSpec.upto genChecksSpec)

/-- 'anticlinelaw5.GenKnown', WHERE WHAT IT READS IS OF BULK AT MOST 1048576: true; the input reads as it did. -/
def genKnownUptoRow : OpenClaim := { program := "ytpclkgjhfhhddaa", sum := "ae8bf2fd4fff8fdedaf655dd109ec094a2edd6073b025e7c1110945f3071d6c5", func := "anticline/anticlinelaw5.GenKnown", spec := "genKnown", unfollowed := true, recurses := true, plainKeys := false, apart := false, narrowed := true }
def GenKnownUptoSaid : Prop := genKnownUptoRow.holds Try.pinned (OpenSpec.upto genKnownSpec)

/-- 'anticlinelaw5.GenErrs', WHERE WHAT IT READS IS OF BULK AT MOST 1048576: true; the input reads as it did. -/
def genErrsUptoRow : OpenClaim := { program := "ytpclkgjhfhhddaa", sum := "ae8bf2fd4fff8fdedaf655dd109ec094a2edd6073b025e7c1110945f3071d6c5", func := "anticline/anticlinelaw5.GenErrs", spec := "genErrs", unfollowed := true, recurses := true, plainKeys := false, apart := false, narrowed := true }
def GenErrsUptoSaid : Prop := genErrsUptoRow.holds Try.pinned (OpenSpec.upto genErrsSpec)

end Rows
end Go.Proofs.Ytpclkgjhfhhddaa

/-
  No cell of these rows narrows 'for every input' (looked for: loops, veiled, ifaces, maps, wideKeys, modest, calm, conditions, laid).
  DERIVED. THE GIVEN ROWS OF THIS SEAT. 4 by the template 'for every input the law returns true; each argument reads behind the call as it read before'; 0 by the template 'total and deterministic' (their statements: YtddkocidfhaofaaGreatTotals.lean).
  GIVEN WITH THE SEED: the statements are not yours to turn. If you find one false, say at which input.
  Laid BY PROGRAM, IN A SANDBOX (cutbox-rows.mjs): the forced cells as the released guide's own fill.sh prints them over the translation 94b6092189a435b7… (all of the seat's roots in one cut). By AI agents, Wed Nov 11 2026. No macro, syntax, notation, axiom, sorry.
-/
import Derived.Test.YtddkocidfhaofaaGreatChecked
import GoSem.Claim
import GoSem.ClaimJoined
import GoSem.ClaimMapViews
import Derived.JoinedTies
import Derived.KernelRfl
namespace Go.Proofs.YtddkocidfhaofaaGreat
/- THE CELL 'sum', in the pinned program and in every row, IS THE sha256 OF THE DUMP (.gsa) THAT YtddkocidfhaofaaGreatProg.lean LOADS. Nothing in Lean hashes anything: it is a label: what it is worth is what the hold of that sum in a sandbox is worth. -/
noncomputable def Tryz.pinned : Pinned := { name := "ytddkocidfhaofaagreat", sum := "94b6092189a435b780522b6fde3165474655a67858c0025d63adfa9e4bbc52ec", checked := Tryz.checked }
namespace Rows
def none {H : Type} : Left H := { results := [], args := [] }

/-- 'anticlinelaw10.LevinSteps': WHATEVER THE INPUT: true; the input reads as it did. -/
def levinStepsSpec : ChangeSpec := { name := "levinSteps", fn := fun _ => fun
  | [d1, d2, d3] => { results := [.lit (.bool true)], args := [d1, d2, d3] }
  | _ => none }
def levinStepsRow : OpenClaim := { program := "ytddkocidfhaofaagreat", sum := "94b6092189a435b780522b6fde3165474655a67858c0025d63adfa9e4bbc52ec", func := "anticline/anticlinelaw10.LevinSteps", spec := "levinSteps", unfollowed := true, recurses := true, plainKeys := false, apart := false }
def LevinStepsSaid : Prop := levinStepsRow.holds Tryz.pinned (OpenSpec.ofChange levinStepsSpec)

/-- ITS FALSE NEIGHBOUR: 'it returns false'. Refute it at one input. -/
def levinStepsWrong : ChangeSpec := { name := "levinSteps", fn := fun _ => fun
  | [d1, d2, d3] => { results := [.lit (.bool false)], args := [d1, d2, d3] }
  | _ => none }
def LevinStepsWrongFalsely : Prop := levinStepsRow.holds Tryz.pinned (OpenSpec.ofChange levinStepsWrong)

/-- 'anticlinelaw10.LevinFirst': WHATEVER THE INPUT: true; the input reads as it did. -/
def levinFirstSpec : ChangeSpec := { name := "levinFirst", fn := fun _ => fun
  | [d1, d2] => { results := [.lit (.bool true)], args := [d1, d2] }
  | _ => none }
def levinFirstRow : OpenClaim := { program := "ytddkocidfhaofaagreat", sum := "94b6092189a435b780522b6fde3165474655a67858c0025d63adfa9e4bbc52ec", func := "anticline/anticlinelaw10.LevinFirst", spec := "levinFirst", unfollowed := true, recurses := true, plainKeys := false, apart := false }
def LevinFirstSaid : Prop := levinFirstRow.holds Tryz.pinned (OpenSpec.ofChange levinFirstSpec)

/-- ITS FALSE NEIGHBOUR: 'it returns false'. Refute it at one input. -/
def levinFirstWrong : ChangeSpec := { name := "levinFirst", fn := fun _ => fun
  | [d1, d2] => { results := [.lit (.bool false)], args := [d1, d2] }
  | _ => none }
def LevinFirstWrongFalsely : Prop := levinFirstRow.holds Tryz.pinned (OpenSpec.ofChange levinFirstWrong)

/-- 'anticlinelaw10.LevinSolves': WHATEVER THE INPUT: true; the input reads as it did. -/
def levinSolvesSpec : ChangeSpec := { name := "levinSolves", fn := fun _ => fun
  | [d1, d2, d3, d4] => { results := [.lit (.bool true)], args := [d1, d2, d3, d4] }
  | _ => none }
def levinSolvesRow : OpenClaim := { program := "ytddkocidfhaofaagreat", sum := "94b6092189a435b780522b6fde3165474655a67858c0025d63adfa9e4bbc52ec", func := "anticline/anticlinelaw10.LevinSolves", spec := "levinSolves", unfollowed := true, recurses := true, plainKeys := false, apart := false }
def LevinSolvesSaid : Prop := levinSolvesRow.holds Tryz.pinned (OpenSpec.ofChange levinSolvesSpec)

/-- ITS FALSE NEIGHBOUR: 'it returns false'. Refute it at one input. -/
def levinSolvesWrong : ChangeSpec := { name := "levinSolves", fn := fun _ => fun
  | [d1, d2, d3, d4] => { results := [.lit (.bool false)], args := [d1, d2, d3, d4] }
  | _ => none }
def LevinSolvesWrongFalsely : Prop := levinSolvesRow.holds Tryz.pinned (OpenSpec.ofChange levinSolvesWrong)

/-- 'anticlinelaw10.LevinBreaks': WHATEVER THE INPUT: true; the input reads as it did. -/
def levinBreaksSpec : ChangeSpec := { name := "levinBreaks", fn := fun _ => fun
  | [d1, d2, d3] => { results := [.lit (.bool true)], args := [d1, d2, d3] }
  | _ => none }
def levinBreaksRow : OpenClaim := { program := "ytddkocidfhaofaagreat", sum := "94b6092189a435b780522b6fde3165474655a67858c0025d63adfa9e4bbc52ec", func := "anticline/anticlinelaw10.LevinBreaks", spec := "levinBreaks", unfollowed := true, recurses := true, plainKeys := false, apart := false }
def LevinBreaksSaid : Prop := levinBreaksRow.holds Tryz.pinned (OpenSpec.ofChange levinBreaksSpec)

/-- ITS FALSE NEIGHBOUR: 'it returns false'. Refute it at one input. -/
def levinBreaksWrong : ChangeSpec := { name := "levinBreaks", fn := fun _ => fun
  | [d1, d2, d3] => { results := [.lit (.bool false)], args := [d1, d2, d3] }
  | _ => none }
def LevinBreaksWrongFalsely : Prop := levinBreaksRow.holds Tryz.pinned (OpenSpec.ofChange levinBreaksWrong)

/- THE SECOND FORM. 'bulk': how many values and letters a reading holds, each counted each time it is reached (what is shared counts as often as it is met; a slice's spare places count too). A statement '..UptoSaid' is the law's where the arguments, and the package variables that the reading takes, are together of bulk at most 1048576: NARROWER than '..Said'. Prove '..Said' where nothing that the law and all that it calls make is longer than what came in: it says more and counts as full. Else prove '..UptoSaid'. A law counts once. -/
mutual
def uptoBulk {H : Type} : DataW H → Nat
  | .lit (.string bytes) => bytes.length + 1
  | .lit _ => 1
  | .nil => 1
  | .ptr d => uptoBulk d + 1
  | .slice elems spare => uptoBulkAll elems + uptoBulkAll spare + 1
  | .agg parts => uptoBulkAll parts + 1
  | .iface _ d => uptoBulk d + 1
  | .map entries => uptoBulkEntries entries + 1
  | .held _ => 1
def uptoBulkAll {H : Type} : List (DataW H) → Nat
  | [] => 0
  | d :: r => uptoBulk d + uptoBulkAll r
def uptoBulkEntries {H : Type} : List (Lit × DataW H) → Nat
  | [] => 0
  | x :: r => uptoBulkEntry x + uptoBulkEntries r
def uptoBulkEntry {H : Type} : Lit × DataW H → Nat
  | (.string bytes, d) => bytes.length + uptoBulk d + 1
  | (_, d) => uptoBulk d + 1
 end
def uptoSmall : (H : Type) → List (DataW H) → Bool := fun _ ds => decide (uptoBulkAll ds ≤ 1048576)
def OpenSpec.upto (s : _root_.Go.ChangeSpec) : _root_.Go.OpenSpec := { _root_.Go.OpenSpec.ofChange s with cond := some uptoSmall }

/-- 'anticlinelaw10.LevinSteps', WHERE WHAT IT READS IS OF BULK AT MOST 1048576: true; the input reads as it did. -/
def levinStepsUptoRow : OpenClaim := { program := "ytddkocidfhaofaagreat", sum := "94b6092189a435b780522b6fde3165474655a67858c0025d63adfa9e4bbc52ec", func := "anticline/anticlinelaw10.LevinSteps", spec := "levinSteps", unfollowed := true, recurses := true, plainKeys := false, apart := false, narrowed := true }
def LevinStepsUptoSaid : Prop := levinStepsUptoRow.holds Tryz.pinned (OpenSpec.upto levinStepsSpec)

/-- 'anticlinelaw10.LevinFirst', WHERE WHAT IT READS IS OF BULK AT MOST 1048576: true; the input reads as it did. -/
def levinFirstUptoRow : OpenClaim := { program := "ytddkocidfhaofaagreat", sum := "94b6092189a435b780522b6fde3165474655a67858c0025d63adfa9e4bbc52ec", func := "anticline/anticlinelaw10.LevinFirst", spec := "levinFirst", unfollowed := true, recurses := true, plainKeys := false, apart := false, narrowed := true }
def LevinFirstUptoSaid : Prop := levinFirstUptoRow.holds Tryz.pinned (OpenSpec.upto levinFirstSpec)

/-- 'anticlinelaw10.LevinSolves', WHERE WHAT IT READS IS OF BULK AT MOST 1048576: true; the input reads as it did. -/
def levinSolvesUptoRow : OpenClaim := { program := "ytddkocidfhaofaagreat", sum := "94b6092189a435b780522b6fde3165474655a67858c0025d63adfa9e4bbc52ec", func := "anticline/anticlinelaw10.LevinSolves", spec := "levinSolves", unfollowed := true, recurses := true, plainKeys := false, apart := false, narrowed := true }
def LevinSolvesUptoSaid : Prop := levinSolvesUptoRow.holds Tryz.pinned (OpenSpec.upto levinSolvesSpec)

/-- 'anticlinelaw10.LevinBreaks', WHERE WHAT IT READS IS OF BULK AT MOST 1048576: true; the input reads as it did. -/
def levinBreaksUptoRow : OpenClaim := { program := "ytddkocidfhaofaagreat", sum := "94b6092189a435b780522b6fde3165474655a67858c0025d63adfa9e4bbc52ec", func := "anticline/anticlinelaw10.LevinBreaks", spec := "levinBreaks", unfollowed := true, recurses := true, plainKeys := false, apart := false, narrowed := true }
def LevinBreaksUptoSaid : Prop := levinBreaksUptoRow.holds Tryz.pinned (OpenSpec.upto levinBreaksSpec)

end Rows
end Go.Proofs.YtddkocidfhaofaaGreat

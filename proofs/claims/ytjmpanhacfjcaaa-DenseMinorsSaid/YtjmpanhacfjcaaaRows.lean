/-
  No cell of these rows narrows 'for every input' (looked for: loops, veiled, ifaces, maps, wideKeys, modest, calm, conditions, laid).
  DERIVED. THE GIVEN ROWS OF THIS SEAT. 8 by the template 'for every input the law returns true; each argument reads behind the call as it read before'; 0 by the template 'total and deterministic' (their statements: YtjmpanhacfjcaaaTotals.lean).
  GIVEN WITH THE SEED: the statements are not yours to turn. If you find one false, say at which input.
  Laid BY PROGRAM, IN A SANDBOX (cutbox-rows.mjs): the forced cells as the released guide's own fill.sh prints them over the translation 6fc496bfb13d29e5… (all of the seat's roots in one cut). By AI agents, Wed Nov 11 2026. No macro, syntax, notation, axiom, sorry.
-/
import Derived.Test.YtjmpanhacfjcaaaChecked
import GoSem.Claim
import GoSem.ClaimJoined
import GoSem.ClaimMapViews
import Derived.JoinedTies
import Derived.KernelRfl
namespace Go.Proofs.Ytjmpanhacfjcaaa
/- THE CELL 'sum', in the pinned program and in every row, IS THE sha256 OF THE DUMP (.gsa) THAT YtjmpanhacfjcaaaProg.lean LOADS. Nothing in Lean hashes anything: it is a label: what it is worth is what the hold of that sum in a sandbox is worth. -/
noncomputable def Try.pinned : Pinned := { name := "ytjmpanhacfjcaaa", sum := "6fc496bfb13d29e5c00b7247dc41bb3efea655bbdf82379521e5cccc8d1e850a", checked := Try.checked }
namespace Rows
def none {H : Type} : Left H := { results := [], args := [] }

/-- 'anticlinelaw7.DenseRows': WHATEVER THE INPUT: true; the input reads as it did. -/
def denseRowsSpec : ChangeSpec := { name := "denseRows", fn := fun _ => fun
  | [d1, d2, d3, d4, d5] => { results := [.lit (.bool true)], args := [d1, d2, d3, d4, d5] }
  | _ => none }
def denseRowsRow : OpenClaim := { program := "ytjmpanhacfjcaaa", sum := "6fc496bfb13d29e5c00b7247dc41bb3efea655bbdf82379521e5cccc8d1e850a", func := "anticline/anticlinelaw7.DenseRows", spec := "denseRows", unfollowed := true, recurses := true, apart := false }
def DenseRowsSaid : Prop := denseRowsRow.holds Try.pinned (OpenSpec.ofChange denseRowsSpec)

/-- ITS FALSE NEIGHBOUR: 'it returns false'. Refute it at one input. -/
def denseRowsWrong : ChangeSpec := { name := "denseRows", fn := fun _ => fun
  | [d1, d2, d3, d4, d5] => { results := [.lit (.bool false)], args := [d1, d2, d3, d4, d5] }
  | _ => none }
def DenseRowsWrongFalsely : Prop := denseRowsRow.holds Try.pinned (OpenSpec.ofChange denseRowsWrong)

/-- 'anticlinelaw7.DenseSolves': WHATEVER THE INPUT: true; the input reads as it did. -/
def denseSolvesSpec : ChangeSpec := { name := "denseSolves", fn := fun _ => fun
  | [d1, d2, d3] => { results := [.lit (.bool true)], args := [d1, d2, d3] }
  | _ => none }
def denseSolvesRow : OpenClaim := { program := "ytjmpanhacfjcaaa", sum := "6fc496bfb13d29e5c00b7247dc41bb3efea655bbdf82379521e5cccc8d1e850a", func := "anticline/anticlinelaw7.DenseSolves", spec := "denseSolves", unfollowed := true, recurses := true, apart := false }
def DenseSolvesSaid : Prop := denseSolvesRow.holds Try.pinned (OpenSpec.ofChange denseSolvesSpec)

/-- ITS FALSE NEIGHBOUR: 'it returns false'. Refute it at one input. -/
def denseSolvesWrong : ChangeSpec := { name := "denseSolves", fn := fun _ => fun
  | [d1, d2, d3] => { results := [.lit (.bool false)], args := [d1, d2, d3] }
  | _ => none }
def DenseSolvesWrongFalsely : Prop := denseSolvesRow.holds Try.pinned (OpenSpec.ofChange denseSolvesWrong)

/-- 'anticlinelaw7.DenseCramer': WHATEVER THE INPUT: true; the input reads as it did. -/
def denseCramerSpec : ChangeSpec := { name := "denseCramer", fn := fun _ => fun
  | [d1, d2, d3, d4] => { results := [.lit (.bool true)], args := [d1, d2, d3, d4] }
  | _ => none }
def denseCramerRow : OpenClaim := { program := "ytjmpanhacfjcaaa", sum := "6fc496bfb13d29e5c00b7247dc41bb3efea655bbdf82379521e5cccc8d1e850a", func := "anticline/anticlinelaw7.DenseCramer", spec := "denseCramer", unfollowed := true, recurses := true, apart := false }
def DenseCramerSaid : Prop := denseCramerRow.holds Try.pinned (OpenSpec.ofChange denseCramerSpec)

/-- ITS FALSE NEIGHBOUR: 'it returns false'. Refute it at one input. -/
def denseCramerWrong : ChangeSpec := { name := "denseCramer", fn := fun _ => fun
  | [d1, d2, d3, d4] => { results := [.lit (.bool false)], args := [d1, d2, d3, d4] }
  | _ => none }
def DenseCramerWrongFalsely : Prop := denseCramerRow.holds Try.pinned (OpenSpec.ofChange denseCramerWrong)

/-- 'anticlinelaw7.DenseMinors': WHATEVER THE INPUT: true; the input reads as it did. -/
def denseMinorsSpec : ChangeSpec := { name := "denseMinors", fn := fun _ => fun
  | [d1, d2, d3] => { results := [.lit (.bool true)], args := [d1, d2, d3] }
  | _ => none }
def denseMinorsRow : OpenClaim := { program := "ytjmpanhacfjcaaa", sum := "6fc496bfb13d29e5c00b7247dc41bb3efea655bbdf82379521e5cccc8d1e850a", func := "anticline/anticlinelaw7.DenseMinors", spec := "denseMinors", unfollowed := true, recurses := true, apart := false }
def DenseMinorsSaid : Prop := denseMinorsRow.holds Try.pinned (OpenSpec.ofChange denseMinorsSpec)

/-- ITS FALSE NEIGHBOUR: 'it returns false'. Refute it at one input. -/
def denseMinorsWrong : ChangeSpec := { name := "denseMinors", fn := fun _ => fun
  | [d1, d2, d3] => { results := [.lit (.bool false)], args := [d1, d2, d3] }
  | _ => none }
def DenseMinorsWrongFalsely : Prop := denseMinorsRow.holds Try.pinned (OpenSpec.ofChange denseMinorsWrong)

/-- 'anticlinelaw7.DenseDets': WHATEVER THE INPUT: true; the input reads as it did. -/
def denseDetsSpec : ChangeSpec := { name := "denseDets", fn := fun _ => fun
  | [d1, d2, d3, d4] => { results := [.lit (.bool true)], args := [d1, d2, d3, d4] }
  | _ => none }
def denseDetsRow : OpenClaim := { program := "ytjmpanhacfjcaaa", sum := "6fc496bfb13d29e5c00b7247dc41bb3efea655bbdf82379521e5cccc8d1e850a", func := "anticline/anticlinelaw7.DenseDets", spec := "denseDets", unfollowed := true, recurses := true, apart := false }
def DenseDetsSaid : Prop := denseDetsRow.holds Try.pinned (OpenSpec.ofChange denseDetsSpec)

/-- ITS FALSE NEIGHBOUR: 'it returns false'. Refute it at one input. -/
def denseDetsWrong : ChangeSpec := { name := "denseDets", fn := fun _ => fun
  | [d1, d2, d3, d4] => { results := [.lit (.bool false)], args := [d1, d2, d3, d4] }
  | _ => none }
def DenseDetsWrongFalsely : Prop := denseDetsRow.holds Try.pinned (OpenSpec.ofChange denseDetsWrong)

/-- 'anticlinelaw7.DenseRing': WHATEVER THE INPUT: true; the input reads as it did. -/
def denseRingSpec : ChangeSpec := { name := "denseRing", fn := fun _ => fun
  | [d1, d2, d3, d4, d5] => { results := [.lit (.bool true)], args := [d1, d2, d3, d4, d5] }
  | _ => none }
def denseRingRow : OpenClaim := { program := "ytjmpanhacfjcaaa", sum := "6fc496bfb13d29e5c00b7247dc41bb3efea655bbdf82379521e5cccc8d1e850a", func := "anticline/anticlinelaw7.DenseRing", spec := "denseRing", unfollowed := true, recurses := true, apart := false }
def DenseRingSaid : Prop := denseRingRow.holds Try.pinned (OpenSpec.ofChange denseRingSpec)

/-- ITS FALSE NEIGHBOUR: 'it returns false'. Refute it at one input. -/
def denseRingWrong : ChangeSpec := { name := "denseRing", fn := fun _ => fun
  | [d1, d2, d3, d4, d5] => { results := [.lit (.bool false)], args := [d1, d2, d3, d4, d5] }
  | _ => none }
def DenseRingWrongFalsely : Prop := denseRingRow.holds Try.pinned (OpenSpec.ofChange denseRingWrong)

/-- 'anticlinelaw7.DenseOps': WHATEVER THE INPUT: true; the input reads as it did. -/
def denseOpsSpec : ChangeSpec := { name := "denseOps", fn := fun _ => fun
  | [d1, d2, d3, d4] => { results := [.lit (.bool true)], args := [d1, d2, d3, d4] }
  | _ => none }
def denseOpsRow : OpenClaim := { program := "ytjmpanhacfjcaaa", sum := "6fc496bfb13d29e5c00b7247dc41bb3efea655bbdf82379521e5cccc8d1e850a", func := "anticline/anticlinelaw7.DenseOps", spec := "denseOps", unfollowed := true, recurses := true, apart := false }
def DenseOpsSaid : Prop := denseOpsRow.holds Try.pinned (OpenSpec.ofChange denseOpsSpec)

/-- ITS FALSE NEIGHBOUR: 'it returns false'. Refute it at one input. -/
def denseOpsWrong : ChangeSpec := { name := "denseOps", fn := fun _ => fun
  | [d1, d2, d3, d4] => { results := [.lit (.bool false)], args := [d1, d2, d3, d4] }
  | _ => none }
def DenseOpsWrongFalsely : Prop := denseOpsRow.holds Try.pinned (OpenSpec.ofChange denseOpsWrong)

/-- 'anticlinelaw7.DenseKnown': WHATEVER THE INPUT: true; the input reads as it did. -/
def denseKnownSpec : ChangeSpec := { name := "denseKnown", fn := fun _ => fun
  | [d] => { results := [.lit (.bool true)], args := [d] }
  | _ => none }
def denseKnownRow : OpenClaim := { program := "ytjmpanhacfjcaaa", sum := "6fc496bfb13d29e5c00b7247dc41bb3efea655bbdf82379521e5cccc8d1e850a", func := "anticline/anticlinelaw7.DenseKnown", spec := "denseKnown", unfollowed := true, recurses := true, apart := false }
def DenseKnownSaid : Prop := denseKnownRow.holds Try.pinned (OpenSpec.ofChange denseKnownSpec)

/-- ITS FALSE NEIGHBOUR: 'it returns false'. Refute it at one input. -/
def denseKnownWrong : ChangeSpec := { name := "denseKnown", fn := fun _ => fun
  | [d] => { results := [.lit (.bool false)], args := [d] }
  | _ => none }
def DenseKnownWrongFalsely : Prop := denseKnownRow.holds Try.pinned (OpenSpec.ofChange denseKnownWrong)

/- THE SECOND FORM. 'bulk': how many values and letters a reading holds, each counted each time it is reached (what is shared counts as often as it is met; a slice's spare places count too). A statement '..UptoSaid' is the law's where the arguments, and the package variables that the reading takes, are together of bulk at most 1048576: NARROWER than '..Said'. Prove '..Said' where nothing that the law and all that it calls make is longer than what came in: it says more and counts as full. Else prove '..UptoSaid'. A law counts once. -/
mutual
def uptoBulk {H : Type} : DataW H → Nat
  | .lit (.string bytes) => bytes.length + 1
  | .lit _ => 1
  | .nil => 1
  | .ptr d => uptoBulk d + 1
  | .slice elems spare => uptoBulkAll elems + uptoBulkAll spare + 1
  | .agg parts => uptoBulkAll parts + 1
  | .iface _ d => uptoBulk d + 1
  | .map entries => uptoBulkEntries entries + 1
  | .held _ => 1
def uptoBulkAll {H : Type} : List (DataW H) → Nat
  | [] => 0
  | d :: r => uptoBulk d + uptoBulkAll r
def uptoBulkEntries {H : Type} : List (Lit × DataW H) → Nat
  | [] => 0
  | x :: r => uptoBulkEntry x + uptoBulkEntries r
def uptoBulkEntry {H : Type} : Lit × DataW H → Nat
  | (.string bytes, d) => bytes.length + uptoBulk d + 1
  | (_, d) => uptoBulk d + 1
 end
def uptoSmall : (H : Type) → List (DataW H) → Bool := fun _ ds => decide (uptoBulkAll ds ≤ 1048576)
def OpenSpec.upto (s : _root_.Go.ChangeSpec) : _root_.Go.OpenSpec := { _root_.Go.OpenSpec.ofChange s with cond := some uptoSmall }

/-- 'anticlinelaw7.DenseRows', WHERE WHAT IT READS IS OF BULK AT MOST 1048576: true; the input reads as it did. -/
def denseRowsUptoRow : OpenClaim := { program := "ytjmpanhacfjcaaa", sum := "6fc496bfb13d29e5c00b7247dc41bb3efea655bbdf82379521e5cccc8d1e850a", func := "anticline/anticlinelaw7.DenseRows", spec := "denseRows", unfollowed := true, recurses := true, apart := false, narrowed := true }
def DenseRowsUptoSaid : Prop := denseRowsUptoRow.holds Try.pinned (OpenSpec.upto denseRowsSpec)

/-- 'anticlinelaw7.DenseSolves', WHERE WHAT IT READS IS OF BULK AT MOST 1048576: true; the input reads as it did. -/
def denseSolvesUptoRow : OpenClaim := { program := "ytjmpanhacfjcaaa", sum := "6fc496bfb13d29e5c00b7247dc41bb3efea655bbdf82379521e5cccc8d1e850a", func := "anticline/anticlinelaw7.DenseSolves", spec := "denseSolves", unfollowed := true, recurses := true, apart := false, narrowed := true }
def DenseSolvesUptoSaid : Prop := denseSolvesUptoRow.holds Try.pinned (OpenSpec.upto denseSolvesSpec)

/-- 'anticlinelaw7.DenseCramer', WHERE WHAT IT READS IS OF BULK AT MOST 1048576: true; the input reads as it did. -/
def denseCramerUptoRow : OpenClaim := { program := "ytjmpanhacfjcaaa", sum := "6fc496bfb13d29e5c00b7247dc41bb3efea655bbdf82379521e5cccc8d1e850a", func := "anticline/anticlinelaw7.DenseCramer", spec := "denseCramer", unfollowed := true, recurses := true, apart := false, narrowed := true }
def DenseCramerUptoSaid : Prop := denseCramerUptoRow.holds Try.pinned (OpenSpec.upto denseCramerSpec)

/-- 'anticlinelaw7.DenseMinors', WHERE WHAT IT READS IS OF BULK AT MOST 1048576: true; the input reads as it did. -/
def denseMinorsUptoRow : OpenClaim := { program := "ytjmpanhacfjcaaa", sum := "6fc496bfb13d29e5c00b7247dc41bb3efea655bbdf82379521e5cccc8d1e850a", func := "anticline/anticlinelaw7.DenseMinors", spec := "denseMinors", unfollowed := true, recurses := true, apart := false, narrowed := true }
def DenseMinorsUptoSaid : Prop := denseMinorsUptoRow.holds Try.pinned (OpenSpec.upto denseMinorsSpec)

/-- 'anticlinelaw7.DenseDets', WHERE WHAT IT READS IS OF BULK AT MOST 1048576: true; the input reads as it did. -/
def denseDetsUptoRow : OpenClaim := { program := "ytjmpanhacfjcaaa", sum := "6fc496bfb13d29e5c00b7247dc41bb3efea655bbdf82379521e5cccc8d1e850a", func := "anticline/anticlinelaw7.DenseDets", spec := "denseDets", unfollowed := true, recurses := true, apart := false, narrowed := true }
def DenseDetsUptoSaid : Prop := denseDetsUptoRow.holds Try.pinned (OpenSpec.upto denseDetsSpec)

/-- 'anticlinelaw7.DenseRing', WHERE WHAT IT READS IS OF BULK AT MOST 1048576: true; the input reads as it did. -/
def denseRingUptoRow : OpenClaim := { program := "ytjmpanhacfjcaaa", sum := "6fc496bfb13d29e5c00b7247dc41bb3efea655bbdf82379521e5cccc8d1e850a", func := "anticline/anticlinelaw7.DenseRing", spec := "denseRing", unfollowed := true, recurses := true, apart := false, narrowed := true }
def DenseRingUptoSaid : Prop := denseRingUptoRow.holds Try.pinned (OpenSpec.upto denseRingSpec)

/-- 'anticlinelaw7.DenseOps', WHERE WHAT IT READS IS OF BULK AT MOST 1048576: true; the input reads as it did. -/
def denseOpsUptoRow : OpenClaim := { program := "ytjmpanhacfjcaaa", sum := "6fc496bfb13d29e5c00b7247dc41bb3efea655bbdf82379521e5cccc8d1e850a", func := "anticline/anticlinelaw7.DenseOps", spec := "denseOps", unfollowed := true, recurses := true, apart := false, narrowed := true }
def DenseOpsUptoSaid : Prop := denseOpsUptoRow.holds Try.pinned (OpenSpec.upto denseOpsSpec)

/-- 'anticlinelaw7.DenseKnown', WHERE WHAT IT READS IS OF BULK AT MOST 1048576: true; the input reads as it did. -/
def denseKnownUptoRow : OpenClaim := { program := "ytjmpanhacfjcaaa", sum := "6fc496bfb13d29e5c00b7247dc41bb3efea655bbdf82379521e5cccc8d1e850a", func := "anticline/anticlinelaw7.DenseKnown", spec := "denseKnown", unfollowed := true, recurses := true, apart := false, narrowed := true }
def DenseKnownUptoSaid : Prop := denseKnownUptoRow.holds Try.pinned (OpenSpec.upto denseKnownSpec)

end Rows
end Go.Proofs.Ytjmpanhacfjcaaa

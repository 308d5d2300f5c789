/-
  No cell of these rows narrows 'for every input' (looked for: loops, veiled, ifaces, maps, wideKeys, modest, calm, conditions, laid).
  DERIVED. THE GIVEN ROWS OF THIS SEAT. 8 by the template 'for every input the law returns true; each argument reads behind the call as it read before'; 0 by the template 'total and deterministic' (their statements: YtjngpgpgajkieaaTotals.lean).
  GIVEN WITH THE SEED: the statements are not yours to turn. If you find one false, say at which input.
  Laid BY PROGRAM, IN A SANDBOX (cutbox-rows.mjs): the forced cells as the released guide's own fill.sh prints them over the translation 9fc28ae852ba4c89… (all of the seat's roots in one cut). By AI agents, Wed Nov 11 2026. No macro, syntax, notation, axiom, sorry.
-/
import Derived.Test.YtjngpgpgajkieaaChecked
import GoSem.Claim
import GoSem.ClaimJoined
import GoSem.ClaimMapViews
import Derived.JoinedTies
import Derived.KernelRfl
namespace Go.Proofs.Ytjngpgpgajkieaa
/- THE CELL 'sum', in the pinned program and in every row, IS THE sha256 OF THE DUMP (.gsa) THAT YtjngpgpgajkieaaProg.lean LOADS. Nothing in Lean hashes anything: it is a label: what it is worth is what the hold of that sum in a sandbox is worth. -/
noncomputable def Try.pinned : Pinned := { name := "ytjngpgpgajkieaa", sum := "9fc28ae852ba4c890fb245f0c402045863fee3918a69b1750de7d101490bb291", checked := Try.checked }
namespace Rows
def none {H : Type} : Left H := { results := [], args := [] }

/-- 'anticlinelaw5.GenChecks': WHATEVER THE INPUT: true; the input reads as it did. -/
def genChecksSpec : ChangeSpec := { name := "genChecks", fn := fun _ => fun
  | [d1, d2, d3, d4, d5, d6, d7] => { results := [.lit (.bool true)], args := [d1, d2, d3, d4, d5, d6, d7] }
  | _ => none }
def genChecksRow : OpenClaim := { program := "ytjngpgpgajkieaa", sum := "9fc28ae852ba4c890fb245f0c402045863fee3918a69b1750de7d101490bb291", func := "anticline/anticlinelaw5.GenChecks", spec := "genChecks", unfollowed := true, recurses := true, plainKeys := false, apart := false }
def GenChecksSaid : Prop := genChecksRow.holds Try.pinned (OpenSpec.ofChange genChecksSpec)

/-- ITS FALSE NEIGHBOUR: 'it returns false'. Refute it at one input. -/
def genChecksWrong : ChangeSpec := { name := "genChecks", fn := fun _ => fun
  | [d1, d2, d3, d4, d5, d6, d7] => { results := [.lit (.bool false)], args := [d1, d2, d3, d4, d5, d6, d7] }
  | _ => none }
def GenChecksWrongFalsely : Prop := genChecksRow.holds Try.pinned (OpenSpec.ofChange genChecksWrong)

/-- 'anticlinelaw5.GenShapes': WHATEVER THE INPUT: true; the input reads as it did. -/
def genShapesSpec : ChangeSpec := { name := "genShapes", fn := fun _ => fun
  | [d1, d2] => { results := [.lit (.bool true)], args := [d1, d2] }
  | _ => none }
def genShapesRow : OpenClaim := { program := "ytjngpgpgajkieaa", sum := "9fc28ae852ba4c890fb245f0c402045863fee3918a69b1750de7d101490bb291", func := "anticline/anticlinelaw5.GenShapes", spec := "genShapes", unfollowed := true, recurses := true, plainKeys := false, apart := false }
def GenShapesSaid : Prop := genShapesRow.holds Try.pinned (OpenSpec.ofChange genShapesSpec)

/-- ITS FALSE NEIGHBOUR: 'it returns false'. Refute it at one input. -/
def genShapesWrong : ChangeSpec := { name := "genShapes", fn := fun _ => fun
  | [d1, d2] => { results := [.lit (.bool false)], args := [d1, d2] }
  | _ => none }
def GenShapesWrongFalsely : Prop := genShapesRow.holds Try.pinned (OpenSpec.ofChange genShapesWrong)

/-- 'anticlinelaw5.GenLinear': WHATEVER THE INPUT: true; the input reads as it did. -/
def genLinearSpec : ChangeSpec := { name := "genLinear", fn := fun _ => fun
  | [d1, d2, d3, d4] => { results := [.lit (.bool true)], args := [d1, d2, d3, d4] }
  | _ => none }
def genLinearRow : OpenClaim := { program := "ytjngpgpgajkieaa", sum := "9fc28ae852ba4c890fb245f0c402045863fee3918a69b1750de7d101490bb291", func := "anticline/anticlinelaw5.GenLinear", spec := "genLinear", unfollowed := true, recurses := true, plainKeys := false, apart := false }
def GenLinearSaid : Prop := genLinearRow.holds Try.pinned (OpenSpec.ofChange genLinearSpec)

/-- ITS FALSE NEIGHBOUR: 'it returns false'. Refute it at one input. -/
def genLinearWrong : ChangeSpec := { name := "genLinear", fn := fun _ => fun
  | [d1, d2, d3, d4] => { results := [.lit (.bool false)], args := [d1, d2, d3, d4] }
  | _ => none }
def GenLinearWrongFalsely : Prop := genLinearRow.holds Try.pinned (OpenSpec.ofChange genLinearWrong)

/-- 'anticlinelaw5.GenKnown': WHATEVER THE INPUT: true; the input reads as it did. -/
def genKnownSpec : ChangeSpec := { name := "genKnown", fn := fun _ => fun
  | [d] => { results := [.lit (.bool true)], args := [d] }
  | _ => none }
def genKnownRow : OpenClaim := { program := "ytjngpgpgajkieaa", sum := "9fc28ae852ba4c890fb245f0c402045863fee3918a69b1750de7d101490bb291", func := "anticline/anticlinelaw5.GenKnown", spec := "genKnown", unfollowed := true, recurses := true, plainKeys := false, apart := false }
def GenKnownSaid : Prop := genKnownRow.holds Try.pinned (OpenSpec.ofChange genKnownSpec)

/-- ITS FALSE NEIGHBOUR: 'it returns false'. Refute it at one input. -/
def genKnownWrong : ChangeSpec := { name := "genKnown", fn := fun _ => fun
  | [d] => { results := [.lit (.bool false)], args := [d] }
  | _ => none }
def GenKnownWrongFalsely : Prop := genKnownRow.holds Try.pinned (OpenSpec.ofChange genKnownWrong)

/-- 'anticlinelaw5.GenErrs': WHATEVER THE INPUT: true; the input reads as it did. -/
def genErrsSpec : ChangeSpec := { name := "genErrs", fn := fun _ => fun
  | [d1, d2] => { results := [.lit (.bool true)], args := [d1, d2] }
  | _ => none }
def genErrsRow : OpenClaim := { program := "ytjngpgpgajkieaa", sum := "9fc28ae852ba4c890fb245f0c402045863fee3918a69b1750de7d101490bb291", func := "anticline/anticlinelaw5.GenErrs", spec := "genErrs", unfollowed := true, recurses := true, plainKeys := false, apart := false }
def GenErrsSaid : Prop := genErrsRow.holds Try.pinned (OpenSpec.ofChange genErrsSpec)

/-- ITS FALSE NEIGHBOUR: 'it returns false'. Refute it at one input. -/
def genErrsWrong : ChangeSpec := { name := "genErrs", fn := fun _ => fun
  | [d1, d2] => { results := [.lit (.bool false)], args := [d1, d2] }
  | _ => none }
def GenErrsWrongFalsely : Prop := genErrsRow.holds Try.pinned (OpenSpec.ofChange genErrsWrong)

/-- 'anticlinelaw5.GenLike': WHATEVER THE INPUT: true; the input reads as it did. -/
def genLikeSpec : ChangeSpec := { name := "genLike", fn := fun _ => fun
  | [d1, d2] => { results := [.lit (.bool true)], args := [d1, d2] }
  | _ => none }
def genLikeRow : OpenClaim := { program := "ytjngpgpgajkieaa", sum := "9fc28ae852ba4c890fb245f0c402045863fee3918a69b1750de7d101490bb291", func := "anticline/anticlinelaw5.GenLike", spec := "genLike", unfollowed := true, recurses := true, plainKeys := false, apart := false }
def GenLikeSaid : Prop := genLikeRow.holds Try.pinned (OpenSpec.ofChange genLikeSpec)

/-- ITS FALSE NEIGHBOUR: 'it returns false'. Refute it at one input. -/
def genLikeWrong : ChangeSpec := { name := "genLike", fn := fun _ => fun
  | [d1, d2] => { results := [.lit (.bool false)], args := [d1, d2] }
  | _ => none }
def GenLikeWrongFalsely : Prop := genLikeRow.holds Try.pinned (OpenSpec.ofChange genLikeWrong)

/-- 'anticlinelaw5.GenSame': WHATEVER THE INPUT: true; the input reads as it did. -/
def genSameSpec : ChangeSpec := { name := "genSame", fn := fun _ => fun
  | [d1, d2, d3, d4, d5] => { results := [.lit (.bool true)], args := [d1, d2, d3, d4, d5] }
  | _ => none }
def genSameRow : OpenClaim := { program := "ytjngpgpgajkieaa", sum := "9fc28ae852ba4c890fb245f0c402045863fee3918a69b1750de7d101490bb291", func := "anticline/anticlinelaw5.GenSame", spec := "genSame", unfollowed := true, recurses := true, plainKeys := false, apart := false }
def GenSameSaid : Prop := genSameRow.holds Try.pinned (OpenSpec.ofChange genSameSpec)

/-- ITS FALSE NEIGHBOUR: 'it returns false'. Refute it at one input. -/
def genSameWrong : ChangeSpec := { name := "genSame", fn := fun _ => fun
  | [d1, d2, d3, d4, d5] => { results := [.lit (.bool false)], args := [d1, d2, d3, d4, d5] }
  | _ => none }
def GenSameWrongFalsely : Prop := genSameRow.holds Try.pinned (OpenSpec.ofChange genSameWrong)

/-- 'anticlinelaw5.GenEntries': WHATEVER THE INPUT: true; the input reads as it did. -/
def genEntriesSpec : ChangeSpec := { name := "genEntries", fn := fun _ => fun
  | [d1, d2, d3] => { results := [.lit (.bool true)], args := [d1, d2, d3] }
  | _ => none }
def genEntriesRow : OpenClaim := { program := "ytjngpgpgajkieaa", sum := "9fc28ae852ba4c890fb245f0c402045863fee3918a69b1750de7d101490bb291", func := "anticline/anticlinelaw5.GenEntries", spec := "genEntries", unfollowed := true, recurses := true, plainKeys := false, apart := false }
def GenEntriesSaid : Prop := genEntriesRow.holds Try.pinned (OpenSpec.ofChange genEntriesSpec)

/-- ITS FALSE NEIGHBOUR: 'it returns false'. Refute it at one input. -/
def genEntriesWrong : ChangeSpec := { name := "genEntries", fn := fun _ => fun
  | [d1, d2, d3] => { results := [.lit (.bool false)], args := [d1, d2, d3] }
  | _ => none }
def GenEntriesWrongFalsely : Prop := genEntriesRow.holds Try.pinned (OpenSpec.ofChange genEntriesWrong)

/- THE SECOND FORM. 'bulk': how many values and letters a reading holds, each counted each time it is reached (what is shared counts as often as it is met; a slice's spare places count too). A statement '..UptoSaid' is the law's where the arguments, and the package variables that the reading takes, are together of bulk at most 1048576: NARROWER than '..Said'. Prove '..Said' where nothing that the law and all that it calls make is longer than what came in: it says more and counts as full. Else prove '..UptoSaid'. A law counts once. -/
mutual
def uptoBulk {H : Type} : DataW H → Nat
  | .lit (.string bytes) => bytes.length + 1
  | .lit _ => 1
  | .nil => 1
  | .ptr d => uptoBulk d + 1
  | .slice elems spare => uptoBulkAll elems + uptoBulkAll spare + 1
  | .agg parts => uptoBulkAll parts + 1
  | .iface _ d => uptoBulk d + 1
  | .map entries => uptoBulkEntries entries + 1
  | .held _ => 1
def uptoBulkAll {H : Type} : List (DataW H) → Nat
  | [] => 0
  | d :: r => uptoBulk d + uptoBulkAll r
def uptoBulkEntries {H : Type} : List (Lit × DataW H) → Nat
  | [] => 0
  | x :: r => uptoBulkEntry x + uptoBulkEntries r
def uptoBulkEntry {H : Type} : Lit × DataW H → Nat
  | (.string bytes, d) => bytes.length + uptoBulk d + 1
  | (_, d) => uptoBulk d + 1
 end
def uptoSmall : (H : Type) → List (DataW H) → Bool := fun _ ds => decide (uptoBulkAll ds ≤ 1048576)
def OpenSpec.upto (s : _root_.Go.ChangeSpec) : _root_.Go.OpenSpec := { _root_.Go.OpenSpec.ofChange s with cond := some uptoSmall }

/-- 'anticlinelaw5.GenChecks', WHERE WHAT IT READS IS OF BULK AT MOST 1048576: true; the input reads as it did. -/
def genChecksUptoRow : OpenClaim := { program := "ytjngpgpgajkieaa", sum := "9fc28ae852ba4c890fb245f0c402045863fee3918a69b1750de7d101490bb291", func := "anticline/anticlinelaw5.GenChecks", spec := "genChecks", unfollowed := true, recurses := true, plainKeys := false, apart := false, narrowed := true }
def GenChecksUptoSaid : Prop := genChecksUptoRow.holds Try.pinned (OpenSpec.upto genChecksSpec)

/-- 'anticlinelaw5.GenShapes', WHERE WHAT IT READS IS OF BULK AT MOST 1048576: true; the input reads as it did. -/
def genShapesUptoRow : OpenClaim := { program := "ytjngpgpgajkieaa", sum := "9fc28ae852ba4c890fb245f0c402045863fee3918a69b1750de7d101490bb291", func := "anticline/anticlinelaw5.GenShapes", spec := "genShapes", unfollowed := true, recurses := true, plainKeys := false, apart := false, narrowed := true }
def GenShapesUptoSaid : Prop := genShapesUptoRow.holds Try.pinned (OpenSpec.upto genShapesSpec)

/-- 'anticlinelaw5.GenLinear', WHERE WHAT IT READS IS OF BULK AT MOST 1048576: true; the input reads as it did. -/
def genLinearUptoRow : OpenClaim := { program := "ytjngpgpgajkieaa", sum := "9fc28ae852ba4c890fb245f0c402045863fee3918a69b1750de7d101490bb291", func := "anticline/anticlinelaw5.GenLinear", spec := "genLinear", unfollowed := true, recurses := true, plainKeys := false, apart := false, narrowed := true }
def GenLinearUptoSaid : Prop := genLinearUptoRow.holds Try.pinned (OpenSpec.upto genLinearSpec)

/-- 'anticlinelaw5.GenKnown', WHERE WHAT IT READS IS OF BULK AT MOST 1048576: true; the input reads as it did. -/
def genKnownUptoRow : OpenClaim := { program := "ytjngpgpgajkieaa", sum := "9fc28ae852ba4c890fb245f0c402045863fee3918a69b1750de7d101490bb291", func := "anticline/anticlinelaw5.GenKnown", spec := "genKnown", unfollowed := true, recurses := true, plainKeys := false, apart := false, narrowed := true }
def GenKnownUptoSaid : Prop := genKnownUptoRow.holds Try.pinned (OpenSpec.upto genKnownSpec)

/-- 'anticlinelaw5.GenErrs', WHERE WHAT IT READS IS OF BULK AT MOST 1048576: true; the input reads as it did. -/
def genErrsUptoRow : OpenClaim := { program := "ytjngpgpgajkieaa", sum := "9fc28ae852ba4c890fb245f0c402045863fee3918a69b1750de7d101490bb291", func := "anticline/anticlinelaw5.GenErrs", spec := "genErrs", unfollowed := true, recurses := true, plainKeys := false, apart := false, narrowed := true }
def GenErrsUptoSaid : Prop := genErrsUptoRow.holds Try.pinned (OpenSpec.upto genErrsSpec)

/-- 'anticlinelaw5.GenLike', WHERE WHAT IT READS IS OF BULK AT MOST 1048576: true; the input reads as it did. -/
def genLikeUptoRow : OpenClaim := { program := "ytjngpgpgajkieaa", sum := "9fc28ae852ba4c890fb245f0c402045863fee3918a69b1750de7d101490bb291", func := "anticline/anticlinelaw5.GenLike", spec := "genLike", unfollowed := true, recurses := true, plainKeys := false, apart := false, narrowed := true }
def GenLikeUptoSaid : Prop := genLikeUptoRow.holds Try.pinned (OpenSpec.upto genLikeSpec)

/-- 'anticlinelaw5.GenSame', WHERE WHAT IT READS IS OF BULK AT MOST 1048576: true; the input reads as it did. -/
def genSameUptoRow : OpenClaim := { program := "ytjngpgpgajkieaa", sum := "9fc28ae852ba4c890fb245f0c402045863fee3918a69b1750de7d101490bb291", func := "anticline/anticlinelaw5.GenSame", spec := "genSame", unfollowed := true, recurses := true, plainKeys := false, apart := false, narrowed := true }
def GenSameUptoSaid : Prop := genSameUptoRow.holds Try.pinned (OpenSpec.upto genSameSpec)

/-- 'anticlinelaw5.GenEntries', WHERE WHAT IT READS IS OF BULK AT MOST 1048576: true; the input reads as it did. -/
def genEntriesUptoRow : OpenClaim := { program := "ytjngpgpgajkieaa", sum := "9fc28ae852ba4c890fb245f0c402045863fee3918a69b1750de7d101490bb291", func := "anticline/anticlinelaw5.GenEntries", spec := "genEntries", unfollowed := true, recurses := true, plainKeys := false, apart := false, narrowed := true }
def GenEntriesUptoSaid : Prop := genEntriesUptoRow.holds Try.pinned (OpenSpec.upto genEntriesSpec)

end Rows
end Go.Proofs.Ytjngpgpgajkieaa

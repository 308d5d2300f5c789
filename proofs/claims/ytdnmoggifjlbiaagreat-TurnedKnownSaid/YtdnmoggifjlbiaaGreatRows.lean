/-
  No cell of these rows narrows 'for every input' (looked for: loops, veiled, ifaces, maps, wideKeys, modest, calm, conditions, laid).
  DERIVED. THE GIVEN ROWS OF THIS SEAT. 10 by the template 'for every input the law returns true; each argument reads behind the call as it read before'; 0 by the template 'total and deterministic' (their statements: YtdnmoggifjlbiaaGreatTotals.lean).
  GIVEN WITH THE SEED: the statements are not yours to turn. If you find one false, say at which input.
  Laid BY PROGRAM, IN A SANDBOX (cutbox-rows.mjs): the forced cells as the released guide's own fill.sh prints them over the translation 00babe38e58b0744… (all of the seat's roots in one cut). By AI agents, Wed Nov 11 2026. No macro, syntax, notation, axiom, sorry.
-/
import Derived.Test.YtdnmoggifjlbiaaGreatChecked
import GoSem.Claim
import GoSem.ClaimJoined
import GoSem.ClaimMapViews
import Derived.JoinedTies
import Derived.KernelRfl
namespace Go.Proofs.YtdnmoggifjlbiaaGreat
/- THE CELL 'sum', in the pinned program and in every row, IS THE sha256 OF THE DUMP (.gsa) THAT YtdnmoggifjlbiaaGreatProg.lean LOADS. Nothing in Lean hashes anything: it is a label: what it is worth is what the hold of that sum in a sandbox is worth. -/
noncomputable def Tryz.pinned : Pinned := { name := "ytdnmoggifjlbiaagreat", sum := "00babe38e58b0744b56d6623592b3333b154cfc03daa21cf938b583d2dd084bd", checked := Tryz.checked }
namespace Rows
def none {H : Type} : Left H := { results := [], args := [] }

/-- 'anticlinelaw9.FastApplies': WHATEVER THE INPUT: true; the input reads as it did. -/
def fastAppliesSpec : ChangeSpec := { name := "fastApplies", fn := fun _ => fun
  | [d1, d2, d3, d4, d5] => { results := [.lit (.bool true)], args := [d1, d2, d3, d4, d5] }
  | _ => none }
def fastAppliesRow : OpenClaim := { program := "ytdnmoggifjlbiaagreat", sum := "00babe38e58b0744b56d6623592b3333b154cfc03daa21cf938b583d2dd084bd", func := "anticline/anticlinelaw9.FastApplies", spec := "fastApplies", unfollowed := true, recurses := true, plainKeys := false, apart := false }
def FastAppliesSaid : Prop := fastAppliesRow.holds Tryz.pinned (OpenSpec.ofChange fastAppliesSpec)

/-- ITS FALSE NEIGHBOUR: 'it returns false'. Refute it at one input. -/
def fastAppliesWrong : ChangeSpec := { name := "fastApplies", fn := fun _ => fun
  | [d1, d2, d3, d4, d5] => { results := [.lit (.bool false)], args := [d1, d2, d3, d4, d5] }
  | _ => none }
def FastAppliesWrongFalsely : Prop := fastAppliesRow.holds Tryz.pinned (OpenSpec.ofChange fastAppliesWrong)

/-- 'anticlinelaw9.FastWhole': WHATEVER THE INPUT: true; the input reads as it did. -/
def fastWholeSpec : ChangeSpec := { name := "fastWhole", fn := fun _ => fun
  | [d1, d2, d3, d4, d5, d6] => { results := [.lit (.bool true)], args := [d1, d2, d3, d4, d5, d6] }
  | _ => none }
def fastWholeRow : OpenClaim := { program := "ytdnmoggifjlbiaagreat", sum := "00babe38e58b0744b56d6623592b3333b154cfc03daa21cf938b583d2dd084bd", func := "anticline/anticlinelaw9.FastWhole", spec := "fastWhole", unfollowed := true, recurses := true, plainKeys := false, apart := false }
def FastWholeSaid : Prop := fastWholeRow.holds Tryz.pinned (OpenSpec.ofChange fastWholeSpec)

/-- ITS FALSE NEIGHBOUR: 'it returns false'. Refute it at one input. -/
def fastWholeWrong : ChangeSpec := { name := "fastWhole", fn := fun _ => fun
  | [d1, d2, d3, d4, d5, d6] => { results := [.lit (.bool false)], args := [d1, d2, d3, d4, d5, d6] }
  | _ => none }
def FastWholeWrongFalsely : Prop := fastWholeRow.holds Tryz.pinned (OpenSpec.ofChange fastWholeWrong)

/-- 'anticlinelaw9.FastDisp': WHATEVER THE INPUT: true; the input reads as it did. -/
def fastDispSpec : ChangeSpec := { name := "fastDisp", fn := fun _ => fun
  | [d1, d2, d3] => { results := [.lit (.bool true)], args := [d1, d2, d3] }
  | _ => none }
def fastDispRow : OpenClaim := { program := "ytdnmoggifjlbiaagreat", sum := "00babe38e58b0744b56d6623592b3333b154cfc03daa21cf938b583d2dd084bd", func := "anticline/anticlinelaw9.FastDisp", spec := "fastDisp", unfollowed := true, recurses := true, plainKeys := false, apart := false }
def FastDispSaid : Prop := fastDispRow.holds Tryz.pinned (OpenSpec.ofChange fastDispSpec)

/-- ITS FALSE NEIGHBOUR: 'it returns false'. Refute it at one input. -/
def fastDispWrong : ChangeSpec := { name := "fastDisp", fn := fun _ => fun
  | [d1, d2, d3] => { results := [.lit (.bool false)], args := [d1, d2, d3] }
  | _ => none }
def FastDispWrongFalsely : Prop := fastDispRow.holds Tryz.pinned (OpenSpec.ofChange fastDispWrong)

/-- 'anticlinelaw9.FastBig': WHATEVER THE INPUT: true; the input reads as it did. -/
def fastBigSpec : ChangeSpec := { name := "fastBig", fn := fun _ => fun
  | [d1, d2, d3, d4, d5] => { results := [.lit (.bool true)], args := [d1, d2, d3, d4, d5] }
  | _ => none }
def fastBigRow : OpenClaim := { program := "ytdnmoggifjlbiaagreat", sum := "00babe38e58b0744b56d6623592b3333b154cfc03daa21cf938b583d2dd084bd", func := "anticline/anticlinelaw9.FastBig", spec := "fastBig", unfollowed := true, recurses := true, plainKeys := false, apart := false }
def FastBigSaid : Prop := fastBigRow.holds Tryz.pinned (OpenSpec.ofChange fastBigSpec)

/-- ITS FALSE NEIGHBOUR: 'it returns false'. Refute it at one input. -/
def fastBigWrong : ChangeSpec := { name := "fastBig", fn := fun _ => fun
  | [d1, d2, d3, d4, d5] => { results := [.lit (.bool false)], args := [d1, d2, d3, d4, d5] }
  | _ => none }
def FastBigWrongFalsely : Prop := fastBigRow.holds Tryz.pinned (OpenSpec.ofChange fastBigWrong)

/-- 'anticlinelaw9.FastRounds': WHATEVER THE INPUT: true; the input reads as it did. -/
def fastRoundsSpec : ChangeSpec := { name := "fastRounds", fn := fun _ => fun
  | [d1, d2, d3] => { results := [.lit (.bool true)], args := [d1, d2, d3] }
  | _ => none }
def fastRoundsRow : OpenClaim := { program := "ytdnmoggifjlbiaagreat", sum := "00babe38e58b0744b56d6623592b3333b154cfc03daa21cf938b583d2dd084bd", func := "anticline/anticlinelaw9.FastRounds", spec := "fastRounds", unfollowed := true, recurses := true, plainKeys := false, apart := false }
def FastRoundsSaid : Prop := fastRoundsRow.holds Tryz.pinned (OpenSpec.ofChange fastRoundsSpec)

/-- ITS FALSE NEIGHBOUR: 'it returns false'. Refute it at one input. -/
def fastRoundsWrong : ChangeSpec := { name := "fastRounds", fn := fun _ => fun
  | [d1, d2, d3] => { results := [.lit (.bool false)], args := [d1, d2, d3] }
  | _ => none }
def FastRoundsWrongFalsely : Prop := fastRoundsRow.holds Tryz.pinned (OpenSpec.ofChange fastRoundsWrong)

/-- 'anticlinelaw12.TurnedCircles': WHATEVER THE INPUT: true; the input reads as it did. -/
def turnedCirclesSpec : ChangeSpec := { name := "turnedCircles", fn := fun _ => fun
  | [d1, d2, d3, d4] => { results := [.lit (.bool true)], args := [d1, d2, d3, d4] }
  | _ => none }
def turnedCirclesRow : OpenClaim := { program := "ytdnmoggifjlbiaagreat", sum := "00babe38e58b0744b56d6623592b3333b154cfc03daa21cf938b583d2dd084bd", func := "anticline/anticlinelaw12.TurnedCircles", spec := "turnedCircles", unfollowed := true, recurses := true, plainKeys := false, apart := false }
def TurnedCirclesSaid : Prop := turnedCirclesRow.holds Tryz.pinned (OpenSpec.ofChange turnedCirclesSpec)

/-- ITS FALSE NEIGHBOUR: 'it returns false'. Refute it at one input. -/
def turnedCirclesWrong : ChangeSpec := { name := "turnedCircles", fn := fun _ => fun
  | [d1, d2, d3, d4] => { results := [.lit (.bool false)], args := [d1, d2, d3, d4] }
  | _ => none }
def TurnedCirclesWrongFalsely : Prop := turnedCirclesRow.holds Tryz.pinned (OpenSpec.ofChange turnedCirclesWrong)

/-- 'anticlinelaw12.TurnedSums': WHATEVER THE INPUT: true; the input reads as it did. -/
def turnedSumsSpec : ChangeSpec := { name := "turnedSums", fn := fun _ => fun
  | [d1, d2, d3, d4] => { results := [.lit (.bool true)], args := [d1, d2, d3, d4] }
  | _ => none }
def turnedSumsRow : OpenClaim := { program := "ytdnmoggifjlbiaagreat", sum := "00babe38e58b0744b56d6623592b3333b154cfc03daa21cf938b583d2dd084bd", func := "anticline/anticlinelaw12.TurnedSums", spec := "turnedSums", unfollowed := true, recurses := true, plainKeys := false, apart := false }
def TurnedSumsSaid : Prop := turnedSumsRow.holds Tryz.pinned (OpenSpec.ofChange turnedSumsSpec)

/-- ITS FALSE NEIGHBOUR: 'it returns false'. Refute it at one input. -/
def turnedSumsWrong : ChangeSpec := { name := "turnedSums", fn := fun _ => fun
  | [d1, d2, d3, d4] => { results := [.lit (.bool false)], args := [d1, d2, d3, d4] }
  | _ => none }
def TurnedSumsWrongFalsely : Prop := turnedSumsRow.holds Tryz.pinned (OpenSpec.ofChange turnedSumsWrong)

/-- 'anticlinelaw12.TurnedHankels': WHATEVER THE INPUT: true; the input reads as it did. -/
def turnedHankelsSpec : ChangeSpec := { name := "turnedHankels", fn := fun _ => fun
  | [d1, d2, d3, d4] => { results := [.lit (.bool true)], args := [d1, d2, d3, d4] }
  | _ => none }
def turnedHankelsRow : OpenClaim := { program := "ytdnmoggifjlbiaagreat", sum := "00babe38e58b0744b56d6623592b3333b154cfc03daa21cf938b583d2dd084bd", func := "anticline/anticlinelaw12.TurnedHankels", spec := "turnedHankels", unfollowed := true, recurses := true, plainKeys := false, apart := false }
def TurnedHankelsSaid : Prop := turnedHankelsRow.holds Tryz.pinned (OpenSpec.ofChange turnedHankelsSpec)

/-- ITS FALSE NEIGHBOUR: 'it returns false'. Refute it at one input. -/
def turnedHankelsWrong : ChangeSpec := { name := "turnedHankels", fn := fun _ => fun
  | [d1, d2, d3, d4] => { results := [.lit (.bool false)], args := [d1, d2, d3, d4] }
  | _ => none }
def TurnedHankelsWrongFalsely : Prop := turnedHankelsRow.holds Tryz.pinned (OpenSpec.ofChange turnedHankelsWrong)

/-- 'anticlinelaw12.TurnedKnown': WHATEVER THE INPUT: true; the input reads as it did. -/
def turnedKnownSpec : ChangeSpec := { name := "turnedKnown", fn := fun _ => fun
  | [d] => { results := [.lit (.bool true)], args := [d] }
  | _ => none }
def turnedKnownRow : OpenClaim := { program := "ytdnmoggifjlbiaagreat", sum := "00babe38e58b0744b56d6623592b3333b154cfc03daa21cf938b583d2dd084bd", func := "anticline/anticlinelaw12.TurnedKnown", spec := "turnedKnown", unfollowed := true, recurses := true, plainKeys := false, apart := false }
def TurnedKnownSaid : Prop := turnedKnownRow.holds Tryz.pinned (OpenSpec.ofChange turnedKnownSpec)

/-- ITS FALSE NEIGHBOUR: 'it returns false'. Refute it at one input. -/
def turnedKnownWrong : ChangeSpec := { name := "turnedKnown", fn := fun _ => fun
  | [d] => { results := [.lit (.bool false)], args := [d] }
  | _ => none }
def TurnedKnownWrongFalsely : Prop := turnedKnownRow.holds Tryz.pinned (OpenSpec.ofChange turnedKnownWrong)

/-- 'anticlinelaw12.TurnedWays': WHATEVER THE INPUT: true; the input reads as it did. -/
def turnedWaysSpec : ChangeSpec := { name := "turnedWays", fn := fun _ => fun
  | [d1, d2, d3] => { results := [.lit (.bool true)], args := [d1, d2, d3] }
  | _ => none }
def turnedWaysRow : OpenClaim := { program := "ytdnmoggifjlbiaagreat", sum := "00babe38e58b0744b56d6623592b3333b154cfc03daa21cf938b583d2dd084bd", func := "anticline/anticlinelaw12.TurnedWays", spec := "turnedWays", unfollowed := true, recurses := true, plainKeys := false, apart := false }
def TurnedWaysSaid : Prop := turnedWaysRow.holds Tryz.pinned (OpenSpec.ofChange turnedWaysSpec)

/-- ITS FALSE NEIGHBOUR: 'it returns false'. Refute it at one input. -/
def turnedWaysWrong : ChangeSpec := { name := "turnedWays", fn := fun _ => fun
  | [d1, d2, d3] => { results := [.lit (.bool false)], args := [d1, d2, d3] }
  | _ => none }
def TurnedWaysWrongFalsely : Prop := turnedWaysRow.holds Tryz.pinned (OpenSpec.ofChange turnedWaysWrong)

/- THE SECOND FORM. 'bulk': how many values and letters a reading holds, each counted each time it is reached (what is shared counts as often as it is met; a slice's spare places count too). A statement '..UptoSaid' is the law's where the arguments, and the package variables that the reading takes, are together of bulk at most 1048576: NARROWER than '..Said'. Prove '..Said' where nothing that the law and all that it calls make is longer than what came in: it says more and counts as full. Else prove '..UptoSaid'. A law counts once. -/
mutual
def uptoBulk {H : Type} : DataW H → Nat
  | .lit (.string bytes) => bytes.length + 1
  | .lit _ => 1
  | .nil => 1
  | .ptr d => uptoBulk d + 1
  | .slice elems spare => uptoBulkAll elems + uptoBulkAll spare + 1
  | .agg parts => uptoBulkAll parts + 1
  | .iface _ d => uptoBulk d + 1
  | .map entries => uptoBulkEntries entries + 1
  | .held _ => 1
def uptoBulkAll {H : Type} : List (DataW H) → Nat
  | [] => 0
  | d :: r => uptoBulk d + uptoBulkAll r
def uptoBulkEntries {H : Type} : List (Lit × DataW H) → Nat
  | [] => 0
  | x :: r => uptoBulkEntry x + uptoBulkEntries r
def uptoBulkEntry {H : Type} : Lit × DataW H → Nat
  | (.string bytes, d) => bytes.length + uptoBulk d + 1
  | (_, d) => uptoBulk d + 1
 end
def uptoSmall : (H : Type) → List (DataW H) → Bool := fun _ ds => decide (uptoBulkAll ds ≤ 1048576)
def OpenSpec.upto (s : _root_.Go.ChangeSpec) : _root_.Go.OpenSpec := { _root_.Go.OpenSpec.ofChange s with cond := some uptoSmall }

/-- 'anticlinelaw9.FastApplies', WHERE WHAT IT READS IS OF BULK AT MOST 1048576: true; the input reads as it did. -/
def fastAppliesUptoRow : OpenClaim := { program := "ytdnmoggifjlbiaagreat", sum := "00babe38e58b0744b56d6623592b3333b154cfc03daa21cf938b583d2dd084bd", func := "anticline/anticlinelaw9.FastApplies", spec := "fastApplies", unfollowed := true, recurses := true, plainKeys := false, apart := false, narrowed := true }
def FastAppliesUptoSaid : Prop := fastAppliesUptoRow.holds Tryz.pinned (OpenSpec.upto fastAppliesSpec)

/-- 'anticlinelaw9.FastWhole', WHERE WHAT IT READS IS OF BULK AT MOST 1048576: true; the input reads as it did. -/
def fastWholeUptoRow : OpenClaim := { program := "ytdnmoggifjlbiaagreat", sum := "00babe38e58b0744b56d6623592b3333b154cfc03daa21cf938b583d2dd084bd", func := "anticline/anticlinelaw9.FastWhole", spec := "fastWhole", unfollowed := true, recurses := true, plainKeys := false, apart := false, narrowed := true }
def FastWholeUptoSaid : Prop := fastWholeUptoRow.holds Tryz.pinned (OpenSpec.upto fastWholeSpec)

/-- 'anticlinelaw9.FastDisp', WHERE WHAT IT READS IS OF BULK AT MOST 1048576: true; the input reads as it did. -/
def fastDispUptoRow : OpenClaim := { program := "ytdnmoggifjlbiaagreat", sum := "00babe38e58b0744b56d6623592b3333b154cfc03daa21cf938b583d2dd084bd", func := "anticline/anticlinelaw9.FastDisp", spec := "fastDisp", unfollowed := true, recurses := true, plainKeys := false, apart := false, narrowed := true }
def FastDispUptoSaid : Prop := fastDispUptoRow.holds Tryz.pinned (OpenSpec.upto fastDispSpec)

/-- 'anticlinelaw9.FastBig', WHERE WHAT IT READS IS OF BULK AT MOST 1048576: true; the input reads as it did. -/
def fastBigUptoRow : OpenClaim := { program := "ytdnmoggifjlbiaagreat", sum := "00babe38e58b0744b56d6623592b3333b154cfc03daa21cf938b583d2dd084bd", func := "anticline/anticlinelaw9.FastBig", spec := "fastBig", unfollowed := true, recurses := true, plainKeys := false, apart := false, narrowed := true }
def FastBigUptoSaid : Prop := fastBigUptoRow.holds Tryz.pinned (OpenSpec.upto fastBigSpec)

/-- 'anticlinelaw9.FastRounds', WHERE WHAT IT READS IS OF BULK AT MOST 1048576: true; the input reads as it did. -/
def fastRoundsUptoRow : OpenClaim := { program := "ytdnmoggifjlbiaagreat", sum := "00babe38e58b0744b56d6623592b3333b154cfc03daa21cf938b583d2dd084bd", func := "anticline/anticlinelaw9.FastRounds", spec := "fastRounds", unfollowed := true, recurses := true, plainKeys := false, apart := false, narrowed := true }
def FastRoundsUptoSaid : Prop := fastRoundsUptoRow.holds Tryz.pinned (OpenSpec.upto fastRoundsSpec)

/-- 'anticlinelaw12.TurnedCircles', WHERE WHAT IT READS IS OF BULK AT MOST 1048576: true; the input reads as it did. -/
def turnedCirclesUptoRow : OpenClaim := { program := "ytdnmoggifjlbiaagreat", sum := "00babe38e58b0744b56d6623592b3333b154cfc03daa21cf938b583d2dd084bd", func := "anticline/anticlinelaw12.TurnedCircles", spec := "turnedCircles", unfollowed := true, recurses := true, plainKeys := false, apart := false, narrowed := true }
def TurnedCirclesUptoSaid : Prop := turnedCirclesUptoRow.holds Tryz.pinned (OpenSpec.upto turnedCirclesSpec)

/-- 'anticlinelaw12.TurnedSums', WHERE WHAT IT READS IS OF BULK AT MOST 1048576: true; the input reads as it did. -/
def turnedSumsUptoRow : OpenClaim := { program := "ytdnmoggifjlbiaagreat", sum := "00babe38e58b0744b56d6623592b3333b154cfc03daa21cf938b583d2dd084bd", func := "anticline/anticlinelaw12.TurnedSums", spec := "turnedSums", unfollowed := true, recurses := true, plainKeys := false, apart := false, narrowed := true }
def TurnedSumsUptoSaid : Prop := turnedSumsUptoRow.holds Tryz.pinned (OpenSpec.upto turnedSumsSpec)

/-- 'anticlinelaw12.TurnedHankels', WHERE WHAT IT READS IS OF BULK AT MOST 1048576: true; the input reads as it did. -/
def turnedHankelsUptoRow : OpenClaim := { program := "ytdnmoggifjlbiaagreat", sum := "00babe38e58b0744b56d6623592b3333b154cfc03daa21cf938b583d2dd084bd", func := "anticline/anticlinelaw12.TurnedHankels", spec := "turnedHankels", unfollowed := true, recurses := true, plainKeys := false, apart := false, narrowed := true }
def TurnedHankelsUptoSaid : Prop := turnedHankelsUptoRow.holds Tryz.pinned (OpenSpec.upto turnedHankelsSpec)

/-- 'anticlinelaw12.TurnedKnown', WHERE WHAT IT READS IS OF BULK AT MOST 1048576: true; the input reads as it did. -/
def turnedKnownUptoRow : OpenClaim := { program := "ytdnmoggifjlbiaagreat", sum := "00babe38e58b0744b56d6623592b3333b154cfc03daa21cf938b583d2dd084bd", func := "anticline/anticlinelaw12.TurnedKnown", spec := "turnedKnown", unfollowed := true, recurses := true, plainKeys := false, apart := false, narrowed := true }
def TurnedKnownUptoSaid : Prop := turnedKnownUptoRow.holds Tryz.pinned (OpenSpec.upto turnedKnownSpec)

/-- 'anticlinelaw12.TurnedWays', WHERE WHAT IT READS IS OF BULK AT MOST 1048576: true; the input reads as it did. -/
def turnedWaysUptoRow : OpenClaim := { program := "ytdnmoggifjlbiaagreat", sum := "00babe38e58b0744b56d6623592b3333b154cfc03daa21cf938b583d2dd084bd", func := "anticline/anticlinelaw12.TurnedWays", spec := "turnedWays", unfollowed := true, recurses := true, plainKeys := false, apart := false, narrowed := true }
def TurnedWaysUptoSaid : Prop := turnedWaysUptoRow.holds Tryz.pinned (OpenSpec.upto turnedWaysSpec)

end Rows
end Go.Proofs.YtdnmoggifjlbiaaGreat

/- Joined texts, 22: F0. -/
import Derived.Test.YtggicfmbdmjhkaaProg
import Derived.Below
import Derived.Deep.Draws
import Derived.Deep.AppendLies
import Derived.Maps.AppendAt
import Derived.OwnWalk
import Derived.Laws.BytesArg
import Derived.Laws.MakeOwn
import Derived.Laws.OwnMore
import Derived.Deep.OwnRows
import Derived.Tactics
import Derived.Lib.ConvBytes
import Derived.Laws.Slices
import Derived.WalkKit
import Derived.KernelRfl
import Derived.RowKit3
import Derived.Deep.LoopGhost
import Derived.Deep.QuietTactic
import Derived.BigQuiet
import Derived.WideLaws
import Derived.Deep.DeepCutAuto
import Derived.Deep.CutBlock
import Derived.Deep.RegionHeld3
import Derived.Laws.Rows
import Derived.Lib.AppendStr
import Derived.ArgAppend
import Derived.Laws.IdiomCopy
import Derived.OrdersHeld
import Derived.Laws.BitsLemmas
import Derived.RowKit
import Derived.Test.YtggicfmbdmjhkaaJLawNttKnown0
import Derived.Test.YtggicfmbdmjhkaaJLawNttKnown1
import Derived.Test.YtggicfmbdmjhkaaJLawNttKnown2
import Derived.Test.YtggicfmbdmjhkaaJLawNttKnown3
import Derived.Test.YtggicfmbdmjhkaaJLawNttKnown4
import Derived.Test.YtggicfmbdmjhkaaJLawNttKnown5
import Derived.Test.YtggicfmbdmjhkaaJLawNttKnown6
import Derived.Test.YtggicfmbdmjhkaaJLawNttKnown7
import Derived.Test.YtggicfmbdmjhkaaJLawNttKnown8
import Derived.Test.YtggicfmbdmjhkaaJLawNttKnown9
import Derived.Test.YtggicfmbdmjhkaaJLawNttKnown10
import Derived.Test.YtggicfmbdmjhkaaJLawNttKnown11
import Derived.Test.YtggicfmbdmjhkaaJLawNttKnown12
import Derived.Test.YtggicfmbdmjhkaaJLawNttKnown13
import Derived.Test.YtggicfmbdmjhkaaJLawNttKnown14
import Derived.Test.YtggicfmbdmjhkaaJLawNttKnown15
import Derived.Test.YtggicfmbdmjhkaaJLawNttKnown16
import Derived.Test.YtggicfmbdmjhkaaJLawNttKnown17
import Derived.Test.YtggicfmbdmjhkaaJLawNttKnown18
import Derived.Test.YtggicfmbdmjhkaaJLawNttKnown19
import Derived.Test.YtggicfmbdmjhkaaJLawNttKnown20
import Derived.Test.YtggicfmbdmjhkaaJLawNttKnown21
set_option linter.unusedVariables false
set_option linter.unusedSimpArgs false
-- Written by pp.py, a program of this repository, out of the translation. Lean checks it.
namespace Go.Proofs.Ytggicfmbdmjhkaa.F
open Go.RowKit Go.Proofs.YtggicfmbdmjhkaaW.PrintWords Go.Proofs.YtggicfmbdmjhkaaW.PrintLast Go.Proofs.YtggicfmbdmjhkaaW.PrintMore
attribute [local go_sem] max2_int min2_int max_two min_two max_three min_three max_four min_four   -- for this text's walks alone
set_option linter.unusedVariables false
set_option linter.unusedSimpArgs false
def errW : Option Int → Value
  | none => .nilIface
  | some c => .iface 0 (.int .i64 c)
theorem errW_none : errW none = .nilIface := rfl
theorem errW_some (c : Int) : errW (some c) = .iface 0 (.int .i64 c) := rfl
theorem info36 : (Try.prog.info? 36).map (fun i => (i.zero, i.size, i.bytes)) = some (some (.int .u32 0), 1, 4) := by kernel_rfl
theorem info56 : (Try.prog.info? 56).map (fun i => (i.zero, i.size, i.bytes)) = some (some (.int .u32 0), 1, 4) := by kernel_rfl
-- the values' own types
def rd_L1 (xs : List (List Int)) (i : Int) : (List Int) := xs.getD i.toNat ([] : List Int)
def rd_L2 (xs : List (List Int)) (i : Int) : (List Int) := xs.getD i.toNat ([] : List Int)
end Go.Proofs.Ytggicfmbdmjhkaa.F

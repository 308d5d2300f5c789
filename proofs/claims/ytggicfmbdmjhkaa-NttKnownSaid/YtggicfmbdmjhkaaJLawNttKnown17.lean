/- Joined texts, 17: WInvWords. -/
import Derived.Test.YtggicfmbdmjhkaaJLawNttKnown16
import Derived.Test.YtggicfmbdmjhkaaJLawNttKnown12
set_option linter.unusedVariables false
set_option linter.unusedSimpArgs false
-- PRINTED BY print.sh 35421559b90ae4d0a3588c463048766b98c2df88dd9212a6774a882060cdf62d: not written by this session
namespace Go.Proofs.YtggicfmbdmjhkaaW.PrintWords
open Go.RowKit
end Go.Proofs.YtggicfmbdmjhkaaW.PrintWords
namespace Go.Proofs.YtggicfmbdmjhkaaW.PrintLast
section
variable {ops : Array Oper} {a : Act} {o og : Oper} {g : Nat} {t : Tmp} {u : Bool}
end
end Go.Proofs.YtggicfmbdmjhkaaW.PrintLast

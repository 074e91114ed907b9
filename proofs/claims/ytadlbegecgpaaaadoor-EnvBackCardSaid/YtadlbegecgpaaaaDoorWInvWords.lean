/- WInvWords: what the claim needs of it (cut by wip/shake.py). -/
import Derived.Test.YtadlbegecgpaaaaDoorWInv
import Derived.Test.YtadlbegecgpaaaaDoorWFootNe
namespace Go.Proofs.YtadlbegecgpaaaaDoorW.PrintWords
open Go.RowKit
end Go.Proofs.YtadlbegecgpaaaaDoorW.PrintWords
namespace Go.Proofs.YtadlbegecgpaaaaDoorW.PrintLast
section
variable {ops : Array Oper} {a : Act} {o og : Oper} {g : Nat} {t : Tmp} {u : Bool}
end
end Go.Proofs.YtadlbegecgpaaaaDoorW.PrintLast

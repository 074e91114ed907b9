/- WFour: what the claim needs of it (cut by wip/shake.py). -/
import Derived.Test.YtadlbegecgpaaaaDoorWTab
namespace Go.Proofs.YtadlbegecgpaaaaDoorW.PrintLast
section
variable {P : Program} {ops : Array Oper} {Q : Exit → Act → World → Prop} {md : Region.Mode} {S : World → Prop} {ds : List Nat} {T : Bool × List (List Nat × List Nat)}
end
end Go.Proofs.YtadlbegecgpaaaaDoorW.PrintLast

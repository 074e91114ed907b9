/- WFootNe: what the claim needs of it (cut by wip/shake.py). -/
import Derived.Test.YtadlbegecgpaaaaDoorWN
namespace Go.Proofs.YtadlbegecgpaaaaDoorW.PrintWords
open Go.RowKit
namespace Kd
section
variable {α : Type} {d : Kd α} {W : World} {g n : Nat} {S ok : Nat → Prop} {A : Option Addr} {ad : Addr} {xs : List α}
end
end Kd
end Go.Proofs.YtadlbegecgpaaaaDoorW.PrintWords

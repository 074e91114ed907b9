/- Plain law: EnvSets, as printed, answers true for every list of fewer than 5864062014700 binds. -/
import Derived.Test.YtadlbegecgpaaaaDoorPE
import Derived.Test.YtadlbegecgpaaaaDoorE2
namespace Go.Proofs.YtadlbegecgpaaaaDoor.S
open Go Go.RowKit Go.Proofs.YtadlbegecgpaaaaDoorW.PrintWords
end Go.Proofs.YtadlbegecgpaaaaDoor.S

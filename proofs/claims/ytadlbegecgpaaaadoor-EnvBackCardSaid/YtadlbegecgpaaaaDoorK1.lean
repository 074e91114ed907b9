/- K1: what the claim needs of it (cut by wip/shake.py). -/
-- Printed by a program of this session (wip/mkprint.py: the kit's printer, changed). Not trusted: Lean checks it.
import Derived.Test.YtadlbegecgpaaaaDoorK
namespace Go.Proofs.YtadlbegecgpaaaaDoor.S
open Go.RowKit Go.Proofs.YtadlbegecgpaaaaDoorW.PrintWords Go.Proofs.YtadlbegecgpaaaaDoorW.PrintLast Go.Proofs.YtadlbegecgpaaaaDoorW.PrintMore
attribute [local go_sem] max2_int min2_int max_two min_two max_three min_three max_four min_four   -- for this text's walks alone
set_option linter.unusedVariables false
set_option linter.unusedSimpArgs false
theorem eqA63 (d : Nat) (w : World) (x0 y0 : ByteArray) (x1 y1 : Int) :
    (Op.equalIn (d + 2) 63 (.agg #[.string x0, .int .i64 x1]) (.agg #[.string y0, .int .i64 y1])).run Tryd.prog w = .ok (x0.toList == y0.toList && (x1 == y1)) w := by
  refine eqA_of Tryd.underlying63 (by kernel_rfl) ?_
  refine eqf_cons (by rfl) (by go_simp; rfl) (by go_simp; rfl) (by go_simp) ?_
  exact eqf_last (by rfl) (by go_simp; rfl) (by go_simp; rfl) (by go_simp)
end Go.Proofs.YtadlbegecgpaaaaDoor.S

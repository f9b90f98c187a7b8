-- Printed by a program of ours (wip/common/mkprint.py), turned from the kit's print; Lean checks it.
import Derived.Test.YtedolmjealgeoaaDoorPBasex0
namespace Go.Proofs.YtedolmjealgeoaaDoor.PBase
open Go.Proofs.YtedolmjealgeoaaDoor.Gv
open Go.RowKit Go.Proofs.YtedolmjealgeoaaDoorW.PrintWords Go.Proofs.YtedolmjealgeoaaDoorW.PrintLast Go.Proofs.YtedolmjealgeoaaDoorW.PrintMore
attribute [local go_sem] max2_int min2_int max_two min_two max_three min_three max_four min_four   -- for this text's walks alone
set_option linter.unusedVariables false
set_option linter.unusedSimpArgs false

theorem eqA31 (d : Nat) (w : World) (x0 y0 : Int) (x1 y1 : Int) :
    (Op.equalIn (d + 2) 31 (.agg #[.int .i64 x0, .int .u64 x1]) (.agg #[.int .i64 y0, .int .u64 y1])).run Tryd.prog w = .ok (x0 == y0 && (x1 == y1)) w := by
  refine eqA_of Tryd.underlying31 (by kernel_rfl) ?_
  refine eqf_cons (by rfl) (by go_simp; rfl) (by go_simp; rfl) (by go_simp) ?_
  exact eqf_last (by rfl) (by go_simp; rfl) (by go_simp; rfl) (by go_simp)
end Go.Proofs.YtedolmjealgeoaaDoor.PBase

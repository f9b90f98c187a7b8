-- Printed by the kit, struck by a program of ours (wip/common/prune.py) to what the claim needs; Lean checks it.
import Derived.Test.YtfkebbkfmchnaaaWTab
/-! ### 56. Four, five, six operations that may come up next, in any order -/
namespace Go.Proofs.YtfkebbkfmchnaaaW.PrintLast
section
end
end Go.Proofs.YtfkebbkfmchnaaaW.PrintLast

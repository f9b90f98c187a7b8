-- Printed by the kit, struck by a program of ours (wip/common/prune.py) to what the claim needs; Lean checks it.
import Derived.Test.YtfkebbkfmchnaaaWWords
/-! ### 41. Arrays '[n]T' as_ values: a kind (a field, an element of a row), an element read, an element set -/
namespace Go.Proofs.YtfkebbkfmchnaaaW.PrintWords
open Go.RowKit
namespace Kd
section
end
section
end
end Kd
end Go.Proofs.YtfkebbkfmchnaaaW.PrintWords

-- Printed by the kit, struck by a program of ours (wip/common/prune.py) to what the claim needs; Lean checks it.
import Derived.Test.YtfkebbkfmchnaaaWWords
import Derived.Test.YtfkebbkfmchnaaaWLast
/-! ### 39. Stores into a row that may begin inside its block (Q): Q_form, Q_elem, Q_seg; scalars: Q_cell, Q_putg -/
namespace Go.Proofs.YtfkebbkfmchnaaaW.PrintWords
open Go.RowKit
namespace Kd
section
end
section
end
end Kd
end Go.Proofs.YtfkebbkfmchnaaaW.PrintWords

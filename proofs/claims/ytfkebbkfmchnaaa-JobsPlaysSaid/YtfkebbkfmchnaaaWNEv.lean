-- Printed by the kit, struck by a program of ours (wip/common/prune.py) to what the claim needs; Lean checks it.
import Derived.Test.YtfkebbkfmchnaaaWN
/-! ### 48. N's events: append, a whole row appended, zeros appended, literals, make, stores, cuts, an element taken out -/
namespace Go.Proofs.YtfkebbkfmchnaaaW.PrintWords
open Go.RowKit
namespace Kd
section
end
section
end
end Kd
end Go.Proofs.YtfkebbkfmchnaaaW.PrintWords

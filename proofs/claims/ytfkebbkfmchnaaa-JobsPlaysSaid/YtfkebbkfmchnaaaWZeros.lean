-- Printed by the kit, struck by a program of ours (wip/common/prune.py) to what the claim needs; Lean checks it.
import Derived.Test.YtfkebbkfmchnaaaWApart
import Derived.Test.YtfkebbkfmchnaaaWArr
/-! ### 42. append(v, make([]T, n)...): the operation comes as_ append with the number in the second place -/
namespace Go.Proofs.YtfkebbkfmchnaaaW.PrintWords
open Go.RowKit
section
end
namespace Kd
section
end
/-! #### the same for rows whose elements lie apart -/
section
end
section
end
end Kd
end Go.Proofs.YtfkebbkfmchnaaaW.PrintWords

-- Printed by the kit, struck by a program of ours (wip/common/prune.py) to what the claim needs; Lean checks it.
import Derived.Test.YtfkebbkfmchnaaaWInv
import Derived.Test.YtfkebbkfmchnaaaWFootNe
namespace Go.Proofs.YtfkebbkfmchnaaaW.PrintWords
open Go.RowKit
end Go.Proofs.YtfkebbkfmchnaaaW.PrintWords
namespace Go.Proofs.YtfkebbkfmchnaaaW.PrintLast
section
end
end Go.Proofs.YtfkebbkfmchnaaaW.PrintLast

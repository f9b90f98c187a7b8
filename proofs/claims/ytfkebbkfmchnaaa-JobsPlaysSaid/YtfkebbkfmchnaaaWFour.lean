-- PRINTED BY print.sh 35421559b90ae4d0a3588c463048766b98c2df88dd9212a6774a882060cdf62d: not written by this session
import Derived.Test.YtfkebbkfmchnaaaWTab
/-! ### 56. Four, five, six operations that may come up next, in any order -/
namespace Go.Proofs.YtfkebbkfmchnaaaW.PrintLast
section
end
end Go.Proofs.YtfkebbkfmchnaaaW.PrintLast

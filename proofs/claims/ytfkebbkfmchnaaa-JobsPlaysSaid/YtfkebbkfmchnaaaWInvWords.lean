-- PRINTED BY print.sh 35421559b90ae4d0a3588c463048766b98c2df88dd9212a6774a882060cdf62d: not written by this session
import Derived.Test.YtfkebbkfmchnaaaWInv
import Derived.Test.YtfkebbkfmchnaaaWFootNe
namespace Go.Proofs.YtfkebbkfmchnaaaW.PrintWords
open Go.RowKit
end Go.Proofs.YtfkebbkfmchnaaaW.PrintWords
namespace Go.Proofs.YtfkebbkfmchnaaaW.PrintLast
section
end
end Go.Proofs.YtfkebbkfmchnaaaW.PrintLast

-- PRINTED BY print.sh 35421559b90ae4d0a3588c463048766b98c2df88dd9212a6774a882060cdf62d: not written by this session
import Derived.Test.YtfkebbkfmchnaaaWApart
import Derived.Test.YtfkebbkfmchnaaaWArr
/-! ### 42. append(v, make([]T, n)...): the operation comes as_ append with the number in the second place -/
namespace Go.Proofs.YtfkebbkfmchnaaaW.PrintWords
open Go.RowKit
section
end
namespace Kd
section
end
/-! #### the same for rows whose elements lie apart -/
section
end
section
end
end Kd
end Go.Proofs.YtfkebbkfmchnaaaW.PrintWords

/- The five contracts that were shown by hand, in one import. Conditions: those of each. -/
import Derived.Test.YtboneknainlodaaRs
import Derived.Test.YtboneknainlodaaIns
import Derived.Test.YtboneknainlodaaCan
import Derived.Test.YtboneknainlodaaSrt

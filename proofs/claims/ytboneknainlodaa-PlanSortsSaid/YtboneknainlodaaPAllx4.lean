-- Printed by a program of ours (wip/common/mkprint.py), turned from the kit's print; Lean checks it.
import Derived.Test.YtboneknainlodaaPAllx0
import Derived.Test.YtboneknainlodaaPAllx3
namespace Go.Proofs.Ytboneknainlodaa.PAll
open Go.Proofs.Ytboneknainlodaa.PBase Go.Proofs.Ytboneknainlodaa.Giv
open Go.RowKit Go.Proofs.YtboneknainlodaaW.PrintWords Go.Proofs.YtboneknainlodaaW.PrintLast Go.Proofs.YtboneknainlodaaW.PrintMore
attribute [local go_sem] max2_int min2_int max_two min_two max_three min_three max_four min_four   -- for this text's walks alone
set_option linter.unusedVariables false
set_option linter.unusedSimpArgs false

end Go.Proofs.Ytboneknainlodaa.PAll

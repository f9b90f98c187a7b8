-- Printed by a program of ours (wip/common/mkprint.py), turned from the kit's print; Lean checks it.
import Derived.Test.YtboneknainlodaaProg
import Derived.Test.YtboneknainlodaaAllg
import Derived.Below
import Derived.Deep.Draws
import Derived.Deep.AppendLies
import Derived.Maps.AppendAt
import Derived.OwnWalk
import Derived.Laws.BytesArg
import Derived.Laws.MakeOwn
import Derived.Laws.OwnMore
import Derived.Deep.OwnRows
import Derived.Tactics
import Derived.Lib.ConvBytes
import Derived.Laws.Slices
import Derived.WalkKit
import Derived.KernelRfl
import Derived.RowKit3
import Derived.Deep.LoopGhost
import Derived.Deep.QuietTactic
import Derived.BigQuiet
import Derived.WideLaws
import Derived.Deep.DeepCutAuto
import Derived.Deep.CutBlock
import Derived.Deep.RegionHeld3
import Derived.Laws.Rows
import Derived.Lib.AppendStr
import Derived.ArgAppend
import Derived.Laws.IdiomCopy
import Derived.OrdersHeld
import Derived.Laws.BitsLemmas
import Derived.RowKit
import Derived.Test.YtboneknainlodaaWWords
import Derived.Test.YtboneknainlodaaWLast
import Derived.Test.YtboneknainlodaaWTab
import Derived.Test.YtboneknainlodaaWFour
import Derived.Test.YtboneknainlodaaWQPut
import Derived.Test.YtboneknainlodaaWApart
import Derived.Test.YtboneknainlodaaWArr
import Derived.Test.YtboneknainlodaaWZeros
import Derived.Test.YtboneknainlodaaWFoot
import Derived.Test.YtboneknainlodaaWKept
import Derived.Test.YtboneknainlodaaWShare
import Derived.Test.YtboneknainlodaaWN
import Derived.Test.YtboneknainlodaaWFootNe
import Derived.Test.YtboneknainlodaaWAt
import Derived.Test.YtboneknainlodaaWEqStruct
import Derived.Test.YtboneknainlodaaWRepsOne
import Derived.Test.YtboneknainlodaaWInv
import Derived.Test.YtboneknainlodaaWInvWords
import Derived.Test.YtboneknainlodaaWGuard
import Derived.Test.YtboneknainlodaaWNEv
import Derived.Test.YtboneknainlodaaWMore
namespace Go.Proofs.Ytboneknainlodaa.PAll
open Go.Proofs.Ytboneknainlodaa.PBase Go.Proofs.Ytboneknainlodaa.Giv
open Go.RowKit Go.Proofs.YtboneknainlodaaW.PrintWords Go.Proofs.YtboneknainlodaaW.PrintLast Go.Proofs.YtboneknainlodaaW.PrintMore
attribute [local go_sem] max2_int min2_int max_two min_two max_three min_three max_four min_four   -- for this text's walks alone
set_option linter.unusedVariables false
set_option linter.unusedSimpArgs false



end Go.Proofs.Ytboneknainlodaa.PAll

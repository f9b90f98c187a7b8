-- Printed by a program of ours (wip/common/mkprint.py), turned from the kit's print; Lean checks it.
import Derived.Test.YtfkebbkfmchnaaaProg
import Derived.Below
import Derived.Deep.Draws
import Derived.Deep.AppendLies
import Derived.Maps.AppendAt
import Derived.OwnWalk
import Derived.Laws.BytesArg
import Derived.Laws.MakeOwn
import Derived.Laws.OwnMore
import Derived.Deep.OwnRows
import Derived.Tactics
import Derived.Lib.ConvBytes
import Derived.Laws.Slices
import Derived.WalkKit
import Derived.KernelRfl
import Derived.RowKit3
import Derived.Deep.LoopGhost
import Derived.Deep.QuietTactic
import Derived.BigQuiet
import Derived.WideLaws
import Derived.Deep.DeepCutAuto
import Derived.Deep.CutBlock
import Derived.Deep.RegionHeld3
import Derived.Laws.Rows
import Derived.Lib.AppendStr
import Derived.ArgAppend
import Derived.Laws.IdiomCopy
import Derived.OrdersHeld
import Derived.Laws.BitsLemmas
import Derived.RowKit
import Derived.Test.YtfkebbkfmchnaaaWWords
import Derived.Test.YtfkebbkfmchnaaaWLast
import Derived.Test.YtfkebbkfmchnaaaWTab
import Derived.Test.YtfkebbkfmchnaaaWFour
import Derived.Test.YtfkebbkfmchnaaaWQPut
import Derived.Test.YtfkebbkfmchnaaaWApart
import Derived.Test.YtfkebbkfmchnaaaWArr
import Derived.Test.YtfkebbkfmchnaaaWZeros
import Derived.Test.YtfkebbkfmchnaaaWFoot
import Derived.Test.YtfkebbkfmchnaaaWKept
import Derived.Test.YtfkebbkfmchnaaaWShare
import Derived.Test.YtfkebbkfmchnaaaWN
import Derived.Test.YtfkebbkfmchnaaaWFootNe
import Derived.Test.YtfkebbkfmchnaaaWAt
import Derived.Test.YtfkebbkfmchnaaaWEqStruct
import Derived.Test.YtfkebbkfmchnaaaWRepsOne
import Derived.Test.YtfkebbkfmchnaaaWInv
import Derived.Test.YtfkebbkfmchnaaaWInvWords
import Derived.Test.YtfkebbkfmchnaaaWGuard
import Derived.Test.YtfkebbkfmchnaaaWNEv
import Derived.Test.YtfkebbkfmchnaaaWMore
namespace Go.Proofs.Ytfkebbkfmchnaaa.PStp
open Go.RowKit Go.Proofs.YtfkebbkfmchnaaaW.PrintWords Go.Proofs.YtfkebbkfmchnaaaW.PrintLast Go.Proofs.YtfkebbkfmchnaaaW.PrintMore
attribute [local go_sem] max2_int min2_int max_two min_two max_three min_three max_four min_four   -- for this text's walks alone
set_option linter.unusedVariables false
set_option linter.unusedSimpArgs false



def errW : Option Int → Value
  | none => .nilIface
  | some c => .iface 0 (.int .i64 c)
theorem errW_none : errW none = .nilIface := rfl
theorem errW_some (c : Int) : errW (some c) = .iface 0 (.int .i64 c) := rfl

-- the values' own types

end Go.Proofs.Ytfkebbkfmchnaaa.PStp

-- Printed by a program of ours (wip/common/mkprint.py), turned from the kit's print; Lean checks it.
import Derived.Test.YtfkknipkfcmiaaaProg
import Derived.Test.YtfkknipkfcmiaaaAdd
import Derived.Below
import Derived.Deep.Draws
import Derived.Deep.AppendLies
import Derived.Maps.AppendAt
import Derived.OwnWalk
import Derived.Laws.BytesArg
import Derived.Laws.MakeOwn
import Derived.Laws.OwnMore
import Derived.Deep.OwnRows
import Derived.Tactics
import Derived.Lib.ConvBytes
import Derived.Laws.Slices
import Derived.WalkKit
import Derived.KernelRfl
import Derived.RowKit3
import Derived.Deep.LoopGhost
import Derived.Deep.QuietTactic
import Derived.BigQuiet
import Derived.WideLaws
import Derived.Deep.DeepCutAuto
import Derived.Deep.CutBlock
import Derived.Deep.RegionHeld3
import Derived.Laws.Rows
import Derived.Lib.AppendStr
import Derived.ArgAppend
import Derived.Laws.IdiomCopy
import Derived.OrdersHeld
import Derived.Laws.BitsLemmas
import Derived.RowKit
import Derived.Test.YtfkknipkfcmiaaaWWords
import Derived.Test.YtfkknipkfcmiaaaWLast
import Derived.Test.YtfkknipkfcmiaaaWTab
import Derived.Test.YtfkknipkfcmiaaaWFour
import Derived.Test.YtfkknipkfcmiaaaWQPut
import Derived.Test.YtfkknipkfcmiaaaWApart
import Derived.Test.YtfkknipkfcmiaaaWArr
import Derived.Test.YtfkknipkfcmiaaaWZeros
import Derived.Test.YtfkknipkfcmiaaaWFoot
import Derived.Test.YtfkknipkfcmiaaaWKept
import Derived.Test.YtfkknipkfcmiaaaWShare
import Derived.Test.YtfkknipkfcmiaaaWN
import Derived.Test.YtfkknipkfcmiaaaWFootNe
import Derived.Test.YtfkknipkfcmiaaaWAt
import Derived.Test.YtfkknipkfcmiaaaWEqStruct
import Derived.Test.YtfkknipkfcmiaaaWRepsOne
import Derived.Test.YtfkknipkfcmiaaaWInv
import Derived.Test.YtfkknipkfcmiaaaWInvWords
import Derived.Test.YtfkknipkfcmiaaaWGuard
import Derived.Test.YtfkknipkfcmiaaaWNEv
import Derived.Test.YtfkknipkfcmiaaaWMore
namespace Go.Proofs.Ytfkknipkfcmiaaa.PAll
open Go.Proofs.Ytfkknipkfcmiaaa.Add
open Go.RowKit Go.Proofs.YtfkknipkfcmiaaaW.PrintWords Go.Proofs.YtfkknipkfcmiaaaW.PrintLast Go.Proofs.YtfkknipkfcmiaaaW.PrintMore
attribute [local go_sem] max2_int min2_int max_two min_two max_three min_three max_four min_four   -- for this text's walks alone
set_option linter.unusedVariables false
set_option linter.unusedSimpArgs false



def errW : Option Int → Value
  | none => .nilIface
  | some c => .iface 0 (.int .i64 c)
theorem errW_none : errW none = .nilIface := rfl
theorem errW_some (c : Int) : errW (some c) = .iface 0 (.int .i64 c) := rfl

-- the values' own types

end Go.Proofs.Ytfkknipkfcmiaaa.PAll

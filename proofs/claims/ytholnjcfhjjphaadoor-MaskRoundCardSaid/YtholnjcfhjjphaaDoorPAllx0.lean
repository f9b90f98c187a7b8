-- Printed by a program of ours (wip/common/mkprint.py), turned from the kit's print; Lean checks it.
import Derived.Test.YtholnjcfhjjphaaDoorProg
import Derived.Test.YtholnjcfhjjphaaDoorTz
import Derived.Below
import Derived.Deep.Draws
import Derived.Deep.AppendLies
import Derived.Maps.AppendAt
import Derived.OwnWalk
import Derived.Laws.BytesArg
import Derived.Laws.MakeOwn
import Derived.Laws.OwnMore
import Derived.Deep.OwnRows
import Derived.Tactics
import Derived.Lib.ConvBytes
import Derived.Laws.Slices
import Derived.WalkKit
import Derived.KernelRfl
import Derived.RowKit3
import Derived.Deep.LoopGhost
import Derived.Deep.QuietTactic
import Derived.BigQuiet
import Derived.WideLaws
import Derived.Deep.DeepCutAuto
import Derived.Deep.CutBlock
import Derived.Deep.RegionHeld3
import Derived.Laws.Rows
import Derived.Lib.AppendStr
import Derived.ArgAppend
import Derived.Laws.IdiomCopy
import Derived.OrdersHeld
import Derived.Laws.BitsLemmas
import Derived.RowKit
import Derived.Test.YtholnjcfhjjphaaDoorWWords
import Derived.Test.YtholnjcfhjjphaaDoorWLast
import Derived.Test.YtholnjcfhjjphaaDoorWTab
import Derived.Test.YtholnjcfhjjphaaDoorWFour
import Derived.Test.YtholnjcfhjjphaaDoorWQPut
import Derived.Test.YtholnjcfhjjphaaDoorWApart
import Derived.Test.YtholnjcfhjjphaaDoorWArr
import Derived.Test.YtholnjcfhjjphaaDoorWZeros
import Derived.Test.YtholnjcfhjjphaaDoorWFoot
import Derived.Test.YtholnjcfhjjphaaDoorWKept
import Derived.Test.YtholnjcfhjjphaaDoorWShare
import Derived.Test.YtholnjcfhjjphaaDoorWN
import Derived.Test.YtholnjcfhjjphaaDoorWFootNe
import Derived.Test.YtholnjcfhjjphaaDoorWAt
import Derived.Test.YtholnjcfhjjphaaDoorWEqStruct
import Derived.Test.YtholnjcfhjjphaaDoorWRepsOne
import Derived.Test.YtholnjcfhjjphaaDoorWInv
import Derived.Test.YtholnjcfhjjphaaDoorWInvWords
import Derived.Test.YtholnjcfhjjphaaDoorWGuard
import Derived.Test.YtholnjcfhjjphaaDoorWNEv
import Derived.Test.YtholnjcfhjjphaaDoorWMore
namespace Go.Proofs.YtholnjcfhjjphaaDoor.PAll
open Go.Proofs.YtholnjcfhjjphaaDoor.Tz
open Go.RowKit Go.Proofs.YtholnjcfhjjphaaDoorW.PrintWords Go.Proofs.YtholnjcfhjjphaaDoorW.PrintLast Go.Proofs.YtholnjcfhjjphaaDoorW.PrintMore
attribute [local go_sem] max2_int min2_int max_two min_two max_three min_three max_four min_four   -- for this text's walks alone
set_option linter.unusedVariables false
set_option linter.unusedSimpArgs false



def errW : Option Int → Value
  | none => .nilIface
  | some c => .iface 0 (.int .i64 c)
theorem errW_none : errW none = .nilIface := rfl
theorem errW_some (c : Int) : errW (some c) = .iface 0 (.int .i64 c) := rfl

theorem info3 : (Tryd.prog.info? 3).map (fun i => (i.zero, i.size, i.bytes)) = some (some (.int .i64 0), 1, 8) := by kernel_rfl
-- the values' own types

end Go.Proofs.YtholnjcfhjjphaaDoor.PAll

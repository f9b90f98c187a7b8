/- What the print is given: Len64, TrailingZeros64, tick.Sum as calls, under one word for the table. Conditions: the table's cells. -/
import Derived.Test.YtedolmjealgeoaaDoorAdd
import Derived.Test.YtedolmjealgeoaaDoorTz
namespace Go.Proofs.YtedolmjealgeoaaDoor.Gv
open Go.RowKit
abbrev TabOk (w : World) : Prop := Go.Proofs.YtedolmjealgeoaaDoor.Tz.TabOk w
theorem TabOk.below {w w' : World} (h : TabOk w) (hb : Below w.heap.size w w') : TabOk w' := Go.Proofs.YtedolmjealgeoaaDoor.Tz.TabOk.below h hb
abbrev tick_Sum.f := Go.Proofs.YtedolmjealgeoaaDoor.Add.tick_Sum.f
theorem tick_Sum.calls (a b r1 : Int) (r2 : Bool) (w : World) (h : tick_Sum.f a b = some (r1, r2)) (_hT0 : TabOk w) :
    Calls Tryd.prog 72 #[.int .u64 a, .int .u64 b] w fun e w' => e = .returned (.tuple #[.int .u64 r1, .bool r2]) ∧ Below w.heap.size w w' :=
  Go.Proofs.YtedolmjealgeoaaDoor.Add.tick_Sum.calls a b r1 r2 w h (Nat.zero_le _)
abbrev bits_Len64.f := Go.Proofs.YtedolmjealgeoaaDoor.Add.bits_Len64.f
theorem bits_Len64.calls (a r : Int) (w : World) (h : bits_Len64.f a = some r) (_hT0 : TabOk w) :
    Calls Tryd.prog 80 #[.int .u64 a] w fun e w' => e = .returned (.int .i64 r) ∧ Below w.heap.size w w' :=
  Go.Proofs.YtedolmjealgeoaaDoor.Add.bits_Len64.calls a r w h (Nat.zero_le _)
abbrev bits_TrailingZeros64.f := Go.Proofs.YtedolmjealgeoaaDoor.Tz.bits_TrailingZeros64.f
theorem bits_TrailingZeros64.calls (a r : Int) (w : World) (h : bits_TrailingZeros64.f a = some r) (hT0 : TabOk w) :
    Calls Tryd.prog 106 #[.int .u64 a] w fun e w' => e = .returned (.int .i64 r) ∧ Below w.heap.size w w' :=
  Go.Proofs.YtedolmjealgeoaaDoor.Tz.bits_TrailingZeros64.calls a r w h hT0
end Go.Proofs.YtedolmjealgeoaaDoor.Gv

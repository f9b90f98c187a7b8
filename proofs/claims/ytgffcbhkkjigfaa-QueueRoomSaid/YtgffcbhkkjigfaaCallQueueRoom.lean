/- QueueRoom as a call: true. Conditions: none. -/
import Derived.Test.YtgffcbhkkjigfaaRm
import Derived.Test.YtgffcbhkkjigfaaOpen
namespace Go.Proofs.Ytgffcbhkkjigfaa.CallQueueRoom
open Go.RowKit Go.Proofs.Ytgffcbhkkjigfaa.Open
set_option linter.unusedVariables false
theorem calls (W : World) (a0 : Int) (w0 : (Lit.int .u8 a0).wf = true) (a1 : Int) (w1 : (Lit.int .i64 a1).wf = true) (a2 : Int) (w2 : (Lit.int .u8 a2).wf = true) :
    Calls Try.prog 6 #[.int .u8 a0, .int .i64 a1, .int .u8 a2] W fun e w' => e = .returned (.bool true) ∧ Below W.heap.size W w' := Ln.room_calls W a0 a1 a2 w0 w2
end Go.Proofs.Ytgffcbhkkjigfaa.CallQueueRoom

/- QueueNone as a call: true. Conditions: none. -/
import Derived.Test.YtgffcbhkkjigfaaWk
import Derived.Test.YtgffcbhkkjigfaaOpen
namespace Go.Proofs.Ytgffcbhkkjigfaa.CallQueueNone
open Go.RowKit Go.Proofs.Ytgffcbhkkjigfaa.Open
set_option linter.unusedVariables false
theorem calls (W : World) (a0 : Int) (w0 : (Lit.int .i64 a0).wf = true) (a1 : Int) (w1 : (Lit.int .i64 a1).wf = true) (a2 : Int) (w2 : (Lit.int .i64 a2).wf = true) :
    Calls Try.prog 7 #[.int .i64 a0, .int .i64 a1, .int .i64 a2] W fun e w' => e = .returned (.bool true) ∧ Below W.heap.size W w' := Ln.none_calls W a0 a1 a2
end Go.Proofs.Ytgffcbhkkjigfaa.CallQueueNone

/- RetryLeft as a call: the printed contract and the plain law joined. Conditions: none. -/
import Derived.Test.YtdefifgllimedaaPureRetryLeft
namespace Go.Proofs.Ytdefifgllimedaa.CallRetryLeft
open Go.RowKit Go.Proofs.Ytdefifgllimedaa.PRetryLeft
set_option linter.unusedVariables false
theorem calls (W : World) (a0 : Int) (w0 : (Lit.int .i64 a0).wf = true) (a1_0 : Int) (w1_0 : (Lit.int .i64 a1_0).wf = true) (a1_1 : Int) (w1_1 : (Lit.int .i64 a1_1).wf = true) :
    Calls Try.prog 6 #[.int .i64 a0, .agg #[.int .i64 a1_0, .int .i64 a1_1]] W fun e w' => e = .returned (.bool true) ∧ Below W.heap.size W w' := by
  obtain ⟨k, hk⟩ := Pure.RetryLeft a0 a1_0 a1_1
  exact remontoirlaw11_RetryLeft.calls k a0 a1_0 a1_1 true W hk
end Go.Proofs.Ytdefifgllimedaa.CallRetryLeft

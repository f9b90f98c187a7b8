/- QueueOrder as a call: true. Conditions: none. -/
import Derived.Test.YtgffcbhkkjigfaaOw
import Derived.Test.YtgffcbhkkjigfaaAct
import Derived.OpenShut
namespace Go.Proofs.Ytgffcbhkkjigfaa.CallQueueOrder
open Go.RowKit Go.Proofs.Ytgffcbhkkjigfaa.PBase Go.Proofs.Ytgffcbhkkjigfaa.Open
set_option linter.unusedVariables false
theorem calls (W : World) (a0 : Int) (w0 : (Lit.int .u16 a0).wf = true) (a1 : Option Addr) (c1 : Nat) (l1 : List (List Int)) (r1 : RowsOf W [.i64, .i64, .i64] a1 l1) (x1 : l1.length ≤ c1) (m1 : c1 ≤ maxLen) (y1 : l1.length * 24 ≤ 140737488351232) :
    Calls Try.prog 4 #[.int .u16 a0, .slice a1 l1.length c1] W fun e w' => e = .returned (.bool true) ∧ Below W.heap.size W w' := by
  have b0 := Go.bounds_u16 w0
  have e0 : wrap64 a0 = a0 := by unfold wrap64; omega
  have e1 : wrap64 (1 + (wrap64 a0).tmod 1000) = 1 + a0 % 1000 := by rw [e0, Int.tmod_eq_emod_of_nonneg (by omega)]; unfold wrap64; omega
  have h := Ln.order_walk W a0 (1 + a0 % 1000) a1 c1 (l1.map three) e1 (by clear e0 e1; omega) (act_rows r1 (by clear e0 e1; omega))
  rw [List.length_map] at h
  exact h
end Go.Proofs.Ytgffcbhkkjigfaa.CallQueueOrder

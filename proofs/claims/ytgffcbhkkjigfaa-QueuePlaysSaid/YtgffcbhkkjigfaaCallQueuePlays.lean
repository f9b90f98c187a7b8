/- QueuePlays as a call: true. Conditions: none. -/
import Derived.Test.YtgffcbhkkjigfaaPw
import Derived.Test.YtgffcbhkkjigfaaAct
import Derived.OpenShut
namespace Go.Proofs.Ytgffcbhkkjigfaa.CallQueuePlays
open Go.RowKit Go.Proofs.Ytgffcbhkkjigfaa.PBase Go.Proofs.Ytgffcbhkkjigfaa.Open
set_option linter.unusedVariables false
theorem calls (W : World) (a0 : Int) (w0 : (Lit.int .i64 a0).wf = true) (a1 : Int) (w1 : (Lit.int .i64 a1).wf = true) (a2 : Option Addr) (c2 : Nat) (l2 : List (List Int)) (r2 : RowsOf W [.i64, .i64, .i64] a2 l2) (x2 : l2.length ≤ c2) (m2 : c2 ≤ maxLen) (y2 : l2.length * 24 ≤ 140737488351232) :
    Calls Try.prog 5 #[.int .i64 a0, .int .i64 a1, .slice a2 l2.length c2] W fun e w' => e = .returned (.bool true) ∧ Below W.heap.size W w' := by
  by_cases h : (1 ≤ a0 ∧ a0 ≤ 1000) ∧ 0 ≤ a1 ∧ a1 ≤ 1000
  · have h := Ln.plays_good W a0 a1 a2 c2 (l2.map three) h (act_rows r2 (by omega))
    rw [List.length_map] at h
    exact h
  · have h := Ln.plays_bad W a0 a1 a2 c2 (l2.map three) h
    rw [List.length_map] at h
    exact h
end Go.Proofs.Ytgffcbhkkjigfaa.CallQueuePlays

/- RingPlays as a call: true. Conditions: the library's table as its initialiser lays it. -/
import Derived.Test.YtedolmjealgeoaaDoorPw
import Derived.OpenShut
set_option linter.unusedVariables false
namespace Go.Proofs.YtedolmjealgeoaaDoor.CallRingPlays
open Go.RowKit Go.Proofs.YtedolmjealgeoaaDoor.Open Go.Proofs.YtedolmjealgeoaaDoor.PBase Go.Proofs.YtedolmjealgeoaaDoor.Tz Go.Proofs.YtedolmjealgeoaaDoor.Rg
theorem calls (W : World) (hT : TabOk W) (a0 : Option Addr) (c0 : Nat) (l0 : List (List Int)) (r0 : RowsOf W [.i64, .i64, .i64, .u64] a0 l0) (x0 : l0.length ≤ c0) (m0 : c0 ≤ maxLen) (y0 : l0.length * 32 ≤ 140737488351232) :
    Calls Tryd.prog 3 #[.slice a0 l0.length c0] W fun e w' => e = .returned (.bool true) ∧ Below W.heap.size W w' := by
  have h := plays_walk W hT a0 c0 (l0.map four) (act5_rows r0 (by omega)) (act5_ok r0)
  rw [List.length_map] at h
  exact h
end Go.Proofs.YtedolmjealgeoaaDoor.CallRingPlays

/- RingHolds as a call: true. Conditions: the library's table as its initialiser lays it. -/
import Derived.Test.YtedolmjealgeoaaDoorHw
import Derived.OpenShut
set_option linter.unusedVariables false
namespace Go.Proofs.YtedolmjealgeoaaDoor.CallRingHolds
open Go.RowKit Go.Proofs.YtedolmjealgeoaaDoor.Open Go.Proofs.YtedolmjealgeoaaDoor.PBase Go.Proofs.YtedolmjealgeoaaDoor.Tz Go.Proofs.YtedolmjealgeoaaDoor.Rg
theorem calls (W : World) (hT : TabOk W) (a0 : Option Addr) (c0 : Nat) (l0 : List (List Int)) (r0 : RowsOf W [.i64, .i64, .i64, .u64] a0 l0) (x0 : l0.length ≤ c0) (m0 : c0 ≤ maxLen) (y0 : l0.length * 32 ≤ 140737488351232) (a1 : Int) (w1 : (Lit.int .u8 a1).wf = true) :
    Calls Tryd.prog 4 #[.slice a0 l0.length c0, .int .u8 a1] W fun e w' => e = .returned (.bool true) ∧ Below W.heap.size W w' := by
  have b1 := Go.bounds_u8 w1
  have e0 : wrap64 a1 = a1 := by unfold wrap64; omega
  have e1 : (wrap64 a1).tmod 64 = (((a1 % 64).toNat : Nat) : Int) := by rw [e0, Int.tmod_eq_emod_of_nonneg (by omega)]; omega
  have h := holds_walk W hT a0 c0 (l0.map four) a1 (a1 % 64).toNat e1 (by omega) (act5_rows r0 (by omega)) (act5_ok r0)
  rw [List.length_map] at h
  exact h
end Go.Proofs.YtedolmjealgeoaaDoor.CallRingHolds

/- QueueFair as a call: true. Conditions: none. -/
import Derived.Test.YtgffcbhkkjigfaaFw
import Derived.Test.YtgffcbhkkjigfaaAct
import Derived.OpenShut
namespace Go.Proofs.Ytgffcbhkkjigfaa.CallQueueFair
open Go.RowKit Go.Proofs.Ytgffcbhkkjigfaa.PBase Go.Proofs.Ytgffcbhkkjigfaa.Open
set_option linter.unusedVariables false
theorem calls (W : World) (a0_0 : Int) (w0_0 : (Lit.int .u16 a0_0).wf = true) (a0_1 : Int) (w0_1 : (Lit.int .u16 a0_1).wf = true) (a1 : Int) (w1 : (Lit.int .u8 a1).wf = true) (a2 : Option Addr) (c2 : Nat) (l2 : List (List Int)) (r2 : RowsOf W [.i64, .i64, .i64] a2 l2) (x2 : l2.length ≤ c2) (m2 : c2 ≤ maxLen) (y2 : l2.length * 24 ≤ 140737488351232) :
    Calls Try.prog 3 #[.agg #[.int .u16 a0_0, .int .u16 a0_1], .int .u8 a1, .slice a2 l2.length c2] W fun e w' => e = .returned (.bool true) ∧ Below W.heap.size W w' := by
  have b0 := Go.bounds_u16 w0_0
  have b1 := Go.bounds_u16 w0_1
  have b2 := Go.bounds_u8 w1
  have f0 : wrap64 a0_0 = a0_0 := by unfold wrap64; omega
  have f2 : wrap64 a1 = a1 := by clear f0; unfold wrap64; omega
  have e0 : wrap64 (1 + (wrap64 a0_0).tmod 10) = 1 + a0_0 % 10 := by rw [f0, Int.tmod_eq_emod_of_nonneg (by clear f0 f2; omega)]; clear f0 f2; unfold wrap64; omega
  have f1 : wrap64 a0_1 = a0_1 := by clear f0 f2 e0; unfold wrap64; omega
  have e1 : wrap64 (1 + (wrap64 a0_1).tmod 12) = 1 + a0_1 % 12 := by rw [f1, Int.tmod_eq_emod_of_nonneg (by clear f0 f1 f2 e0; omega)]; clear f0 f1 f2 e0; unfold wrap64; omega
  have e7 : (wrap64 a1).tmod 7 = ((a1.toNat % 7 : Nat) : Int) := by rw [f2, Int.tmod_eq_emod_of_nonneg (by clear f0 f1 f2 e0 e1; omega)]; clear f0 f1 f2 e0 e1; omega
  have e8 : (wrap64 a1).tmod 8 = ((a1.toNat % 8 : Nat) : Int) := by rw [f2, Int.tmod_eq_emod_of_nonneg (by clear f0 f1 f2 e0 e1 e7; omega)]; clear f0 f1 f2 e0 e1 e7; omega
  clear f0 f1 f2
  have h := Ln.fair_walk W a0_0 a0_1 a1 (1 + a0_0 % 10) (1 + a0_1 % 12) a2 c2 (l2.map three) (a1.toNat % 7) (a1.toNat % 8) ((1 + a0_0 % 10) * 8 + (1 + a0_1 % 12)).toNat e0 e1 (by clear e0 e1 e7 e8; omega) (by clear e0 e1 e7 e8; omega) e7 (Nat.mod_lt _ (by decide)) e8 (Nat.mod_lt _ (by decide)) (by clear e0 e1 e7 e8; omega) (act_rows r2 (by clear e0 e1 e7 e8; omega))
  rw [List.length_map] at h
  exact h
end Go.Proofs.Ytgffcbhkkjigfaa.CallQueueFair

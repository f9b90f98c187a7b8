/- RetryOften as a call: the printed contract and the plain law joined. Conditions: none beyond the bounds that are given. -/
import Derived.Test.YtdefifgllimedaaPureRetryOften
import Derived.Test.YtdefifgllimedaaOpenKd
namespace Go.Proofs.Ytdefifgllimedaa.CallRetryOften
open Go.RowKit Go.Proofs.Ytdefifgllimedaa.PRetryOften Go.Proofs.Ytdefifgllimedaa.Open
set_option linter.unusedVariables false
theorem calls (W : World) (a0 : Int) (w0 : (Lit.int .u8 a0).wf = true) (a1 : Option Addr) (c1 : Nat) (l1 : List (List Int)) (r1 : RowsOf W [.i64] a1 l1) (x1 : l1.length ≤ c1) (m1 : c1 ≤ maxLen) (y1 : l1.length * 8 ≤ 140737488351232) :
    Calls Try.prog 5 #[.int .u8 a0, .slice a1 l1.length c1] W fun e w' => e = .returned (.bool true) ∧ Below W.heap.size W w' := by
  have hm : l1.length ≤ 9223372036854775807 := by omega
  obtain ⟨k, hk⟩ := Pure.RetryOften a0 (firsts l1) w0 (by rw [firsts_length]; omega) (by rw [firsts_length]; exact y1) (firsts_wf r1)
  have h := remontoirlaw11_RetryOften.calls k a0 a1 c1 (firsts l1) true W (kd_ints r1 hm) (by rw [firsts_length]; exact x1) hk
  rw [firsts_length] at h
  exact h
end Go.Proofs.Ytdefifgllimedaa.CallRetryOften

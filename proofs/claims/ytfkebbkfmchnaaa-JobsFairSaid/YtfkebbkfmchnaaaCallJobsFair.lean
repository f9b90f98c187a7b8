/- JobsFair as a call: true. Conditions: the row read. -/
import Derived.Test.YtfkebbkfmchnaaaFw
import Derived.Test.YtfkebbkfmchnaaaOpenKd
set_option linter.unusedVariables false
namespace Go.Proofs.Ytfkebbkfmchnaaa.CallJobsFair
open Go.RowKit Go.Proofs.Ytfkebbkfmchnaaa.Open Go.Proofs.Ytfkebbkfmchnaaa.PBase Go.Proofs.Ytfkebbkfmchnaaa.Bk Go.Proofs.YtfkebbkfmchnaaaW.PrintWords Go.Proofs.YtfkebbkfmchnaaaW.PrintLast Go.Proofs.YtfkebbkfmchnaaaW.PrintMore
theorem tm {a : Int} (h : 0 ≤ a ∧ a ≤ 65535) (k : Int) : (wrap64 a).tmod k = a % k := by
  have e : wrap64 a = a := by unfold wrap64; omega
  rw [e]
  exact Int.tmod_eq_emod_of_nonneg h.1
theorem calls (W : World) (a0_0 : Int) (w0_0 : (Lit.int .u16 a0_0).wf = true) (a0_1 : Int) (w0_1 : (Lit.int .u16 a0_1).wf = true) (a1 : Int) (w1 : (Lit.int .u8 a1).wf = true) (a2 : Option Addr) (c2 : Nat) (l2 : List (List Int)) (r2 : RowsOf W [.u8] a2 l2) (x2 : l2.length ≤ c2) (m2 : c2 ≤ maxLen) (y2 : l2.length * 1 ≤ 140737488351232) :
    Calls Try.prog 3 #[.agg #[.int .u16 a0_0, .int .u16 a0_1], .int .u8 a1, .slice a2 l2.length c2] W fun e w' => e = .returned (.bool true) ∧ Below W.heap.size W w' := by
  have b0 := Go.bounds_u16 w0_0
  have b1 := Go.bounds_u16 w0_1
  have b2 := Go.bounds_u8 w1
  have h := fair_walk W a0_0 a0_1 a1 (1 + a0_0 % 8) (1 + a0_1 % 10) (a1 % 8) ((1 + a0_0 % 8) * 8 + (1 + a0_1 % 10)).toNat a2 c2 (firsts l2) (by
      rw [tm (by omega)]
      unfold wrap64
      omega) (by
      rw [tm (by omega)]
      unfold wrap64
      omega) (tm (by omega) 8) (by omega) (by omega) (by omega) (by omega) (kd_ints r2 (by omega)) (by rw [firsts_length]; exact x2) (fun x hx => by
      have := Go.bounds_u8 (firsts_wf r2 x hx)
      omega)
  rw [firsts_length] at h
  exact h
end Go.Proofs.Ytfkebbkfmchnaaa.CallJobsFair

/- JobsOften as a call: true. Conditions: the row read. -/
import Derived.Test.YtfkebbkfmchnaaaOw
import Derived.Test.YtfkebbkfmchnaaaOpenKd
set_option linter.unusedVariables false
namespace Go.Proofs.Ytfkebbkfmchnaaa.CallJobsOften
open Go.RowKit Go.Proofs.Ytfkebbkfmchnaaa.Open Go.Proofs.Ytfkebbkfmchnaaa.PBase Go.Proofs.Ytfkebbkfmchnaaa.Bk Go.Proofs.YtfkebbkfmchnaaaW.PrintWords Go.Proofs.YtfkebbkfmchnaaaW.PrintLast Go.Proofs.YtfkebbkfmchnaaaW.PrintMore
def four (ns : List Int) : S51 := ⟨ns.headD 0, ns.tail.headD 0, ns.tail.tail.headD 0, ns.tail.tail.tail.headD 0⟩
theorem four_K (W : World) (ns : List Int) (h : Fits [.i64, .i64, .i64, .u64] ns) : k51.K W (four ns) (ints [.i64, .i64, .i64, .u64] ns) := by
  obtain ⟨a, r, rfl, _, h⟩ := fits_cons h
  obtain ⟨b, r, rfl, _, h⟩ := fits_cons h
  obtain ⟨c, r, rfl, _, h⟩ := fits_cons h
  obtain ⟨d, r, rfl, _, h⟩ := fits_cons h
  obtain rfl := fits_nil h
  exact k51_mk W (four [a, b, c, d])
theorem tm {a : Int} (h : 0 ≤ a ∧ a ≤ 255) (k : Int) : (wrap64 a).tmod k = a % k := by
  have e : wrap64 a = a := by unfold wrap64; omega
  rw [e]
  exact Int.tmod_eq_emod_of_nonneg h.1
theorem calls (W : World) (a0 : Int) (w0 : (Lit.int .u8 a0).wf = true) (a1 : Option Addr) (c1 : Nat) (l1 : List (List Int)) (r1 : RowsOf W [.i64, .i64, .i64, .u64] a1 l1) (x1 : l1.length ≤ c1) (m1 : c1 ≤ maxLen) (y1 : l1.length * 32 ≤ 140737488351232) :
    Calls Try.prog 5 #[.int .u8 a0, .slice a1 l1.length c1] W fun e w' => e = .returned (.bool true) ∧ Below W.heap.size W w' := by
  have b0 := Go.bounds_u8 w0
  have h := often_walk W a0 (a0 % 10) a1 c1 (l1.map four) (tm (by omega) 10) (by omega) (kd_rows (d := k51) four rfl (four_K W) r1 (by omega)) (by rw [List.length_map]; exact x1)
  rw [List.length_map] at h
  exact h
end Go.Proofs.Ytfkebbkfmchnaaa.CallJobsOften

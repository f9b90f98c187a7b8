/- JobsPlays as a call: true. Conditions: the row read. -/
import Derived.Test.YtfkebbkfmchnaaaPy
import Derived.Test.YtfkebbkfmchnaaaOpenKd
set_option linter.unusedVariables false
namespace Go.Proofs.Ytfkebbkfmchnaaa.CallJobsPlays
open Go.RowKit Go.Proofs.Ytfkebbkfmchnaaa.Open Go.Proofs.Ytfkebbkfmchnaaa.PBase Go.Proofs.Ytfkebbkfmchnaaa.Bk Go.Proofs.YtfkebbkfmchnaaaW.PrintWords Go.Proofs.YtfkebbkfmchnaaaW.PrintLast Go.Proofs.YtfkebbkfmchnaaaW.PrintMore
def four (ns : List Int) : S51 := ⟨ns.headD 0, ns.tail.headD 0, ns.tail.tail.headD 0, ns.tail.tail.tail.headD 0⟩
theorem four_K (W : World) (ns : List Int) (h : Fits [.i64, .i64, .i64, .u64] ns) : k51.K W (four ns) (ints [.i64, .i64, .i64, .u64] ns) := by
  obtain ⟨a, r, rfl, _, h⟩ := fits_cons h
  obtain ⟨b, r, rfl, _, h⟩ := fits_cons h
  obtain ⟨c, r, rfl, _, h⟩ := fits_cons h
  obtain ⟨d, r, rfl, _, h⟩ := fits_cons h
  obtain rfl := fits_nil h
  exact k51_mk W (four [a, b, c, d])
theorem four_wf (ns : List Int) (h : Fits [.i64, .i64, .i64, .u64] ns) : (Lit.int .i64 (four ns).f1).wf = true := by
  obtain ⟨a, r, rfl, _, h⟩ := fits_cons h
  obtain ⟨b, r, rfl, hb, h⟩ := fits_cons h
  exact hb
theorem calls (W : World) (a0_0 : Int) (w0_0 : (Lit.int .i64 a0_0).wf = true) (a0_1 : Int) (w0_1 : (Lit.int .i64 a0_1).wf = true) (a0_2 : Int) (w0_2 : (Lit.int .i64 a0_2).wf = true) (a1 : Option Addr) (c1 : Nat) (l1 : List (List Int)) (r1 : RowsOf W [.i64, .i64, .i64, .u64] a1 l1) (x1 : l1.length ≤ c1) (m1 : c1 ≤ maxLen) (y1 : l1.length * 32 ≤ 140737488351232) :
    Calls Try.prog 6 #[.agg #[.int .i64 a0_0, .int .i64 a0_1, .int .i64 a0_2], .slice a1 l1.length c1] W fun e w' => e = .returned (.bool true) ∧ Below W.heap.size W w' := by
  rcases hm : mayB a0_0 a0_1 a0_2 with _ | _
  · exact plays_bad W a0_0 a0_1 a0_2 a1 c1 l1.length hm
  · have h := plays_good W a0_0 a0_1 a0_2 a1 c1 (l1.map four) hm (kd_rows (d := k51) four rfl (four_K W) r1 (by omega)) (fun i hi => by
      have hi2 : i < l1.length := by rw [List.length_map] at hi; exact hi
      unfold rd51
      rw [List.getD_eq_getElem?_getD, List.getElem?_eq_getElem hi, List.getElem_map]
      exact four_wf _ (r1.2 _ (List.getElem_mem hi2)))
    rw [List.length_map] at h
    exact h
end Go.Proofs.Ytfkebbkfmchnaaa.CallJobsPlays

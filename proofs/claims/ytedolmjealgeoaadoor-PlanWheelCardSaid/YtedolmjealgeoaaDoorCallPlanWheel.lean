/- PlanWheel as a call: true. Conditions: the library's table as its initialiser lays it; the lists read. -/
import Derived.Test.YtedolmjealgeoaaDoorPx7
import Derived.Test.YtedolmjealgeoaaDoorOpenKd
import Derived.OpenShut
set_option linter.unusedVariables false
namespace Go.Proofs.YtedolmjealgeoaaDoor.CallPlanWheel
open Go.RowKit Go.Maps Go.Proofs.YtedolmjealgeoaaDoor.PBase Go.Proofs.YtedolmjealgeoaaDoor.Tz Go.Proofs.YtedolmjealgeoaaDoor.Cat Go.Proofs.YtedolmjealgeoaaDoor.Rg Go.Proofs.YtedolmjealgeoaaDoor.Tk Go.Proofs.YtedolmjealgeoaaDoor.Wh Go.Proofs.YtedolmjealgeoaaDoor.Pn Go.Proofs.YtedolmjealgeoaaDoor.Open Go.Proofs.YtedolmjealgeoaaDoorW.PrintWords Go.Proofs.YtedolmjealgeoaaDoorW.PrintLast Go.Proofs.YtedolmjealgeoaaDoorW.PrintMore
theorem U_of {a : Int} (h : (Lit.int .u64 a).wf = true) : U a := by
  have h2 := Go.bounds_u64 h
  unfold U
  omega
def two (ns : List Int) : S31 := ⟨ns.headD 0, ns.tail.headD 0⟩
theorem two_K (W : World) (ns : List Int) (h : Fits [.i64, .u64] ns) : k31.K W (two ns) (ints [.i64, .u64] ns) := by
  obtain ⟨a, r, rfl, _, h⟩ := fits_cons h
  obtain ⟨b, r, rfl, _, h⟩ := fits_cons h
  obtain rfl := fits_nil h
  exact k31_mk W (two [a, b])
theorem two_ok {W : World} {A : Option Addr} {l : List (List Int)} (h : RowsOf W [.i64, .u64] A l) : Ok (l.map two) ∧ ∀ d ∈ l.map two, U d.f1 := by
  have h2 : ∀ d ∈ l.map two, (Lit.int .i64 d.f0).wf = true ∧ U d.f1 := fun d hd => by
    obtain ⟨ns, hns, rfl⟩ := List.mem_map.1 hd
    obtain ⟨a, r, rfl, hw, hr⟩ := fits_cons (h.2 ns hns)
    obtain ⟨b, r, rfl, hw2, _⟩ := fits_cons hr
    exact ⟨hw, U_of hw2⟩
  exact ⟨fun d hd => (h2 d hd).1, fun d hd => (h2 d hd).2⟩
theorem calls (W : World) (hT : TabOk W) (a0 : Int) (w0 : (Lit.int .u64 a0).wf = true) (a1 : Option Addr) (c1 : Nat) (l1 : List (List Int)) (r1 : RowsOf W [.i64, .u64] a1 l1) (x1 : l1.length ≤ c1) (m1 : c1 ≤ maxLen) (y1 : l1.length * 16 ≤ 140737488351232) (a2 : Option Addr) (c2 : Nat) (l2 : List (List Int)) (r2 : RowsOf W [.u64] a2 l2) (x2 : l2.length ≤ c2) (m2 : c2 ≤ maxLen) (y2 : l2.length * 8 ≤ 140737488351232) :
    Calls Tryd.prog 12 #[.int .u64 a0, .slice a1 l1.length c1, .slice a2 l2.length c2] W fun e w' => e = .returned (.bool true) ∧ Below W.heap.size W w' := by
  have hm2 : l2.length ≤ 9223372036854775807 := by omega
  have h := plan_walk W hT a0 (U_of w0) a1 c1 (l1.map two) (kd_rows (d := k31) two rfl (two_K W) r1 (by omega)) (two_ok r1).1 (two_ok r1).2 (by rw [List.length_map]; omega) a2 c2 (firsts l2) (kd_ints r2 hm2) (fun x hx => U_of (firsts_wf r2 x hx)) (by rw [firsts_length]; exact hm2)
  rw [firsts_length, List.length_map] at h
  exact h
end Go.Proofs.YtedolmjealgeoaaDoor.CallPlanWheel

/- WheelPlays as a call: true. Conditions: the library's table as its initialiser lays it; the rows read. -/
import Derived.Test.YtedolmjealgeoaaDoorWlp
import Derived.OpenShut
set_option linter.unusedVariables false
namespace Go.Proofs.YtedolmjealgeoaaDoor.CallWheelPlays
open Go.RowKit Go.Maps Go.Proofs.YtedolmjealgeoaaDoor.PBase Go.Proofs.YtedolmjealgeoaaDoor.Tz Go.Proofs.YtedolmjealgeoaaDoor.Cat Go.Proofs.YtedolmjealgeoaaDoor.Rg Go.Proofs.YtedolmjealgeoaaDoor.Tk Go.Proofs.YtedolmjealgeoaaDoor.Wh Go.Proofs.YtedolmjealgeoaaDoor.Open Go.Proofs.YtedolmjealgeoaaDoorW.PrintWords Go.Proofs.YtedolmjealgeoaaDoorW.PrintLast Go.Proofs.YtedolmjealgeoaaDoorW.PrintMore
theorem U_of {a : Int} (h : (Lit.int .u64 a).wf = true) : U a := by
  have h2 := Go.bounds_u64 h
  unfold U
  omega
def three (ns : List Int) : S114 := ⟨ns.headD 0, ⟨ns.tail.headD 0, ns.tail.tail.headD 0⟩⟩
theorem three_K (W : World) (ns : List Int) (h : Fits [.i64, .i64, .u64] ns) : k114.K W (three ns) (ints [.i64, .i64, .u64] ns) := by
  obtain ⟨a, r, rfl, _, h⟩ := fits_cons h
  obtain ⟨b, r, rfl, _, h⟩ := fits_cons h
  obtain ⟨c, r, rfl, _, h⟩ := fits_cons h
  obtain rfl := fits_nil h
  exact k114_mk W (three [a, b, c])
theorem three_ok {W : World} {A : Option Addr} {l : List (List Int)} (h : RowsOf W [.i64, .i64, .u64] A l) : ∀ x ∈ l.map three, (Lit.int .i64 x.f1.f0).wf = true ∧ U x.f1.f1 := by
  intro x hx
  obtain ⟨ns, hns, rfl⟩ := List.mem_map.1 hx
  obtain ⟨a, r, rfl, _, hr⟩ := fits_cons (h.2 ns hns)
  obtain ⟨b, r, rfl, hw, hr⟩ := fits_cons hr
  obtain ⟨c, r, rfl, hw2, hr⟩ := fits_cons hr
  exact ⟨hw, U_of hw2⟩
theorem calls (W : World) (hT : TabOk W) (a0 : Int) (w0 : (Lit.int .u64 a0).wf = true) (a1 : Option Addr) (c1 : Nat) (l1 : List (List Int)) (r1 : RowsOf W [.i64, .i64, .u64] a1 l1) (x1 : l1.length ≤ c1) (m1 : c1 ≤ maxLen) (y1 : l1.length * 24 ≤ 140737488351232) :
    Calls Tryd.prog 9 #[.int .u64 a0, .slice a1 l1.length c1] W fun e w' => e = .returned (.bool true) ∧ Below W.heap.size W w' := by
  have h := plays_walk W hT a0 (U_of w0) a1 c1 (l1.map three) (kd_rows (d := k114) three rfl (three_K W) r1 (by omega)) (three_ok r1)
  rw [List.length_map] at h
  exact h
end Go.Proofs.YtedolmjealgeoaaDoor.CallWheelPlays

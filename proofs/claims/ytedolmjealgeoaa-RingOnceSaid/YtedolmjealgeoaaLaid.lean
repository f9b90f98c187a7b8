/- The shelf's contracts of slices.IndexFunc, ContainsFunc, BinarySearchFunc at the seat's functions; what has(id) tells. Conditions: those of the contracts. -/
import Derived.Test.YtedolmjealgeoaaPBasex2
import Derived.Test.YtedolmjealgeoaaSo
import Derived.Shelf.SlicesQ.IndexFunc
import Derived.Shelf.Lay
import Derived.Ground.SlgfProg
import Derived.Lib.SliceRun
namespace Go.Proofs
open Go.Shelf Go.RowKit Go.Lib
shelf_lay_g SlLaysH0.n6 Slgf 6 at Try 29 as Try.indexFunc
end Go.Proofs
namespace Go.Proofs.Ytedolmjealgeoaa.Laid
open Go.Shelf Go.RowKit Go.Lib Go.Proofs.Ytedolmjealgeoaa.PBase
/-- A timer's two cells. -/
def enc (x : S24) : List Value := [.int .i64 x.f0, .int .u64 x.f1]
/-- The closure of has(id): its number is id; id lies in the cell ⟨B, 0⟩. -/
theorem pred19 (id : Int) (B : Nat) (w : World) (hB : B < w.heap.size) (hcell : w.cell? ⟨B, 0, none⟩ = some (.int .i64 id)) :
    PredBelow Try.prog 19 #[.pointer (some ⟨B, 0, none⟩)] (fun x => .agg (enc x).toArray) (fun x => x.f0 == id) w := fun W x hb => by
  have hc : W.cell? ⟨B, 0, none⟩ = some (.int .i64 id) := (hb.cell (p := ⟨B, 0, none⟩) hB).trans hcell
  have hBW : B < W.heap.size := Nat.lt_of_lt_of_le hB hb.size
  have hne : B ≠ W.heap.size := by omega
  show Calls Try.prog 19 #[.agg #[.int .i64 x.f0, .int .u64 x.f1], .pointer (some ⟨B, 0, none⟩)] W _
  go_enter Try.func19, Try.ntmps19
  go_wp2
  all_goals (go_ret; exact ⟨by simp_all, hb.alloc hb.size _⟩)
end Go.Proofs.Ytedolmjealgeoaa.Laid

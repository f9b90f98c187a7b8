/- Rows of three numbers, read as elements. Conditions: those of the rows. -/
import Derived.Test.YtgffcbhkkjigfaaOpenKd
import Derived.Test.YtgffcbhkkjigfaaPBasex4
namespace Go.Proofs.Ytgffcbhkkjigfaa.Open
open Go.RowKit Go.Proofs.Ytgffcbhkkjigfaa.PBase Go.Proofs.YtgffcbhkkjigfaaW.PrintWords Go.Proofs.YtgffcbhkkjigfaaW.PrintLast
def three (ns : List Int) : S32 := ⟨ns.headD 0, ns.tail.headD 0, ns.tail.tail.headD 0⟩
theorem three_K (W : World) (ns : List Int) (h : Fits [.i64, .i64, .i64] ns) : k32.K W (three ns) (ints [.i64, .i64, .i64] ns) := by
  obtain ⟨a, r, rfl, _, h⟩ := fits_cons h
  obtain ⟨b, r, rfl, _, h⟩ := fits_cons h
  obtain ⟨c, r, rfl, _, h⟩ := fits_cons h
  obtain rfl := fits_nil h
  exact k32_mk W (three [a, b, c])
theorem act_rows {W : World} {A : Option Addr} {l : List (List Int)} (h : RowsOf W [.i64, .i64, .i64] A l) (hm : l.length ≤ 9223372036854775807) : Kd.C k32 W A (l.map three).length (l.map three) := kd_rows (d := k32) three rfl (three_K W) h hm
end Go.Proofs.Ytgffcbhkkjigfaa.Open

/-
  NARROWER THAN 'FOR EVERY INPUT', by the rows' own cells (each row's printed sentence says how): RingPlays: laid · RingHolds: laid · RingNone: laid · WheelFires: laid · WheelLast: laid · WheelSplits: laid · WheelPlays: laid · WheelPlaces: laid · WheelNone: laid · PlanWheel: laid.
  DERIVED. THE GIVEN ROWS OF THIS SEAT. 10 by the template 'for every input the law returns true; each argument reads behind the call as it read before'; 0 by the template 'total and deterministic' (their statements: YtedolmjealgeoaaDoorTotals.lean).
  GIVEN WITH THE SEED: the statements are not yours to turn. If you find one false, say at which input.
  Laid BY PROGRAM, IN A SANDBOX (cutbox-rows.mjs): the forced cells as the released guide's own fill.sh prints them over the translation 52b7908a50240954… (all of the seat's roots in one cut). By AI agents, Wed Nov 11 2026. No macro, syntax, notation, axiom, sorry.
-/
import Derived.Test.YtedolmjealgeoaaDoorChecked
import GoSem.Claim
import GoSem.ClaimJoined
import GoSem.ClaimMapViews
import Derived.JoinedTies
import Derived.KernelRfl
namespace Go.Proofs.YtedolmjealgeoaaDoor
/- THE CELL 'sum', in the pinned program and in every row, IS THE sha256 OF THE DUMP (.gsa) THAT YtedolmjealgeoaaDoorProg.lean LOADS. Nothing in Lean hashes anything: it is a label: what it is worth is what the hold of that sum in a sandbox is worth. -/
noncomputable def Tryd.pinned : Pinned := { name := "ytedolmjealgeoaadoor", sum := "52b7908a50240954003ac1502b8c29254252ea44f2e26866c0b55d39b47a5cf4", checked := Tryd.checked }
namespace Rows
def none {H : Type} : Left H := { results := [], args := [] }

/- WHAT THE LISTED PACKAGE-LEVEL VARIABLES READ AS WHEN THE CALL BEGINS. Each datum BY PROGRAM (the guide's laid-datum.mjs) off the statement by which the dump's own 'gosem.cut.vars' lays the variable. In a bare row this is a premise. The card (YtedolmjealgeoaaDoorCards.lean) ties it to the program's text. -/
def laid_math_bits_deBruijn64tab {H : Type} : DataW H := .agg [.lit (.int .u8 0), .lit (.int .u8 1), .lit (.int .u8 56), .lit (.int .u8 2), .lit (.int .u8 57), .lit (.int .u8 49), .lit (.int .u8 28), .lit (.int .u8 3), .lit (.int .u8 61), .lit (.int .u8 58), .lit (.int .u8 42), .lit (.int .u8 50), .lit (.int .u8 38), .lit (.int .u8 29), .lit (.int .u8 17), .lit (.int .u8 4), .lit (.int .u8 62), .lit (.int .u8 47), .lit (.int .u8 59), .lit (.int .u8 36), .lit (.int .u8 45), .lit (.int .u8 43), .lit (.int .u8 51), .lit (.int .u8 22), .lit (.int .u8 53), .lit (.int .u8 39), .lit (.int .u8 33), .lit (.int .u8 30), .lit (.int .u8 24), .lit (.int .u8 18), .lit (.int .u8 12), .lit (.int .u8 5), .lit (.int .u8 63), .lit (.int .u8 55), .lit (.int .u8 48), .lit (.int .u8 27), .lit (.int .u8 60), .lit (.int .u8 41), .lit (.int .u8 37), .lit (.int .u8 16), .lit (.int .u8 46), .lit (.int .u8 35), .lit (.int .u8 44), .lit (.int .u8 21), .lit (.int .u8 52), .lit (.int .u8 32), .lit (.int .u8 23), .lit (.int .u8 11), .lit (.int .u8 54), .lit (.int .u8 26), .lit (.int .u8 40), .lit (.int .u8 15), .lit (.int .u8 34), .lit (.int .u8 20), .lit (.int .u8 31), .lit (.int .u8 10), .lit (.int .u8 25), .lit (.int .u8 14), .lit (.int .u8 19), .lit (.int .u8 9), .lit (.int .u8 13), .lit (.int .u8 8), .lit (.int .u8 7), .lit (.int .u8 6)]

/-- 'remontoirlaw05.RingPlays': WHATEVER THE INPUT: true; the input reads as it did. -/
def ringPlaysSpec : ChangeSpec := { name := "ringPlays", fn := fun _ => fun
  | [d] => { results := [.lit (.bool true)], args := [d] }
  | _ => none }
def ringPlaysRow : OpenClaim := { program := "ytedolmjealgeoaadoor", sum := "52b7908a50240954003ac1502b8c29254252ea44f2e26866c0b55d39b47a5cf4", func := "remontoir/remontoirlaw05.RingPlays", spec := "ringPlays", inPlace := ["slices.overlaps[remontoir/api.Due]"], unfollowed := true, recurses := true, named := ["math/bits.deBruijn64tab"], apart := false, laid := [("math/bits.deBruijn64tab", laid_math_bits_deBruijn64tab)] }
def RingPlaysSaid : Prop := ringPlaysRow.holds Tryd.pinned (OpenSpec.ofChange ringPlaysSpec)

/-- ITS FALSE NEIGHBOUR: 'it returns false'. Refute it at one input. -/
def ringPlaysWrong : ChangeSpec := { name := "ringPlays", fn := fun _ => fun
  | [d] => { results := [.lit (.bool false)], args := [d] }
  | _ => none }
def RingPlaysWrongFalsely : Prop := ringPlaysRow.holds Tryd.pinned (OpenSpec.ofChange ringPlaysWrong)

/-- 'remontoirlaw05.RingHolds': WHATEVER THE INPUT: true; the input reads as it did. -/
def ringHoldsSpec : ChangeSpec := { name := "ringHolds", fn := fun _ => fun
  | [d1, d2] => { results := [.lit (.bool true)], args := [d1, d2] }
  | _ => none }
def ringHoldsRow : OpenClaim := { program := "ytedolmjealgeoaadoor", sum := "52b7908a50240954003ac1502b8c29254252ea44f2e26866c0b55d39b47a5cf4", func := "remontoir/remontoirlaw05.RingHolds", spec := "ringHolds", inPlace := ["slices.overlaps[remontoir/api.Due]"], unfollowed := true, recurses := true, named := ["math/bits.deBruijn64tab"], apart := false, laid := [("math/bits.deBruijn64tab", laid_math_bits_deBruijn64tab)] }
def RingHoldsSaid : Prop := ringHoldsRow.holds Tryd.pinned (OpenSpec.ofChange ringHoldsSpec)

/-- ITS FALSE NEIGHBOUR: 'it returns false'. Refute it at one input. -/
def ringHoldsWrong : ChangeSpec := { name := "ringHolds", fn := fun _ => fun
  | [d1, d2] => { results := [.lit (.bool false)], args := [d1, d2] }
  | _ => none }
def RingHoldsWrongFalsely : Prop := ringHoldsRow.holds Tryd.pinned (OpenSpec.ofChange ringHoldsWrong)

/-- 'remontoirlaw05.RingNone': WHATEVER THE INPUT: true; the input reads as it did. -/
def ringNoneSpec : ChangeSpec := { name := "ringNone", fn := fun _ => fun
  | [d1, d2] => { results := [.lit (.bool true)], args := [d1, d2] }
  | _ => none }
def ringNoneRow : OpenClaim := { program := "ytedolmjealgeoaadoor", sum := "52b7908a50240954003ac1502b8c29254252ea44f2e26866c0b55d39b47a5cf4", func := "remontoir/remontoirlaw05.RingNone", spec := "ringNone", inPlace := ["slices.overlaps[remontoir/api.Due]"], unfollowed := true, recurses := true, named := ["math/bits.deBruijn64tab"], apart := false, laid := [("math/bits.deBruijn64tab", laid_math_bits_deBruijn64tab)] }
def RingNoneSaid : Prop := ringNoneRow.holds Tryd.pinned (OpenSpec.ofChange ringNoneSpec)

/-- ITS FALSE NEIGHBOUR: 'it returns false'. Refute it at one input. -/
def ringNoneWrong : ChangeSpec := { name := "ringNone", fn := fun _ => fun
  | [d1, d2] => { results := [.lit (.bool false)], args := [d1, d2] }
  | _ => none }
def RingNoneWrongFalsely : Prop := ringNoneRow.holds Tryd.pinned (OpenSpec.ofChange ringNoneWrong)

/-- 'remontoirlaw06.WheelFires': WHATEVER THE INPUT: true; the input reads as it did. -/
def wheelFiresSpec : ChangeSpec := { name := "wheelFires", fn := fun _ => fun
  | [d1, d2, d3] => { results := [.lit (.bool true)], args := [d1, d2, d3] }
  | _ => none }
def wheelFiresRow : OpenClaim := { program := "ytedolmjealgeoaadoor", sum := "52b7908a50240954003ac1502b8c29254252ea44f2e26866c0b55d39b47a5cf4", func := "remontoir/remontoirlaw06.WheelFires", spec := "wheelFires", inPlace := ["slices.overlaps[remontoir/api.Due]", "math/bits.Add64"], unfollowed := true, recurses := true, named := ["math/bits.deBruijn64tab"], apart := false, laid := [("math/bits.deBruijn64tab", laid_math_bits_deBruijn64tab)] }
def WheelFiresSaid : Prop := wheelFiresRow.holds Tryd.pinned (OpenSpec.ofChange wheelFiresSpec)

/-- ITS FALSE NEIGHBOUR: 'it returns false'. Refute it at one input. -/
def wheelFiresWrong : ChangeSpec := { name := "wheelFires", fn := fun _ => fun
  | [d1, d2, d3] => { results := [.lit (.bool false)], args := [d1, d2, d3] }
  | _ => none }
def WheelFiresWrongFalsely : Prop := wheelFiresRow.holds Tryd.pinned (OpenSpec.ofChange wheelFiresWrong)

/-- 'remontoirlaw06.WheelLast': WHATEVER THE INPUT: true; the input reads as it did. -/
def wheelLastSpec : ChangeSpec := { name := "wheelLast", fn := fun _ => fun
  | [d1, d2, d3] => { results := [.lit (.bool true)], args := [d1, d2, d3] }
  | _ => none }
def wheelLastRow : OpenClaim := { program := "ytedolmjealgeoaadoor", sum := "52b7908a50240954003ac1502b8c29254252ea44f2e26866c0b55d39b47a5cf4", func := "remontoir/remontoirlaw06.WheelLast", spec := "wheelLast", inPlace := ["slices.overlaps[remontoir/api.Due]", "math/bits.Add64"], unfollowed := true, recurses := true, named := ["math/bits.deBruijn64tab"], apart := false, laid := [("math/bits.deBruijn64tab", laid_math_bits_deBruijn64tab)] }
def WheelLastSaid : Prop := wheelLastRow.holds Tryd.pinned (OpenSpec.ofChange wheelLastSpec)

/-- ITS FALSE NEIGHBOUR: 'it returns false'. Refute it at one input. -/
def wheelLastWrong : ChangeSpec := { name := "wheelLast", fn := fun _ => fun
  | [d1, d2, d3] => { results := [.lit (.bool false)], args := [d1, d2, d3] }
  | _ => none }
def WheelLastWrongFalsely : Prop := wheelLastRow.holds Tryd.pinned (OpenSpec.ofChange wheelLastWrong)

/-- 'remontoirlaw06.WheelSplits': WHATEVER THE INPUT: true; the input reads as it did. -/
def wheelSplitsSpec : ChangeSpec := { name := "wheelSplits", fn := fun _ => fun
  | [d1, d2, d3] => { results := [.lit (.bool true)], args := [d1, d2, d3] }
  | _ => none }
def wheelSplitsRow : OpenClaim := { program := "ytedolmjealgeoaadoor", sum := "52b7908a50240954003ac1502b8c29254252ea44f2e26866c0b55d39b47a5cf4", func := "remontoir/remontoirlaw06.WheelSplits", spec := "wheelSplits", inPlace := ["slices.overlaps[remontoir/api.Due]", "math/bits.Add64"], unfollowed := true, recurses := true, named := ["math/bits.deBruijn64tab"], apart := false, laid := [("math/bits.deBruijn64tab", laid_math_bits_deBruijn64tab)] }
def WheelSplitsSaid : Prop := wheelSplitsRow.holds Tryd.pinned (OpenSpec.ofChange wheelSplitsSpec)

/-- ITS FALSE NEIGHBOUR: 'it returns false'. Refute it at one input. -/
def wheelSplitsWrong : ChangeSpec := { name := "wheelSplits", fn := fun _ => fun
  | [d1, d2, d3] => { results := [.lit (.bool false)], args := [d1, d2, d3] }
  | _ => none }
def WheelSplitsWrongFalsely : Prop := wheelSplitsRow.holds Tryd.pinned (OpenSpec.ofChange wheelSplitsWrong)

/-- 'remontoirlaw06.WheelPlays': WHATEVER THE INPUT: true; the input reads as it did. -/
def wheelPlaysSpec : ChangeSpec := { name := "wheelPlays", fn := fun _ => fun
  | [d1, d2] => { results := [.lit (.bool true)], args := [d1, d2] }
  | _ => none }
def wheelPlaysRow : OpenClaim := { program := "ytedolmjealgeoaadoor", sum := "52b7908a50240954003ac1502b8c29254252ea44f2e26866c0b55d39b47a5cf4", func := "remontoir/remontoirlaw06.WheelPlays", spec := "wheelPlays", inPlace := ["slices.overlaps[remontoir/api.Due]", "math/bits.Add64"], unfollowed := true, recurses := true, named := ["math/bits.deBruijn64tab"], apart := false, laid := [("math/bits.deBruijn64tab", laid_math_bits_deBruijn64tab)] }
def WheelPlaysSaid : Prop := wheelPlaysRow.holds Tryd.pinned (OpenSpec.ofChange wheelPlaysSpec)

/-- ITS FALSE NEIGHBOUR: 'it returns false'. Refute it at one input. -/
def wheelPlaysWrong : ChangeSpec := { name := "wheelPlays", fn := fun _ => fun
  | [d1, d2] => { results := [.lit (.bool false)], args := [d1, d2] }
  | _ => none }
def WheelPlaysWrongFalsely : Prop := wheelPlaysRow.holds Tryd.pinned (OpenSpec.ofChange wheelPlaysWrong)

/-- 'remontoirlaw06.WheelPlaces': WHATEVER THE INPUT: true; the input reads as it did. -/
def wheelPlacesSpec : ChangeSpec := { name := "wheelPlaces", fn := fun _ => fun
  | [d1, d2, d3] => { results := [.lit (.bool true)], args := [d1, d2, d3] }
  | _ => none }
def wheelPlacesRow : OpenClaim := { program := "ytedolmjealgeoaadoor", sum := "52b7908a50240954003ac1502b8c29254252ea44f2e26866c0b55d39b47a5cf4", func := "remontoir/remontoirlaw06.WheelPlaces", spec := "wheelPlaces", inPlace := ["slices.overlaps[remontoir/api.Due]", "math/bits.Add64"], unfollowed := true, recurses := true, named := ["math/bits.deBruijn64tab"], apart := false, laid := [("math/bits.deBruijn64tab", laid_math_bits_deBruijn64tab)] }
def WheelPlacesSaid : Prop := wheelPlacesRow.holds Tryd.pinned (OpenSpec.ofChange wheelPlacesSpec)

/-- ITS FALSE NEIGHBOUR: 'it returns false'. Refute it at one input. -/
def wheelPlacesWrong : ChangeSpec := { name := "wheelPlaces", fn := fun _ => fun
  | [d1, d2, d3] => { results := [.lit (.bool false)], args := [d1, d2, d3] }
  | _ => none }
def WheelPlacesWrongFalsely : Prop := wheelPlacesRow.holds Tryd.pinned (OpenSpec.ofChange wheelPlacesWrong)

/-- 'remontoirlaw06.WheelNone': WHATEVER THE INPUT: true; the input reads as it did. -/
def wheelNoneSpec : ChangeSpec := { name := "wheelNone", fn := fun _ => fun
  | [d1, d2, d3] => { results := [.lit (.bool true)], args := [d1, d2, d3] }
  | _ => none }
def wheelNoneRow : OpenClaim := { program := "ytedolmjealgeoaadoor", sum := "52b7908a50240954003ac1502b8c29254252ea44f2e26866c0b55d39b47a5cf4", func := "remontoir/remontoirlaw06.WheelNone", spec := "wheelNone", inPlace := ["slices.overlaps[remontoir/api.Due]", "math/bits.Add64"], unfollowed := true, recurses := true, named := ["math/bits.deBruijn64tab"], apart := false, laid := [("math/bits.deBruijn64tab", laid_math_bits_deBruijn64tab)] }
def WheelNoneSaid : Prop := wheelNoneRow.holds Tryd.pinned (OpenSpec.ofChange wheelNoneSpec)

/-- ITS FALSE NEIGHBOUR: 'it returns false'. Refute it at one input. -/
def wheelNoneWrong : ChangeSpec := { name := "wheelNone", fn := fun _ => fun
  | [d1, d2, d3] => { results := [.lit (.bool false)], args := [d1, d2, d3] }
  | _ => none }
def WheelNoneWrongFalsely : Prop := wheelNoneRow.holds Tryd.pinned (OpenSpec.ofChange wheelNoneWrong)

/-- 'remontoirlaw07.PlanWheel': WHATEVER THE INPUT: true; the input reads as it did. -/
def planWheelSpec : ChangeSpec := { name := "planWheel", fn := fun _ => fun
  | [d1, d2, d3] => { results := [.lit (.bool true)], args := [d1, d2, d3] }
  | _ => none }
def planWheelRow : OpenClaim := { program := "ytedolmjealgeoaadoor", sum := "52b7908a50240954003ac1502b8c29254252ea44f2e26866c0b55d39b47a5cf4", func := "remontoir/remontoirlaw07.PlanWheel", spec := "planWheel", inPlace := ["slices.overlaps[remontoir/api.Due]", "math/bits.Add64"], unfollowed := true, recurses := true, named := ["math/bits.deBruijn64tab"], apart := false, laid := [("math/bits.deBruijn64tab", laid_math_bits_deBruijn64tab)] }
def PlanWheelSaid : Prop := planWheelRow.holds Tryd.pinned (OpenSpec.ofChange planWheelSpec)

/-- ITS FALSE NEIGHBOUR: 'it returns false'. Refute it at one input. -/
def planWheelWrong : ChangeSpec := { name := "planWheel", fn := fun _ => fun
  | [d1, d2, d3] => { results := [.lit (.bool false)], args := [d1, d2, d3] }
  | _ => none }
def PlanWheelWrongFalsely : Prop := planWheelRow.holds Tryd.pinned (OpenSpec.ofChange planWheelWrong)

/- THE SECOND FORM. 'bulk': how many values and letters a reading holds, each counted each time it is reached (what is shared counts as often as it is met; a slice's spare places count too). A statement '..UptoSaid' is the law's where the arguments, and the package variables that the reading takes, are together of bulk at most 1048576: NARROWER than '..Said'. Prove '..Said' where nothing that the law and all that it calls make is longer than what came in: it says more and counts as full. Else prove '..UptoSaid'. A law counts once. -/
mutual
def uptoBulk {H : Type} : DataW H → Nat
  | .lit (.string bytes) => bytes.length + 1
  | .lit _ => 1
  | .nil => 1
  | .ptr d => uptoBulk d + 1
  | .slice elems spare => uptoBulkAll elems + uptoBulkAll spare + 1
  | .agg parts => uptoBulkAll parts + 1
  | .iface _ d => uptoBulk d + 1
  | .map entries => uptoBulkEntries entries + 1
  | .held _ => 1
def uptoBulkAll {H : Type} : List (DataW H) → Nat
  | [] => 0
  | d :: r => uptoBulk d + uptoBulkAll r
def uptoBulkEntries {H : Type} : List (Lit × DataW H) → Nat
  | [] => 0
  | x :: r => uptoBulkEntry x + uptoBulkEntries r
def uptoBulkEntry {H : Type} : Lit × DataW H → Nat
  | (.string bytes, d) => bytes.length + uptoBulk d + 1
  | (_, d) => uptoBulk d + 1
 end
def uptoSmall : (H : Type) → List (DataW H) → Bool := fun _ ds => decide (uptoBulkAll ds ≤ 1048576)
def OpenSpec.upto (s : _root_.Go.ChangeSpec) : _root_.Go.OpenSpec := { _root_.Go.OpenSpec.ofChange s with cond := some uptoSmall }

/-- 'remontoirlaw05.RingPlays', WHERE WHAT IT READS IS OF BULK AT MOST 1048576: true; the input reads as it did. -/
def ringPlaysUptoRow : OpenClaim := { program := "ytedolmjealgeoaadoor", sum := "52b7908a50240954003ac1502b8c29254252ea44f2e26866c0b55d39b47a5cf4", func := "remontoir/remontoirlaw05.RingPlays", spec := "ringPlays", inPlace := ["slices.overlaps[remontoir/api.Due]"], unfollowed := true, recurses := true, named := ["math/bits.deBruijn64tab"], apart := false, laid := [("math/bits.deBruijn64tab", laid_math_bits_deBruijn64tab)], narrowed := true }
def RingPlaysUptoSaid : Prop := ringPlaysUptoRow.holds Tryd.pinned (OpenSpec.upto ringPlaysSpec)

/-- 'remontoirlaw05.RingHolds', WHERE WHAT IT READS IS OF BULK AT MOST 1048576: true; the input reads as it did. -/
def ringHoldsUptoRow : OpenClaim := { program := "ytedolmjealgeoaadoor", sum := "52b7908a50240954003ac1502b8c29254252ea44f2e26866c0b55d39b47a5cf4", func := "remontoir/remontoirlaw05.RingHolds", spec := "ringHolds", inPlace := ["slices.overlaps[remontoir/api.Due]"], unfollowed := true, recurses := true, named := ["math/bits.deBruijn64tab"], apart := false, laid := [("math/bits.deBruijn64tab", laid_math_bits_deBruijn64tab)], narrowed := true }
def RingHoldsUptoSaid : Prop := ringHoldsUptoRow.holds Tryd.pinned (OpenSpec.upto ringHoldsSpec)

/-- 'remontoirlaw05.RingNone', WHERE WHAT IT READS IS OF BULK AT MOST 1048576: true; the input reads as it did. -/
def ringNoneUptoRow : OpenClaim := { program := "ytedolmjealgeoaadoor", sum := "52b7908a50240954003ac1502b8c29254252ea44f2e26866c0b55d39b47a5cf4", func := "remontoir/remontoirlaw05.RingNone", spec := "ringNone", inPlace := ["slices.overlaps[remontoir/api.Due]"], unfollowed := true, recurses := true, named := ["math/bits.deBruijn64tab"], apart := false, laid := [("math/bits.deBruijn64tab", laid_math_bits_deBruijn64tab)], narrowed := true }
def RingNoneUptoSaid : Prop := ringNoneUptoRow.holds Tryd.pinned (OpenSpec.upto ringNoneSpec)

/-- 'remontoirlaw06.WheelFires', WHERE WHAT IT READS IS OF BULK AT MOST 1048576: true; the input reads as it did. -/
def wheelFiresUptoRow : OpenClaim := { program := "ytedolmjealgeoaadoor", sum := "52b7908a50240954003ac1502b8c29254252ea44f2e26866c0b55d39b47a5cf4", func := "remontoir/remontoirlaw06.WheelFires", spec := "wheelFires", inPlace := ["slices.overlaps[remontoir/api.Due]", "math/bits.Add64"], unfollowed := true, recurses := true, named := ["math/bits.deBruijn64tab"], apart := false, laid := [("math/bits.deBruijn64tab", laid_math_bits_deBruijn64tab)], narrowed := true }
def WheelFiresUptoSaid : Prop := wheelFiresUptoRow.holds Tryd.pinned (OpenSpec.upto wheelFiresSpec)

/-- 'remontoirlaw06.WheelLast', WHERE WHAT IT READS IS OF BULK AT MOST 1048576: true; the input reads as it did. -/
def wheelLastUptoRow : OpenClaim := { program := "ytedolmjealgeoaadoor", sum := "52b7908a50240954003ac1502b8c29254252ea44f2e26866c0b55d39b47a5cf4", func := "remontoir/remontoirlaw06.WheelLast", spec := "wheelLast", inPlace := ["slices.overlaps[remontoir/api.Due]", "math/bits.Add64"], unfollowed := true, recurses := true, named := ["math/bits.deBruijn64tab"], apart := false, laid := [("math/bits.deBruijn64tab", laid_math_bits_deBruijn64tab)], narrowed := true }
def WheelLastUptoSaid : Prop := wheelLastUptoRow.holds Tryd.pinned (OpenSpec.upto wheelLastSpec)

/-- 'remontoirlaw06.WheelSplits', WHERE WHAT IT READS IS OF BULK AT MOST 1048576: true; the input reads as it did. -/
def wheelSplitsUptoRow : OpenClaim := { program := "ytedolmjealgeoaadoor", sum := "52b7908a50240954003ac1502b8c29254252ea44f2e26866c0b55d39b47a5cf4", func := "remontoir/remontoirlaw06.WheelSplits", spec := "wheelSplits", inPlace := ["slices.overlaps[remontoir/api.Due]", "math/bits.Add64"], unfollowed := true, recurses := true, named := ["math/bits.deBruijn64tab"], apart := false, laid := [("math/bits.deBruijn64tab", laid_math_bits_deBruijn64tab)], narrowed := true }
def WheelSplitsUptoSaid : Prop := wheelSplitsUptoRow.holds Tryd.pinned (OpenSpec.upto wheelSplitsSpec)

/-- 'remontoirlaw06.WheelPlays', WHERE WHAT IT READS IS OF BULK AT MOST 1048576: true; the input reads as it did. -/
def wheelPlaysUptoRow : OpenClaim := { program := "ytedolmjealgeoaadoor", sum := "52b7908a50240954003ac1502b8c29254252ea44f2e26866c0b55d39b47a5cf4", func := "remontoir/remontoirlaw06.WheelPlays", spec := "wheelPlays", inPlace := ["slices.overlaps[remontoir/api.Due]", "math/bits.Add64"], unfollowed := true, recurses := true, named := ["math/bits.deBruijn64tab"], apart := false, laid := [("math/bits.deBruijn64tab", laid_math_bits_deBruijn64tab)], narrowed := true }
def WheelPlaysUptoSaid : Prop := wheelPlaysUptoRow.holds Tryd.pinned (OpenSpec.upto wheelPlaysSpec)

/-- 'remontoirlaw06.WheelPlaces', WHERE WHAT IT READS IS OF BULK AT MOST 1048576: true; the input reads as it did. -/
def wheelPlacesUptoRow : OpenClaim := { program := "ytedolmjealgeoaadoor", sum := "52b7908a50240954003ac1502b8c29254252ea44f2e26866c0b55d39b47a5cf4", func := "remontoir/remontoirlaw06.WheelPlaces", spec := "wheelPlaces", inPlace := ["slices.overlaps[remontoir/api.Due]", "math/bits.Add64"], unfollowed := true, recurses := true, named := ["math/bits.deBruijn64tab"], apart := false, laid := [("math/bits.deBruijn64tab", laid_math_bits_deBruijn64tab)], narrowed := true }
def WheelPlacesUptoSaid : Prop := wheelPlacesUptoRow.holds Tryd.pinned (OpenSpec.upto wheelPlacesSpec)

/-- 'remontoirlaw06.WheelNone', WHERE WHAT IT READS IS OF BULK AT MOST 1048576: true; the input reads as it did. -/
def wheelNoneUptoRow : OpenClaim := { program := "ytedolmjealgeoaadoor", sum := "52b7908a50240954003ac1502b8c29254252ea44f2e26866c0b55d39b47a5cf4", func := "remontoir/remontoirlaw06.WheelNone", spec := "wheelNone", inPlace := ["slices.overlaps[remontoir/api.Due]", "math/bits.Add64"], unfollowed := true, recurses := true, named := ["math/bits.deBruijn64tab"], apart := false, laid := [("math/bits.deBruijn64tab", laid_math_bits_deBruijn64tab)], narrowed := true }
def WheelNoneUptoSaid : Prop := wheelNoneUptoRow.holds Tryd.pinned (OpenSpec.upto wheelNoneSpec)

/-- 'remontoirlaw07.PlanWheel', WHERE WHAT IT READS IS OF BULK AT MOST 1048576: true; the input reads as it did. -/
def planWheelUptoRow : OpenClaim := { program := "ytedolmjealgeoaadoor", sum := "52b7908a50240954003ac1502b8c29254252ea44f2e26866c0b55d39b47a5cf4", func := "remontoir/remontoirlaw07.PlanWheel", spec := "planWheel", inPlace := ["slices.overlaps[remontoir/api.Due]", "math/bits.Add64"], unfollowed := true, recurses := true, named := ["math/bits.deBruijn64tab"], apart := false, laid := [("math/bits.deBruijn64tab", laid_math_bits_deBruijn64tab)], narrowed := true }
def PlanWheelUptoSaid : Prop := planWheelUptoRow.holds Tryd.pinned (OpenSpec.upto planWheelSpec)

end Rows
end Go.Proofs.YtedolmjealgeoaaDoor

/-
  DERIVED. GIVEN WITH THE SEED: THE CARDS: each row of YtedolmjealgeoaaDoorRows.lean that lists a variable, with what it lists TIED to the program's text (the seventh form; the later family's looks); each row that meets fmt, with fmt's text TOLD by the authors' own Lean function (tested against real Go, not proved from fmt's source: count such statements apart). THE CARD IS WHAT COUNTS. Prove the row's statement (the work); the ties are given (YtedolmjealgeoaaDoorTie.lean); close each card by the builder's one call (the guide's Derived/Test/ToyasCard.lean, 'card_holds'). Laid BY PROGRAM, IN A SANDBOX (cutbox-door.mjs). By AI agents, Wed Nov 11 2026. No macro, syntax, notation, axiom, sorry.
-/
import Derived.Test.YtedolmjealgeoaaDoorRows
import GoSem.ClaimSeven
namespace Go.Proofs.YtedolmjealgeoaaDoor
namespace Rows

/-- THE TIED CARD OF 'remontoirlaw05.RingPlays'. -/
def ringPlaysCard : Claim7 := { stood := { row := ringPlaysRow, standIns := [], harness := (true, "bbafbde423e98613f5e97174a21643049e2d7c378a5b8ab44d7bdb0fcdc20f00"), looks := false }, kinds := [], alts := [], laidByText := true, laidKinds := [.data], laidTests := true, laidLooks := .later }
def RingPlaysCardSaid : Prop := Claim7.holds Tryd.pinned (.plain (OpenSpec.ofChange ringPlaysSpec)) ringPlaysCard

/-- THE TIED CARD OF 'remontoirlaw05.RingHolds'. -/
def ringHoldsCard : Claim7 := { stood := { row := ringHoldsRow, standIns := [], harness := (true, "bbafbde423e98613f5e97174a21643049e2d7c378a5b8ab44d7bdb0fcdc20f00"), looks := false }, kinds := [], alts := [], laidByText := true, laidKinds := [.data], laidTests := true, laidLooks := .later }
def RingHoldsCardSaid : Prop := Claim7.holds Tryd.pinned (.plain (OpenSpec.ofChange ringHoldsSpec)) ringHoldsCard

/-- THE TIED CARD OF 'remontoirlaw05.RingNone'. -/
def ringNoneCard : Claim7 := { stood := { row := ringNoneRow, standIns := [], harness := (true, "bbafbde423e98613f5e97174a21643049e2d7c378a5b8ab44d7bdb0fcdc20f00"), looks := false }, kinds := [], alts := [], laidByText := true, laidKinds := [.data], laidTests := true, laidLooks := .later }
def RingNoneCardSaid : Prop := Claim7.holds Tryd.pinned (.plain (OpenSpec.ofChange ringNoneSpec)) ringNoneCard

/-- THE TIED CARD OF 'remontoirlaw06.WheelFires'. -/
def wheelFiresCard : Claim7 := { stood := { row := wheelFiresRow, standIns := [], harness := (true, "bbafbde423e98613f5e97174a21643049e2d7c378a5b8ab44d7bdb0fcdc20f00"), looks := false }, kinds := [], alts := [], laidByText := true, laidKinds := [.data], laidTests := true, laidLooks := .later }
def WheelFiresCardSaid : Prop := Claim7.holds Tryd.pinned (.plain (OpenSpec.ofChange wheelFiresSpec)) wheelFiresCard

/-- THE TIED CARD OF 'remontoirlaw06.WheelLast'. -/
def wheelLastCard : Claim7 := { stood := { row := wheelLastRow, standIns := [], harness := (true, "bbafbde423e98613f5e97174a21643049e2d7c378a5b8ab44d7bdb0fcdc20f00"), looks := false }, kinds := [], alts := [], laidByText := true, laidKinds := [.data], laidTests := true, laidLooks := .later }
def WheelLastCardSaid : Prop := Claim7.holds Tryd.pinned (.plain (OpenSpec.ofChange wheelLastSpec)) wheelLastCard

/-- THE TIED CARD OF 'remontoirlaw06.WheelSplits'. -/
def wheelSplitsCard : Claim7 := { stood := { row := wheelSplitsRow, standIns := [], harness := (true, "bbafbde423e98613f5e97174a21643049e2d7c378a5b8ab44d7bdb0fcdc20f00"), looks := false }, kinds := [], alts := [], laidByText := true, laidKinds := [.data], laidTests := true, laidLooks := .later }
def WheelSplitsCardSaid : Prop := Claim7.holds Tryd.pinned (.plain (OpenSpec.ofChange wheelSplitsSpec)) wheelSplitsCard

/-- THE TIED CARD OF 'remontoirlaw06.WheelPlays'. -/
def wheelPlaysCard : Claim7 := { stood := { row := wheelPlaysRow, standIns := [], harness := (true, "bbafbde423e98613f5e97174a21643049e2d7c378a5b8ab44d7bdb0fcdc20f00"), looks := false }, kinds := [], alts := [], laidByText := true, laidKinds := [.data], laidTests := true, laidLooks := .later }
def WheelPlaysCardSaid : Prop := Claim7.holds Tryd.pinned (.plain (OpenSpec.ofChange wheelPlaysSpec)) wheelPlaysCard

/-- THE TIED CARD OF 'remontoirlaw06.WheelPlaces'. -/
def wheelPlacesCard : Claim7 := { stood := { row := wheelPlacesRow, standIns := [], harness := (true, "bbafbde423e98613f5e97174a21643049e2d7c378a5b8ab44d7bdb0fcdc20f00"), looks := false }, kinds := [], alts := [], laidByText := true, laidKinds := [.data], laidTests := true, laidLooks := .later }
def WheelPlacesCardSaid : Prop := Claim7.holds Tryd.pinned (.plain (OpenSpec.ofChange wheelPlacesSpec)) wheelPlacesCard

/-- THE TIED CARD OF 'remontoirlaw06.WheelNone'. -/
def wheelNoneCard : Claim7 := { stood := { row := wheelNoneRow, standIns := [], harness := (true, "bbafbde423e98613f5e97174a21643049e2d7c378a5b8ab44d7bdb0fcdc20f00"), looks := false }, kinds := [], alts := [], laidByText := true, laidKinds := [.data], laidTests := true, laidLooks := .later }
def WheelNoneCardSaid : Prop := Claim7.holds Tryd.pinned (.plain (OpenSpec.ofChange wheelNoneSpec)) wheelNoneCard

/-- THE TIED CARD OF 'remontoirlaw07.PlanWheel'. -/
def planWheelCard : Claim7 := { stood := { row := planWheelRow, standIns := [], harness := (true, "bbafbde423e98613f5e97174a21643049e2d7c378a5b8ab44d7bdb0fcdc20f00"), looks := false }, kinds := [], alts := [], laidByText := true, laidKinds := [.data], laidTests := true, laidLooks := .later }
def PlanWheelCardSaid : Prop := Claim7.holds Tryd.pinned (.plain (OpenSpec.ofChange planWheelSpec)) planWheelCard

/-- THE SECOND FORM's CARD OF 'remontoirlaw05.RingPlays'. -/
def ringPlaysUptoCard : Claim7 := { stood := { row := ringPlaysUptoRow, standIns := [], harness := (true, "bbafbde423e98613f5e97174a21643049e2d7c378a5b8ab44d7bdb0fcdc20f00"), looks := false }, kinds := [], alts := [], laidByText := true, laidKinds := [.data], laidTests := true, laidLooks := .later }
def RingPlaysUptoCardSaid : Prop := Claim7.holds Tryd.pinned (.plain (OpenSpec.upto ringPlaysSpec)) ringPlaysUptoCard

/-- THE SECOND FORM's CARD OF 'remontoirlaw05.RingHolds'. -/
def ringHoldsUptoCard : Claim7 := { stood := { row := ringHoldsUptoRow, standIns := [], harness := (true, "bbafbde423e98613f5e97174a21643049e2d7c378a5b8ab44d7bdb0fcdc20f00"), looks := false }, kinds := [], alts := [], laidByText := true, laidKinds := [.data], laidTests := true, laidLooks := .later }
def RingHoldsUptoCardSaid : Prop := Claim7.holds Tryd.pinned (.plain (OpenSpec.upto ringHoldsSpec)) ringHoldsUptoCard

/-- THE SECOND FORM's CARD OF 'remontoirlaw05.RingNone'. -/
def ringNoneUptoCard : Claim7 := { stood := { row := ringNoneUptoRow, standIns := [], harness := (true, "bbafbde423e98613f5e97174a21643049e2d7c378a5b8ab44d7bdb0fcdc20f00"), looks := false }, kinds := [], alts := [], laidByText := true, laidKinds := [.data], laidTests := true, laidLooks := .later }
def RingNoneUptoCardSaid : Prop := Claim7.holds Tryd.pinned (.plain (OpenSpec.upto ringNoneSpec)) ringNoneUptoCard

/-- THE SECOND FORM's CARD OF 'remontoirlaw06.WheelFires'. -/
def wheelFiresUptoCard : Claim7 := { stood := { row := wheelFiresUptoRow, standIns := [], harness := (true, "bbafbde423e98613f5e97174a21643049e2d7c378a5b8ab44d7bdb0fcdc20f00"), looks := false }, kinds := [], alts := [], laidByText := true, laidKinds := [.data], laidTests := true, laidLooks := .later }
def WheelFiresUptoCardSaid : Prop := Claim7.holds Tryd.pinned (.plain (OpenSpec.upto wheelFiresSpec)) wheelFiresUptoCard

/-- THE SECOND FORM's CARD OF 'remontoirlaw06.WheelLast'. -/
def wheelLastUptoCard : Claim7 := { stood := { row := wheelLastUptoRow, standIns := [], harness := (true, "bbafbde423e98613f5e97174a21643049e2d7c378a5b8ab44d7bdb0fcdc20f00"), looks := false }, kinds := [], alts := [], laidByText := true, laidKinds := [.data], laidTests := true, laidLooks := .later }
def WheelLastUptoCardSaid : Prop := Claim7.holds Tryd.pinned (.plain (OpenSpec.upto wheelLastSpec)) wheelLastUptoCard

/-- THE SECOND FORM's CARD OF 'remontoirlaw06.WheelSplits'. -/
def wheelSplitsUptoCard : Claim7 := { stood := { row := wheelSplitsUptoRow, standIns := [], harness := (true, "bbafbde423e98613f5e97174a21643049e2d7c378a5b8ab44d7bdb0fcdc20f00"), looks := false }, kinds := [], alts := [], laidByText := true, laidKinds := [.data], laidTests := true, laidLooks := .later }
def WheelSplitsUptoCardSaid : Prop := Claim7.holds Tryd.pinned (.plain (OpenSpec.upto wheelSplitsSpec)) wheelSplitsUptoCard

/-- THE SECOND FORM's CARD OF 'remontoirlaw06.WheelPlays'. -/
def wheelPlaysUptoCard : Claim7 := { stood := { row := wheelPlaysUptoRow, standIns := [], harness := (true, "bbafbde423e98613f5e97174a21643049e2d7c378a5b8ab44d7bdb0fcdc20f00"), looks := false }, kinds := [], alts := [], laidByText := true, laidKinds := [.data], laidTests := true, laidLooks := .later }
def WheelPlaysUptoCardSaid : Prop := Claim7.holds Tryd.pinned (.plain (OpenSpec.upto wheelPlaysSpec)) wheelPlaysUptoCard

/-- THE SECOND FORM's CARD OF 'remontoirlaw06.WheelPlaces'. -/
def wheelPlacesUptoCard : Claim7 := { stood := { row := wheelPlacesUptoRow, standIns := [], harness := (true, "bbafbde423e98613f5e97174a21643049e2d7c378a5b8ab44d7bdb0fcdc20f00"), looks := false }, kinds := [], alts := [], laidByText := true, laidKinds := [.data], laidTests := true, laidLooks := .later }
def WheelPlacesUptoCardSaid : Prop := Claim7.holds Tryd.pinned (.plain (OpenSpec.upto wheelPlacesSpec)) wheelPlacesUptoCard

/-- THE SECOND FORM's CARD OF 'remontoirlaw06.WheelNone'. -/
def wheelNoneUptoCard : Claim7 := { stood := { row := wheelNoneUptoRow, standIns := [], harness := (true, "bbafbde423e98613f5e97174a21643049e2d7c378a5b8ab44d7bdb0fcdc20f00"), looks := false }, kinds := [], alts := [], laidByText := true, laidKinds := [.data], laidTests := true, laidLooks := .later }
def WheelNoneUptoCardSaid : Prop := Claim7.holds Tryd.pinned (.plain (OpenSpec.upto wheelNoneSpec)) wheelNoneUptoCard

/-- THE SECOND FORM's CARD OF 'remontoirlaw07.PlanWheel'. -/
def planWheelUptoCard : Claim7 := { stood := { row := planWheelUptoRow, standIns := [], harness := (true, "bbafbde423e98613f5e97174a21643049e2d7c378a5b8ab44d7bdb0fcdc20f00"), looks := false }, kinds := [], alts := [], laidByText := true, laidKinds := [.data], laidTests := true, laidLooks := .later }
def PlanWheelUptoCardSaid : Prop := Claim7.holds Tryd.pinned (.plain (OpenSpec.upto planWheelSpec)) planWheelUptoCard
end Rows
end Go.Proofs.YtedolmjealgeoaaDoor

/-
  DERIVED. GIVEN WITH THE SEED: THE CARDS: each row of YtholnjcfhjjphaaDoorRows.lean that lists a variable, with what it lists TIED to the program's text (the seventh form; the later family's looks); each row that meets fmt, with fmt's text TOLD by the authors' own Lean function (tested against real Go, not proved from fmt's source: count such statements apart). THE CARD IS WHAT COUNTS. Prove the row's statement (the work); the ties are given (YtholnjcfhjjphaaDoorTie.lean); close each card by the builder's one call (the guide's Derived/Test/ToyasCard.lean, 'card_holds'). Laid BY PROGRAM, IN A SANDBOX (cutbox-door.mjs). By AI agents, Wed Nov 11 2026. No macro, syntax, notation, axiom, sorry.
-/
import Derived.Test.YtholnjcfhjjphaaDoorRows
import GoSem.ClaimSeven
namespace Go.Proofs.YtholnjcfhjjphaaDoor
namespace Rows

/-- THE TIED CARD OF 'remontoirlaw04.MaskNext'. -/
def maskNextCard : Claim7 := { stood := { row := maskNextRow, standIns := [], harness := (true, "a4cf8ed20b7e736ecc6bf3a3cff04e651fec7f680ecafba54de3d209f65f3b60"), looks := false }, kinds := [], alts := [], laidByText := true, laidKinds := [.data], laidTests := true, laidLooks := .later }
def MaskNextCardSaid : Prop := Claim7.holds Tryd.pinned (.plain (OpenSpec.ofChange maskNextSpec)) maskNextCard

/-- THE TIED CARD OF 'remontoirlaw04.MaskOne'. -/
def maskOneCard : Claim7 := { stood := { row := maskOneRow, standIns := [], harness := (true, "a4cf8ed20b7e736ecc6bf3a3cff04e651fec7f680ecafba54de3d209f65f3b60"), looks := false }, kinds := [], alts := [], laidByText := true, laidKinds := [.data], laidTests := true, laidLooks := .later }
def MaskOneCardSaid : Prop := Claim7.holds Tryd.pinned (.plain (OpenSpec.ofChange maskOneSpec)) maskOneCard

/-- THE TIED CARD OF 'remontoirlaw04.MaskBack'. -/
def maskBackCard : Claim7 := { stood := { row := maskBackRow, standIns := [], harness := (true, "a4cf8ed20b7e736ecc6bf3a3cff04e651fec7f680ecafba54de3d209f65f3b60"), looks := false }, kinds := [], alts := [], laidByText := true, laidKinds := [.data], laidTests := true, laidLooks := .later }
def MaskBackCardSaid : Prop := Claim7.holds Tryd.pinned (.plain (OpenSpec.ofChange maskBackSpec)) maskBackCard

/-- THE TIED CARD OF 'remontoirlaw04.MaskRound'. -/
def maskRoundCard : Claim7 := { stood := { row := maskRoundRow, standIns := [], harness := (true, "a4cf8ed20b7e736ecc6bf3a3cff04e651fec7f680ecafba54de3d209f65f3b60"), looks := false }, kinds := [], alts := [], laidByText := true, laidKinds := [.data], laidTests := true, laidLooks := .later }
def MaskRoundCardSaid : Prop := Claim7.holds Tryd.pinned (.plain (OpenSpec.ofChange maskRoundSpec)) maskRoundCard

/-- THE TIED CARD OF 'remontoirlaw04.MaskTells'. -/
def maskTellsCard : Claim7 := { stood := { row := maskTellsRow, standIns := [], harness := (true, "a4cf8ed20b7e736ecc6bf3a3cff04e651fec7f680ecafba54de3d209f65f3b60"), looks := false }, kinds := [], alts := [], laidByText := true, laidKinds := [.data], laidTests := true, laidLooks := .later }
def MaskTellsCardSaid : Prop := Claim7.holds Tryd.pinned (.plain (OpenSpec.ofChange maskTellsSpec)) maskTellsCard

/-- THE SECOND FORM's CARD OF 'remontoirlaw04.MaskNext'. -/
def maskNextUptoCard : Claim7 := { stood := { row := maskNextUptoRow, standIns := [], harness := (true, "a4cf8ed20b7e736ecc6bf3a3cff04e651fec7f680ecafba54de3d209f65f3b60"), looks := false }, kinds := [], alts := [], laidByText := true, laidKinds := [.data], laidTests := true, laidLooks := .later }
def MaskNextUptoCardSaid : Prop := Claim7.holds Tryd.pinned (.plain (OpenSpec.upto maskNextSpec)) maskNextUptoCard

/-- THE SECOND FORM's CARD OF 'remontoirlaw04.MaskOne'. -/
def maskOneUptoCard : Claim7 := { stood := { row := maskOneUptoRow, standIns := [], harness := (true, "a4cf8ed20b7e736ecc6bf3a3cff04e651fec7f680ecafba54de3d209f65f3b60"), looks := false }, kinds := [], alts := [], laidByText := true, laidKinds := [.data], laidTests := true, laidLooks := .later }
def MaskOneUptoCardSaid : Prop := Claim7.holds Tryd.pinned (.plain (OpenSpec.upto maskOneSpec)) maskOneUptoCard

/-- THE SECOND FORM's CARD OF 'remontoirlaw04.MaskBack'. -/
def maskBackUptoCard : Claim7 := { stood := { row := maskBackUptoRow, standIns := [], harness := (true, "a4cf8ed20b7e736ecc6bf3a3cff04e651fec7f680ecafba54de3d209f65f3b60"), looks := false }, kinds := [], alts := [], laidByText := true, laidKinds := [.data], laidTests := true, laidLooks := .later }
def MaskBackUptoCardSaid : Prop := Claim7.holds Tryd.pinned (.plain (OpenSpec.upto maskBackSpec)) maskBackUptoCard

/-- THE SECOND FORM's CARD OF 'remontoirlaw04.MaskRound'. -/
def maskRoundUptoCard : Claim7 := { stood := { row := maskRoundUptoRow, standIns := [], harness := (true, "a4cf8ed20b7e736ecc6bf3a3cff04e651fec7f680ecafba54de3d209f65f3b60"), looks := false }, kinds := [], alts := [], laidByText := true, laidKinds := [.data], laidTests := true, laidLooks := .later }
def MaskRoundUptoCardSaid : Prop := Claim7.holds Tryd.pinned (.plain (OpenSpec.upto maskRoundSpec)) maskRoundUptoCard

/-- THE SECOND FORM's CARD OF 'remontoirlaw04.MaskTells'. -/
def maskTellsUptoCard : Claim7 := { stood := { row := maskTellsUptoRow, standIns := [], harness := (true, "a4cf8ed20b7e736ecc6bf3a3cff04e651fec7f680ecafba54de3d209f65f3b60"), looks := false }, kinds := [], alts := [], laidByText := true, laidKinds := [.data], laidTests := true, laidLooks := .later }
def MaskTellsUptoCardSaid : Prop := Claim7.holds Tryd.pinned (.plain (OpenSpec.upto maskTellsSpec)) maskTellsUptoCard
end Rows
end Go.Proofs.YtholnjcfhjjphaaDoor

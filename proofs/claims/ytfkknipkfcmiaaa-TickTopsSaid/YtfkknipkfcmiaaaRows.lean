/-
  No cell of these rows narrows 'for every input' (looked for: loops, veiled, ifaces, maps, wideKeys, modest, calm, conditions, laid).
  DERIVED. THE GIVEN ROWS OF THIS SEAT. 5 by the template 'for every input the law returns true; each argument reads behind the call as it read before'; 0 by the template 'total and deterministic' (their statements: YtfkknipkfcmiaaaTotals.lean).
  GIVEN WITH THE SEED: the statements are not yours to turn. If you find one false, say at which input.
  Laid BY PROGRAM, IN A SANDBOX (cutbox-rows.mjs): the forced cells as the released guide's own fill.sh prints them over the translation 09f494ab5d345dc8… (all of the seat's roots in one cut). By AI agents, Wed Nov 11 2026. No macro, syntax, notation, axiom, sorry.
-/
import Derived.Test.YtfkknipkfcmiaaaChecked
import GoSem.Claim
import GoSem.ClaimJoined
import GoSem.ClaimMapViews
import Derived.JoinedTies
import Derived.KernelRfl
namespace Go.Proofs.Ytfkknipkfcmiaaa
/- THE CELL 'sum', in the pinned program and in every row, IS THE sha256 OF THE DUMP (.gsa) THAT YtfkknipkfcmiaaaProg.lean LOADS. Nothing in Lean hashes anything: it is a label: what it is worth is what the hold of that sum in a sandbox is worth. -/
noncomputable def Try.pinned : Pinned := { name := "ytfkknipkfcmiaaa", sum := "09f494ab5d345dc81eb5253a1ae3d6e9dab1775504c204ebd8b3c06d51a7391f", checked := Try.checked }
namespace Rows
def none {H : Type} : Left H := { results := [], args := [] }

/-- 'remontoirlaw01.TickTops': WHATEVER THE INPUT: true; the input reads as it did. -/
def tickTopsSpec : ChangeSpec := { name := "tickTops", fn := fun _ => fun
  | [d1, d2] => { results := [.lit (.bool true)], args := [d1, d2] }
  | _ => none }
def tickTopsRow : OpenClaim := { program := "ytfkknipkfcmiaaa", sum := "09f494ab5d345dc81eb5253a1ae3d6e9dab1775504c204ebd8b3c06d51a7391f", func := "remontoir/remontoirlaw01.TickTops", spec := "tickTops", inPlace := ["math/bits.Add64"], apart := false }
def TickTopsSaid : Prop := tickTopsRow.holds Try.pinned (OpenSpec.ofChange tickTopsSpec)

/-- ITS FALSE NEIGHBOUR: 'it returns false'. Refute it at one input. -/
def tickTopsWrong : ChangeSpec := { name := "tickTops", fn := fun _ => fun
  | [d1, d2] => { results := [.lit (.bool false)], args := [d1, d2] }
  | _ => none }
def TickTopsWrongFalsely : Prop := tickTopsRow.holds Try.pinned (OpenSpec.ofChange tickTopsWrong)

/-- 'remontoirlaw01.TickCarries': WHATEVER THE INPUT: true; the input reads as it did. -/
def tickCarriesSpec : ChangeSpec := { name := "tickCarries", fn := fun _ => fun
  | [d] => { results := [.lit (.bool true)], args := [d] }
  | _ => none }
def tickCarriesRow : OpenClaim := { program := "ytfkknipkfcmiaaa", sum := "09f494ab5d345dc81eb5253a1ae3d6e9dab1775504c204ebd8b3c06d51a7391f", func := "remontoir/remontoirlaw01.TickCarries", spec := "tickCarries", inPlace := ["math/bits.Add64"], apart := false }
def TickCarriesSaid : Prop := tickCarriesRow.holds Try.pinned (OpenSpec.ofChange tickCarriesSpec)

/-- ITS FALSE NEIGHBOUR: 'it returns false'. Refute it at one input. -/
def tickCarriesWrong : ChangeSpec := { name := "tickCarries", fn := fun _ => fun
  | [d] => { results := [.lit (.bool false)], args := [d] }
  | _ => none }
def TickCarriesWrongFalsely : Prop := tickCarriesRow.holds Try.pinned (OpenSpec.ofChange tickCarriesWrong)

/-- 'remontoirlaw01.TickSums': WHATEVER THE INPUT: true; the input reads as it did. -/
def tickSumsSpec : ChangeSpec := { name := "tickSums", fn := fun _ => fun
  | [d1, d2, d3] => { results := [.lit (.bool true)], args := [d1, d2, d3] }
  | _ => none }
def tickSumsRow : OpenClaim := { program := "ytfkknipkfcmiaaa", sum := "09f494ab5d345dc81eb5253a1ae3d6e9dab1775504c204ebd8b3c06d51a7391f", func := "remontoir/remontoirlaw01.TickSums", spec := "tickSums", inPlace := ["math/bits.Add64"], apart := false }
def TickSumsSaid : Prop := tickSumsRow.holds Try.pinned (OpenSpec.ofChange tickSumsSpec)

/-- ITS FALSE NEIGHBOUR: 'it returns false'. Refute it at one input. -/
def tickSumsWrong : ChangeSpec := { name := "tickSums", fn := fun _ => fun
  | [d1, d2, d3] => { results := [.lit (.bool false)], args := [d1, d2, d3] }
  | _ => none }
def TickSumsWrongFalsely : Prop := tickSumsRow.holds Try.pinned (OpenSpec.ofChange tickSumsWrong)

/-- 'remontoirlaw01.TickBack': WHATEVER THE INPUT: true; the input reads as it did. -/
def tickBackSpec : ChangeSpec := { name := "tickBack", fn := fun _ => fun
  | [d1, d2] => { results := [.lit (.bool true)], args := [d1, d2] }
  | _ => none }
def tickBackRow : OpenClaim := { program := "ytfkknipkfcmiaaa", sum := "09f494ab5d345dc81eb5253a1ae3d6e9dab1775504c204ebd8b3c06d51a7391f", func := "remontoir/remontoirlaw01.TickBack", spec := "tickBack", inPlace := ["math/bits.Add64"], apart := false }
def TickBackSaid : Prop := tickBackRow.holds Try.pinned (OpenSpec.ofChange tickBackSpec)

/-- ITS FALSE NEIGHBOUR: 'it returns false'. Refute it at one input. -/
def tickBackWrong : ChangeSpec := { name := "tickBack", fn := fun _ => fun
  | [d1, d2] => { results := [.lit (.bool false)], args := [d1, d2] }
  | _ => none }
def TickBackWrongFalsely : Prop := tickBackRow.holds Try.pinned (OpenSpec.ofChange tickBackWrong)

/-- 'remontoirlaw01.TickTells': WHATEVER THE INPUT: true; the input reads as it did. -/
def tickTellsSpec : ChangeSpec := { name := "tickTells", fn := fun _ => fun
  | [d1, d2, d3] => { results := [.lit (.bool true)], args := [d1, d2, d3] }
  | _ => none }
def tickTellsRow : OpenClaim := { program := "ytfkknipkfcmiaaa", sum := "09f494ab5d345dc81eb5253a1ae3d6e9dab1775504c204ebd8b3c06d51a7391f", func := "remontoir/remontoirlaw01.TickTells", spec := "tickTells", inPlace := ["math/bits.Add64"], apart := false }
def TickTellsSaid : Prop := tickTellsRow.holds Try.pinned (OpenSpec.ofChange tickTellsSpec)

/-- ITS FALSE NEIGHBOUR: 'it returns false'. Refute it at one input. -/
def tickTellsWrong : ChangeSpec := { name := "tickTells", fn := fun _ => fun
  | [d1, d2, d3] => { results := [.lit (.bool false)], args := [d1, d2, d3] }
  | _ => none }
def TickTellsWrongFalsely : Prop := tickTellsRow.holds Try.pinned (OpenSpec.ofChange tickTellsWrong)

/- THE SECOND FORM. 'bulk': how many values and letters a reading holds, each counted each time it is reached (what is shared counts as often as it is met; a slice's spare places count too). A statement '..UptoSaid' is the law's where the arguments, and the package variables that the reading takes, are together of bulk at most 1048576: NARROWER than '..Said'. Prove '..Said' where nothing that the law and all that it calls make is longer than what came in: it says more and counts as full. Else prove '..UptoSaid'. A law counts once. -/
mutual
def uptoBulk {H : Type} : DataW H → Nat
  | .lit (.string bytes) => bytes.length + 1
  | .lit _ => 1
  | .nil => 1
  | .ptr d => uptoBulk d + 1
  | .slice elems spare => uptoBulkAll elems + uptoBulkAll spare + 1
  | .agg parts => uptoBulkAll parts + 1
  | .iface _ d => uptoBulk d + 1
  | .map entries => uptoBulkEntries entries + 1
  | .held _ => 1
def uptoBulkAll {H : Type} : List (DataW H) → Nat
  | [] => 0
  | d :: r => uptoBulk d + uptoBulkAll r
def uptoBulkEntries {H : Type} : List (Lit × DataW H) → Nat
  | [] => 0
  | x :: r => uptoBulkEntry x + uptoBulkEntries r
def uptoBulkEntry {H : Type} : Lit × DataW H → Nat
  | (.string bytes, d) => bytes.length + uptoBulk d + 1
  | (_, d) => uptoBulk d + 1
 end
def uptoSmall : (H : Type) → List (DataW H) → Bool := fun _ ds => decide (uptoBulkAll ds ≤ 1048576)
def OpenSpec.upto (s : _root_.Go.ChangeSpec) : _root_.Go.OpenSpec := { _root_.Go.OpenSpec.ofChange s with cond := some uptoSmall }

/-- 'remontoirlaw01.TickTops', WHERE WHAT IT READS IS OF BULK AT MOST 1048576: true; the input reads as it did. -/
def tickTopsUptoRow : OpenClaim := { program := "ytfkknipkfcmiaaa", sum := "09f494ab5d345dc81eb5253a1ae3d6e9dab1775504c204ebd8b3c06d51a7391f", func := "remontoir/remontoirlaw01.TickTops", spec := "tickTops", inPlace := ["math/bits.Add64"], apart := false, narrowed := true }
def TickTopsUptoSaid : Prop := tickTopsUptoRow.holds Try.pinned (OpenSpec.upto tickTopsSpec)

/-- 'remontoirlaw01.TickCarries', WHERE WHAT IT READS IS OF BULK AT MOST 1048576: true; the input reads as it did. -/
def tickCarriesUptoRow : OpenClaim := { program := "ytfkknipkfcmiaaa", sum := "09f494ab5d345dc81eb5253a1ae3d6e9dab1775504c204ebd8b3c06d51a7391f", func := "remontoir/remontoirlaw01.TickCarries", spec := "tickCarries", inPlace := ["math/bits.Add64"], apart := false, narrowed := true }
def TickCarriesUptoSaid : Prop := tickCarriesUptoRow.holds Try.pinned (OpenSpec.upto tickCarriesSpec)

/-- 'remontoirlaw01.TickSums', WHERE WHAT IT READS IS OF BULK AT MOST 1048576: true; the input reads as it did. -/
def tickSumsUptoRow : OpenClaim := { program := "ytfkknipkfcmiaaa", sum := "09f494ab5d345dc81eb5253a1ae3d6e9dab1775504c204ebd8b3c06d51a7391f", func := "remontoir/remontoirlaw01.TickSums", spec := "tickSums", inPlace := ["math/bits.Add64"], apart := false, narrowed := true }
def TickSumsUptoSaid : Prop := tickSumsUptoRow.holds Try.pinned (OpenSpec.upto tickSumsSpec)

/-- 'remontoirlaw01.TickBack', WHERE WHAT IT READS IS OF BULK AT MOST 1048576: true; the input reads as it did. -/
def tickBackUptoRow : OpenClaim := { program := "ytfkknipkfcmiaaa", sum := "09f494ab5d345dc81eb5253a1ae3d6e9dab1775504c204ebd8b3c06d51a7391f", func := "remontoir/remontoirlaw01.TickBack", spec := "tickBack", inPlace := ["math/bits.Add64"], apart := false, narrowed := true }
def TickBackUptoSaid : Prop := tickBackUptoRow.holds Try.pinned (OpenSpec.upto tickBackSpec)

/-- 'remontoirlaw01.TickTells', WHERE WHAT IT READS IS OF BULK AT MOST 1048576: true; the input reads as it did. -/
def tickTellsUptoRow : OpenClaim := { program := "ytfkknipkfcmiaaa", sum := "09f494ab5d345dc81eb5253a1ae3d6e9dab1775504c204ebd8b3c06d51a7391f", func := "remontoir/remontoirlaw01.TickTells", spec := "tickTells", inPlace := ["math/bits.Add64"], apart := false, narrowed := true }
def TickTellsUptoSaid : Prop := tickTellsUptoRow.holds Try.pinned (OpenSpec.upto tickTellsSpec)

end Rows
end Go.Proofs.Ytfkknipkfcmiaaa

/-
  No cell of these rows narrows 'for every input' (looked for: loops, veiled, ifaces, maps, wideKeys, modest, calm, conditions, laid).
  DERIVED. THE GIVEN ROWS OF THIS SEAT. 5 by the template 'for every input the law returns true; each argument reads behind the call as it read before'; 0 by the template 'total and deterministic' (their statements: YtdnonlapiheenaaTotals.lean).
  GIVEN WITH THE SEED: the statements are not yours to turn. If you find one false, say at which input.
  Laid BY PROGRAM, IN A SANDBOX (cutbox-rows.mjs): the forced cells as the released guide's own fill.sh prints them over the translation 222a8a184ae2d9c6… (all of the seat's roots in one cut). By AI agents, Wed Nov 11 2026. No macro, syntax, notation, axiom, sorry.
-/
import Derived.Test.YtdnonlapiheenaaChecked
import GoSem.Claim
import GoSem.ClaimJoined
import GoSem.ClaimMapViews
import Derived.JoinedTies
import Derived.KernelRfl
namespace Go.Proofs.Ytdnonlapiheenaa
/- THE CELL 'sum', in the pinned program and in every row, IS THE sha256 OF THE DUMP (.gsa) THAT YtdnonlapiheenaaProg.lean LOADS. Nothing in Lean hashes anything: it is a label: what it is worth is what the hold of that sum in a sandbox is worth. -/
noncomputable def Try.pinned : Pinned := { name := "ytdnonlapiheenaa", sum := "222a8a184ae2d9c61de6a94a372ac5416ff8218251375321964b05be5dea0558", checked := Try.checked }
namespace Rows
def none {H : Type} : Left H := { results := [], args := [] }

/-- 'remontoirlaw08.TurnOrder': WHATEVER THE INPUT: true; the input reads as it did. -/
def turnOrderSpec : ChangeSpec := { name := "turnOrder", fn := fun _ => fun
  | [d1, d2] => { results := [.lit (.bool true)], args := [d1, d2] }
  | _ => none }
def turnOrderRow : OpenClaim := { program := "ytdnonlapiheenaa", sum := "222a8a184ae2d9c61de6a94a372ac5416ff8218251375321964b05be5dea0558", func := "remontoir/remontoirlaw08.TurnOrder", spec := "turnOrder", apart := false }
def TurnOrderSaid : Prop := turnOrderRow.holds Try.pinned (OpenSpec.ofChange turnOrderSpec)

/-- ITS FALSE NEIGHBOUR: 'it returns false'. Refute it at one input. -/
def turnOrderWrong : ChangeSpec := { name := "turnOrder", fn := fun _ => fun
  | [d1, d2] => { results := [.lit (.bool false)], args := [d1, d2] }
  | _ => none }
def TurnOrderWrongFalsely : Prop := turnOrderRow.holds Try.pinned (OpenSpec.ofChange turnOrderWrong)

/-- 'remontoirlaw08.TurnOvertakes': WHATEVER THE INPUT: true; the input reads as it did. -/
def turnOvertakesSpec : ChangeSpec := { name := "turnOvertakes", fn := fun _ => fun
  | [d1, d2, d3] => { results := [.lit (.bool true)], args := [d1, d2, d3] }
  | _ => none }
def turnOvertakesRow : OpenClaim := { program := "ytdnonlapiheenaa", sum := "222a8a184ae2d9c61de6a94a372ac5416ff8218251375321964b05be5dea0558", func := "remontoir/remontoirlaw08.TurnOvertakes", spec := "turnOvertakes", apart := false }
def TurnOvertakesSaid : Prop := turnOvertakesRow.holds Try.pinned (OpenSpec.ofChange turnOvertakesSpec)

/-- ITS FALSE NEIGHBOUR: 'it returns false'. Refute it at one input. -/
def turnOvertakesWrong : ChangeSpec := { name := "turnOvertakes", fn := fun _ => fun
  | [d1, d2, d3] => { results := [.lit (.bool false)], args := [d1, d2, d3] }
  | _ => none }
def TurnOvertakesWrongFalsely : Prop := turnOvertakesRow.holds Try.pinned (OpenSpec.ofChange turnOvertakesWrong)

/-- 'remontoirlaw08.TurnServed': WHATEVER THE INPUT: true; the input reads as it did. -/
def turnServedSpec : ChangeSpec := { name := "turnServed", fn := fun _ => fun
  | [d1, d2, d3] => { results := [.lit (.bool true)], args := [d1, d2, d3] }
  | _ => none }
def turnServedRow : OpenClaim := { program := "ytdnonlapiheenaa", sum := "222a8a184ae2d9c61de6a94a372ac5416ff8218251375321964b05be5dea0558", func := "remontoir/remontoirlaw08.TurnServed", spec := "turnServed", apart := false }
def TurnServedSaid : Prop := turnServedRow.holds Try.pinned (OpenSpec.ofChange turnServedSpec)

/-- ITS FALSE NEIGHBOUR: 'it returns false'. Refute it at one input. -/
def turnServedWrong : ChangeSpec := { name := "turnServed", fn := fun _ => fun
  | [d1, d2, d3] => { results := [.lit (.bool false)], args := [d1, d2, d3] }
  | _ => none }
def TurnServedWrongFalsely : Prop := turnServedRow.holds Try.pinned (OpenSpec.ofChange turnServedWrong)

/-- 'remontoirlaw08.TurnTells': WHATEVER THE INPUT: true; the input reads as it did. -/
def turnTellsSpec : ChangeSpec := { name := "turnTells", fn := fun _ => fun
  | [d1, d2, d3] => { results := [.lit (.bool true)], args := [d1, d2, d3] }
  | _ => none }
def turnTellsRow : OpenClaim := { program := "ytdnonlapiheenaa", sum := "222a8a184ae2d9c61de6a94a372ac5416ff8218251375321964b05be5dea0558", func := "remontoir/remontoirlaw08.TurnTells", spec := "turnTells", apart := false }
def TurnTellsSaid : Prop := turnTellsRow.holds Try.pinned (OpenSpec.ofChange turnTellsSpec)

/-- ITS FALSE NEIGHBOUR: 'it returns false'. Refute it at one input. -/
def turnTellsWrong : ChangeSpec := { name := "turnTells", fn := fun _ => fun
  | [d1, d2, d3] => { results := [.lit (.bool false)], args := [d1, d2, d3] }
  | _ => none }
def TurnTellsWrongFalsely : Prop := turnTellsRow.holds Try.pinned (OpenSpec.ofChange turnTellsWrong)

/-- 'remontoirlaw08.TurnFirst': WHATEVER THE INPUT: true; the input reads as it did. -/
def turnFirstSpec : ChangeSpec := { name := "turnFirst", fn := fun _ => fun
  | [d1, d2] => { results := [.lit (.bool true)], args := [d1, d2] }
  | _ => none }
def turnFirstRow : OpenClaim := { program := "ytdnonlapiheenaa", sum := "222a8a184ae2d9c61de6a94a372ac5416ff8218251375321964b05be5dea0558", func := "remontoir/remontoirlaw08.TurnFirst", spec := "turnFirst", apart := false }
def TurnFirstSaid : Prop := turnFirstRow.holds Try.pinned (OpenSpec.ofChange turnFirstSpec)

/-- ITS FALSE NEIGHBOUR: 'it returns false'. Refute it at one input. -/
def turnFirstWrong : ChangeSpec := { name := "turnFirst", fn := fun _ => fun
  | [d1, d2] => { results := [.lit (.bool false)], args := [d1, d2] }
  | _ => none }
def TurnFirstWrongFalsely : Prop := turnFirstRow.holds Try.pinned (OpenSpec.ofChange turnFirstWrong)

/- THE SECOND FORM. 'bulk': how many values and letters a reading holds, each counted each time it is reached (what is shared counts as often as it is met; a slice's spare places count too). A statement '..UptoSaid' is the law's where the arguments, and the package variables that the reading takes, are together of bulk at most 1048576: NARROWER than '..Said'. Prove '..Said' where nothing that the law and all that it calls make is longer than what came in: it says more and counts as full. Else prove '..UptoSaid'. A law counts once. -/
mutual
def uptoBulk {H : Type} : DataW H → Nat
  | .lit (.string bytes) => bytes.length + 1
  | .lit _ => 1
  | .nil => 1
  | .ptr d => uptoBulk d + 1
  | .slice elems spare => uptoBulkAll elems + uptoBulkAll spare + 1
  | .agg parts => uptoBulkAll parts + 1
  | .iface _ d => uptoBulk d + 1
  | .map entries => uptoBulkEntries entries + 1
  | .held _ => 1
def uptoBulkAll {H : Type} : List (DataW H) → Nat
  | [] => 0
  | d :: r => uptoBulk d + uptoBulkAll r
def uptoBulkEntries {H : Type} : List (Lit × DataW H) → Nat
  | [] => 0
  | x :: r => uptoBulkEntry x + uptoBulkEntries r
def uptoBulkEntry {H : Type} : Lit × DataW H → Nat
  | (.string bytes, d) => bytes.length + uptoBulk d + 1
  | (_, d) => uptoBulk d + 1
 end
def uptoSmall : (H : Type) → List (DataW H) → Bool := fun _ ds => decide (uptoBulkAll ds ≤ 1048576)
def OpenSpec.upto (s : _root_.Go.ChangeSpec) : _root_.Go.OpenSpec := { _root_.Go.OpenSpec.ofChange s with cond := some uptoSmall }

/-- 'remontoirlaw08.TurnOrder', WHERE WHAT IT READS IS OF BULK AT MOST 1048576: true; the input reads as it did. -/
def turnOrderUptoRow : OpenClaim := { program := "ytdnonlapiheenaa", sum := "222a8a184ae2d9c61de6a94a372ac5416ff8218251375321964b05be5dea0558", func := "remontoir/remontoirlaw08.TurnOrder", spec := "turnOrder", apart := false, narrowed := true }
def TurnOrderUptoSaid : Prop := turnOrderUptoRow.holds Try.pinned (OpenSpec.upto turnOrderSpec)

/-- 'remontoirlaw08.TurnOvertakes', WHERE WHAT IT READS IS OF BULK AT MOST 1048576: true; the input reads as it did. -/
def turnOvertakesUptoRow : OpenClaim := { program := "ytdnonlapiheenaa", sum := "222a8a184ae2d9c61de6a94a372ac5416ff8218251375321964b05be5dea0558", func := "remontoir/remontoirlaw08.TurnOvertakes", spec := "turnOvertakes", apart := false, narrowed := true }
def TurnOvertakesUptoSaid : Prop := turnOvertakesUptoRow.holds Try.pinned (OpenSpec.upto turnOvertakesSpec)

/-- 'remontoirlaw08.TurnServed', WHERE WHAT IT READS IS OF BULK AT MOST 1048576: true; the input reads as it did. -/
def turnServedUptoRow : OpenClaim := { program := "ytdnonlapiheenaa", sum := "222a8a184ae2d9c61de6a94a372ac5416ff8218251375321964b05be5dea0558", func := "remontoir/remontoirlaw08.TurnServed", spec := "turnServed", apart := false, narrowed := true }
def TurnServedUptoSaid : Prop := turnServedUptoRow.holds Try.pinned (OpenSpec.upto turnServedSpec)

/-- 'remontoirlaw08.TurnTells', WHERE WHAT IT READS IS OF BULK AT MOST 1048576: true; the input reads as it did. -/
def turnTellsUptoRow : OpenClaim := { program := "ytdnonlapiheenaa", sum := "222a8a184ae2d9c61de6a94a372ac5416ff8218251375321964b05be5dea0558", func := "remontoir/remontoirlaw08.TurnTells", spec := "turnTells", apart := false, narrowed := true }
def TurnTellsUptoSaid : Prop := turnTellsUptoRow.holds Try.pinned (OpenSpec.upto turnTellsSpec)

/-- 'remontoirlaw08.TurnFirst', WHERE WHAT IT READS IS OF BULK AT MOST 1048576: true; the input reads as it did. -/
def turnFirstUptoRow : OpenClaim := { program := "ytdnonlapiheenaa", sum := "222a8a184ae2d9c61de6a94a372ac5416ff8218251375321964b05be5dea0558", func := "remontoir/remontoirlaw08.TurnFirst", spec := "turnFirst", apart := false, narrowed := true }
def TurnFirstUptoSaid : Prop := turnFirstUptoRow.holds Try.pinned (OpenSpec.upto turnFirstSpec)

end Rows
end Go.Proofs.Ytdnonlapiheenaa

/-
  No cell of these rows narrows 'for every input' (looked for: loops, veiled, ifaces, maps, wideKeys, modest, calm, conditions, laid).
  DERIVED. THE GIVEN ROWS OF THIS SEAT. 4 by the template 'for every input the law returns true; each argument reads behind the call as it read before'; 0 by the template 'total and deterministic' (their statements: YtboneknainlodaaTotals.lean).
  GIVEN WITH THE SEED: the statements are not yours to turn. If you find one false, say at which input.
  Laid BY PROGRAM, IN A SANDBOX (cutbox-rows.mjs): the forced cells as the released guide's own fill.sh prints them over the translation 41bf1733b52e8509… (all of the seat's roots in one cut). By AI agents, Wed Nov 11 2026. No macro, syntax, notation, axiom, sorry.
-/
import Derived.Test.YtboneknainlodaaChecked
import GoSem.Claim
import GoSem.ClaimJoined
import GoSem.ClaimMapViews
import Derived.JoinedTies
import Derived.KernelRfl
namespace Go.Proofs.Ytboneknainlodaa
/- THE CELL 'sum', in the pinned program and in every row, IS THE sha256 OF THE DUMP (.gsa) THAT YtboneknainlodaaProg.lean LOADS. Nothing in Lean hashes anything: it is a label: what it is worth is what the hold of that sum in a sandbox is worth. -/
noncomputable def Try.pinned : Pinned := { name := "ytboneknainlodaa", sum := "41bf1733b52e8509312a331e3173babe7f2aeba47ff366a236ddb449112efb2c", checked := Try.checked }
namespace Rows
def none {H : Type} : Left H := { results := [], args := [] }

/-- 'remontoirlaw07.PlanSplits': WHATEVER THE INPUT: true; the input reads as it did. -/
def planSplitsSpec : ChangeSpec := { name := "planSplits", fn := fun _ => fun
  | [d1, d2, d3] => { results := [.lit (.bool true)], args := [d1, d2, d3] }
  | _ => none }
def planSplitsRow : OpenClaim := { program := "ytboneknainlodaa", sum := "41bf1733b52e8509312a331e3173babe7f2aeba47ff366a236ddb449112efb2c", func := "remontoir/remontoirlaw07.PlanSplits", spec := "planSplits", unfollowed := true, recurses := true, apart := false }
def PlanSplitsSaid : Prop := planSplitsRow.holds Try.pinned (OpenSpec.ofChange planSplitsSpec)

/-- ITS FALSE NEIGHBOUR: 'it returns false'. Refute it at one input. -/
def planSplitsWrong : ChangeSpec := { name := "planSplits", fn := fun _ => fun
  | [d1, d2, d3] => { results := [.lit (.bool false)], args := [d1, d2, d3] }
  | _ => none }
def PlanSplitsWrongFalsely : Prop := planSplitsRow.holds Try.pinned (OpenSpec.ofChange planSplitsWrong)

/-- 'remontoirlaw07.PlanSorts': WHATEVER THE INPUT: true; the input reads as it did. -/
def planSortsSpec : ChangeSpec := { name := "planSorts", fn := fun _ => fun
  | [d] => { results := [.lit (.bool true)], args := [d] }
  | _ => none }
def planSortsRow : OpenClaim := { program := "ytboneknainlodaa", sum := "41bf1733b52e8509312a331e3173babe7f2aeba47ff366a236ddb449112efb2c", func := "remontoir/remontoirlaw07.PlanSorts", spec := "planSorts", unfollowed := true, recurses := true, apart := false }
def PlanSortsSaid : Prop := planSortsRow.holds Try.pinned (OpenSpec.ofChange planSortsSpec)

/-- ITS FALSE NEIGHBOUR: 'it returns false'. Refute it at one input. -/
def planSortsWrong : ChangeSpec := { name := "planSorts", fn := fun _ => fun
  | [d] => { results := [.lit (.bool false)], args := [d] }
  | _ => none }
def PlanSortsWrongFalsely : Prop := planSortsRow.holds Try.pinned (OpenSpec.ofChange planSortsWrong)

/-- 'remontoirlaw07.PlanTells': WHATEVER THE INPUT: true; the input reads as it did. -/
def planTellsSpec : ChangeSpec := { name := "planTells", fn := fun _ => fun
  | [d1, d2, d3] => { results := [.lit (.bool true)], args := [d1, d2, d3] }
  | _ => none }
def planTellsRow : OpenClaim := { program := "ytboneknainlodaa", sum := "41bf1733b52e8509312a331e3173babe7f2aeba47ff366a236ddb449112efb2c", func := "remontoir/remontoirlaw07.PlanTells", spec := "planTells", unfollowed := true, recurses := true, apart := false }
def PlanTellsSaid : Prop := planTellsRow.holds Try.pinned (OpenSpec.ofChange planTellsSpec)

/-- ITS FALSE NEIGHBOUR: 'it returns false'. Refute it at one input. -/
def planTellsWrong : ChangeSpec := { name := "planTells", fn := fun _ => fun
  | [d1, d2, d3] => { results := [.lit (.bool false)], args := [d1, d2, d3] }
  | _ => none }
def PlanTellsWrongFalsely : Prop := planTellsRow.holds Try.pinned (OpenSpec.ofChange planTellsWrong)

/-- 'remontoirlaw07.PlanInserts': WHATEVER THE INPUT: true; the input reads as it did. -/
def planInsertsSpec : ChangeSpec := { name := "planInserts", fn := fun _ => fun
  | [d1, d2] => { results := [.lit (.bool true)], args := [d1, d2] }
  | _ => none }
def planInsertsRow : OpenClaim := { program := "ytboneknainlodaa", sum := "41bf1733b52e8509312a331e3173babe7f2aeba47ff366a236ddb449112efb2c", func := "remontoir/remontoirlaw07.PlanInserts", spec := "planInserts", unfollowed := true, recurses := true, apart := false }
def PlanInsertsSaid : Prop := planInsertsRow.holds Try.pinned (OpenSpec.ofChange planInsertsSpec)

/-- ITS FALSE NEIGHBOUR: 'it returns false'. Refute it at one input. -/
def planInsertsWrong : ChangeSpec := { name := "planInserts", fn := fun _ => fun
  | [d1, d2] => { results := [.lit (.bool false)], args := [d1, d2] }
  | _ => none }
def PlanInsertsWrongFalsely : Prop := planInsertsRow.holds Try.pinned (OpenSpec.ofChange planInsertsWrong)

/- THE SECOND FORM. 'bulk': how many values and letters a reading holds, each counted each time it is reached (what is shared counts as often as it is met; a slice's spare places count too). A statement '..UptoSaid' is the law's where the arguments, and the package variables that the reading takes, are together of bulk at most 1048576: NARROWER than '..Said'. Prove '..Said' where nothing that the law and all that it calls make is longer than what came in: it says more and counts as full. Else prove '..UptoSaid'. A law counts once. -/
mutual
def uptoBulk {H : Type} : DataW H → Nat
  | .lit (.string bytes) => bytes.length + 1
  | .lit _ => 1
  | .nil => 1
  | .ptr d => uptoBulk d + 1
  | .slice elems spare => uptoBulkAll elems + uptoBulkAll spare + 1
  | .agg parts => uptoBulkAll parts + 1
  | .iface _ d => uptoBulk d + 1
  | .map entries => uptoBulkEntries entries + 1
  | .held _ => 1
def uptoBulkAll {H : Type} : List (DataW H) → Nat
  | [] => 0
  | d :: r => uptoBulk d + uptoBulkAll r
def uptoBulkEntries {H : Type} : List (Lit × DataW H) → Nat
  | [] => 0
  | x :: r => uptoBulkEntry x + uptoBulkEntries r
def uptoBulkEntry {H : Type} : Lit × DataW H → Nat
  | (.string bytes, d) => bytes.length + uptoBulk d + 1
  | (_, d) => uptoBulk d + 1
 end
def uptoSmall : (H : Type) → List (DataW H) → Bool := fun _ ds => decide (uptoBulkAll ds ≤ 1048576)
def OpenSpec.upto (s : _root_.Go.ChangeSpec) : _root_.Go.OpenSpec := { _root_.Go.OpenSpec.ofChange s with cond := some uptoSmall }

/-- 'remontoirlaw07.PlanSplits', WHERE WHAT IT READS IS OF BULK AT MOST 1048576: true; the input reads as it did. -/
def planSplitsUptoRow : OpenClaim := { program := "ytboneknainlodaa", sum := "41bf1733b52e8509312a331e3173babe7f2aeba47ff366a236ddb449112efb2c", func := "remontoir/remontoirlaw07.PlanSplits", spec := "planSplits", unfollowed := true, recurses := true, apart := false, narrowed := true }
def PlanSplitsUptoSaid : Prop := planSplitsUptoRow.holds Try.pinned (OpenSpec.upto planSplitsSpec)

/-- 'remontoirlaw07.PlanSorts', WHERE WHAT IT READS IS OF BULK AT MOST 1048576: true; the input reads as it did. -/
def planSortsUptoRow : OpenClaim := { program := "ytboneknainlodaa", sum := "41bf1733b52e8509312a331e3173babe7f2aeba47ff366a236ddb449112efb2c", func := "remontoir/remontoirlaw07.PlanSorts", spec := "planSorts", unfollowed := true, recurses := true, apart := false, narrowed := true }
def PlanSortsUptoSaid : Prop := planSortsUptoRow.holds Try.pinned (OpenSpec.upto planSortsSpec)

/-- 'remontoirlaw07.PlanTells', WHERE WHAT IT READS IS OF BULK AT MOST 1048576: true; the input reads as it did. -/
def planTellsUptoRow : OpenClaim := { program := "ytboneknainlodaa", sum := "41bf1733b52e8509312a331e3173babe7f2aeba47ff366a236ddb449112efb2c", func := "remontoir/remontoirlaw07.PlanTells", spec := "planTells", unfollowed := true, recurses := true, apart := false, narrowed := true }
def PlanTellsUptoSaid : Prop := planTellsUptoRow.holds Try.pinned (OpenSpec.upto planTellsSpec)

/-- 'remontoirlaw07.PlanInserts', WHERE WHAT IT READS IS OF BULK AT MOST 1048576: true; the input reads as it did. -/
def planInsertsUptoRow : OpenClaim := { program := "ytboneknainlodaa", sum := "41bf1733b52e8509312a331e3173babe7f2aeba47ff366a236ddb449112efb2c", func := "remontoir/remontoirlaw07.PlanInserts", spec := "planInserts", unfollowed := true, recurses := true, apart := false, narrowed := true }
def PlanInsertsUptoSaid : Prop := planInsertsUptoRow.holds Try.pinned (OpenSpec.upto planInsertsSpec)

end Rows
end Go.Proofs.Ytboneknainlodaa

/-
  No cell of these rows narrows 'for every input' (looked for: loops, veiled, ifaces, maps, wideKeys, modest, calm, conditions, laid).
  DERIVED. THE GIVEN ROWS OF THIS SEAT. 5 by the template 'for every input the law returns true; each argument reads behind the call as it read before'; 0 by the template 'total and deterministic' (their statements: YtdefifgllimedaaTotals.lean).
  GIVEN WITH THE SEED: the statements are not yours to turn. If you find one false, say at which input.
  Laid BY PROGRAM, IN A SANDBOX (cutbox-rows.mjs): the forced cells as the released guide's own fill.sh prints them over the translation 1ff9085823a8407f… (all of the seat's roots in one cut). By AI agents, Wed Nov 11 2026. No macro, syntax, notation, axiom, sorry.
-/
import Derived.Test.YtdefifgllimedaaChecked
import GoSem.Claim
import GoSem.ClaimJoined
import GoSem.ClaimMapViews
import Derived.JoinedTies
import Derived.KernelRfl
namespace Go.Proofs.Ytdefifgllimedaa
/- THE CELL 'sum', in the pinned program and in every row, IS THE sha256 OF THE DUMP (.gsa) THAT YtdefifgllimedaaProg.lean LOADS. Nothing in Lean hashes anything: it is a label: what it is worth is what the hold of that sum in a sandbox is worth. -/
noncomputable def Try.pinned : Pinned := { name := "ytdefifgllimedaa", sum := "1ff9085823a8407f46f9ac4d4151a86c3a25059d32c7e5790464333eb3781e64", checked := Try.checked }
namespace Rows
def none {H : Type} : Left H := { results := [], args := [] }

/-- 'remontoirlaw11.RetryTells': WHATEVER THE INPUT: true; the input reads as it did. -/
def retryTellsSpec : ChangeSpec := { name := "retryTells", fn := fun _ => fun
  | [d1, d2, d3] => { results := [.lit (.bool true)], args := [d1, d2, d3] }
  | _ => none }
def retryTellsRow : OpenClaim := { program := "ytdefifgllimedaa", sum := "1ff9085823a8407f46f9ac4d4151a86c3a25059d32c7e5790464333eb3781e64", func := "remontoir/remontoirlaw11.RetryTells", spec := "retryTells", recurses := true, apart := false }
def RetryTellsSaid : Prop := retryTellsRow.holds Try.pinned (OpenSpec.ofChange retryTellsSpec)

/-- ITS FALSE NEIGHBOUR: 'it returns false'. Refute it at one input. -/
def retryTellsWrong : ChangeSpec := { name := "retryTells", fn := fun _ => fun
  | [d1, d2, d3] => { results := [.lit (.bool false)], args := [d1, d2, d3] }
  | _ => none }
def RetryTellsWrongFalsely : Prop := retryTellsRow.holds Try.pinned (OpenSpec.ofChange retryTellsWrong)

/-- 'remontoirlaw11.RetryRuns': WHATEVER THE INPUT: true; the input reads as it did. -/
def retryRunsSpec : ChangeSpec := { name := "retryRuns", fn := fun _ => fun
  | [d1, d2, d3] => { results := [.lit (.bool true)], args := [d1, d2, d3] }
  | _ => none }
def retryRunsRow : OpenClaim := { program := "ytdefifgllimedaa", sum := "1ff9085823a8407f46f9ac4d4151a86c3a25059d32c7e5790464333eb3781e64", func := "remontoir/remontoirlaw11.RetryRuns", spec := "retryRuns", apart := false }
def RetryRunsSaid : Prop := retryRunsRow.holds Try.pinned (OpenSpec.ofChange retryRunsSpec)

/-- ITS FALSE NEIGHBOUR: 'it returns false'. Refute it at one input. -/
def retryRunsWrong : ChangeSpec := { name := "retryRuns", fn := fun _ => fun
  | [d1, d2, d3] => { results := [.lit (.bool false)], args := [d1, d2, d3] }
  | _ => none }
def RetryRunsWrongFalsely : Prop := retryRunsRow.holds Try.pinned (OpenSpec.ofChange retryRunsWrong)

/-- 'remontoirlaw11.RetryOften': WHATEVER THE INPUT: true; the input reads as it did. -/
def retryOftenSpec : ChangeSpec := { name := "retryOften", fn := fun _ => fun
  | [d1, d2] => { results := [.lit (.bool true)], args := [d1, d2] }
  | _ => none }
def retryOftenRow : OpenClaim := { program := "ytdefifgllimedaa", sum := "1ff9085823a8407f46f9ac4d4151a86c3a25059d32c7e5790464333eb3781e64", func := "remontoir/remontoirlaw11.RetryOften", spec := "retryOften", apart := false }
def RetryOftenSaid : Prop := retryOftenRow.holds Try.pinned (OpenSpec.ofChange retryOftenSpec)

/-- ITS FALSE NEIGHBOUR: 'it returns false'. Refute it at one input. -/
def retryOftenWrong : ChangeSpec := { name := "retryOften", fn := fun _ => fun
  | [d1, d2] => { results := [.lit (.bool false)], args := [d1, d2] }
  | _ => none }
def RetryOftenWrongFalsely : Prop := retryOftenRow.holds Try.pinned (OpenSpec.ofChange retryOftenWrong)

/-- 'remontoirlaw11.RetryLeft': WHATEVER THE INPUT: true; the input reads as it did. -/
def retryLeftSpec : ChangeSpec := { name := "retryLeft", fn := fun _ => fun
  | [d1, d2] => { results := [.lit (.bool true)], args := [d1, d2] }
  | _ => none }
def retryLeftRow : OpenClaim := { program := "ytdefifgllimedaa", sum := "1ff9085823a8407f46f9ac4d4151a86c3a25059d32c7e5790464333eb3781e64", func := "remontoir/remontoirlaw11.RetryLeft", spec := "retryLeft", apart := false }
def RetryLeftSaid : Prop := retryLeftRow.holds Try.pinned (OpenSpec.ofChange retryLeftSpec)

/-- ITS FALSE NEIGHBOUR: 'it returns false'. Refute it at one input. -/
def retryLeftWrong : ChangeSpec := { name := "retryLeft", fn := fun _ => fun
  | [d1, d2] => { results := [.lit (.bool false)], args := [d1, d2] }
  | _ => none }
def RetryLeftWrongFalsely : Prop := retryLeftRow.holds Try.pinned (OpenSpec.ofChange retryLeftWrong)

/-- 'remontoirlaw11.RetryFails': WHATEVER THE INPUT: true; the input reads as it did. -/
def retryFailsSpec : ChangeSpec := { name := "retryFails", fn := fun _ => fun
  | [d] => { results := [.lit (.bool true)], args := [d] }
  | _ => none }
def retryFailsRow : OpenClaim := { program := "ytdefifgllimedaa", sum := "1ff9085823a8407f46f9ac4d4151a86c3a25059d32c7e5790464333eb3781e64", func := "remontoir/remontoirlaw11.RetryFails", spec := "retryFails", apart := false }
def RetryFailsSaid : Prop := retryFailsRow.holds Try.pinned (OpenSpec.ofChange retryFailsSpec)

/-- ITS FALSE NEIGHBOUR: 'it returns false'. Refute it at one input. -/
def retryFailsWrong : ChangeSpec := { name := "retryFails", fn := fun _ => fun
  | [d] => { results := [.lit (.bool false)], args := [d] }
  | _ => none }
def RetryFailsWrongFalsely : Prop := retryFailsRow.holds Try.pinned (OpenSpec.ofChange retryFailsWrong)

/- THE SECOND FORM. 'bulk': how many values and letters a reading holds, each counted each time it is reached (what is shared counts as often as it is met; a slice's spare places count too). A statement '..UptoSaid' is the law's where the arguments, and the package variables that the reading takes, are together of bulk at most 1048576: NARROWER than '..Said'. Prove '..Said' where nothing that the law and all that it calls make is longer than what came in: it says more and counts as full. Else prove '..UptoSaid'. A law counts once. -/
mutual
def uptoBulk {H : Type} : DataW H → Nat
  | .lit (.string bytes) => bytes.length + 1
  | .lit _ => 1
  | .nil => 1
  | .ptr d => uptoBulk d + 1
  | .slice elems spare => uptoBulkAll elems + uptoBulkAll spare + 1
  | .agg parts => uptoBulkAll parts + 1
  | .iface _ d => uptoBulk d + 1
  | .map entries => uptoBulkEntries entries + 1
  | .held _ => 1
def uptoBulkAll {H : Type} : List (DataW H) → Nat
  | [] => 0
  | d :: r => uptoBulk d + uptoBulkAll r
def uptoBulkEntries {H : Type} : List (Lit × DataW H) → Nat
  | [] => 0
  | x :: r => uptoBulkEntry x + uptoBulkEntries r
def uptoBulkEntry {H : Type} : Lit × DataW H → Nat
  | (.string bytes, d) => bytes.length + uptoBulk d + 1
  | (_, d) => uptoBulk d + 1
 end
def uptoSmall : (H : Type) → List (DataW H) → Bool := fun _ ds => decide (uptoBulkAll ds ≤ 1048576)
def OpenSpec.upto (s : _root_.Go.ChangeSpec) : _root_.Go.OpenSpec := { _root_.Go.OpenSpec.ofChange s with cond := some uptoSmall }

/-- 'remontoirlaw11.RetryTells', WHERE WHAT IT READS IS OF BULK AT MOST 1048576: true; the input reads as it did. -/
def retryTellsUptoRow : OpenClaim := { program := "ytdefifgllimedaa", sum := "1ff9085823a8407f46f9ac4d4151a86c3a25059d32c7e5790464333eb3781e64", func := "remontoir/remontoirlaw11.RetryTells", spec := "retryTells", recurses := true, apart := false, narrowed := true }
def RetryTellsUptoSaid : Prop := retryTellsUptoRow.holds Try.pinned (OpenSpec.upto retryTellsSpec)

/-- 'remontoirlaw11.RetryRuns', WHERE WHAT IT READS IS OF BULK AT MOST 1048576: true; the input reads as it did. -/
def retryRunsUptoRow : OpenClaim := { program := "ytdefifgllimedaa", sum := "1ff9085823a8407f46f9ac4d4151a86c3a25059d32c7e5790464333eb3781e64", func := "remontoir/remontoirlaw11.RetryRuns", spec := "retryRuns", apart := false, narrowed := true }
def RetryRunsUptoSaid : Prop := retryRunsUptoRow.holds Try.pinned (OpenSpec.upto retryRunsSpec)

/-- 'remontoirlaw11.RetryOften', WHERE WHAT IT READS IS OF BULK AT MOST 1048576: true; the input reads as it did. -/
def retryOftenUptoRow : OpenClaim := { program := "ytdefifgllimedaa", sum := "1ff9085823a8407f46f9ac4d4151a86c3a25059d32c7e5790464333eb3781e64", func := "remontoir/remontoirlaw11.RetryOften", spec := "retryOften", apart := false, narrowed := true }
def RetryOftenUptoSaid : Prop := retryOftenUptoRow.holds Try.pinned (OpenSpec.upto retryOftenSpec)

/-- 'remontoirlaw11.RetryLeft', WHERE WHAT IT READS IS OF BULK AT MOST 1048576: true; the input reads as it did. -/
def retryLeftUptoRow : OpenClaim := { program := "ytdefifgllimedaa", sum := "1ff9085823a8407f46f9ac4d4151a86c3a25059d32c7e5790464333eb3781e64", func := "remontoir/remontoirlaw11.RetryLeft", spec := "retryLeft", apart := false, narrowed := true }
def RetryLeftUptoSaid : Prop := retryLeftUptoRow.holds Try.pinned (OpenSpec.upto retryLeftSpec)

/-- 'remontoirlaw11.RetryFails', WHERE WHAT IT READS IS OF BULK AT MOST 1048576: true; the input reads as it did. -/
def retryFailsUptoRow : OpenClaim := { program := "ytdefifgllimedaa", sum := "1ff9085823a8407f46f9ac4d4151a86c3a25059d32c7e5790464333eb3781e64", func := "remontoir/remontoirlaw11.RetryFails", spec := "retryFails", apart := false, narrowed := true }
def RetryFailsUptoSaid : Prop := retryFailsUptoRow.holds Try.pinned (OpenSpec.upto retryFailsSpec)

end Rows
end Go.Proofs.Ytdefifgllimedaa

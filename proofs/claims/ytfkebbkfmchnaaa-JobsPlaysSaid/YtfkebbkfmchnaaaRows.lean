/-
  No cell of these rows narrows 'for every input' (looked for: loops, veiled, ifaces, maps, wideKeys, modest, calm, conditions, laid).
  DERIVED. THE GIVEN ROWS OF THIS SEAT. 5 by the template 'for every input the law returns true; each argument reads behind the call as it read before'; 0 by the template 'total and deterministic' (their statements: YtfkebbkfmchnaaaTotals.lean).
  GIVEN WITH THE SEED: the statements are not yours to turn. If you find one false, say at which input.
  Laid BY PROGRAM, IN A SANDBOX (cutbox-rows.mjs): the forced cells as the released guide's own fill.sh prints them over the translation 23d77928fbac38bc… (all of the seat's roots in one cut). By AI agents, Wed Nov 11 2026. No macro, syntax, notation, axiom, sorry.
-/
import Derived.Test.YtfkebbkfmchnaaaChecked
import GoSem.Claim
import GoSem.ClaimJoined
import GoSem.ClaimMapViews
import Derived.JoinedTies
import Derived.KernelRfl
namespace Go.Proofs.Ytfkebbkfmchnaaa
/- THE CELL 'sum', in the pinned program and in every row, IS THE sha256 OF THE DUMP (.gsa) THAT YtfkebbkfmchnaaaProg.lean LOADS. Nothing in Lean hashes anything: it is a label: what it is worth is what the hold of that sum in a sandbox is worth. -/
noncomputable def Try.pinned : Pinned := { name := "ytfkebbkfmchnaaa", sum := "23d77928fbac38bc90a6e5234fd5a2dd87b6bfa63fe0343d92322f9cb065a72d", checked := Try.checked }
namespace Rows
def none {H : Type} : Left H := { results := [], args := [] }

/-- 'remontoirlaw12.JobsFair': WHATEVER THE INPUT: true; the input reads as it did. -/
def jobsFairSpec : ChangeSpec := { name := "jobsFair", fn := fun _ => fun
  | [d1, d2, d3] => { results := [.lit (.bool true)], args := [d1, d2, d3] }
  | _ => none }
def jobsFairRow : OpenClaim := { program := "ytfkebbkfmchnaaa", sum := "23d77928fbac38bc90a6e5234fd5a2dd87b6bfa63fe0343d92322f9cb065a72d", func := "remontoir/remontoirlaw12.JobsFair", spec := "jobsFair", unfollowed := true, recurses := true, apart := false }
def JobsFairSaid : Prop := jobsFairRow.holds Try.pinned (OpenSpec.ofChange jobsFairSpec)

/-- ITS FALSE NEIGHBOUR: 'it returns false'. Refute it at one input. -/
def jobsFairWrong : ChangeSpec := { name := "jobsFair", fn := fun _ => fun
  | [d1, d2, d3] => { results := [.lit (.bool false)], args := [d1, d2, d3] }
  | _ => none }
def JobsFairWrongFalsely : Prop := jobsFairRow.holds Try.pinned (OpenSpec.ofChange jobsFairWrong)

/-- 'remontoirlaw12.JobsRoom': WHATEVER THE INPUT: true; the input reads as it did. -/
def jobsRoomSpec : ChangeSpec := { name := "jobsRoom", fn := fun _ => fun
  | [d1, d2, d3] => { results := [.lit (.bool true)], args := [d1, d2, d3] }
  | _ => none }
def jobsRoomRow : OpenClaim := { program := "ytfkebbkfmchnaaa", sum := "23d77928fbac38bc90a6e5234fd5a2dd87b6bfa63fe0343d92322f9cb065a72d", func := "remontoir/remontoirlaw12.JobsRoom", spec := "jobsRoom", unfollowed := true, recurses := true, apart := false }
def JobsRoomSaid : Prop := jobsRoomRow.holds Try.pinned (OpenSpec.ofChange jobsRoomSpec)

/-- ITS FALSE NEIGHBOUR: 'it returns false'. Refute it at one input. -/
def jobsRoomWrong : ChangeSpec := { name := "jobsRoom", fn := fun _ => fun
  | [d1, d2, d3] => { results := [.lit (.bool false)], args := [d1, d2, d3] }
  | _ => none }
def JobsRoomWrongFalsely : Prop := jobsRoomRow.holds Try.pinned (OpenSpec.ofChange jobsRoomWrong)

/-- 'remontoirlaw12.JobsOften': WHATEVER THE INPUT: true; the input reads as it did. -/
def jobsOftenSpec : ChangeSpec := { name := "jobsOften", fn := fun _ => fun
  | [d1, d2] => { results := [.lit (.bool true)], args := [d1, d2] }
  | _ => none }
def jobsOftenRow : OpenClaim := { program := "ytfkebbkfmchnaaa", sum := "23d77928fbac38bc90a6e5234fd5a2dd87b6bfa63fe0343d92322f9cb065a72d", func := "remontoir/remontoirlaw12.JobsOften", spec := "jobsOften", unfollowed := true, recurses := true, apart := false }
def JobsOftenSaid : Prop := jobsOftenRow.holds Try.pinned (OpenSpec.ofChange jobsOftenSpec)

/-- ITS FALSE NEIGHBOUR: 'it returns false'. Refute it at one input. -/
def jobsOftenWrong : ChangeSpec := { name := "jobsOften", fn := fun _ => fun
  | [d1, d2] => { results := [.lit (.bool false)], args := [d1, d2] }
  | _ => none }
def JobsOftenWrongFalsely : Prop := jobsOftenRow.holds Try.pinned (OpenSpec.ofChange jobsOftenWrong)

/-- 'remontoirlaw12.JobsPlays': WHATEVER THE INPUT: true; the input reads as it did. -/
def jobsPlaysSpec : ChangeSpec := { name := "jobsPlays", fn := fun _ => fun
  | [d1, d2] => { results := [.lit (.bool true)], args := [d1, d2] }
  | _ => none }
def jobsPlaysRow : OpenClaim := { program := "ytfkebbkfmchnaaa", sum := "23d77928fbac38bc90a6e5234fd5a2dd87b6bfa63fe0343d92322f9cb065a72d", func := "remontoir/remontoirlaw12.JobsPlays", spec := "jobsPlays", unfollowed := true, recurses := true, apart := false }
def JobsPlaysSaid : Prop := jobsPlaysRow.holds Try.pinned (OpenSpec.ofChange jobsPlaysSpec)

/-- ITS FALSE NEIGHBOUR: 'it returns false'. Refute it at one input. -/
def jobsPlaysWrong : ChangeSpec := { name := "jobsPlays", fn := fun _ => fun
  | [d1, d2] => { results := [.lit (.bool false)], args := [d1, d2] }
  | _ => none }
def JobsPlaysWrongFalsely : Prop := jobsPlaysRow.holds Try.pinned (OpenSpec.ofChange jobsPlaysWrong)

/-- 'remontoirlaw12.JobsNone': WHATEVER THE INPUT: true; the input reads as it did. -/
def jobsNoneSpec : ChangeSpec := { name := "jobsNone", fn := fun _ => fun
  | [d1, d2, d3] => { results := [.lit (.bool true)], args := [d1, d2, d3] }
  | _ => none }
def jobsNoneRow : OpenClaim := { program := "ytfkebbkfmchnaaa", sum := "23d77928fbac38bc90a6e5234fd5a2dd87b6bfa63fe0343d92322f9cb065a72d", func := "remontoir/remontoirlaw12.JobsNone", spec := "jobsNone", unfollowed := true, recurses := true, apart := false }
def JobsNoneSaid : Prop := jobsNoneRow.holds Try.pinned (OpenSpec.ofChange jobsNoneSpec)

/-- ITS FALSE NEIGHBOUR: 'it returns false'. Refute it at one input. -/
def jobsNoneWrong : ChangeSpec := { name := "jobsNone", fn := fun _ => fun
  | [d1, d2, d3] => { results := [.lit (.bool false)], args := [d1, d2, d3] }
  | _ => none }
def JobsNoneWrongFalsely : Prop := jobsNoneRow.holds Try.pinned (OpenSpec.ofChange jobsNoneWrong)

/- THE SECOND FORM. 'bulk': how many values and letters a reading holds, each counted each time it is reached (what is shared counts as often as it is met; a slice's spare places count too). A statement '..UptoSaid' is the law's where the arguments, and the package variables that the reading takes, are together of bulk at most 1048576: NARROWER than '..Said'. Prove '..Said' where nothing that the law and all that it calls make is longer than what came in: it says more and counts as full. Else prove '..UptoSaid'. A law counts once. -/
mutual
def uptoBulk {H : Type} : DataW H → Nat
  | .lit (.string bytes) => bytes.length + 1
  | .lit _ => 1
  | .nil => 1
  | .ptr d => uptoBulk d + 1
  | .slice elems spare => uptoBulkAll elems + uptoBulkAll spare + 1
  | .agg parts => uptoBulkAll parts + 1
  | .iface _ d => uptoBulk d + 1
  | .map entries => uptoBulkEntries entries + 1
  | .held _ => 1
def uptoBulkAll {H : Type} : List (DataW H) → Nat
  | [] => 0
  | d :: r => uptoBulk d + uptoBulkAll r
def uptoBulkEntries {H : Type} : List (Lit × DataW H) → Nat
  | [] => 0
  | x :: r => uptoBulkEntry x + uptoBulkEntries r
def uptoBulkEntry {H : Type} : Lit × DataW H → Nat
  | (.string bytes, d) => bytes.length + uptoBulk d + 1
  | (_, d) => uptoBulk d + 1
 end
def uptoSmall : (H : Type) → List (DataW H) → Bool := fun _ ds => decide (uptoBulkAll ds ≤ 1048576)
def OpenSpec.upto (s : _root_.Go.ChangeSpec) : _root_.Go.OpenSpec := { _root_.Go.OpenSpec.ofChange s with cond := some uptoSmall }

/-- 'remontoirlaw12.JobsFair', WHERE WHAT IT READS IS OF BULK AT MOST 1048576: true; the input reads as it did. -/
def jobsFairUptoRow : OpenClaim := { program := "ytfkebbkfmchnaaa", sum := "23d77928fbac38bc90a6e5234fd5a2dd87b6bfa63fe0343d92322f9cb065a72d", func := "remontoir/remontoirlaw12.JobsFair", spec := "jobsFair", unfollowed := true, recurses := true, apart := false, narrowed := true }
def JobsFairUptoSaid : Prop := jobsFairUptoRow.holds Try.pinned (OpenSpec.upto jobsFairSpec)

/-- 'remontoirlaw12.JobsRoom', WHERE WHAT IT READS IS OF BULK AT MOST 1048576: true; the input reads as it did. -/
def jobsRoomUptoRow : OpenClaim := { program := "ytfkebbkfmchnaaa", sum := "23d77928fbac38bc90a6e5234fd5a2dd87b6bfa63fe0343d92322f9cb065a72d", func := "remontoir/remontoirlaw12.JobsRoom", spec := "jobsRoom", unfollowed := true, recurses := true, apart := false, narrowed := true }
def JobsRoomUptoSaid : Prop := jobsRoomUptoRow.holds Try.pinned (OpenSpec.upto jobsRoomSpec)

/-- 'remontoirlaw12.JobsOften', WHERE WHAT IT READS IS OF BULK AT MOST 1048576: true; the input reads as it did. -/
def jobsOftenUptoRow : OpenClaim := { program := "ytfkebbkfmchnaaa", sum := "23d77928fbac38bc90a6e5234fd5a2dd87b6bfa63fe0343d92322f9cb065a72d", func := "remontoir/remontoirlaw12.JobsOften", spec := "jobsOften", unfollowed := true, recurses := true, apart := false, narrowed := true }
def JobsOftenUptoSaid : Prop := jobsOftenUptoRow.holds Try.pinned (OpenSpec.upto jobsOftenSpec)

/-- 'remontoirlaw12.JobsPlays', WHERE WHAT IT READS IS OF BULK AT MOST 1048576: true; the input reads as it did. -/
def jobsPlaysUptoRow : OpenClaim := { program := "ytfkebbkfmchnaaa", sum := "23d77928fbac38bc90a6e5234fd5a2dd87b6bfa63fe0343d92322f9cb065a72d", func := "remontoir/remontoirlaw12.JobsPlays", spec := "jobsPlays", unfollowed := true, recurses := true, apart := false, narrowed := true }
def JobsPlaysUptoSaid : Prop := jobsPlaysUptoRow.holds Try.pinned (OpenSpec.upto jobsPlaysSpec)

/-- 'remontoirlaw12.JobsNone', WHERE WHAT IT READS IS OF BULK AT MOST 1048576: true; the input reads as it did. -/
def jobsNoneUptoRow : OpenClaim := { program := "ytfkebbkfmchnaaa", sum := "23d77928fbac38bc90a6e5234fd5a2dd87b6bfa63fe0343d92322f9cb065a72d", func := "remontoir/remontoirlaw12.JobsNone", spec := "jobsNone", unfollowed := true, recurses := true, apart := false, narrowed := true }
def JobsNoneUptoSaid : Prop := jobsNoneUptoRow.holds Try.pinned (OpenSpec.upto jobsNoneSpec)

end Rows
end Go.Proofs.Ytfkebbkfmchnaaa

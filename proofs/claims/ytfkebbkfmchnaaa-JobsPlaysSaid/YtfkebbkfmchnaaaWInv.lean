-- Printed by the kit, struck by a program of ours (wip/common/prune.py) to what the claim needs; Lean checks it.
import Derived.Test.YtfkebbkfmchnaaaWTab
/-! ### 57. A region of open order by ONE relation over what is listed so far: each operation is shown once, whatever came up before it -/
namespace Go.Proofs.YtfkebbkfmchnaaaW.PrintLast
/-- Number i is listed too. -/
def up (b : Nat → Bool) (i : Nat) : Nat → Bool := fun j => if j = i then true else b j
section
/-! The frame: what is listed has its destination filled. -/
end
end Go.Proofs.YtfkebbkfmchnaaaW.PrintLast

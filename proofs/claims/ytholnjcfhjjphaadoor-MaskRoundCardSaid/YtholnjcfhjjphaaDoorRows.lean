/-
  NARROWER THAN 'FOR EVERY INPUT', by the rows' own cells (each row's printed sentence says how): MaskNext: laid · MaskOne: laid · MaskBack: laid · MaskRound: laid · MaskTells: laid.
  DERIVED. THE GIVEN ROWS OF THIS SEAT. 5 by the template 'for every input the law returns true; each argument reads behind the call as it read before'; 0 by the template 'total and deterministic' (their statements: YtholnjcfhjjphaaDoorTotals.lean).
  GIVEN WITH THE SEED: the statements are not yours to turn. If you find one false, say at which input.
  Laid BY PROGRAM, IN A SANDBOX (cutbox-rows.mjs): the forced cells as the released guide's own fill.sh prints them over the translation 3807898130dd52a5… (all of the seat's roots in one cut). By AI agents, Wed Nov 11 2026. No macro, syntax, notation, axiom, sorry.
-/
import Derived.Test.YtholnjcfhjjphaaDoorChecked
import GoSem.Claim
import GoSem.ClaimJoined
import GoSem.ClaimMapViews
import Derived.JoinedTies
import Derived.KernelRfl
namespace Go.Proofs.YtholnjcfhjjphaaDoor
/- THE CELL 'sum', in the pinned program and in every row, IS THE sha256 OF THE DUMP (.gsa) THAT YtholnjcfhjjphaaDoorProg.lean LOADS. Nothing in Lean hashes anything: it is a label: what it is worth is what the hold of that sum in a sandbox is worth. -/
noncomputable def Tryd.pinned : Pinned := { name := "ytholnjcfhjjphaadoor", sum := "3807898130dd52a53dc454dbbc5a64716d158a1881d8142e049ddc31993984e6", checked := Tryd.checked }
namespace Rows
def none {H : Type} : Left H := { results := [], args := [] }

/- WHAT THE LISTED PACKAGE-LEVEL VARIABLES READ AS WHEN THE CALL BEGINS. Each datum BY PROGRAM (the guide's laid-datum.mjs) off the statement by which the dump's own 'gosem.cut.vars' lays the variable. In a bare row this is a premise. The card (YtholnjcfhjjphaaDoorCards.lean) ties it to the program's text. -/
def laid_math_bits_deBruijn64tab {H : Type} : DataW H := .agg [.lit (.int .u8 0), .lit (.int .u8 1), .lit (.int .u8 56), .lit (.int .u8 2), .lit (.int .u8 57), .lit (.int .u8 49), .lit (.int .u8 28), .lit (.int .u8 3), .lit (.int .u8 61), .lit (.int .u8 58), .lit (.int .u8 42), .lit (.int .u8 50), .lit (.int .u8 38), .lit (.int .u8 29), .lit (.int .u8 17), .lit (.int .u8 4), .lit (.int .u8 62), .lit (.int .u8 47), .lit (.int .u8 59), .lit (.int .u8 36), .lit (.int .u8 45), .lit (.int .u8 43), .lit (.int .u8 51), .lit (.int .u8 22), .lit (.int .u8 53), .lit (.int .u8 39), .lit (.int .u8 33), .lit (.int .u8 30), .lit (.int .u8 24), .lit (.int .u8 18), .lit (.int .u8 12), .lit (.int .u8 5), .lit (.int .u8 63), .lit (.int .u8 55), .lit (.int .u8 48), .lit (.int .u8 27), .lit (.int .u8 60), .lit (.int .u8 41), .lit (.int .u8 37), .lit (.int .u8 16), .lit (.int .u8 46), .lit (.int .u8 35), .lit (.int .u8 44), .lit (.int .u8 21), .lit (.int .u8 52), .lit (.int .u8 32), .lit (.int .u8 23), .lit (.int .u8 11), .lit (.int .u8 54), .lit (.int .u8 26), .lit (.int .u8 40), .lit (.int .u8 15), .lit (.int .u8 34), .lit (.int .u8 20), .lit (.int .u8 31), .lit (.int .u8 10), .lit (.int .u8 25), .lit (.int .u8 14), .lit (.int .u8 19), .lit (.int .u8 9), .lit (.int .u8 13), .lit (.int .u8 8), .lit (.int .u8 7), .lit (.int .u8 6)]

/-- 'remontoirlaw04.MaskNext': WHATEVER THE INPUT: true; the input reads as it did. -/
def maskNextSpec : ChangeSpec := { name := "maskNext", fn := fun _ => fun
  | [d1, d2] => { results := [.lit (.bool true)], args := [d1, d2] }
  | _ => none }
def maskNextRow : OpenClaim := { program := "ytholnjcfhjjphaadoor", sum := "3807898130dd52a53dc454dbbc5a64716d158a1881d8142e049ddc31993984e6", func := "remontoir/remontoirlaw04.MaskNext", spec := "maskNext", named := ["math/bits.deBruijn64tab"], apart := false, laid := [("math/bits.deBruijn64tab", laid_math_bits_deBruijn64tab)] }
def MaskNextSaid : Prop := maskNextRow.holds Tryd.pinned (OpenSpec.ofChange maskNextSpec)

/-- ITS FALSE NEIGHBOUR: 'it returns false'. Refute it at one input. -/
def maskNextWrong : ChangeSpec := { name := "maskNext", fn := fun _ => fun
  | [d1, d2] => { results := [.lit (.bool false)], args := [d1, d2] }
  | _ => none }
def MaskNextWrongFalsely : Prop := maskNextRow.holds Tryd.pinned (OpenSpec.ofChange maskNextWrong)

/-- 'remontoirlaw04.MaskOne': WHATEVER THE INPUT: true; the input reads as it did. -/
def maskOneSpec : ChangeSpec := { name := "maskOne", fn := fun _ => fun
  | [d1, d2] => { results := [.lit (.bool true)], args := [d1, d2] }
  | _ => none }
def maskOneRow : OpenClaim := { program := "ytholnjcfhjjphaadoor", sum := "3807898130dd52a53dc454dbbc5a64716d158a1881d8142e049ddc31993984e6", func := "remontoir/remontoirlaw04.MaskOne", spec := "maskOne", named := ["math/bits.deBruijn64tab"], apart := false, laid := [("math/bits.deBruijn64tab", laid_math_bits_deBruijn64tab)] }
def MaskOneSaid : Prop := maskOneRow.holds Tryd.pinned (OpenSpec.ofChange maskOneSpec)

/-- ITS FALSE NEIGHBOUR: 'it returns false'. Refute it at one input. -/
def maskOneWrong : ChangeSpec := { name := "maskOne", fn := fun _ => fun
  | [d1, d2] => { results := [.lit (.bool false)], args := [d1, d2] }
  | _ => none }
def MaskOneWrongFalsely : Prop := maskOneRow.holds Tryd.pinned (OpenSpec.ofChange maskOneWrong)

/-- 'remontoirlaw04.MaskBack': WHATEVER THE INPUT: true; the input reads as it did. -/
def maskBackSpec : ChangeSpec := { name := "maskBack", fn := fun _ => fun
  | [d1, d2] => { results := [.lit (.bool true)], args := [d1, d2] }
  | _ => none }
def maskBackRow : OpenClaim := { program := "ytholnjcfhjjphaadoor", sum := "3807898130dd52a53dc454dbbc5a64716d158a1881d8142e049ddc31993984e6", func := "remontoir/remontoirlaw04.MaskBack", spec := "maskBack", named := ["math/bits.deBruijn64tab"], apart := false, laid := [("math/bits.deBruijn64tab", laid_math_bits_deBruijn64tab)] }
def MaskBackSaid : Prop := maskBackRow.holds Tryd.pinned (OpenSpec.ofChange maskBackSpec)

/-- ITS FALSE NEIGHBOUR: 'it returns false'. Refute it at one input. -/
def maskBackWrong : ChangeSpec := { name := "maskBack", fn := fun _ => fun
  | [d1, d2] => { results := [.lit (.bool false)], args := [d1, d2] }
  | _ => none }
def MaskBackWrongFalsely : Prop := maskBackRow.holds Tryd.pinned (OpenSpec.ofChange maskBackWrong)

/-- 'remontoirlaw04.MaskRound': WHATEVER THE INPUT: true; the input reads as it did. -/
def maskRoundSpec : ChangeSpec := { name := "maskRound", fn := fun _ => fun
  | [d1, d2] => { results := [.lit (.bool true)], args := [d1, d2] }
  | _ => none }
def maskRoundRow : OpenClaim := { program := "ytholnjcfhjjphaadoor", sum := "3807898130dd52a53dc454dbbc5a64716d158a1881d8142e049ddc31993984e6", func := "remontoir/remontoirlaw04.MaskRound", spec := "maskRound", named := ["math/bits.deBruijn64tab"], apart := false, laid := [("math/bits.deBruijn64tab", laid_math_bits_deBruijn64tab)] }
def MaskRoundSaid : Prop := maskRoundRow.holds Tryd.pinned (OpenSpec.ofChange maskRoundSpec)

/-- ITS FALSE NEIGHBOUR: 'it returns false'. Refute it at one input. -/
def maskRoundWrong : ChangeSpec := { name := "maskRound", fn := fun _ => fun
  | [d1, d2] => { results := [.lit (.bool false)], args := [d1, d2] }
  | _ => none }
def MaskRoundWrongFalsely : Prop := maskRoundRow.holds Tryd.pinned (OpenSpec.ofChange maskRoundWrong)

/-- 'remontoirlaw04.MaskTells': WHATEVER THE INPUT: true; the input reads as it did. -/
def maskTellsSpec : ChangeSpec := { name := "maskTells", fn := fun _ => fun
  | [d1, d2, d3] => { results := [.lit (.bool true)], args := [d1, d2, d3] }
  | _ => none }
def maskTellsRow : OpenClaim := { program := "ytholnjcfhjjphaadoor", sum := "3807898130dd52a53dc454dbbc5a64716d158a1881d8142e049ddc31993984e6", func := "remontoir/remontoirlaw04.MaskTells", spec := "maskTells", named := ["math/bits.deBruijn64tab"], apart := false, laid := [("math/bits.deBruijn64tab", laid_math_bits_deBruijn64tab)] }
def MaskTellsSaid : Prop := maskTellsRow.holds Tryd.pinned (OpenSpec.ofChange maskTellsSpec)

/-- ITS FALSE NEIGHBOUR: 'it returns false'. Refute it at one input. -/
def maskTellsWrong : ChangeSpec := { name := "maskTells", fn := fun _ => fun
  | [d1, d2, d3] => { results := [.lit (.bool false)], args := [d1, d2, d3] }
  | _ => none }
def MaskTellsWrongFalsely : Prop := maskTellsRow.holds Tryd.pinned (OpenSpec.ofChange maskTellsWrong)

/- THE SECOND FORM. 'bulk': how many values and letters a reading holds, each counted each time it is reached (what is shared counts as often as it is met; a slice's spare places count too). A statement '..UptoSaid' is the law's where the arguments, and the package variables that the reading takes, are together of bulk at most 1048576: NARROWER than '..Said'. Prove '..Said' where nothing that the law and all that it calls make is longer than what came in: it says more and counts as full. Else prove '..UptoSaid'. A law counts once. -/
mutual
def uptoBulk {H : Type} : DataW H → Nat
  | .lit (.string bytes) => bytes.length + 1
  | .lit _ => 1
  | .nil => 1
  | .ptr d => uptoBulk d + 1
  | .slice elems spare => uptoBulkAll elems + uptoBulkAll spare + 1
  | .agg parts => uptoBulkAll parts + 1
  | .iface _ d => uptoBulk d + 1
  | .map entries => uptoBulkEntries entries + 1
  | .held _ => 1
def uptoBulkAll {H : Type} : List (DataW H) → Nat
  | [] => 0
  | d :: r => uptoBulk d + uptoBulkAll r
def uptoBulkEntries {H : Type} : List (Lit × DataW H) → Nat
  | [] => 0
  | x :: r => uptoBulkEntry x + uptoBulkEntries r
def uptoBulkEntry {H : Type} : Lit × DataW H → Nat
  | (.string bytes, d) => bytes.length + uptoBulk d + 1
  | (_, d) => uptoBulk d + 1
 end
def uptoSmall : (H : Type) → List (DataW H) → Bool := fun _ ds => decide (uptoBulkAll ds ≤ 1048576)
def OpenSpec.upto (s : _root_.Go.ChangeSpec) : _root_.Go.OpenSpec := { _root_.Go.OpenSpec.ofChange s with cond := some uptoSmall }

/-- 'remontoirlaw04.MaskNext', WHERE WHAT IT READS IS OF BULK AT MOST 1048576: true; the input reads as it did. -/
def maskNextUptoRow : OpenClaim := { program := "ytholnjcfhjjphaadoor", sum := "3807898130dd52a53dc454dbbc5a64716d158a1881d8142e049ddc31993984e6", func := "remontoir/remontoirlaw04.MaskNext", spec := "maskNext", named := ["math/bits.deBruijn64tab"], apart := false, laid := [("math/bits.deBruijn64tab", laid_math_bits_deBruijn64tab)], narrowed := true }
def MaskNextUptoSaid : Prop := maskNextUptoRow.holds Tryd.pinned (OpenSpec.upto maskNextSpec)

/-- 'remontoirlaw04.MaskOne', WHERE WHAT IT READS IS OF BULK AT MOST 1048576: true; the input reads as it did. -/
def maskOneUptoRow : OpenClaim := { program := "ytholnjcfhjjphaadoor", sum := "3807898130dd52a53dc454dbbc5a64716d158a1881d8142e049ddc31993984e6", func := "remontoir/remontoirlaw04.MaskOne", spec := "maskOne", named := ["math/bits.deBruijn64tab"], apart := false, laid := [("math/bits.deBruijn64tab", laid_math_bits_deBruijn64tab)], narrowed := true }
def MaskOneUptoSaid : Prop := maskOneUptoRow.holds Tryd.pinned (OpenSpec.upto maskOneSpec)

/-- 'remontoirlaw04.MaskBack', WHERE WHAT IT READS IS OF BULK AT MOST 1048576: true; the input reads as it did. -/
def maskBackUptoRow : OpenClaim := { program := "ytholnjcfhjjphaadoor", sum := "3807898130dd52a53dc454dbbc5a64716d158a1881d8142e049ddc31993984e6", func := "remontoir/remontoirlaw04.MaskBack", spec := "maskBack", named := ["math/bits.deBruijn64tab"], apart := false, laid := [("math/bits.deBruijn64tab", laid_math_bits_deBruijn64tab)], narrowed := true }
def MaskBackUptoSaid : Prop := maskBackUptoRow.holds Tryd.pinned (OpenSpec.upto maskBackSpec)

/-- 'remontoirlaw04.MaskRound', WHERE WHAT IT READS IS OF BULK AT MOST 1048576: true; the input reads as it did. -/
def maskRoundUptoRow : OpenClaim := { program := "ytholnjcfhjjphaadoor", sum := "3807898130dd52a53dc454dbbc5a64716d158a1881d8142e049ddc31993984e6", func := "remontoir/remontoirlaw04.MaskRound", spec := "maskRound", named := ["math/bits.deBruijn64tab"], apart := false, laid := [("math/bits.deBruijn64tab", laid_math_bits_deBruijn64tab)], narrowed := true }
def MaskRoundUptoSaid : Prop := maskRoundUptoRow.holds Tryd.pinned (OpenSpec.upto maskRoundSpec)

/-- 'remontoirlaw04.MaskTells', WHERE WHAT IT READS IS OF BULK AT MOST 1048576: true; the input reads as it did. -/
def maskTellsUptoRow : OpenClaim := { program := "ytholnjcfhjjphaadoor", sum := "3807898130dd52a53dc454dbbc5a64716d158a1881d8142e049ddc31993984e6", func := "remontoir/remontoirlaw04.MaskTells", spec := "maskTells", named := ["math/bits.deBruijn64tab"], apart := false, laid := [("math/bits.deBruijn64tab", laid_math_bits_deBruijn64tab)], narrowed := true }
def MaskTellsUptoSaid : Prop := maskTellsUptoRow.holds Tryd.pinned (OpenSpec.upto maskTellsSpec)

end Rows
end Go.Proofs.YtholnjcfhjjphaaDoor

/-
  NARROWER THAN 'FOR EVERY INPUT', by the rows' own cells (each row's printed sentence says how): FourthDecompose: laid · FourthCheck: laid · FourthErrors: laid · BoyceDecompose: laid · BoyceCheck: laid · BoycePossible: laid · ThirdCheck: laid · ThirdAccepted: laid.
  DERIVED. THE GIVEN ROWS OF THIS SEAT. 8 by the template 'for every input the law returns true; each argument reads behind the call as it read before'; 0 by the template 'total and deterministic' (their statements: YtidophngianjiaaGreatDoorTotals.lean).
  GIVEN WITH THE SEED: the statements are not yours to turn. If you find one false, say at which input.
  Laid BY PROGRAM, IN A SANDBOX (cutbox-rows.mjs): the forced cells as the released guide's own fill.sh prints them over the translation d55f3c7f2228b411… (all of the seat's roots in one cut). By AI agents, Wed Nov 11 2026. No macro, syntax, notation, axiom, sorry.
-/
import Derived.Test.YtidophngianjiaaGreatDoorChecked
import GoSem.Claim
import GoSem.ClaimJoined
import GoSem.ClaimMapViews
import Derived.JoinedTies
import Derived.KernelRfl
namespace Go.Proofs.YtidophngianjiaaGreatDoor
/- THE CELL 'sum', in the pinned program and in every row, IS THE sha256 OF THE DUMP (.gsa) THAT YtidophngianjiaaGreatDoorProg.lean LOADS. Nothing in Lean hashes anything: it is a label: what it is worth is what the hold of that sum in a sandbox is worth. -/
noncomputable def Tryz.pinned : Pinned := { name := "ytidophngianjiaagreatdoor", sum := "d55f3c7f2228b411199dd19b4fd00b88a8b0ee63f30c8a2dee44df8670d25e55", checked := Tryz.checked }
namespace Rows
def none {H : Type} : Left H := { results := [], args := [] }

/- WHAT THE LISTED PACKAGE-LEVEL VARIABLES READ AS WHEN THE CALL BEGINS. Each datum BY PROGRAM (the guide's laid-datum.mjs) off the statement by which the dump's own 'gosem.cut.vars' lays the variable. In a bare row this is a premise. The card (YtidophngianjiaaGreatDoorCards.lean) ties it to the program's text. -/
def laid_math_bits_deBruijn32tab {H : Type} : DataW H := .agg [.lit (.int .u8 0), .lit (.int .u8 1), .lit (.int .u8 28), .lit (.int .u8 2), .lit (.int .u8 29), .lit (.int .u8 14), .lit (.int .u8 24), .lit (.int .u8 3), .lit (.int .u8 30), .lit (.int .u8 22), .lit (.int .u8 20), .lit (.int .u8 15), .lit (.int .u8 25), .lit (.int .u8 17), .lit (.int .u8 4), .lit (.int .u8 8), .lit (.int .u8 31), .lit (.int .u8 27), .lit (.int .u8 13), .lit (.int .u8 23), .lit (.int .u8 21), .lit (.int .u8 19), .lit (.int .u8 16), .lit (.int .u8 7), .lit (.int .u8 26), .lit (.int .u8 12), .lit (.int .u8 18), .lit (.int .u8 6), .lit (.int .u8 11), .lit (.int .u8 5), .lit (.int .u8 10), .lit (.int .u8 9)]

/-- 'drosslaw25.FourthDecompose': WHATEVER THE INPUT: true; the input reads as it did. -/
def fourthDecomposeSpec : ChangeSpec := { name := "fourthDecompose", fn := fun _ => fun
  | [d] => { results := [.lit (.bool true)], args := [d] }
  | _ => none }
def fourthDecomposeRow : OpenClaim := { program := "ytidophngianjiaagreatdoor", sum := "d55f3c7f2228b411199dd19b4fd00b88a8b0ee63f30c8a2dee44df8670d25e55", func := "dross/drosslaw25.FourthDecompose", spec := "fourthDecompose", unfollowed := true, recurses := true, named := ["math/bits.deBruijn32tab"], apart := false, laid := [("math/bits.deBruijn32tab", laid_math_bits_deBruijn32tab)] }
def FourthDecomposeSaid : Prop := fourthDecomposeRow.holds Tryz.pinned (OpenSpec.ofChange fourthDecomposeSpec)

/-- ITS FALSE NEIGHBOUR: 'it returns false'. Refute it at one input. -/
def fourthDecomposeWrong : ChangeSpec := { name := "fourthDecompose", fn := fun _ => fun
  | [d] => { results := [.lit (.bool false)], args := [d] }
  | _ => none }
def FourthDecomposeWrongFalsely : Prop := fourthDecomposeRow.holds Tryz.pinned (OpenSpec.ofChange fourthDecomposeWrong)

/-- 'drosslaw25.FourthCheck': WHATEVER THE INPUT: true; the input reads as it did. -/
def fourthCheckSpec : ChangeSpec := { name := "fourthCheck", fn := fun _ => fun
  | [d1, d2, d3] => { results := [.lit (.bool true)], args := [d1, d2, d3] }
  | _ => none }
def fourthCheckRow : OpenClaim := { program := "ytidophngianjiaagreatdoor", sum := "d55f3c7f2228b411199dd19b4fd00b88a8b0ee63f30c8a2dee44df8670d25e55", func := "dross/drosslaw25.FourthCheck", spec := "fourthCheck", unfollowed := true, recurses := true, named := ["math/bits.deBruijn32tab"], apart := false, laid := [("math/bits.deBruijn32tab", laid_math_bits_deBruijn32tab)] }
def FourthCheckSaid : Prop := fourthCheckRow.holds Tryz.pinned (OpenSpec.ofChange fourthCheckSpec)

/-- ITS FALSE NEIGHBOUR: 'it returns false'. Refute it at one input. -/
def fourthCheckWrong : ChangeSpec := { name := "fourthCheck", fn := fun _ => fun
  | [d1, d2, d3] => { results := [.lit (.bool false)], args := [d1, d2, d3] }
  | _ => none }
def FourthCheckWrongFalsely : Prop := fourthCheckRow.holds Tryz.pinned (OpenSpec.ofChange fourthCheckWrong)

/-- 'drosslaw25.FourthErrors': WHATEVER THE INPUT: true; the input reads as it did. -/
def fourthErrorsSpec : ChangeSpec := { name := "fourthErrors", fn := fun _ => fun
  | [d1, d2, d3] => { results := [.lit (.bool true)], args := [d1, d2, d3] }
  | _ => none }
def fourthErrorsRow : OpenClaim := { program := "ytidophngianjiaagreatdoor", sum := "d55f3c7f2228b411199dd19b4fd00b88a8b0ee63f30c8a2dee44df8670d25e55", func := "dross/drosslaw25.FourthErrors", spec := "fourthErrors", unfollowed := true, recurses := true, named := ["math/bits.deBruijn32tab"], apart := false, laid := [("math/bits.deBruijn32tab", laid_math_bits_deBruijn32tab)] }
def FourthErrorsSaid : Prop := fourthErrorsRow.holds Tryz.pinned (OpenSpec.ofChange fourthErrorsSpec)

/-- ITS FALSE NEIGHBOUR: 'it returns false'. Refute it at one input. -/
def fourthErrorsWrong : ChangeSpec := { name := "fourthErrors", fn := fun _ => fun
  | [d1, d2, d3] => { results := [.lit (.bool false)], args := [d1, d2, d3] }
  | _ => none }
def FourthErrorsWrongFalsely : Prop := fourthErrorsRow.holds Tryz.pinned (OpenSpec.ofChange fourthErrorsWrong)

/-- 'drosslaw24.BoyceDecompose': WHATEVER THE INPUT: true; the input reads as it did. -/
def boyceDecomposeSpec : ChangeSpec := { name := "boyceDecompose", fn := fun _ => fun
  | [d] => { results := [.lit (.bool true)], args := [d] }
  | _ => none }
def boyceDecomposeRow : OpenClaim := { program := "ytidophngianjiaagreatdoor", sum := "d55f3c7f2228b411199dd19b4fd00b88a8b0ee63f30c8a2dee44df8670d25e55", func := "dross/drosslaw24.BoyceDecompose", spec := "boyceDecompose", unfollowed := true, recurses := true, named := ["math/bits.deBruijn32tab"], apart := false, laid := [("math/bits.deBruijn32tab", laid_math_bits_deBruijn32tab)] }
def BoyceDecomposeSaid : Prop := boyceDecomposeRow.holds Tryz.pinned (OpenSpec.ofChange boyceDecomposeSpec)

/-- ITS FALSE NEIGHBOUR: 'it returns false'. Refute it at one input. -/
def boyceDecomposeWrong : ChangeSpec := { name := "boyceDecompose", fn := fun _ => fun
  | [d] => { results := [.lit (.bool false)], args := [d] }
  | _ => none }
def BoyceDecomposeWrongFalsely : Prop := boyceDecomposeRow.holds Tryz.pinned (OpenSpec.ofChange boyceDecomposeWrong)

/-- 'drosslaw24.BoyceCheck': WHATEVER THE INPUT: true; the input reads as it did. -/
def boyceCheckSpec : ChangeSpec := { name := "boyceCheck", fn := fun _ => fun
  | [d1, d2] => { results := [.lit (.bool true)], args := [d1, d2] }
  | _ => none }
def boyceCheckRow : OpenClaim := { program := "ytidophngianjiaagreatdoor", sum := "d55f3c7f2228b411199dd19b4fd00b88a8b0ee63f30c8a2dee44df8670d25e55", func := "dross/drosslaw24.BoyceCheck", spec := "boyceCheck", unfollowed := true, recurses := true, named := ["math/bits.deBruijn32tab"], apart := false, laid := [("math/bits.deBruijn32tab", laid_math_bits_deBruijn32tab)] }
def BoyceCheckSaid : Prop := boyceCheckRow.holds Tryz.pinned (OpenSpec.ofChange boyceCheckSpec)

/-- ITS FALSE NEIGHBOUR: 'it returns false'. Refute it at one input. -/
def boyceCheckWrong : ChangeSpec := { name := "boyceCheck", fn := fun _ => fun
  | [d1, d2] => { results := [.lit (.bool false)], args := [d1, d2] }
  | _ => none }
def BoyceCheckWrongFalsely : Prop := boyceCheckRow.holds Tryz.pinned (OpenSpec.ofChange boyceCheckWrong)

/-- 'drosslaw24.BoycePossible': WHATEVER THE INPUT: true; the input reads as it did. -/
def boycePossibleSpec : ChangeSpec := { name := "boycePossible", fn := fun _ => fun
  | [d] => { results := [.lit (.bool true)], args := [d] }
  | _ => none }
def boycePossibleRow : OpenClaim := { program := "ytidophngianjiaagreatdoor", sum := "d55f3c7f2228b411199dd19b4fd00b88a8b0ee63f30c8a2dee44df8670d25e55", func := "dross/drosslaw24.BoycePossible", spec := "boycePossible", unfollowed := true, recurses := true, named := ["math/bits.deBruijn32tab"], apart := false, laid := [("math/bits.deBruijn32tab", laid_math_bits_deBruijn32tab)] }
def BoycePossibleSaid : Prop := boycePossibleRow.holds Tryz.pinned (OpenSpec.ofChange boycePossibleSpec)

/-- ITS FALSE NEIGHBOUR: 'it returns false'. Refute it at one input. -/
def boycePossibleWrong : ChangeSpec := { name := "boycePossible", fn := fun _ => fun
  | [d] => { results := [.lit (.bool false)], args := [d] }
  | _ => none }
def BoycePossibleWrongFalsely : Prop := boycePossibleRow.holds Tryz.pinned (OpenSpec.ofChange boycePossibleWrong)

/-- 'drosslaw23.ThirdCheck': WHATEVER THE INPUT: true; the input reads as it did. -/
def thirdCheckSpec : ChangeSpec := { name := "thirdCheck", fn := fun _ => fun
  | [d1, d2, d3] => { results := [.lit (.bool true)], args := [d1, d2, d3] }
  | _ => none }
def thirdCheckRow : OpenClaim := { program := "ytidophngianjiaagreatdoor", sum := "d55f3c7f2228b411199dd19b4fd00b88a8b0ee63f30c8a2dee44df8670d25e55", func := "dross/drosslaw23.ThirdCheck", spec := "thirdCheck", unfollowed := true, recurses := true, named := ["math/bits.deBruijn32tab"], apart := false, laid := [("math/bits.deBruijn32tab", laid_math_bits_deBruijn32tab)] }
def ThirdCheckSaid : Prop := thirdCheckRow.holds Tryz.pinned (OpenSpec.ofChange thirdCheckSpec)

/-- ITS FALSE NEIGHBOUR: 'it returns false'. Refute it at one input. -/
def thirdCheckWrong : ChangeSpec := { name := "thirdCheck", fn := fun _ => fun
  | [d1, d2, d3] => { results := [.lit (.bool false)], args := [d1, d2, d3] }
  | _ => none }
def ThirdCheckWrongFalsely : Prop := thirdCheckRow.holds Tryz.pinned (OpenSpec.ofChange thirdCheckWrong)

/-- 'drosslaw23.ThirdAccepted': WHATEVER THE INPUT: true; the input reads as it did. -/
def thirdAcceptedSpec : ChangeSpec := { name := "thirdAccepted", fn := fun _ => fun
  | [d] => { results := [.lit (.bool true)], args := [d] }
  | _ => none }
def thirdAcceptedRow : OpenClaim := { program := "ytidophngianjiaagreatdoor", sum := "d55f3c7f2228b411199dd19b4fd00b88a8b0ee63f30c8a2dee44df8670d25e55", func := "dross/drosslaw23.ThirdAccepted", spec := "thirdAccepted", unfollowed := true, recurses := true, named := ["math/bits.deBruijn32tab"], apart := false, laid := [("math/bits.deBruijn32tab", laid_math_bits_deBruijn32tab)] }
def ThirdAcceptedSaid : Prop := thirdAcceptedRow.holds Tryz.pinned (OpenSpec.ofChange thirdAcceptedSpec)

/-- ITS FALSE NEIGHBOUR: 'it returns false'. Refute it at one input. -/
def thirdAcceptedWrong : ChangeSpec := { name := "thirdAccepted", fn := fun _ => fun
  | [d] => { results := [.lit (.bool false)], args := [d] }
  | _ => none }
def ThirdAcceptedWrongFalsely : Prop := thirdAcceptedRow.holds Tryz.pinned (OpenSpec.ofChange thirdAcceptedWrong)

/- THE SECOND FORM. 'bulk': how many values and letters a reading holds, each counted each time it is reached (what is shared counts as often as it is met; a slice's spare places count too). A statement '..UptoSaid' is the law's where the arguments, and the package variables that the reading takes, are together of bulk at most 1048576: NARROWER than '..Said'. Prove '..Said' where nothing that the law and all that it calls make is longer than what came in: it says more and counts as full. Else prove '..UptoSaid'. A law counts once. -/
mutual
def uptoBulk {H : Type} : DataW H → Nat
  | .lit (.string bytes) => bytes.length + 1
  | .lit _ => 1
  | .nil => 1
  | .ptr d => uptoBulk d + 1
  | .slice elems spare => uptoBulkAll elems + uptoBulkAll spare + 1
  | .agg parts => uptoBulkAll parts + 1
  | .iface _ d => uptoBulk d + 1
  | .map entries => uptoBulkEntries entries + 1
  | .held _ => 1
def uptoBulkAll {H : Type} : List (DataW H) → Nat
  | [] => 0
  | d :: r => uptoBulk d + uptoBulkAll r
def uptoBulkEntries {H : Type} : List (Lit × DataW H) → Nat
  | [] => 0
  | x :: r => uptoBulkEntry x + uptoBulkEntries r
def uptoBulkEntry {H : Type} : Lit × DataW H → Nat
  | (.string bytes, d) => bytes.length + uptoBulk d + 1
  | (_, d) => uptoBulk d + 1
 end
def uptoSmall : (H : Type) → List (DataW H) → Bool := fun _ ds => decide (uptoBulkAll ds ≤ 1048576)
def OpenSpec.upto (s : _root_.Go.ChangeSpec) : _root_.Go.OpenSpec := { _root_.Go.OpenSpec.ofChange s with cond := some uptoSmall }

/-- 'drosslaw25.FourthDecompose', WHERE WHAT IT READS IS OF BULK AT MOST 1048576: true; the input reads as it did. -/
def fourthDecomposeUptoRow : OpenClaim := { program := "ytidophngianjiaagreatdoor", sum := "d55f3c7f2228b411199dd19b4fd00b88a8b0ee63f30c8a2dee44df8670d25e55", func := "dross/drosslaw25.FourthDecompose", spec := "fourthDecompose", unfollowed := true, recurses := true, named := ["math/bits.deBruijn32tab"], apart := false, laid := [("math/bits.deBruijn32tab", laid_math_bits_deBruijn32tab)], narrowed := true }
def FourthDecomposeUptoSaid : Prop := fourthDecomposeUptoRow.holds Tryz.pinned (OpenSpec.upto fourthDecomposeSpec)

/-- 'drosslaw25.FourthCheck', WHERE WHAT IT READS IS OF BULK AT MOST 1048576: true; the input reads as it did. -/
def fourthCheckUptoRow : OpenClaim := { program := "ytidophngianjiaagreatdoor", sum := "d55f3c7f2228b411199dd19b4fd00b88a8b0ee63f30c8a2dee44df8670d25e55", func := "dross/drosslaw25.FourthCheck", spec := "fourthCheck", unfollowed := true, recurses := true, named := ["math/bits.deBruijn32tab"], apart := false, laid := [("math/bits.deBruijn32tab", laid_math_bits_deBruijn32tab)], narrowed := true }
def FourthCheckUptoSaid : Prop := fourthCheckUptoRow.holds Tryz.pinned (OpenSpec.upto fourthCheckSpec)

/-- 'drosslaw25.FourthErrors', WHERE WHAT IT READS IS OF BULK AT MOST 1048576: true; the input reads as it did. -/
def fourthErrorsUptoRow : OpenClaim := { program := "ytidophngianjiaagreatdoor", sum := "d55f3c7f2228b411199dd19b4fd00b88a8b0ee63f30c8a2dee44df8670d25e55", func := "dross/drosslaw25.FourthErrors", spec := "fourthErrors", unfollowed := true, recurses := true, named := ["math/bits.deBruijn32tab"], apart := false, laid := [("math/bits.deBruijn32tab", laid_math_bits_deBruijn32tab)], narrowed := true }
def FourthErrorsUptoSaid : Prop := fourthErrorsUptoRow.holds Tryz.pinned (OpenSpec.upto fourthErrorsSpec)

/-- 'drosslaw24.BoyceDecompose', WHERE WHAT IT READS IS OF BULK AT MOST 1048576: true; the input reads as it did. -/
def boyceDecomposeUptoRow : OpenClaim := { program := "ytidophngianjiaagreatdoor", sum := "d55f3c7f2228b411199dd19b4fd00b88a8b0ee63f30c8a2dee44df8670d25e55", func := "dross/drosslaw24.BoyceDecompose", spec := "boyceDecompose", unfollowed := true, recurses := true, named := ["math/bits.deBruijn32tab"], apart := false, laid := [("math/bits.deBruijn32tab", laid_math_bits_deBruijn32tab)], narrowed := true }
def BoyceDecomposeUptoSaid : Prop := boyceDecomposeUptoRow.holds Tryz.pinned (OpenSpec.upto boyceDecomposeSpec)

/-- 'drosslaw24.BoyceCheck', WHERE WHAT IT READS IS OF BULK AT MOST 1048576: true; the input reads as it did. -/
def boyceCheckUptoRow : OpenClaim := { program := "ytidophngianjiaagreatdoor", sum := "d55f3c7f2228b411199dd19b4fd00b88a8b0ee63f30c8a2dee44df8670d25e55", func := "dross/drosslaw24.BoyceCheck", spec := "boyceCheck", unfollowed := true, recurses := true, named := ["math/bits.deBruijn32tab"], apart := false, laid := [("math/bits.deBruijn32tab", laid_math_bits_deBruijn32tab)], narrowed := true }
def BoyceCheckUptoSaid : Prop := boyceCheckUptoRow.holds Tryz.pinned (OpenSpec.upto boyceCheckSpec)

/-- 'drosslaw24.BoycePossible', WHERE WHAT IT READS IS OF BULK AT MOST 1048576: true; the input reads as it did. -/
def boycePossibleUptoRow : OpenClaim := { program := "ytidophngianjiaagreatdoor", sum := "d55f3c7f2228b411199dd19b4fd00b88a8b0ee63f30c8a2dee44df8670d25e55", func := "dross/drosslaw24.BoycePossible", spec := "boycePossible", unfollowed := true, recurses := true, named := ["math/bits.deBruijn32tab"], apart := false, laid := [("math/bits.deBruijn32tab", laid_math_bits_deBruijn32tab)], narrowed := true }
def BoycePossibleUptoSaid : Prop := boycePossibleUptoRow.holds Tryz.pinned (OpenSpec.upto boycePossibleSpec)

/-- 'drosslaw23.ThirdCheck', WHERE WHAT IT READS IS OF BULK AT MOST 1048576: true; the input reads as it did. -/
def thirdCheckUptoRow : OpenClaim := { program := "ytidophngianjiaagreatdoor", sum := "d55f3c7f2228b411199dd19b4fd00b88a8b0ee63f30c8a2dee44df8670d25e55", func := "dross/drosslaw23.ThirdCheck", spec := "thirdCheck", unfollowed := true, recurses := true, named := ["math/bits.deBruijn32tab"], apart := false, laid := [("math/bits.deBruijn32tab", laid_math_bits_deBruijn32tab)], narrowed := true }
def ThirdCheckUptoSaid : Prop := thirdCheckUptoRow.holds Tryz.pinned (OpenSpec.upto thirdCheckSpec)

/-- 'drosslaw23.ThirdAccepted', WHERE WHAT IT READS IS OF BULK AT MOST 1048576: true; the input reads as it did. -/
def thirdAcceptedUptoRow : OpenClaim := { program := "ytidophngianjiaagreatdoor", sum := "d55f3c7f2228b411199dd19b4fd00b88a8b0ee63f30c8a2dee44df8670d25e55", func := "dross/drosslaw23.ThirdAccepted", spec := "thirdAccepted", unfollowed := true, recurses := true, named := ["math/bits.deBruijn32tab"], apart := false, laid := [("math/bits.deBruijn32tab", laid_math_bits_deBruijn32tab)], narrowed := true }
def ThirdAcceptedUptoSaid : Prop := thirdAcceptedUptoRow.holds Tryz.pinned (OpenSpec.upto thirdAcceptedSpec)

end Rows
end Go.Proofs.YtidophngianjiaaGreatDoor

/-
  NARROWER THAN 'FOR EVERY INPUT', by the rows' own cells (each row's printed sentence says how): ThirdIs: laid · ThirdViolations: laid · ThirdViolated: laid · ThirdSynthesize: laid · ThirdParts: laid · BoyceViolation: laid · BoyceIs: laid · BoyceErrors: laid · ThirdLocal: laid.
  DERIVED. THE GIVEN ROWS OF THIS SEAT. 9 by the template 'for every input the law returns true; each argument reads behind the call as it read before'; 0 by the template 'total and deterministic' (their statements: YtgeliioenkmfhaaDoorTotals.lean).
  GIVEN WITH THE SEED: the statements are not yours to turn. If you find one false, say at which input.
  Laid BY PROGRAM, IN A SANDBOX (cutbox-rows.mjs): the forced cells as the released guide's own fill.sh prints them over the translation c6daab17f2f810eb… (all of the seat's roots in one cut). By AI agents, Wed Nov 11 2026. No macro, syntax, notation, axiom, sorry.
-/
import Derived.Test.YtgeliioenkmfhaaDoorChecked
import GoSem.Claim
import GoSem.ClaimJoined
import GoSem.ClaimMapViews
import Derived.JoinedTies
import Derived.KernelRfl
namespace Go.Proofs.YtgeliioenkmfhaaDoor
/- THE CELL 'sum', in the pinned program and in every row, IS THE sha256 OF THE DUMP (.gsa) THAT YtgeliioenkmfhaaDoorProg.lean LOADS. Nothing in Lean hashes anything: it is a label: what it is worth is what the hold of that sum in a sandbox is worth. -/
noncomputable def Tryd.pinned : Pinned := { name := "ytgeliioenkmfhaadoor", sum := "c6daab17f2f810eb7b7ac114be649a59b9954950936eca8511d690939d3ffa6a", checked := Tryd.checked }
namespace Rows
def none {H : Type} : Left H := { results := [], args := [] }

/- WHAT THE LISTED PACKAGE-LEVEL VARIABLES READ AS WHEN THE CALL BEGINS. Each datum BY PROGRAM (the guide's laid-datum.mjs) off the statement by which the dump's own 'gosem.cut.vars' lays the variable. In a bare row this is a premise. The card (YtgeliioenkmfhaaDoorCards.lean) ties it to the program's text. -/
def laid_math_bits_deBruijn32tab {H : Type} : DataW H := .agg [.lit (.int .u8 0), .lit (.int .u8 1), .lit (.int .u8 28), .lit (.int .u8 2), .lit (.int .u8 29), .lit (.int .u8 14), .lit (.int .u8 24), .lit (.int .u8 3), .lit (.int .u8 30), .lit (.int .u8 22), .lit (.int .u8 20), .lit (.int .u8 15), .lit (.int .u8 25), .lit (.int .u8 17), .lit (.int .u8 4), .lit (.int .u8 8), .lit (.int .u8 31), .lit (.int .u8 27), .lit (.int .u8 13), .lit (.int .u8 23), .lit (.int .u8 21), .lit (.int .u8 19), .lit (.int .u8 16), .lit (.int .u8 7), .lit (.int .u8 26), .lit (.int .u8 12), .lit (.int .u8 18), .lit (.int .u8 6), .lit (.int .u8 11), .lit (.int .u8 5), .lit (.int .u8 10), .lit (.int .u8 9)]

/-- 'drosslaw23.ThirdIs': WHATEVER THE INPUT: true; the input reads as it did. -/
def thirdIsSpec : ChangeSpec := { name := "thirdIs", fn := fun _ => fun
  | [d1, d2] => { results := [.lit (.bool true)], args := [d1, d2] }
  | _ => none }
def thirdIsRow : OpenClaim := { program := "ytgeliioenkmfhaadoor", sum := "c6daab17f2f810eb7b7ac114be649a59b9954950936eca8511d690939d3ffa6a", func := "dross/drosslaw23.ThirdIs", spec := "thirdIs", unfollowed := true, recurses := true, named := ["math/bits.deBruijn32tab"], apart := false, laid := [("math/bits.deBruijn32tab", laid_math_bits_deBruijn32tab)] }
def ThirdIsSaid : Prop := thirdIsRow.holds Tryd.pinned (OpenSpec.ofChange thirdIsSpec)

/-- ITS FALSE NEIGHBOUR: 'it returns false'. Refute it at one input. -/
def thirdIsWrong : ChangeSpec := { name := "thirdIs", fn := fun _ => fun
  | [d1, d2] => { results := [.lit (.bool false)], args := [d1, d2] }
  | _ => none }
def ThirdIsWrongFalsely : Prop := thirdIsRow.holds Tryd.pinned (OpenSpec.ofChange thirdIsWrong)

/-- 'drosslaw23.ThirdViolations': WHATEVER THE INPUT: true; the input reads as it did. -/
def thirdViolationsSpec : ChangeSpec := { name := "thirdViolations", fn := fun _ => fun
  | [d1, d2] => { results := [.lit (.bool true)], args := [d1, d2] }
  | _ => none }
def thirdViolationsRow : OpenClaim := { program := "ytgeliioenkmfhaadoor", sum := "c6daab17f2f810eb7b7ac114be649a59b9954950936eca8511d690939d3ffa6a", func := "dross/drosslaw23.ThirdViolations", spec := "thirdViolations", unfollowed := true, recurses := true, named := ["math/bits.deBruijn32tab"], apart := false, laid := [("math/bits.deBruijn32tab", laid_math_bits_deBruijn32tab)] }
def ThirdViolationsSaid : Prop := thirdViolationsRow.holds Tryd.pinned (OpenSpec.ofChange thirdViolationsSpec)

/-- ITS FALSE NEIGHBOUR: 'it returns false'. Refute it at one input. -/
def thirdViolationsWrong : ChangeSpec := { name := "thirdViolations", fn := fun _ => fun
  | [d1, d2] => { results := [.lit (.bool false)], args := [d1, d2] }
  | _ => none }
def ThirdViolationsWrongFalsely : Prop := thirdViolationsRow.holds Tryd.pinned (OpenSpec.ofChange thirdViolationsWrong)

/-- 'drosslaw23.ThirdViolated': WHATEVER THE INPUT: true; the input reads as it did. -/
def thirdViolatedSpec : ChangeSpec := { name := "thirdViolated", fn := fun _ => fun
  | [d] => { results := [.lit (.bool true)], args := [d] }
  | _ => none }
def thirdViolatedRow : OpenClaim := { program := "ytgeliioenkmfhaadoor", sum := "c6daab17f2f810eb7b7ac114be649a59b9954950936eca8511d690939d3ffa6a", func := "dross/drosslaw23.ThirdViolated", spec := "thirdViolated", unfollowed := true, recurses := true, named := ["math/bits.deBruijn32tab"], apart := false, laid := [("math/bits.deBruijn32tab", laid_math_bits_deBruijn32tab)] }
def ThirdViolatedSaid : Prop := thirdViolatedRow.holds Tryd.pinned (OpenSpec.ofChange thirdViolatedSpec)

/-- ITS FALSE NEIGHBOUR: 'it returns false'. Refute it at one input. -/
def thirdViolatedWrong : ChangeSpec := { name := "thirdViolated", fn := fun _ => fun
  | [d] => { results := [.lit (.bool false)], args := [d] }
  | _ => none }
def ThirdViolatedWrongFalsely : Prop := thirdViolatedRow.holds Tryd.pinned (OpenSpec.ofChange thirdViolatedWrong)

/-- 'drosslaw23.ThirdSynthesize': WHATEVER THE INPUT: true; the input reads as it did. -/
def thirdSynthesizeSpec : ChangeSpec := { name := "thirdSynthesize", fn := fun _ => fun
  | [d1, d2] => { results := [.lit (.bool true)], args := [d1, d2] }
  | _ => none }
def thirdSynthesizeRow : OpenClaim := { program := "ytgeliioenkmfhaadoor", sum := "c6daab17f2f810eb7b7ac114be649a59b9954950936eca8511d690939d3ffa6a", func := "dross/drosslaw23.ThirdSynthesize", spec := "thirdSynthesize", unfollowed := true, recurses := true, named := ["math/bits.deBruijn32tab"], apart := false, laid := [("math/bits.deBruijn32tab", laid_math_bits_deBruijn32tab)] }
def ThirdSynthesizeSaid : Prop := thirdSynthesizeRow.holds Tryd.pinned (OpenSpec.ofChange thirdSynthesizeSpec)

/-- ITS FALSE NEIGHBOUR: 'it returns false'. Refute it at one input. -/
def thirdSynthesizeWrong : ChangeSpec := { name := "thirdSynthesize", fn := fun _ => fun
  | [d1, d2] => { results := [.lit (.bool false)], args := [d1, d2] }
  | _ => none }
def ThirdSynthesizeWrongFalsely : Prop := thirdSynthesizeRow.holds Tryd.pinned (OpenSpec.ofChange thirdSynthesizeWrong)

/-- 'drosslaw23.ThirdParts': WHATEVER THE INPUT: true; the input reads as it did. -/
def thirdPartsSpec : ChangeSpec := { name := "thirdParts", fn := fun _ => fun
  | [d] => { results := [.lit (.bool true)], args := [d] }
  | _ => none }
def thirdPartsRow : OpenClaim := { program := "ytgeliioenkmfhaadoor", sum := "c6daab17f2f810eb7b7ac114be649a59b9954950936eca8511d690939d3ffa6a", func := "dross/drosslaw23.ThirdParts", spec := "thirdParts", unfollowed := true, recurses := true, named := ["math/bits.deBruijn32tab"], apart := false, laid := [("math/bits.deBruijn32tab", laid_math_bits_deBruijn32tab)] }
def ThirdPartsSaid : Prop := thirdPartsRow.holds Tryd.pinned (OpenSpec.ofChange thirdPartsSpec)

/-- ITS FALSE NEIGHBOUR: 'it returns false'. Refute it at one input. -/
def thirdPartsWrong : ChangeSpec := { name := "thirdParts", fn := fun _ => fun
  | [d] => { results := [.lit (.bool false)], args := [d] }
  | _ => none }
def ThirdPartsWrongFalsely : Prop := thirdPartsRow.holds Tryd.pinned (OpenSpec.ofChange thirdPartsWrong)

/-- 'drosslaw24.BoyceViolation': WHATEVER THE INPUT: true; the input reads as it did. -/
def boyceViolationSpec : ChangeSpec := { name := "boyceViolation", fn := fun _ => fun
  | [d1, d2] => { results := [.lit (.bool true)], args := [d1, d2] }
  | _ => none }
def boyceViolationRow : OpenClaim := { program := "ytgeliioenkmfhaadoor", sum := "c6daab17f2f810eb7b7ac114be649a59b9954950936eca8511d690939d3ffa6a", func := "dross/drosslaw24.BoyceViolation", spec := "boyceViolation", unfollowed := true, recurses := true, named := ["math/bits.deBruijn32tab"], apart := false, laid := [("math/bits.deBruijn32tab", laid_math_bits_deBruijn32tab)] }
def BoyceViolationSaid : Prop := boyceViolationRow.holds Tryd.pinned (OpenSpec.ofChange boyceViolationSpec)

/-- ITS FALSE NEIGHBOUR: 'it returns false'. Refute it at one input. -/
def boyceViolationWrong : ChangeSpec := { name := "boyceViolation", fn := fun _ => fun
  | [d1, d2] => { results := [.lit (.bool false)], args := [d1, d2] }
  | _ => none }
def BoyceViolationWrongFalsely : Prop := boyceViolationRow.holds Tryd.pinned (OpenSpec.ofChange boyceViolationWrong)

/-- 'drosslaw24.BoyceIs': WHATEVER THE INPUT: true; the input reads as it did. -/
def boyceIsSpec : ChangeSpec := { name := "boyceIs", fn := fun _ => fun
  | [d] => { results := [.lit (.bool true)], args := [d] }
  | _ => none }
def boyceIsRow : OpenClaim := { program := "ytgeliioenkmfhaadoor", sum := "c6daab17f2f810eb7b7ac114be649a59b9954950936eca8511d690939d3ffa6a", func := "dross/drosslaw24.BoyceIs", spec := "boyceIs", unfollowed := true, recurses := true, named := ["math/bits.deBruijn32tab"], apart := false, laid := [("math/bits.deBruijn32tab", laid_math_bits_deBruijn32tab)] }
def BoyceIsSaid : Prop := boyceIsRow.holds Tryd.pinned (OpenSpec.ofChange boyceIsSpec)

/-- ITS FALSE NEIGHBOUR: 'it returns false'. Refute it at one input. -/
def boyceIsWrong : ChangeSpec := { name := "boyceIs", fn := fun _ => fun
  | [d] => { results := [.lit (.bool false)], args := [d] }
  | _ => none }
def BoyceIsWrongFalsely : Prop := boyceIsRow.holds Tryd.pinned (OpenSpec.ofChange boyceIsWrong)

/-- 'drosslaw24.BoyceErrors': WHATEVER THE INPUT: true; the input reads as it did. -/
def boyceErrorsSpec : ChangeSpec := { name := "boyceErrors", fn := fun _ => fun
  | [d1, d2] => { results := [.lit (.bool true)], args := [d1, d2] }
  | _ => none }
def boyceErrorsRow : OpenClaim := { program := "ytgeliioenkmfhaadoor", sum := "c6daab17f2f810eb7b7ac114be649a59b9954950936eca8511d690939d3ffa6a", func := "dross/drosslaw24.BoyceErrors", spec := "boyceErrors", unfollowed := true, recurses := true, named := ["math/bits.deBruijn32tab"], apart := false, laid := [("math/bits.deBruijn32tab", laid_math_bits_deBruijn32tab)] }
def BoyceErrorsSaid : Prop := boyceErrorsRow.holds Tryd.pinned (OpenSpec.ofChange boyceErrorsSpec)

/-- ITS FALSE NEIGHBOUR: 'it returns false'. Refute it at one input. -/
def boyceErrorsWrong : ChangeSpec := { name := "boyceErrors", fn := fun _ => fun
  | [d1, d2] => { results := [.lit (.bool false)], args := [d1, d2] }
  | _ => none }
def BoyceErrorsWrongFalsely : Prop := boyceErrorsRow.holds Tryd.pinned (OpenSpec.ofChange boyceErrorsWrong)

/-- 'drosslaw23.ThirdLocal': WHATEVER THE INPUT: true; the input reads as it did. -/
def thirdLocalSpec : ChangeSpec := { name := "thirdLocal", fn := fun _ => fun
  | [d1, d2, d3] => { results := [.lit (.bool true)], args := [d1, d2, d3] }
  | _ => none }
def thirdLocalRow : OpenClaim := { program := "ytgeliioenkmfhaadoor", sum := "c6daab17f2f810eb7b7ac114be649a59b9954950936eca8511d690939d3ffa6a", func := "dross/drosslaw23.ThirdLocal", spec := "thirdLocal", unfollowed := true, recurses := true, named := ["math/bits.deBruijn32tab"], apart := false, laid := [("math/bits.deBruijn32tab", laid_math_bits_deBruijn32tab)] }
def ThirdLocalSaid : Prop := thirdLocalRow.holds Tryd.pinned (OpenSpec.ofChange thirdLocalSpec)

/-- ITS FALSE NEIGHBOUR: 'it returns false'. Refute it at one input. -/
def thirdLocalWrong : ChangeSpec := { name := "thirdLocal", fn := fun _ => fun
  | [d1, d2, d3] => { results := [.lit (.bool false)], args := [d1, d2, d3] }
  | _ => none }
def ThirdLocalWrongFalsely : Prop := thirdLocalRow.holds Tryd.pinned (OpenSpec.ofChange thirdLocalWrong)

/- THE SECOND FORM. 'bulk': how many values and letters a reading holds, each counted each time it is reached (what is shared counts as often as it is met; a slice's spare places count too). A statement '..UptoSaid' is the law's where the arguments, and the package variables that the reading takes, are together of bulk at most 1048576: NARROWER than '..Said'. Prove '..Said' where nothing that the law and all that it calls make is longer than what came in: it says more and counts as full. Else prove '..UptoSaid'. A law counts once. -/
mutual
def uptoBulk {H : Type} : DataW H → Nat
  | .lit (.string bytes) => bytes.length + 1
  | .lit _ => 1
  | .nil => 1
  | .ptr d => uptoBulk d + 1
  | .slice elems spare => uptoBulkAll elems + uptoBulkAll spare + 1
  | .agg parts => uptoBulkAll parts + 1
  | .iface _ d => uptoBulk d + 1
  | .map entries => uptoBulkEntries entries + 1
  | .held _ => 1
def uptoBulkAll {H : Type} : List (DataW H) → Nat
  | [] => 0
  | d :: r => uptoBulk d + uptoBulkAll r
def uptoBulkEntries {H : Type} : List (Lit × DataW H) → Nat
  | [] => 0
  | x :: r => uptoBulkEntry x + uptoBulkEntries r
def uptoBulkEntry {H : Type} : Lit × DataW H → Nat
  | (.string bytes, d) => bytes.length + uptoBulk d + 1
  | (_, d) => uptoBulk d + 1
 end
def uptoSmall : (H : Type) → List (DataW H) → Bool := fun _ ds => decide (uptoBulkAll ds ≤ 1048576)
def OpenSpec.upto (s : _root_.Go.ChangeSpec) : _root_.Go.OpenSpec := { _root_.Go.OpenSpec.ofChange s with cond := some uptoSmall }

/-- 'drosslaw23.ThirdIs', WHERE WHAT IT READS IS OF BULK AT MOST 1048576: true; the input reads as it did. -/
def thirdIsUptoRow : OpenClaim := { program := "ytgeliioenkmfhaadoor", sum := "c6daab17f2f810eb7b7ac114be649a59b9954950936eca8511d690939d3ffa6a", func := "dross/drosslaw23.ThirdIs", spec := "thirdIs", unfollowed := true, recurses := true, named := ["math/bits.deBruijn32tab"], apart := false, laid := [("math/bits.deBruijn32tab", laid_math_bits_deBruijn32tab)], narrowed := true }
def ThirdIsUptoSaid : Prop := thirdIsUptoRow.holds Tryd.pinned (OpenSpec.upto thirdIsSpec)

/-- 'drosslaw23.ThirdViolations', WHERE WHAT IT READS IS OF BULK AT MOST 1048576: true; the input reads as it did. -/
def thirdViolationsUptoRow : OpenClaim := { program := "ytgeliioenkmfhaadoor", sum := "c6daab17f2f810eb7b7ac114be649a59b9954950936eca8511d690939d3ffa6a", func := "dross/drosslaw23.ThirdViolations", spec := "thirdViolations", unfollowed := true, recurses := true, named := ["math/bits.deBruijn32tab"], apart := false, laid := [("math/bits.deBruijn32tab", laid_math_bits_deBruijn32tab)], narrowed := true }
def ThirdViolationsUptoSaid : Prop := thirdViolationsUptoRow.holds Tryd.pinned (OpenSpec.upto thirdViolationsSpec)

/-- 'drosslaw23.ThirdViolated', WHERE WHAT IT READS IS OF BULK AT MOST 1048576: true; the input reads as it did. -/
def thirdViolatedUptoRow : OpenClaim := { program := "ytgeliioenkmfhaadoor", sum := "c6daab17f2f810eb7b7ac114be649a59b9954950936eca8511d690939d3ffa6a", func := "dross/drosslaw23.ThirdViolated", spec := "thirdViolated", unfollowed := true, recurses := true, named := ["math/bits.deBruijn32tab"], apart := false, laid := [("math/bits.deBruijn32tab", laid_math_bits_deBruijn32tab)], narrowed := true }
def ThirdViolatedUptoSaid : Prop := thirdViolatedUptoRow.holds Tryd.pinned (OpenSpec.upto thirdViolatedSpec)

/-- 'drosslaw23.ThirdSynthesize', WHERE WHAT IT READS IS OF BULK AT MOST 1048576: true; the input reads as it did. -/
def thirdSynthesizeUptoRow : OpenClaim := { program := "ytgeliioenkmfhaadoor", sum := "c6daab17f2f810eb7b7ac114be649a59b9954950936eca8511d690939d3ffa6a", func := "dross/drosslaw23.ThirdSynthesize", spec := "thirdSynthesize", unfollowed := true, recurses := true, named := ["math/bits.deBruijn32tab"], apart := false, laid := [("math/bits.deBruijn32tab", laid_math_bits_deBruijn32tab)], narrowed := true }
def ThirdSynthesizeUptoSaid : Prop := thirdSynthesizeUptoRow.holds Tryd.pinned (OpenSpec.upto thirdSynthesizeSpec)

/-- 'drosslaw23.ThirdParts', WHERE WHAT IT READS IS OF BULK AT MOST 1048576: true; the input reads as it did. -/
def thirdPartsUptoRow : OpenClaim := { program := "ytgeliioenkmfhaadoor", sum := "c6daab17f2f810eb7b7ac114be649a59b9954950936eca8511d690939d3ffa6a", func := "dross/drosslaw23.ThirdParts", spec := "thirdParts", unfollowed := true, recurses := true, named := ["math/bits.deBruijn32tab"], apart := false, laid := [("math/bits.deBruijn32tab", laid_math_bits_deBruijn32tab)], narrowed := true }
def ThirdPartsUptoSaid : Prop := thirdPartsUptoRow.holds Tryd.pinned (OpenSpec.upto thirdPartsSpec)

/-- 'drosslaw24.BoyceViolation', WHERE WHAT IT READS IS OF BULK AT MOST 1048576: true; the input reads as it did. -/
def boyceViolationUptoRow : OpenClaim := { program := "ytgeliioenkmfhaadoor", sum := "c6daab17f2f810eb7b7ac114be649a59b9954950936eca8511d690939d3ffa6a", func := "dross/drosslaw24.BoyceViolation", spec := "boyceViolation", unfollowed := true, recurses := true, named := ["math/bits.deBruijn32tab"], apart := false, laid := [("math/bits.deBruijn32tab", laid_math_bits_deBruijn32tab)], narrowed := true }
def BoyceViolationUptoSaid : Prop := boyceViolationUptoRow.holds Tryd.pinned (OpenSpec.upto boyceViolationSpec)

/-- 'drosslaw24.BoyceIs', WHERE WHAT IT READS IS OF BULK AT MOST 1048576: true; the input reads as it did. -/
def boyceIsUptoRow : OpenClaim := { program := "ytgeliioenkmfhaadoor", sum := "c6daab17f2f810eb7b7ac114be649a59b9954950936eca8511d690939d3ffa6a", func := "dross/drosslaw24.BoyceIs", spec := "boyceIs", unfollowed := true, recurses := true, named := ["math/bits.deBruijn32tab"], apart := false, laid := [("math/bits.deBruijn32tab", laid_math_bits_deBruijn32tab)], narrowed := true }
def BoyceIsUptoSaid : Prop := boyceIsUptoRow.holds Tryd.pinned (OpenSpec.upto boyceIsSpec)

/-- 'drosslaw24.BoyceErrors', WHERE WHAT IT READS IS OF BULK AT MOST 1048576: true; the input reads as it did. -/
def boyceErrorsUptoRow : OpenClaim := { program := "ytgeliioenkmfhaadoor", sum := "c6daab17f2f810eb7b7ac114be649a59b9954950936eca8511d690939d3ffa6a", func := "dross/drosslaw24.BoyceErrors", spec := "boyceErrors", unfollowed := true, recurses := true, named := ["math/bits.deBruijn32tab"], apart := false, laid := [("math/bits.deBruijn32tab", laid_math_bits_deBruijn32tab)], narrowed := true }
def BoyceErrorsUptoSaid : Prop := boyceErrorsUptoRow.holds Tryd.pinned (OpenSpec.upto boyceErrorsSpec)

/-- 'drosslaw23.ThirdLocal', WHERE WHAT IT READS IS OF BULK AT MOST 1048576: true; the input reads as it did. -/
def thirdLocalUptoRow : OpenClaim := { program := "ytgeliioenkmfhaadoor", sum := "c6daab17f2f810eb7b7ac114be649a59b9954950936eca8511d690939d3ffa6a", func := "dross/drosslaw23.ThirdLocal", spec := "thirdLocal", unfollowed := true, recurses := true, named := ["math/bits.deBruijn32tab"], apart := false, laid := [("math/bits.deBruijn32tab", laid_math_bits_deBruijn32tab)], narrowed := true }
def ThirdLocalUptoSaid : Prop := thirdLocalUptoRow.holds Tryd.pinned (OpenSpec.upto thirdLocalSpec)

end Rows
end Go.Proofs.YtgeliioenkmfhaaDoor

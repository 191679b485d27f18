/-
  NARROWER THAN 'FOR EVERY INPUT', by the rows' own cells (each row's printed sentence says how): LosslessValid: laid · LosslessIs: laid · LosslessErrors: laid · LosslessCounterexample: laid · LosslessJoined: laid · LosslessTables: laid · LosslessBinary: laid · LosslessCheck: laid.
  DERIVED. THE GIVEN ROWS OF THIS SEAT. 8 by the template 'for every input the law returns true; each argument reads behind the call as it read before'; 0 by the template 'total and deterministic' (their statements: YteklilhbjjofbaaGreatDoorTotals.lean).
  GIVEN WITH THE SEED: the statements are not yours to turn. If you find one false, say at which input.
  Laid BY PROGRAM, IN A SANDBOX (cutbox-rows.mjs): the forced cells as the released guide's own fill.sh prints them over the translation 76802c7b6f151d07… (all of the seat's roots in one cut). By AI agents, Wed Nov 11 2026. No macro, syntax, notation, axiom, sorry.
-/
import Derived.Test.YteklilhbjjofbaaGreatDoorChecked
import GoSem.Claim
import GoSem.ClaimJoined
import GoSem.ClaimMapViews
import Derived.JoinedTies
import Derived.KernelRfl
namespace Go.Proofs.YteklilhbjjofbaaGreatDoor
/- THE CELL 'sum', in the pinned program and in every row, IS THE sha256 OF THE DUMP (.gsa) THAT YteklilhbjjofbaaGreatDoorProg.lean LOADS. Nothing in Lean hashes anything: it is a label: what it is worth is what the hold of that sum in a sandbox is worth. -/
noncomputable def Tryz.pinned : Pinned := { name := "yteklilhbjjofbaagreatdoor", sum := "76802c7b6f151d0767ae974cd3f4abc8db00974b73b2775a1aa6b2ecf486b87b", checked := Tryz.checked }
namespace Rows
def none {H : Type} : Left H := { results := [], args := [] }

/- WHAT THE LISTED PACKAGE-LEVEL VARIABLES READ AS WHEN THE CALL BEGINS. Each datum BY PROGRAM (the guide's laid-datum.mjs) off the statement by which the dump's own 'gosem.cut.vars' lays the variable. In a bare row this is a premise. The card (YteklilhbjjofbaaGreatDoorCards.lean) ties it to the program's text. -/
def laid_math_bits_deBruijn32tab {H : Type} : DataW H := .agg [.lit (.int .u8 0), .lit (.int .u8 1), .lit (.int .u8 28), .lit (.int .u8 2), .lit (.int .u8 29), .lit (.int .u8 14), .lit (.int .u8 24), .lit (.int .u8 3), .lit (.int .u8 30), .lit (.int .u8 22), .lit (.int .u8 20), .lit (.int .u8 15), .lit (.int .u8 25), .lit (.int .u8 17), .lit (.int .u8 4), .lit (.int .u8 8), .lit (.int .u8 31), .lit (.int .u8 27), .lit (.int .u8 13), .lit (.int .u8 23), .lit (.int .u8 21), .lit (.int .u8 19), .lit (.int .u8 16), .lit (.int .u8 7), .lit (.int .u8 26), .lit (.int .u8 12), .lit (.int .u8 18), .lit (.int .u8 6), .lit (.int .u8 11), .lit (.int .u8 5), .lit (.int .u8 10), .lit (.int .u8 9)]

/-- 'drosslaw21.LosslessValid': WHATEVER THE INPUT: true; the input reads as it did. -/
def losslessValidSpec : ChangeSpec := { name := "losslessValid", fn := fun _ => fun
  | [d1, d2] => { results := [.lit (.bool true)], args := [d1, d2] }
  | _ => none }
def losslessValidRow : OpenClaim := { program := "yteklilhbjjofbaagreatdoor", sum := "76802c7b6f151d0767ae974cd3f4abc8db00974b73b2775a1aa6b2ecf486b87b", func := "dross/drosslaw21.LosslessValid", spec := "losslessValid", inPlace := ["internal/bytealg.abigen_runtime_cmpstring"], unfollowed := true, recurses := true, named := ["math/bits.deBruijn32tab"], apart := false, laid := [("math/bits.deBruijn32tab", laid_math_bits_deBruijn32tab)] }
def LosslessValidSaid : Prop := losslessValidRow.holds Tryz.pinned (OpenSpec.ofChange losslessValidSpec)

/-- ITS FALSE NEIGHBOUR: 'it returns false'. Refute it at one input. -/
def losslessValidWrong : ChangeSpec := { name := "losslessValid", fn := fun _ => fun
  | [d1, d2] => { results := [.lit (.bool false)], args := [d1, d2] }
  | _ => none }
def LosslessValidWrongFalsely : Prop := losslessValidRow.holds Tryz.pinned (OpenSpec.ofChange losslessValidWrong)

/-- 'drosslaw21.LosslessIs': WHATEVER THE INPUT: true; the input reads as it did. -/
def losslessIsSpec : ChangeSpec := { name := "losslessIs", fn := fun _ => fun
  | [d1, d2] => { results := [.lit (.bool true)], args := [d1, d2] }
  | _ => none }
def losslessIsRow : OpenClaim := { program := "yteklilhbjjofbaagreatdoor", sum := "76802c7b6f151d0767ae974cd3f4abc8db00974b73b2775a1aa6b2ecf486b87b", func := "dross/drosslaw21.LosslessIs", spec := "losslessIs", inPlace := ["internal/bytealg.abigen_runtime_cmpstring"], unfollowed := true, recurses := true, named := ["math/bits.deBruijn32tab"], apart := false, laid := [("math/bits.deBruijn32tab", laid_math_bits_deBruijn32tab)] }
def LosslessIsSaid : Prop := losslessIsRow.holds Tryz.pinned (OpenSpec.ofChange losslessIsSpec)

/-- ITS FALSE NEIGHBOUR: 'it returns false'. Refute it at one input. -/
def losslessIsWrong : ChangeSpec := { name := "losslessIs", fn := fun _ => fun
  | [d1, d2] => { results := [.lit (.bool false)], args := [d1, d2] }
  | _ => none }
def LosslessIsWrongFalsely : Prop := losslessIsRow.holds Tryz.pinned (OpenSpec.ofChange losslessIsWrong)

/-- 'drosslaw21.LosslessErrors': WHATEVER THE INPUT: true; the input reads as it did. -/
def losslessErrorsSpec : ChangeSpec := { name := "losslessErrors", fn := fun _ => fun
  | [d1, d2, d3] => { results := [.lit (.bool true)], args := [d1, d2, d3] }
  | _ => none }
def losslessErrorsRow : OpenClaim := { program := "yteklilhbjjofbaagreatdoor", sum := "76802c7b6f151d0767ae974cd3f4abc8db00974b73b2775a1aa6b2ecf486b87b", func := "dross/drosslaw21.LosslessErrors", spec := "losslessErrors", inPlace := ["internal/bytealg.abigen_runtime_cmpstring"], unfollowed := true, recurses := true, named := ["math/bits.deBruijn32tab"], apart := false, laid := [("math/bits.deBruijn32tab", laid_math_bits_deBruijn32tab)] }
def LosslessErrorsSaid : Prop := losslessErrorsRow.holds Tryz.pinned (OpenSpec.ofChange losslessErrorsSpec)

/-- ITS FALSE NEIGHBOUR: 'it returns false'. Refute it at one input. -/
def losslessErrorsWrong : ChangeSpec := { name := "losslessErrors", fn := fun _ => fun
  | [d1, d2, d3] => { results := [.lit (.bool false)], args := [d1, d2, d3] }
  | _ => none }
def LosslessErrorsWrongFalsely : Prop := losslessErrorsRow.holds Tryz.pinned (OpenSpec.ofChange losslessErrorsWrong)

/-- 'drosslaw21.LosslessCounterexample': WHATEVER THE INPUT: true; the input reads as it did. -/
def losslessCounterexampleSpec : ChangeSpec := { name := "losslessCounterexample", fn := fun _ => fun
  | [d] => { results := [.lit (.bool true)], args := [d] }
  | _ => none }
def losslessCounterexampleRow : OpenClaim := { program := "yteklilhbjjofbaagreatdoor", sum := "76802c7b6f151d0767ae974cd3f4abc8db00974b73b2775a1aa6b2ecf486b87b", func := "dross/drosslaw21.LosslessCounterexample", spec := "losslessCounterexample", inPlace := ["internal/bytealg.abigen_runtime_cmpstring"], unfollowed := true, recurses := true, named := ["math/bits.deBruijn32tab"], apart := false, laid := [("math/bits.deBruijn32tab", laid_math_bits_deBruijn32tab)] }
def LosslessCounterexampleSaid : Prop := losslessCounterexampleRow.holds Tryz.pinned (OpenSpec.ofChange losslessCounterexampleSpec)

/-- ITS FALSE NEIGHBOUR: 'it returns false'. Refute it at one input. -/
def losslessCounterexampleWrong : ChangeSpec := { name := "losslessCounterexample", fn := fun _ => fun
  | [d] => { results := [.lit (.bool false)], args := [d] }
  | _ => none }
def LosslessCounterexampleWrongFalsely : Prop := losslessCounterexampleRow.holds Tryz.pinned (OpenSpec.ofChange losslessCounterexampleWrong)

/-- 'drosslaw21.LosslessJoined': WHATEVER THE INPUT: true; the input reads as it did. -/
def losslessJoinedSpec : ChangeSpec := { name := "losslessJoined", fn := fun _ => fun
  | [d1, d2] => { results := [.lit (.bool true)], args := [d1, d2] }
  | _ => none }
def losslessJoinedRow : OpenClaim := { program := "yteklilhbjjofbaagreatdoor", sum := "76802c7b6f151d0767ae974cd3f4abc8db00974b73b2775a1aa6b2ecf486b87b", func := "dross/drosslaw21.LosslessJoined", spec := "losslessJoined", inPlace := ["internal/bytealg.abigen_runtime_cmpstring"], unfollowed := true, recurses := true, named := ["math/bits.deBruijn32tab"], apart := false, laid := [("math/bits.deBruijn32tab", laid_math_bits_deBruijn32tab)] }
def LosslessJoinedSaid : Prop := losslessJoinedRow.holds Tryz.pinned (OpenSpec.ofChange losslessJoinedSpec)

/-- ITS FALSE NEIGHBOUR: 'it returns false'. Refute it at one input. -/
def losslessJoinedWrong : ChangeSpec := { name := "losslessJoined", fn := fun _ => fun
  | [d1, d2] => { results := [.lit (.bool false)], args := [d1, d2] }
  | _ => none }
def LosslessJoinedWrongFalsely : Prop := losslessJoinedRow.holds Tryz.pinned (OpenSpec.ofChange losslessJoinedWrong)

/-- 'drosslaw21.LosslessTables': WHATEVER THE INPUT: true; the input reads as it did. -/
def losslessTablesSpec : ChangeSpec := { name := "losslessTables", fn := fun _ => fun
  | [d1, d2] => { results := [.lit (.bool true)], args := [d1, d2] }
  | _ => none }
def losslessTablesRow : OpenClaim := { program := "yteklilhbjjofbaagreatdoor", sum := "76802c7b6f151d0767ae974cd3f4abc8db00974b73b2775a1aa6b2ecf486b87b", func := "dross/drosslaw21.LosslessTables", spec := "losslessTables", inPlace := ["internal/bytealg.abigen_runtime_cmpstring"], unfollowed := true, recurses := true, named := ["math/bits.deBruijn32tab"], apart := false, laid := [("math/bits.deBruijn32tab", laid_math_bits_deBruijn32tab)] }
def LosslessTablesSaid : Prop := losslessTablesRow.holds Tryz.pinned (OpenSpec.ofChange losslessTablesSpec)

/-- ITS FALSE NEIGHBOUR: 'it returns false'. Refute it at one input. -/
def losslessTablesWrong : ChangeSpec := { name := "losslessTables", fn := fun _ => fun
  | [d1, d2] => { results := [.lit (.bool false)], args := [d1, d2] }
  | _ => none }
def LosslessTablesWrongFalsely : Prop := losslessTablesRow.holds Tryz.pinned (OpenSpec.ofChange losslessTablesWrong)

/-- 'drosslaw21.LosslessBinary': WHATEVER THE INPUT: true; the input reads as it did. -/
def losslessBinarySpec : ChangeSpec := { name := "losslessBinary", fn := fun _ => fun
  | [d1, d2, d3] => { results := [.lit (.bool true)], args := [d1, d2, d3] }
  | _ => none }
def losslessBinaryRow : OpenClaim := { program := "yteklilhbjjofbaagreatdoor", sum := "76802c7b6f151d0767ae974cd3f4abc8db00974b73b2775a1aa6b2ecf486b87b", func := "dross/drosslaw21.LosslessBinary", spec := "losslessBinary", inPlace := ["internal/bytealg.abigen_runtime_cmpstring"], unfollowed := true, recurses := true, named := ["math/bits.deBruijn32tab"], apart := false, laid := [("math/bits.deBruijn32tab", laid_math_bits_deBruijn32tab)] }
def LosslessBinarySaid : Prop := losslessBinaryRow.holds Tryz.pinned (OpenSpec.ofChange losslessBinarySpec)

/-- ITS FALSE NEIGHBOUR: 'it returns false'. Refute it at one input. -/
def losslessBinaryWrong : ChangeSpec := { name := "losslessBinary", fn := fun _ => fun
  | [d1, d2, d3] => { results := [.lit (.bool false)], args := [d1, d2, d3] }
  | _ => none }
def LosslessBinaryWrongFalsely : Prop := losslessBinaryRow.holds Tryz.pinned (OpenSpec.ofChange losslessBinaryWrong)

/-- 'drosslaw21.LosslessCheck': WHATEVER THE INPUT: true; the input reads as it did. -/
def losslessCheckSpec : ChangeSpec := { name := "losslessCheck", fn := fun _ => fun
  | [d1, d2, d3] => { results := [.lit (.bool true)], args := [d1, d2, d3] }
  | _ => none }
def losslessCheckRow : OpenClaim := { program := "yteklilhbjjofbaagreatdoor", sum := "76802c7b6f151d0767ae974cd3f4abc8db00974b73b2775a1aa6b2ecf486b87b", func := "dross/drosslaw21.LosslessCheck", spec := "losslessCheck", inPlace := ["internal/bytealg.abigen_runtime_cmpstring", "slices.overlaps[dross/api.ChaseStep]"], unfollowed := true, recurses := true, named := ["math/bits.deBruijn32tab"], apart := false, laid := [("math/bits.deBruijn32tab", laid_math_bits_deBruijn32tab)] }
def LosslessCheckSaid : Prop := losslessCheckRow.holds Tryz.pinned (OpenSpec.ofChange losslessCheckSpec)

/-- ITS FALSE NEIGHBOUR: 'it returns false'. Refute it at one input. -/
def losslessCheckWrong : ChangeSpec := { name := "losslessCheck", fn := fun _ => fun
  | [d1, d2, d3] => { results := [.lit (.bool false)], args := [d1, d2, d3] }
  | _ => none }
def LosslessCheckWrongFalsely : Prop := losslessCheckRow.holds Tryz.pinned (OpenSpec.ofChange losslessCheckWrong)

/- THE SECOND FORM. 'bulk': how many values and letters a reading holds, each counted each time it is reached (what is shared counts as often as it is met; a slice's spare places count too). A statement '..UptoSaid' is the law's where the arguments, and the package variables that the reading takes, are together of bulk at most 1048576: NARROWER than '..Said'. Prove '..Said' where nothing that the law and all that it calls make is longer than what came in: it says more and counts as full. Else prove '..UptoSaid'. A law counts once. -/
mutual
def uptoBulk {H : Type} : DataW H → Nat
  | .lit (.string bytes) => bytes.length + 1
  | .lit _ => 1
  | .nil => 1
  | .ptr d => uptoBulk d + 1
  | .slice elems spare => uptoBulkAll elems + uptoBulkAll spare + 1
  | .agg parts => uptoBulkAll parts + 1
  | .iface _ d => uptoBulk d + 1
  | .map entries => uptoBulkEntries entries + 1
  | .held _ => 1
def uptoBulkAll {H : Type} : List (DataW H) → Nat
  | [] => 0
  | d :: r => uptoBulk d + uptoBulkAll r
def uptoBulkEntries {H : Type} : List (Lit × DataW H) → Nat
  | [] => 0
  | x :: r => uptoBulkEntry x + uptoBulkEntries r
def uptoBulkEntry {H : Type} : Lit × DataW H → Nat
  | (.string bytes, d) => bytes.length + uptoBulk d + 1
  | (_, d) => uptoBulk d + 1
 end
def uptoSmall : (H : Type) → List (DataW H) → Bool := fun _ ds => decide (uptoBulkAll ds ≤ 1048576)
def OpenSpec.upto (s : _root_.Go.ChangeSpec) : _root_.Go.OpenSpec := { _root_.Go.OpenSpec.ofChange s with cond := some uptoSmall }

/-- 'drosslaw21.LosslessValid', WHERE WHAT IT READS IS OF BULK AT MOST 1048576: true; the input reads as it did. -/
def losslessValidUptoRow : OpenClaim := { program := "yteklilhbjjofbaagreatdoor", sum := "76802c7b6f151d0767ae974cd3f4abc8db00974b73b2775a1aa6b2ecf486b87b", func := "dross/drosslaw21.LosslessValid", spec := "losslessValid", inPlace := ["internal/bytealg.abigen_runtime_cmpstring"], unfollowed := true, recurses := true, named := ["math/bits.deBruijn32tab"], apart := false, laid := [("math/bits.deBruijn32tab", laid_math_bits_deBruijn32tab)], narrowed := true }
def LosslessValidUptoSaid : Prop := losslessValidUptoRow.holds Tryz.pinned (OpenSpec.upto losslessValidSpec)

/-- 'drosslaw21.LosslessIs', WHERE WHAT IT READS IS OF BULK AT MOST 1048576: true; the input reads as it did. -/
def losslessIsUptoRow : OpenClaim := { program := "yteklilhbjjofbaagreatdoor", sum := "76802c7b6f151d0767ae974cd3f4abc8db00974b73b2775a1aa6b2ecf486b87b", func := "dross/drosslaw21.LosslessIs", spec := "losslessIs", inPlace := ["internal/bytealg.abigen_runtime_cmpstring"], unfollowed := true, recurses := true, named := ["math/bits.deBruijn32tab"], apart := false, laid := [("math/bits.deBruijn32tab", laid_math_bits_deBruijn32tab)], narrowed := true }
def LosslessIsUptoSaid : Prop := losslessIsUptoRow.holds Tryz.pinned (OpenSpec.upto losslessIsSpec)

/-- 'drosslaw21.LosslessErrors', WHERE WHAT IT READS IS OF BULK AT MOST 1048576: true; the input reads as it did. -/
def losslessErrorsUptoRow : OpenClaim := { program := "yteklilhbjjofbaagreatdoor", sum := "76802c7b6f151d0767ae974cd3f4abc8db00974b73b2775a1aa6b2ecf486b87b", func := "dross/drosslaw21.LosslessErrors", spec := "losslessErrors", inPlace := ["internal/bytealg.abigen_runtime_cmpstring"], unfollowed := true, recurses := true, named := ["math/bits.deBruijn32tab"], apart := false, laid := [("math/bits.deBruijn32tab", laid_math_bits_deBruijn32tab)], narrowed := true }
def LosslessErrorsUptoSaid : Prop := losslessErrorsUptoRow.holds Tryz.pinned (OpenSpec.upto losslessErrorsSpec)

/-- 'drosslaw21.LosslessCounterexample', WHERE WHAT IT READS IS OF BULK AT MOST 1048576: true; the input reads as it did. -/
def losslessCounterexampleUptoRow : OpenClaim := { program := "yteklilhbjjofbaagreatdoor", sum := "76802c7b6f151d0767ae974cd3f4abc8db00974b73b2775a1aa6b2ecf486b87b", func := "dross/drosslaw21.LosslessCounterexample", spec := "losslessCounterexample", inPlace := ["internal/bytealg.abigen_runtime_cmpstring"], unfollowed := true, recurses := true, named := ["math/bits.deBruijn32tab"], apart := false, laid := [("math/bits.deBruijn32tab", laid_math_bits_deBruijn32tab)], narrowed := true }
def LosslessCounterexampleUptoSaid : Prop := losslessCounterexampleUptoRow.holds Tryz.pinned (OpenSpec.upto losslessCounterexampleSpec)

/-- 'drosslaw21.LosslessJoined', WHERE WHAT IT READS IS OF BULK AT MOST 1048576: true; the input reads as it did. -/
def losslessJoinedUptoRow : OpenClaim := { program := "yteklilhbjjofbaagreatdoor", sum := "76802c7b6f151d0767ae974cd3f4abc8db00974b73b2775a1aa6b2ecf486b87b", func := "dross/drosslaw21.LosslessJoined", spec := "losslessJoined", inPlace := ["internal/bytealg.abigen_runtime_cmpstring"], unfollowed := true, recurses := true, named := ["math/bits.deBruijn32tab"], apart := false, laid := [("math/bits.deBruijn32tab", laid_math_bits_deBruijn32tab)], narrowed := true }
def LosslessJoinedUptoSaid : Prop := losslessJoinedUptoRow.holds Tryz.pinned (OpenSpec.upto losslessJoinedSpec)

/-- 'drosslaw21.LosslessTables', WHERE WHAT IT READS IS OF BULK AT MOST 1048576: true; the input reads as it did. -/
def losslessTablesUptoRow : OpenClaim := { program := "yteklilhbjjofbaagreatdoor", sum := "76802c7b6f151d0767ae974cd3f4abc8db00974b73b2775a1aa6b2ecf486b87b", func := "dross/drosslaw21.LosslessTables", spec := "losslessTables", inPlace := ["internal/bytealg.abigen_runtime_cmpstring"], unfollowed := true, recurses := true, named := ["math/bits.deBruijn32tab"], apart := false, laid := [("math/bits.deBruijn32tab", laid_math_bits_deBruijn32tab)], narrowed := true }
def LosslessTablesUptoSaid : Prop := losslessTablesUptoRow.holds Tryz.pinned (OpenSpec.upto losslessTablesSpec)

/-- 'drosslaw21.LosslessBinary', WHERE WHAT IT READS IS OF BULK AT MOST 1048576: true; the input reads as it did. -/
def losslessBinaryUptoRow : OpenClaim := { program := "yteklilhbjjofbaagreatdoor", sum := "76802c7b6f151d0767ae974cd3f4abc8db00974b73b2775a1aa6b2ecf486b87b", func := "dross/drosslaw21.LosslessBinary", spec := "losslessBinary", inPlace := ["internal/bytealg.abigen_runtime_cmpstring"], unfollowed := true, recurses := true, named := ["math/bits.deBruijn32tab"], apart := false, laid := [("math/bits.deBruijn32tab", laid_math_bits_deBruijn32tab)], narrowed := true }
def LosslessBinaryUptoSaid : Prop := losslessBinaryUptoRow.holds Tryz.pinned (OpenSpec.upto losslessBinarySpec)

/-- 'drosslaw21.LosslessCheck', WHERE WHAT IT READS IS OF BULK AT MOST 1048576: true; the input reads as it did. -/
def losslessCheckUptoRow : OpenClaim := { program := "yteklilhbjjofbaagreatdoor", sum := "76802c7b6f151d0767ae974cd3f4abc8db00974b73b2775a1aa6b2ecf486b87b", func := "dross/drosslaw21.LosslessCheck", spec := "losslessCheck", inPlace := ["internal/bytealg.abigen_runtime_cmpstring", "slices.overlaps[dross/api.ChaseStep]"], unfollowed := true, recurses := true, named := ["math/bits.deBruijn32tab"], apart := false, laid := [("math/bits.deBruijn32tab", laid_math_bits_deBruijn32tab)], narrowed := true }
def LosslessCheckUptoSaid : Prop := losslessCheckUptoRow.holds Tryz.pinned (OpenSpec.upto losslessCheckSpec)

end Rows
end Go.Proofs.YteklilhbjjofbaaGreatDoor

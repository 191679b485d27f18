/-
  NARROWER THAN 'FOR EVERY INPUT', by the rows' own cells (each row's printed sentence says how): DesignPropose: laid · DesignBest: laid · DesignErrors: laid · DesignClaims: laid · DesignReport: laid · DesignCheck: laid · DesignAccepted: laid.
  DERIVED. THE GIVEN ROWS OF THIS SEAT. 7 by the template 'for every input the law returns true; each argument reads behind the call as it read before'; 0 by the template 'total and deterministic' (their statements: YtkkenjdfbojdlaaGreatDoorTotals.lean).
  GIVEN WITH THE SEED: the statements are not yours to turn. If you find one false, say at which input.
  Laid BY PROGRAM, IN A SANDBOX (cutbox-rows.mjs): the forced cells as the released guide's own fill.sh prints them over the translation b683f8f59623bef4… (all of the seat's roots in one cut). By AI agents, Wed Nov 11 2026. No macro, syntax, notation, axiom, sorry.
-/
import Derived.Test.YtkkenjdfbojdlaaGreatDoorChecked
import GoSem.Claim
import GoSem.ClaimJoined
import GoSem.ClaimMapViews
import Derived.JoinedTies
import Derived.KernelRfl
namespace Go.Proofs.YtkkenjdfbojdlaaGreatDoor
/- THE CELL 'sum', in the pinned program and in every row, IS THE sha256 OF THE DUMP (.gsa) THAT YtkkenjdfbojdlaaGreatDoorProg.lean LOADS. Nothing in Lean hashes anything: it is a label: what it is worth is what the hold of that sum in a sandbox is worth. -/
noncomputable def Tryz.pinned : Pinned := { name := "ytkkenjdfbojdlaagreatdoor", sum := "b683f8f59623bef4dbb7c2c2b6e4ce91d0575a892cf57295e8d00925af78ac55", checked := Tryz.checked }
namespace Rows
def none {H : Type} : Left H := { results := [], args := [] }

/- WHAT THE LISTED PACKAGE-LEVEL VARIABLES READ AS WHEN THE CALL BEGINS. Each datum BY PROGRAM (the guide's laid-datum.mjs) off the statement by which the dump's own 'gosem.cut.vars' lays the variable. In a bare row this is a premise. The card (YtkkenjdfbojdlaaGreatDoorCards.lean) ties it to the program's text. -/
def laid_math_bits_deBruijn32tab {H : Type} : DataW H := .agg [.lit (.int .u8 0), .lit (.int .u8 1), .lit (.int .u8 28), .lit (.int .u8 2), .lit (.int .u8 29), .lit (.int .u8 14), .lit (.int .u8 24), .lit (.int .u8 3), .lit (.int .u8 30), .lit (.int .u8 22), .lit (.int .u8 20), .lit (.int .u8 15), .lit (.int .u8 25), .lit (.int .u8 17), .lit (.int .u8 4), .lit (.int .u8 8), .lit (.int .u8 31), .lit (.int .u8 27), .lit (.int .u8 13), .lit (.int .u8 23), .lit (.int .u8 21), .lit (.int .u8 19), .lit (.int .u8 16), .lit (.int .u8 7), .lit (.int .u8 26), .lit (.int .u8 12), .lit (.int .u8 18), .lit (.int .u8 6), .lit (.int .u8 11), .lit (.int .u8 5), .lit (.int .u8 10), .lit (.int .u8 9)]

/-- 'drosslaw26.DesignPropose': WHATEVER THE INPUT: true; the input reads as it did. -/
def designProposeSpec : ChangeSpec := { name := "designPropose", fn := fun _ => fun
  | [d1, d2] => { results := [.lit (.bool true)], args := [d1, d2] }
  | _ => none }
def designProposeRow : OpenClaim := { program := "ytkkenjdfbojdlaagreatdoor", sum := "b683f8f59623bef4dbb7c2c2b6e4ce91d0575a892cf57295e8d00925af78ac55", func := "dross/drosslaw26.DesignPropose", spec := "designPropose", inPlace := ["internal/abi.NoEscape", "internal/bytealg.MakeNoZero"], unfollowed := true, recurses := true, named := ["math/bits.deBruijn32tab"], apart := false, laid := [("math/bits.deBruijn32tab", laid_math_bits_deBruijn32tab)] }
def DesignProposeSaid : Prop := designProposeRow.holds Tryz.pinned (OpenSpec.ofChange designProposeSpec)

/-- ITS FALSE NEIGHBOUR: 'it returns false'. Refute it at one input. -/
def designProposeWrong : ChangeSpec := { name := "designPropose", fn := fun _ => fun
  | [d1, d2] => { results := [.lit (.bool false)], args := [d1, d2] }
  | _ => none }
def DesignProposeWrongFalsely : Prop := designProposeRow.holds Tryz.pinned (OpenSpec.ofChange designProposeWrong)

/-- 'drosslaw26.DesignBest': WHATEVER THE INPUT: true; the input reads as it did. -/
def designBestSpec : ChangeSpec := { name := "designBest", fn := fun _ => fun
  | [d] => { results := [.lit (.bool true)], args := [d] }
  | _ => none }
def designBestRow : OpenClaim := { program := "ytkkenjdfbojdlaagreatdoor", sum := "b683f8f59623bef4dbb7c2c2b6e4ce91d0575a892cf57295e8d00925af78ac55", func := "dross/drosslaw26.DesignBest", spec := "designBest", inPlace := ["internal/abi.NoEscape", "internal/bytealg.MakeNoZero"], unfollowed := true, recurses := true, named := ["math/bits.deBruijn32tab"], apart := false, laid := [("math/bits.deBruijn32tab", laid_math_bits_deBruijn32tab)] }
def DesignBestSaid : Prop := designBestRow.holds Tryz.pinned (OpenSpec.ofChange designBestSpec)

/-- ITS FALSE NEIGHBOUR: 'it returns false'. Refute it at one input. -/
def designBestWrong : ChangeSpec := { name := "designBest", fn := fun _ => fun
  | [d] => { results := [.lit (.bool false)], args := [d] }
  | _ => none }
def DesignBestWrongFalsely : Prop := designBestRow.holds Tryz.pinned (OpenSpec.ofChange designBestWrong)

/-- 'drosslaw26.DesignErrors': WHATEVER THE INPUT: true; the input reads as it did. -/
def designErrorsSpec : ChangeSpec := { name := "designErrors", fn := fun _ => fun
  | [d1, d2, d3] => { results := [.lit (.bool true)], args := [d1, d2, d3] }
  | _ => none }
def designErrorsRow : OpenClaim := { program := "ytkkenjdfbojdlaagreatdoor", sum := "b683f8f59623bef4dbb7c2c2b6e4ce91d0575a892cf57295e8d00925af78ac55", func := "dross/drosslaw26.DesignErrors", spec := "designErrors", inPlace := ["internal/abi.NoEscape", "internal/bytealg.MakeNoZero"], unfollowed := true, recurses := true, named := ["math/bits.deBruijn32tab"], apart := false, laid := [("math/bits.deBruijn32tab", laid_math_bits_deBruijn32tab)] }
def DesignErrorsSaid : Prop := designErrorsRow.holds Tryz.pinned (OpenSpec.ofChange designErrorsSpec)

/-- ITS FALSE NEIGHBOUR: 'it returns false'. Refute it at one input. -/
def designErrorsWrong : ChangeSpec := { name := "designErrors", fn := fun _ => fun
  | [d1, d2, d3] => { results := [.lit (.bool false)], args := [d1, d2, d3] }
  | _ => none }
def DesignErrorsWrongFalsely : Prop := designErrorsRow.holds Tryz.pinned (OpenSpec.ofChange designErrorsWrong)

/-- 'drosslaw26.DesignClaims': WHATEVER THE INPUT: true; the input reads as it did. -/
def designClaimsSpec : ChangeSpec := { name := "designClaims", fn := fun _ => fun
  | [d] => { results := [.lit (.bool true)], args := [d] }
  | _ => none }
def designClaimsRow : OpenClaim := { program := "ytkkenjdfbojdlaagreatdoor", sum := "b683f8f59623bef4dbb7c2c2b6e4ce91d0575a892cf57295e8d00925af78ac55", func := "dross/drosslaw26.DesignClaims", spec := "designClaims", inPlace := ["internal/abi.NoEscape", "internal/bytealg.MakeNoZero"], unfollowed := true, recurses := true, named := ["math/bits.deBruijn32tab"], apart := false, laid := [("math/bits.deBruijn32tab", laid_math_bits_deBruijn32tab)] }
def DesignClaimsSaid : Prop := designClaimsRow.holds Tryz.pinned (OpenSpec.ofChange designClaimsSpec)

/-- ITS FALSE NEIGHBOUR: 'it returns false'. Refute it at one input. -/
def designClaimsWrong : ChangeSpec := { name := "designClaims", fn := fun _ => fun
  | [d] => { results := [.lit (.bool false)], args := [d] }
  | _ => none }
def DesignClaimsWrongFalsely : Prop := designClaimsRow.holds Tryz.pinned (OpenSpec.ofChange designClaimsWrong)

/-- 'drosslaw26.DesignReport': WHATEVER THE INPUT: true; the input reads as it did. -/
def designReportSpec : ChangeSpec := { name := "designReport", fn := fun _ => fun
  | [d1, d2, d3] => { results := [.lit (.bool true)], args := [d1, d2, d3] }
  | _ => none }
def designReportRow : OpenClaim := { program := "ytkkenjdfbojdlaagreatdoor", sum := "b683f8f59623bef4dbb7c2c2b6e4ce91d0575a892cf57295e8d00925af78ac55", func := "dross/drosslaw26.DesignReport", spec := "designReport", inPlace := ["internal/abi.NoEscape", "internal/bytealg.MakeNoZero"], unfollowed := true, recurses := true, named := ["math/bits.deBruijn32tab"], apart := false, laid := [("math/bits.deBruijn32tab", laid_math_bits_deBruijn32tab)] }
def DesignReportSaid : Prop := designReportRow.holds Tryz.pinned (OpenSpec.ofChange designReportSpec)

/-- ITS FALSE NEIGHBOUR: 'it returns false'. Refute it at one input. -/
def designReportWrong : ChangeSpec := { name := "designReport", fn := fun _ => fun
  | [d1, d2, d3] => { results := [.lit (.bool false)], args := [d1, d2, d3] }
  | _ => none }
def DesignReportWrongFalsely : Prop := designReportRow.holds Tryz.pinned (OpenSpec.ofChange designReportWrong)

/-- 'drosslaw26.DesignCheck': WHATEVER THE INPUT: true; the input reads as it did. -/
def designCheckSpec : ChangeSpec := { name := "designCheck", fn := fun _ => fun
  | [d1, d2, d3] => { results := [.lit (.bool true)], args := [d1, d2, d3] }
  | _ => none }
def designCheckRow : OpenClaim := { program := "ytkkenjdfbojdlaagreatdoor", sum := "b683f8f59623bef4dbb7c2c2b6e4ce91d0575a892cf57295e8d00925af78ac55", func := "dross/drosslaw26.DesignCheck", spec := "designCheck", inPlace := ["internal/abi.NoEscape", "internal/bytealg.MakeNoZero"], unfollowed := true, recurses := true, named := ["math/bits.deBruijn32tab"], apart := false, laid := [("math/bits.deBruijn32tab", laid_math_bits_deBruijn32tab)] }
def DesignCheckSaid : Prop := designCheckRow.holds Tryz.pinned (OpenSpec.ofChange designCheckSpec)

/-- ITS FALSE NEIGHBOUR: 'it returns false'. Refute it at one input. -/
def designCheckWrong : ChangeSpec := { name := "designCheck", fn := fun _ => fun
  | [d1, d2, d3] => { results := [.lit (.bool false)], args := [d1, d2, d3] }
  | _ => none }
def DesignCheckWrongFalsely : Prop := designCheckRow.holds Tryz.pinned (OpenSpec.ofChange designCheckWrong)

/-- 'drosslaw26.DesignAccepted': WHATEVER THE INPUT: true; the input reads as it did. -/
def designAcceptedSpec : ChangeSpec := { name := "designAccepted", fn := fun _ => fun
  | [d] => { results := [.lit (.bool true)], args := [d] }
  | _ => none }
def designAcceptedRow : OpenClaim := { program := "ytkkenjdfbojdlaagreatdoor", sum := "b683f8f59623bef4dbb7c2c2b6e4ce91d0575a892cf57295e8d00925af78ac55", func := "dross/drosslaw26.DesignAccepted", spec := "designAccepted", inPlace := ["internal/abi.NoEscape", "internal/bytealg.MakeNoZero"], unfollowed := true, recurses := true, named := ["math/bits.deBruijn32tab"], apart := false, laid := [("math/bits.deBruijn32tab", laid_math_bits_deBruijn32tab)] }
def DesignAcceptedSaid : Prop := designAcceptedRow.holds Tryz.pinned (OpenSpec.ofChange designAcceptedSpec)

/-- ITS FALSE NEIGHBOUR: 'it returns false'. Refute it at one input. -/
def designAcceptedWrong : ChangeSpec := { name := "designAccepted", fn := fun _ => fun
  | [d] => { results := [.lit (.bool false)], args := [d] }
  | _ => none }
def DesignAcceptedWrongFalsely : Prop := designAcceptedRow.holds Tryz.pinned (OpenSpec.ofChange designAcceptedWrong)

/- THE SECOND FORM. 'bulk': how many values and letters a reading holds, each counted each time it is reached (what is shared counts as often as it is met; a slice's spare places count too). A statement '..UptoSaid' is the law's where the arguments, and the package variables that the reading takes, are together of bulk at most 1048576: NARROWER than '..Said'. Prove '..Said' where nothing that the law and all that it calls make is longer than what came in: it says more and counts as full. Else prove '..UptoSaid'. A law counts once. -/
mutual
def uptoBulk {H : Type} : DataW H → Nat
  | .lit (.string bytes) => bytes.length + 1
  | .lit _ => 1
  | .nil => 1
  | .ptr d => uptoBulk d + 1
  | .slice elems spare => uptoBulkAll elems + uptoBulkAll spare + 1
  | .agg parts => uptoBulkAll parts + 1
  | .iface _ d => uptoBulk d + 1
  | .map entries => uptoBulkEntries entries + 1
  | .held _ => 1
def uptoBulkAll {H : Type} : List (DataW H) → Nat
  | [] => 0
  | d :: r => uptoBulk d + uptoBulkAll r
def uptoBulkEntries {H : Type} : List (Lit × DataW H) → Nat
  | [] => 0
  | x :: r => uptoBulkEntry x + uptoBulkEntries r
def uptoBulkEntry {H : Type} : Lit × DataW H → Nat
  | (.string bytes, d) => bytes.length + uptoBulk d + 1
  | (_, d) => uptoBulk d + 1
 end
def uptoSmall : (H : Type) → List (DataW H) → Bool := fun _ ds => decide (uptoBulkAll ds ≤ 1048576)
def OpenSpec.upto (s : _root_.Go.ChangeSpec) : _root_.Go.OpenSpec := { _root_.Go.OpenSpec.ofChange s with cond := some uptoSmall }

/-- 'drosslaw26.DesignPropose', WHERE WHAT IT READS IS OF BULK AT MOST 1048576: true; the input reads as it did. -/
def designProposeUptoRow : OpenClaim := { program := "ytkkenjdfbojdlaagreatdoor", sum := "b683f8f59623bef4dbb7c2c2b6e4ce91d0575a892cf57295e8d00925af78ac55", func := "dross/drosslaw26.DesignPropose", spec := "designPropose", inPlace := ["internal/abi.NoEscape", "internal/bytealg.MakeNoZero"], unfollowed := true, recurses := true, named := ["math/bits.deBruijn32tab"], apart := false, laid := [("math/bits.deBruijn32tab", laid_math_bits_deBruijn32tab)], narrowed := true }
def DesignProposeUptoSaid : Prop := designProposeUptoRow.holds Tryz.pinned (OpenSpec.upto designProposeSpec)

/-- 'drosslaw26.DesignBest', WHERE WHAT IT READS IS OF BULK AT MOST 1048576: true; the input reads as it did. -/
def designBestUptoRow : OpenClaim := { program := "ytkkenjdfbojdlaagreatdoor", sum := "b683f8f59623bef4dbb7c2c2b6e4ce91d0575a892cf57295e8d00925af78ac55", func := "dross/drosslaw26.DesignBest", spec := "designBest", inPlace := ["internal/abi.NoEscape", "internal/bytealg.MakeNoZero"], unfollowed := true, recurses := true, named := ["math/bits.deBruijn32tab"], apart := false, laid := [("math/bits.deBruijn32tab", laid_math_bits_deBruijn32tab)], narrowed := true }
def DesignBestUptoSaid : Prop := designBestUptoRow.holds Tryz.pinned (OpenSpec.upto designBestSpec)

/-- 'drosslaw26.DesignErrors', WHERE WHAT IT READS IS OF BULK AT MOST 1048576: true; the input reads as it did. -/
def designErrorsUptoRow : OpenClaim := { program := "ytkkenjdfbojdlaagreatdoor", sum := "b683f8f59623bef4dbb7c2c2b6e4ce91d0575a892cf57295e8d00925af78ac55", func := "dross/drosslaw26.DesignErrors", spec := "designErrors", inPlace := ["internal/abi.NoEscape", "internal/bytealg.MakeNoZero"], unfollowed := true, recurses := true, named := ["math/bits.deBruijn32tab"], apart := false, laid := [("math/bits.deBruijn32tab", laid_math_bits_deBruijn32tab)], narrowed := true }
def DesignErrorsUptoSaid : Prop := designErrorsUptoRow.holds Tryz.pinned (OpenSpec.upto designErrorsSpec)

/-- 'drosslaw26.DesignClaims', WHERE WHAT IT READS IS OF BULK AT MOST 1048576: true; the input reads as it did. -/
def designClaimsUptoRow : OpenClaim := { program := "ytkkenjdfbojdlaagreatdoor", sum := "b683f8f59623bef4dbb7c2c2b6e4ce91d0575a892cf57295e8d00925af78ac55", func := "dross/drosslaw26.DesignClaims", spec := "designClaims", inPlace := ["internal/abi.NoEscape", "internal/bytealg.MakeNoZero"], unfollowed := true, recurses := true, named := ["math/bits.deBruijn32tab"], apart := false, laid := [("math/bits.deBruijn32tab", laid_math_bits_deBruijn32tab)], narrowed := true }
def DesignClaimsUptoSaid : Prop := designClaimsUptoRow.holds Tryz.pinned (OpenSpec.upto designClaimsSpec)

/-- 'drosslaw26.DesignReport', WHERE WHAT IT READS IS OF BULK AT MOST 1048576: true; the input reads as it did. -/
def designReportUptoRow : OpenClaim := { program := "ytkkenjdfbojdlaagreatdoor", sum := "b683f8f59623bef4dbb7c2c2b6e4ce91d0575a892cf57295e8d00925af78ac55", func := "dross/drosslaw26.DesignReport", spec := "designReport", inPlace := ["internal/abi.NoEscape", "internal/bytealg.MakeNoZero"], unfollowed := true, recurses := true, named := ["math/bits.deBruijn32tab"], apart := false, laid := [("math/bits.deBruijn32tab", laid_math_bits_deBruijn32tab)], narrowed := true }
def DesignReportUptoSaid : Prop := designReportUptoRow.holds Tryz.pinned (OpenSpec.upto designReportSpec)

/-- 'drosslaw26.DesignCheck', WHERE WHAT IT READS IS OF BULK AT MOST 1048576: true; the input reads as it did. -/
def designCheckUptoRow : OpenClaim := { program := "ytkkenjdfbojdlaagreatdoor", sum := "b683f8f59623bef4dbb7c2c2b6e4ce91d0575a892cf57295e8d00925af78ac55", func := "dross/drosslaw26.DesignCheck", spec := "designCheck", inPlace := ["internal/abi.NoEscape", "internal/bytealg.MakeNoZero"], unfollowed := true, recurses := true, named := ["math/bits.deBruijn32tab"], apart := false, laid := [("math/bits.deBruijn32tab", laid_math_bits_deBruijn32tab)], narrowed := true }
def DesignCheckUptoSaid : Prop := designCheckUptoRow.holds Tryz.pinned (OpenSpec.upto designCheckSpec)

/-- 'drosslaw26.DesignAccepted', WHERE WHAT IT READS IS OF BULK AT MOST 1048576: true; the input reads as it did. -/
def designAcceptedUptoRow : OpenClaim := { program := "ytkkenjdfbojdlaagreatdoor", sum := "b683f8f59623bef4dbb7c2c2b6e4ce91d0575a892cf57295e8d00925af78ac55", func := "dross/drosslaw26.DesignAccepted", spec := "designAccepted", inPlace := ["internal/abi.NoEscape", "internal/bytealg.MakeNoZero"], unfollowed := true, recurses := true, named := ["math/bits.deBruijn32tab"], apart := false, laid := [("math/bits.deBruijn32tab", laid_math_bits_deBruijn32tab)], narrowed := true }
def DesignAcceptedUptoSaid : Prop := designAcceptedUptoRow.holds Tryz.pinned (OpenSpec.upto designAcceptedSpec)

end Rows
end Go.Proofs.YtkkenjdfbojdlaaGreatDoor

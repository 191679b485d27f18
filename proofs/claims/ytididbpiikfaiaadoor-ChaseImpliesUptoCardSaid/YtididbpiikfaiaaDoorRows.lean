/-
  NARROWER THAN 'FOR EVERY INPUT', by the rows' own cells (each row's printed sentence says how): ChaseValid: laid · ChaseStart: laid · ChaseSteps: laid · ChaseImplies: laid · ChaseSatisfies: laid · ChaseApply: laid · ChaseOrder: laid · ChaseEnd: laid.
  DERIVED. THE GIVEN ROWS OF THIS SEAT. 8 by the template 'for every input the law returns true; each argument reads behind the call as it read before'; 0 by the template 'total and deterministic' (their statements: YtididbpiikfaiaaDoorTotals.lean).
  GIVEN WITH THE SEED: the statements are not yours to turn. If you find one false, say at which input.
  Laid BY PROGRAM, IN A SANDBOX (cutbox-rows.mjs): the forced cells as the released guide's own fill.sh prints them over the translation 5486131a5174b3e1… (all of the seat's roots in one cut). By AI agents, Wed Nov 11 2026. No macro, syntax, notation, axiom, sorry.
-/
import Derived.Test.YtididbpiikfaiaaDoorChecked
import GoSem.Claim
import GoSem.ClaimJoined
import GoSem.ClaimMapViews
import Derived.JoinedTies
import Derived.KernelRfl
namespace Go.Proofs.YtididbpiikfaiaaDoor
/- THE CELL 'sum', in the pinned program and in every row, IS THE sha256 OF THE DUMP (.gsa) THAT YtididbpiikfaiaaDoorProg.lean LOADS. Nothing in Lean hashes anything: it is a label: what it is worth is what the hold of that sum in a sandbox is worth. -/
noncomputable def Tryd.pinned : Pinned := { name := "ytididbpiikfaiaadoor", sum := "5486131a5174b3e181fff2e640a68c6371ccb1f566ffa9fe17ba7a24cbfcce78", checked := Tryd.checked }
namespace Rows
def none {H : Type} : Left H := { results := [], args := [] }

/- WHAT THE LISTED PACKAGE-LEVEL VARIABLES READ AS WHEN THE CALL BEGINS. Each datum BY PROGRAM (the guide's laid-datum.mjs) off the statement by which the dump's own 'gosem.cut.vars' lays the variable. In a bare row this is a premise. The card (YtididbpiikfaiaaDoorCards.lean) ties it to the program's text. -/
def laid_math_bits_deBruijn32tab {H : Type} : DataW H := .agg [.lit (.int .u8 0), .lit (.int .u8 1), .lit (.int .u8 28), .lit (.int .u8 2), .lit (.int .u8 29), .lit (.int .u8 14), .lit (.int .u8 24), .lit (.int .u8 3), .lit (.int .u8 30), .lit (.int .u8 22), .lit (.int .u8 20), .lit (.int .u8 15), .lit (.int .u8 25), .lit (.int .u8 17), .lit (.int .u8 4), .lit (.int .u8 8), .lit (.int .u8 31), .lit (.int .u8 27), .lit (.int .u8 13), .lit (.int .u8 23), .lit (.int .u8 21), .lit (.int .u8 19), .lit (.int .u8 16), .lit (.int .u8 7), .lit (.int .u8 26), .lit (.int .u8 12), .lit (.int .u8 18), .lit (.int .u8 6), .lit (.int .u8 11), .lit (.int .u8 5), .lit (.int .u8 10), .lit (.int .u8 9)]

/-- 'drosslaw14.ChaseValid': WHATEVER THE INPUT: true; the input reads as it did. -/
def chaseValidSpec : ChangeSpec := { name := "chaseValid", fn := fun _ => fun
  | [d1, d2] => { results := [.lit (.bool true)], args := [d1, d2] }
  | _ => none }
def chaseValidRow : OpenClaim := { program := "ytididbpiikfaiaadoor", sum := "5486131a5174b3e181fff2e640a68c6371ccb1f566ffa9fe17ba7a24cbfcce78", func := "dross/drosslaw14.ChaseValid", spec := "chaseValid", unfollowed := true, recurses := true, named := ["math/bits.deBruijn32tab"], apart := false, laid := [("math/bits.deBruijn32tab", laid_math_bits_deBruijn32tab)] }
def ChaseValidSaid : Prop := chaseValidRow.holds Tryd.pinned (OpenSpec.ofChange chaseValidSpec)

/-- ITS FALSE NEIGHBOUR: 'it returns false'. Refute it at one input. -/
def chaseValidWrong : ChangeSpec := { name := "chaseValid", fn := fun _ => fun
  | [d1, d2] => { results := [.lit (.bool false)], args := [d1, d2] }
  | _ => none }
def ChaseValidWrongFalsely : Prop := chaseValidRow.holds Tryd.pinned (OpenSpec.ofChange chaseValidWrong)

/-- 'drosslaw14.ChaseStart': WHATEVER THE INPUT: true; the input reads as it did. -/
def chaseStartSpec : ChangeSpec := { name := "chaseStart", fn := fun _ => fun
  | [d1, d2] => { results := [.lit (.bool true)], args := [d1, d2] }
  | _ => none }
def chaseStartRow : OpenClaim := { program := "ytididbpiikfaiaadoor", sum := "5486131a5174b3e181fff2e640a68c6371ccb1f566ffa9fe17ba7a24cbfcce78", func := "dross/drosslaw14.ChaseStart", spec := "chaseStart", unfollowed := true, recurses := true, named := ["math/bits.deBruijn32tab"], apart := false, laid := [("math/bits.deBruijn32tab", laid_math_bits_deBruijn32tab)] }
def ChaseStartSaid : Prop := chaseStartRow.holds Tryd.pinned (OpenSpec.ofChange chaseStartSpec)

/-- ITS FALSE NEIGHBOUR: 'it returns false'. Refute it at one input. -/
def chaseStartWrong : ChangeSpec := { name := "chaseStart", fn := fun _ => fun
  | [d1, d2] => { results := [.lit (.bool false)], args := [d1, d2] }
  | _ => none }
def ChaseStartWrongFalsely : Prop := chaseStartRow.holds Tryd.pinned (OpenSpec.ofChange chaseStartWrong)

/-- 'drosslaw14.ChaseSteps': WHATEVER THE INPUT: true; the input reads as it did. -/
def chaseStepsSpec : ChangeSpec := { name := "chaseSteps", fn := fun _ => fun
  | [d] => { results := [.lit (.bool true)], args := [d] }
  | _ => none }
def chaseStepsRow : OpenClaim := { program := "ytididbpiikfaiaadoor", sum := "5486131a5174b3e181fff2e640a68c6371ccb1f566ffa9fe17ba7a24cbfcce78", func := "dross/drosslaw14.ChaseSteps", spec := "chaseSteps", unfollowed := true, recurses := true, named := ["math/bits.deBruijn32tab"], apart := false, laid := [("math/bits.deBruijn32tab", laid_math_bits_deBruijn32tab)] }
def ChaseStepsSaid : Prop := chaseStepsRow.holds Tryd.pinned (OpenSpec.ofChange chaseStepsSpec)

/-- ITS FALSE NEIGHBOUR: 'it returns false'. Refute it at one input. -/
def chaseStepsWrong : ChangeSpec := { name := "chaseSteps", fn := fun _ => fun
  | [d] => { results := [.lit (.bool false)], args := [d] }
  | _ => none }
def ChaseStepsWrongFalsely : Prop := chaseStepsRow.holds Tryd.pinned (OpenSpec.ofChange chaseStepsWrong)

/-- 'drosslaw14.ChaseImplies': WHATEVER THE INPUT: true; the input reads as it did. -/
def chaseImpliesSpec : ChangeSpec := { name := "chaseImplies", fn := fun _ => fun
  | [d1, d2] => { results := [.lit (.bool true)], args := [d1, d2] }
  | _ => none }
def chaseImpliesRow : OpenClaim := { program := "ytididbpiikfaiaadoor", sum := "5486131a5174b3e181fff2e640a68c6371ccb1f566ffa9fe17ba7a24cbfcce78", func := "dross/drosslaw14.ChaseImplies", spec := "chaseImplies", unfollowed := true, recurses := true, named := ["math/bits.deBruijn32tab"], apart := false, laid := [("math/bits.deBruijn32tab", laid_math_bits_deBruijn32tab)] }
def ChaseImpliesSaid : Prop := chaseImpliesRow.holds Tryd.pinned (OpenSpec.ofChange chaseImpliesSpec)

/-- ITS FALSE NEIGHBOUR: 'it returns false'. Refute it at one input. -/
def chaseImpliesWrong : ChangeSpec := { name := "chaseImplies", fn := fun _ => fun
  | [d1, d2] => { results := [.lit (.bool false)], args := [d1, d2] }
  | _ => none }
def ChaseImpliesWrongFalsely : Prop := chaseImpliesRow.holds Tryd.pinned (OpenSpec.ofChange chaseImpliesWrong)

/-- 'drosslaw14.ChaseSatisfies': WHATEVER THE INPUT: true; the input reads as it did. -/
def chaseSatisfiesSpec : ChangeSpec := { name := "chaseSatisfies", fn := fun _ => fun
  | [d1, d2] => { results := [.lit (.bool true)], args := [d1, d2] }
  | _ => none }
def chaseSatisfiesRow : OpenClaim := { program := "ytididbpiikfaiaadoor", sum := "5486131a5174b3e181fff2e640a68c6371ccb1f566ffa9fe17ba7a24cbfcce78", func := "dross/drosslaw14.ChaseSatisfies", spec := "chaseSatisfies", unfollowed := true, recurses := true, named := ["math/bits.deBruijn32tab"], apart := false, laid := [("math/bits.deBruijn32tab", laid_math_bits_deBruijn32tab)] }
def ChaseSatisfiesSaid : Prop := chaseSatisfiesRow.holds Tryd.pinned (OpenSpec.ofChange chaseSatisfiesSpec)

/-- ITS FALSE NEIGHBOUR: 'it returns false'. Refute it at one input. -/
def chaseSatisfiesWrong : ChangeSpec := { name := "chaseSatisfies", fn := fun _ => fun
  | [d1, d2] => { results := [.lit (.bool false)], args := [d1, d2] }
  | _ => none }
def ChaseSatisfiesWrongFalsely : Prop := chaseSatisfiesRow.holds Tryd.pinned (OpenSpec.ofChange chaseSatisfiesWrong)

/-- 'drosslaw14.ChaseApply': WHATEVER THE INPUT: true; the input reads as it did. -/
def chaseApplySpec : ChangeSpec := { name := "chaseApply", fn := fun _ => fun
  | [d1, d2, d3] => { results := [.lit (.bool true)], args := [d1, d2, d3] }
  | _ => none }
def chaseApplyRow : OpenClaim := { program := "ytididbpiikfaiaadoor", sum := "5486131a5174b3e181fff2e640a68c6371ccb1f566ffa9fe17ba7a24cbfcce78", func := "dross/drosslaw14.ChaseApply", spec := "chaseApply", unfollowed := true, recurses := true, named := ["math/bits.deBruijn32tab"], apart := false, laid := [("math/bits.deBruijn32tab", laid_math_bits_deBruijn32tab)] }
def ChaseApplySaid : Prop := chaseApplyRow.holds Tryd.pinned (OpenSpec.ofChange chaseApplySpec)

/-- ITS FALSE NEIGHBOUR: 'it returns false'. Refute it at one input. -/
def chaseApplyWrong : ChangeSpec := { name := "chaseApply", fn := fun _ => fun
  | [d1, d2, d3] => { results := [.lit (.bool false)], args := [d1, d2, d3] }
  | _ => none }
def ChaseApplyWrongFalsely : Prop := chaseApplyRow.holds Tryd.pinned (OpenSpec.ofChange chaseApplyWrong)

/-- 'drosslaw14.ChaseOrder': WHATEVER THE INPUT: true; the input reads as it did. -/
def chaseOrderSpec : ChangeSpec := { name := "chaseOrder", fn := fun _ => fun
  | [d1, d2] => { results := [.lit (.bool true)], args := [d1, d2] }
  | _ => none }
def chaseOrderRow : OpenClaim := { program := "ytididbpiikfaiaadoor", sum := "5486131a5174b3e181fff2e640a68c6371ccb1f566ffa9fe17ba7a24cbfcce78", func := "dross/drosslaw14.ChaseOrder", spec := "chaseOrder", unfollowed := true, recurses := true, named := ["math/bits.deBruijn32tab"], apart := false, laid := [("math/bits.deBruijn32tab", laid_math_bits_deBruijn32tab)] }
def ChaseOrderSaid : Prop := chaseOrderRow.holds Tryd.pinned (OpenSpec.ofChange chaseOrderSpec)

/-- ITS FALSE NEIGHBOUR: 'it returns false'. Refute it at one input. -/
def chaseOrderWrong : ChangeSpec := { name := "chaseOrder", fn := fun _ => fun
  | [d1, d2] => { results := [.lit (.bool false)], args := [d1, d2] }
  | _ => none }
def ChaseOrderWrongFalsely : Prop := chaseOrderRow.holds Tryd.pinned (OpenSpec.ofChange chaseOrderWrong)

/-- 'drosslaw14.ChaseEnd': WHATEVER THE INPUT: true; the input reads as it did. -/
def chaseEndSpec : ChangeSpec := { name := "chaseEnd", fn := fun _ => fun
  | [d] => { results := [.lit (.bool true)], args := [d] }
  | _ => none }
def chaseEndRow : OpenClaim := { program := "ytididbpiikfaiaadoor", sum := "5486131a5174b3e181fff2e640a68c6371ccb1f566ffa9fe17ba7a24cbfcce78", func := "dross/drosslaw14.ChaseEnd", spec := "chaseEnd", unfollowed := true, recurses := true, named := ["math/bits.deBruijn32tab"], apart := false, laid := [("math/bits.deBruijn32tab", laid_math_bits_deBruijn32tab)] }
def ChaseEndSaid : Prop := chaseEndRow.holds Tryd.pinned (OpenSpec.ofChange chaseEndSpec)

/-- ITS FALSE NEIGHBOUR: 'it returns false'. Refute it at one input. -/
def chaseEndWrong : ChangeSpec := { name := "chaseEnd", fn := fun _ => fun
  | [d] => { results := [.lit (.bool false)], args := [d] }
  | _ => none }
def ChaseEndWrongFalsely : Prop := chaseEndRow.holds Tryd.pinned (OpenSpec.ofChange chaseEndWrong)

/- THE SECOND FORM. 'bulk': how many values and letters a reading holds, each counted each time it is reached (what is shared counts as often as it is met; a slice's spare places count too). A statement '..UptoSaid' is the law's where the arguments, and the package variables that the reading takes, are together of bulk at most 1048576: NARROWER than '..Said'. Prove '..Said' where nothing that the law and all that it calls make is longer than what came in: it says more and counts as full. Else prove '..UptoSaid'. A law counts once. -/
mutual
def uptoBulk {H : Type} : DataW H → Nat
  | .lit (.string bytes) => bytes.length + 1
  | .lit _ => 1
  | .nil => 1
  | .ptr d => uptoBulk d + 1
  | .slice elems spare => uptoBulkAll elems + uptoBulkAll spare + 1
  | .agg parts => uptoBulkAll parts + 1
  | .iface _ d => uptoBulk d + 1
  | .map entries => uptoBulkEntries entries + 1
  | .held _ => 1
def uptoBulkAll {H : Type} : List (DataW H) → Nat
  | [] => 0
  | d :: r => uptoBulk d + uptoBulkAll r
def uptoBulkEntries {H : Type} : List (Lit × DataW H) → Nat
  | [] => 0
  | x :: r => uptoBulkEntry x + uptoBulkEntries r
def uptoBulkEntry {H : Type} : Lit × DataW H → Nat
  | (.string bytes, d) => bytes.length + uptoBulk d + 1
  | (_, d) => uptoBulk d + 1
 end
def uptoSmall : (H : Type) → List (DataW H) → Bool := fun _ ds => decide (uptoBulkAll ds ≤ 1048576)
def OpenSpec.upto (s : _root_.Go.ChangeSpec) : _root_.Go.OpenSpec := { _root_.Go.OpenSpec.ofChange s with cond := some uptoSmall }

/-- 'drosslaw14.ChaseValid', WHERE WHAT IT READS IS OF BULK AT MOST 1048576: true; the input reads as it did. -/
def chaseValidUptoRow : OpenClaim := { program := "ytididbpiikfaiaadoor", sum := "5486131a5174b3e181fff2e640a68c6371ccb1f566ffa9fe17ba7a24cbfcce78", func := "dross/drosslaw14.ChaseValid", spec := "chaseValid", unfollowed := true, recurses := true, named := ["math/bits.deBruijn32tab"], apart := false, laid := [("math/bits.deBruijn32tab", laid_math_bits_deBruijn32tab)], narrowed := true }
def ChaseValidUptoSaid : Prop := chaseValidUptoRow.holds Tryd.pinned (OpenSpec.upto chaseValidSpec)

/-- 'drosslaw14.ChaseStart', WHERE WHAT IT READS IS OF BULK AT MOST 1048576: true; the input reads as it did. -/
def chaseStartUptoRow : OpenClaim := { program := "ytididbpiikfaiaadoor", sum := "5486131a5174b3e181fff2e640a68c6371ccb1f566ffa9fe17ba7a24cbfcce78", func := "dross/drosslaw14.ChaseStart", spec := "chaseStart", unfollowed := true, recurses := true, named := ["math/bits.deBruijn32tab"], apart := false, laid := [("math/bits.deBruijn32tab", laid_math_bits_deBruijn32tab)], narrowed := true }
def ChaseStartUptoSaid : Prop := chaseStartUptoRow.holds Tryd.pinned (OpenSpec.upto chaseStartSpec)

/-- 'drosslaw14.ChaseSteps', WHERE WHAT IT READS IS OF BULK AT MOST 1048576: true; the input reads as it did. -/
def chaseStepsUptoRow : OpenClaim := { program := "ytididbpiikfaiaadoor", sum := "5486131a5174b3e181fff2e640a68c6371ccb1f566ffa9fe17ba7a24cbfcce78", func := "dross/drosslaw14.ChaseSteps", spec := "chaseSteps", unfollowed := true, recurses := true, named := ["math/bits.deBruijn32tab"], apart := false, laid := [("math/bits.deBruijn32tab", laid_math_bits_deBruijn32tab)], narrowed := true }
def ChaseStepsUptoSaid : Prop := chaseStepsUptoRow.holds Tryd.pinned (OpenSpec.upto chaseStepsSpec)

/-- 'drosslaw14.ChaseImplies', WHERE WHAT IT READS IS OF BULK AT MOST 1048576: true; the input reads as it did. -/
def chaseImpliesUptoRow : OpenClaim := { program := "ytididbpiikfaiaadoor", sum := "5486131a5174b3e181fff2e640a68c6371ccb1f566ffa9fe17ba7a24cbfcce78", func := "dross/drosslaw14.ChaseImplies", spec := "chaseImplies", unfollowed := true, recurses := true, named := ["math/bits.deBruijn32tab"], apart := false, laid := [("math/bits.deBruijn32tab", laid_math_bits_deBruijn32tab)], narrowed := true }
def ChaseImpliesUptoSaid : Prop := chaseImpliesUptoRow.holds Tryd.pinned (OpenSpec.upto chaseImpliesSpec)

/-- 'drosslaw14.ChaseSatisfies', WHERE WHAT IT READS IS OF BULK AT MOST 1048576: true; the input reads as it did. -/
def chaseSatisfiesUptoRow : OpenClaim := { program := "ytididbpiikfaiaadoor", sum := "5486131a5174b3e181fff2e640a68c6371ccb1f566ffa9fe17ba7a24cbfcce78", func := "dross/drosslaw14.ChaseSatisfies", spec := "chaseSatisfies", unfollowed := true, recurses := true, named := ["math/bits.deBruijn32tab"], apart := false, laid := [("math/bits.deBruijn32tab", laid_math_bits_deBruijn32tab)], narrowed := true }
def ChaseSatisfiesUptoSaid : Prop := chaseSatisfiesUptoRow.holds Tryd.pinned (OpenSpec.upto chaseSatisfiesSpec)

/-- 'drosslaw14.ChaseApply', WHERE WHAT IT READS IS OF BULK AT MOST 1048576: true; the input reads as it did. -/
def chaseApplyUptoRow : OpenClaim := { program := "ytididbpiikfaiaadoor", sum := "5486131a5174b3e181fff2e640a68c6371ccb1f566ffa9fe17ba7a24cbfcce78", func := "dross/drosslaw14.ChaseApply", spec := "chaseApply", unfollowed := true, recurses := true, named := ["math/bits.deBruijn32tab"], apart := false, laid := [("math/bits.deBruijn32tab", laid_math_bits_deBruijn32tab)], narrowed := true }
def ChaseApplyUptoSaid : Prop := chaseApplyUptoRow.holds Tryd.pinned (OpenSpec.upto chaseApplySpec)

/-- 'drosslaw14.ChaseOrder', WHERE WHAT IT READS IS OF BULK AT MOST 1048576: true; the input reads as it did. -/
def chaseOrderUptoRow : OpenClaim := { program := "ytididbpiikfaiaadoor", sum := "5486131a5174b3e181fff2e640a68c6371ccb1f566ffa9fe17ba7a24cbfcce78", func := "dross/drosslaw14.ChaseOrder", spec := "chaseOrder", unfollowed := true, recurses := true, named := ["math/bits.deBruijn32tab"], apart := false, laid := [("math/bits.deBruijn32tab", laid_math_bits_deBruijn32tab)], narrowed := true }
def ChaseOrderUptoSaid : Prop := chaseOrderUptoRow.holds Tryd.pinned (OpenSpec.upto chaseOrderSpec)

/-- 'drosslaw14.ChaseEnd', WHERE WHAT IT READS IS OF BULK AT MOST 1048576: true; the input reads as it did. -/
def chaseEndUptoRow : OpenClaim := { program := "ytididbpiikfaiaadoor", sum := "5486131a5174b3e181fff2e640a68c6371ccb1f566ffa9fe17ba7a24cbfcce78", func := "dross/drosslaw14.ChaseEnd", spec := "chaseEnd", unfollowed := true, recurses := true, named := ["math/bits.deBruijn32tab"], apart := false, laid := [("math/bits.deBruijn32tab", laid_math_bits_deBruijn32tab)], narrowed := true }
def ChaseEndUptoSaid : Prop := chaseEndUptoRow.holds Tryd.pinned (OpenSpec.upto chaseEndSpec)

end Rows
end Go.Proofs.YtididbpiikfaiaaDoor

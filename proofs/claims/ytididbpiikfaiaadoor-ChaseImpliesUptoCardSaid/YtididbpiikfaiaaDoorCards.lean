/-
  DERIVED. GIVEN WITH THE SEED: THE CARDS: each row of YtididbpiikfaiaaDoorRows.lean that lists a variable, with what it lists TIED to the program's text (the seventh form; the later family's looks); each row that meets fmt, with fmt's text TOLD by the authors' own Lean function (tested against real Go, not proved from fmt's source: count such statements apart). THE CARD IS WHAT COUNTS. Prove the row's statement (the work); the ties are given (YtididbpiikfaiaaDoorTie.lean); close each card by the builder's one call (the guide's Derived/Test/ToyasCard.lean, 'card_holds'). Laid BY PROGRAM, IN A SANDBOX (cutbox-door.mjs). By AI agents, Wed Nov 11 2026. No macro, syntax, notation, axiom, sorry.
-/
import Derived.Test.YtididbpiikfaiaaDoorRows
import GoSem.ClaimSeven
namespace Go.Proofs.YtididbpiikfaiaaDoor
namespace Rows

/-- THE TIED CARD OF 'drosslaw14.ChaseValid'. -/
def chaseValidCard : Claim7 := { stood := { row := chaseValidRow, standIns := [], harness := (true, "82e100e675671502242f39e7e0198fe659d129440ab47db146661fb9f5348003"), looks := false }, kinds := [], alts := [], laidByText := true, laidKinds := [.data], laidTests := true, laidLooks := .later }
def ChaseValidCardSaid : Prop := Claim7.holds Tryd.pinned (.plain (OpenSpec.ofChange chaseValidSpec)) chaseValidCard

/-- THE TIED CARD OF 'drosslaw14.ChaseStart'. -/
def chaseStartCard : Claim7 := { stood := { row := chaseStartRow, standIns := [], harness := (true, "82e100e675671502242f39e7e0198fe659d129440ab47db146661fb9f5348003"), looks := false }, kinds := [], alts := [], laidByText := true, laidKinds := [.data], laidTests := true, laidLooks := .later }
def ChaseStartCardSaid : Prop := Claim7.holds Tryd.pinned (.plain (OpenSpec.ofChange chaseStartSpec)) chaseStartCard

/-- THE TIED CARD OF 'drosslaw14.ChaseSteps'. -/
def chaseStepsCard : Claim7 := { stood := { row := chaseStepsRow, standIns := [], harness := (true, "82e100e675671502242f39e7e0198fe659d129440ab47db146661fb9f5348003"), looks := false }, kinds := [], alts := [], laidByText := true, laidKinds := [.data], laidTests := true, laidLooks := .later }
def ChaseStepsCardSaid : Prop := Claim7.holds Tryd.pinned (.plain (OpenSpec.ofChange chaseStepsSpec)) chaseStepsCard

/-- THE TIED CARD OF 'drosslaw14.ChaseImplies'. -/
def chaseImpliesCard : Claim7 := { stood := { row := chaseImpliesRow, standIns := [], harness := (true, "82e100e675671502242f39e7e0198fe659d129440ab47db146661fb9f5348003"), looks := false }, kinds := [], alts := [], laidByText := true, laidKinds := [.data], laidTests := true, laidLooks := .later }
def ChaseImpliesCardSaid : Prop := Claim7.holds Tryd.pinned (.plain (OpenSpec.ofChange chaseImpliesSpec)) chaseImpliesCard

/-- THE TIED CARD OF 'drosslaw14.ChaseSatisfies'. -/
def chaseSatisfiesCard : Claim7 := { stood := { row := chaseSatisfiesRow, standIns := [], harness := (true, "82e100e675671502242f39e7e0198fe659d129440ab47db146661fb9f5348003"), looks := false }, kinds := [], alts := [], laidByText := true, laidKinds := [.data], laidTests := true, laidLooks := .later }
def ChaseSatisfiesCardSaid : Prop := Claim7.holds Tryd.pinned (.plain (OpenSpec.ofChange chaseSatisfiesSpec)) chaseSatisfiesCard

/-- THE TIED CARD OF 'drosslaw14.ChaseApply'. -/
def chaseApplyCard : Claim7 := { stood := { row := chaseApplyRow, standIns := [], harness := (true, "82e100e675671502242f39e7e0198fe659d129440ab47db146661fb9f5348003"), looks := false }, kinds := [], alts := [], laidByText := true, laidKinds := [.data], laidTests := true, laidLooks := .later }
def ChaseApplyCardSaid : Prop := Claim7.holds Tryd.pinned (.plain (OpenSpec.ofChange chaseApplySpec)) chaseApplyCard

/-- THE TIED CARD OF 'drosslaw14.ChaseOrder'. -/
def chaseOrderCard : Claim7 := { stood := { row := chaseOrderRow, standIns := [], harness := (true, "82e100e675671502242f39e7e0198fe659d129440ab47db146661fb9f5348003"), looks := false }, kinds := [], alts := [], laidByText := true, laidKinds := [.data], laidTests := true, laidLooks := .later }
def ChaseOrderCardSaid : Prop := Claim7.holds Tryd.pinned (.plain (OpenSpec.ofChange chaseOrderSpec)) chaseOrderCard

/-- THE TIED CARD OF 'drosslaw14.ChaseEnd'. -/
def chaseEndCard : Claim7 := { stood := { row := chaseEndRow, standIns := [], harness := (true, "82e100e675671502242f39e7e0198fe659d129440ab47db146661fb9f5348003"), looks := false }, kinds := [], alts := [], laidByText := true, laidKinds := [.data], laidTests := true, laidLooks := .later }
def ChaseEndCardSaid : Prop := Claim7.holds Tryd.pinned (.plain (OpenSpec.ofChange chaseEndSpec)) chaseEndCard

/-- THE SECOND FORM's CARD OF 'drosslaw14.ChaseValid'. -/
def chaseValidUptoCard : Claim7 := { stood := { row := chaseValidUptoRow, standIns := [], harness := (true, "82e100e675671502242f39e7e0198fe659d129440ab47db146661fb9f5348003"), looks := false }, kinds := [], alts := [], laidByText := true, laidKinds := [.data], laidTests := true, laidLooks := .later }
def ChaseValidUptoCardSaid : Prop := Claim7.holds Tryd.pinned (.plain (OpenSpec.upto chaseValidSpec)) chaseValidUptoCard

/-- THE SECOND FORM's CARD OF 'drosslaw14.ChaseStart'. -/
def chaseStartUptoCard : Claim7 := { stood := { row := chaseStartUptoRow, standIns := [], harness := (true, "82e100e675671502242f39e7e0198fe659d129440ab47db146661fb9f5348003"), looks := false }, kinds := [], alts := [], laidByText := true, laidKinds := [.data], laidTests := true, laidLooks := .later }
def ChaseStartUptoCardSaid : Prop := Claim7.holds Tryd.pinned (.plain (OpenSpec.upto chaseStartSpec)) chaseStartUptoCard

/-- THE SECOND FORM's CARD OF 'drosslaw14.ChaseSteps'. -/
def chaseStepsUptoCard : Claim7 := { stood := { row := chaseStepsUptoRow, standIns := [], harness := (true, "82e100e675671502242f39e7e0198fe659d129440ab47db146661fb9f5348003"), looks := false }, kinds := [], alts := [], laidByText := true, laidKinds := [.data], laidTests := true, laidLooks := .later }
def ChaseStepsUptoCardSaid : Prop := Claim7.holds Tryd.pinned (.plain (OpenSpec.upto chaseStepsSpec)) chaseStepsUptoCard

/-- THE SECOND FORM's CARD OF 'drosslaw14.ChaseImplies'. -/
def chaseImpliesUptoCard : Claim7 := { stood := { row := chaseImpliesUptoRow, standIns := [], harness := (true, "82e100e675671502242f39e7e0198fe659d129440ab47db146661fb9f5348003"), looks := false }, kinds := [], alts := [], laidByText := true, laidKinds := [.data], laidTests := true, laidLooks := .later }
def ChaseImpliesUptoCardSaid : Prop := Claim7.holds Tryd.pinned (.plain (OpenSpec.upto chaseImpliesSpec)) chaseImpliesUptoCard

/-- THE SECOND FORM's CARD OF 'drosslaw14.ChaseSatisfies'. -/
def chaseSatisfiesUptoCard : Claim7 := { stood := { row := chaseSatisfiesUptoRow, standIns := [], harness := (true, "82e100e675671502242f39e7e0198fe659d129440ab47db146661fb9f5348003"), looks := false }, kinds := [], alts := [], laidByText := true, laidKinds := [.data], laidTests := true, laidLooks := .later }
def ChaseSatisfiesUptoCardSaid : Prop := Claim7.holds Tryd.pinned (.plain (OpenSpec.upto chaseSatisfiesSpec)) chaseSatisfiesUptoCard

/-- THE SECOND FORM's CARD OF 'drosslaw14.ChaseApply'. -/
def chaseApplyUptoCard : Claim7 := { stood := { row := chaseApplyUptoRow, standIns := [], harness := (true, "82e100e675671502242f39e7e0198fe659d129440ab47db146661fb9f5348003"), looks := false }, kinds := [], alts := [], laidByText := true, laidKinds := [.data], laidTests := true, laidLooks := .later }
def ChaseApplyUptoCardSaid : Prop := Claim7.holds Tryd.pinned (.plain (OpenSpec.upto chaseApplySpec)) chaseApplyUptoCard

/-- THE SECOND FORM's CARD OF 'drosslaw14.ChaseOrder'. -/
def chaseOrderUptoCard : Claim7 := { stood := { row := chaseOrderUptoRow, standIns := [], harness := (true, "82e100e675671502242f39e7e0198fe659d129440ab47db146661fb9f5348003"), looks := false }, kinds := [], alts := [], laidByText := true, laidKinds := [.data], laidTests := true, laidLooks := .later }
def ChaseOrderUptoCardSaid : Prop := Claim7.holds Tryd.pinned (.plain (OpenSpec.upto chaseOrderSpec)) chaseOrderUptoCard

/-- THE SECOND FORM's CARD OF 'drosslaw14.ChaseEnd'. -/
def chaseEndUptoCard : Claim7 := { stood := { row := chaseEndUptoRow, standIns := [], harness := (true, "82e100e675671502242f39e7e0198fe659d129440ab47db146661fb9f5348003"), looks := false }, kinds := [], alts := [], laidByText := true, laidKinds := [.data], laidTests := true, laidLooks := .later }
def ChaseEndUptoCardSaid : Prop := Claim7.holds Tryd.pinned (.plain (OpenSpec.upto chaseEndSpec)) chaseEndUptoCard
end Rows
end Go.Proofs.YtididbpiikfaiaaDoor

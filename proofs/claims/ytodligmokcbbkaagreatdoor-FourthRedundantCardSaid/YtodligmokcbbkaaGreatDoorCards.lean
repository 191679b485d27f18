/-
  DERIVED. GIVEN WITH THE SEED: THE CARDS: each row of YtodligmokcbbkaaGreatDoorRows.lean that lists a variable, with what it lists TIED to the program's text (the seventh form; the later family's looks); each row that meets fmt, with fmt's text TOLD by the authors' own Lean function (tested against real Go, not proved from fmt's source: count such statements apart). THE CARD IS WHAT COUNTS. Prove the row's statement (the work); the ties are given (YtodligmokcbbkaaGreatDoorTie.lean); close each card by the builder's one call (the guide's Derived/Test/ToyasCard.lean, 'card_holds'). Laid BY PROGRAM, IN A SANDBOX (cutbox-door.mjs). By AI agents, Wed Nov 11 2026. No macro, syntax, notation, axiom, sorry.
-/
import Derived.Test.YtodligmokcbbkaaGreatDoorRows
import GoSem.ClaimSeven
namespace Go.Proofs.YtodligmokcbbkaaGreatDoor
namespace Rows

/-- THE TIED CARD OF 'drosslaw25.FourthRedundant'. -/
def fourthRedundantCard : Claim7 := { stood := { row := fourthRedundantRow, standIns := [], harness := (true, "a5dc63e50dccaae8988b42a1d3b5ff1ec473d954cb19aa7dfe8ce93f103452be"), looks := false }, kinds := [], alts := [], laidByText := true, laidKinds := [.data], laidTests := true, laidLooks := .later }
def FourthRedundantCardSaid : Prop := Claim7.holds Tryz.pinned (.plain (OpenSpec.ofChange fourthRedundantSpec)) fourthRedundantCard

/-- THE SECOND FORM's CARD OF 'drosslaw25.FourthRedundant'. -/
def fourthRedundantUptoCard : Claim7 := { stood := { row := fourthRedundantUptoRow, standIns := [], harness := (true, "a5dc63e50dccaae8988b42a1d3b5ff1ec473d954cb19aa7dfe8ce93f103452be"), looks := false }, kinds := [], alts := [], laidByText := true, laidKinds := [.data], laidTests := true, laidLooks := .later }
def FourthRedundantUptoCardSaid : Prop := Claim7.holds Tryz.pinned (.plain (OpenSpec.upto fourthRedundantSpec)) fourthRedundantUptoCard
end Rows
end Go.Proofs.YtodligmokcbbkaaGreatDoor

/-
  DERIVED. GIVEN WITH THE SEED: THE CARDS: each row of YtgeliioenkmfhaaGreatDoorRows.lean that lists a variable, with what it lists TIED to the program's text (the seventh form; the later family's looks); each row that meets fmt, with fmt's text TOLD by the authors' own Lean function (tested against real Go, not proved from fmt's source: count such statements apart). THE CARD IS WHAT COUNTS. Prove the row's statement (the work); the ties are given (YtgeliioenkmfhaaGreatDoorTie.lean); close each card by the builder's one call (the guide's Derived/Test/ToyasCard.lean, 'card_holds'). Laid BY PROGRAM, IN A SANDBOX (cutbox-door.mjs). By AI agents, Wed Nov 11 2026. No macro, syntax, notation, axiom, sorry.
-/
import Derived.Test.YtgeliioenkmfhaaGreatDoorRows
import GoSem.ClaimSeven
namespace Go.Proofs.YtgeliioenkmfhaaGreatDoor
namespace Rows

/-- THE TIED CARD OF 'drosslaw24.BoyceObstacle'. -/
def boyceObstacleCard : Claim7 := { stood := { row := boyceObstacleRow, standIns := [], harness := (true, "8550143ef702de2ecc831c25f241f30b62148de8efeb9c4e7f246088f2951072"), looks := false }, kinds := [], alts := [], laidByText := true, laidKinds := [.data], laidTests := true, laidLooks := .later }
def BoyceObstacleCardSaid : Prop := Claim7.holds Tryz.pinned (.plain (OpenSpec.ofChange boyceObstacleSpec)) boyceObstacleCard

/-- THE TIED CARD OF 'drosslaw24.BoyceSubsets'. -/
def boyceSubsetsCard : Claim7 := { stood := { row := boyceSubsetsRow, standIns := [], harness := (true, "8550143ef702de2ecc831c25f241f30b62148de8efeb9c4e7f246088f2951072"), looks := false }, kinds := [], alts := [], laidByText := true, laidKinds := [.data], laidTests := true, laidLooks := .later }
def BoyceSubsetsCardSaid : Prop := Claim7.holds Tryz.pinned (.plain (OpenSpec.ofChange boyceSubsetsSpec)) boyceSubsetsCard

/-- THE SECOND FORM's CARD OF 'drosslaw24.BoyceObstacle'. -/
def boyceObstacleUptoCard : Claim7 := { stood := { row := boyceObstacleUptoRow, standIns := [], harness := (true, "8550143ef702de2ecc831c25f241f30b62148de8efeb9c4e7f246088f2951072"), looks := false }, kinds := [], alts := [], laidByText := true, laidKinds := [.data], laidTests := true, laidLooks := .later }
def BoyceObstacleUptoCardSaid : Prop := Claim7.holds Tryz.pinned (.plain (OpenSpec.upto boyceObstacleSpec)) boyceObstacleUptoCard

/-- THE SECOND FORM's CARD OF 'drosslaw24.BoyceSubsets'. -/
def boyceSubsetsUptoCard : Claim7 := { stood := { row := boyceSubsetsUptoRow, standIns := [], harness := (true, "8550143ef702de2ecc831c25f241f30b62148de8efeb9c4e7f246088f2951072"), looks := false }, kinds := [], alts := [], laidByText := true, laidKinds := [.data], laidTests := true, laidLooks := .later }
def BoyceSubsetsUptoCardSaid : Prop := Claim7.holds Tryz.pinned (.plain (OpenSpec.upto boyceSubsetsSpec)) boyceSubsetsUptoCard
end Rows
end Go.Proofs.YtgeliioenkmfhaaGreatDoor

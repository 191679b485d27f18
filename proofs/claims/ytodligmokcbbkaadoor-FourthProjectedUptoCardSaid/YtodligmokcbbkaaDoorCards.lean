/-
  DERIVED. GIVEN WITH THE SEED: THE CARDS: each row of YtodligmokcbbkaaDoorRows.lean that lists a variable, with what it lists TIED to the program's text (the seventh form; the later family's looks); each row that meets fmt, with fmt's text TOLD by the authors' own Lean function (tested against real Go, not proved from fmt's source: count such statements apart). THE CARD IS WHAT COUNTS. Prove the row's statement (the work); the ties are given (YtodligmokcbbkaaDoorTie.lean); close each card by the builder's one call (the guide's Derived/Test/ToyasCard.lean, 'card_holds'). Laid BY PROGRAM, IN A SANDBOX (cutbox-door.mjs). By AI agents, Wed Nov 11 2026. No macro, syntax, notation, axiom, sorry.
-/
import Derived.Test.YtodligmokcbbkaaDoorRows
import GoSem.ClaimSeven
namespace Go.Proofs.YtodligmokcbbkaaDoor
namespace Rows

/-- THE TIED CARD OF 'drosslaw25.FourthProjected'. -/
def fourthProjectedCard : Claim7 := { stood := { row := fourthProjectedRow, standIns := [], harness := (true, "4beac8e427e383f8dab729f3e59c4da39fe4a498141c0a34fd89fdc5b97a57d7"), looks := false }, kinds := [], alts := [], laidByText := true, laidKinds := [.data], laidTests := true, laidLooks := .later }
def FourthProjectedCardSaid : Prop := Claim7.holds Tryd.pinned (.plain (OpenSpec.ofChange fourthProjectedSpec)) fourthProjectedCard

/-- THE SECOND FORM's CARD OF 'drosslaw25.FourthProjected'. -/
def fourthProjectedUptoCard : Claim7 := { stood := { row := fourthProjectedUptoRow, standIns := [], harness := (true, "4beac8e427e383f8dab729f3e59c4da39fe4a498141c0a34fd89fdc5b97a57d7"), looks := false }, kinds := [], alts := [], laidByText := true, laidKinds := [.data], laidTests := true, laidLooks := .later }
def FourthProjectedUptoCardSaid : Prop := Claim7.holds Tryd.pinned (.plain (OpenSpec.upto fourthProjectedSpec)) fourthProjectedUptoCard
end Rows
end Go.Proofs.YtodligmokcbbkaaDoor

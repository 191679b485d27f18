/-
  DERIVED. GIVEN WITH THE SEED: THE CARDS: each row of YtidophngianjiaaDoorRows.lean that lists a variable, with what it lists TIED to the program's text (the seventh form; the later family's looks); each row that meets fmt, with fmt's text TOLD by the authors' own Lean function (tested against real Go, not proved from fmt's source: count such statements apart). THE CARD IS WHAT COUNTS. Prove the row's statement (the work); the ties are given (YtidophngianjiaaDoorTie.lean); close each card by the builder's one call (the guide's Derived/Test/ToyasCard.lean, 'card_holds'). Laid BY PROGRAM, IN A SANDBOX (cutbox-door.mjs). By AI agents, Wed Nov 11 2026. No macro, syntax, notation, axiom, sorry.
-/
import Derived.Test.YtidophngianjiaaDoorRows
import GoSem.ClaimSeven
namespace Go.Proofs.YtidophngianjiaaDoor
namespace Rows

/-- THE TIED CARD OF 'drosslaw25.FourthCut'. -/
def fourthCutCard : Claim7 := { stood := { row := fourthCutRow, standIns := [], harness := (true, "cce78e82c5b5fbe6a4a881986619369dcc45717c4baf3fe9ce5c73edbb6f794a"), looks := false }, kinds := [], alts := [], laidByText := true, laidKinds := [.data], laidTests := true, laidLooks := .later }
def FourthCutCardSaid : Prop := Claim7.holds Tryd.pinned (.plain (OpenSpec.ofChange fourthCutSpec)) fourthCutCard

/-- THE TIED CARD OF 'drosslaw25.FourthViolation'. -/
def fourthViolationCard : Claim7 := { stood := { row := fourthViolationRow, standIns := [], harness := (true, "cce78e82c5b5fbe6a4a881986619369dcc45717c4baf3fe9ce5c73edbb6f794a"), looks := false }, kinds := [], alts := [], laidByText := true, laidKinds := [.data], laidTests := true, laidLooks := .later }
def FourthViolationCardSaid : Prop := Claim7.holds Tryd.pinned (.plain (OpenSpec.ofChange fourthViolationSpec)) fourthViolationCard

/-- THE SECOND FORM's CARD OF 'drosslaw25.FourthCut'. -/
def fourthCutUptoCard : Claim7 := { stood := { row := fourthCutUptoRow, standIns := [], harness := (true, "cce78e82c5b5fbe6a4a881986619369dcc45717c4baf3fe9ce5c73edbb6f794a"), looks := false }, kinds := [], alts := [], laidByText := true, laidKinds := [.data], laidTests := true, laidLooks := .later }
def FourthCutUptoCardSaid : Prop := Claim7.holds Tryd.pinned (.plain (OpenSpec.upto fourthCutSpec)) fourthCutUptoCard

/-- THE SECOND FORM's CARD OF 'drosslaw25.FourthViolation'. -/
def fourthViolationUptoCard : Claim7 := { stood := { row := fourthViolationUptoRow, standIns := [], harness := (true, "cce78e82c5b5fbe6a4a881986619369dcc45717c4baf3fe9ce5c73edbb6f794a"), looks := false }, kinds := [], alts := [], laidByText := true, laidKinds := [.data], laidTests := true, laidLooks := .later }
def FourthViolationUptoCardSaid : Prop := Claim7.holds Tryd.pinned (.plain (OpenSpec.upto fourthViolationSpec)) fourthViolationUptoCard
end Rows
end Go.Proofs.YtidophngianjiaaDoor

/-
  DERIVED. GIVEN WITH THE SEED: THE CARDS: each row of YtidophngianjiaaGreatDoorRows.lean that lists a variable, with what it lists TIED to the program's text (the seventh form; the later family's looks); each row that meets fmt, with fmt's text TOLD by the authors' own Lean function (tested against real Go, not proved from fmt's source: count such statements apart). THE CARD IS WHAT COUNTS. Prove the row's statement (the work); the ties are given (YtidophngianjiaaGreatDoorTie.lean); close each card by the builder's one call (the guide's Derived/Test/ToyasCard.lean, 'card_holds'). Laid BY PROGRAM, IN A SANDBOX (cutbox-door.mjs). By AI agents, Wed Nov 11 2026. No macro, syntax, notation, axiom, sorry.
-/
import Derived.Test.YtidophngianjiaaGreatDoorRows
import GoSem.ClaimSeven
namespace Go.Proofs.YtidophngianjiaaGreatDoor
namespace Rows

/-- THE TIED CARD OF 'drosslaw25.FourthDecompose'. -/
def fourthDecomposeCard : Claim7 := { stood := { row := fourthDecomposeRow, standIns := [], harness := (true, "18782093260c859ed0db56b21773363529b8c1d6cada476f5b78c853ebcfe3b4"), looks := false }, kinds := [], alts := [], laidByText := true, laidKinds := [.data], laidTests := true, laidLooks := .later }
def FourthDecomposeCardSaid : Prop := Claim7.holds Tryz.pinned (.plain (OpenSpec.ofChange fourthDecomposeSpec)) fourthDecomposeCard

/-- THE TIED CARD OF 'drosslaw25.FourthCheck'. -/
def fourthCheckCard : Claim7 := { stood := { row := fourthCheckRow, standIns := [], harness := (true, "18782093260c859ed0db56b21773363529b8c1d6cada476f5b78c853ebcfe3b4"), looks := false }, kinds := [], alts := [], laidByText := true, laidKinds := [.data], laidTests := true, laidLooks := .later }
def FourthCheckCardSaid : Prop := Claim7.holds Tryz.pinned (.plain (OpenSpec.ofChange fourthCheckSpec)) fourthCheckCard

/-- THE TIED CARD OF 'drosslaw25.FourthErrors'. -/
def fourthErrorsCard : Claim7 := { stood := { row := fourthErrorsRow, standIns := [], harness := (true, "18782093260c859ed0db56b21773363529b8c1d6cada476f5b78c853ebcfe3b4"), looks := false }, kinds := [], alts := [], laidByText := true, laidKinds := [.data], laidTests := true, laidLooks := .later }
def FourthErrorsCardSaid : Prop := Claim7.holds Tryz.pinned (.plain (OpenSpec.ofChange fourthErrorsSpec)) fourthErrorsCard

/-- THE TIED CARD OF 'drosslaw24.BoyceDecompose'. -/
def boyceDecomposeCard : Claim7 := { stood := { row := boyceDecomposeRow, standIns := [], harness := (true, "18782093260c859ed0db56b21773363529b8c1d6cada476f5b78c853ebcfe3b4"), looks := false }, kinds := [], alts := [], laidByText := true, laidKinds := [.data], laidTests := true, laidLooks := .later }
def BoyceDecomposeCardSaid : Prop := Claim7.holds Tryz.pinned (.plain (OpenSpec.ofChange boyceDecomposeSpec)) boyceDecomposeCard

/-- THE TIED CARD OF 'drosslaw24.BoyceCheck'. -/
def boyceCheckCard : Claim7 := { stood := { row := boyceCheckRow, standIns := [], harness := (true, "18782093260c859ed0db56b21773363529b8c1d6cada476f5b78c853ebcfe3b4"), looks := false }, kinds := [], alts := [], laidByText := true, laidKinds := [.data], laidTests := true, laidLooks := .later }
def BoyceCheckCardSaid : Prop := Claim7.holds Tryz.pinned (.plain (OpenSpec.ofChange boyceCheckSpec)) boyceCheckCard

/-- THE TIED CARD OF 'drosslaw24.BoycePossible'. -/
def boycePossibleCard : Claim7 := { stood := { row := boycePossibleRow, standIns := [], harness := (true, "18782093260c859ed0db56b21773363529b8c1d6cada476f5b78c853ebcfe3b4"), looks := false }, kinds := [], alts := [], laidByText := true, laidKinds := [.data], laidTests := true, laidLooks := .later }
def BoycePossibleCardSaid : Prop := Claim7.holds Tryz.pinned (.plain (OpenSpec.ofChange boycePossibleSpec)) boycePossibleCard

/-- THE TIED CARD OF 'drosslaw23.ThirdCheck'. -/
def thirdCheckCard : Claim7 := { stood := { row := thirdCheckRow, standIns := [], harness := (true, "18782093260c859ed0db56b21773363529b8c1d6cada476f5b78c853ebcfe3b4"), looks := false }, kinds := [], alts := [], laidByText := true, laidKinds := [.data], laidTests := true, laidLooks := .later }
def ThirdCheckCardSaid : Prop := Claim7.holds Tryz.pinned (.plain (OpenSpec.ofChange thirdCheckSpec)) thirdCheckCard

/-- THE TIED CARD OF 'drosslaw23.ThirdAccepted'. -/
def thirdAcceptedCard : Claim7 := { stood := { row := thirdAcceptedRow, standIns := [], harness := (true, "18782093260c859ed0db56b21773363529b8c1d6cada476f5b78c853ebcfe3b4"), looks := false }, kinds := [], alts := [], laidByText := true, laidKinds := [.data], laidTests := true, laidLooks := .later }
def ThirdAcceptedCardSaid : Prop := Claim7.holds Tryz.pinned (.plain (OpenSpec.ofChange thirdAcceptedSpec)) thirdAcceptedCard

/-- THE SECOND FORM's CARD OF 'drosslaw25.FourthDecompose'. -/
def fourthDecomposeUptoCard : Claim7 := { stood := { row := fourthDecomposeUptoRow, standIns := [], harness := (true, "18782093260c859ed0db56b21773363529b8c1d6cada476f5b78c853ebcfe3b4"), looks := false }, kinds := [], alts := [], laidByText := true, laidKinds := [.data], laidTests := true, laidLooks := .later }
def FourthDecomposeUptoCardSaid : Prop := Claim7.holds Tryz.pinned (.plain (OpenSpec.upto fourthDecomposeSpec)) fourthDecomposeUptoCard

/-- THE SECOND FORM's CARD OF 'drosslaw25.FourthCheck'. -/
def fourthCheckUptoCard : Claim7 := { stood := { row := fourthCheckUptoRow, standIns := [], harness := (true, "18782093260c859ed0db56b21773363529b8c1d6cada476f5b78c853ebcfe3b4"), looks := false }, kinds := [], alts := [], laidByText := true, laidKinds := [.data], laidTests := true, laidLooks := .later }
def FourthCheckUptoCardSaid : Prop := Claim7.holds Tryz.pinned (.plain (OpenSpec.upto fourthCheckSpec)) fourthCheckUptoCard

/-- THE SECOND FORM's CARD OF 'drosslaw25.FourthErrors'. -/
def fourthErrorsUptoCard : Claim7 := { stood := { row := fourthErrorsUptoRow, standIns := [], harness := (true, "18782093260c859ed0db56b21773363529b8c1d6cada476f5b78c853ebcfe3b4"), looks := false }, kinds := [], alts := [], laidByText := true, laidKinds := [.data], laidTests := true, laidLooks := .later }
def FourthErrorsUptoCardSaid : Prop := Claim7.holds Tryz.pinned (.plain (OpenSpec.upto fourthErrorsSpec)) fourthErrorsUptoCard

/-- THE SECOND FORM's CARD OF 'drosslaw24.BoyceDecompose'. -/
def boyceDecomposeUptoCard : Claim7 := { stood := { row := boyceDecomposeUptoRow, standIns := [], harness := (true, "18782093260c859ed0db56b21773363529b8c1d6cada476f5b78c853ebcfe3b4"), looks := false }, kinds := [], alts := [], laidByText := true, laidKinds := [.data], laidTests := true, laidLooks := .later }
def BoyceDecomposeUptoCardSaid : Prop := Claim7.holds Tryz.pinned (.plain (OpenSpec.upto boyceDecomposeSpec)) boyceDecomposeUptoCard

/-- THE SECOND FORM's CARD OF 'drosslaw24.BoyceCheck'. -/
def boyceCheckUptoCard : Claim7 := { stood := { row := boyceCheckUptoRow, standIns := [], harness := (true, "18782093260c859ed0db56b21773363529b8c1d6cada476f5b78c853ebcfe3b4"), looks := false }, kinds := [], alts := [], laidByText := true, laidKinds := [.data], laidTests := true, laidLooks := .later }
def BoyceCheckUptoCardSaid : Prop := Claim7.holds Tryz.pinned (.plain (OpenSpec.upto boyceCheckSpec)) boyceCheckUptoCard

/-- THE SECOND FORM's CARD OF 'drosslaw24.BoycePossible'. -/
def boycePossibleUptoCard : Claim7 := { stood := { row := boycePossibleUptoRow, standIns := [], harness := (true, "18782093260c859ed0db56b21773363529b8c1d6cada476f5b78c853ebcfe3b4"), looks := false }, kinds := [], alts := [], laidByText := true, laidKinds := [.data], laidTests := true, laidLooks := .later }
def BoycePossibleUptoCardSaid : Prop := Claim7.holds Tryz.pinned (.plain (OpenSpec.upto boycePossibleSpec)) boycePossibleUptoCard

/-- THE SECOND FORM's CARD OF 'drosslaw23.ThirdCheck'. -/
def thirdCheckUptoCard : Claim7 := { stood := { row := thirdCheckUptoRow, standIns := [], harness := (true, "18782093260c859ed0db56b21773363529b8c1d6cada476f5b78c853ebcfe3b4"), looks := false }, kinds := [], alts := [], laidByText := true, laidKinds := [.data], laidTests := true, laidLooks := .later }
def ThirdCheckUptoCardSaid : Prop := Claim7.holds Tryz.pinned (.plain (OpenSpec.upto thirdCheckSpec)) thirdCheckUptoCard

/-- THE SECOND FORM's CARD OF 'drosslaw23.ThirdAccepted'. -/
def thirdAcceptedUptoCard : Claim7 := { stood := { row := thirdAcceptedUptoRow, standIns := [], harness := (true, "18782093260c859ed0db56b21773363529b8c1d6cada476f5b78c853ebcfe3b4"), looks := false }, kinds := [], alts := [], laidByText := true, laidKinds := [.data], laidTests := true, laidLooks := .later }
def ThirdAcceptedUptoCardSaid : Prop := Claim7.holds Tryz.pinned (.plain (OpenSpec.upto thirdAcceptedSpec)) thirdAcceptedUptoCard
end Rows
end Go.Proofs.YtidophngianjiaaGreatDoor

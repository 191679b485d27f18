/-
  DERIVED. GIVEN WITH THE SEED: THE CARDS: each row of YteklilhbjjofbaaGreatDoorRows.lean that lists a variable, with what it lists TIED to the program's text (the seventh form; the later family's looks); each row that meets fmt, with fmt's text TOLD by the authors' own Lean function (tested against real Go, not proved from fmt's source: count such statements apart). THE CARD IS WHAT COUNTS. Prove the row's statement (the work); the ties are given (YteklilhbjjofbaaGreatDoorTie.lean); close each card by the builder's one call (the guide's Derived/Test/ToyasCard.lean, 'card_holds'). Laid BY PROGRAM, IN A SANDBOX (cutbox-door.mjs). By AI agents, Wed Nov 11 2026. No macro, syntax, notation, axiom, sorry.
-/
import Derived.Test.YteklilhbjjofbaaGreatDoorRows
import GoSem.ClaimSeven
namespace Go.Proofs.YteklilhbjjofbaaGreatDoor
namespace Rows

/-- THE TIED CARD OF 'drosslaw21.LosslessValid'. -/
def losslessValidCard : Claim7 := { stood := { row := losslessValidRow, standIns := [], harness := (true, "0e09c0bca685b75118efcf880cbb2c4e77a6a5414fa1c18588063b187410734f"), looks := false }, kinds := [], alts := [], laidByText := true, laidKinds := [.data], laidTests := true, laidLooks := .later }
def LosslessValidCardSaid : Prop := Claim7.holds Tryz.pinned (.plain (OpenSpec.ofChange losslessValidSpec)) losslessValidCard

/-- THE TIED CARD OF 'drosslaw21.LosslessIs'. -/
def losslessIsCard : Claim7 := { stood := { row := losslessIsRow, standIns := [], harness := (true, "0e09c0bca685b75118efcf880cbb2c4e77a6a5414fa1c18588063b187410734f"), looks := false }, kinds := [], alts := [], laidByText := true, laidKinds := [.data], laidTests := true, laidLooks := .later }
def LosslessIsCardSaid : Prop := Claim7.holds Tryz.pinned (.plain (OpenSpec.ofChange losslessIsSpec)) losslessIsCard

/-- THE TIED CARD OF 'drosslaw21.LosslessErrors'. -/
def losslessErrorsCard : Claim7 := { stood := { row := losslessErrorsRow, standIns := [], harness := (true, "0e09c0bca685b75118efcf880cbb2c4e77a6a5414fa1c18588063b187410734f"), looks := false }, kinds := [], alts := [], laidByText := true, laidKinds := [.data], laidTests := true, laidLooks := .later }
def LosslessErrorsCardSaid : Prop := Claim7.holds Tryz.pinned (.plain (OpenSpec.ofChange losslessErrorsSpec)) losslessErrorsCard

/-- THE TIED CARD OF 'drosslaw21.LosslessCounterexample'. -/
def losslessCounterexampleCard : Claim7 := { stood := { row := losslessCounterexampleRow, standIns := [], harness := (true, "0e09c0bca685b75118efcf880cbb2c4e77a6a5414fa1c18588063b187410734f"), looks := false }, kinds := [], alts := [], laidByText := true, laidKinds := [.data], laidTests := true, laidLooks := .later }
def LosslessCounterexampleCardSaid : Prop := Claim7.holds Tryz.pinned (.plain (OpenSpec.ofChange losslessCounterexampleSpec)) losslessCounterexampleCard

/-- THE TIED CARD OF 'drosslaw21.LosslessJoined'. -/
def losslessJoinedCard : Claim7 := { stood := { row := losslessJoinedRow, standIns := [], harness := (true, "0e09c0bca685b75118efcf880cbb2c4e77a6a5414fa1c18588063b187410734f"), looks := false }, kinds := [], alts := [], laidByText := true, laidKinds := [.data], laidTests := true, laidLooks := .later }
def LosslessJoinedCardSaid : Prop := Claim7.holds Tryz.pinned (.plain (OpenSpec.ofChange losslessJoinedSpec)) losslessJoinedCard

/-- THE TIED CARD OF 'drosslaw21.LosslessTables'. -/
def losslessTablesCard : Claim7 := { stood := { row := losslessTablesRow, standIns := [], harness := (true, "0e09c0bca685b75118efcf880cbb2c4e77a6a5414fa1c18588063b187410734f"), looks := false }, kinds := [], alts := [], laidByText := true, laidKinds := [.data], laidTests := true, laidLooks := .later }
def LosslessTablesCardSaid : Prop := Claim7.holds Tryz.pinned (.plain (OpenSpec.ofChange losslessTablesSpec)) losslessTablesCard

/-- THE TIED CARD OF 'drosslaw21.LosslessBinary'. -/
def losslessBinaryCard : Claim7 := { stood := { row := losslessBinaryRow, standIns := [], harness := (true, "0e09c0bca685b75118efcf880cbb2c4e77a6a5414fa1c18588063b187410734f"), looks := false }, kinds := [], alts := [], laidByText := true, laidKinds := [.data], laidTests := true, laidLooks := .later }
def LosslessBinaryCardSaid : Prop := Claim7.holds Tryz.pinned (.plain (OpenSpec.ofChange losslessBinarySpec)) losslessBinaryCard

/-- THE TIED CARD OF 'drosslaw21.LosslessCheck'. -/
def losslessCheckCard : Claim7 := { stood := { row := losslessCheckRow, standIns := [], harness := (true, "0e09c0bca685b75118efcf880cbb2c4e77a6a5414fa1c18588063b187410734f"), looks := false }, kinds := [], alts := [], laidByText := true, laidKinds := [.data], laidTests := true, laidLooks := .later }
def LosslessCheckCardSaid : Prop := Claim7.holds Tryz.pinned (.plain (OpenSpec.ofChange losslessCheckSpec)) losslessCheckCard

/-- THE SECOND FORM's CARD OF 'drosslaw21.LosslessValid'. -/
def losslessValidUptoCard : Claim7 := { stood := { row := losslessValidUptoRow, standIns := [], harness := (true, "0e09c0bca685b75118efcf880cbb2c4e77a6a5414fa1c18588063b187410734f"), looks := false }, kinds := [], alts := [], laidByText := true, laidKinds := [.data], laidTests := true, laidLooks := .later }
def LosslessValidUptoCardSaid : Prop := Claim7.holds Tryz.pinned (.plain (OpenSpec.upto losslessValidSpec)) losslessValidUptoCard

/-- THE SECOND FORM's CARD OF 'drosslaw21.LosslessIs'. -/
def losslessIsUptoCard : Claim7 := { stood := { row := losslessIsUptoRow, standIns := [], harness := (true, "0e09c0bca685b75118efcf880cbb2c4e77a6a5414fa1c18588063b187410734f"), looks := false }, kinds := [], alts := [], laidByText := true, laidKinds := [.data], laidTests := true, laidLooks := .later }
def LosslessIsUptoCardSaid : Prop := Claim7.holds Tryz.pinned (.plain (OpenSpec.upto losslessIsSpec)) losslessIsUptoCard

/-- THE SECOND FORM's CARD OF 'drosslaw21.LosslessErrors'. -/
def losslessErrorsUptoCard : Claim7 := { stood := { row := losslessErrorsUptoRow, standIns := [], harness := (true, "0e09c0bca685b75118efcf880cbb2c4e77a6a5414fa1c18588063b187410734f"), looks := false }, kinds := [], alts := [], laidByText := true, laidKinds := [.data], laidTests := true, laidLooks := .later }
def LosslessErrorsUptoCardSaid : Prop := Claim7.holds Tryz.pinned (.plain (OpenSpec.upto losslessErrorsSpec)) losslessErrorsUptoCard

/-- THE SECOND FORM's CARD OF 'drosslaw21.LosslessCounterexample'. -/
def losslessCounterexampleUptoCard : Claim7 := { stood := { row := losslessCounterexampleUptoRow, standIns := [], harness := (true, "0e09c0bca685b75118efcf880cbb2c4e77a6a5414fa1c18588063b187410734f"), looks := false }, kinds := [], alts := [], laidByText := true, laidKinds := [.data], laidTests := true, laidLooks := .later }
def LosslessCounterexampleUptoCardSaid : Prop := Claim7.holds Tryz.pinned (.plain (OpenSpec.upto losslessCounterexampleSpec)) losslessCounterexampleUptoCard

/-- THE SECOND FORM's CARD OF 'drosslaw21.LosslessJoined'. -/
def losslessJoinedUptoCard : Claim7 := { stood := { row := losslessJoinedUptoRow, standIns := [], harness := (true, "0e09c0bca685b75118efcf880cbb2c4e77a6a5414fa1c18588063b187410734f"), looks := false }, kinds := [], alts := [], laidByText := true, laidKinds := [.data], laidTests := true, laidLooks := .later }
def LosslessJoinedUptoCardSaid : Prop := Claim7.holds Tryz.pinned (.plain (OpenSpec.upto losslessJoinedSpec)) losslessJoinedUptoCard

/-- THE SECOND FORM's CARD OF 'drosslaw21.LosslessTables'. -/
def losslessTablesUptoCard : Claim7 := { stood := { row := losslessTablesUptoRow, standIns := [], harness := (true, "0e09c0bca685b75118efcf880cbb2c4e77a6a5414fa1c18588063b187410734f"), looks := false }, kinds := [], alts := [], laidByText := true, laidKinds := [.data], laidTests := true, laidLooks := .later }
def LosslessTablesUptoCardSaid : Prop := Claim7.holds Tryz.pinned (.plain (OpenSpec.upto losslessTablesSpec)) losslessTablesUptoCard

/-- THE SECOND FORM's CARD OF 'drosslaw21.LosslessBinary'. -/
def losslessBinaryUptoCard : Claim7 := { stood := { row := losslessBinaryUptoRow, standIns := [], harness := (true, "0e09c0bca685b75118efcf880cbb2c4e77a6a5414fa1c18588063b187410734f"), looks := false }, kinds := [], alts := [], laidByText := true, laidKinds := [.data], laidTests := true, laidLooks := .later }
def LosslessBinaryUptoCardSaid : Prop := Claim7.holds Tryz.pinned (.plain (OpenSpec.upto losslessBinarySpec)) losslessBinaryUptoCard

/-- THE SECOND FORM's CARD OF 'drosslaw21.LosslessCheck'. -/
def losslessCheckUptoCard : Claim7 := { stood := { row := losslessCheckUptoRow, standIns := [], harness := (true, "0e09c0bca685b75118efcf880cbb2c4e77a6a5414fa1c18588063b187410734f"), looks := false }, kinds := [], alts := [], laidByText := true, laidKinds := [.data], laidTests := true, laidLooks := .later }
def LosslessCheckUptoCardSaid : Prop := Claim7.holds Tryz.pinned (.plain (OpenSpec.upto losslessCheckSpec)) losslessCheckUptoCard
end Rows
end Go.Proofs.YteklilhbjjofbaaGreatDoor

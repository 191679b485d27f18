/-
  DERIVED. GIVEN WITH THE SEED: THE CARDS: each row of YtnlcekpflogjkaaGreatDoorRows.lean that lists a variable, with what it lists TIED to the program's text (the seventh form; the later family's looks); each row that meets fmt, with fmt's text TOLD by the authors' own Lean function (tested against real Go, not proved from fmt's source: count such statements apart). THE CARD IS WHAT COUNTS. Prove the row's statement (the work); the ties are given (YtnlcekpflogjkaaGreatDoorTie.lean); close each card by the builder's one call (the guide's Derived/Test/ToyasCard.lean, 'card_holds'). Laid BY PROGRAM, IN A SANDBOX (cutbox-door.mjs). By AI agents, Wed Nov 11 2026. No macro, syntax, notation, axiom, sorry.
-/
import Derived.Test.YtnlcekpflogjkaaGreatDoorRows
import GoSem.ClaimSeven
namespace Go.Proofs.YtnlcekpflogjkaaGreatDoor
namespace Rows

/-- THE TIED CARD OF 'drosstop.TopLossless'. -/
def topLosslessCard : Claim7 := { stood := { row := topLosslessRow, standIns := [], harness := (true, "a5f0098be1a0879995745288410159cbf3ecc5229c49f3ee2ee3c67e2c2ca65c"), looks := false }, kinds := [], alts := [], laidByText := true, laidKinds := [.data], laidTests := true, laidLooks := .later }
def TopLosslessCardSaid : Prop := Claim7.holds Tryz.pinned (.plain (OpenSpec.ofChange topLosslessSpec)) topLosslessCard

/-- THE TIED CARD OF 'drosstop.TopFourth'. -/
def topFourthCard : Claim7 := { stood := { row := topFourthRow, standIns := [], harness := (true, "a5f0098be1a0879995745288410159cbf3ecc5229c49f3ee2ee3c67e2c2ca65c"), looks := false }, kinds := [], alts := [], laidByText := true, laidKinds := [.data], laidTests := true, laidLooks := .later }
def TopFourthCardSaid : Prop := Claim7.holds Tryz.pinned (.plain (OpenSpec.ofChange topFourthSpec)) topFourthCard

/-- THE TIED CARD OF 'drosstop.TopForms'. -/
def topFormsCard : Claim7 := { stood := { row := topFormsRow, standIns := [], harness := (true, "a5f0098be1a0879995745288410159cbf3ecc5229c49f3ee2ee3c67e2c2ca65c"), looks := false }, kinds := [], alts := [], laidByText := true, laidKinds := [.data], laidTests := true, laidLooks := .later }
def TopFormsCardSaid : Prop := Claim7.holds Tryz.pinned (.plain (OpenSpec.ofChange topFormsSpec)) topFormsCard

/-- THE SECOND FORM's CARD OF 'drosstop.TopLossless'. -/
def topLosslessUptoCard : Claim7 := { stood := { row := topLosslessUptoRow, standIns := [], harness := (true, "a5f0098be1a0879995745288410159cbf3ecc5229c49f3ee2ee3c67e2c2ca65c"), looks := false }, kinds := [], alts := [], laidByText := true, laidKinds := [.data], laidTests := true, laidLooks := .later }
def TopLosslessUptoCardSaid : Prop := Claim7.holds Tryz.pinned (.plain (OpenSpec.upto topLosslessSpec)) topLosslessUptoCard

/-- THE SECOND FORM's CARD OF 'drosstop.TopFourth'. -/
def topFourthUptoCard : Claim7 := { stood := { row := topFourthUptoRow, standIns := [], harness := (true, "a5f0098be1a0879995745288410159cbf3ecc5229c49f3ee2ee3c67e2c2ca65c"), looks := false }, kinds := [], alts := [], laidByText := true, laidKinds := [.data], laidTests := true, laidLooks := .later }
def TopFourthUptoCardSaid : Prop := Claim7.holds Tryz.pinned (.plain (OpenSpec.upto topFourthSpec)) topFourthUptoCard

/-- THE SECOND FORM's CARD OF 'drosstop.TopForms'. -/
def topFormsUptoCard : Claim7 := { stood := { row := topFormsUptoRow, standIns := [], harness := (true, "a5f0098be1a0879995745288410159cbf3ecc5229c49f3ee2ee3c67e2c2ca65c"), looks := false }, kinds := [], alts := [], laidByText := true, laidKinds := [.data], laidTests := true, laidLooks := .later }
def TopFormsUptoCardSaid : Prop := Claim7.holds Tryz.pinned (.plain (OpenSpec.upto topFormsSpec)) topFormsUptoCard
end Rows
end Go.Proofs.YtnlcekpflogjkaaGreatDoor

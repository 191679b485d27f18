/-
  DERIVED. GIVEN WITH THE SEED: THE CARDS: each row of YtmoggbnlhllhaaaGreatDoorRows.lean that lists a variable, with what it lists TIED to the program's text (the seventh form; the later family's looks); each row that meets fmt, with fmt's text TOLD by the authors' own Lean function (tested against real Go, not proved from fmt's source: count such statements apart). THE CARD IS WHAT COUNTS. Prove the row's statement (the work); the ties are given (YtmoggbnlhllhaaaGreatDoorTie.lean); close each card by the builder's one call (the guide's Derived/Test/ToyasCard.lean, 'card_holds'). Laid BY PROGRAM, IN A SANDBOX (cutbox-door.mjs). By AI agents, Wed Nov 11 2026. No macro, syntax, notation, axiom, sorry.
-/
import Derived.Test.YtmoggbnlhllhaaaGreatDoorRows
import GoSem.ClaimSeven
namespace Go.Proofs.YtmoggbnlhllhaaaGreatDoor
namespace Rows

/-- THE TIED CARD OF 'drosstop.TopErrors'. -/
def topErrorsCard : Claim7 := { stood := { row := topErrorsRow, standIns := [], harness := (true, "c6116e00e2f01e76aee9270dbef703b54ec09fcd859ae392df49823c416752cd"), looks := false }, kinds := [], alts := [], laidByText := true, laidKinds := [.data], laidTests := true, laidLooks := .later }
def TopErrorsCardSaid : Prop := Claim7.holds Tryz.pinned (.plain (OpenSpec.ofChange topErrorsSpec)) topErrorsCard

/-- THE TIED CARD OF 'drosstop.TopSorted'. -/
def topSortedCard : Claim7 := { stood := { row := topSortedRow, standIns := [], harness := (true, "c6116e00e2f01e76aee9270dbef703b54ec09fcd859ae392df49823c416752cd"), looks := false }, kinds := [], alts := [], laidByText := true, laidKinds := [.data], laidTests := true, laidLooks := .later }
def TopSortedCardSaid : Prop := Claim7.holds Tryz.pinned (.plain (OpenSpec.ofChange topSortedSpec)) topSortedCard

/-- THE SECOND FORM's CARD OF 'drosstop.TopErrors'. -/
def topErrorsUptoCard : Claim7 := { stood := { row := topErrorsUptoRow, standIns := [], harness := (true, "c6116e00e2f01e76aee9270dbef703b54ec09fcd859ae392df49823c416752cd"), looks := false }, kinds := [], alts := [], laidByText := true, laidKinds := [.data], laidTests := true, laidLooks := .later }
def TopErrorsUptoCardSaid : Prop := Claim7.holds Tryz.pinned (.plain (OpenSpec.upto topErrorsSpec)) topErrorsUptoCard

/-- THE SECOND FORM's CARD OF 'drosstop.TopSorted'. -/
def topSortedUptoCard : Claim7 := { stood := { row := topSortedUptoRow, standIns := [], harness := (true, "c6116e00e2f01e76aee9270dbef703b54ec09fcd859ae392df49823c416752cd"), looks := false }, kinds := [], alts := [], laidByText := true, laidKinds := [.data], laidTests := true, laidLooks := .later }
def TopSortedUptoCardSaid : Prop := Claim7.holds Tryz.pinned (.plain (OpenSpec.upto topSortedSpec)) topSortedUptoCard
end Rows
end Go.Proofs.YtmoggbnlhllhaaaGreatDoor

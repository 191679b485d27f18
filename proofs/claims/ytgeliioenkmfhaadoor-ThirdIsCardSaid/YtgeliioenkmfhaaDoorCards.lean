/-
  DERIVED. GIVEN WITH THE SEED: THE CARDS: each row of YtgeliioenkmfhaaDoorRows.lean that lists a variable, with what it lists TIED to the program's text (the seventh form; the later family's looks); each row that meets fmt, with fmt's text TOLD by the authors' own Lean function (tested against real Go, not proved from fmt's source: count such statements apart). THE CARD IS WHAT COUNTS. Prove the row's statement (the work); the ties are given (YtgeliioenkmfhaaDoorTie.lean); close each card by the builder's one call (the guide's Derived/Test/ToyasCard.lean, 'card_holds'). Laid BY PROGRAM, IN A SANDBOX (cutbox-door.mjs). By AI agents, Wed Nov 11 2026. No macro, syntax, notation, axiom, sorry.
-/
import Derived.Test.YtgeliioenkmfhaaDoorRows
import GoSem.ClaimSeven
namespace Go.Proofs.YtgeliioenkmfhaaDoor
namespace Rows

/-- THE TIED CARD OF 'drosslaw23.ThirdIs'. -/
def thirdIsCard : Claim7 := { stood := { row := thirdIsRow, standIns := [], harness := (true, "866388f74016968c174049e6c5fef82911c0beacd16385cacc90516a2a327787"), looks := false }, kinds := [], alts := [], laidByText := true, laidKinds := [.data], laidTests := true, laidLooks := .later }
def ThirdIsCardSaid : Prop := Claim7.holds Tryd.pinned (.plain (OpenSpec.ofChange thirdIsSpec)) thirdIsCard

/-- THE TIED CARD OF 'drosslaw23.ThirdViolations'. -/
def thirdViolationsCard : Claim7 := { stood := { row := thirdViolationsRow, standIns := [], harness := (true, "866388f74016968c174049e6c5fef82911c0beacd16385cacc90516a2a327787"), looks := false }, kinds := [], alts := [], laidByText := true, laidKinds := [.data], laidTests := true, laidLooks := .later }
def ThirdViolationsCardSaid : Prop := Claim7.holds Tryd.pinned (.plain (OpenSpec.ofChange thirdViolationsSpec)) thirdViolationsCard

/-- THE TIED CARD OF 'drosslaw23.ThirdViolated'. -/
def thirdViolatedCard : Claim7 := { stood := { row := thirdViolatedRow, standIns := [], harness := (true, "866388f74016968c174049e6c5fef82911c0beacd16385cacc90516a2a327787"), looks := false }, kinds := [], alts := [], laidByText := true, laidKinds := [.data], laidTests := true, laidLooks := .later }
def ThirdViolatedCardSaid : Prop := Claim7.holds Tryd.pinned (.plain (OpenSpec.ofChange thirdViolatedSpec)) thirdViolatedCard

/-- THE TIED CARD OF 'drosslaw23.ThirdSynthesize'. -/
def thirdSynthesizeCard : Claim7 := { stood := { row := thirdSynthesizeRow, standIns := [], harness := (true, "866388f74016968c174049e6c5fef82911c0beacd16385cacc90516a2a327787"), looks := false }, kinds := [], alts := [], laidByText := true, laidKinds := [.data], laidTests := true, laidLooks := .later }
def ThirdSynthesizeCardSaid : Prop := Claim7.holds Tryd.pinned (.plain (OpenSpec.ofChange thirdSynthesizeSpec)) thirdSynthesizeCard

/-- THE TIED CARD OF 'drosslaw23.ThirdParts'. -/
def thirdPartsCard : Claim7 := { stood := { row := thirdPartsRow, standIns := [], harness := (true, "866388f74016968c174049e6c5fef82911c0beacd16385cacc90516a2a327787"), looks := false }, kinds := [], alts := [], laidByText := true, laidKinds := [.data], laidTests := true, laidLooks := .later }
def ThirdPartsCardSaid : Prop := Claim7.holds Tryd.pinned (.plain (OpenSpec.ofChange thirdPartsSpec)) thirdPartsCard

/-- THE TIED CARD OF 'drosslaw24.BoyceViolation'. -/
def boyceViolationCard : Claim7 := { stood := { row := boyceViolationRow, standIns := [], harness := (true, "866388f74016968c174049e6c5fef82911c0beacd16385cacc90516a2a327787"), looks := false }, kinds := [], alts := [], laidByText := true, laidKinds := [.data], laidTests := true, laidLooks := .later }
def BoyceViolationCardSaid : Prop := Claim7.holds Tryd.pinned (.plain (OpenSpec.ofChange boyceViolationSpec)) boyceViolationCard

/-- THE TIED CARD OF 'drosslaw24.BoyceIs'. -/
def boyceIsCard : Claim7 := { stood := { row := boyceIsRow, standIns := [], harness := (true, "866388f74016968c174049e6c5fef82911c0beacd16385cacc90516a2a327787"), looks := false }, kinds := [], alts := [], laidByText := true, laidKinds := [.data], laidTests := true, laidLooks := .later }
def BoyceIsCardSaid : Prop := Claim7.holds Tryd.pinned (.plain (OpenSpec.ofChange boyceIsSpec)) boyceIsCard

/-- THE TIED CARD OF 'drosslaw24.BoyceErrors'. -/
def boyceErrorsCard : Claim7 := { stood := { row := boyceErrorsRow, standIns := [], harness := (true, "866388f74016968c174049e6c5fef82911c0beacd16385cacc90516a2a327787"), looks := false }, kinds := [], alts := [], laidByText := true, laidKinds := [.data], laidTests := true, laidLooks := .later }
def BoyceErrorsCardSaid : Prop := Claim7.holds Tryd.pinned (.plain (OpenSpec.ofChange boyceErrorsSpec)) boyceErrorsCard

/-- THE TIED CARD OF 'drosslaw23.ThirdLocal'. -/
def thirdLocalCard : Claim7 := { stood := { row := thirdLocalRow, standIns := [], harness := (true, "866388f74016968c174049e6c5fef82911c0beacd16385cacc90516a2a327787"), looks := false }, kinds := [], alts := [], laidByText := true, laidKinds := [.data], laidTests := true, laidLooks := .later }
def ThirdLocalCardSaid : Prop := Claim7.holds Tryd.pinned (.plain (OpenSpec.ofChange thirdLocalSpec)) thirdLocalCard

/-- THE SECOND FORM's CARD OF 'drosslaw23.ThirdIs'. -/
def thirdIsUptoCard : Claim7 := { stood := { row := thirdIsUptoRow, standIns := [], harness := (true, "866388f74016968c174049e6c5fef82911c0beacd16385cacc90516a2a327787"), looks := false }, kinds := [], alts := [], laidByText := true, laidKinds := [.data], laidTests := true, laidLooks := .later }
def ThirdIsUptoCardSaid : Prop := Claim7.holds Tryd.pinned (.plain (OpenSpec.upto thirdIsSpec)) thirdIsUptoCard

/-- THE SECOND FORM's CARD OF 'drosslaw23.ThirdViolations'. -/
def thirdViolationsUptoCard : Claim7 := { stood := { row := thirdViolationsUptoRow, standIns := [], harness := (true, "866388f74016968c174049e6c5fef82911c0beacd16385cacc90516a2a327787"), looks := false }, kinds := [], alts := [], laidByText := true, laidKinds := [.data], laidTests := true, laidLooks := .later }
def ThirdViolationsUptoCardSaid : Prop := Claim7.holds Tryd.pinned (.plain (OpenSpec.upto thirdViolationsSpec)) thirdViolationsUptoCard

/-- THE SECOND FORM's CARD OF 'drosslaw23.ThirdViolated'. -/
def thirdViolatedUptoCard : Claim7 := { stood := { row := thirdViolatedUptoRow, standIns := [], harness := (true, "866388f74016968c174049e6c5fef82911c0beacd16385cacc90516a2a327787"), looks := false }, kinds := [], alts := [], laidByText := true, laidKinds := [.data], laidTests := true, laidLooks := .later }
def ThirdViolatedUptoCardSaid : Prop := Claim7.holds Tryd.pinned (.plain (OpenSpec.upto thirdViolatedSpec)) thirdViolatedUptoCard

/-- THE SECOND FORM's CARD OF 'drosslaw23.ThirdSynthesize'. -/
def thirdSynthesizeUptoCard : Claim7 := { stood := { row := thirdSynthesizeUptoRow, standIns := [], harness := (true, "866388f74016968c174049e6c5fef82911c0beacd16385cacc90516a2a327787"), looks := false }, kinds := [], alts := [], laidByText := true, laidKinds := [.data], laidTests := true, laidLooks := .later }
def ThirdSynthesizeUptoCardSaid : Prop := Claim7.holds Tryd.pinned (.plain (OpenSpec.upto thirdSynthesizeSpec)) thirdSynthesizeUptoCard

/-- THE SECOND FORM's CARD OF 'drosslaw23.ThirdParts'. -/
def thirdPartsUptoCard : Claim7 := { stood := { row := thirdPartsUptoRow, standIns := [], harness := (true, "866388f74016968c174049e6c5fef82911c0beacd16385cacc90516a2a327787"), looks := false }, kinds := [], alts := [], laidByText := true, laidKinds := [.data], laidTests := true, laidLooks := .later }
def ThirdPartsUptoCardSaid : Prop := Claim7.holds Tryd.pinned (.plain (OpenSpec.upto thirdPartsSpec)) thirdPartsUptoCard

/-- THE SECOND FORM's CARD OF 'drosslaw24.BoyceViolation'. -/
def boyceViolationUptoCard : Claim7 := { stood := { row := boyceViolationUptoRow, standIns := [], harness := (true, "866388f74016968c174049e6c5fef82911c0beacd16385cacc90516a2a327787"), looks := false }, kinds := [], alts := [], laidByText := true, laidKinds := [.data], laidTests := true, laidLooks := .later }
def BoyceViolationUptoCardSaid : Prop := Claim7.holds Tryd.pinned (.plain (OpenSpec.upto boyceViolationSpec)) boyceViolationUptoCard

/-- THE SECOND FORM's CARD OF 'drosslaw24.BoyceIs'. -/
def boyceIsUptoCard : Claim7 := { stood := { row := boyceIsUptoRow, standIns := [], harness := (true, "866388f74016968c174049e6c5fef82911c0beacd16385cacc90516a2a327787"), looks := false }, kinds := [], alts := [], laidByText := true, laidKinds := [.data], laidTests := true, laidLooks := .later }
def BoyceIsUptoCardSaid : Prop := Claim7.holds Tryd.pinned (.plain (OpenSpec.upto boyceIsSpec)) boyceIsUptoCard

/-- THE SECOND FORM's CARD OF 'drosslaw24.BoyceErrors'. -/
def boyceErrorsUptoCard : Claim7 := { stood := { row := boyceErrorsUptoRow, standIns := [], harness := (true, "866388f74016968c174049e6c5fef82911c0beacd16385cacc90516a2a327787"), looks := false }, kinds := [], alts := [], laidByText := true, laidKinds := [.data], laidTests := true, laidLooks := .later }
def BoyceErrorsUptoCardSaid : Prop := Claim7.holds Tryd.pinned (.plain (OpenSpec.upto boyceErrorsSpec)) boyceErrorsUptoCard

/-- THE SECOND FORM's CARD OF 'drosslaw23.ThirdLocal'. -/
def thirdLocalUptoCard : Claim7 := { stood := { row := thirdLocalUptoRow, standIns := [], harness := (true, "866388f74016968c174049e6c5fef82911c0beacd16385cacc90516a2a327787"), looks := false }, kinds := [], alts := [], laidByText := true, laidKinds := [.data], laidTests := true, laidLooks := .later }
def ThirdLocalUptoCardSaid : Prop := Claim7.holds Tryd.pinned (.plain (OpenSpec.upto thirdLocalSpec)) thirdLocalUptoCard
end Rows
end Go.Proofs.YtgeliioenkmfhaaDoor

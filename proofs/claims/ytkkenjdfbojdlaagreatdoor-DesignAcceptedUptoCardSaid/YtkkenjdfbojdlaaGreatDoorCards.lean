/-
  DERIVED. GIVEN WITH THE SEED: THE CARDS: each row of YtkkenjdfbojdlaaGreatDoorRows.lean that lists a variable, with what it lists TIED to the program's text (the seventh form; the later family's looks); each row that meets fmt, with fmt's text TOLD by the authors' own Lean function (tested against real Go, not proved from fmt's source: count such statements apart). THE CARD IS WHAT COUNTS. Prove the row's statement (the work); the ties are given (YtkkenjdfbojdlaaGreatDoorTie.lean); close each card by the builder's one call (the guide's Derived/Test/ToyasCard.lean, 'card_holds'). Laid BY PROGRAM, IN A SANDBOX (cutbox-door.mjs). By AI agents, Wed Nov 11 2026. No macro, syntax, notation, axiom, sorry.
-/
import Derived.Test.YtkkenjdfbojdlaaGreatDoorRows
import GoSem.ClaimSeven
namespace Go.Proofs.YtkkenjdfbojdlaaGreatDoor
namespace Rows

/-- THE TIED CARD OF 'drosslaw26.DesignPropose'. -/
def designProposeCard : Claim7 := { stood := { row := designProposeRow, standIns := [], harness := (true, "02013b5105bb00e88820c68a126bb2ca56064e3c0ebb0947e8b9c3909c1848c3"), looks := false }, kinds := [], alts := [], laidByText := true, laidKinds := [.data], laidTests := true, laidLooks := .later }
def DesignProposeCardSaid : Prop := Claim7.holds Tryz.pinned (.plain (OpenSpec.ofChange designProposeSpec)) designProposeCard

/-- THE TIED CARD OF 'drosslaw26.DesignBest'. -/
def designBestCard : Claim7 := { stood := { row := designBestRow, standIns := [], harness := (true, "02013b5105bb00e88820c68a126bb2ca56064e3c0ebb0947e8b9c3909c1848c3"), looks := false }, kinds := [], alts := [], laidByText := true, laidKinds := [.data], laidTests := true, laidLooks := .later }
def DesignBestCardSaid : Prop := Claim7.holds Tryz.pinned (.plain (OpenSpec.ofChange designBestSpec)) designBestCard

/-- THE TIED CARD OF 'drosslaw26.DesignErrors'. -/
def designErrorsCard : Claim7 := { stood := { row := designErrorsRow, standIns := [], harness := (true, "02013b5105bb00e88820c68a126bb2ca56064e3c0ebb0947e8b9c3909c1848c3"), looks := false }, kinds := [], alts := [], laidByText := true, laidKinds := [.data], laidTests := true, laidLooks := .later }
def DesignErrorsCardSaid : Prop := Claim7.holds Tryz.pinned (.plain (OpenSpec.ofChange designErrorsSpec)) designErrorsCard

/-- THE TIED CARD OF 'drosslaw26.DesignClaims'. -/
def designClaimsCard : Claim7 := { stood := { row := designClaimsRow, standIns := [], harness := (true, "02013b5105bb00e88820c68a126bb2ca56064e3c0ebb0947e8b9c3909c1848c3"), looks := false }, kinds := [], alts := [], laidByText := true, laidKinds := [.data], laidTests := true, laidLooks := .later }
def DesignClaimsCardSaid : Prop := Claim7.holds Tryz.pinned (.plain (OpenSpec.ofChange designClaimsSpec)) designClaimsCard

/-- THE TIED CARD OF 'drosslaw26.DesignReport'. -/
def designReportCard : Claim7 := { stood := { row := designReportRow, standIns := [], harness := (true, "02013b5105bb00e88820c68a126bb2ca56064e3c0ebb0947e8b9c3909c1848c3"), looks := false }, kinds := [], alts := [], laidByText := true, laidKinds := [.data], laidTests := true, laidLooks := .later }
def DesignReportCardSaid : Prop := Claim7.holds Tryz.pinned (.plain (OpenSpec.ofChange designReportSpec)) designReportCard

/-- THE TIED CARD OF 'drosslaw26.DesignCheck'. -/
def designCheckCard : Claim7 := { stood := { row := designCheckRow, standIns := [], harness := (true, "02013b5105bb00e88820c68a126bb2ca56064e3c0ebb0947e8b9c3909c1848c3"), looks := false }, kinds := [], alts := [], laidByText := true, laidKinds := [.data], laidTests := true, laidLooks := .later }
def DesignCheckCardSaid : Prop := Claim7.holds Tryz.pinned (.plain (OpenSpec.ofChange designCheckSpec)) designCheckCard

/-- THE TIED CARD OF 'drosslaw26.DesignAccepted'. -/
def designAcceptedCard : Claim7 := { stood := { row := designAcceptedRow, standIns := [], harness := (true, "02013b5105bb00e88820c68a126bb2ca56064e3c0ebb0947e8b9c3909c1848c3"), looks := false }, kinds := [], alts := [], laidByText := true, laidKinds := [.data], laidTests := true, laidLooks := .later }
def DesignAcceptedCardSaid : Prop := Claim7.holds Tryz.pinned (.plain (OpenSpec.ofChange designAcceptedSpec)) designAcceptedCard

/-- THE SECOND FORM's CARD OF 'drosslaw26.DesignPropose'. -/
def designProposeUptoCard : Claim7 := { stood := { row := designProposeUptoRow, standIns := [], harness := (true, "02013b5105bb00e88820c68a126bb2ca56064e3c0ebb0947e8b9c3909c1848c3"), looks := false }, kinds := [], alts := [], laidByText := true, laidKinds := [.data], laidTests := true, laidLooks := .later }
def DesignProposeUptoCardSaid : Prop := Claim7.holds Tryz.pinned (.plain (OpenSpec.upto designProposeSpec)) designProposeUptoCard

/-- THE SECOND FORM's CARD OF 'drosslaw26.DesignBest'. -/
def designBestUptoCard : Claim7 := { stood := { row := designBestUptoRow, standIns := [], harness := (true, "02013b5105bb00e88820c68a126bb2ca56064e3c0ebb0947e8b9c3909c1848c3"), looks := false }, kinds := [], alts := [], laidByText := true, laidKinds := [.data], laidTests := true, laidLooks := .later }
def DesignBestUptoCardSaid : Prop := Claim7.holds Tryz.pinned (.plain (OpenSpec.upto designBestSpec)) designBestUptoCard

/-- THE SECOND FORM's CARD OF 'drosslaw26.DesignErrors'. -/
def designErrorsUptoCard : Claim7 := { stood := { row := designErrorsUptoRow, standIns := [], harness := (true, "02013b5105bb00e88820c68a126bb2ca56064e3c0ebb0947e8b9c3909c1848c3"), looks := false }, kinds := [], alts := [], laidByText := true, laidKinds := [.data], laidTests := true, laidLooks := .later }
def DesignErrorsUptoCardSaid : Prop := Claim7.holds Tryz.pinned (.plain (OpenSpec.upto designErrorsSpec)) designErrorsUptoCard

/-- THE SECOND FORM's CARD OF 'drosslaw26.DesignClaims'. -/
def designClaimsUptoCard : Claim7 := { stood := { row := designClaimsUptoRow, standIns := [], harness := (true, "02013b5105bb00e88820c68a126bb2ca56064e3c0ebb0947e8b9c3909c1848c3"), looks := false }, kinds := [], alts := [], laidByText := true, laidKinds := [.data], laidTests := true, laidLooks := .later }
def DesignClaimsUptoCardSaid : Prop := Claim7.holds Tryz.pinned (.plain (OpenSpec.upto designClaimsSpec)) designClaimsUptoCard

/-- THE SECOND FORM's CARD OF 'drosslaw26.DesignReport'. -/
def designReportUptoCard : Claim7 := { stood := { row := designReportUptoRow, standIns := [], harness := (true, "02013b5105bb00e88820c68a126bb2ca56064e3c0ebb0947e8b9c3909c1848c3"), looks := false }, kinds := [], alts := [], laidByText := true, laidKinds := [.data], laidTests := true, laidLooks := .later }
def DesignReportUptoCardSaid : Prop := Claim7.holds Tryz.pinned (.plain (OpenSpec.upto designReportSpec)) designReportUptoCard

/-- THE SECOND FORM's CARD OF 'drosslaw26.DesignCheck'. -/
def designCheckUptoCard : Claim7 := { stood := { row := designCheckUptoRow, standIns := [], harness := (true, "02013b5105bb00e88820c68a126bb2ca56064e3c0ebb0947e8b9c3909c1848c3"), looks := false }, kinds := [], alts := [], laidByText := true, laidKinds := [.data], laidTests := true, laidLooks := .later }
def DesignCheckUptoCardSaid : Prop := Claim7.holds Tryz.pinned (.plain (OpenSpec.upto designCheckSpec)) designCheckUptoCard

/-- THE SECOND FORM's CARD OF 'drosslaw26.DesignAccepted'. -/
def designAcceptedUptoCard : Claim7 := { stood := { row := designAcceptedUptoRow, standIns := [], harness := (true, "02013b5105bb00e88820c68a126bb2ca56064e3c0ebb0947e8b9c3909c1848c3"), looks := false }, kinds := [], alts := [], laidByText := true, laidKinds := [.data], laidTests := true, laidLooks := .later }
def DesignAcceptedUptoCardSaid : Prop := Claim7.holds Tryz.pinned (.plain (OpenSpec.upto designAcceptedSpec)) designAcceptedUptoCard
end Rows
end Go.Proofs.YtkkenjdfbojdlaaGreatDoor

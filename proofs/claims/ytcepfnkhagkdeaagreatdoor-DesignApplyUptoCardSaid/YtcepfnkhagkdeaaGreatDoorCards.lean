/-
  DERIVED. GIVEN WITH THE SEED: THE CARDS: each row of YtcepfnkhagkdeaaGreatDoorRows.lean that lists a variable, with what it lists TIED to the program's text (the seventh form; the later family's looks); each row that meets fmt, with fmt's text TOLD by the authors' own Lean function (tested against real Go, not proved from fmt's source: count such statements apart). THE CARD IS WHAT COUNTS. Prove the row's statement (the work); the ties are given (YtcepfnkhagkdeaaGreatDoorTie.lean); close each card by the builder's one call (the guide's Derived/Test/ToyasCard.lean, 'card_holds'). Laid BY PROGRAM, IN A SANDBOX (cutbox-door.mjs). By AI agents, Wed Nov 11 2026. No macro, syntax, notation, axiom, sorry.
-/
import Derived.Test.YtcepfnkhagkdeaaGreatDoorRows
import GoSem.ClaimSeven
namespace Go.Proofs.YtcepfnkhagkdeaaGreatDoor
namespace Rows

/-- THE TIED CARD OF 'drosslaw26.DesignApply'. -/
def designApplyCard : Claim7 := { stood := { row := designApplyRow, standIns := [], harness := (true, "a47c8f50f8c73d5b160f95b2d525b559b359be85c80a41169ff203eea5ec09e0"), looks := false }, kinds := [], alts := [], laidByText := true, laidKinds := [.data, .data, .data], laidTests := true, laidLooks := .later }
def DesignApplyCardSaid : Prop := Claim7.holds Tryz.pinned (.plain (OpenSpec.ofChange designApplySpec)) designApplyCard

/-- THE SECOND FORM's CARD OF 'drosslaw26.DesignApply'. -/
def designApplyUptoCard : Claim7 := { stood := { row := designApplyUptoRow, standIns := [], harness := (true, "a47c8f50f8c73d5b160f95b2d525b559b359be85c80a41169ff203eea5ec09e0"), looks := false }, kinds := [], alts := [], laidByText := true, laidKinds := [.data, .data, .data], laidTests := true, laidLooks := .later }
def DesignApplyUptoCardSaid : Prop := Claim7.holds Tryz.pinned (.plain (OpenSpec.upto designApplySpec)) designApplyUptoCard
end Rows
end Go.Proofs.YtcepfnkhagkdeaaGreatDoor

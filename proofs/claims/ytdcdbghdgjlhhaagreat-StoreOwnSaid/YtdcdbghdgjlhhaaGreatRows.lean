/-
  No cell of these rows narrows 'for every input' (looked for: loops, veiled, ifaces, maps, wideKeys, modest, calm, conditions, laid).
  DERIVED. THE GIVEN ROWS OF THIS SEAT. 6 by the template 'for every input the law returns true; each argument reads behind the call as it read before'; 0 by the template 'total and deterministic' (their statements: YtdcdbghdgjlhhaaGreatTotals.lean).
  GIVEN WITH THE SEED: the statements are not yours to turn. If you find one false, say at which input.
  Laid BY PROGRAM, IN A SANDBOX (cutbox-rows.mjs): the forced cells as the released guide's own fill.sh prints them over the translation 9f89c2cab8a8ba14… (all of the seat's roots in one cut). By AI agents, Wed Nov 11 2026. No macro, syntax, notation, axiom, sorry.
-/
import Derived.Test.YtdcdbghdgjlhhaaGreatChecked
import GoSem.Claim
import GoSem.ClaimJoined
import GoSem.ClaimMapViews
import Derived.JoinedTies
import Derived.KernelRfl
namespace Go.Proofs.YtdcdbghdgjlhhaaGreat
/- THE CELL 'sum', in the pinned program and in every row, IS THE sha256 OF THE DUMP (.gsa) THAT YtdcdbghdgjlhhaaGreatProg.lean LOADS. Nothing in Lean hashes anything: it is a label: what it is worth is what the hold of that sum in a sandbox is worth. -/
noncomputable def Tryz.pinned : Pinned := { name := "ytdcdbghdgjlhhaagreat", sum := "9f89c2cab8a8ba14513bd90bd01f6d0822cd6b117c421ff2ef76705ff31ef516", checked := Tryz.checked }
namespace Rows
def none {H : Type} : Left H := { results := [], args := [] }

/-- 'drosslaw58.StoreJournal': WHATEVER THE INPUT: true; the input reads as it did. -/
def storeJournalSpec : ChangeSpec := { name := "storeJournal", fn := fun _ => fun
  | [d1, d2, d3] => { results := [.lit (.bool true)], args := [d1, d2, d3] }
  | _ => none }
def storeJournalRow : OpenClaim := { program := "ytdcdbghdgjlhhaagreat", sum := "9f89c2cab8a8ba14513bd90bd01f6d0822cd6b117c421ff2ef76705ff31ef516", func := "dross/drosslaw58.StoreJournal", spec := "storeJournal", inPlace := ["slices.overlaps[dross/api.Row]", "slices.overlaps[dross/api.Change]"], unfollowed := true, recurses := true, apart := false }
def StoreJournalSaid : Prop := storeJournalRow.holds Tryz.pinned (OpenSpec.ofChange storeJournalSpec)

/-- ITS FALSE NEIGHBOUR: 'it returns false'. Refute it at one input. -/
def storeJournalWrong : ChangeSpec := { name := "storeJournal", fn := fun _ => fun
  | [d1, d2, d3] => { results := [.lit (.bool false)], args := [d1, d2, d3] }
  | _ => none }
def StoreJournalWrongFalsely : Prop := storeJournalRow.holds Tryz.pinned (OpenSpec.ofChange storeJournalWrong)

/-- 'drosslaw58.StoreScript': WHATEVER THE INPUT: true; the input reads as it did. -/
def storeScriptSpec : ChangeSpec := { name := "storeScript", fn := fun _ => fun
  | [d] => { results := [.lit (.bool true)], args := [d] }
  | _ => none }
def storeScriptRow : OpenClaim := { program := "ytdcdbghdgjlhhaagreat", sum := "9f89c2cab8a8ba14513bd90bd01f6d0822cd6b117c421ff2ef76705ff31ef516", func := "dross/drosslaw58.StoreScript", spec := "storeScript", inPlace := ["slices.overlaps[dross/api.Row]"], unfollowed := true, recurses := true, apart := false }
def StoreScriptSaid : Prop := storeScriptRow.holds Tryz.pinned (OpenSpec.ofChange storeScriptSpec)

/-- ITS FALSE NEIGHBOUR: 'it returns false'. Refute it at one input. -/
def storeScriptWrong : ChangeSpec := { name := "storeScript", fn := fun _ => fun
  | [d] => { results := [.lit (.bool false)], args := [d] }
  | _ => none }
def StoreScriptWrongFalsely : Prop := storeScriptRow.holds Tryz.pinned (OpenSpec.ofChange storeScriptWrong)

/-- 'drosslaw58.StoreUndo': WHATEVER THE INPUT: true; the input reads as it did. -/
def storeUndoSpec : ChangeSpec := { name := "storeUndo", fn := fun _ => fun
  | [d] => { results := [.lit (.bool true)], args := [d] }
  | _ => none }
def storeUndoRow : OpenClaim := { program := "ytdcdbghdgjlhhaagreat", sum := "9f89c2cab8a8ba14513bd90bd01f6d0822cd6b117c421ff2ef76705ff31ef516", func := "dross/drosslaw58.StoreUndo", spec := "storeUndo", inPlace := ["slices.overlaps[dross/api.Row]"], unfollowed := true, recurses := true, apart := false }
def StoreUndoSaid : Prop := storeUndoRow.holds Tryz.pinned (OpenSpec.ofChange storeUndoSpec)

/-- ITS FALSE NEIGHBOUR: 'it returns false'. Refute it at one input. -/
def storeUndoWrong : ChangeSpec := { name := "storeUndo", fn := fun _ => fun
  | [d] => { results := [.lit (.bool false)], args := [d] }
  | _ => none }
def StoreUndoWrongFalsely : Prop := storeUndoRow.holds Tryz.pinned (OpenSpec.ofChange storeUndoWrong)

/-- 'drosslaw58.StoreRollback': WHATEVER THE INPUT: true; the input reads as it did. -/
def storeRollbackSpec : ChangeSpec := { name := "storeRollback", fn := fun _ => fun
  | [d1, d2, d3] => { results := [.lit (.bool true)], args := [d1, d2, d3] }
  | _ => none }
def storeRollbackRow : OpenClaim := { program := "ytdcdbghdgjlhhaagreat", sum := "9f89c2cab8a8ba14513bd90bd01f6d0822cd6b117c421ff2ef76705ff31ef516", func := "dross/drosslaw58.StoreRollback", spec := "storeRollback", inPlace := ["slices.overlaps[dross/api.Row]"], unfollowed := true, recurses := true, apart := false }
def StoreRollbackSaid : Prop := storeRollbackRow.holds Tryz.pinned (OpenSpec.ofChange storeRollbackSpec)

/-- ITS FALSE NEIGHBOUR: 'it returns false'. Refute it at one input. -/
def storeRollbackWrong : ChangeSpec := { name := "storeRollback", fn := fun _ => fun
  | [d1, d2, d3] => { results := [.lit (.bool false)], args := [d1, d2, d3] }
  | _ => none }
def StoreRollbackWrongFalsely : Prop := storeRollbackRow.holds Tryz.pinned (OpenSpec.ofChange storeRollbackWrong)

/-- 'drosslaw58.StoreOwn': WHATEVER THE INPUT: true; the input reads as it did. -/
def storeOwnSpec : ChangeSpec := { name := "storeOwn", fn := fun _ => fun
  | [d] => { results := [.lit (.bool true)], args := [d] }
  | _ => none }
def storeOwnRow : OpenClaim := { program := "ytdcdbghdgjlhhaagreat", sum := "9f89c2cab8a8ba14513bd90bd01f6d0822cd6b117c421ff2ef76705ff31ef516", func := "dross/drosslaw58.StoreOwn", spec := "storeOwn", inPlace := ["slices.overlaps[dross/api.Row]"], unfollowed := true, recurses := true, apart := false }
def StoreOwnSaid : Prop := storeOwnRow.holds Tryz.pinned (OpenSpec.ofChange storeOwnSpec)

/-- ITS FALSE NEIGHBOUR: 'it returns false'. Refute it at one input. -/
def storeOwnWrong : ChangeSpec := { name := "storeOwn", fn := fun _ => fun
  | [d] => { results := [.lit (.bool false)], args := [d] }
  | _ => none }
def StoreOwnWrongFalsely : Prop := storeOwnRow.holds Tryz.pinned (OpenSpec.ofChange storeOwnWrong)

/-- 'drosslaw58.StoreReplay': WHATEVER THE INPUT: true; the input reads as it did. -/
def storeReplaySpec : ChangeSpec := { name := "storeReplay", fn := fun _ => fun
  | [d] => { results := [.lit (.bool true)], args := [d] }
  | _ => none }
def storeReplayRow : OpenClaim := { program := "ytdcdbghdgjlhhaagreat", sum := "9f89c2cab8a8ba14513bd90bd01f6d0822cd6b117c421ff2ef76705ff31ef516", func := "dross/drosslaw58.StoreReplay", spec := "storeReplay", inPlace := ["slices.overlaps[dross/api.Row]"], unfollowed := true, recurses := true, apart := false }
def StoreReplaySaid : Prop := storeReplayRow.holds Tryz.pinned (OpenSpec.ofChange storeReplaySpec)

/-- ITS FALSE NEIGHBOUR: 'it returns false'. Refute it at one input. -/
def storeReplayWrong : ChangeSpec := { name := "storeReplay", fn := fun _ => fun
  | [d] => { results := [.lit (.bool false)], args := [d] }
  | _ => none }
def StoreReplayWrongFalsely : Prop := storeReplayRow.holds Tryz.pinned (OpenSpec.ofChange storeReplayWrong)

/- THE SECOND FORM. 'bulk': how many values and letters a reading holds, each counted each time it is reached (what is shared counts as often as it is met; a slice's spare places count too). A statement '..UptoSaid' is the law's where the arguments, and the package variables that the reading takes, are together of bulk at most 1048576: NARROWER than '..Said'. Prove '..Said' where nothing that the law and all that it calls make is longer than what came in: it says more and counts as full. Else prove '..UptoSaid'. A law counts once. -/
mutual
def uptoBulk {H : Type} : DataW H → Nat
  | .lit (.string bytes) => bytes.length + 1
  | .lit _ => 1
  | .nil => 1
  | .ptr d => uptoBulk d + 1
  | .slice elems spare => uptoBulkAll elems + uptoBulkAll spare + 1
  | .agg parts => uptoBulkAll parts + 1
  | .iface _ d => uptoBulk d + 1
  | .map entries => uptoBulkEntries entries + 1
  | .held _ => 1
def uptoBulkAll {H : Type} : List (DataW H) → Nat
  | [] => 0
  | d :: r => uptoBulk d + uptoBulkAll r
def uptoBulkEntries {H : Type} : List (Lit × DataW H) → Nat
  | [] => 0
  | x :: r => uptoBulkEntry x + uptoBulkEntries r
def uptoBulkEntry {H : Type} : Lit × DataW H → Nat
  | (.string bytes, d) => bytes.length + uptoBulk d + 1
  | (_, d) => uptoBulk d + 1
 end
def uptoSmall : (H : Type) → List (DataW H) → Bool := fun _ ds => decide (uptoBulkAll ds ≤ 1048576)
def OpenSpec.upto (s : _root_.Go.ChangeSpec) : _root_.Go.OpenSpec := { _root_.Go.OpenSpec.ofChange s with cond := some uptoSmall }

/-- 'drosslaw58.StoreJournal', WHERE WHAT IT READS IS OF BULK AT MOST 1048576: true; the input reads as it did. -/
def storeJournalUptoRow : OpenClaim := { program := "ytdcdbghdgjlhhaagreat", sum := "9f89c2cab8a8ba14513bd90bd01f6d0822cd6b117c421ff2ef76705ff31ef516", func := "dross/drosslaw58.StoreJournal", spec := "storeJournal", inPlace := ["slices.overlaps[dross/api.Row]", "slices.overlaps[dross/api.Change]"], unfollowed := true, recurses := true, apart := false, narrowed := true }
def StoreJournalUptoSaid : Prop := storeJournalUptoRow.holds Tryz.pinned (OpenSpec.upto storeJournalSpec)

/-- 'drosslaw58.StoreScript', WHERE WHAT IT READS IS OF BULK AT MOST 1048576: true; the input reads as it did. -/
def storeScriptUptoRow : OpenClaim := { program := "ytdcdbghdgjlhhaagreat", sum := "9f89c2cab8a8ba14513bd90bd01f6d0822cd6b117c421ff2ef76705ff31ef516", func := "dross/drosslaw58.StoreScript", spec := "storeScript", inPlace := ["slices.overlaps[dross/api.Row]"], unfollowed := true, recurses := true, apart := false, narrowed := true }
def StoreScriptUptoSaid : Prop := storeScriptUptoRow.holds Tryz.pinned (OpenSpec.upto storeScriptSpec)

/-- 'drosslaw58.StoreUndo', WHERE WHAT IT READS IS OF BULK AT MOST 1048576: true; the input reads as it did. -/
def storeUndoUptoRow : OpenClaim := { program := "ytdcdbghdgjlhhaagreat", sum := "9f89c2cab8a8ba14513bd90bd01f6d0822cd6b117c421ff2ef76705ff31ef516", func := "dross/drosslaw58.StoreUndo", spec := "storeUndo", inPlace := ["slices.overlaps[dross/api.Row]"], unfollowed := true, recurses := true, apart := false, narrowed := true }
def StoreUndoUptoSaid : Prop := storeUndoUptoRow.holds Tryz.pinned (OpenSpec.upto storeUndoSpec)

/-- 'drosslaw58.StoreRollback', WHERE WHAT IT READS IS OF BULK AT MOST 1048576: true; the input reads as it did. -/
def storeRollbackUptoRow : OpenClaim := { program := "ytdcdbghdgjlhhaagreat", sum := "9f89c2cab8a8ba14513bd90bd01f6d0822cd6b117c421ff2ef76705ff31ef516", func := "dross/drosslaw58.StoreRollback", spec := "storeRollback", inPlace := ["slices.overlaps[dross/api.Row]"], unfollowed := true, recurses := true, apart := false, narrowed := true }
def StoreRollbackUptoSaid : Prop := storeRollbackUptoRow.holds Tryz.pinned (OpenSpec.upto storeRollbackSpec)

/-- 'drosslaw58.StoreOwn', WHERE WHAT IT READS IS OF BULK AT MOST 1048576: true; the input reads as it did. -/
def storeOwnUptoRow : OpenClaim := { program := "ytdcdbghdgjlhhaagreat", sum := "9f89c2cab8a8ba14513bd90bd01f6d0822cd6b117c421ff2ef76705ff31ef516", func := "dross/drosslaw58.StoreOwn", spec := "storeOwn", inPlace := ["slices.overlaps[dross/api.Row]"], unfollowed := true, recurses := true, apart := false, narrowed := true }
def StoreOwnUptoSaid : Prop := storeOwnUptoRow.holds Tryz.pinned (OpenSpec.upto storeOwnSpec)

/-- 'drosslaw58.StoreReplay', WHERE WHAT IT READS IS OF BULK AT MOST 1048576: true; the input reads as it did. -/
def storeReplayUptoRow : OpenClaim := { program := "ytdcdbghdgjlhhaagreat", sum := "9f89c2cab8a8ba14513bd90bd01f6d0822cd6b117c421ff2ef76705ff31ef516", func := "dross/drosslaw58.StoreReplay", spec := "storeReplay", inPlace := ["slices.overlaps[dross/api.Row]"], unfollowed := true, recurses := true, apart := false, narrowed := true }
def StoreReplayUptoSaid : Prop := storeReplayUptoRow.holds Tryz.pinned (OpenSpec.upto storeReplaySpec)

end Rows
end Go.Proofs.YtdcdbghdgjlhhaaGreat

/-
  No cell of these rows narrows 'for every input' (looked for: loops, veiled, ifaces, maps, wideKeys, modest, calm, conditions, laid).
  DERIVED. THE GIVEN ROWS OF THIS SEAT. 7 by the template 'for every input the law returns true; each argument reads behind the call as it read before'; 0 by the template 'total and deterministic' (their statements: YtaegkccfbmekbaaGreatTotals.lean).
  GIVEN WITH THE SEED: the statements are not yours to turn. If you find one false, say at which input.
  Laid BY PROGRAM, IN A SANDBOX (cutbox-rows.mjs): the forced cells as the released guide's own fill.sh prints them over the translation dfd29cdef8ac5a67… (all of the seat's roots in one cut). By AI agents, Wed Nov 11 2026. No macro, syntax, notation, axiom, sorry.
-/
import Derived.Test.YtaegkccfbmekbaaGreatChecked
import GoSem.Claim
import GoSem.ClaimJoined
import GoSem.ClaimMapViews
import Derived.JoinedTies
import Derived.KernelRfl
namespace Go.Proofs.YtaegkccfbmekbaaGreat
/- THE CELL 'sum', in the pinned program and in every row, IS THE sha256 OF THE DUMP (.gsa) THAT YtaegkccfbmekbaaGreatProg.lean LOADS. Nothing in Lean hashes anything: it is a label: what it is worth is what the hold of that sum in a sandbox is worth. -/
noncomputable def Tryz.pinned : Pinned := { name := "ytaegkccfbmekbaagreat", sum := "dfd29cdef8ac5a67e37749cf0e2dda6ab4638674ce289b56ca6597197d05ac1d", checked := Tryz.checked }
namespace Rows
def none {H : Type} : Left H := { results := [], args := [] }

/-- 'drosslaw33.MaintainNew': WHATEVER THE INPUT: true; the input reads as it did. -/
def maintainNewSpec : ChangeSpec := { name := "maintainNew", fn := fun _ => fun
  | [d1, d2] => { results := [.lit (.bool true)], args := [d1, d2] }
  | _ => none }
def maintainNewRow : OpenClaim := { program := "ytaegkccfbmekbaagreat", sum := "dfd29cdef8ac5a67e37749cf0e2dda6ab4638674ce289b56ca6597197d05ac1d", func := "dross/drosslaw33.MaintainNew", spec := "maintainNew", inPlace := ["slices.overlaps[dross/api.Row]", "internal/bytealg.abigen_runtime_cmpstring"], unfollowed := true, recurses := true, apart := false }
def MaintainNewSaid : Prop := maintainNewRow.holds Tryz.pinned (OpenSpec.ofChange maintainNewSpec)

/-- ITS FALSE NEIGHBOUR: 'it returns false'. Refute it at one input. -/
def maintainNewWrong : ChangeSpec := { name := "maintainNew", fn := fun _ => fun
  | [d1, d2] => { results := [.lit (.bool false)], args := [d1, d2] }
  | _ => none }
def MaintainNewWrongFalsely : Prop := maintainNewRow.holds Tryz.pinned (OpenSpec.ofChange maintainNewWrong)

/-- 'drosslaw33.MaintainOrder': WHATEVER THE INPUT: true; the input reads as it did. -/
def maintainOrderSpec : ChangeSpec := { name := "maintainOrder", fn := fun _ => fun
  | [d1, d2] => { results := [.lit (.bool true)], args := [d1, d2] }
  | _ => none }
def maintainOrderRow : OpenClaim := { program := "ytaegkccfbmekbaagreat", sum := "dfd29cdef8ac5a67e37749cf0e2dda6ab4638674ce289b56ca6597197d05ac1d", func := "dross/drosslaw33.MaintainOrder", spec := "maintainOrder", inPlace := ["slices.overlaps[dross/api.Row]", "internal/bytealg.abigen_runtime_cmpstring"], unfollowed := true, recurses := true, apart := false }
def MaintainOrderSaid : Prop := maintainOrderRow.holds Tryz.pinned (OpenSpec.ofChange maintainOrderSpec)

/-- ITS FALSE NEIGHBOUR: 'it returns false'. Refute it at one input. -/
def maintainOrderWrong : ChangeSpec := { name := "maintainOrder", fn := fun _ => fun
  | [d1, d2] => { results := [.lit (.bool false)], args := [d1, d2] }
  | _ => none }
def MaintainOrderWrongFalsely : Prop := maintainOrderRow.holds Tryz.pinned (OpenSpec.ofChange maintainOrderWrong)

/-- 'drosslaw33.MaintainChanged': WHATEVER THE INPUT: true; the input reads as it did. -/
def maintainChangedSpec : ChangeSpec := { name := "maintainChanged", fn := fun _ => fun
  | [d] => { results := [.lit (.bool true)], args := [d] }
  | _ => none }
def maintainChangedRow : OpenClaim := { program := "ytaegkccfbmekbaagreat", sum := "dfd29cdef8ac5a67e37749cf0e2dda6ab4638674ce289b56ca6597197d05ac1d", func := "dross/drosslaw33.MaintainChanged", spec := "maintainChanged", inPlace := ["slices.overlaps[dross/api.Row]", "internal/bytealg.abigen_runtime_cmpstring"], unfollowed := true, recurses := true, apart := false }
def MaintainChangedSaid : Prop := maintainChangedRow.holds Tryz.pinned (OpenSpec.ofChange maintainChangedSpec)

/-- ITS FALSE NEIGHBOUR: 'it returns false'. Refute it at one input. -/
def maintainChangedWrong : ChangeSpec := { name := "maintainChanged", fn := fun _ => fun
  | [d] => { results := [.lit (.bool false)], args := [d] }
  | _ => none }
def MaintainChangedWrongFalsely : Prop := maintainChangedRow.holds Tryz.pinned (OpenSpec.ofChange maintainChangedWrong)

/-- 'drosslaw33.MaintainLess': WHATEVER THE INPUT: true; the input reads as it did. -/
def maintainLessSpec : ChangeSpec := { name := "maintainLess", fn := fun _ => fun
  | [d] => { results := [.lit (.bool true)], args := [d] }
  | _ => none }
def maintainLessRow : OpenClaim := { program := "ytaegkccfbmekbaagreat", sum := "dfd29cdef8ac5a67e37749cf0e2dda6ab4638674ce289b56ca6597197d05ac1d", func := "dross/drosslaw33.MaintainLess", spec := "maintainLess", inPlace := ["slices.overlaps[dross/api.Row]", "internal/bytealg.abigen_runtime_cmpstring"], unfollowed := true, recurses := true, apart := false }
def MaintainLessSaid : Prop := maintainLessRow.holds Tryz.pinned (OpenSpec.ofChange maintainLessSpec)

/-- ITS FALSE NEIGHBOUR: 'it returns false'. Refute it at one input. -/
def maintainLessWrong : ChangeSpec := { name := "maintainLess", fn := fun _ => fun
  | [d] => { results := [.lit (.bool false)], args := [d] }
  | _ => none }
def MaintainLessWrongFalsely : Prop := maintainLessRow.holds Tryz.pinned (OpenSpec.ofChange maintainLessWrong)

/-- 'drosslaw33.MaintainScript': WHATEVER THE INPUT: true; the input reads as it did. -/
def maintainScriptSpec : ChangeSpec := { name := "maintainScript", fn := fun _ => fun
  | [d] => { results := [.lit (.bool true)], args := [d] }
  | _ => none }
def maintainScriptRow : OpenClaim := { program := "ytaegkccfbmekbaagreat", sum := "dfd29cdef8ac5a67e37749cf0e2dda6ab4638674ce289b56ca6597197d05ac1d", func := "dross/drosslaw33.MaintainScript", spec := "maintainScript", inPlace := ["slices.overlaps[dross/api.Row]", "internal/bytealg.abigen_runtime_cmpstring"], unfollowed := true, recurses := true, apart := false }
def MaintainScriptSaid : Prop := maintainScriptRow.holds Tryz.pinned (OpenSpec.ofChange maintainScriptSpec)

/-- ITS FALSE NEIGHBOUR: 'it returns false'. Refute it at one input. -/
def maintainScriptWrong : ChangeSpec := { name := "maintainScript", fn := fun _ => fun
  | [d] => { results := [.lit (.bool false)], args := [d] }
  | _ => none }
def MaintainScriptWrongFalsely : Prop := maintainScriptRow.holds Tryz.pinned (OpenSpec.ofChange maintainScriptWrong)

/-- 'drosslaw33.MaintainBack': WHATEVER THE INPUT: true; the input reads as it did. -/
def maintainBackSpec : ChangeSpec := { name := "maintainBack", fn := fun _ => fun
  | [d1, d2] => { results := [.lit (.bool true)], args := [d1, d2] }
  | _ => none }
def maintainBackRow : OpenClaim := { program := "ytaegkccfbmekbaagreat", sum := "dfd29cdef8ac5a67e37749cf0e2dda6ab4638674ce289b56ca6597197d05ac1d", func := "dross/drosslaw33.MaintainBack", spec := "maintainBack", inPlace := ["slices.overlaps[dross/api.Row]", "internal/bytealg.abigen_runtime_cmpstring"], unfollowed := true, recurses := true, apart := false }
def MaintainBackSaid : Prop := maintainBackRow.holds Tryz.pinned (OpenSpec.ofChange maintainBackSpec)

/-- ITS FALSE NEIGHBOUR: 'it returns false'. Refute it at one input. -/
def maintainBackWrong : ChangeSpec := { name := "maintainBack", fn := fun _ => fun
  | [d1, d2] => { results := [.lit (.bool false)], args := [d1, d2] }
  | _ => none }
def MaintainBackWrongFalsely : Prop := maintainBackRow.holds Tryz.pinned (OpenSpec.ofChange maintainBackWrong)

/-- 'drosslaw33.MaintainApart': WHATEVER THE INPUT: true; the input reads as it did. -/
def maintainApartSpec : ChangeSpec := { name := "maintainApart", fn := fun _ => fun
  | [d1, d2] => { results := [.lit (.bool true)], args := [d1, d2] }
  | _ => none }
def maintainApartRow : OpenClaim := { program := "ytaegkccfbmekbaagreat", sum := "dfd29cdef8ac5a67e37749cf0e2dda6ab4638674ce289b56ca6597197d05ac1d", func := "dross/drosslaw33.MaintainApart", spec := "maintainApart", inPlace := ["slices.overlaps[dross/api.Row]", "internal/bytealg.abigen_runtime_cmpstring"], unfollowed := true, recurses := true, apart := false }
def MaintainApartSaid : Prop := maintainApartRow.holds Tryz.pinned (OpenSpec.ofChange maintainApartSpec)

/-- ITS FALSE NEIGHBOUR: 'it returns false'. Refute it at one input. -/
def maintainApartWrong : ChangeSpec := { name := "maintainApart", fn := fun _ => fun
  | [d1, d2] => { results := [.lit (.bool false)], args := [d1, d2] }
  | _ => none }
def MaintainApartWrongFalsely : Prop := maintainApartRow.holds Tryz.pinned (OpenSpec.ofChange maintainApartWrong)

/- THE SECOND FORM. 'bulk': how many values and letters a reading holds, each counted each time it is reached (what is shared counts as often as it is met; a slice's spare places count too). A statement '..UptoSaid' is the law's where the arguments, and the package variables that the reading takes, are together of bulk at most 1048576: NARROWER than '..Said'. Prove '..Said' where nothing that the law and all that it calls make is longer than what came in: it says more and counts as full. Else prove '..UptoSaid'. A law counts once. -/
mutual
def uptoBulk {H : Type} : DataW H → Nat
  | .lit (.string bytes) => bytes.length + 1
  | .lit _ => 1
  | .nil => 1
  | .ptr d => uptoBulk d + 1
  | .slice elems spare => uptoBulkAll elems + uptoBulkAll spare + 1
  | .agg parts => uptoBulkAll parts + 1
  | .iface _ d => uptoBulk d + 1
  | .map entries => uptoBulkEntries entries + 1
  | .held _ => 1
def uptoBulkAll {H : Type} : List (DataW H) → Nat
  | [] => 0
  | d :: r => uptoBulk d + uptoBulkAll r
def uptoBulkEntries {H : Type} : List (Lit × DataW H) → Nat
  | [] => 0
  | x :: r => uptoBulkEntry x + uptoBulkEntries r
def uptoBulkEntry {H : Type} : Lit × DataW H → Nat
  | (.string bytes, d) => bytes.length + uptoBulk d + 1
  | (_, d) => uptoBulk d + 1
 end
def uptoSmall : (H : Type) → List (DataW H) → Bool := fun _ ds => decide (uptoBulkAll ds ≤ 1048576)
def OpenSpec.upto (s : _root_.Go.ChangeSpec) : _root_.Go.OpenSpec := { _root_.Go.OpenSpec.ofChange s with cond := some uptoSmall }

/-- 'drosslaw33.MaintainNew', WHERE WHAT IT READS IS OF BULK AT MOST 1048576: true; the input reads as it did. -/
def maintainNewUptoRow : OpenClaim := { program := "ytaegkccfbmekbaagreat", sum := "dfd29cdef8ac5a67e37749cf0e2dda6ab4638674ce289b56ca6597197d05ac1d", func := "dross/drosslaw33.MaintainNew", spec := "maintainNew", inPlace := ["slices.overlaps[dross/api.Row]", "internal/bytealg.abigen_runtime_cmpstring"], unfollowed := true, recurses := true, apart := false, narrowed := true }
def MaintainNewUptoSaid : Prop := maintainNewUptoRow.holds Tryz.pinned (OpenSpec.upto maintainNewSpec)

/-- 'drosslaw33.MaintainOrder', WHERE WHAT IT READS IS OF BULK AT MOST 1048576: true; the input reads as it did. -/
def maintainOrderUptoRow : OpenClaim := { program := "ytaegkccfbmekbaagreat", sum := "dfd29cdef8ac5a67e37749cf0e2dda6ab4638674ce289b56ca6597197d05ac1d", func := "dross/drosslaw33.MaintainOrder", spec := "maintainOrder", inPlace := ["slices.overlaps[dross/api.Row]", "internal/bytealg.abigen_runtime_cmpstring"], unfollowed := true, recurses := true, apart := false, narrowed := true }
def MaintainOrderUptoSaid : Prop := maintainOrderUptoRow.holds Tryz.pinned (OpenSpec.upto maintainOrderSpec)

/-- 'drosslaw33.MaintainChanged', WHERE WHAT IT READS IS OF BULK AT MOST 1048576: true; the input reads as it did. -/
def maintainChangedUptoRow : OpenClaim := { program := "ytaegkccfbmekbaagreat", sum := "dfd29cdef8ac5a67e37749cf0e2dda6ab4638674ce289b56ca6597197d05ac1d", func := "dross/drosslaw33.MaintainChanged", spec := "maintainChanged", inPlace := ["slices.overlaps[dross/api.Row]", "internal/bytealg.abigen_runtime_cmpstring"], unfollowed := true, recurses := true, apart := false, narrowed := true }
def MaintainChangedUptoSaid : Prop := maintainChangedUptoRow.holds Tryz.pinned (OpenSpec.upto maintainChangedSpec)

/-- 'drosslaw33.MaintainLess', WHERE WHAT IT READS IS OF BULK AT MOST 1048576: true; the input reads as it did. -/
def maintainLessUptoRow : OpenClaim := { program := "ytaegkccfbmekbaagreat", sum := "dfd29cdef8ac5a67e37749cf0e2dda6ab4638674ce289b56ca6597197d05ac1d", func := "dross/drosslaw33.MaintainLess", spec := "maintainLess", inPlace := ["slices.overlaps[dross/api.Row]", "internal/bytealg.abigen_runtime_cmpstring"], unfollowed := true, recurses := true, apart := false, narrowed := true }
def MaintainLessUptoSaid : Prop := maintainLessUptoRow.holds Tryz.pinned (OpenSpec.upto maintainLessSpec)

/-- 'drosslaw33.MaintainScript', WHERE WHAT IT READS IS OF BULK AT MOST 1048576: true; the input reads as it did. -/
def maintainScriptUptoRow : OpenClaim := { program := "ytaegkccfbmekbaagreat", sum := "dfd29cdef8ac5a67e37749cf0e2dda6ab4638674ce289b56ca6597197d05ac1d", func := "dross/drosslaw33.MaintainScript", spec := "maintainScript", inPlace := ["slices.overlaps[dross/api.Row]", "internal/bytealg.abigen_runtime_cmpstring"], unfollowed := true, recurses := true, apart := false, narrowed := true }
def MaintainScriptUptoSaid : Prop := maintainScriptUptoRow.holds Tryz.pinned (OpenSpec.upto maintainScriptSpec)

/-- 'drosslaw33.MaintainBack', WHERE WHAT IT READS IS OF BULK AT MOST 1048576: true; the input reads as it did. -/
def maintainBackUptoRow : OpenClaim := { program := "ytaegkccfbmekbaagreat", sum := "dfd29cdef8ac5a67e37749cf0e2dda6ab4638674ce289b56ca6597197d05ac1d", func := "dross/drosslaw33.MaintainBack", spec := "maintainBack", inPlace := ["slices.overlaps[dross/api.Row]", "internal/bytealg.abigen_runtime_cmpstring"], unfollowed := true, recurses := true, apart := false, narrowed := true }
def MaintainBackUptoSaid : Prop := maintainBackUptoRow.holds Tryz.pinned (OpenSpec.upto maintainBackSpec)

/-- 'drosslaw33.MaintainApart', WHERE WHAT IT READS IS OF BULK AT MOST 1048576: true; the input reads as it did. -/
def maintainApartUptoRow : OpenClaim := { program := "ytaegkccfbmekbaagreat", sum := "dfd29cdef8ac5a67e37749cf0e2dda6ab4638674ce289b56ca6597197d05ac1d", func := "dross/drosslaw33.MaintainApart", spec := "maintainApart", inPlace := ["slices.overlaps[dross/api.Row]", "internal/bytealg.abigen_runtime_cmpstring"], unfollowed := true, recurses := true, apart := false, narrowed := true }
def MaintainApartUptoSaid : Prop := maintainApartUptoRow.holds Tryz.pinned (OpenSpec.upto maintainApartSpec)

end Rows
end Go.Proofs.YtaegkccfbmekbaaGreat

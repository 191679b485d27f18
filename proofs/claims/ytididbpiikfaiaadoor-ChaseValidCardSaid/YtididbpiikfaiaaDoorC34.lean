/- A part of the proof: lemmas for the theorem of this claim, merged by a program of ours out of RdY. -/
import Derived.Test.YtididbpiikfaiaaDoorC33
set_option linter.all false
section
namespace Go.Hx
open Go.Proofs Go.ChangeShapes Go.WideShapes Go.ChangeAt Go.RowKit
abbrev tabC (a : Int × List Rw) : Nat → PV := fun j => [.raw (.int .i64 a.1), rl a.2].getD j .any
theorem rd24 : Rd Tryd.prog 24 2 tabC := by
  intro H enc w sp held fuel cs x h
  obtain ⟨hl, n, hf⟩ := rd_fields Tryd.underlying24 h
  obtain ⟨y0, e0⟩ := hf 0 _ rfl
  obtain ⟨y1, e1⟩ := hf 1 _ rfl
  obtain ⟨a0, h0⟩ := rd_field rd3 e0
  obtain ⟨a1, h1⟩ := rd_field rd22 e1
  refine ⟨hl.trans (by kernel_rfl), ((a0, a1) : Int × List Rw), fun j hj => ?_⟩
  match j, hj with
  | 0, _ => exact h0 0 (by omega)
  | 1, _ => exact h1 0 (by omega)
theorem rd_tab {H : Type} {enc : TypeId × Value → H} {W : World} {cs : Array Value} {d : DataW H} {ps : List MemPlace} (hd : DataW.Trod enc Tryd.prog W 0 (fun _ => true) true 24 (.agg cs) d ps) : ∃ (n : Int) (l : List Rw), RepPC (nowImm W) (pT n l) (.agg cs) := by
  obtain ⟨fuel, hf⟩ := hd
  obtain ⟨hl, a, ha⟩ := rd24 _ enc W _ _ fuel _ _ hf
  obtain ⟨u0, e0, r0⟩ := ha 0 (by omega)
  obtain ⟨u1, e1, r1⟩ := ha 1 (by omega)
  have hcs : cs.toList = [u0, u1] := by
    have hl : cs.toList.length = 2 := hl
    have e0 : cs.toList[0]? = some u0 := e0
    have e1 : cs.toList[1]? = some u1 := e1
    generalize cs.toList = l at *
    match l, hl with
    | [x, y], _ => simp at e0 e1; subst e0 e1; rfl
  refine ⟨a.1, a.2, [u0, u1], ?_, r0, r1, trivial⟩
  rw [← hcs]
end Go.Hx
end

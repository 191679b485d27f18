/- StoreOwn: what goes in and what comes out shares no memory with the store: the given statement, of the first form. -/
import Derived.Handed
import Derived.JoinedOf
import Derived.OpenShut
import Derived.ProofKit
import Derived.Test.YtdcdbghdgjlhhaaGreatRows
import Derived.WalkKit
import Derived.Test.YtdcdbghdgjlhhaaGreatOx25
import Derived.Test.YtdcdbghdgjlhhaaGreatOx27
set_option linter.all false
section
namespace Go.Proofs.YtdcdbghdgjlhhaaGreat.storeOwnP
open Go.ChangeShapes Go.WideShapes Go.ChangeAt Go.RowKit Go.Hx
theorem tab0 {m : Imm} : mi m := fun b off v h => by
 have h : (none : Option Value) = some v := h
 cases h
theorem own : ownKnob Tryz.prog.godebug = none := by kernel_rfl
set_option maxRecDepth 100000 in
theorem contract (H : Type) (enc : TypeId × Value → H) (W : World) (base : Nat) (args : Array Value) (ds gs : List (DataW H)) (before : List MemPlace)
 (hval : ∀ (j : Nat) t v, Tryz.f7.params[j]? = some t → args[j]? = some v → Value.okWide Tryz.prog W .any base t v)
 (hW : DataW.Whole enc Tryz.prog Tryz.f7.params.toList Rows.storeOwnSpec.vars false W args.toList ds gs before) :
 Calls Tryz.prog 7 args W fun e W' => ∃ v, e = .returned v ∧ Rows.storeOwnSpec.post enc Tryz.prog Tryz.f7 false true false false W args v W' := by
 have hW' := hW
 obtain ⟨p, q, hA, hV, rfl, hfz, hnd⟩ := hW
 obtain ⟨rfl, rfl⟩ := trodVars_none hV
 rw [Tryz.params7] at hA hval
 obtain ⟨v0, vs0, d0, ds0, p0, q0, hargs, rfl, rfl, h0, r0⟩ := trodAll_cons hA
 obtain ⟨rfl, rfl, rfl⟩ := trodAll_nil r0
 obtain rfl : args = #[v0] := by cases args; simp_all
 obtain ⟨l, hl⟩ := agh ahj (a5s Tryz.underlying22 (hval 0 22 v0 rfl rfl)) h0
 refine abb (us := [v0]) tab0 (c7 l) ⟨hl, trivial⟩ fun W' hb => ⟨_, rfl, ?_⟩
 refine ad1 aeo (fun t ht => ?_) (by kernel_rfl) Tryz.underlying4 rfl rfl hW' hb
 rw [Tryz.params7] at ht
 obtain rfl : t = 22 := by simpa using ht
 exact ahf
set_option maxRecDepth 100000 in
theorem lifted (os : Os) (started : os.Started) (H : Type) (enc : TypeId × Value → H) :
 ReturnsInHanded {} Tryz.checked os 7 .any (Rows.storeOwnSpec.pre6 enc Tryz.prog Tryz.f7 Rows.storeOwnRow.domain false) (Rows.storeOwnSpec.post enc Tryz.prog Tryz.f7 false true false false) := by
 refine returnsInHanded_of_change (C := Tryz.checked) own started (by kernel_rfl) Tryz.func7
  (ChangeSpec.witness6 (enc := enc) (C := Tryz.checked) false ⟨#[], #[.slice none 0 0], []⟩ 7 (by kernel_rfl) (by kernel_rfl) (by kernel_rfl) (by kernel_rfl) (by kernel_rfl)) ?_
 intro W base args ds gs before hval hW _ _
 exact contract H enc W base args ds gs before hval hW
theorem proved : Rows.StoreOwnSaid :=
 OpenClaim.holds_of_wide 7 Tryz.f7 rfl rfl rfl rfl rfl rfl rfl ⟨rfl, rfl, rfl, rfl, rfl⟩ rfl rfl rfl rfl rfl (by kernel_rfl) Tryz.func7 (by kernel_rfl)
  (of_decide_eq_true (by kernel_rfl)) (by unfold Func.isWrapper; first | (rw [if_pos (by decide +kernel)]; kernel_rfl) | (rw [if_neg (by decide +kernel)]; exact ⟨rfl, rfl⟩))
  (fun os started H enc _ => lifted os started H enc)
end Go.Proofs.YtdcdbghdgjlhhaaGreat.storeOwnP
end

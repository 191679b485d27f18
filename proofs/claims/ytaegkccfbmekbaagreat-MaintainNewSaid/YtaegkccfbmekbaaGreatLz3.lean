/- MaintainNew: a new state is right, or the error is the specified one: the given statement, of the first form. -/
import Derived.Handed
import Derived.JoinedOf
import Derived.OpenShut
import Derived.ProofKit
import Derived.Test.YtaegkccfbmekbaaGreatRows
import Derived.WalkKit
import Derived.Test.YtaegkccfbmekbaaGreatNx27
import Derived.Test.YtaegkccfbmekbaaGreatNx40
set_option linter.all false
section
namespace Go.Proofs.YtaegkccfbmekbaaGreat.maintainNewP
open Go.ChangeShapes Go.WideShapes Go.ChangeAt Go.RowKit Go.Hx
set_option maxRecDepth 100000 in
theorem contract (H : Type) (enc : TypeId × Value → H) (W : World) (base : Nat) (args : Array Value) (ds gs : List (DataW H)) (before : List MemPlace)
 (hval : ∀ (j : Nat) t v, Tryz.f3.params[j]? = some t → args[j]? = some v → Value.okWide Tryz.prog W .any base t v)
 (hW : DataW.Whole enc Tryz.prog Tryz.f3.params.toList Rows.maintainNewSpec.vars false W args.toList ds gs before) :
 Calls Tryz.prog 3 args W fun e W' => ∃ v, e = .returned v ∧ Rows.maintainNewSpec.post enc Tryz.prog Tryz.f3 false true false false W args v W' := by
 have hW' := hW
 obtain ⟨p, q, hA, hV, rfl, hfz, hnd⟩ := hW
 obtain ⟨rfl, rfl⟩ := trodVars_none hV
 rw [Tryz.params3] at hA hval
 obtain ⟨v0, vs0, d0, ds0, p0, q0, hargs, rfl, rfl, h0, r0⟩ := trodAll_cons hA
 obtain ⟨v1, vs1, d1, ds1, p1, q1, rfl, rfl, rfl, h1, r1⟩ := trodAll_cons r0
 obtain ⟨rfl, rfl, rfl⟩ := trodAll_nil r1
 obtain rfl : args = #[v0, v1] := by cases args; simp_all
 obtain ⟨b0, rfl⟩ := okWide_string Tryz.underlying9 (hval 0 9 v0 rfl rfl)
 obtain ⟨s, hr0⟩ := aix rd9 rfl h0
 obtain ⟨l, hr1⟩ := aix av4 (abr Tryz.underlying22 (hval 1 22 v1 rfl rfl)) h1
 refine v2 (us := [.string b0, v1]) afd (ao6 s l) ⟨hr0, hr1, trivial⟩ fun W' hb => ⟨_, rfl, ?_⟩
 refine y7 a14 (fun t ht => ?_) (by kernel_rfl) Tryz.underlying4 rfl rfl hW' hb
 rw [Tryz.params3] at ht
 have ht : t = 9 ∨ t = 22 := by simpa using ht
 rcases ht with rfl | rfl
 · exact auz
 · exact aus
set_option maxRecDepth 100000 in
theorem lifted (os : Os) (started : os.Started) (H : Type) (enc : TypeId × Value → H) :
 ReturnsInHanded {} Tryz.checked os 3 .any (Rows.maintainNewSpec.pre6 enc Tryz.prog Tryz.f3 Rows.maintainNewRow.domain false) (Rows.maintainNewSpec.post enc Tryz.prog Tryz.f3 false true false false) := by
 refine returnsInHanded_of_change (C := Tryz.checked) own started (by kernel_rfl) Tryz.func3
  (ChangeSpec.witness6 (enc := enc) (C := Tryz.checked) false ⟨#[], #[.string ⟨#[]⟩, .slice none 0 0], []⟩ 6 (by kernel_rfl) (by kernel_rfl) (by kernel_rfl) (by kernel_rfl) (by kernel_rfl)) ?_
 intro W base args ds gs before hval hW _ _
 exact contract H enc W base args ds gs before hval hW
theorem proved : Rows.MaintainNewSaid :=
 OpenClaim.holds_of_wide 3 Tryz.f3 rfl rfl rfl rfl rfl rfl rfl ⟨rfl, rfl, rfl, rfl, rfl⟩ rfl rfl rfl rfl rfl (by kernel_rfl) Tryz.func3 (by kernel_rfl)
  (of_decide_eq_true (by kernel_rfl)) (by unfold Func.isWrapper; first | (rw [if_pos (by decide +kernel)]; kernel_rfl) | (rw [if_neg (by decide +kernel)]; exact ⟨rfl, rfl⟩))
  (fun os started H enc _ => lifted os started H enc)
end Go.Proofs.YtaegkccfbmekbaaGreat.maintainNewP
end

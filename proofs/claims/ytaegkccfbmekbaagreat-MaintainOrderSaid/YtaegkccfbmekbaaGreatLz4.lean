/- MaintainOrder: inserted in any order, the rows of a table end in the same counts, dependencies and keys: the given statement, of the first form. -/
import Derived.Handed
import Derived.JoinedOf
import Derived.OpenShut
import Derived.ProofKit
import Derived.Test.YtaegkccfbmekbaaGreatRows
import Derived.WalkKit
import Derived.Test.YtaegkccfbmekbaaGreatPx27
import Derived.Test.YtaegkccfbmekbaaGreatPx40
set_option linter.all false
section
namespace Go.Proofs.YtaegkccfbmekbaaGreat.maintainOrderP
open Go.ChangeShapes Go.WideShapes Go.ChangeAt Go.RowKit Go.Hx
set_option maxRecDepth 100000 in
theorem contract (H : Type) (enc : TypeId × Value → H) (W : World) (base : Nat) (args : Array Value) (ds gs : List (DataW H)) (before : List MemPlace)
 (hval : ∀ (j : Nat) t v, Tryz.f4.params[j]? = some t → args[j]? = some v → Value.okWide Tryz.prog W .any base t v)
 (hW : DataW.Whole enc Tryz.prog Tryz.f4.params.toList Rows.maintainOrderSpec.vars false W args.toList ds gs before) :
 Calls Tryz.prog 4 args W fun e W' => ∃ v, e = .returned v ∧ Rows.maintainOrderSpec.post enc Tryz.prog Tryz.f4 false true false false W args v W' := by
 have hW' := hW
 obtain ⟨p, q, hA, hV, rfl, hfz, hnd⟩ := hW
 obtain ⟨rfl, rfl⟩ := trodVars_none hV
 rw [Tryz.params4] at hA hval
 obtain ⟨v0, vs0, d0, ds0, p0, q0, hargs, rfl, rfl, h0, r0⟩ := trodAll_cons hA
 obtain ⟨v1, vs1, d1, ds1, p1, q1, rfl, rfl, rfl, h1, r1⟩ := trodAll_cons r0
 obtain ⟨rfl, rfl, rfl⟩ := trodAll_nil r1
 obtain rfl : args = #[v0, v1] := by cases args; simp_all
 obtain ⟨cs0, rfl, _⟩ := okWide_struct Tryz.underlying41 (hval 0 41 v0 rfl rfl)
 obtain ⟨x, _, hr0⟩ := a6c avj.toB h0
 obtain ⟨l, hr1⟩ := ara ak0 (acf Tryz.underlying42 (hval 1 42 v1 rfl rfl)) h1
 refine a89 (us := [.agg cs0, v1]) asv (akh x l) ⟨hr0, hr1, trivial⟩ fun W' hb => ⟨_, rfl, ?_⟩
 refine aaf aeo (fun t ht => ?_) (by kernel_rfl) Tryz.underlying4 rfl rfl hW' hb
 rw [Tryz.params4] at ht
 have ht : t = 41 ∨ t = 42 := by simpa using ht
 rcases ht with rfl | rfl
 · exact aub
 · exact av7
set_option maxRecDepth 100000 in
theorem lifted (os : Os) (started : os.Started) (H : Type) (enc : TypeId × Value → H) :
 ReturnsInHanded {} Tryz.checked os 4 .any (Rows.maintainOrderSpec.pre6 enc Tryz.prog Tryz.f4 Rows.maintainOrderRow.domain false) (Rows.maintainOrderSpec.post enc Tryz.prog Tryz.f4 false true false false) := by
 refine returnsInHanded_of_change (C := Tryz.checked) own started (by kernel_rfl) Tryz.func4
  (ChangeSpec.witness6 (enc := enc) (C := Tryz.checked) false ⟨#[], #[.agg #[.int .u8 0, .int .u8 0, .slice none 0 0], .slice none 0 0], []⟩ 6 (by kernel_rfl) (by kernel_rfl) (by kernel_rfl) (by kernel_rfl) (by kernel_rfl)) ?_
 intro W base args ds gs before hval hW _ _
 exact contract H enc W base args ds gs before hval hW
theorem proved : Rows.MaintainOrderSaid :=
 OpenClaim.holds_of_wide 4 Tryz.f4 rfl rfl rfl rfl rfl rfl rfl ⟨rfl, rfl, rfl, rfl, rfl⟩ rfl rfl rfl rfl rfl (by kernel_rfl) Tryz.func4 (by kernel_rfl)
  (of_decide_eq_true (by kernel_rfl)) (by unfold Func.isWrapper; first | (rw [if_pos (by decide +kernel)]; kernel_rfl) | (rw [if_neg (by decide +kernel)]; exact ⟨rfl, rfl⟩))
  (fun os started H enc _ => lifted os started H enc)
end Go.Proofs.YtaegkccfbmekbaaGreat.maintainOrderP
end

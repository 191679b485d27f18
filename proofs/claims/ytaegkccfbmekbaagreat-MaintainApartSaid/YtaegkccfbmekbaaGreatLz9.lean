/- MaintainApart: two states share nothing, and what they return can be written to: the given statement, of the first form. -/
import Derived.Handed
import Derived.JoinedOf
import Derived.OpenShut
import Derived.ProofKit
import Derived.Test.YtaegkccfbmekbaaGreatRows
import Derived.WalkKit
import Derived.Test.YtaegkccfbmekbaaGreatNq27
import Derived.Test.YtaegkccfbmekbaaGreatNq41
set_option linter.all false
section
namespace Go.Proofs.YtaegkccfbmekbaaGreat.maintainApartP
open Go.ChangeShapes Go.WideShapes Go.ChangeAt Go.RowKit Go.Hx
set_option maxRecDepth 100000 in
theorem contract (H : Type) (enc : TypeId × Value → H) (W : World) (base : Nat) (args : Array Value) (ds gs : List (DataW H)) (before : List MemPlace)
 (hval : ∀ (j : Nat) t v, Tryz.f9.params[j]? = some t → args[j]? = some v → Value.okWide Tryz.prog W .any base t v)
 (hW : DataW.Whole enc Tryz.prog Tryz.f9.params.toList Rows.maintainApartSpec.vars false W args.toList ds gs before) :
 Calls Tryz.prog 9 args W fun e W' => ∃ v, e = .returned v ∧ Rows.maintainApartSpec.post enc Tryz.prog Tryz.f9 false true false false W args v W' := by
 have hW' := hW
 obtain ⟨p, q, hA, hV, rfl, hfz, hnd⟩ := hW
 obtain ⟨rfl, rfl⟩ := trodVars_none hV
 rw [Tryz.params9] at hA hval
 obtain ⟨v0, vs0, d0, ds0, p0, q0, hargs, rfl, rfl, h0, r0⟩ := trodAll_cons hA
 obtain ⟨v1, vs1, d1, ds1, p1, q1, rfl, rfl, rfl, h1, r1⟩ := trodAll_cons r0
 obtain ⟨rfl, rfl, rfl⟩ := trodAll_nil r1
 obtain rfl : args = #[v0, v1] := by cases args; simp_all
 obtain ⟨cs0, rfl, _⟩ := okWide_struct Tryz.underlying54 (hval 0 54 v0 rfl rfl)
 obtain ⟨x0, _, hr0⟩ := ae5 aqd.toB h0
 obtain ⟨cs1, rfl, _⟩ := okWide_struct Tryz.underlying54 (hval 1 54 v1 rfl rfl)
 obtain ⟨x1, _, hr1⟩ := ae5 aqd.toB h1
 refine aj4 (us := [.agg cs0, .agg cs1]) aw7 (asu x0 x1) ⟨hr0, hr1, trivial⟩ fun W' hb => ⟨_, rfl, ?_⟩
 refine ak5 amx (fun t ht => ?_) (by kernel_rfl) Tryz.underlying4 rfl rfl hW' hb
 rw [Tryz.params9] at ht
 obtain rfl : t = 54 := by simpa using ht
 exact auv
set_option maxRecDepth 100000 in
theorem lifted (os : Os) (started : os.Started) (H : Type) (enc : TypeId × Value → H) :
 ReturnsInHanded {} Tryz.checked os 9 .any (Rows.maintainApartSpec.pre6 enc Tryz.prog Tryz.f9 Rows.maintainApartRow.domain false) (Rows.maintainApartSpec.post enc Tryz.prog Tryz.f9 false true false false) := by
 refine returnsInHanded_of_change (C := Tryz.checked) own started (by kernel_rfl) Tryz.func9
  (ChangeSpec.witness6 (enc := enc) (C := Tryz.checked) false ⟨#[], #[.agg #[.int .u8 0, .slice none 0 0], .agg #[.int .u8 0, .slice none 0 0]], []⟩ 6 (by kernel_rfl) (by kernel_rfl) (by kernel_rfl) (by kernel_rfl) (by kernel_rfl)) ?_
 intro W base args ds gs before hval hW _ _
 exact contract H enc W base args ds gs before hval hW
theorem proved : Rows.MaintainApartSaid :=
 OpenClaim.holds_of_wide 9 Tryz.f9 rfl rfl rfl rfl rfl rfl rfl ⟨rfl, rfl, rfl, rfl, rfl⟩ rfl rfl rfl rfl rfl (by kernel_rfl) Tryz.func9 (by kernel_rfl)
  (of_decide_eq_true (by kernel_rfl)) (by unfold Func.isWrapper; first | (rw [if_pos (by decide +kernel)]; kernel_rfl) | (rw [if_neg (by decide +kernel)]; exact ⟨rfl, rfl⟩))
  (fun os started H enc _ => lifted os started H enc)
end Go.Proofs.YtaegkccfbmekbaaGreat.maintainApartP
end

/- DesignErrors: Propose, Best and Claims return the specified errors for universes and dependencies that are not valid, for every input: the given card. -/
import Derived.Test.YtkkenjdfbojdlaaGreatDoorEx25
import Derived.Test.YtkkenjdfbojdlaaGreatDoorEx39
set_option linter.all false
section
namespace Go.Proofs.YtkkenjdfbojdlaaGreatDoor.designErrorsP
open Go.ChangeShapes Go.WideShapes Go.ChangeAt Go.RowKit Go.Hx
set_option maxRecDepth 100000 in
theorem contract (H : Type) (enc : TypeId × Value → H) (W : World) (base : Nat) (args : Array Value) (ds gs : List (DataW H)) (before : List MemPlace)
 (hval : ∀ (j : Nat) t v, Tryz.f5.params[j]? = some t → args[j]? = some v → Value.okWide Tryz.prog W .any base t v)
 (hW : DataW.Whole enc Tryz.prog Tryz.f5.params.toList Rows.designErrorsSpec.vars false W args.toList ds gs before) (hL : laidMetH Tryz.prog Rows.designErrorsRow.laid W) :
 Calls Tryz.prog 5 args W fun e W' => ∃ v, e = .returned v ∧ Rows.designErrorsSpec.post enc Tryz.prog Tryz.f5 false true false false W args v W' := by
 have hW' := hW
 obtain ⟨p, q, hA, hV, rfl, hfz, hnd⟩ := hW
 obtain ⟨rfl, rfl⟩ := trodVars_none hV
 rw [Tryz.params5] at hA hval
 obtain ⟨v0, vs0, d0, ds0, p0, q0, hargs, rfl, rfl, h0, r0⟩ := trodAll_cons hA
 obtain ⟨v1, vs1, d1, ds1, p1, q1, rfl, rfl, rfl, h1, r1⟩ := trodAll_cons r0
 obtain ⟨v2, vs2, d2, ds2, p2, q2, rfl, rfl, rfl, h2, r2⟩ := trodAll_cons r1
 obtain ⟨rfl, rfl, rfl⟩ := trodAll_nil r2
 obtain rfl : args = #[v0, v1, v2] := by cases args; simp_all
 obtain ⟨n, _, hr0⟩ := a9v rd3.toB (a7g Tryz.underlying3 (hval 0 3 v0 rfl rfl)) h0
 obtain ⟨q, _, hr1⟩ := a9v bcu.toB (acn Tryz.underlying42 (hval 1 42 v1 rfl rfl)) h1
 obtain ⟨fm, _, hr2⟩ := a9v rd3.toB (a7g Tryz.underlying3 (hval 2 3 v2 rfl rfl)) h2
 refine aol (us := [v0, v1, v2]) (ba2 hL) (b9c n q fm) ⟨hr0, hr1, hr2, trivial⟩ fun W' hbb => ⟨_, rfl, ?_⟩
 refine aww b2d (fun t ht => ?_) (by kernel_rfl) Tryz.underlying4 rfl rfl hW' hbb
 rw [Tryz.params5] at ht
 have ht : t = 3 ∨ t = 42 ∨ t = 3 := by simpa using ht
 rcases ht with rfl | rfl | rfl
 · exact b7i
 · exact bak
 exact b7i
theorem laid_met (os : Os) : laidMet Tryz.prog Rows.designErrorsRow.laid ((laidWorld os).forCall (fun _ _ => 0) ⟨#[], #[.int .i64 0, .slice none 0 0, .int .i64 0], []⟩).memory :=
 laidMet_of_run' 8 (by kernel_rfl) (by kernel_rfl)
theorem reads (os : Os) {H : Type} (enc : TypeId × Value → H) : ∃ places, DataW.whole enc Tryz.prog ((laidWorld os).forCall (fun _ _ => 0) ⟨#[], #[.int .i64 0, .slice none 0 0, .int .i64 0], []⟩).memory Tryz.f5.params.toList Rows.designErrorsSpec.vars false #[Value.int .i64 0, .slice none 0 0, .int .i64 0].toList 8 = some ([.lit (.int .i64 0), .nil, .lit (.int .i64 0)], [], places) :=
 ⟨[], by kernel_rfl⟩
set_option maxRecDepth 100000 in
theorem lifted (os : Os) (started : os.Started) (H : Type) (enc : TypeId × Value → H) (F : Stop.Interp) :
 ReturnsInHanded {} Tryz.checked os 5 .any ((OpenSpec.ofChange Rows.designErrorsSpec).preRow enc Tryz.prog Tryz.f5 Rows.designErrorsRow.domain false Rows.designErrorsRow.laid) (((OpenSpec.ofChange Rows.designErrorsSpec).at F).post enc Tryz.prog Tryz.f5 false true false false) := by
 obtain ⟨places, hx⟩ := reads os enc
 refine returnsInHanded_of_row (C := Tryz.checked) (s := OpenSpec.ofChange Rows.designErrorsSpec) own started (by kernel_rfl) Tryz.func5
  (witness_row_at (enc := enc) (C := Tryz.checked) false (laidWorld os) #[.int .i64 0, .slice none 0 0, .int .i64 0] rfl (by kernel_rfl) (by kernel_rfl) (by kernel_rfl)
   (OpenSpec.preRow_of_cond 8 hx (by kernel_rfl) (fun k hk => by cases hk) (by kernel_rfl) (laid_met os))) ?_
 intro W base args ds gs before hval hW _ hcond _ hL _ _
 exact contract H enc W base args ds gs before hval hW hL
theorem said : Rows.DesignErrorsSaid :=
 OpenClaim.holds_of_cond 5 Tryz.f5 rfl rfl rfl rfl rfl rfl rfl ⟨rfl, rfl, rfl, rfl, rfl⟩ rfl rfl rfl rfl rfl (by kernel_rfl) Tryz.func5 (by kernel_rfl)
  (of_decide_eq_true (by kernel_rfl)) (by unfold Func.isWrapper; first | (rw [if_pos (by decide +kernel)]; kernel_rfl) | (rw [if_neg (by decide +kernel)]; exact ⟨rfl, rfl⟩))
  (fun os started H enc _ F => by rw [OpenClaim.pre_eq_preRow]; exact lifted os started H enc F)
theorem plain (f : FuncId) (fn : Func) (hf : Tryz.pinned.checked.prog.funcNamed "dross/drosslaw26.DesignErrors" = some f) (hfn : Tryz.pinned.checked.prog.funcs[f]? = some fn) :
 false = Tryz.pinned.checked.prog.looks [] ∧ ∀ (j : Nat) t, fn.params[j]? = some t → Tryz.pinned.checked.prog.wantsStandIn t = false := by
 obtain rfl : f = 5 := Option.some.inj ((show Tryz.prog.funcNamed "dross/drosslaw26.DesignErrors" = some 5 by kernel_rfl).symm.trans hf) |>.symm
 obtain rfl : fn = Tryz.f5 := (Option.some.inj (Tryz.func5.symm.trans hfn)).symm
 refine ⟨by kernel_rfl, fun j t ht => ?_⟩
 rw [Tryz.params5] at ht
 have ht : t = 3 ∨ t = 42 ∨ t = 3 := by simpa using Array.mem_of_getElem? ht
 rcases ht with rfl | rfl | rfl
 · exact (show Tryz.prog.wantsStandIn 3 = false by kernel_rfl)
 · exact (show Tryz.prog.wantsStandIn 42 = false by kernel_rfl)
 exact (show Tryz.prog.wantsStandIn 3 = false by kernel_rfl)
theorem card : Rows.DesignErrorsCardSaid :=
 Claim7.holds_tied_plain_at .later [] _ _ _ _ said (fun _ h => by cases h) (by kernel_rfl) (fun _ h => by cases h) designErrors_row_tie rfl ⟨rfl, rfl⟩ (by kernel_rfl) rfl plain (by kernel_rfl)
end Go.Proofs.YtkkenjdfbojdlaaGreatDoor.designErrorsP
end

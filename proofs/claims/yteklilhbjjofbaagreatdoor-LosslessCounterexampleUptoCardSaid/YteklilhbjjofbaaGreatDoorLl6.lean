/- LosslessCounterexample: Counterexample returns the specified table, in which all dependencies hold, and which is not the join of its projections; or ErrImplied, where what the law reads is of bulk at most 1048576: the given card of the second form. -/
import Derived.Test.YteklilhbjjofbaaGreatDoorLd37
set_option linter.all false
section
namespace Go.Proofs.YteklilhbjjofbaaGreatDoor.losslessCounterexampleP
open Go.ChangeShapes Go.WideShapes Go.ChangeAt Go.RowKit Go.Hx
set_option maxRecDepth 100000 in
theorem contract (H : Type) (enc : TypeId × Value → H) (W : World) (base : Nat) (args : Array Value) (ds gs : List (DataW H)) (before : List MemPlace)
 (hval : ∀ (j : Nat) t v, Tryz.f6.params[j]? = some t → args[j]? = some v → Value.okWide Tryz.prog W .any base t v)
 (hW : DataW.Whole enc Tryz.prog Tryz.f6.params.toList Rows.losslessCounterexampleSpec.vars false W args.toList ds gs before) (hL : laidMetH Tryz.prog Rows.losslessCounterexampleRow.laid W) (hk : Rows.uptoSmall H (ds ++ gs) = true) :
 Calls Tryz.prog 6 args W fun e W' => ∃ v, e = .returned v ∧ Rows.losslessCounterexampleSpec.post enc Tryz.prog Tryz.f6 false true false false W args v W' := by
 have hW' := hW
 obtain ⟨p, q, hA, hV, rfl, hfz, hnd⟩ := hW
 obtain ⟨rfl, rfl⟩ := trodVars_none hV
 rw [Tryz.params6] at hA hval
 obtain ⟨v0, vs0, d0, ds0, p0, q0, hargs, rfl, rfl, h0, r0⟩ := trodAll_cons hA
 obtain ⟨rfl, rfl, rfl⟩ := trodAll_nil r0
 obtain rfl : args = #[v0] := by cases args; simp_all
 obtain ⟨cs0, rfl, _⟩ := okWide_struct Tryz.underlying33 (hval 0 33 v0 rfl rfl)
 obtain ⟨d, ⟨hd1, hd2, hd3⟩, hr0⟩ := arx b1c h0
 have hb : Rows.uptoBulkAll ([d0] ++ []) ≤ 1048576 := of_decide_eq_true hk
 have hb0 : Rows.uptoBulk d0 ≤ 1048576 := Nat.le_trans (a80 (d := d0) (l := [d0] ++ []) (by simp)) hb
 refine ajw (us := [.agg cs0]) (b05 hL) (az1 d (by omega) (by omega) (by omega)) ⟨hr0, trivial⟩ fun W' hbb => ⟨_, rfl, ?_⟩
 refine ao8 aud (fun t ht => ?_) (by kernel_rfl) Tryz.underlying4 rfl rfl hW' hbb
 rw [Tryz.params6] at ht
 obtain rfl : t = 33 := by simpa using ht
 exact b0s
theorem laid_met (os : Os) : laidMet Tryz.prog Rows.losslessCounterexampleRow.laid ((laidWorld os).forCall (fun _ _ => 0) ⟨#[], #[.agg #[.int .u8 0, .slice none 0 0, .slice none 0 0, .slice none 0 0]], []⟩).memory :=
 laidMet_of_run' 8 (by kernel_rfl) (by kernel_rfl)
theorem reads (os : Os) {H : Type} (enc : TypeId × Value → H) : ∃ places, DataW.whole enc Tryz.prog ((laidWorld os).forCall (fun _ _ => 0) ⟨#[], #[.agg #[.int .u8 0, .slice none 0 0, .slice none 0 0, .slice none 0 0]], []⟩).memory Tryz.f6.params.toList Rows.losslessCounterexampleSpec.vars false #[Value.agg #[.int .u8 0, .slice none 0 0, .slice none 0 0, .slice none 0 0]].toList 8 = some ([.agg [.lit (.int .u8 0), .nil, .nil, .nil]], [], places) :=
 ⟨[], by kernel_rfl⟩
set_option maxRecDepth 100000 in
theorem lifted (os : Os) (started : os.Started) (H : Type) (enc : TypeId × Value → H) (F : Stop.Interp) :
 ReturnsInHanded {} Tryz.checked os 6 .any ((Rows.OpenSpec.upto Rows.losslessCounterexampleSpec).preRow enc Tryz.prog Tryz.f6 Rows.losslessCounterexampleUptoRow.domain false Rows.losslessCounterexampleUptoRow.laid) (((Rows.OpenSpec.upto Rows.losslessCounterexampleSpec).at F).post enc Tryz.prog Tryz.f6 false true false false) := by
 obtain ⟨places, hx⟩ := reads os enc
 refine returnsInHanded_of_row (C := Tryz.checked) (s := Rows.OpenSpec.upto Rows.losslessCounterexampleSpec) own started (by kernel_rfl) Tryz.func6
  (witness_row_at (enc := enc) (C := Tryz.checked) false (laidWorld os) #[.agg #[.int .u8 0, .slice none 0 0, .slice none 0 0, .slice none 0 0]] rfl (by kernel_rfl) (by kernel_rfl) (by kernel_rfl)
   (OpenSpec.preRow_of_cond 8 hx (by kernel_rfl) (fun k hk => by cases hk; kernel_rfl) (by kernel_rfl) (laid_met os))) ?_
 intro W base args ds gs before hval hW _ hcond _ hL _ _
 exact contract H enc W base args ds gs before hval hW hL (hcond _ rfl)
theorem said : Rows.LosslessCounterexampleUptoSaid :=
 OpenClaim.holds_of_cond 6 Tryz.f6 rfl rfl rfl rfl rfl rfl rfl ⟨rfl, rfl, rfl, rfl, rfl⟩ rfl rfl rfl rfl rfl (by kernel_rfl) Tryz.func6 (by kernel_rfl)
  (of_decide_eq_true (by kernel_rfl)) (by unfold Func.isWrapper; first | (rw [if_pos (by decide +kernel)]; kernel_rfl) | (rw [if_neg (by decide +kernel)]; exact ⟨rfl, rfl⟩))
  (fun os started H enc _ F => by rw [OpenClaim.pre_eq_preRow]; exact lifted os started H enc F)
theorem plain (f : FuncId) (fn : Func) (hf : Tryz.pinned.checked.prog.funcNamed "dross/drosslaw21.LosslessCounterexample" = some f) (hfn : Tryz.pinned.checked.prog.funcs[f]? = some fn) :
 false = Tryz.pinned.checked.prog.looks [] ∧ ∀ (j : Nat) t, fn.params[j]? = some t → Tryz.pinned.checked.prog.wantsStandIn t = false := by
 obtain rfl : f = 6 := Option.some.inj ((show Tryz.prog.funcNamed "dross/drosslaw21.LosslessCounterexample" = some 6 by kernel_rfl).symm.trans hf) |>.symm
 obtain rfl : fn = Tryz.f6 := (Option.some.inj (Tryz.func6.symm.trans hfn)).symm
 refine ⟨by kernel_rfl, fun j t ht => ?_⟩
 rw [Tryz.params6] at ht
 obtain rfl : t = 33 := by simpa using Array.mem_of_getElem? ht
 exact (show Tryz.prog.wantsStandIn 33 = false by kernel_rfl)
theorem card : Rows.LosslessCounterexampleUptoCardSaid :=
 Claim7.holds_tied_plain_at .later [] _ _ _ _ said (fun _ h => by cases h) (by kernel_rfl) (fun _ h => by cases h) losslessCounterexampleUpto_row_tie rfl ⟨rfl, rfl⟩ (by kernel_rfl) rfl plain (by kernel_rfl)
end Go.Proofs.YteklilhbjjofbaaGreatDoor.losslessCounterexampleP
end

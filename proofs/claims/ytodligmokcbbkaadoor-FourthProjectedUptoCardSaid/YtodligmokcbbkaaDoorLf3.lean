/- FourthProjected: A violation in a part holds, as a multivalued dependency, in the projection to this part of a table in which all dependencies hold, where what the law reads is of bulk at most 1048576: the given card of the second form. -/
import Derived.Test.YtodligmokcbbkaaDoorPx23
import Derived.Test.YtodligmokcbbkaaDoorPx29
import Derived.Test.YtodligmokcbbkaaDoorPx32
set_option linter.all false
section
namespace Go.Proofs.YtodligmokcbbkaaDoor.fourthProjectedP
open Go.ChangeShapes Go.WideShapes Go.ChangeAt Go.RowKit Go.Hx
set_option maxRecDepth 100000 in
theorem contract (H : Type) (enc : TypeId × Value → H) (W : World) (base : Nat) (args : Array Value) (ds gs : List (DataW H)) (before : List MemPlace)
 (hval : ∀ (j : Nat) t v, Tryd.f3.params[j]? = some t → args[j]? = some v → Value.okWide Tryd.prog W .any base t v)
 (hW : DataW.Whole enc Tryd.prog Tryd.f3.params.toList Rows.fourthProjectedSpec.vars false W args.toList ds gs before) (hL : laidMetH Tryd.prog Rows.fourthProjectedRow.laid W) (hk : Rows.uptoSmall H (ds ++ gs) = true) :
 Calls Tryd.prog 3 args W fun e W' => ∃ v, e = .returned v ∧ Rows.fourthProjectedSpec.post enc Tryd.prog Tryd.f3 false true false false W args v W' := by
 have hW' := hW
 obtain ⟨p, q, hA, hV, rfl, hfz, hnd⟩ := hW
 obtain ⟨rfl, rfl⟩ := trodVars_none hV
 rw [Tryd.params3] at hA hval
 obtain ⟨v0, vs0, d0, ds0, p0, q0, hargs, rfl, rfl, h0, r0⟩ := trodAll_cons hA
 obtain ⟨v1, vs1, d1, ds1, p1, q1, rfl, rfl, rfl, h1, r1⟩ := trodAll_cons r0
 obtain ⟨v2, vs2, d2, ds2, p2, q2, rfl, rfl, rfl, h2, r2⟩ := trodAll_cons r1
 obtain ⟨rfl, rfl, rfl⟩ := trodAll_nil r2
 obtain rfl : args = #[v0, v1, v2] := by cases args; simp_all
 obtain ⟨cs0, rfl, _⟩ := okWide_struct Tryd.underlying24 (hval 0 24 v0 rfl rfl)
 obtain ⟨x, hx, hr0⟩ := aat arl h0
 obtain ⟨cs1, rfl, _⟩ := okWide_struct Tryd.underlying29 (hval 1 29 v1 rfl rfl)
 obtain ⟨d, ⟨hd1, hd2⟩, hr1⟩ := aat as7 h1
 obtain ⟨s, _, hr2⟩ := alb rd5.toB (adg Tryd.underlying5 (hval 2 5 v2 rfl rfl)) h2
 have hb : Rows.uptoBulkAll ([d0, d1, d2] ++ []) ≤ 1048576 := of_decide_eq_true hk
 have hb0 : Rows.uptoBulk d0 ≤ 1048576 := Nat.le_trans (tt (d := d0) (l := [d0, d1, d2] ++ []) (by simp)) hb
 have hb1 : Rows.uptoBulk d1 ≤ 1048576 := Nat.le_trans (tt (d := d1) (l := [d0, d1, d2] ++ []) (by simp)) hb
 have hb2 : Rows.uptoBulk d2 ≤ 1048576 := Nat.le_trans (tt (d := d2) (l := [d0, d1, d2] ++ []) (by simp)) hb
 refine agc (us := [.agg cs0, .agg cs1, v2]) (ar9 hL) (aog x d s (by omega) (by omega) (by omega)) ⟨hr0, hr1, hr2, trivial⟩ fun W' hbb => ⟨_, rfl, ?_⟩
 refine ah2 akm (fun t ht => ?_) (by kernel_rfl) Tryd.underlying4 rfl rfl hW' hbb
 rw [Tryd.params3] at ht
 have ht : t = 24 ∨ t = 29 ∨ t = 5 := by simpa using ht
 rcases ht with rfl | rfl | rfl
 · exact arc
 · exact aqr
 · exact asb
theorem laid_met (os : Os) : laidMet Tryd.prog Rows.fourthProjectedRow.laid ((laidWorld os).forCall (fun _ _ => 0) ⟨#[], #[.agg #[.int .u8 0, .int .u8 0, .slice none 0 0], .agg #[.int .u8 0, .slice none 0 0, .slice none 0 0], .int .u8 0], []⟩).memory :=
 laidMet_of_run' 8 (by kernel_rfl) (by kernel_rfl)
theorem reads (os : Os) {H : Type} (enc : TypeId × Value → H) : ∃ places, DataW.whole enc Tryd.prog ((laidWorld os).forCall (fun _ _ => 0) ⟨#[], #[.agg #[.int .u8 0, .int .u8 0, .slice none 0 0], .agg #[.int .u8 0, .slice none 0 0, .slice none 0 0], .int .u8 0], []⟩).memory Tryd.f3.params.toList Rows.fourthProjectedSpec.vars false #[Value.agg #[.int .u8 0, .int .u8 0, .slice none 0 0], .agg #[.int .u8 0, .slice none 0 0, .slice none 0 0], .int .u8 0].toList 8 = some ([.agg [.lit (.int .u8 0), .lit (.int .u8 0), .nil], .agg [.agg [.lit (.int .u8 0), .nil], .nil], .lit (.int .u8 0)], [], places) :=
 ⟨[], by kernel_rfl⟩
set_option maxRecDepth 100000 in
theorem lifted (os : Os) (started : os.Started) (H : Type) (enc : TypeId × Value → H) (F : Stop.Interp) :
 ReturnsInHanded {} Tryd.checked os 3 .any ((Rows.OpenSpec.upto Rows.fourthProjectedSpec).preRow enc Tryd.prog Tryd.f3 Rows.fourthProjectedUptoRow.domain false Rows.fourthProjectedUptoRow.laid) (((Rows.OpenSpec.upto Rows.fourthProjectedSpec).at F).post enc Tryd.prog Tryd.f3 false true false false) := by
 obtain ⟨places, hx⟩ := reads os enc
 refine returnsInHanded_of_row (C := Tryd.checked) (s := Rows.OpenSpec.upto Rows.fourthProjectedSpec) own started (by kernel_rfl) Tryd.func3
  (witness_row_at (enc := enc) (C := Tryd.checked) false (laidWorld os) #[.agg #[.int .u8 0, .int .u8 0, .slice none 0 0], .agg #[.int .u8 0, .slice none 0 0, .slice none 0 0], .int .u8 0] rfl (by kernel_rfl) (by kernel_rfl) (by kernel_rfl)
   (OpenSpec.preRow_of_cond 8 hx (by kernel_rfl) (fun k hk => by cases hk; kernel_rfl) (by kernel_rfl) (laid_met os))) ?_
 intro W base args ds gs before hval hW _ hcond _ hL _ _
 exact contract H enc W base args ds gs before hval hW hL (hcond _ rfl)
theorem said : Rows.FourthProjectedUptoSaid :=
 OpenClaim.holds_of_cond 3 Tryd.f3 rfl rfl rfl rfl rfl rfl rfl ⟨rfl, rfl, rfl, rfl, rfl⟩ rfl rfl rfl rfl rfl (by kernel_rfl) Tryd.func3 (by kernel_rfl)
  (of_decide_eq_true (by kernel_rfl)) (by unfold Func.isWrapper; first | (rw [if_pos (by decide +kernel)]; kernel_rfl) | (rw [if_neg (by decide +kernel)]; exact ⟨rfl, rfl⟩))
  (fun os started H enc _ F => by rw [OpenClaim.pre_eq_preRow]; exact lifted os started H enc F)
theorem plain (f : FuncId) (fn : Func) (hf : Tryd.pinned.checked.prog.funcNamed "dross/drosslaw25.FourthProjected" = some f) (hfn : Tryd.pinned.checked.prog.funcs[f]? = some fn) :
 false = Tryd.pinned.checked.prog.looks [] ∧ ∀ (j : Nat) t, fn.params[j]? = some t → Tryd.pinned.checked.prog.wantsStandIn t = false := by
 obtain rfl : f = 3 := Option.some.inj ((show Tryd.prog.funcNamed "dross/drosslaw25.FourthProjected" = some 3 by kernel_rfl).symm.trans hf) |>.symm
 obtain rfl : fn = Tryd.f3 := (Option.some.inj (Tryd.func3.symm.trans hfn)).symm
 refine ⟨by kernel_rfl, fun j t ht => ?_⟩
 rw [Tryd.params3] at ht
 have ht : t = 24 ∨ t = 29 ∨ t = 5 := by simpa using Array.mem_of_getElem? ht
 rcases ht with rfl | rfl | rfl
 · exact (show Tryd.prog.wantsStandIn 24 = false by kernel_rfl)
 · exact (show Tryd.prog.wantsStandIn 29 = false by kernel_rfl)
 · exact (show Tryd.prog.wantsStandIn 5 = false by kernel_rfl)
theorem card : Rows.FourthProjectedUptoCardSaid :=
 Claim7.holds_tied_plain_at .later [] _ _ _ _ said (fun _ h => by cases h) (by kernel_rfl) (fun _ h => by cases h) fourthProjectedUpto_row_tie rfl ⟨rfl, rfl⟩ (by kernel_rfl) rfl plain (by kernel_rfl)
end Go.Proofs.YtodligmokcbbkaaDoor.fourthProjectedP
end

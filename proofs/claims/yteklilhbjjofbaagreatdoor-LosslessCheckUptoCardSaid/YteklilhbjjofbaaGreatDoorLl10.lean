/- LosslessCheck: Check accepts exactly the certificates; if there is one, the decomposition is lossless, whatever its steps are, where what the law reads is of bulk at most 1048576: the given card of the second form. -/
import Derived.Test.YteklilhbjjofbaaGreatDoorLb36
set_option linter.all false
section
namespace Go.Proofs.YteklilhbjjofbaaGreatDoor.losslessCheckP
open Go.ChangeShapes Go.WideShapes Go.ChangeAt Go.RowKit Go.Hx
set_option maxRecDepth 100000 in
theorem contract (H : Type) (enc : TypeId × Value → H) (W : World) (base : Nat) (args : Array Value) (ds gs : List (DataW H)) (before : List MemPlace)
 (hval : ∀ (j : Nat) t v, Tryz.f10.params[j]? = some t → args[j]? = some v → Value.okWide Tryz.prog W .any base t v)
 (hW : DataW.Whole enc Tryz.prog Tryz.f10.params.toList Rows.losslessCheckSpec.vars false W args.toList ds gs before) (hL : laidMetH Tryz.prog Rows.losslessCheckRow.laid W) (hk : Rows.uptoSmall H (ds ++ gs) = true) :
 Calls Tryz.prog 10 args W fun e W' => ∃ v, e = .returned v ∧ Rows.losslessCheckSpec.post enc Tryz.prog Tryz.f10 false true false false W args v W' := by
 have hW' := hW
 obtain ⟨p, q, hA, hV, rfl, hfz, hnd⟩ := hW
 obtain ⟨rfl, rfl⟩ := trodVars_none hV
 rw [Tryz.params10] at hA hval
 obtain ⟨v0, vs0, d0, ds0, p0, q0, hargs, rfl, rfl, h0, r0⟩ := trodAll_cons hA
 obtain ⟨v1, vs1, d1, ds1, p1, q1, rfl, rfl, rfl, h1, r1⟩ := trodAll_cons r0
 obtain ⟨v2, vs2, d2, ds2, p2, q2, rfl, rfl, rfl, h2, r2⟩ := trodAll_cons r1
 obtain ⟨rfl, rfl, rfl⟩ := trodAll_nil r2
 obtain rfl : args = #[v0, v1, v2] := by cases args; simp_all
 obtain ⟨cs0, rfl, _⟩ := okWide_struct Tryz.underlying33 (hval 0 33 v0 rfl rfl)
 obtain ⟨d, ⟨hd1, hd2, hd3⟩, hr0⟩ := aeo azj h0
 obtain ⟨sts, hs1, hr1⟩ := as9 az2 (ab9 Tryz.underlying46 (hval 1 46 v1 rfl rfl)) h1
 obtain ⟨cs2, rfl⟩ := aga Tryz.underlying82 (hval 2 82 v2 rfl rfl)
 obtain ⟨⟨c0, c1, c2⟩, _, hr2⟩ := aeo az3 h2
 have hb : Rows.uptoBulkAll ([d0, d1, d2] ++ []) ≤ 1048576 := of_decide_eq_true hk
 have hb0 : Rows.uptoBulk d0 ≤ 1048576 := Nat.le_trans (w5 (d := d0) (l := [d0, d1, d2] ++ []) (by simp)) hb
 have hb1 : Rows.uptoBulk d1 ≤ 1048576 := Nat.le_trans (w5 (d := d1) (l := [d0, d1, d2] ++ []) (by simp)) hb
 have hb2 : Rows.uptoBulk d2 ≤ 1048576 := Nat.le_trans (w5 (d := d2) (l := [d0, d1, d2] ++ []) (by simp)) hb
 refine ak0 (us := [.agg cs0, v1, .agg cs2]) (axk hL) (aub d sts c0 c1 c2 (by omega) (by omega) (by omega)) ⟨hr0, hr1, hr2, trivial⟩ fun W' hbb => ⟨_, rfl, ?_⟩
 refine aml ap4 (fun t ht => ?_) (by kernel_rfl) Tryz.underlying4 rfl rfl hW' hbb
 rw [Tryz.params10] at ht
 have ht : t = 33 ∨ t = 46 ∨ t = 82 := by simpa using ht
 rcases ht with rfl | rfl | rfl
 · exact awv
 · exact awl
 exact ax4
theorem laid_met (os : Os) : laidMet Tryz.prog Rows.losslessCheckRow.laid ((laidWorld os).forCall (fun _ _ => 0) ⟨#[], #[.agg #[.int .u8 0, .slice none 0 0, .slice none 0 0, .slice none 0 0], .slice none 0 0, .agg #[.int .u8 0, .int .u8 0, .int .u8 0]], []⟩).memory :=
 laidMet_of_run' 8 (by kernel_rfl) (by kernel_rfl)
theorem reads (os : Os) {H : Type} (enc : TypeId × Value → H) : ∃ places, DataW.whole enc Tryz.prog ((laidWorld os).forCall (fun _ _ => 0) ⟨#[], #[.agg #[.int .u8 0, .slice none 0 0, .slice none 0 0, .slice none 0 0], .slice none 0 0, .agg #[.int .u8 0, .int .u8 0, .int .u8 0]], []⟩).memory Tryz.f10.params.toList Rows.losslessCheckSpec.vars false #[Value.agg #[.int .u8 0, .slice none 0 0, .slice none 0 0, .slice none 0 0], .slice none 0 0, .agg #[.int .u8 0, .int .u8 0, .int .u8 0]].toList 8 = some ([.agg [.lit (.int .u8 0), .nil, .nil, .nil], .nil, .agg [.lit (.int .u8 0), .lit (.int .u8 0), .lit (.int .u8 0)]], [], places) :=
 ⟨[], by kernel_rfl⟩
set_option maxRecDepth 100000 in
theorem lifted (os : Os) (started : os.Started) (H : Type) (enc : TypeId × Value → H) (F : Stop.Interp) :
 ReturnsInHanded {} Tryz.checked os 10 .any ((Rows.OpenSpec.upto Rows.losslessCheckSpec).preRow enc Tryz.prog Tryz.f10 Rows.losslessCheckUptoRow.domain false Rows.losslessCheckUptoRow.laid) (((Rows.OpenSpec.upto Rows.losslessCheckSpec).at F).post enc Tryz.prog Tryz.f10 false true false false) := by
 obtain ⟨places, hx⟩ := reads os enc
 refine returnsInHanded_of_row (C := Tryz.checked) (s := Rows.OpenSpec.upto Rows.losslessCheckSpec) own started (by kernel_rfl) Tryz.func10
  (witness_row_at (enc := enc) (C := Tryz.checked) false (laidWorld os) #[.agg #[.int .u8 0, .slice none 0 0, .slice none 0 0, .slice none 0 0], .slice none 0 0, .agg #[.int .u8 0, .int .u8 0, .int .u8 0]] rfl (by kernel_rfl) (by kernel_rfl) (by kernel_rfl)
   (OpenSpec.preRow_of_cond 8 hx (by kernel_rfl) (fun k hk => by cases hk; kernel_rfl) (by kernel_rfl) (laid_met os))) ?_
 intro W base args ds gs before hval hW _ hcond _ hL _ _
 exact contract H enc W base args ds gs before hval hW hL (hcond _ rfl)
theorem said : Rows.LosslessCheckUptoSaid :=
 OpenClaim.holds_of_cond 10 Tryz.f10 rfl rfl rfl rfl rfl rfl rfl ⟨rfl, rfl, rfl, rfl, rfl⟩ rfl rfl rfl rfl rfl (by kernel_rfl) Tryz.func10 (by kernel_rfl)
  (of_decide_eq_true (by kernel_rfl)) (by unfold Func.isWrapper; first | (rw [if_pos (by decide +kernel)]; kernel_rfl) | (rw [if_neg (by decide +kernel)]; exact ⟨rfl, rfl⟩))
  (fun os started H enc _ F => by rw [OpenClaim.pre_eq_preRow]; exact lifted os started H enc F)
theorem plain (f : FuncId) (fn : Func) (hf : Tryz.pinned.checked.prog.funcNamed "dross/drosslaw21.LosslessCheck" = some f) (hfn : Tryz.pinned.checked.prog.funcs[f]? = some fn) :
 false = Tryz.pinned.checked.prog.looks [] ∧ ∀ (j : Nat) t, fn.params[j]? = some t → Tryz.pinned.checked.prog.wantsStandIn t = false := by
 obtain rfl : f = 10 := Option.some.inj ((show Tryz.prog.funcNamed "dross/drosslaw21.LosslessCheck" = some 10 by kernel_rfl).symm.trans hf) |>.symm
 obtain rfl : fn = Tryz.f10 := (Option.some.inj (Tryz.func10.symm.trans hfn)).symm
 refine ⟨by kernel_rfl, fun j t ht => ?_⟩
 rw [Tryz.params10] at ht
 have ht : t = 33 ∨ t = 46 ∨ t = 82 := by simpa using Array.mem_of_getElem? ht
 rcases ht with rfl | rfl | rfl
 · exact (show Tryz.prog.wantsStandIn 33 = false by kernel_rfl)
 · exact (show Tryz.prog.wantsStandIn 46 = false by kernel_rfl)
 exact (show Tryz.prog.wantsStandIn 82 = false by kernel_rfl)
theorem card : Rows.LosslessCheckUptoCardSaid :=
 Claim7.holds_tied_plain_at .later [] _ _ _ _ said (fun _ h => by cases h) (by kernel_rfl) (fun _ h => by cases h) losslessCheckUpto_row_tie rfl ⟨rfl, rfl⟩ (by kernel_rfl) rfl plain (by kernel_rfl)
end Go.Proofs.YteklilhbjjofbaaGreatDoor.losslessCheckP
end

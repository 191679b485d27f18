/- DesignApply: Apply returns the projections of a table, or the specified error; for a lossless design their join has the same lists of values, if the table satisfies the dependencies, where what the law reads is of bulk at most 1048576: the given card of the second form. -/
import Derived.Test.YtcepfnkhagkdeaaGreatDoorUx25
set_option linter.all false
section
namespace Go.Proofs.YtcepfnkhagkdeaaGreatDoor.designApplyP
open Go.ChangeShapes Go.WideShapes Go.ChangeAt Go.RowKit Go.Hx
set_option maxRecDepth 100000 in
theorem Fm (H : Type) (enc : TypeId × Value → H) (W : World) (base : Nat) (args : Array Value) (ds gs : List (DataW H)) (before : List MemPlace)
 (hval : ∀ (j : Nat) t v, Tryz.f3.params[j]? = some t → args[j]? = some v → Value.okWide Tryz.prog W .any base t v)
 (hW : DataW.Whole enc Tryz.prog Tryz.f3.params.toList Rows.designApplySpec.vars false W args.toList ds gs before) (hL : laidMetH Tryz.prog Rows.designApplyRow.laid W) (hk : Rows.uptoSmall H (ds ++ gs) = true) :
 Calls Tryz.prog 3 args W λe W' => ∃ v, e = .returned v ∧ Rows.designApplySpec.post enc Tryz.prog Tryz.f3 false true false false W args v W' := by
 have hW' := hW
 obtain ⟨p, q, hA, hV, rfl, hfz, hnd⟩ := hW
 obtain ⟨rfl, rfl⟩ := trodVars_none hV
 rw [Tryz.params3] at hA hval
 obtain ⟨v0, vs0, d0, ds0, p0, q0, hargs, rfl, rfl, h0, r0⟩ := trodAll_cons hA
 obtain ⟨v1, vs1, d1, ds1, p1, q1, rfl, rfl, rfl, h1, r1⟩ := trodAll_cons r0
 obtain ⟨v2, vs2, d2, ds2, p2, q2, rfl, rfl, rfl, h2, r2⟩ := trodAll_cons r1
 obtain ⟨rfl, rfl, rfl⟩ := trodAll_nil r2
 obtain rfl : args = #[v0, v1, v2] := by cases args; simp_all
 obtain ⟨cs0, rfl, _⟩ := okWide_struct Tryz.underlying24 (hval 0 24 v0 rfl rfl)
 obtain ⟨x, hx, hr0⟩ := KR gZ h0
 obtain ⟨cs1, rfl, _⟩ := okWide_struct Tryz.underlying28 (hval 1 28 v1 rfl rfl)
 obtain ⟨d, ⟨hd1, hd2, hd3⟩, hr1⟩ := KR YY h1
 obtain ⟨b, _, hr2⟩ := b9q VY.toB (ars Tryz.underlying4 (hval 2 4 v2 rfl rfl)) h2
 have hb : Rows.uptoBulkAll ([d0, d1, d2] ++ []) ≤ 1048576 := Ga hk
 have hb0 : Rows.uptoBulk d0 ≤ 1048576 := Nat.le_trans (wB (d := d0) (l := [d0, d1, d2] ++ []) (by simp)) hb
 have hb1 : Rows.uptoBulk d1 ≤ 1048576 := Nat.le_trans (wB (d := d1) (l := [d0, d1, d2] ++ []) (by simp)) hb
 have hb2 : Rows.uptoBulk d2 ≤ 1048576 := Nat.le_trans (wB (d := d2) (l := [d0, d1, d2] ++ []) (by simp)) hb
 refine b1o (us := [.agg cs0, .agg cs1, v2]) (Q3 hL) (M9 x d b (by omega) (by omega) (by omega) (by omega)) ⟨hr0, hr1, hr2, trivial⟩ λW' hbb => ⟨_, rfl, ?_⟩
 refine b5x bdp (λt ht => ?_) (by kernel_rfl) Tryz.underlying4 rfl rfl hW' hbb
 rw [Tryz.params3] at ht
 have ht : t = 24 ∨ t = 28 ∨ t = 4 := by simpa using ht
 rcases ht with rfl | rfl | rfl
 .exact N7
 .exact I4
 exact J3
theorem Em (os : Os) : laidMet Tryz.prog Rows.designApplyRow.laid ((Og os).forCall (λ_ _ => 0) ⟨#[], #[.agg #[.int .u8 0, .int .u8 0, .slice none 0 0], .agg #[.int .u8 0, .slice none 0 0, .slice none 0 0, .slice none 0 0], .bool false], []⟩).memory :=
 laidMet_of_run' 8 (by kernel_rfl) (by kernel_rfl)
theorem Vp (os : Os) {H : Type} (enc : TypeId × Value → H) : ∃ places, DataW.whole enc Tryz.prog ((Og os).forCall (λ_ _ => 0) ⟨#[], #[.agg #[.int .u8 0, .int .u8 0, .slice none 0 0], .agg #[.int .u8 0, .slice none 0 0, .slice none 0 0, .slice none 0 0], .bool false], []⟩).memory Tryz.f3.params.toList Rows.designApplySpec.vars false #[Value.agg #[.int .u8 0, .int .u8 0, .slice none 0 0], .agg #[.int .u8 0, .slice none 0 0, .slice none 0 0, .slice none 0 0], .bool false].toList 8 = some ([.agg [.lit (.int .u8 0), .lit (.int .u8 0), .nil], .agg [.lit (.int .u8 0), .nil, .nil, .nil], .lit (.bool false)], [], places) :=
 ⟨[], by kernel_rfl⟩
set_option maxRecDepth 100000 in
theorem Es (os : Os) (started : os.Started) (H : Type) (enc : TypeId × Value → H) (F : Stop.Interp) :
 ReturnsInHanded {} Tryz.checked os 3 .any ((Rows.OpenSpec.upto Rows.designApplySpec).preRow enc Tryz.prog Tryz.f3 Rows.designApplyUptoRow.domain false Rows.designApplyUptoRow.laid) (((Rows.OpenSpec.upto Rows.designApplySpec).at F).post enc Tryz.prog Tryz.f3 false true false false) := by
 obtain ⟨places, hx⟩ := Vp os enc
 refine returnsInHanded_of_row (C := Tryz.checked) (s := Rows.OpenSpec.upto Rows.designApplySpec) own started (by kernel_rfl) Tryz.func3
  (witness_row_at (enc := enc) (C := Tryz.checked) false (Og os) #[.agg #[.int .u8 0, .int .u8 0, .slice none 0 0], .agg #[.int .u8 0, .slice none 0 0, .slice none 0 0, .slice none 0 0], .bool false] rfl (by kernel_rfl) (by kernel_rfl) (by kernel_rfl)
   (OpenSpec.preRow_of_cond 8 hx (by kernel_rfl) (λk hk => by cases hk; kernel_rfl) (by kernel_rfl) (Em os))) ?_
 intro W base args ds gs before hval hW _ hcond _ hL _ _
 exact Fm H enc W base args ds gs before hval hW hL (hcond _ rfl)
theorem QF : Rows.DesignApplyUptoSaid :=
 OpenClaim.holds_of_cond 3 Tryz.f3 rfl rfl rfl rfl rfl rfl rfl ⟨rfl, rfl, rfl, rfl, rfl⟩ rfl rfl rfl rfl rfl (by kernel_rfl) Tryz.func3 (by kernel_rfl)
  (Ga (by kernel_rfl)) (by unfold Func.isWrapper; first | (rw [Ba (by decide +kernel)]; kernel_rfl) | (rw [Ca (by decide +kernel)]; exact ⟨rfl, rfl⟩))
  (λos started H enc _ F => by rw [OpenClaim.pre_eq_preRow]; exact Es os started H enc F)
theorem Xy (f : FuncId) (fn : Func) (hf : Tryz.pinned.checked.prog.funcNamed "dross/drosslaw26.DesignApply" = some f) (hfn : Tryz.pinned.checked.prog.funcs[f]? = some fn) :
 false = Tryz.pinned.checked.prog.looks [] ∧ ∀ (j : Nat) t, fn.params[j]? = some t → Tryz.pinned.checked.prog.wantsStandIn t = false := by
 obtain rfl : f = 3 := Option.some.inj ((show Tryz.prog.funcNamed "dross/drosslaw26.DesignApply" = some 3 by kernel_rfl).symm.trans hf) |>.symm
 obtain rfl : fn = Tryz.f3 := (Option.some.inj (Tryz.func3.symm.trans hfn)).symm
 refine ⟨by kernel_rfl, λj t ht => ?_⟩
 rw [Tryz.params3] at ht
 have ht : t = 24 ∨ t = 28 ∨ t = 4 := by simpa using Array.mem_of_getElem? ht
 rcases ht with rfl | rfl | rfl
 .exact (show Tryz.prog.wantsStandIn 24 = false by kernel_rfl)
 .exact (show Tryz.prog.wantsStandIn 28 = false by kernel_rfl)
 exact (show Tryz.prog.wantsStandIn 4 = false by kernel_rfl)
theorem card : Rows.DesignApplyUptoCardSaid :=
 Claim7.holds_tied_plain_at .later [] _ _ _ _ QF (λ_ h => by cases h) (by kernel_rfl) (λ_ h => by cases h) designApplyUpto_row_tie rfl ⟨rfl, rfl⟩ (by kernel_rfl) rfl Xy (by kernel_rfl)
end Go.Proofs.YtcepfnkhagkdeaaGreatDoor.designApplyP
end

/- DesignReport: Report names the parts of a decomposition, the keys of each, the dependencies that it loses and what is claimed for it, where what the law reads is of bulk at most 1048576: the given card of the second form. -/
import Derived.Test.YtkkenjdfbojdlaaGreatDoorFx25
import Derived.Test.YtkkenjdfbojdlaaGreatDoorFx32
import Derived.Test.YtkkenjdfbojdlaaGreatDoorFx41
set_option linter.all false
section
namespace Go.Proofs.YtkkenjdfbojdlaaGreatDoor.designReportP
open Go.ChangeShapes Go.WideShapes Go.ChangeAt Go.RowKit Go.Hx
set_option maxRecDepth 100000 in
theorem contract (H : Type) (enc : TypeId × Value → H) (W : World) (base : Nat) (args : Array Value) (ds gs : List (DataW H)) (before : List MemPlace)
 (hval : ∀ (j : Nat) t v, Tryz.f7.params[j]? = some t → args[j]? = some v → Value.okWide Tryz.prog W .any base t v)
 (hW : DataW.Whole enc Tryz.prog Tryz.f7.params.toList Rows.designReportSpec.vars false W args.toList ds gs before) (hL : laidMetH Tryz.prog Rows.designReportRow.laid W) (hk : Rows.uptoSmall H (ds ++ gs) = true) :
 Calls Tryz.prog 7 args W fun e W' => ∃ v, e = .returned v ∧ Rows.designReportSpec.post enc Tryz.prog Tryz.f7 false true false false W args v W' := by
 have hW' := hW
 obtain ⟨p, q, hA, hV, rfl, hfz, hnd⟩ := hW
 obtain ⟨rfl, rfl⟩ := trodVars_none hV
 rw [Tryz.params7] at hA hval
 obtain ⟨v0, vs0, d0, ds0, p0, q0, hargs, rfl, rfl, h0, r0⟩ := trodAll_cons hA
 obtain ⟨v1, vs1, d1, ds1, p1, q1, rfl, rfl, rfl, h1, r1⟩ := trodAll_cons r0
 obtain ⟨v2, vs2, d2, ds2, p2, q2, rfl, rfl, rfl, h2, r2⟩ := trodAll_cons r1
 obtain ⟨rfl, rfl, rfl⟩ := trodAll_nil r2
 obtain rfl : args = #[v0, v1, v2] := by cases args; simp_all
 obtain ⟨cs0, rfl, _⟩ := okWide_struct Tryz.underlying25 (hval 0 25 v0 rfl rfl)
 obtain ⟨d, ⟨hd1, hd2, hd3⟩, hr0⟩ := b3j bbv h0
 obtain ⟨ns, ⟨hn1, hn2⟩, hr1⟩ := al0 ba9 (adz Tryz.underlying57 (hval 1 57 v1 rfl rfl)) h1
 obtain ⟨fm, _, hr2⟩ := al0 rd3.toB (am1 Tryz.underlying3 (hval 2 3 v2 rfl rfl)) h2
 have hb : Rows.uptoBulkAll ([d0, d1, d2] ++ []) ≤ 1048576 := of_decide_eq_true hk
 have hb0 : Rows.uptoBulk d0 ≤ 1048576 := Nat.le_trans (zt (d := d0) (l := [d0, d1, d2] ++ []) (by simp)) hb
 have hb1 : Rows.uptoBulk d1 ≤ 1048576 := Nat.le_trans (zt (d := d1) (l := [d0, d1, d2] ++ []) (by simp)) hb
 have hb2 : Rows.uptoBulk d2 ≤ 1048576 := Nat.le_trans (zt (d := d2) (l := [d0, d1, d2] ++ []) (by simp)) hb
 refine aot (us := [.agg cs0, v1, v2]) (b9j hL) (b8b d (by omega) (by omega) (by omega) ns fm (by omega) (fun b hb => Nat.le_trans (hn2 b hb) hb1)) ⟨hr0, hr1, hr2, trivial⟩ fun W' hbb => ⟨_, rfl, ?_⟩
 refine au2 b2w (fun t ht => ?_) (by kernel_rfl) Tryz.underlying4 rfl rfl hW' hbb
 rw [Tryz.params7] at ht
 have ht : t = 25 ∨ t = 57 ∨ t = 3 := by simpa using ht
 rcases ht with rfl | rfl | rfl
 · exact b9p
 · exact b8h
 exact bbn
theorem laid_met (os : Os) : laidMet Tryz.prog Rows.designReportRow.laid ((laidWorld os).forCall (fun _ _ => 0) ⟨#[], #[.agg #[.int .u8 0, .slice none 0 0, .slice none 0 0, .slice none 0 0], .slice none 0 0, .int .i64 0], []⟩).memory :=
 laidMet_of_run' 8 (by kernel_rfl) (by kernel_rfl)
theorem reads (os : Os) {H : Type} (enc : TypeId × Value → H) : ∃ places, DataW.whole enc Tryz.prog ((laidWorld os).forCall (fun _ _ => 0) ⟨#[], #[.agg #[.int .u8 0, .slice none 0 0, .slice none 0 0, .slice none 0 0], .slice none 0 0, .int .i64 0], []⟩).memory Tryz.f7.params.toList Rows.designReportSpec.vars false #[Value.agg #[.int .u8 0, .slice none 0 0, .slice none 0 0, .slice none 0 0], .slice none 0 0, .int .i64 0].toList 8 = some ([.agg [.lit (.int .u8 0), .nil, .nil, .nil], .nil, .lit (.int .i64 0)], [], places) :=
 ⟨[], by kernel_rfl⟩
set_option maxRecDepth 100000 in
theorem lifted (os : Os) (started : os.Started) (H : Type) (enc : TypeId × Value → H) (F : Stop.Interp) :
 ReturnsInHanded {} Tryz.checked os 7 .any ((Rows.OpenSpec.upto Rows.designReportSpec).preRow enc Tryz.prog Tryz.f7 Rows.designReportUptoRow.domain false Rows.designReportUptoRow.laid) (((Rows.OpenSpec.upto Rows.designReportSpec).at F).post enc Tryz.prog Tryz.f7 false true false false) := by
 obtain ⟨places, hx⟩ := reads os enc
 refine returnsInHanded_of_row (C := Tryz.checked) (s := Rows.OpenSpec.upto Rows.designReportSpec) own started (by kernel_rfl) Tryz.func7
  (witness_row_at (enc := enc) (C := Tryz.checked) false (laidWorld os) #[.agg #[.int .u8 0, .slice none 0 0, .slice none 0 0, .slice none 0 0], .slice none 0 0, .int .i64 0] rfl (by kernel_rfl) (by kernel_rfl) (by kernel_rfl)
   (OpenSpec.preRow_of_cond 8 hx (by kernel_rfl) (fun k hk => by cases hk; kernel_rfl) (by kernel_rfl) (laid_met os))) ?_
 intro W base args ds gs before hval hW _ hcond _ hL _ _
 exact contract H enc W base args ds gs before hval hW hL (hcond _ rfl)
theorem said : Rows.DesignReportUptoSaid :=
 OpenClaim.holds_of_cond 7 Tryz.f7 rfl rfl rfl rfl rfl rfl rfl ⟨rfl, rfl, rfl, rfl, rfl⟩ rfl rfl rfl rfl rfl (by kernel_rfl) Tryz.func7 (by kernel_rfl)
  (of_decide_eq_true (by kernel_rfl)) (by unfold Func.isWrapper; first | (rw [if_pos (by decide +kernel)]; kernel_rfl) | (rw [if_neg (by decide +kernel)]; exact ⟨rfl, rfl⟩))
  (fun os started H enc _ F => by rw [OpenClaim.pre_eq_preRow]; exact lifted os started H enc F)
theorem plain (f : FuncId) (fn : Func) (hf : Tryz.pinned.checked.prog.funcNamed "dross/drosslaw26.DesignReport" = some f) (hfn : Tryz.pinned.checked.prog.funcs[f]? = some fn) :
 false = Tryz.pinned.checked.prog.looks [] ∧ ∀ (j : Nat) t, fn.params[j]? = some t → Tryz.pinned.checked.prog.wantsStandIn t = false := by
 obtain rfl : f = 7 := Option.some.inj ((show Tryz.prog.funcNamed "dross/drosslaw26.DesignReport" = some 7 by kernel_rfl).symm.trans hf) |>.symm
 obtain rfl : fn = Tryz.f7 := (Option.some.inj (Tryz.func7.symm.trans hfn)).symm
 refine ⟨by kernel_rfl, fun j t ht => ?_⟩
 rw [Tryz.params7] at ht
 have ht : t = 25 ∨ t = 57 ∨ t = 3 := by simpa using Array.mem_of_getElem? ht
 rcases ht with rfl | rfl | rfl
 · exact (show Tryz.prog.wantsStandIn 25 = false by kernel_rfl)
 · exact (show Tryz.prog.wantsStandIn 57 = false by kernel_rfl)
 exact (show Tryz.prog.wantsStandIn 3 = false by kernel_rfl)
theorem card : Rows.DesignReportUptoCardSaid :=
 Claim7.holds_tied_plain_at .later [] _ _ _ _ said (fun _ h => by cases h) (by kernel_rfl) (fun _ h => by cases h) designReportUpto_row_tie rfl ⟨rfl, rfl⟩ (by kernel_rfl) rfl plain (by kernel_rfl)
end Go.Proofs.YtkkenjdfbojdlaaGreatDoor.designReportP
end

/- A part of the proof: lemmas for the theorem of this claim, merged by a program of ours out of Sp16, W32, W38, Sp17, W39. -/
import Derived.Test.YtdcdbghdgjlhhaaGreatM23
import Derived.Test.YtdcdbghdgjlhhaaGreatM29
import Derived.Test.YtdcdbghdgjlhhaaGreatM32
set_option linter.all false
section
namespace Go.Hx
open Go.Proofs
abbrev vI' (e : Int) : HR := .v (.one (.p (.raw (.int .i64 e))))
section
variable {n : Nat} {s : Stt} {o : Opn} {e : Int}
theorem awC (hn : n ≤ 1000000) (h : Sim n s) (ho : OpOk o) (hk : o.kind.toNat % 9 = 0) (he : doE s o = e) : HFun Tryz.prog 31 [.one (.ptr 1000 0), (tblOf o).pc.toH] (strOf s).objs (vI' e) (strOf (doS s o)).objs [1000] := by
  have hs := sim h ho
  have q := c31h (strOf s) (tblOf o) (h.sok (by omega)) (tblOf_ok ho) (chg1_ok (tblOf_ok ho))
  rw [show appErr (strOf s).db (chg1 (tblOf o)) = e from by rw [← he, ← hs.1]; simp [dxE, hk], show pfS (strOf s) (chg1 (tblOf o)) = strOf (doS s o) from by rw [← hs.2.1]; simp [dxS, hk]] at q
  exact q
theorem awI (hn : n ≤ 1000000) (h : Sim n s) (ho : OpOk o) (hk : o.kind.toNat % 9 = 1) (he : doE s o = e) : HFun Tryz.prog 34 [.one (.ptr 1000 0), .one (.p (.raw (.string (nmOf o)))), (rowOf o).pc.toH] (strOf s).objs (vI' e) (strOf (doS s o)).objs [1000] := by
  have hs := sim h ho
  have q := c34h (strOf s) (nmOf o) (rowOf o) (h.sok (by omega)) (rowOf_ok ho).1 (chgR_ok (rowOf_ok ho))
  rw [show appErr (strOf s).db (chgR 2 (nmOf o) (rowOf o)) = e from by rw [← he, ← hs.1]; simp [dxE, hk], show pfS (strOf s) (chgR 2 (nmOf o) (rowOf o)) = strOf (doS s o) from by rw [← hs.2.1]; simp [dxS, hk]] at q
  exact q
theorem awD (hn : n ≤ 1000000) (h : Sim n s) (ho : OpOk o) (hk : o.kind.toNat % 9 = 2) (he : doE s o = e) : HFun Tryz.prog 39 [.one (.ptr 1000 0), .one (.p (.raw (.string (nmOf o)))), .one (.p (.raw (.int .i64 o.id)))] (strOf s).objs (vI' e) (strOf (doS s o)).objs [1000] := by
  have hs := sim h ho
  have q := c39h (strOf s) (nmOf o) o.id (h.sok (by omega)) (chgR_ok (bfR_ok h.dbV))
  rw [show dlE (strOf s) (nmOf o) o.id = e from by rw [← he, ← hs.1]; simp [dxE, hk], show dlS (strOf s) (nmOf o) o.id = strOf (doS s o) from by rw [← hs.2.1]; simp [dxS, hk]] at q
  exact q
theorem awB (h : Sim n s) (ho : OpOk o) (hk : o.kind.toNat % 9 = 4) (he : doE s o = e) : HFun Tryz.prog 27 [.one (.ptr 1000 0)] (strOf s).objs (vI' e) (strOf (doS s o)).objs [1000] := by
  have hs := sim h ho
  have q := c27 (strOf s)
  rw [show bgE (strOf s) = e from by rw [← he, ← hs.1]; simp [dxE, hk], show bgS (strOf s) = strOf (doS s o) from by rw [← hs.2.1]; simp [dxS, hk]] at q
  exact q
theorem awK (hn : n ≤ 1000000) (h : Sim n s) (ho : OpOk o) (hk : o.kind.toNat % 9 = 5) (he : doE s o = e) : HFun Tryz.prog 28 [.one (.ptr 1000 0)] (strOf s).objs (vI' e) (strOf (doS s o)).objs [1000] := by
  have hs := sim h ho
  have q := c28h (strOf s) (h.sok (by omega))
  rw [show enE (strOf s) = e from by rw [← he, ← hs.1]; simp [dxE, hk], show cmS (enS (strOf s)) (enL (strOf s)) = strOf (doS s o) from by rw [← hs.2.1]; simp [dxS, hk]] at q
  exact q
theorem awX (hn : n ≤ 1000000) (h : Sim n s) (ho : OpOk o) (hk : o.kind.toNat % 9 = 6) (he : doE s o = e) : HFun Tryz.prog 29 [.one (.ptr 1000 0)] (strOf s).objs (vI' e) (strOf (doS s o)).objs [1000] := by
  have hs := sim h ho
  have hX := h.sok (by omega)
  have q := c29h (strOf s) hX.db hX.nw (fun _ i hi => inv_rb h hi)
  rw [show enE (strOf s) = e from by rw [← he, ← hs.1]; simp [dxE, hk], show rbS (strOf s) = strOf (doS s o) from by rw [← hs.2.1]; simp [dxS, hk]] at q
  exact q
theorem awU (hn : n ≤ 1000000) (h : Sim n s) (ho : OpOk o) (hk : o.kind.toNat % 9 = 7) (he : doE s o = e) : HFun Tryz.prog 24 [.one (.ptr 1000 0)] (strOf s).objs (vI' e) (strOf (doS s o)).objs [1000] := by
  have hs := sim h ho
  have hX := h.sok (by omega)
  have hun : (strOf s).undone.length ≤ 68719476736 := by have := h.n2; show s.undone.length ≤ _; omega
  have q := c24h (strOf s) hX.db hX.dn hun (fun hc => ⟨Nat.le_trans (inv_ud h hc rfl).1 (by omega), (inv_ud h hc rfl).2⟩)
  rw [show udE (strOf s) = e from by rw [← he, ← hs.1]; simp [dxE, hk], show udS (strOf s) = strOf (doS s o) from by rw [← hs.2.1]; simp [dxS, hk]] at q
  exact q
theorem awR (hn : n ≤ 1000000) (h : Sim n s) (ho : OpOk o) (hk : o.kind.toNat % 9 = 8) (he : doE s o = e) : HFun Tryz.prog 25 [.one (.ptr 1000 0)] (strOf s).objs (vI' e) (strOf (doS s o)).objs [1000] := by
  have hs := sim h ho
  have hX := h.sok (by omega)
  have hun : (strOf s).undone.length ≤ 68719476736 := by have := h.n2; show s.undone.length ≤ _; omega
  have q := c25h (strOf s) hX.db hX.dn hun (inv_rd h)
  rw [show rdE (strOf s) = e from by rw [← he, ← hs.1]; simp [dxE, hk], show rdS (strOf s) = strOf (doS s o) from by rw [← hs.2.1]; simp [dxS, hk]] at q
  exact q
end
abbrev opC : Opn := ⟨0, 0, ⟨1, 0, [[11]]⟩, 0, [], 0, 0⟩
abbrev opI (k : Int) : Opn := ⟨1, 0, default, k, [1], 0, 0⟩
abbrev opK (k : UInt8) : Opn := ⟨k, 0, default, 0, [], 0, 0⟩
abbrev opD : Opn := ⟨2, 0, default, 1, [], 0, 0⟩
theorem opC_ok : OpOk opC := ⟨Nat.le_of_ble_eq_true rfl, Nat.le_of_ble_eq_true rfl⟩
theorem opI_ok {k : Int} : OpOk (opI k) := ⟨Nat.le_of_ble_eq_true rfl, Nat.le_of_ble_eq_true rfl⟩
theorem opK_ok {k : UInt8} : OpOk (opK k) := ⟨Nat.le_of_ble_eq_true rfl, Nat.le_of_ble_eq_true rfl⟩
theorem opD_ok : OpOk opD := ⟨Nat.le_of_ble_eq_true rfl, Nat.le_of_ble_eq_true rfl⟩
def w0 : Stt := default
def w1 : Stt := doS w0 opC
def w2 : Stt := doS w1 (opI 2)
def w3 : Stt := doS w2 (opK 7)
def w4 : Stt := doS w3 (opK 8)
def w5 : Stt := doS w4 (opK 7)
def w6 : Stt := doS w5 (opI 3)
def w7 : Stt := doS w6 (opK 8)
def w8 : Stt := doS w7 (opK 4)
def w9 : Stt := doS w8 opD
def w10 : Stt := doS w9 (opK 6)
theorem s0 : Sim 0 w0 := sim00
theorem s1 : Sim 1 w1 := (sim s0 opC_ok).2.2
theorem s2 : Sim 2 w2 := (sim s1 opI_ok).2.2
theorem s3 : Sim 3 w3 := (sim s2 opK_ok).2.2
theorem s4 : Sim 4 w4 := (sim s3 opK_ok).2.2
theorem s5 : Sim 5 w5 := (sim s4 opK_ok).2.2
theorem s6 : Sim 6 w6 := (sim s5 opI_ok).2.2
theorem s7 : Sim 7 w7 := (sim s6 opK_ok).2.2
theorem s8 : Sim 8 w8 := (sim s7 opK_ok).2.2
theorem s9 : Sim 9 w9 := (sim s8 opD_ok).2.2
theorem s10 : Sim 10 w10 := (sim s9 opK_ok).2.2
theorem e1 : doE w0 opC = 0 := by kernel_rfl
theorem e2 : doE w1 (opI 2) = 0 := by kernel_rfl
theorem e3 : doE w2 (opK 7) = 0 := by kernel_rfl
theorem e4 : doE w3 (opK 8) = 0 := by kernel_rfl
theorem e5 : doE w4 (opK 7) = 0 := by kernel_rfl
theorem e6 : doE w5 (opI 3) = 0 := by kernel_rfl
theorem e7 : doE w6 (opK 8) = 16 := by kernel_rfl
theorem e8 : doE w7 (opK 4) = 0 := by kernel_rfl
theorem e9 : doE w8 opD = 0 := by kernel_rfl
theorem e10 : doE w9 (opK 6) = 0 := by kernel_rfl
theorem k3 : wkN (dbOf w3) = 1 := by kernel_rfl
theorem k4 : wkN (dbOf w4) = 2 := by kernel_rfl
theorem d10 : dbOf w10 = [⟨⟨#[114]⟩, [⟨#[97]⟩], [⟨1, [ofV 11]⟩, ⟨3, [ofV 1]⟩]⟩] := by kernel_rfl
theorem j10 : w10.done.flatten.length = 2 := by kernel_rfl
theorem aw38 {s : Stt} {k : Int} (hd : dbV (dbOf s)) (hk : wkN (dbOf s) = k) : HFun Tryz.prog 38 [.one (.ptr 1001 0)] ((1001, .box [.ptr 1000 0]) :: (strOf s).objs) (vI' k) ((1001, .box [.ptr 1000 0]) :: (strOf s).objs) [1000, 1001] := by
  have q := c38h (strOf s) hd
  rw [show wkN (strOf s).db = k from hk] at q
  exact q
theorem aw22 : HFun Tryz.prog 22 [.one (.ptr 1000 0)] (strOf w10).objs (.v (dbpc [⟨⟨#[114]⟩, [⟨#[97]⟩], [⟨1, [ofV 11]⟩, ⟨3, [ofV 1]⟩]⟩]).toH) (strOf w10).objs [1000] := by
  have q := c22h (strOf w10) s10.dbV
  rw [show (strOf w10).db = [⟨⟨#[114]⟩, [⟨#[97]⟩], [⟨1, [ofV 11]⟩, ⟨3, [ofV 1]⟩]⟩] from d10] at q
  exact q
theorem aw23 : HFun Tryz.prog 23 [.one (.ptr 1000 0)] (strOf w10).objs (.v (.one (.ref 911 2))) ((strOf w10).objs ++ [(911, .arr true 11 49 2 (lf Chg.c w10.done.flatten))]) [1000] := by
  have q := c23h (strOf w10) (by show w10.done.flatten.length ≤ _; rw [j10]; omega) (fun i k hi hk => by
    have hi : i < w10.done.length := hi
    have hk : k < (w10.done.getD i default).length := hk
    show ((w10.done.getD i default).getD k default).ok
    rw [getD_lt _ _ hi] at hk ⊢
    rw [getD_lt _ _ hk]
    exact s10.ok1 _ (List.mem_flatten.2 ⟨_, List.getElem_mem hi, List.getElem_mem hk⟩))
  rw [show (strOf w10).done.flatten.length = 2 from j10] at q
  exact q
end Go.Hx
end
section
namespace Go.Hx
open Go.Proofs
set_option maxRecDepth 100000
theorem good37 : goodFn Tryz.prog 37 := ⟨Tryz.f37, Tryz.func37, by kernel_rfl, by kernel_rfl⟩
theorem c37 (k : Int) : HPure Tryz.prog 37 [pI k] (prOf [(rowOf (⟨0, 0, default, k, [1], 0, 0⟩ : Opn)).pc]) := by
  refine hpure_of (nt := 7) Tryzok Tryz.func37 rfl rfl (Nat.le_of_ble_eq_true rfl) ?_; refine hw_seq ?_; refine hw_region (E := TryzE) Tryzok ?_; refine rm 0 rfl rfl rfl rfl rfl rfl ?_; refine rg_nil ?_; show HW _ _ _ _ _
  refine hw_seq ?_; refine hw_region (E := TryzE) Tryzok ?_; refine rq rfl rfl rfl rfl rfl ?_; refine rm 1 rfl rfl rfl rfl rfl rfl ?_; refine rq rfl rfl rfl rfl rfl ?_
  refine rg_fcall rfl rfl rfl rfl rfl rfl good33 (HPure.eat (hcs := [.agg [.p ((⟨0, 0, default, k, [1], 0, 0⟩ : Opn).c 0), .p ((⟨0, 0, default, k, [1], 0, 0⟩ : Opn).c 1), .p ((⟨0, 0, default, k, [1], 0, 0⟩ : Opn).c 2), .p ((⟨0, 0, default, k, [1], 0, 0⟩ : Opn).c 3), .p ((⟨0, 0, default, k, [1], 0, 0⟩ : Opn).c 4), .p ((⟨0, 0, default, k, [1], 0, 0⟩ : Opn).c 5), .ref 1 1, .p ((⟨0, 0, default, k, [1], 0, 0⟩ : Opn).c 7), .p ((⟨0, 0, default, k, [1], 0, 0⟩ : Opn).c 8)]]) (o1 := [(1, .arr true 1 5 1 (lf u8C [1]))]) (c33 (⟨0, 0, default, k, [1], 0, 0⟩ : Opn) (by show 1 ≤ 68719476736; decide)) rfl (by (repeat' apply And.intro) <;> first | trivial | rfl) (CoL.refl _)) (⟨⟨CoH.refl _, CoH.refl _, CoH.refl _, CoH.refl _, co_nil, CoH.refl _, CoH.refl _, CoH.refl _, CoH.refl _, trivial⟩, trivial⟩) ⟨⟨_, rfl, ⟨fun h => h, rfl, rfl, rfl, lt1b (lt1 (CoP.refl _))⟩⟩, trivial⟩ rfl rfl ?_
  refine rs rfl rfl rfl rfl rfl ?_; refine rg_nil ?_; show HW _ _ _ _ _; refine hw_ret ?_; refine ⟨.inr rfl, ?_⟩
  exact ⟨_, _, _, _, rfl, (by (repeat' apply And.intro) <;> first | trivial | exact Nat.le_of_ble_eq_true rfl | rfl), rfl, (by (repeat' apply And.intro) <;> first | trivial | exact Nat.le_of_ble_eq_true rfl | rfl), CoL.refl _⟩
end Go.Hx
end
section
namespace Go.Hx
open Go.Proofs
set_option maxRecDepth 100000
theorem good9 : goodFn Tryz.prog 9 := ⟨Tryz.f9, Tryz.func9, by kernel_rfl, by kernel_rfl⟩
theorem c9  : HPure Tryz.prog 9 [] (prOf [pB true]) := by
  refine hpure_of (nt := 105) Tryzok Tryz.func9 rfl rfl (Nat.le_of_ble_eq_true rfl) ?_; refine hw_seq ?_; refine hw_region (E := TryzE) Tryzok ?_; refine rq rfl rfl rfl rfl rfl ?_; refine rg_nil ?_; show HW _ _ _ _ _
  refine hw_seq ?_; refine hw_region (E := TryzE) Tryzok ?_; refine rg_fcall rfl rfl rfl rfl rfl rfl good17 (c17h) (CoHCL.refl _) trivial rfl rfl ?_; refine rm 0 rfl rfl rfl rfl rfl rfl ?_; refine rs rfl rfl rfl rfl rfl ?_
  refine rg_nil ?_; show HW _ _ _ _ _; refine hw_seq ?_; refine hw_regionN [0] [1, 2, 3, 4, 5] rfl ?_; refine rn_reg (E := TryzE) Tryzok ?_; refine rm 1 rfl rfl rfl rfl rfl rfl ?_; refine rg_nil ?_; refine rn_he ?_
  refine he_freeze 7 rfl rfl rfl ?_; refine he_done ?_; refine rn_reg (E := TryzE) (L1 := [1]) (L2 := [2, 3, 4, 5]) Tryzok ?_; refine rm 2 rfl rfl rfl rfl rfl rfl ?_; refine rg_nil ?_; refine rn_he ?_
  refine he_freeze 8 rfl rfl rfl ?_; refine he_done ?_; refine rn_reg (E := TryzE) (L1 := [2, 3, 4, 5]) (L2 := []) Tryzok ?_; refine rq rfl rfl rfl rfl rfl ?_
  refine rc rfl rfl rfl rfl rfl rfl good36 (c36 ⟨0, 0, [[11]]⟩ 1 (by omega) (by show 1 ≤ 68719476736; omega)) (⟨CoC.agg ⟨CoP.refl _, CoP.refl _, (CoP.sl rfl (.inl rfl) (fun h => h) (lt1b (lt1 (CoP.sl rfl (.inl rfl) (fun h => h) (lt1b (lt1 (CoP.refl _))))))), trivial⟩, CoC.refl _, trivial⟩) rfl rfl ?_
  refine rm 3 rfl rfl rfl rfl rfl rfl ?_; refine rs rfl rfl rfl rfl rfl ?_; refine rg_nil ?_; refine rn_nil ?_; show HW _ _ _ _ _; refine hw_seq ?_; refine hw_region (E := TryzE) Tryzok ?_; refine rq rfl rfl rfl rfl rfl ?_
  refine rg_nil ?_; show HW _ _ _ _ _; refine hw_seq ?_; refine hw_region (E := TryzE) Tryzok ?_; (iterate 2 refine rq rfl rfl rfl rfl rfl ?_); refine rg_nil ?_; show HW _ _ _ _ _; (iterate 2 refine hw_seq ?_)
  refine hw_draw (E := TryzE) Tryzok Tryzmixed [0, 1, 2, 3, 4, 5, 6, 7, 8, 9, 10, 11, 12, 13, 14, 15, 16, 17, 18, 19, 20, 21, 22, 23, 24, 25, 26, 27, 28, 29, 30] ?_; (iterate 2 refine rq rfl rfl rfl rfl rfl ?_)
  refine rg_fcall rfl rfl rfl rfl rfl rfl good31 ((awC (by omega) s0 opC_ok rfl e1).swap 1000 900) (CoHCL.refl _) ⟨⟨_, rfl, CoO.refl _⟩, ⟨_, rfl, CoO.refl _⟩, ⟨_, rfl, CoO.refl _⟩, ⟨_, rfl, CoO.refl _⟩, trivial⟩ rfl rfl ?_
  (iterate 4 refine rq rfl rfl rfl rfl rfl ?_); refine rc rfl rfl rfl rfl rfl rfl good37 (c37 2) (CoL.refl _) rfl rfl ?_
  refine rg_fcall rfl rfl rfl rfl rfl rfl good34 ((awI (by omega) s1 opI_ok rfl e2).swap 1000 900) (CoHCL.refl _) ⟨⟨_, rfl, CoO.refl _⟩, ⟨_, rfl, CoO.refl _⟩, ⟨_, rfl, CoO.refl _⟩, ⟨_, rfl, CoO.refl _⟩, trivial⟩ rfl rfl ?_
  (iterate 3 refine rq rfl rfl rfl rfl rfl ?_); refine rq rfl rfl rfl rfl (gff (bif_fk rfl rfl)) ?_
  refine rg_fcall rfl rfl rfl rfl rfl rfl good24 ((awU (by omega) s2 opK_ok rfl e3).swap 1000 900) (CoHCL.refl _) ⟨⟨_, rfl, CoO.refl _⟩, ⟨_, rfl, CoO.refl _⟩, ⟨_, rfl, CoO.refl _⟩, ⟨_, rfl, CoO.refl _⟩, trivial⟩ rfl (gff (bif_fk rfl rfl)) ?_
  refine rq rfl rfl rfl rfl (gff (bif_fk rfl rfl)) ?_; (iterate 2 refine rq rfl rfl rfl rfl rfl ?_); refine rq rfl rfl rfl rfl (gff (bif_fk (bif_fk rfl rfl) rfl)) ?_
  refine rg_fcall rfl rfl rfl rfl rfl rfl good38 (((aw38 s3.dbV k3).swap 1000 900).swap 1001 0) (CoHCL.refl _) ⟨⟨_, rfl, CoO.refl _⟩, ⟨_, rfl, CoO.refl _⟩, ⟨_, rfl, CoO.refl _⟩, ⟨_, rfl, CoO.refl _⟩, ⟨_, rfl, CoO.refl _⟩, trivial⟩ rfl (gff (bif_fk (bif_fk rfl rfl) rfl)) ?_
  refine rq rfl rfl rfl rfl (gff (bif_fk (bif_fk rfl rfl) rfl)) ?_; (iterate 2 refine rq rfl rfl rfl rfl rfl ?_); refine rq rfl rfl rfl rfl (gff (bif_fk (bif_fk (bif_fk rfl rfl) rfl) rfl)) ?_
  refine rg_fcall rfl rfl rfl rfl rfl rfl good25 ((awR (by omega) s3 opK_ok rfl e4).swap 1000 900) (CoHCL.refl _) ⟨⟨_, rfl, CoO.refl _⟩, ⟨_, rfl, CoO.refl _⟩, ⟨_, rfl, CoO.refl _⟩, ⟨_, rfl, CoO.refl _⟩, trivial⟩ rfl (gff (bif_fk (bif_fk (bif_fk rfl rfl) rfl) rfl)) ?_
  refine rq rfl rfl rfl rfl (gff (bif_fk (bif_fk (bif_fk rfl rfl) rfl) rfl)) ?_; (iterate 2 refine rq rfl rfl rfl rfl rfl ?_); refine rq rfl rfl rfl rfl (gff (bif_fk (bif_fk (bif_fk (bif_fk rfl rfl) rfl) rfl) rfl)) ?_
  refine rg_fcall rfl rfl rfl rfl rfl rfl good38 (((aw38 s4.dbV k4).swap 1000 900).swap 1001 0) (CoHCL.refl _) ⟨⟨_, rfl, CoO.refl _⟩, ⟨_, rfl, CoO.refl _⟩, ⟨_, rfl, CoO.refl _⟩, ⟨_, rfl, CoO.refl _⟩, ⟨_, rfl, CoO.refl _⟩, trivial⟩ rfl (gff (bif_fk (bif_fk (bif_fk (bif_fk rfl rfl) rfl) rfl) rfl)) ?_
  refine rq rfl rfl rfl rfl (gff (bif_fk (bif_fk (bif_fk (bif_fk rfl rfl) rfl) rfl) rfl)) ?_; refine rq rfl rfl rfl rfl rfl ?_; refine rg_nil ?_; refine ⟨by kernel_rfl, ?_⟩; show HW _ _ _ _ _
  refine hw_cond _ rfl (fun e => Bool.noConfusion ((bif_fk (bif_fk (bif_fk (bif_fk (bif_fk rfl rfl) rfl) rfl) rfl) rfl).symm.trans e)) (fun _ => ?_); refine hw_skip ?_; show HW _ _ _ _ _; (iterate 2 refine hw_seq ?_)
  refine hw_draw (E := TryzE) Tryzok Tryzmixed [0, 1, 2, 3, 4, 5, 6, 7, 8, 9, 10, 11, 12, 13, 14, 15, 16, 17, 18, 19, 20, 21, 22, 23, 24, 25, 26, 27, 28, 29] ?_; refine rq rfl rfl rfl rfl rfl ?_
  refine rg_fcall rfl rfl rfl rfl rfl rfl good24 ((awU (by omega) s4 opK_ok rfl e5).swap 1000 900) (CoHCL.refl _) ⟨⟨_, rfl, CoO.refl _⟩, ⟨_, rfl, CoO.refl _⟩, ⟨_, rfl, CoO.refl _⟩, ⟨_, rfl, CoO.refl _⟩, trivial⟩ rfl rfl ?_
  (iterate 4 refine rq rfl rfl rfl rfl rfl ?_); refine rc rfl rfl rfl rfl rfl rfl good37 (c37 3) (CoL.refl _) rfl rfl ?_
  refine rg_fcall rfl rfl rfl rfl rfl rfl good34 ((awI (by omega) s5 opI_ok rfl e6).swap 1000 900) (CoHCL.refl _) ⟨⟨_, rfl, CoO.refl _⟩, ⟨_, rfl, CoO.refl _⟩, ⟨_, rfl, CoO.refl _⟩, ⟨_, rfl, CoO.refl _⟩, trivial⟩ rfl rfl ?_
  (iterate 3 refine rq rfl rfl rfl rfl rfl ?_); refine rq rfl rfl rfl rfl (gff (bif_fk rfl rfl)) ?_
  refine rg_fcall rfl rfl rfl rfl rfl rfl good25 ((awR (by omega) s6 opK_ok rfl e7).swap 1000 900) (CoHCL.refl _) ⟨⟨_, rfl, CoO.refl _⟩, ⟨_, rfl, CoO.refl _⟩, ⟨_, rfl, CoO.refl _⟩, ⟨_, rfl, CoO.refl _⟩, trivial⟩ rfl (gff (bif_fk rfl rfl)) ?_
  refine rq rfl rfl rfl rfl (gff (bif_fk rfl rfl)) ?_; (iterate 2 refine rq rfl rfl rfl rfl rfl ?_); refine rq rfl rfl rfl rfl (gff (bif_fk (bif_fk rfl rfl) rfl)) ?_
  refine rg_fcall rfl rfl rfl rfl rfl rfl good27 ((awB s7 opK_ok rfl e8).swap 1000 900) (CoHCL.refl _) ⟨⟨_, rfl, CoO.refl _⟩, ⟨_, rfl, CoO.refl _⟩, ⟨_, rfl, CoO.refl _⟩, ⟨_, rfl, CoO.refl _⟩, trivial⟩ rfl (gff (bif_fk (bif_fk rfl rfl) rfl)) ?_
  refine rq rfl rfl rfl rfl (gff (bif_fk (bif_fk rfl rfl) rfl)) ?_; (iterate 2 refine rq rfl rfl rfl rfl rfl ?_); refine rq rfl rfl rfl rfl (gff (bif_fk (bif_fk (bif_fk rfl rfl) rfl) rfl)) ?_
  refine rg_fcall rfl rfl rfl rfl rfl rfl good39 ((awD (by omega) s8 opD_ok rfl e9).swap 1000 900) (CoHCL.refl _) ⟨⟨_, rfl, CoO.refl _⟩, ⟨_, rfl, CoO.refl _⟩, ⟨_, rfl, CoO.refl _⟩, ⟨_, rfl, CoO.refl _⟩, trivial⟩ rfl (gff (bif_fk (bif_fk (bif_fk rfl rfl) rfl) rfl)) ?_
  refine rq rfl rfl rfl rfl (gff (bif_fk (bif_fk (bif_fk rfl rfl) rfl) rfl)) ?_; (iterate 2 refine rq rfl rfl rfl rfl rfl ?_); refine rq rfl rfl rfl rfl (gff (bif_fk (bif_fk (bif_fk (bif_fk rfl rfl) rfl) rfl) rfl)) ?_
  refine rg_fcall rfl rfl rfl rfl rfl rfl good29 ((awX (by omega) s9 opK_ok rfl e10).swap 1000 900) (CoHCL.refl _) ⟨⟨_, rfl, CoO.refl _⟩, ⟨_, rfl, CoO.refl _⟩, ⟨_, rfl, CoO.refl _⟩, ⟨_, rfl, CoO.refl _⟩, trivial⟩ rfl (gff (bif_fk (bif_fk (bif_fk (bif_fk rfl rfl) rfl) rfl) rfl)) ?_
  refine rq rfl rfl rfl rfl (gff (bif_fk (bif_fk (bif_fk (bif_fk rfl rfl) rfl) rfl) rfl)) ?_; refine rq rfl rfl rfl rfl rfl ?_; refine rg_nil ?_; refine ⟨by kernel_rfl, ?_⟩; show HW _ _ _ _ _
  refine hw_cond _ rfl (fun e => Bool.noConfusion ((bif_fk (bif_fk (bif_fk (bif_fk (bif_fk rfl rfl) rfl) rfl) rfl) rfl).symm.trans e)) (fun _ => ?_); refine hw_skip ?_; show HW _ _ _ _ _; refine hw_seq ?_
  refine hw_region (E := TryzE) Tryzok ?_; refine rq rfl rfl rfl rfl rfl ?_
  refine rg_fcall rfl rfl rfl rfl rfl rfl good22 ((aw22).swap 1000 900) (CoHCL.refl _) ⟨⟨_, rfl, CoO.refl _⟩, ⟨_, rfl, CoO.refl _⟩, ⟨_, rfl, CoO.refl _⟩, ⟨_, rfl, CoO.refl _⟩, trivial⟩ rfl rfl ?_
  refine rm 4 rfl rfl rfl rfl rfl rfl ?_; refine rs rfl rfl rfl rfl rfl ?_; refine rg_nil ?_; show HW _ _ _ _ _; refine hw_seq ?_; refine hw_region (E := TryzE) Tryzok ?_; (iterate 14 refine rq rfl rfl rfl rfl rfl ?_)
  (iterate 9 refine rq rfl rfl rfl rfl (gtt (bif_tk rfl rfl)) ?_); (iterate 2 refine rq rfl rfl rfl rfl rfl ?_); refine rq rfl rfl rfl rfl (gtt (bif_tk (bif_tk rfl rfl) rfl)) ?_
  refine rg_fcall rfl rfl rfl rfl rfl rfl good23 ((aw23).swap 1000 900) (CoHCL.refl _) ⟨⟨_, rfl, CoO.refl _⟩, ⟨_, rfl, CoO.refl _⟩, ⟨_, rfl, CoO.refl _⟩, ⟨_, rfl, CoO.refl _⟩, trivial⟩ rfl (gtt (bif_tk (bif_tk rfl rfl) rfl)) ?_
  (iterate 2 refine rq rfl rfl rfl rfl (gtt (bif_tk (bif_tk rfl rfl) rfl)) ?_); (iterate 2 refine rq rfl rfl rfl rfl rfl ?_); refine rg_nil ?_; show HW _ _ _ _ _; refine hw_ret ?_; refine ⟨.inr rfl, ?_⟩
  exact ⟨_, _, _, _, rfl, (by (repeat' apply And.intro) <;> first | trivial | exact Nat.le_of_ble_eq_true rfl | rfl), rfl, (by (repeat' apply And.intro) <;> first | trivial | exact Nat.le_of_ble_eq_true rfl | rfl), CoL.refl _⟩
end Go.Hx
end
section
namespace Go.Hx
open Go.Proofs
section
variable {n : Nat} {s : Stt}
theorem mem_chgsOk {l : List Chg} (h : ∀ c ∈ l, c.ok) : chgsOk l := fun j hj => by rw [getD_lt _ _ hj]; exact h _ (List.getElem_mem hj)
theorem cl_sim (h : Sim n s) : Sim (n + 1) (clR s) ∧ clX (strOf s) s.opn = strOf (clR s) ∧ (clR s).now = [] ∧ (clR s).opn = false := by
  by_cases ho : s.opn = true
  · have e : clR s = doS s op5 := if_pos ho
    have hk : op5.kind.toNat % 9 = 5 := rfl
    have hs := sim5 h hk
    rw [e]
    refine ⟨hs.2.2, ?_, ?_, ?_⟩
    · rw [← hs.2.1]
      rw [show clX (strOf s) s.opn = cmS (enS (strOf s)) (enL (strOf s)) from if_pos ho]
      simp [dxS]
    · rw [(do5 hk ho).1]
      unfold comS
      split <;> rfl
    · rw [(do5 hk ho).1]
      unfold comS
      split <;> rfl
  · have e : clR s = s := if_neg ho
    rw [e]
    exact ⟨h.mono (Nat.le_succ n), if_neg ho, h.no (by simpa using ho), by simpa using ho⟩
theorem cl21 (hn : n ≤ 1000000) (h : Sim n s) : HFun Tryz.prog 21 [.one (.ptr 1000 0), s.pc.toH] (strOf s).objs (.v (clR s).pc.toH) (strOf (clR s)).objs [1000] := by
  have q := c21h (strOf s) s (h.sok (by omega)) (h.st (by omega))
  rw [(cl_sim h).2.1] at q
  exact q
theorem jn23 (hn : n ≤ 1000000) (h : Sim n s) : HFun Tryz.prog 23 [.one (.ptr 1000 0)] (strOf s).objs (.v (.one (.ref 911 s.done.flatten.length))) ((strOf s).objs ++ [(911, .arr true 11 49 s.done.flatten.length (lf Chg.c s.done.flatten))]) [1000] :=
  c23h (strOf s) (by have := h.n1; show s.done.flatten.length ≤ _; omega) (fun i k hi hk => by
    have hi : i < s.done.length := hi
    have hk : k < (s.done.getD i default).length := hk
    show ((s.done.getD i default).getD k default).ok
    rw [getD_lt _ _ hi] at hk ⊢
    rw [getD_lt _ _ hk]
    exact h.ok1 _ (List.mem_flatten.2 ⟨_, List.getElem_mem hi, List.getElem_mem hk⟩))
theorem rp14 (h : Sim n s) (hnow : s.now = []) : HPure Tryz.prog 14 [pP (chgs s.done.flatten)] (prOf [dbpc (dbOf s), pI 0]) := by
  have q := c14 s.done.flatten (mem_chgsOk h.ok1)
  have hn := h.nw
  rw [hnow, List.append_nil] at hn
  have hd : dbOf s = replD [] s.done.flatten := by unfold dbOf jr; rw [hnow, List.append_nil]
  rw [hn, ← hd] at q
  exact q
theorem sm16 {d : DB} (hd : dbOk d) : HPure Tryz.prog 16 [dbpc d, dbpc d] (prOf [pB true]) := by
  have q := c16 d d hd hd
  rw [decide_eq_true rfl] at q
  exact q
theorem sm26 {l : List Chg} (hl : chgsOk l) : HPure Tryz.prog 26 [pP (chgs l), pP (chgs l)] (prOf [pB true]) := by
  have q := c26 l l hl hl
  rw [decide_eq_true rfl] at q
  exact q
theorem ag19 (hn : n ≤ 1000000) (h : Sim n s) : HFun Tryz.prog 19 [.one (.ptr 1000 0), s.pc.toH] (strOf s).objs (.v (.one (.p (.raw (.bool true))))) (strOf s).objs [1000] := by
  have q := c19h (strOf s) s (h.sok (by omega)) (by have := h.n1; show s.done.flatten.length ≤ _; omega) (fun i k hi hk => by
    have hi : i < s.done.length := hi
    have hk : k < (s.done.getD i default).length := hk
    show ((s.done.getD i default).getD k default).ok
    rw [getD_lt _ _ hi] at hk ⊢
    rw [getD_lt _ _ hk]
    exact h.ok1 _ (List.mem_flatten.2 ⟨_, List.getElem_mem hi, List.getElem_mem hk⟩)) (h.st (by omega)) (mem_chgsOk h.ok1) (mem_chgsOk h.ok1)
  rw [show (decide ((strOf s).db = dbOf s) && decide ((strOf s).done.flatten = s.done.flatten)) = true from by
    rw [decide_eq_true (show (strOf s).db = dbOf s from rfl), decide_eq_true (show (strOf s).done.flatten = s.done.flatten from rfl)]; rfl] at q
  exact q
def unK (s : Stt) (k : Nat) : Stt := ⟨s.done.take (s.done.length - k), s.undone ++ (s.done.drop (s.done.length - k)).reverse, false, []⟩
theorem unK_0 (h1 : s.opn = false) (h2 : s.now = []) : unK s 0 = s := by
  obtain ⟨a, b, c, d⟩ := s
  simp only at h1 h2
  subst h1 h2
  simp [unK]
theorem unK_undo {k : Nat} (hk : k < s.done.length) : doS (unK s k) (opK 7) = unK s (k + 1) ∧ doE (unK s k) (opK 7) = 0 := by
  have hl : (unK s k).done.length = s.done.length - k := by show (s.done.take _).length = _; rw [List.length_take]; omega
  have hc : ¬ ((unK s k).opn = true ∨ (unK s k).done.length = 0) := by
    rw [not_or, hl]
    exact ⟨fun e => (by cases e), by omega⟩
  obtain ⟨q1, q2⟩ := do7 (s := unK s k) (x := opK 7) rfl hc
  refine ⟨?_, q2⟩
  rw [q1, hl]
  have hj : s.done.length - (k + 1) < s.done.length := by omega
  have e1 : (unK s k).done.take (s.done.length - k - 1) = s.done.take (s.done.length - (k + 1)) := by
    show (s.done.take _).take _ = _
    rw [List.take_take]
    congr 1
    omega
  have e2 : (unK s k).done.getD (s.done.length - k - 1) default = s.done.getD (s.done.length - (k + 1)) default := by
    show (s.done.take _).getD _ default = _
    simp only [List.getD, List.getElem?_take]
    rw [if_pos (by omega)]
    rfl
  rw [e1, e2]
  show (⟨_, (s.undone ++ (s.done.drop (s.done.length - k)).reverse) ++ [_], false, []⟩ : Stt) = ⟨_, s.undone ++ (s.done.drop (s.done.length - (k + 1))).reverse, false, []⟩
  rw [List.drop_eq_getElem_cons hj, show s.done.length - (k + 1) + 1 = s.done.length - k by omega, getD_lt _ _ hj]
  simp
theorem unK_redo {k : Nat} (hk : k < s.done.length) : doS (unK s (k + 1)) (opK 8) = unK s k ∧ doE (unK s (k + 1)) (opK 8) = 0 := by
  have hj : s.done.length - (k + 1) < s.done.length := by omega
  have hun : (unK s (k + 1)).undone = (s.undone ++ (s.done.drop (s.done.length - k)).reverse) ++ [s.done.getD (s.done.length - (k + 1)) default] := by
    show s.undone ++ (s.done.drop (s.done.length - (k + 1))).reverse = _
    rw [List.drop_eq_getElem_cons hj, show s.done.length - (k + 1) + 1 = s.done.length - k by omega, getD_lt _ _ hj]
    simp
  have hlen : (unK s (k + 1)).undone.length = (s.undone ++ (s.done.drop (s.done.length - k)).reverse).length + 1 := by rw [hun, List.length_append]; rfl
  have hc : ¬ ((unK s (k + 1)).opn = true ∨ (unK s (k + 1)).undone.length = 0) := by
    rw [not_or, hlen]
    exact ⟨fun e => (by cases e), by omega⟩
  obtain ⟨q1, q2⟩ := do8 (s := unK s (k + 1)) (x := opK 8) rfl hc
  refine ⟨?_, q2⟩
  rw [q1, hlen, Nat.add_sub_cancel, hun]
  have e1 : ((s.undone ++ (s.done.drop (s.done.length - k)).reverse) ++ [s.done.getD (s.done.length - (k + 1)) default]).getD (s.undone ++ (s.done.drop (s.done.length - k)).reverse).length default = s.done.getD (s.done.length - (k + 1)) default := by
    simp only [List.getD]
    rw [List.getElem?_append_right (Nat.le_refl _)]
    simp
  have e2 : ((s.undone ++ (s.done.drop (s.done.length - k)).reverse) ++ [s.done.getD (s.done.length - (k + 1)) default]).take (s.undone ++ (s.done.drop (s.done.length - k)).reverse).length = s.undone ++ (s.done.drop (s.done.length - k)).reverse := List.take_left
  rw [e1, e2]
  show (⟨s.done.take (s.done.length - (k + 1)) ++ [_], _, false, []⟩ : Stt) = ⟨s.done.take (s.done.length - k), _, false, []⟩
  congr 1
  rw [show s.done.length - k = s.done.length - (k + 1) + 1 by omega, List.take_succ, List.getElem?_eq_getElem hj, getD_lt _ _ hj]
  rfl
theorem unK_sim (h : Sim n s) (h1 : s.opn = false) (h2 : s.now = []) : ∀ k, k ≤ s.done.length → Sim (n + k) (unK s k)
  | 0, _ => by rw [unK_0 h1 h2]; exact h
  | k + 1, hk => by
    have := (sim (unK_sim h h1 h2 k (by omega)) (opK_ok (k := 7))).2.2
    rw [(unK_undo (by omega)).1] at this
    exact this
theorem unK_end : doS (unK s s.done.length) (opK 7) = unK s s.done.length ∧ doE (unK s s.done.length) (opK 7) = 16 := do7o (s := unK s s.done.length) (x := opK 7) rfl (.inr (by show (s.done.take _).length = 0; simp))
theorem unK_db : dbOf (unK s s.done.length) = [] := by
  unfold dbOf jr unK
  simp [replD]
theorem unK_fl : (unK s s.done.length).done.flatten = [] := by simp [unK]
end
theorem ud24 {n : Nat} {s : Stt} {k : Nat} (hn : n + k ≤ 1000000) (h : Sim n s) (h1 : s.opn = false) (h2 : s.now = []) (hk : k < s.done.length) : HFun Tryz.prog 24 [.one (.ptr 1000 0)] (strOf (unK s k)).objs (vI' 0) (strOf (unK s (k + 1))).objs [1000] := by
  have q := awU hn (unK_sim h h1 h2 k (by omega)) (opK_ok (k := 7)) rfl (unK_undo hk).2
  rw [(unK_undo hk).1] at q
  exact q
theorem ud16 {n : Nat} {s : Stt} (hn : n + s.done.length ≤ 1000000) (h : Sim n s) (h1 : s.opn = false) (h2 : s.now = []) : HFun Tryz.prog 24 [.one (.ptr 1000 0)] (strOf (unK s s.done.length)).objs (vI' 16) (strOf (unK s s.done.length)).objs [1000] := by
  have q := awU hn (unK_sim h h1 h2 _ (Nat.le_refl _)) (opK_ok (k := 7)) rfl unK_end.2
  rw [unK_end.1] at q
  exact q
theorem rd25 {n : Nat} {s : Stt} {k : Nat} (hn : n + s.done.length ≤ 1000000) (h : Sim n s) (h1 : s.opn = false) (h2 : s.now = []) (hk : k < s.done.length) : HFun Tryz.prog 25 [.one (.ptr 1000 0)] (strOf (unK s (k + 1))).objs (vI' 0) (strOf (unK s k)).objs [1000] := by
  have q := awR (by omega) (unK_sim h h1 h2 (k + 1) (by omega)) (opK_ok (k := 8)) rfl (unK_redo hk).2
  rw [(unK_redo hk).1] at q
  exact q
theorem db0 {n : Nat} {s : Stt} (h : Sim n s) (h1 : s.opn = false) (h2 : s.now = []) : HFun Tryz.prog 22 [.one (.ptr 1000 0)] (strOf (unK s s.done.length)).objs (.v (dbpc []).toH) (strOf (unK s s.done.length)).objs [1000] := by
  have q := c22h (strOf (unK s s.done.length)) (unK_sim h h1 h2 _ (Nat.le_refl _)).dbV
  rw [show (strOf (unK s s.done.length)).db = [] from unK_db] at q
  exact q
theorem jn0 {n : Nat} {s : Stt} (hn : n + s.done.length ≤ 1000000) (h : Sim n s) (h1 : s.opn = false) (h2 : s.now = []) : HFun Tryz.prog 23 [.one (.ptr 1000 0)] (strOf (unK s s.done.length)).objs (.v (.one (.ref 911 0))) ((strOf (unK s s.done.length)).objs ++ [(911, .arr true 11 49 0 (lf Chg.c []))]) [1000] := by
  have q := jn23 hn (unK_sim h h1 h2 _ (Nat.le_refl _))
  rw [unK_fl] at q
  exact q
end Go.Hx
end
section
namespace Go.Hx
open Go.Proofs
set_option maxRecDepth 100000
theorem good8 : goodFn Tryz.prog 8 := ⟨Tryz.f8, Tryz.func8, by kernel_rfl, by kernel_rfl⟩
theorem c8 (l : List Opn) : HPure Tryz.prog 8 [pP (opns l)] (prOf [pB true]) := by
  refine hpure_of (nt := 42) Tryzok Tryz.func8 rfl rfl (Nat.le_of_ble_eq_true rfl) ?_; refine hw_seq ?_; refine hw_region (E := TryzE) Tryzok ?_; refine rq rfl rfl rfl rfl rfl ?_; refine rg_nil ?_; show HW _ _ _ _ _
  (iterate 2 refine hw_seq ?_); refine hw_region (E := TryzE) Tryzok ?_; refine rc rfl rfl rfl rfl rfl rfl good9 (c9) (CoL.refl _) rfl rfl ?_; (iterate 3 refine rq rfl rfl rfl rfl rfl ?_)
  refine rc rfl rfl rfl rfl rfl rfl good10 (c10 l 25) (CoL.refl _) rfl rfl ?_; (iterate 2 refine rq rfl rfl rfl rfl rfl ?_); refine rg_nil ?_; show HW _ _ _ _ _; refine hw_cond _ rfl (fun r0 => ?_) (fun r0 => ?_)
  · skip
    have h0 := r0
    have h0 := not_t h0
    refine hw_seq ?_; refine hw_region (E := TryzE) Tryzok ?_; refine rc rfl rfl rfl rfl rfl rfl good9 (c9) (CoL.refl _) rfl rfl ?_; refine rq rfl rfl rfl rfl rfl ?_; refine rg_nil ?_; show HW _ _ _ _ _; refine hw_ret ?_
    refine ⟨.inr rfl, ?_⟩
    exact ⟨_, _, _, _, rfl, (by (repeat' apply And.intro) <;> first | trivial | exact Nat.le_of_ble_eq_true rfl | rfl), rfl, (by (repeat' apply And.intro) <;> first | trivial | exact Nat.le_of_ble_eq_true rfl | rfl), CoL.refl _⟩
  · skip
    have h0 := r0
    have h0 := not_f h0
    obtain ⟨ho, hlen⟩ := few_ops (l := l) (m := 25) (by simpa using h0)
    have hlen2 : l.length ≤ 25 := by omega
    have h0s := plS_sim sim00 ho
    have h0s : Sim 25 (plS default l) := h0s.mono (by omega)
    obtain ⟨hcs, _, hnow, hopn⟩ := cl_sim h0s
    refine hw_skip ?_; show HW _ _ _ _ _; refine hw_seq ?_; refine hw_region (E := TryzE) Tryzok ?_; refine rq rfl rfl rfl rfl rfl ?_
    refine rg_fcall rfl rfl rfl rfl rfl rfl good20 (c20h l (by omega) ho) (CoHCL.refl _) trivial rfl rfl ?_; (iterate 4 refine rq rfl rfl rfl rfl rfl ?_); refine rm 0 rfl rfl rfl rfl rfl rfl ?_; refine rq rfl rfl rfl rfl rfl ?_
    refine rs rfl rfl rfl rfl rfl ?_; refine rq rfl rfl rfl rfl rfl ?_; refine rg_nil ?_; show HW _ _ _ _ _; refine hw_seq ?_; refine hw_region (E := TryzE) Tryzok ?_; (iterate 2 refine rq rfl rfl rfl rfl rfl ?_)
    refine rg_fcall rfl rfl rfl rfl rfl rfl good21 ((cl21 (by omega) h0s).swap 1000 900) (CoHCL.refl _) ⟨⟨_, rfl, CoO.refl _⟩, ⟨_, rfl, CoO.refl _⟩, ⟨_, rfl, CoO.refl _⟩, ⟨_, rfl, CoO.refl _⟩, trivial⟩ rfl rfl ?_; refine rg_nil ?_
    show HW _ _ _ _ _; refine hw_seq ?_; refine hw_region (E := TryzE) Tryzok ?_; refine rq rfl rfl rfl rfl rfl ?_
    refine rg_fcall rfl rfl rfl rfl rfl rfl good23 ((jn23 (by omega) hcs).swap 1000 900) (CoHCL.refl _) ⟨⟨_, rfl, CoO.refl _⟩, ⟨_, rfl, CoO.refl _⟩, ⟨_, rfl, CoO.refl _⟩, ⟨_, rfl, CoO.refl _⟩, trivial⟩ rfl rfl ?_
    refine rg_fcall rfl rfl rfl rfl rfl rfl good14 (HPure.eat (hcs := [.one (.ref 911 (clR (plS default l)).done.flatten.length)]) (o1 := [(911, .arr true 11 49 (clR (plS default l)).done.flatten.length (lf Chg.c (clR (plS default l)).done.flatten))]) (rp14 hcs hnow) rfl (by (repeat' apply And.intro) <;> first | trivial | rfl) (CoL.refl _)) (CoHCL.refl _) ⟨⟨_, rfl, CoO.refl _⟩, trivial⟩ rfl rfl ?_
    (iterate 3 refine rq rfl rfl rfl rfl rfl ?_); refine rm 1 rfl rfl rfl rfl rfl rfl ?_; refine rs rfl rfl rfl rfl rfl ?_; refine rq rfl rfl rfl rfl rfl ?_; refine rg_nil ?_; show HW _ _ _ _ _; refine hw_seq ?_
    refine hw_draw (E := TryzE) Tryzok Tryzmixed [0, 1, 2, 3, 4, 5, 6, 7, 8, 9, 10, 11] ?_; (iterate 6 refine rq rfl rfl rfl rfl rfl ?_); (iterate 2 refine rq rfl rfl rfl rfl (gtt (bif_tk rfl rfl)) ?_)
    refine rg_fcall rfl rfl rfl rfl rfl rfl good22 ((c22h (strOf (clR (plS default l))) hcs.dbV).swap 1000 900) (CoHCL.refl _) ⟨⟨_, rfl, CoO.refl _⟩, ⟨_, rfl, CoO.refl _⟩, ⟨_, rfl, CoO.refl _⟩, ⟨_, rfl, CoO.refl _⟩, trivial⟩ rfl (gtt (bif_tk rfl rfl)) ?_
    refine rc rfl rfl rfl rfl rfl rfl good16 (sm16 hcs.dbV.ok) (CoL.refl _) rfl (gtt (bif_tk rfl rfl)) ?_; (iterate 2 refine rq rfl rfl rfl rfl rfl ?_); refine rg_nil ?_; refine ⟨by kernel_rfl, ?_⟩; show HW _ _ _ _ _
    refine hw_ret ?_; refine ⟨.inr rfl, ?_⟩
    exact ⟨_, _, _, _, rfl, (by (repeat' apply And.intro) <;> first | trivial | exact Nat.le_of_ble_eq_true rfl | rfl), rfl, (by (repeat' apply And.intro) <;> first | trivial | exact Nat.le_of_ble_eq_true rfl | rfl), CoL.refl _⟩
theorem good4 : goodFn Tryz.prog 4 := ⟨Tryz.f4, Tryz.func4, by kernel_rfl, by kernel_rfl⟩
theorem c4 (l : List Opn) : HPure Tryz.prog 4 [pP (opns l)] (prOf [pB true]) := by
  refine hpure_of (nt := 44) Tryzok Tryz.func4 rfl rfl (Nat.le_of_ble_eq_true rfl) ?_; refine hw_seq ?_; refine hw_region (E := TryzE) Tryzok ?_; refine rq rfl rfl rfl rfl rfl ?_; refine rg_nil ?_; show HW _ _ _ _ _
  (iterate 2 refine hw_seq ?_); refine hw_region (E := TryzE) Tryzok ?_; refine rc rfl rfl rfl rfl rfl rfl good9 (c9) (CoL.refl _) rfl rfl ?_; (iterate 3 refine rq rfl rfl rfl rfl rfl ?_)
  refine rc rfl rfl rfl rfl rfl rfl good10 (c10 l 25) (CoL.refl _) rfl rfl ?_; (iterate 2 refine rq rfl rfl rfl rfl rfl ?_); refine rg_nil ?_; show HW _ _ _ _ _; refine hw_cond _ rfl (fun r0 => ?_) (fun r0 => ?_)
  · skip
    have h0 := r0
    have h0 := not_t h0
    refine hw_seq ?_; refine hw_region (E := TryzE) Tryzok ?_; refine rc rfl rfl rfl rfl rfl rfl good9 (c9) (CoL.refl _) rfl rfl ?_; refine rq rfl rfl rfl rfl rfl ?_; refine rg_nil ?_; show HW _ _ _ _ _; refine hw_ret ?_
    refine ⟨.inr rfl, ?_⟩
    exact ⟨_, _, _, _, rfl, (by (repeat' apply And.intro) <;> first | trivial | exact Nat.le_of_ble_eq_true rfl | rfl), rfl, (by (repeat' apply And.intro) <;> first | trivial | exact Nat.le_of_ble_eq_true rfl | rfl), CoL.refl _⟩
  · skip
    have h0 := r0
    have h0 := not_f h0
    obtain ⟨ho, hlen⟩ := few_ops (l := l) (m := 25) (by simpa using h0)
    have hlen2 : l.length ≤ 25 := by omega
    refine hw_skip ?_; show HW _ _ _ _ _; refine hw_seq ?_; refine hw_region (E := TryzE) Tryzok ?_; refine rg_fcall rfl rfl rfl rfl rfl rfl good17 (c17h) (CoHCL.refl _) trivial rfl rfl ?_; refine rq rfl rfl rfl rfl rfl ?_
    refine rm 0 rfl rfl rfl rfl rfl rfl ?_; refine rq rfl rfl rfl rfl rfl ?_; refine rs rfl rfl rfl rfl rfl ?_; refine rg_nil ?_; show HW _ _ _ _ _; (iterate 2 refine hw_seq ?_); refine hw_region (E := TryzE) Tryzok ?_
    (iterate 3 refine rq rfl rfl rfl rfl rfl ?_); refine rg_nil ?_; show HW _ _ _ _ _; refine hw_block ?_
    refine hw_loopK (ι := (Nat × Stt)) ⟨[(3, some _), (4, some _), (19, some _), (20, some _)], []⟩ ⟨⟨⟨_, rfl, CoR.refl _⟩, ⟨_, rfl, CoR.refl _⟩, ⟨_, rfl, CoR.refl _⟩, ⟨_, rfl, CoR.refl _⟩, trivial⟩, trivial⟩ (fun q => ⟨[(21, some (vI q.1))], [(0, some (.box [.p (txs q.2.done), .p (txs q.2.undone), .p (.raw (.bool q.2.opn)), .p (chgs q.2.now)])), (900, some (.box [.p (tbls (dbOf q.2)), .ref 901 q.2.done.length, .ref 902 q.2.undone.length, .p (.raw (.bool q.2.opn)), .ref 903 q.2.now.length])), (901, some (.arr false 1 23 q.2.done.length (lf txC q.2.done))), (902, some (.arr false 1 23 q.2.undone.length (lf txC q.2.undone))), (903, some (.arr false 11 49 q.2.now.length (lf Chg.c q.2.now)))]⟩) (fun q => q.1 ≤ l.length ∧ Sim q.1 q.2) (fun q => l.length - q.1) ((0, default)) (⟨Nat.zero_le _, sim00⟩) ⟨⟨⟨_, rfl, (by first | exact CoR.refl _ | exact coi (by omega) | exact cob (by simp_all))⟩, trivial⟩, ⟨⟨_, rfl, ⟨co_nil, co_nil, CoH.refl _, co_nil, trivial⟩⟩, ⟨_, rfl, CoO.refl _⟩, ⟨_, rfl, CoO.refl _⟩, ⟨_, rfl, CoO.refl _⟩, ⟨_, rfl, CoO.refl _⟩, trivial⟩⟩ ?_
    rintro ⟨i, s⟩ ⟨hi, hs⟩
    dsimp only at hi hs ⊢
    refine hw_seq ?_; refine hw_region (E := TryzE) Tryzok ?_; refine rq rfl rfl rfl rfl rfl ?_; refine rg_nil ?_; show HW _ _ _ _ _; refine hw_seq ?_; refine hw_cond _ rfl (fun r1 => ?_) (fun r1 => ?_)
    · skip
      have h1 := r1
      have h1 := of_decide_eq_true h1
      try simp only [Int.toNat_natCast] at h1
      refine hw_skip ?_; show HW _ _ _ _ _; refine hw_seq ?_; refine hw_block ?_; refine hw_seq ?_; refine hw_region (E := TryzE) Tryzok ?_; (iterate 2 refine rq rfl rfl rfl rfl rfl ?_); refine rm 1 rfl rfl rfl rfl rfl rfl ?_
      refine rs rfl rfl rfl rfl rfl ?_; refine rg_nil ?_; show HW _ _ _ _ _; refine hw_seq ?_; refine hw_region (E := TryzE) Tryzok ?_; (iterate 2 refine rq rfl rfl rfl rfl rfl ?_)
      refine rc rfl rfl rfl rfl rfl rfl good11 (c11 s (l.getD i default) (hs.st (by omega)) (ho _ (by rw [getD_lt _ _ (by omega)]; exact List.getElem_mem _))) (CoL.refl _) rfl rfl ?_; (iterate 3 refine rq rfl rfl rfl rfl rfl ?_)
      refine rm 2 rfl rfl rfl rfl rfl rfl ?_; refine rs rfl rfl rfl rfl rfl ?_; refine rq rfl rfl rfl rfl rfl ?_; refine rg_nil ?_; show HW _ _ _ _ _; (iterate 2 refine hw_seq ?_)
      have hs2 := (sim hs (o := l.getD i default) (ho _ (by rw [getD_lt _ _ (by omega)]; exact List.getElem_mem _))).2.2
      refine hw_region (E := TryzE) Tryzok ?_; (iterate 2 refine rq rfl rfl rfl rfl rfl ?_)
      refine rg_fcall rfl rfl rfl rfl rfl rfl good18 ((c18h i s (l.getD i default) (by omega) hs (ho _ (by rw [getD_lt _ _ (by omega)]; exact List.getElem_mem _))).swap 1000 900) (CoHCL.refl _) ⟨⟨_, rfl, CoO.refl _⟩, ⟨_, rfl, CoO.refl _⟩, ⟨_, rfl, CoO.refl _⟩, ⟨_, rfl, CoO.refl _⟩, trivial⟩ rfl rfl ?_
      (iterate 3 refine rq rfl rfl rfl rfl rfl ?_); refine rsplit rfl rfl (fun r2 => ?_) (fun r2 => ?_)
      · skip
        have h2 := r2
        have h2 := of_decide_eq_false (not_t h2)
        try simp only [Int.toNat_natCast] at h2
        exact absurd r2 (by simp)
      · skip
        have h2 := r2
        have h2 := of_decide_eq_true (not_f h2)
        try simp only [Int.toNat_natCast] at h2
        (iterate 2 refine rq rfl rfl rfl rfl (gff r2) ?_)
        refine rg_fcall rfl rfl rfl rfl rfl rfl good19 ((ag19 (by omega) hs2).swap 1000 900) (CoHCL.refl _) ⟨⟨_, rfl, CoO.refl _⟩, ⟨_, rfl, CoO.refl _⟩, ⟨_, rfl, CoO.refl _⟩, ⟨_, rfl, CoO.refl _⟩, trivial⟩ rfl (gff r2) ?_
        refine rq rfl rfl rfl rfl (gff r2) ?_; refine rq rfl rfl rfl rfl rfl ?_; refine rg_nil ?_; show HW _ _ _ _ _; refine hw_cond _ rfl (fun e => Bool.noConfusion ((bif_fk r2 rfl).symm.trans e)) (fun _ => ?_); refine hw_skip ?_
        show HW _ _ _ _ _; refine hw_region (E := TryzE) Tryzok ?_; refine rq rfl rfl rfl rfl rfl ?_; refine rs rfl rfl rfl rfl rfl ?_; refine rg_nil ?_; show HW _ _ _ _ _; refine hw_region (E := TryzE) Tryzok ?_
        (iterate 2 refine rq rfl rfl rfl rfl rfl ?_); refine rg_nil ?_; refine ⟨(i + 1, doS s (l.getD i default)), ?_, ?_, ?_⟩
        · exact ⟨by dsimp only; omega, hs2⟩
        · first | omega | (dsimp only; omega)
        · exact ⟨⟨⟨_, rfl, (by first | exact CoR.refl _ | exact coi (by omega) | exact cob (by simp_all))⟩, ⟨_, rfl, CoR.refl _⟩, ⟨_, rfl, CoR.refl _⟩, ⟨_, rfl, CoR.refl _⟩, ⟨_, rfl, CoR.refl _⟩, trivial⟩, ⟨⟨_, rfl, CoO.refl _⟩, ⟨_, rfl, CoO.refl _⟩, ⟨_, rfl, CoO.refl _⟩, ⟨_, rfl, CoO.refl _⟩, ⟨_, rfl, CoO.refl _⟩, trivial⟩⟩
    · skip
      have h1 := r1
      have h1 := of_decide_eq_false h1
      try simp only [Int.toNat_natCast] at h1
      skip
      refine hw_exit ?_; show HW _ _ _ _ _; refine hw_seq ?_; refine hw_region (E := TryzE) Tryzok ?_; refine rq rfl rfl rfl rfl rfl ?_; refine rg_nil ?_; show HW _ _ _ _ _; refine hw_ret ?_; refine ⟨.inr rfl, ?_⟩
      exact ⟨_, _, _, _, rfl, (by (repeat' apply And.intro) <;> first | trivial | exact Nat.le_of_ble_eq_true rfl | rfl), rfl, (by (repeat' apply And.intro) <;> first | trivial | exact Nat.le_of_ble_eq_true rfl | rfl), CoL.refl _⟩
end Go.Hx
end

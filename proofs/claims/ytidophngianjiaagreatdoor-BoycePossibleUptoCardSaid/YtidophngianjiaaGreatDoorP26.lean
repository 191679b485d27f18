/- A part of the proof: lemmas for the theorem of this claim, merged by a program of ours out of V16, Cs19, V17. -/
import Derived.Test.YtidophngianjiaaGreatDoorP25
set_option linter.all false
section
namespace Go.Hx
open Go.Proofs
set_option maxRecDepth 100000
theorem good58 : goodFn Tryz.prog 58 := ⟨Tryz.f58, Tryz.func58, by kernel_rfl, by kernel_rfl⟩
theorem cVio (l : List Fd) (p : AS) : HPure Tryz.prog 58 [pP (fdl l), pA p] (prOf [(vioR l p).pc, pB (vioRB l p), pI (vioE l p)]) := by
 refine hpure_of (nt := 32) Tryzok Tryz.func58 rfl rfl l9 ?_; refine hw_seq ?_; refine gy ?_; refine m9 0 ?_; (iterate 2 refine qy ?_); refine rg_nil ?_; (iterate 2 refine hw_seq ?_); refine gy ?_; refine qy ?_
 refine rc rfl rfl rfl rfl rfl rfl good82 (cValid 16 l) (CoL.refl _) rfl rfl ?_; refine qy ?_; refine rg_nil ?_; refine hw_seq ?_; refine gy ?_; (iterate 2 refine qy ?_); refine rg_nil ?_
 refine hw_cond _ rfl (fun r0 => ?_) (fun r0 => ?_)
 ·
  have h0 := r0
  have h0 := of_decide_eq_false (not_t h0)
  try simp only [ty] at h0
  refine hw_seq ?_; refine gy ?_; (iterate 2 refine qy ?_); refine s9 ?_; (iterate 2 refine qy ?_); refine rg_nil ?_; refine hw_ret ?_; refine ⟨.inr rfl, ?_⟩
  have he := vioE_1 (p := p) h0
  exact f9 rfl rfl (⟨pc0_co he.2.1, ccb he.2.2.symm, cci he.1.symm, trivial⟩)
 ·
  have h0 := r0
  have h0 := of_decide_eq_true (not_f h0)
  try simp only [ty] at h0
  refine hw_skip ?_; (iterate 2 refine hw_seq ?_); refine gy ?_; refine qy ?_; refine rc rfl rfl rfl rfl rfl rfl good106 (cSize p) (CoL.refl _) rfl rfl ?_; refine qy ?_; refine rg_nil ?_
  refine hw_cond _ rfl (fun r1 => ?_) (fun r1 => ?_)
  ·
   have h1 := of_decide_eq_true r1
   try simp only [ty] at h1
   refine hw_seq ?_; refine gy ?_; refine qy ?_; refine s9 ?_; (iterate 2 refine qy ?_); refine rg_nil ?_; refine hw_ret ?_; refine ⟨.inr rfl, ?_⟩
   have he := vioE_2 h0 h1
   exact f9 rfl rfl (⟨pc0_co he.2.1, ccb he.2.2.symm, cci he.1.symm, trivial⟩)
  ·
   have h1 := of_decide_eq_false r1
   try simp only [ty] at h1
   refine hw_skip ?_; (iterate 2 refine hw_seq ?_); refine gy ?_; (iterate 3 refine qy ?_); refine rg_nil ?_; refine hw_cond _ rfl (fun r2 => ?_) (fun r2 => ?_)
   ·
    have h2 := r2
    have h2 := of_decide_eq_false (not_t h2)
    try simp only [ty] at h2
    refine hw_seq ?_; refine gy ?_; refine qy ?_; refine s9 ?_; (iterate 2 refine qy ?_); refine rg_nil ?_; refine hw_ret ?_; refine ⟨.inr rfl, ?_⟩
    have he := vioE_3 h0 h1 h2
    exact f9 rfl rfl (⟨pc0_co he.2.1, ccb he.2.2.symm, cci he.1.symm, trivial⟩)
   ·
    have h2 := r2
    have h2 := of_decide_eq_true (not_f h2)
    try simp only [ty] at h2
    refine hw_skip ?_; refine hw_seq ?_; refine gy ?_; (iterate 2 refine qy ?_); refine rc rfl rfl rfl rfl rfl rfl good62 (cViol l p) (CoL.refl _) rfl rfl ?_; (iterate 3 refine qy ?_); refine m9 1 ?_; refine s9 ?_; refine qy ?_
    refine rg_nil ?_; refine hw_seq ?_; refine gy ?_; (iterate 2 refine qy ?_); refine s9 ?_; (iterate 2 refine qy ?_); refine rg_nil ?_; refine hw_ret ?_; refine ⟨.inr rfl, ?_⟩
    have he := vioE_4 h0 h1 h2
    exact f9 rfl rfl (⟨pc_co he.2.1.symm, ccb he.2.2.symm, cci he.1.symm, trivial⟩)
theorem good123 : goodFn Tryz.prog 123 := ⟨Tryz.f123, Tryz.func123, by kernel_rfl, by kernel_rfl⟩
theorem cBSubs1 (s : AS) (l : List Fd) : HPure Tryz.prog 123 [pA s, pP (bx (fdl l))] (prOf [pB (violB l s)]) := by
 refine hpure_of (nt := 13) Tryzok Tryz.func123 rfl rfl l9 ?_; refine hw_seq ?_; refine gy ?_; refine qy ?_; refine rg_nil ?_; refine hw_seq ?_; refine gy ?_; (iterate 2 refine qy ?_)
 refine rc rfl rfl rfl rfl rfl rfl good62 (cViol l s) (CoL.refl _) rfl rfl ?_; (iterate 3 refine qy ?_); refine m9 0 ?_; refine s9 ?_; refine qy ?_; refine rg_nil ?_; refine hw_seq ?_; refine gy ?_; (iterate 2 refine qy ?_)
 refine rg_nil ?_; refine hw_ret ?_; refine ⟨.inr rfl, ?_⟩
 exact f9 rfl rfl (CoL.refl _)
theorem good68 : goodFn Tryz.prog 68 := ⟨Tryz.f68, Tryz.func68, by kernel_rfl, by kernel_rfl⟩
theorem cBSubs (n : Int) (l : List Fd) : HPure Tryz.prog 68 [pI n, pP (fdl l)] (prOf [pP (asl (subF n l)), pI (errS n l 8)]) := by
 refine hpure_of (nt := 18) Tryzok Tryz.func68 rfl rfl l9 ?_; refine hw_seq ?_; refine gy ?_; refine m9 2 ?_; (iterate 2 refine qy ?_); refine rg_nil ?_; (iterate 2 refine hw_seq ?_); refine gy ?_; (iterate 2 refine qy ?_)
 refine rc rfl rfl rfl rfl rfl rfl good60 (cLim n l) (CoL.refl _) rfl rfl ?_; refine qy ?_; refine rg_nil ?_; refine hw_seq ?_; refine gy ?_; (iterate 2 refine qy ?_); refine rg_nil ?_
 refine hw_cond _ rfl (fun r0 => ?_) (fun r0 => ?_)
 ·
  have h0 := r0
  have h0 := of_decide_eq_false (not_t h0)
  try simp only [ty] at h0
  refine hw_seq ?_; refine gy ?_; (iterate 3 refine qy ?_); refine rg_nil ?_; refine hw_ret ?_; refine ⟨.inr rfl, ?_⟩
  exact f9 rfl rfl (⟨CoC.one (nilS (subF_f h0)), CoC.refl _, trivial⟩)
 ·
  have h0 := r0
  have h0 := of_decide_eq_true (not_f h0)
  try simp only [ty] at h0
  refine hw_skip ?_; refine hw_seq ?_
  have hv := vErr_ok (errS_ok h0).1
  refine hw_freeze_box 3 rfl rfl rfl ?_; refine gy ?_; refine qy ?_; refine rc rfl rfl rfl rfl rfl rfl good61 (cUniv n hv.1 hv.2.1) (CoL.refl _) rfl rfl ?_
  refine rg_fcall rfl rfl rfl rfl rfl rfl good53 (cSubsH (fullI n)) (CoHCL.refl _) trivial rfl rfl ?_; refine qy ?_
  refine rg_fcall rfl rfl rfl rfl rfl rfl good122 ((cDelF (subsC (fullI n)) 123 1 (fun i => [bx (fdl l)].getD i .any) (violB l) good123 (fun s => cBSubs1 s l)).swap 900 901) (CoHCL.refl _) ⟨u9, trivial⟩ rfl rfl ?_
  (iterate 2 refine qy ?_); refine rg_nil ?_; refine hw_ret ?_; refine ⟨.inr rfl, ?_⟩
  exact f9 rfl rfl (⟨CoC.one (CoP.of_eq (by rw [subF_t h0])), cci h0.symm, trivial⟩)
end Go.Hx
end
section
namespace Go.Hx
def moreS (l : List Fd) (p z : AS) : AS := (p &&& clo l (z &&& p)) &&& ~~~z
def moreB (l : List Fd) (z p : AS) : Bool := decide (moreS l p z ≠ 0)
def folF (l : List Fd) (ps : List AS) : Nat → AS → AS
 | 0, z => z
 | n + 1, z => match ps.find? (moreB l z) with
  | none => z
  | some p => folF l ps n (z ||| moreS l p z)
def kept (l : List Fd) (ps : List AS) (z : AS) : AS := folF l ps 4294967297 z
def presB (l : List Fd) (ps : List AS) (f : Fd) : Bool := decide (sub f.rhs (kept l ps f.lhs))
theorem more_v (l : List Fd) (p z : AS) : bitV .andNot .u32 (bitV .and .u32 (asI p) (asI (clo l (z &&& p)))) (asI z) = asI (moreS l p z) := by rw [bAnd, bNot]; rfl
theorem moreB_v {l : List Fd} {p z : AS} : (!decide (asI (moreS l p z) = 0)) = moreB l z p := by
 unfold moreB
 rw [show (0 : Int) = asI 0 from rfl, asI_eq]
 simp
theorem or_lt {z m : AS} (h : m &&& ~~~z = m) (h0 : m ≠ 0) : z.toNat < (z ||| m).toNat := by
 have hs : sub z (z ||| m) := sub_bit.2 fun i _ hi => by rw [BitVec.getLsbD_or, hi]; rfl
 have hle := subLe hs
 rcases Nat.lt_or_eq_of_le hle with h1 | h1
 · exact h1
 · exfalso
   apply h0
   have e : z = z ||| m := BitVec.eq_of_toNat_eq h1
   apply BitVec.eq_of_getLsbD_eq
   intro i hi
   have e1 := congrArg (fun s : AS => s.getLsbD i) e
   have e2 := congrArg (fun s : AS => s.getLsbD i) h
   simp only [BitVec.getLsbD_or, BitVec.getLsbD_and, BitVec.getLsbD_not] at e1 e2
   have e3 : (0 : AS).getLsbD i = false := by simp
   rw [e3]
   rw [decide_eq_true hi] at e2
   clear h h0 hs hle h1 e
   revert e1 e2
   cases z.getLsbD i <;> cases m.getLsbD i <;> simp
theorem moreS_lt {l : List Fd} {p z : AS} (h : moreB l z p = true) : z.toNat < (z ||| moreS l p z).toNat := by
 refine or_lt ?_ (of_decide_eq_true h)
 unfold moreS
 rw [BitVec.and_assoc, BitVec.and_self]
def FolI (l : List Fd) (ps : List AS) (z0 : AS) (x : Nat × List Nat × AS) : Prop := folF l ps x.1 x.2.2 = kept l ps z0 ∧ 4294967296 < x.1 + x.2.2.toNat ∧ x.2.1.length + x.1 = 4294967297
theorem fol_zero (l : List Fd) (ps : List AS) (z0 : AS) : FolI l ps z0 (4294967297, [], z0) := by
 refine ⟨rfl, ?_, ?_⟩
 · dsimp only; omega
 · dsimp only; rw [List.length_nil]
theorem fol_pos {l : List Fd} {ps : List AS} {z0 : AS} {x : Nat × List Nat × AS} (h : FolI l ps z0 x) : 0 < x.1 := by
 have := h.2.1
 have := x.2.2.isLt
 omega
theorem fol_end {l : List Fd} {ps : List AS} {z0 : AS} {x : Nat × List Nat × AS} (h : FolI l ps z0 x) (hi : idx (moreB l x.2.2) ps < 0) : x.2.2 = kept l ps z0 := by
 have hp := fol_pos h
 rw [← h.1]
 obtain ⟨n, hn⟩ : ∃ n, x.1 = n + 1 := ⟨x.1 - 1, by omega⟩
 rw [hn]
 unfold folF
 have : ps.find? (moreB l x.2.2) = none := by
  have hm : idx (moreB l x.2.2) ps = -1 := by
   by_cases h : idx (moreB l x.2.2) ps = -1
   · exact h
   · obtain ⟨i, h1, _⟩ := idx_some h
     omega
  exact find_f (idx_none hm)
 rw [this]
theorem fol_next {l : List Fd} {ps : List AS} {z0 : AS} {x : Nat × List Nat × AS} {i : Nat} (h : FolI l ps z0 x) (hi : i < ps.length) (hv : moreB l x.2.2 (ps.getD i default) = true) (hj : ∀ j, j < i → moreB l x.2.2 (ps.getD j default) = false) :
 FolI l ps z0 (x.1 - 1, x.2.1 ++ [i], x.2.2 ||| moreS l (ps.getD i default) x.2.2) := by
 have hp := fol_pos h
 have hlt := moreS_lt hv
 obtain ⟨h1, h2, h3⟩ := h
 obtain ⟨n, hn⟩ : ∃ n, x.1 = n + 1 := ⟨x.1 - 1, by omega⟩
 refine ⟨?_, by dsimp only; omega, ?_⟩
 · rw [← h1, hn]
   have : ps.find? (moreB l x.2.2) = some (ps.getD i default) := find_t hi hj hv
   show folF l ps n _ = _
   conv => rhs; unfold folF
   rw [this]
 · dsimp only
   rw [List.length_append, List.length_singleton]
   omega
def lostT (l : List Fd) (ps : List AS) (i : Nat) : List Nat := (List.range i).filter fun j => !presB l ps (l.getD j default)
def allP (l : List Fd) (ps : List AS) : Bool := (List.range l.length).all fun j => presB l ps (l.getD j default)
theorem lostT_t {l : List Fd} {ps : List AS} {i : Nat} (h : presB l ps (l.getD i default) = false) : lostT l ps (i + 1) = lostT l ps i ++ [i] := by
 unfold lostT
 rw [List.range_succ, List.filter_append]
 simp only [List.filter_cons, h, Bool.not_false, Bool.not_true, if_true, List.filter_nil, List.append_nil, Bool.false_eq_true, if_false]
theorem lostT_f {l : List Fd} {ps : List AS} {i : Nat} (h : presB l ps (l.getD i default) = true) : lostT l ps (i + 1) = lostT l ps i := by
 unfold lostT
 rw [List.range_succ, List.filter_append]
 simp only [List.filter_cons, h, Bool.not_false, Bool.not_true, if_true, List.filter_nil, List.append_nil, Bool.false_eq_true, if_false]
theorem lostT_len (l : List Fd) (ps : List AS) (i : Nat) : (lostT l ps i).length ≤ i := Nat.le_trans (List.length_filter_le _ _) (by rw [List.length_range]; exact Nat.le_refl _)
theorem all_lost {l : List Fd} {ps : List AS} : decide (((lostT l ps l.length).length : Int) = 0) = allP l ps := by
 unfold lostT allP
 rw [Bool.eq_iff_iff, decide_eq_true_iff, List.all_eq_true]
 constructor
 · intro h x hx
   have h0 : ((List.range l.length).filter fun j => !presB l ps (l.getD j default)) = [] := List.eq_nil_of_length_eq_zero (by omega)
   rw [List.filter_eq_nil_iff] at h0
   have := h0 x hx
   simpa using this
 · intro h
   rw [List.filter_eq_nil_iff.2 fun x hx => (by rw [h x hx]; decide)]
   rfl
theorem pres_v {l : List Fd} {ps : List AS} {f : Fd} : decide (bitV .andNot .u32 (asI f.rhs) (asI (kept l ps f.lhs)) = 0) = presB l ps f := decide_eq_decide.2 sub_iff_not
theorem fol_ren (l : List Fd) : HV.clo 229 2 (fun i => [HV.p (bx (fdl l)), .ptr 1 0].getD i (.p .any)) = HV.clo 229 2 (fun i => ([HV.p (bx (fdl l)), .ptr 1000 0].getD i (.p .any)).ren (swp 1000 1)) :=
 congrArg (HV.clo 229 2) (funext fun i => match i with | 0 => rfl | 1 => rfl | n + 2 => rfl)
end Go.Hx
end
section
namespace Go.Hx
open Go.Proofs
set_option maxRecDepth 100000
set_option maxHeartbeats 1000000
theorem good230 : goodFn Tryz.prog 230 := ⟨Tryz.f230, Tryz.func230, by kernel_rfl, by kernel_rfl⟩
theorem cMore (l : List Fd) (p z : AS) : HPure Tryz.prog 230 [pP (fdl l), pA p, pA z] (prOf [pA (moreS l p z)]) := by
 refine hpure_of (nt := 16) Tryzok Tryz.func230 rfl rfl l9 ?_; refine hw_seq ?_; refine gy ?_; refine qy ?_; refine rg_nil ?_; refine hw_seq ?_; refine gy ?_; (iterate 5 refine qy ?_)
 refine rc rfl rfl rfl rfl rfl rfl good119 (cClose l (z &&& p)) (⟨CoC.refl _, cci (bAnd _ _), trivial⟩) rfl rfl ?_; (iterate 4 refine qy ?_); refine rg_nil ?_; refine hw_ret ?_; refine ⟨.inr rfl, ?_⟩
 exact f9 rfl rfl (⟨cci (more_v l p z), trivial⟩)
theorem good229 : goodFn Tryz.prog 229 := ⟨Tryz.f229, Tryz.func229, by kernel_rfl, by kernel_rfl⟩
theorem cFol1 (x : AS) (l : List Fd) (z : AS) : HFun Tryz.prog 229 [.one (.p (asC x)), .one (.p (bx (fdl l))), .one (.ptr 1000 0)] [(1000, .box [.p (asC z)])] (.v (.one (.p (.raw (.bool (moreB l z x)))))) [(1000, .box [.p (asC z)])] [1000] := by
 refine hfun_of (nt := 10) Tryzok Tryz.func229 rfl rfl l9 rfl ?_; refine hw_seq ?_; refine gy ?_; refine qy ?_; refine rg_nil ?_; refine hw_seq ?_; refine gy ?_; (iterate 3 refine qy ?_)
 refine rc rfl rfl rfl rfl rfl rfl good230 (cMore l x z) (CoL.refl _) rfl rfl ?_; (iterate 2 refine qy ?_); refine rg_nil ?_; refine hw_ret ?_; refine ⟨.inr rfl, ?_⟩
 exact ⟨_, _, rfl, (by (repeat' apply And.intro) <;> first | trivial | exact Nat.le_of_ble_eq_true rfl), cob moreB_v, ⟨u9, trivial⟩⟩
theorem cIxH (ps : List AS) (l : List Fd) (z : AS) : HFun Tryz.prog 121 [.one (.p (asl ps)), .one (.clo 229 2 fun i => [HV.p (bx (fdl l)), .ptr 1000 0].getD i (.p .any))] [(1000, .box [.p (asC z)])] (.v (.one (.p (.raw (.int .i64 (idx (moreB l z) ps)))))) [(1000, .box [.p (asC z)])] [1000] := by
 refine hfun_of (nt := 19) Tryzok Tryz.func121 rfl rfl l9 rfl ?_; refine hw_seq ?_
 refine hw_bt 0 rfl fun hn => ?_
 refine gy ?_; refine qy ?_; refine rg_nil ?_; refine hw_joinK (ι := Unit) ⟨[], [(1000, some _)]⟩ ⟨trivial, ⟨u9, trivial⟩⟩ (fun _i => ⟨[], []⟩) (fun _i => idx (moreB l z) ps = -1) ?_ ?_
 ·
  refine hw_seq ?_; refine gy ?_; (iterate 3 refine qy ?_); refine rg_nil ?_; refine hw_block ?_
  refine hw_loopK (ι := Nat) ⟨[(0, some _), (1, some _), (7, some _)], [(1000, some _)]⟩ ⟨⟨c9, c9, c9, trivial⟩, ⟨u9, trivial⟩⟩ (fun i => ⟨[(8, some (vI i))], []⟩) (fun i => i ≤ ps.length ∧ (∀ j, j < i → moreB l z (ps.getD j default) = false)) (fun i => ps.length - i) (0) (⟨Nat.zero_le _, all_zero⟩) ⟨⟨zy, trivial⟩, trivial⟩ ?_
  rintro i ⟨hi, hI⟩
  refine hw_seq ?_; refine gy ?_; refine qy ?_; refine rg_nil ?_; refine hw_seq ?_; refine hw_cond _ rfl (fun r0 => ?_) (fun r0 => ?_)
  ·
   have h0 := of_decide_eq_true r0
   try simp only [ty] at h0
   refine hw_skip ?_; refine hw_seq ?_; refine hw_block ?_; refine hw_seq ?_; refine gy ?_; (iterate 2 refine qy ?_); refine rg_nil ?_; refine hw_seq ?_; refine gy ?_; (iterate 5 refine qy ?_)
   refine rg_fcall rfl rfl rfl rfl rfl rfl good229 (cFol1 (ps.getD i default) l z) (CoHCL.refl _) ⟨u9, trivial⟩ rfl rfl ?_; refine rg_nil ?_; refine hw_cond _ rfl (fun r1 => ?_) (fun r1 => ?_)
   ·
    have h1 := r1
    refine hw_seq ?_; refine gy ?_; (iterate 2 refine qy ?_); refine rg_nil ?_; refine hw_ret ?_; refine ⟨.inr rfl, ?_⟩
    exact ⟨_, _, rfl, (by (repeat' apply And.intro) <;> first | trivial | exact Nat.le_of_ble_eq_true rfl), coi (idx_t (i := i) (by omega) hI h1).symm, ⟨u9, trivial⟩⟩
   ·
    have h1 := r1
    refine hw_skip ?_; refine gy ?_; (iterate 2 refine qy ?_); refine rg_nil ?_; refine ⟨i + 1, ?_, ?_, ?_⟩
    · exact ⟨by show i + 1 ≤ _; omega, all_succ hI (h1)⟩
    · first | omega | (dsimp only; omega)
    · exact ⟨⟨zy, c9, c9, c9, trivial⟩, ⟨u9, trivial⟩⟩
  ·
   have h0 := of_decide_eq_false r0
   try simp only [ty] at h0
   refine hw_exit ?_; refine ⟨(), ?_, ?_⟩
   · exact idx_f fun j hj => hI j (by omega)
   · exact ⟨trivial, ⟨u9, trivial⟩⟩
 · rintro _ hj
   refine hw_seq ?_; refine gy ?_; refine qy ?_; refine rg_nil ?_; refine hw_ret ?_; refine ⟨.inr rfl, ?_⟩
   exact ⟨_, _, rfl, (by (repeat' apply And.intro) <;> first | trivial | exact Nat.le_of_ble_eq_true rfl), coi hj.symm, ⟨u9, trivial⟩⟩
theorem good208 : goodFn Tryz.prog 208 := ⟨Tryz.f208, Tryz.func208, by kernel_rfl, by kernel_rfl⟩
theorem cFollow (l : List Fd) (ps : List AS) (z0 : AS) : HPure Tryz.prog 208 [pP (fdl l), pP (asl ps), pA z0] (prOf [pA (kept l ps z0), pP .any]) := by
 refine hpure_of (nt := 30) Tryzok Tryz.func208 rfl rfl l9 ?_; refine hw_seq ?_; refine gy ?_; refine m9 0 ?_; refine m9 1 ?_; (iterate 2 refine qy ?_); refine rg_nil ?_; refine hw_seq ?_; refine gy ?_; refine qy ?_
 refine rg_nil ?_; refine hw_block ?_; refine hw_freeze_box 3 rfl rfl rfl ?_
 refine hw_adopt 8 900 true 1 3 (lf iC []) (by decide) rfl (CoP.sl rfl (.inr rfl) (fun h => h) (fun i j hi _ => absurd hi (Nat.not_lt_zero i))) (.inr rfl) rfl ?_
 refine hw_loopK (ι := Nat × List Nat × AS) ⟨[(1, some _), (3, some _), (5, some _)], []⟩ ⟨⟨c9, c9, c9, trivial⟩, trivial⟩ (fun x => ⟨[(8, some (.v (.one (.ref 900 x.2.1.length))))], [(900, some (.arr true 1 3 x.2.1.length (lf iC x.2.1))), (1, some (.box [.p (asC x.2.2)]))]⟩) (fun x => FolI l ps z0 x) (fun x => x.1) ((4294967297, [], z0)) (fol_zero l ps z0) ⟨⟨zy, trivial⟩, ⟨u9, u9, trivial⟩⟩ ?_
 rintro x hx
 have hlen := hx.2.2
 have hpos := fol_pos hx
 refine hw_block ?_; refine hw_seq ?_; refine gy ?_; (iterate 2 refine qy ?_); refine rg_fcall rfl rfl rfl rfl rfl rfl good121 ((cIxH ps l x.2.2).swap 1000 1) (⟨CoP.refl _, fol_ren l, trivial⟩) ⟨u9, trivial⟩ rfl rfl ?_
 refine qy ?_; refine rg_nil ?_; (iterate 2 refine hw_seq ?_); refine gy ?_; (iterate 2 refine qy ?_); refine rg_nil ?_; refine hw_cond _ rfl (fun r0 => ?_) (fun r0 => ?_)
 ·
  have h0 := of_decide_eq_true r0
  try simp only [ty] at h0
  refine hw_seq ?_; refine hw_freeze 8 rfl rfl rfl ?_; refine gy ?_; (iterate 4 refine qy ?_); refine rg_nil ?_; refine hw_ret ?_; refine ⟨.inr rfl, ?_⟩
  exact f9 rfl rfl (⟨cci (congrArg asI (fol_end hx (by omega))), CoC.one (CoP.any_of), trivial⟩)
 ·
  have h0 := of_decide_eq_false r0
  try simp only [ty] at h0
  obtain ⟨i0, hi0, hi1, hi2, hi3⟩ := idx_some (p := moreB l x.2.2) (l := ps) (by omega)
  refine hw_skip ?_; refine hw_seq ?_; refine hw_draw (E := TryzE) Tryzok Tryzmixed [0, 1, 2, 3, 4, 5, 6, 7, 8, 9] ?_; (iterate 7 refine qy ?_)
  refine rc rfl rfl rfl rfl rfl rfl good230 (cMore l (ps.getD i0 default) x.2.2) (⟨CoC.refl _, CoC.one (CoP.of_eq (by rw [hi0]; rfl)), CoC.refl _, trivial⟩) rfl rfl ?_; refine qy ?_; refine s9 ?_; refine rg_nil ?_
  refine ⟨by kernel_rfl, ?_⟩; refine gy ?_; (iterate 2 refine qy ?_); refine m9 2 ?_; refine ra 3 true rfl rfl rfl rfl rfl rfl ?_; refine qy ?_; refine rg_nil ?_
  refine ⟨(x.1 - 1, x.2.1 ++ [i0], x.2.2 ||| moreS l (ps.getD i0 default) x.2.2), ?_, ?_, ?_⟩
  · exact fol_next hx hi1 hi2 hi3
  · dsimp only
    omega
  · exact ⟨⟨⟨_, rfl, (ref_app rfl)⟩, c9, c9, c9, trivial⟩, ⟨⟨_, rfl, (arr_app1 rfl (CoP.of_eq (congrArg (fun z => PV.raw (.int .i64 z)) hi0)))⟩, ⟨_, rfl, ⟨CoP.of_eq (congrArg (fun z => PV.raw (.int .u32 z)) (bOr _ _)), trivial⟩⟩, trivial⟩⟩
theorem good166 : goodFn Tryz.prog 166 := ⟨Tryz.f166, Tryz.func166, by kernel_rfl, by kernel_rfl⟩
theorem cKept (l : List Fd) (ps : List AS) (z : AS) : HPure Tryz.prog 166 [pP (fdl l), pP (asl ps), pA z] (prOf [pA (kept l ps z)]) := by
 refine hpure_of (nt := 17) Tryzok Tryz.func166 rfl rfl l9 ?_; refine hw_seq ?_; refine gy ?_; refine qy ?_; refine rg_nil ?_; refine hw_seq ?_; refine gy ?_; (iterate 3 refine qy ?_)
 refine rc rfl rfl rfl rfl rfl rfl good208 (cFollow l ps z) (CoL.refl _) rfl rfl ?_; (iterate 5 refine qy ?_); refine rg_nil ?_; refine hw_seq ?_; refine gy ?_; (iterate 2 refine qy ?_); refine rg_nil ?_; refine hw_ret ?_
 refine ⟨.inr rfl, ?_⟩
 exact f9 rfl rfl (CoL.refl _)
theorem good118 : goodFn Tryz.prog 118 := ⟨Tryz.f118, Tryz.func118, by kernel_rfl, by kernel_rfl⟩
theorem cPres (l : List Fd) (ps : List AS) (x : Fd) : HPure Tryz.prog 118 [pP (fdl l), pP (asl ps), x.pc] (prOf [pB (presB l ps x)]) := by
 refine hpure_of (nt := 16) Tryzok Tryz.func118 rfl rfl l9 ?_; refine hw_seq ?_; refine gy ?_; refine m9 0 ?_; refine qy ?_; refine rg_nil ?_; refine hw_seq ?_
 refine hw_draw (E := TryzE) Tryzok Tryzmixed [0, 1, 2, 3, 4, 5, 6, 7, 8, 9] ?_; (iterate 6 refine qy ?_); refine rc rfl rfl rfl rfl rfl rfl good166 (cKept l ps x.lhs) (CoL.refl _) rfl rfl ?_; (iterate 3 refine qy ?_)
 refine rg_nil ?_; refine ⟨by kernel_rfl, ?_⟩; refine hw_ret ?_; refine ⟨.inr rfl, ?_⟩
 exact f9 rfl rfl (⟨ccb pres_v, trivial⟩)
theorem good124 : goodFn Tryz.prog 124 := ⟨Tryz.f124, Tryz.func124, by kernel_rfl, by kernel_rfl⟩
theorem cLost (l : List Fd) (ps : List AS) (hl : l.length ≤ 16777216) : HPure Tryz.prog 124 [pP (fdl l), pP (asl ps)] (prOf [pP (il (lostT l ps l.length))]) := by
 refine hpure_of (nt := 26) Tryzok Tryz.func124 rfl rfl l9 ?_; refine hw_seq ?_; refine gy ?_; refine qy ?_; refine rg_nil ?_; refine hw_seq ?_; refine gy ?_; refine qy ?_; refine rg_nil ?_; (iterate 2 refine hw_seq ?_)
 refine hw_bt 0 rfl fun hn => ?_
 refine gy ?_; (iterate 3 refine qy ?_); refine rg_nil ?_; refine hw_block ?_
 refine hw_adopt 5 900 true 1 3 (lf iC []) (by decide) rfl (CoP.sl rfl (.inr rfl) (fun h => h) (fun i j hi _ => absurd hi (Nat.not_lt_zero i))) (.inr rfl) rfl ?_
 refine hw_loopK (ι := Nat) ⟨[(0, some _), (1, some _), (8, some _), (9, some _)], []⟩ ⟨⟨c9, c9, c9, c9, trivial⟩, trivial⟩ (fun i => ⟨[(5, some (.v (.one (.ref 900 (lostT l ps i).length)))), (10, some (vI i))], [(900, some (.arr true 1 3 (lostT l ps i).length (lf iC (lostT l ps i))))]⟩) (fun i => i ≤ l.length) (fun i => l.length - i) (0) (Nat.zero_le _) ⟨⟨zy, zy, trivial⟩, ⟨u9, trivial⟩⟩ ?_
 rintro i hi
 have hlen := lostT_len l ps i
 refine hw_seq ?_; refine gy ?_; refine qy ?_; refine rg_nil ?_; refine hw_seq ?_; refine hw_cond _ rfl (fun r0 => ?_) (fun r0 => ?_)
 ·
  have h0 := of_decide_eq_true r0
  try simp only [ty] at h0
  refine hw_skip ?_; refine hw_seq ?_; refine hw_block ?_; refine hw_seq ?_; refine gy ?_; (iterate 3 refine qy ?_); refine m9 0 ?_; refine qy ?_; refine s9 ?_; refine rg_nil ?_; refine hw_seq ?_; refine gy ?_
  (iterate 3 refine qy ?_); refine rc rfl rfl rfl rfl rfl rfl good118 (cPres l ps (l.getD i default)) (CoL.refl _) rfl rfl ?_; refine qy ?_; refine rg_nil ?_; refine hw_cond _ rfl (fun r1 => ?_) (fun r1 => ?_)
  ·
   have h1 := r1
   have h1 := not_t h1
   have hq := not_t r1
   refine gy ?_; (iterate 2 refine qy ?_); refine m9 1 ?_; refine ra 2 true rfl rfl rfl rfl rfl rfl ?_; refine qy ?_; refine rg_nil ?_; refine gy ?_; (iterate 2 refine qy ?_); refine rg_nil ?_
   first | (refine ⟨i + 1, ?_, ?_, ?_⟩
            · show i + 1 ≤ _; omega
            · first | omega | (dsimp only; omega)
            · exact ⟨⟨⟨_, rfl, (ref_app (lostT_t (by assumption)))⟩, zy, c9, c9, c9, c9, trivial⟩, ⟨⟨_, rfl, (arr_app1 (lostT_t (by assumption)) (CoP.refl _))⟩, trivial⟩⟩)
         | (refine ⟨i + 1, ?_, ?_, ?_⟩
            · show i + 1 ≤ _; omega
            · first | omega | (dsimp only; omega)
            · exact ⟨⟨⟨_, rfl, (ref_same (lostT_f (by assumption)))⟩, zy, c9, c9, c9, c9, trivial⟩, ⟨⟨_, rfl, (arr_same (lostT_f (by assumption)))⟩, trivial⟩⟩)
  ·
   have h1 := r1
   have h1 := not_f h1
   have hq := not_f r1
   refine hw_skip ?_; refine gy ?_; (iterate 2 refine qy ?_); refine rg_nil ?_
   first | (refine ⟨i + 1, ?_, ?_, ?_⟩
            · show i + 1 ≤ _; omega
            · first | omega | (dsimp only; omega)
            · exact ⟨⟨⟨_, rfl, (ref_app (lostT_t (by assumption)))⟩, zy, c9, c9, c9, c9, trivial⟩, ⟨⟨_, rfl, (arr_app1 (lostT_t (by assumption)) (CoP.refl _))⟩, trivial⟩⟩)
         | (refine ⟨i + 1, ?_, ?_, ?_⟩
            · show i + 1 ≤ _; omega
            · first | omega | (dsimp only; omega)
            · exact ⟨⟨⟨_, rfl, (ref_same (lostT_f (by assumption)))⟩, zy, c9, c9, c9, c9, trivial⟩, ⟨⟨_, rfl, (arr_same (lostT_f (by assumption)))⟩, trivial⟩⟩)
 ·
  have h0 := of_decide_eq_false r0
  try simp only [ty] at h0
  obtain rfl : i = l.length := by omega
  refine hw_exit ?_; refine hw_seq ?_; refine gy ?_; (iterate 2 refine qy ?_); refine rg_nil ?_; refine hw_freeze 4 rfl rfl rfl ?_; refine hw_ret ?_; refine ⟨.inr rfl, ?_⟩
  exact f9 rfl rfl (⟨CoC.one (CoP.refl _), trivial⟩)
theorem good69 : goodFn Tryz.prog 69 := ⟨Tryz.f69, Tryz.func69, by kernel_rfl, by kernel_rfl⟩
theorem cAll (l : List Fd) (ps : List AS) (hl : l.length ≤ 16777216) : HPure Tryz.prog 69 [pP (fdl l), pP (asl ps)] (prOf [pB (allP l ps)]) := by
 refine hpure_of (nt := 10) Tryzok Tryz.func69 rfl rfl l9 ?_; refine hw_seq ?_; refine gy ?_; refine qy ?_; refine rg_nil ?_; refine hw_seq ?_; refine gy ?_; (iterate 2 refine qy ?_)
 refine rc rfl rfl rfl rfl rfl rfl good124 (cLost l ps hl) (CoL.refl _) rfl rfl ?_; (iterate 3 refine qy ?_); refine rg_nil ?_; refine hw_ret ?_; refine ⟨.inr rfl, ?_⟩
 exact f9 rfl rfl (⟨ccb all_lost, trivial⟩)
end Go.Hx
end

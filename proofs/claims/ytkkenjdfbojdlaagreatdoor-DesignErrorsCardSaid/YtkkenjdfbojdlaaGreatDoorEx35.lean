/- A part of the proof: Cs44 V39 Ls9 Dw6 Dw1. -/
import Derived.Test.YtkkenjdfbojdlaaGreatDoorEx23
import Derived.Test.YtkkenjdfbojdlaaGreatDoorEx25
import Derived.Test.YtkkenjdfbojdlaaGreatDoorEx31
import Derived.Test.YtkkenjdfbojdlaaGreatDoorEx34
set_option linter.all false
section
namespace Go.Hx
def vu (l:List Fd) (z:Int):Option PV:=match l.find? (fun f=>decide (asI f.lhs = z)) with | some f=>some (asC (mgR l f.lhs)) | none=>none
def yi (l:List Fd):MK → Option PV
 | .i .u32 z=>vu l z
 | _=>none
theorem wfA (s:AS):(Lit.int .u32 (asI s)).wf = true:=by
 have h1:=a7d s
 have h2:=a16 s
 have e1:IntKind.min .u32 = 0:=by decide
 have e2:IntKind.max .u32 = 4294967295:=by decide
 simp only [Lit.wf,e1,e2,Bool.and_eq_true,decide_eq_true_eq]
 omega
theorem au7 {l:List Fd} {s:AS} (h:∀ f ∈ l,¬ f.lhs = s):mgR l s = 0:=by
 unfold mgR
 rw [List.filter_eq_nil_iff.2 fun f hf=>by simpa using h f hf]
 rfl
theorem a6i {l:List Fd} {s:AS} {f:Fd} (h:l.find? (fun f=>decide (asI f.lhs = asI s)) = some f):f.lhs = s:=by
 have:=List.find?_some h
 exact c6.1 (of_decide_eq_true this)
theorem a5y (l:List Fd) (s:AS):zn (yi l) (.i .u32 (asI s)) (.int .u32 0) = asC (mgR l s):=by
 show (match vu l (asI s) with | some y=>y | none=>j3 (.int .u32 0)) = _
 unfold vu
 cases h:l.find? (fun f=>decide (asI f.lhs = asI s)) with
 | some f =>
  have:=a6i h
  subst this
  rfl
 | none =>
  rw [au7 fun f hf e=>by
   have:=List.find?_eq_none.1 h f hf
   rw [e] at this
   exact this (decide_eq_true rfl)]
  rfl
theorem aqu (m:MK):CoM none (yi [] m):=by
 cases m with
 | i q z=>cases q <;> exact CoM.refl _
 | s b=>exact CoM.refl _
theorem alo {l:List Fd} {i:Nat} (hi:i < l.length) (z:Int):(if z = asI (l.getD i default).lhs then some (PV.raw (.int .u32 (bj .or .u32 (asI (mgR (l.take i) (l.getD i default).lhs)) (asI (l.getD i default).rhs)))) else vu (l.take i) z) = vu (l.take (i + 1)) z:=by
 unfold vu
 by_cases hz:z = asI (l.getD i default).lhs
 · subst hz
   rw [if_pos rfl,bbz hi rfl]
   cases h:(l.take (i + 1)).find? (fun f=>decide (asI f.lhs = asI (l.getD i default).lhs)) with
   | some f =>
    have:=a6i h
    rw [← this]
   | none =>
    have:=List.find?_eq_none.1 h (l.getD i default) (by rw [b6 hi];simp)
    exact absurd (decide_eq_true rfl) this
 rw [if_neg hz,b6 hi,List.find?_append]
 have hx:[l.getD i default].find? (fun f=>decide (asI f.lhs = z)) = none:=by
  rw [List.find?_cons,decide_eq_false (fun e=>hz e.symm)]
  rfl
 rw [hx,Option.or_none]
 cases h:(l.take i).find? (fun f=>decide (asI f.lhs = z)) with
 | none=>rfl
 | some f =>
  have hf0:=List.find?_some h
  have hf:asI f.lhs = z:=of_decide_eq_true hf0
  dsimp only
  rw [← b6 hi,bag hi (fun e=>hz (by rw [e];exact hf.symm))]
theorem aoj {l:List Fd} {i:Nat} (hi:i < l.length) (m:MK):CoM (sg (yi (l.take i)) (.i .u32 (asI (l.getD i default).lhs)) (.raw (.int .u32 (bj .or .u32 (asI (mgR (l.take i) (l.getD i default).lhs)) (asI (l.getD i default).rhs)))) m) (yi (l.take (i + 1)) m):=by
 refine CoM.of_eq ?_
 unfold sg
 cases m with
 | s b=>rfl
 | i q z =>
  by_cases hq:q = .u32
  · subst hq
    show (bif (decide True && decide (z = _)) then _ else vu _ z) = vu _ z
    rw [← alo hi z]
    by_cases hz:z = asI (l.getD i default).lhs
    · rw [if_pos hz,decide_eq_true hz];rfl
    rw [if_neg hz,decide_eq_false hz];rfl
  have h1:MK.same (.i q z) (.i .u32 (asI (l.getD i default).lhs)) = false:=by
   show (decide _ && decide _) = false
   rw [decide_eq_false hq,Bool.false_and]
  rw [h1]
  cases q <;> first | rfl | exact absurd rfl hq
end Go.Hx
end
section
namespace Go.Hx
open Go.Proofs
set_option maxRecDepth 100000
theorem alw (l:List Fd) (hl:l.length ≤ 16777216):ae Tryz.prog 135 [pP (fdl l)] (ai [pP (fdl (a87 l))]):=by
 refine a8 (nt:=47) a7 Tryz.func135 rfl rfl l9 ?_;refine w_6 ?_;refine m9 0 ?_;refine a1x ?_
 refine dy 4 900 true 1 46 (lf sC []) (by decide) rfl (CoP.sl rfl (.inr rfl) (fun h=>h) (fun i j hi _=>absurd hi (Nat.not_lt_zero i))) (.inr rfl) rfl ?_
 refine aj (ι:=Nat) ⟨[(3,some _),(11,some _),(12,some _)],[]⟩ ⟨⟨c9,c9,c9,trivial⟩,trivial⟩ (fun i=>⟨[(4,some (.v (.one (.ref 900 ((l.take i).map Fd.lhs).length)))),(13,some (vI i))],[(0,some (.mp (.int .u32) i (yi (l.take i)))),(900,some (.arr true 1 46 ((l.take i).map Fd.lhs).length (lf sC ((l.take i).map Fd.lhs))))]⟩) (fun i=>i ≤ l.length) (fun i=>l.length - i) (0) (Nat.zero_le _) ⟨⟨zy,zy,trivial⟩,⟨⟨_,rfl,⟨rfl,Nat.le_refl _,aqu⟩⟩,u9,trivial⟩⟩ ?_
 rintro i hi
 have hlen:((l.take i).map Fd.lhs).length ≤ i:=by rw [List.length_map,List.length_take];omega
 refine w_5 ?_;refine a6 _ rfl (fun r0=>?_) (fun r0=>?_)
 ·
  have h0:=of_decide_eq_true r0
  try simp only [ty] at h0
  refine w_7 ?_;refine m9 1 ?_;refine w_7 ?_
  refine rq (out:=⟨_, .v (.one (.p (asC (mgR (l.take i) (l.getD i default).lhs))))⟩) rfl rfl rfl (congrArg (fun z=>some (Out.mk _ (HR.v (HC.one (HV.p z))))) (a5y _ _)) rfl ?_ (hp:=⟨rfl,rfl,wfA _⟩);refine w_3 ?_
  refine rs rfl rfl rfl rfl rfl ?_ (hp:=⟨rfl,⟨rfl,wfA _⟩,by simp only [maxLen];omega⟩);refine w_5 ?_;refine m9 2 ?_;refine ra 3 true rfl rfl rfl rfl rfl rfl ?_;refine w_6 ?_;refine ⟨i + 1, ?_, ?_, ?_⟩
  · show i + 1 ≤ _;omega
  · first | omega | (dsimp only;omega)
  exact ⟨⟨⟨_,rfl,(d8 (a1r (by omega)))⟩,zy,c9,c9,c9,trivial⟩,⟨⟨_,rfl,⟨rfl,Nat.le_refl _,aoj (by omega)⟩⟩,⟨_,rfl,(dt (a1r (by omega)) (CoP.refl _))⟩,trivial⟩⟩
 have h0:=of_decide_eq_false r0
 try simp only [ty] at h0
 obtain rfl:i = l.length:=by omega
 rw [show (l.take l.length).map Fd.lhs = l.map Fd.lhs by rw [List.take_length],show yi (l.take l.length) = yi l by rw [List.take_length]]
 refine w_7 ?_;refine bt 4 rfl rfl rfl ?_
 have hol:=mo (l.map Fd.lhs)
 rw [List.length_map] at hol
 refine w_2 ?_;refine rc rfl rfl rfl rfl rfl rfl uh (a28 (l.map Fd.lhs) (by rw [List.length_map];omega)) (CoL.refl _) rfl rfl ?_;refine w_4 ?_
 refine dy 7 901 true 2 48 (lf Fd.c []) (by decide) rfl (CoP.sl rfl (.inr rfl) (fun h=>h) (fun i j hi _=>absurd hi (Nat.not_lt_zero i))) (.inr rfl) rfl ?_
 refine aj (ι:=Nat) ⟨[(3,some _),(31,some _),(32,some _)],[(0,some _)]⟩ ⟨⟨c9,c9,c9,trivial⟩,⟨u9,trivial⟩⟩ (fun k=>⟨[(7,some (.v (.one (.ref 901 (((ord (l.map Fd.lhs)).take k).map (mgF l)).length)))),(33,some (vI k))],[(901,some (.arr true 2 48 (((ord (l.map Fd.lhs)).take k).map (mgF l)).length (lf Fd.c (((ord (l.map Fd.lhs)).take k).map (mgF l)))))]⟩) (fun k=>k ≤ (ord (l.map Fd.lhs)).length) (fun k=>(ord (l.map Fd.lhs)).length - k) (0) (Nat.zero_le _) ⟨⟨zy,zy,trivial⟩,⟨u9,trivial⟩⟩ ?_
 rintro k hk
 have hlen2:(((ord (l.map Fd.lhs)).take k).map (mgF l)).length ≤ k:=by rw [List.length_map,List.length_take];omega
 refine w_5 ?_;refine a6 _ rfl (fun r1=>?_) (fun r1=>?_)
 ·
  have h1:=of_decide_eq_true r1
  try simp only [ty] at h1
  refine a1x ?_
  refine rq (out:=⟨_, .v (.one (.p (asC (mgR l ((ord (l.map Fd.lhs)).getD k default)))))⟩) rfl rfl rfl (congrArg (fun z=>some (Out.mk _ (HR.v (HC.one (HV.p z))))) (a5y _ _)) rfl ?_ (hp:=⟨rfl,rfl,wfA _⟩)
  refine qy ?_;refine m9 4 ?_;refine ra 5 true rfl rfl rfl rfl rfl rfl ?_;refine w_6 ?_;refine ⟨k + 1, ?_, ?_, ?_⟩
  · show k + 1 ≤ _;omega
  · first | omega | (dsimp only;omega)
  exact ⟨⟨⟨_,rfl,(d8 (a1r (by omega)))⟩,zy,c9,c9,c9,trivial⟩,⟨⟨_,rfl,(kf (a1r (by omega)) (CoP.refl _) (CoP.refl _))⟩,u9,trivial⟩⟩
 have h1:=of_decide_eq_false r1
 try simp only [ty] at h1
 obtain rfl:k = (ord (l.map Fd.lhs)).length:=by omega
 refine w_6 ?_;refine bt 2 rfl rfl rfl ?_
 exact hx8 rfl rfl rfl (⟨CoC.one (CoP.of_eq (by rw [List.take_length];rfl)),trivial⟩)
end Go.Hx
end
section
namespace Go.Hx
def bdx (l0:List Fd) (x:Fd) (a:Nat):Prop:=x.lhs.getLsbD a = true → imp l0 (aj1 x a) = false
def be5 (l:List Fd):Prop:=∀ f ∈ l,∃ k:Nat,f.rhs = (1:AS) <<< k
section
variable {n:Int} {l:List Fd}
end
end Go.Hx
end
section
namespace Go.Hx
open Go.Proofs
set_option maxRecDepth 100000
set_option maxHeartbeats 1000000
theorem b41:goodFn Tryz.prog 104:=⟨Tryz.f104,Tryz.func104,by kernel_rfl,by kernel_rfl⟩
theorem b21 (n:Int) (l m:List Fd) (p:AS):ae Tryz.prog 104 [.agg [.raw (.int .i64 n),fdl l,fdl m],pA p] (ai [pB (thB n l p)]):=by
 refine a8 (nt:=21) a7 Tryz.func104 rfl rfl l9 ?_;refine sx7 ?_;refine m9 0 ?_;refine w_9 ?_;refine rc rfl rfl rfl rfl rfl rfl b53 (b1f n l p) (CoL.refl _) rfl rfl ?_;refine d7 ?_
 refine bc rfl rfl (fun r0=>?_) (fun r0=>?_)
 ·
  have h0:=r0
  (iterate 2 refine qy ?_ (hg:=(gtt r0)));refine w_3 ?_
  exact hx8 rfl rfl rfl (⟨ccb (by unfold thB;first | rfl | simp_all),trivial⟩)
 have h0:=r0
 (iterate 2 refine k9 (gft r0) ?_);refine rq rfl rfl rfl rfl rfl ?_ (hp:=r0);refine w_2 ?_
 exact hx8 rfl rfl rfl (⟨ccb (by unfold thB;first | rfl | simp_all),trivial⟩)
theorem b5f:goodFn Tryz.prog 105:=⟨Tryz.f105,Tryz.func105,by kernel_rfl,by kernel_rfl⟩
theorem b1x (n:Int) (l m:List Fd) (p:AS):ae Tryz.prog 105 [.agg [.raw (.int .i64 n),fdl l,fdl m],pA p] (ai [pB (byB l p)]):=by
 refine a8 (nt:=22) a7 Tryz.func105 rfl rfl l9 ?_;refine sx7 ?_;refine m9 0 ?_;refine w_7 ?_;refine rc rfl rfl rfl rfl rfl rfl b5e (bd1 l p) (CoL.refl _) rfl rfl ?_;refine w_4 ?_;refine m9 1 ?_;refine w_9 ?_
 refine bc rfl rfl (fun r0=>?_) (fun r0=>?_)
 ·
  have h0:=r0
  have h0:=ap h0
  (iterate 2 refine qy ?_ (hg:=(gtt r0)));refine w_3 ?_
  exact hx8 rfl rfl rfl (⟨ccb (by unfold byB;first | rfl | simp_all),trivial⟩)
 have h0:=r0
 have h0:=am h0
 (iterate 2 refine k9 (gft r0) ?_);refine rq rfl rfl rfl rfl rfl ?_ (hp:=r0);refine w_2 ?_
 exact hx8 rfl rfl rfl (⟨ccb (by unfold byB;first | rfl | simp_all),trivial⟩)
theorem b15:goodFn Tryz.prog 106:=⟨Tryz.f106,Tryz.func106,by kernel_rfl,by kernel_rfl⟩
theorem au8 (n:Int) (l m:List Fd) (p:AS):ae Tryz.prog 106 [.agg [.raw (.int .i64 n),fdl l,fdl m],pA p] (ai [pB (foB n l m p)]):=by
 refine a8 (nt:=26) a7 Tryz.func106 rfl rfl l9 ?_;refine sx7 ?_;refine m9 0 ?_;refine ez ?_;refine rc rfl rfl rfl rfl rfl rfl b6n (ba4 n l m p) (CoL.refl _) rfl rfl ?_;refine w_4 ?_;refine m9 1 ?_
 refine w_9 ?_;refine bc rfl rfl (fun r0=>?_) (fun r0=>?_)
 ·
  have h0:=r0
  have h0:=ap h0
  (iterate 2 refine qy ?_ (hg:=(gtt r0)));refine w_3 ?_
  exact hx8 rfl rfl rfl (⟨ccb (by unfold foB;first | rfl | simp_all),trivial⟩)
 have h0:=r0
 have h0:=am h0
 (iterate 2 refine k9 (gft r0) ?_);refine rq rfl rfl rfl rfl rfl ?_ (hp:=r0);refine w_2 ?_
 exact hx8 rfl rfl rfl (⟨ccb (by unfold foB;first | rfl | simp_all),trivial⟩)
theorem b29:goodFn Tryz.prog 155:=⟨Tryz.f155,Tryz.func155,by kernel_rfl,by kernel_rfl⟩
theorem b4e (p:AS) (g k:Nat) (fr:Nat → PV) (V:AS → Bool) (hg:goodFn Tryz.prog g) (hV:∀ p,ae Tryz.prog g [.agg (pvN fr k 0),pA p] (ai [pB (V p)])):ae Tryz.prog 155 [pA p,pP (bx (.bnd g k fr))] (ai [pB (!V p)]):=by
 refine a8 (nt:=8) a7 Tryz.func155 rfl rfl l9 ?_;refine w_8 ?_;refine rc rfl rfl rfl rfl rfl rfl hg (hV p) (CoL.refl _) rfl rfl ?_;refine w_3 ?_
 exact hx8 rfl rfl rfl (CoL.refl _)
theorem b4o {ps:List AS} {V:AS → Bool}:(!ps.any fun p=>!V p) = ps.all V:=by rw [← List.not_all_eq_any_not,Bool.not_not]
theorem a92:goodFn Tryz.prog 103:=⟨Tryz.f103,Tryz.func103,by kernel_rfl,by kernel_rfl⟩
theorem ad0 (ps:List AS) (g k:Nat) (fr:Nat → PV) (V:AS → Bool) (hg:goodFn Tryz.prog g) (hV:∀ p,ae Tryz.prog g [.agg (pvN fr k 0),pA p] (ai [pB (V p)])):ae Tryz.prog 103 [pP (asl ps),pP (.bnd g k fr)] (ai [pB (ps.all V)]):=by
 refine a8 (nt:=9) a7 Tryz.func103 rfl rfl l9 ?_;refine sx7 ?_;refine m9 0 ?_;refine w_3 ?_;refine cg 3 rfl rfl rfl ?_;refine w_3 ?_
 refine rc rfl rfl rfl rfl rfl rfl a94 (ajb ps 155 1 (fun i=>[bx (.bnd g k fr)].getD i .any) (fun p=>!V p) b29 (fun p=>b4e p g k fr V hg hV)) (CoL.refl _) rfl rfl ?_;refine w_3 ?_
 exact hx8 rfl rfl rfl (⟨ccb b4o,trivial⟩)
theorem b95:goodFn Tryz.prog 46:=⟨Tryz.f46,Tryz.func46,by kernel_rfl,by kernel_rfl⟩
theorem bbh (n:Int) (l m:List Fd) (ps:List AS) (hl:l.length ≤ 16777216):ae Tryz.prog 46 [.agg [.raw (.int .i64 n),fdl l,fdl m],pP (asl ps)] (ai [pI (a3f n l m ps)]):=by
 refine a8 (nt:=31) a7 Tryz.func46 rfl rfl l9 ?_;refine sx7 ?_;refine m9 0 ?_;refine w_6 ?_
 refine cj (ι:=Unit) ⟨[(1,some _),(2,some _)],[(0,some _)]⟩ ⟨⟨c9,c9,trivial⟩,⟨u9,trivial⟩⟩ (fun _i=>⟨[(5,some (vI (ss (n4 l ps) false false false)))],[]⟩) (fun _i=>True) ?_ ?_
 ·
  refine w_5 ?_;refine rc rfl rfl rfl rfl rfl rfl ae2 (aw0 l ps hl) (CoL.refl _) rfl rfl ?_;refine b8 ?_;refine a6 _ rfl (fun r0=>?_) (fun r0=>?_)
  ·
   have h0:=r0
   have hA:=h0
   refine w_5 ?_;refine ⟨(), ?_, ?_⟩
   · trivial
   exact ⟨⟨⟨_,rfl,(coi (by first | exact ard hA | (rw [hA];done) | (rw [hA];rfl)))⟩,c9,c9,trivial⟩,⟨u9,trivial⟩⟩
  have h0:=r0
  have hA:=h0
  refine dp ?_;refine ⟨(), ?_, ?_⟩
  · trivial
  exact ⟨⟨⟨_,rfl,(coi (by first | exact ard hA | (rw [hA];done) | (rw [hA];rfl)))⟩,c9,c9,trivial⟩,⟨u9,trivial⟩⟩
 rintro _ _
 refine cj (ι:=Unit) ⟨[(1,some _),(2,some _)],[(0,some _)]⟩ ⟨⟨c9,c9,trivial⟩,⟨u9,trivial⟩⟩ (fun _i=>⟨[(5,some (vI (ss (n4 l ps) (ps.all (thB n l)) false false)))],[]⟩) (fun _i=>True) ?_ ?_
 ·
  refine w_5 ?_;refine rc rfl rfl rfl rfl rfl rfl a92 (ad0 ps 104 3 (fun i=>([PV.raw (.int .i64 n),fdl l,fdl m]:List PV).getD i .any) (thB n l) b41 (fun p=>b21 n l m p)) (CoL.refl _) rfl rfl ?_
  refine b8 ?_;refine a6 _ rfl (fun r1=>?_) (fun r1=>?_)
  ·
   have h1:=r1
   have hB:=h1
   refine w_5 ?_;refine ⟨(), ?_, ?_⟩
   · trivial
   exact ⟨⟨⟨_,rfl,(coi (by first | exact an9 hB | (rw [hB];done) | (rw [hB];rfl)))⟩,c9,c9,trivial⟩,⟨u9,trivial⟩⟩
  have h1:=r1
  have hB:=h1
  refine dp ?_;refine ⟨(), ?_, ?_⟩
  · trivial
  exact ⟨⟨⟨_,rfl,(coi (by first | exact an9 hB | (rw [hB];done) | (rw [hB];rfl)))⟩,c9,c9,trivial⟩,⟨u9,trivial⟩⟩
 rintro _ _
 refine cj (ι:=Unit) ⟨[(1,some _),(2,some _)],[(0,some _)]⟩ ⟨⟨c9,c9,trivial⟩,⟨u9,trivial⟩⟩ (fun _i=>⟨[(5,some (vI (ss (n4 l ps) (ps.all (thB n l)) (ps.all (byB l)) false)))],[]⟩) (fun _i=>True) ?_ ?_
 ·
  refine w_5 ?_;refine rc rfl rfl rfl rfl rfl rfl a92 (ad0 ps 105 3 (fun i=>([PV.raw (.int .i64 n),fdl l,fdl m]:List PV).getD i .any) (byB l) b5f (fun p=>b1x n l m p)) (CoL.refl _) rfl rfl ?_
  refine b8 ?_;refine a6 _ rfl (fun r2=>?_) (fun r2=>?_)
  ·
   have h2:=r2
   have hC:=h2
   refine w_5 ?_;refine ⟨(), ?_, ?_⟩
   · trivial
   exact ⟨⟨⟨_,rfl,(coi (by first | exact aoq hC | (rw [hC];done) | (rw [hC];rfl)))⟩,c9,c9,trivial⟩,⟨u9,trivial⟩⟩
  have h2:=r2
  have hC:=h2
  refine dp ?_;refine ⟨(), ?_, ?_⟩
  · trivial
  exact ⟨⟨⟨_,rfl,(coi (by first | exact aoq hC | (rw [hC];done) | (rw [hC];rfl)))⟩,c9,c9,trivial⟩,⟨u9,trivial⟩⟩
 rintro _ _
 refine cj (ι:=Unit) ⟨[],[]⟩ ⟨trivial,trivial⟩ (fun _i=>⟨[(5,some (vI (ss (n4 l ps) (ps.all (thB n l)) (ps.all (byB l)) (ps.all (foB n l m)))))],[]⟩) (fun _i=>True) ?_ ?_
 ·
  refine w_5 ?_;refine rc rfl rfl rfl rfl rfl rfl a92 (ad0 ps 106 3 (fun i=>([PV.raw (.int .i64 n),fdl l,fdl m]:List PV).getD i .any) (foB n l m) b15 (fun p=>au8 n l m p)) (CoL.refl _) rfl rfl ?_
  refine b8 ?_;refine a6 _ rfl (fun r3=>?_) (fun r3=>?_)
  ·
   have h3:=r3
   have hD:=h3
   refine w_5 ?_;refine ⟨(), ?_, ?_⟩
   · trivial
   exact ⟨⟨⟨_,rfl,(coi (by first | exact asz hD | (rw [hD];done) | (rw [hD];rfl)))⟩,trivial⟩,trivial⟩
  have h3:=r3
  have hD:=h3
  refine dp ?_;refine ⟨(), ?_, ?_⟩
  · trivial
  exact ⟨⟨⟨_,rfl,(coi (by first | exact asz hD | (rw [hD];done) | (rw [hD];rfl)))⟩,trivial⟩,trivial⟩
 rintro _ _
 refine w_5 ?_
 exact hx8 rfl rfl rfl (CoL.refl _)
theorem aok:goodFn Tryz.prog 18:=⟨Tryz.f18,Tryz.func18,by kernel_rfl,by kernel_rfl⟩
theorem aip (n:Int) (l m:List Fd) (ps:List AS):ae Tryz.prog 18 [pI n,pP (fdl l),pP (fdl m),pP (asl ps)] (ai [pI (qe n l m ps),pI (lsC n ps l m)]):=by
 refine a8 (nt:=34) a7 Tryz.func18 rfl rfl l9 ?_;refine ez ?_;refine rc rfl rfl rfl rfl rfl rfl b84 (bcs n ps l m) (CoL.refl _) rfl rfl ?_;refine fl ?_;refine a6 _ rfl (fun r0=>?_) (fun r0=>?_)
 ·
  have h0:=r0
  have h0:=of_decide_eq_false (ap h0)
  try simp only [ty] at h0
  have hr:=az5 (l:=l) (m:=m) (ps:=ps) (n:=n) h0
  refine w_6 ?_
  exact hx8 rfl rfl rfl (⟨cci hr.symm,CoC.refl _,trivial⟩)
 have h0:=r0
 have h0:=of_decide_eq_true (am h0)
 try simp only [ty] at h0
 have hls:lsC n ps l m = 0:=by assumption
 have hl:l.length ≤ 16777216:=by have:=(mi (xh hls).2).2.2.1;omega
 refine w_8 ?_;refine rc rfl rfl rfl rfl rfl rfl b95 (bbh n l m ps hl) (CoL.refl _) rfl rfl ?_;refine w_2 ?_
 refine cj (ι:=Unit) ⟨[],[]⟩ ⟨trivial,trivial⟩ (fun _i=>⟨[(12,some (vI (qe n l m ps)))],[]⟩) (fun _i=>True) ?_ ?_
 ·
  refine w_4 ?_;refine a6 _ rfl (fun r1=>?_) (fun r1=>?_)
  ·
   have h1:=r1
   have hr:=ba3 hls h1
   refine w_5 ?_;refine ⟨(), ?_, ?_⟩
   · trivial
   exact ⟨⟨⟨_,rfl,(coi hr.symm)⟩,trivial⟩,trivial⟩
  have h1:=r1
  have hr:=bb4 hls h1
  refine dp ?_;refine ⟨(), ?_, ?_⟩
  · trivial
  exact ⟨⟨⟨_,rfl,(coi hr.symm)⟩,trivial⟩,trivial⟩
 rintro _ _
 refine w_6 ?_
 exact hx8 rfl rfl rfl (⟨CoC.refl _,cci hls.symm,trivial⟩)
theorem aou:goodFn Tryz.prog 35:=⟨Tryz.f35,Tryz.func35,by kernel_rfl,by kernel_rfl⟩
theorem b02 (n:Int) (l m:List Fd) (ps:List AS):ae Tryz.prog 35 [pI n,pP (fdl l),pP (fdl m),pP (asl ps)] (ai [dsn (fuD n l m ps),pI (lsC n ps l m)]):=by
 refine a8 (nt:=45) a7 Tryz.func35 rfl rfl l9 ?_;refine sx7 ?_;refine m9 0 ?_;refine w_8 ?_;refine rc rfl rfl rfl rfl rfl rfl aok (aip n l m ps) (CoL.refl _) rfl rfl ?_;refine fl ?_
 refine a6 _ rfl (fun r0=>?_) (fun r0=>?_)
 ·
  have h0:=r0
  have h0:=of_decide_eq_false (ap h0)
  try simp only [ty] at h0
  have hr:=bci (l:=l) (m:=m) (ps:=ps) (n:=n) h0
  refine w_7 ?_
  exact hx8 rfl rfl rfl (by rw [hr];exact ⟨CoC.agg ⟨coN,CoP.refl _,coN,trivial⟩,CoC.refl _,trivial⟩)
 have h0:=r0
 have h0:=of_decide_eq_true (am h0)
 try simp only [ty] at h0
 have hls:lsC n ps l m = 0:=by assumption
 have hodd:=b2w hls
 refine w_6 ?_;refine m9 1 ?_;refine w_9 ?_;refine a6 _ rfl (fun r1=>?_) (fun r1=>?_)
 ·
  have h1:=r1
  have h1:=of_decide_eq_false (ap h1)
  try simp only [ty] at h1
  have hb:lsB n ps l m = true:=by
   cases hq:lsB n ps l m with
   | true=>rfl
   | false=>rw [hq] at hodd;exact absurd (of_decide_eq_true hodd) h1
  have hp0:=bbe hls hb
  have hr:=bd2 hls hb
  refine w_6 ?_;refine rc rfl rfl rfl rfl rfl rfl b74 (b40 n ps l m) (CoL.refl _) rfl rfl ?_;refine fl ?_;refine a6 _ rfl (fun r2=>?_) (fun r2=>?_)
  ·
   have h2:=r2
   have h2:=of_decide_eq_false (ap h2)
   try simp only [ty] at h2
   exfalso
   exact h2 hp0
  have h2:=r2
  have h2:=of_decide_eq_true (am h2)
  try simp only [ty] at h2
  refine w_7 ?_
  exact hx8 rfl rfl rfl (by rw [hr,hls];first | exact CoL.refl _ | exact ⟨CoC.agg ⟨CoP.refl _,CoP.refl _,coN,trivial⟩,CoC.refl _,trivial⟩)
 have h1:=r1
 have h1:=of_decide_eq_true (am h1)
 try simp only [ty] at h1
 have hb:lsB n ps l m = false:=by
  cases hq:lsB n ps l m with
  | false=>rfl
  | true=>rw [hq] at hodd;have hx:=of_decide_eq_false hodd;simp_all
 have hr:=bcx hls hb
 refine w_7 ?_
 exact hx8 rfl rfl rfl (by rw [hr,hls];first | exact CoL.refl _ | exact ⟨CoC.agg ⟨CoP.refl _,CoP.refl _,coN,trivial⟩,CoC.refl _,trivial⟩)
theorem a7m:goodFn Tryz.prog 31:=⟨Tryz.f31,Tryz.func31,by kernel_rfl,by kernel_rfl⟩
theorem ak4 (n:Int) (l m:List Fd):ae Tryz.prog 31 [pI n,pP (fdl l),pP (fdl m)] (ai [pI (jq n l m)]):=by
 refine a8 (nt:=17) a7 Tryz.func31 rfl rfl l9 ?_;refine d7 ?_;refine bc rfl rfl (fun r0=>?_) (fun r0=>?_)
 ·
  have h0:=of_decide_eq_true r0
  try simp only [ty] at h0
  have hk:=abi (l:=l) (m:=m) (n:=n) (.inl h0)
  (iterate 2 refine k9 (gtf r0) ?_);refine rq rfl rfl rfl rfl rfl ?_ (hp:=r0);refine b8 ?_;refine a6 _ rfl (fun _=>?_) (fun e=>by cases e);refine w_4 ?_
  exact hx8 rfl rfl rfl (⟨cci hk.symm,trivial⟩)
 have h0:=of_decide_eq_false r0
 try simp only [ty] at h0
 (iterate 2 refine qy ?_ (hg:=(gff r0)));refine w_2 ?_;refine a6 _ rfl (fun r1=>?_) (fun r1=>?_)
 ·
  have h1:=r1
  have h1:=bu r0 h1
  have h1:=of_decide_eq_true h1
  try simp only [ty] at h1
  have hk:=abi (l:=l) (m:=m) (n:=n) (.inr h1)
  refine w_4 ?_
  exact hx8 rfl rfl rfl (⟨cci hk.symm,trivial⟩)
 have h1:=r1
 have h1:=bu r0 h1
 have h1:=of_decide_eq_false h1
 try simp only [ty] at h1
 have hk:jq n l m = bw n l m:=abm (by omega)
 refine w_6 ?_;refine rc rfl rfl rfl rfl rfl rfl y4 (uc n l m) (CoL.refl _) rfl rfl ?_;refine w_2 ?_
 exact hx8 rfl rfl rfl (⟨cci hk.symm,trivial⟩)
theorem b8a:goodFn Tryz.prog 17:=⟨Tryz.f17,Tryz.func17,by kernel_rfl,by kernel_rfl⟩
theorem b5k (n:Int) (l m:List Fd):ae Tryz.prog 17 [pI n,pP (fdl l),pP (fdl m)] (ai [pI (jq n l m)]):=by
 refine a8 (nt:=17) a7 Tryz.func17 rfl rfl l9 ?_;refine d7 ?_;refine bc rfl rfl (fun r0=>?_) (fun r0=>?_)
 ·
  have h0:=of_decide_eq_true r0
  try simp only [ty] at h0
  have hk:=abi (l:=l) (m:=m) (n:=n) (.inl h0)
  (iterate 2 refine k9 (gtf r0) ?_);refine rq rfl rfl rfl rfl rfl ?_ (hp:=r0);refine b8 ?_;refine a6 _ rfl (fun _=>?_) (fun e=>by cases e);refine w_4 ?_
  exact hx8 rfl rfl rfl (⟨cci hk.symm,trivial⟩)
 have h0:=of_decide_eq_false r0
 try simp only [ty] at h0
 (iterate 2 refine qy ?_ (hg:=(gff r0)));refine w_2 ?_;refine a6 _ rfl (fun r1=>?_) (fun r1=>?_)
 ·
  have h1:=r1
  have h1:=bu r0 h1
  have h1:=of_decide_eq_true h1
  try simp only [ty] at h1
  have hk:=abi (l:=l) (m:=m) (n:=n) (.inr h1)
  refine w_4 ?_
  exact hx8 rfl rfl rfl (⟨cci hk.symm,trivial⟩)
 have h1:=r1
 have h1:=bu r0 h1
 have h1:=of_decide_eq_false h1
 try simp only [ty] at h1
 have hk:jq n l m = bw n l m:=abm (by omega)
 refine w_6 ?_;refine rc rfl rfl rfl rfl rfl rfl apl (aee n l m) (CoL.refl _) rfl rfl ?_;refine w_2 ?_
 exact hx8 rfl rfl rfl (⟨cci hk.symm,trivial⟩)
theorem af6:goodFn Tryz.prog 12:=⟨Tryz.f12,Tryz.func12,by kernel_rfl,by kernel_rfl⟩
theorem aat (n:Int) (l m:List Fd) (f:Int) (h5:¬ f = 5):ae Tryz.prog 12 [pI n,pP (fdl l),pP (fdl m),pI f] (ai [dsn (goD n l m (ju n l m f)),pI (goE n l m (ju n l m f))]):=by
 refine a8 (nt:=58) a7 Tryz.func12 rfl rfl l9 ?_;refine sx7 ?_;refine m9 0 ?_;refine w_8 ?_;refine rc rfl rfl rfl rfl rfl rfl a7m (ak4 n l m) (CoL.refl _) rfl rfl ?_;refine w_7 ?_
 refine a6 _ rfl (fun r0=>?_) (fun r0=>?_)
 ·
  have h0:=r0
  have h0:=of_decide_eq_false (ap h0)
  try simp only [ty] at h0
  have hr:=b6v (q:=ju n l m f) h0
  refine w_7 ?_
  exact hx8 rfl rfl rfl (by rw [hr.1,hr.2];exact ⟨CoC.agg ⟨coN,CoP.refl _,coN,trivial⟩,CoC.refl _,trivial⟩)
 have h0:=r0
 have h0:=of_decide_eq_true (am h0)
 try simp only [ty] at h0
 have hk:jq n l m = 0:=by assumption
 refine w_9 ?_
 refine cj (ι:=Unit) ⟨[(0,some _),(1,some _),(2,some _),(8,some _)],[(0,some _)]⟩ ⟨⟨c9,c9,c9,c9,trivial⟩,⟨u9,trivial⟩⟩ (fun _i=>⟨[(11,some (.v (.one (.p (asl (ju n l m f).1))))),(12,some (vI (ju n l m f).2))],[]⟩) (fun _i=>True) ?_ ?_
 ·
  refine d7 ?_;refine a6 _ rfl (fun r1=>?_) (fun r1=>?_)
  ·
   have h1:=of_decide_eq_true r1
   try simp only [ty] at h1
   have hf3:f = 3:=h1
   have hpp:=bc3 (n:=n) (l:=l) (m:=m) hf3
   refine w_3 ?_;refine rc rfl rfl rfl rfl rfl rfl apm (ai2 alw n l) (CoL.refl _) rfl rfl ?_;refine w_6 ?_;refine ⟨(), ?_, ?_⟩
   · trivial
   exact ⟨⟨⟨_,rfl,(by rw [hpp];first | exact CoR.refl _ | exact coN)⟩,⟨_,rfl,(by rw [hpp];exact CoR.refl _)⟩,c9,c9,c9,c9,trivial⟩,⟨u9,trivial⟩⟩
  have h1:=of_decide_eq_false r1
  try simp only [ty] at h1
  have hf3:¬ f = 3:=h1
  refine w_5 ?_;refine a6 _ rfl (fun r2=>?_) (fun r2=>?_)
  ·
   have h2:=of_decide_eq_true r2
   try simp only [ty] at h2
   have hf4:f = 4:=h2
   have hpp:=bcg (n:=n) (l:=l) (m:=m) hf3 hf4
   refine w_3 ?_;refine rc rfl rfl rfl rfl rfl rfl b6r (bcn n l) (CoL.refl _) rfl rfl ?_;refine w_6 ?_;refine ⟨(), ?_, ?_⟩
   · trivial
   exact ⟨⟨⟨_,rfl,(by rw [hpp];first | exact CoR.refl _ | exact coN)⟩,⟨_,rfl,(by rw [hpp];exact CoR.refl _)⟩,c9,c9,c9,c9,trivial⟩,⟨u9,trivial⟩⟩
  have h2:=of_decide_eq_false r2
  try simp only [ty] at h2
  have hf4:¬ f = 4:=h2
  refine w_5 ?_;refine a6 _ rfl (fun r3=>?_) (fun r3=>?_)
  ·
   have h3:=of_decide_eq_true r3
   try simp only [ty] at h3
   exfalso
   exact h5 h3
  have h3:=of_decide_eq_false r3
  try simp only [ty] at h3
  have hpp:=bcc (n:=n) (l:=l) (m:=m) hf3 hf4 h3
  refine w_3 ?_;refine ⟨(), ?_, ?_⟩
  · trivial
  exact ⟨⟨⟨_,rfl,(by rw [hpp];first | exact CoR.refl _ | exact coN)⟩,⟨_,rfl,(by rw [hpp];exact CoR.refl _)⟩,c9,c9,c9,c9,trivial⟩,⟨u9,trivial⟩⟩
 rintro _ _
 refine w_6 ?_;refine a6 _ rfl (fun r4=>?_) (fun r4=>?_)
 ·
  have h4:=r4
  have h4:=of_decide_eq_false (ap h4)
  try simp only [ty] at h4
  have hr:=b91 (q:=ju n l m f) hk h4
  refine w_7 ?_
  exact hx8 rfl rfl rfl (by rw [hr.1,hr.2];exact ⟨CoC.agg ⟨coN,CoP.refl _,coN,trivial⟩,CoC.refl _,trivial⟩)
 have h4:=r4
 have h4:=of_decide_eq_true (am h4)
 try simp only [ty] at h4
 have hr:=b7b (q:=ju n l m f) hk (by assumption)
 refine w_7 ?_;refine rc rfl rfl rfl rfl rfl rfl aou (b02 n l m (ju n l m f).1) (CoL.refl _) rfl rfl ?_;refine w_5 ?_
 exact hx8 rfl rfl rfl (by rw [hr.1,hr.2];exact CoL.refl _)
theorem aqi (n:Int) (l m:List Fd) (f:Int) (hx:¬ jq n l m = 0):ae Tryz.prog 12 [pI n,pP (fdl l),pP (fdl m),pI f] (ai [dsn ([],0,[]),pI (jq n l m)]):=by
 refine a8 (nt:=58) a7 Tryz.func12 rfl rfl l9 ?_;refine sx7 ?_;refine m9 0 ?_;refine w_8 ?_;refine rc rfl rfl rfl rfl rfl rfl a7m (ak4 n l m) (CoL.refl _) rfl rfl ?_;refine w_7 ?_
 refine a6 _ rfl (fun r0=>?_) (fun r0=>?_)
 ·
  have h0:=r0
  have h0:=of_decide_eq_false (ap h0)
  try simp only [ty] at h0
  refine w_7 ?_
  exact hx8 rfl rfl rfl (⟨CoC.agg ⟨coN,CoP.refl _,coN,trivial⟩,CoC.refl _,trivial⟩)
 have h0:=r0
 have h0:=of_decide_eq_true (am h0)
 try simp only [ty] at h0
 exfalso
 exact hx (by assumption)
theorem aoc:goodFn Tryz.prog 15:=⟨Tryz.f15,Tryz.func15,by kernel_rfl,by kernel_rfl⟩
theorem bb7 (n:Int) (l m:List Fd):ae Tryz.prog 15 [pI n,pP (fdl l),pP (fdl m)] (ai [dsn (goD n l m (m7 n l)),pI (goE n l m (m7 n l))]):=by
 refine a8 (nt:=50) a7 Tryz.func15 rfl rfl l9 ?_;refine sx7 ?_;refine m9 0 ?_;refine w_8 ?_;refine rc rfl rfl rfl rfl rfl rfl a7m (ak4 n l m) (CoL.refl _) rfl rfl ?_;refine w_7 ?_
 refine a6 _ rfl (fun r0=>?_) (fun r0=>?_)
 ·
  have h0:=r0
  have h0:=of_decide_eq_false (ap h0)
  try simp only [ty] at h0
  have hr:=b6v (q:=m7 n l) h0
  refine w_7 ?_
  exact hx8 rfl rfl rfl (by rw [hr.1,hr.2];exact ⟨CoC.agg ⟨coN,CoP.refl _,coN,trivial⟩,CoC.refl _,trivial⟩)
 have h0:=r0
 have h0:=of_decide_eq_true (am h0)
 try simp only [ty] at h0
 have hk:jq n l m = 0:=by assumption
 refine w_5 ?_;refine rc rfl rfl rfl rfl rfl rfl b9f (baf n l) (CoL.refl _) rfl rfl ?_;refine w_8 ?_
 refine cj (ι:=Unit) ⟨[(0,some _),(1,some _),(2,some _),(6,some _)],[(0,some _)]⟩ ⟨⟨c9,c9,c9,c9,trivial⟩,⟨u9,trivial⟩⟩ (fun _i=>⟨[(9,some (.v (.one (.p (asl (m7 n l).1))))),(11,some (vI (m7 n l).2))],[]⟩) (fun _i=>True) ?_ ?_
 ·
  refine w_5 ?_;refine bc rfl rfl (fun r1=>?_) (fun r1=>?_)
  ·
   have h1:=of_decide_eq_true r1
   try simp only [ty] at h1
   (iterate 2 refine qy ?_ (hg:=(gtt r1)));refine w_2 ?_;refine a6 _ rfl (fun r2=>?_) (fun r2=>?_)
   ·
    have h2:=r2
    have h2:=dc r1 h2
    have h2:=ap h2
    have hpp:=bc2 (n:=n) (l:=l) (by assumption) (by simp_all)
    refine w_3 ?_;refine rc rfl rfl rfl rfl rfl rfl apm (ai2 alw n l) (CoL.refl _) rfl rfl ?_;refine w_6 ?_;refine ⟨(), ?_, ?_⟩
    · trivial
    exact ⟨⟨⟨_,rfl,(by rw [hpp];exact CoR.refl _)⟩,⟨_,rfl,(by rw [hpp];exact CoR.refl _)⟩,c9,c9,c9,c9,trivial⟩,⟨u9,trivial⟩⟩
   have h2:=r2
   have h2:=dc r1 h2
   have h2:=am h2
   have hpp:=bct (n:=n) (l:=l) (by assumption) (by simp_all)
   refine dp ?_;refine ⟨(), ?_, ?_⟩
   · trivial
   exact ⟨⟨⟨_,rfl,(by rw [hpp];exact CoR.refl _)⟩,⟨_,rfl,(by rw [hpp];exact CoR.refl _)⟩,c9,c9,c9,c9,trivial⟩,⟨u9,trivial⟩⟩
  have h1:=of_decide_eq_false r1
  try simp only [ty] at h1
  have hpp:=bc0 (n:=n) (l:=l) h1
  (iterate 2 refine k9 (gft r1) ?_);refine rq rfl rfl rfl rfl rfl ?_ (hp:=r1);refine b8 ?_;refine a6 _ rfl (fun e=>by cases e) (fun _=>?_);refine dp ?_;refine ⟨(), ?_, ?_⟩
  · trivial
  exact ⟨⟨⟨_,rfl,(by rw [hpp];exact CoR.refl _)⟩,⟨_,rfl,(by rw [hpp];exact CoR.refl _)⟩,c9,c9,c9,c9,trivial⟩,⟨u9,trivial⟩⟩
 rintro _ _
 refine w_6 ?_;refine a6 _ rfl (fun r3=>?_) (fun r3=>?_)
 ·
  have h3:=r3
  have h3:=of_decide_eq_false (ap h3)
  try simp only [ty] at h3
  have hr:=b91 (q:=m7 n l) hk h3
  refine w_7 ?_
  exact hx8 rfl rfl rfl (by rw [hr.1,hr.2];exact ⟨CoC.agg ⟨coN,CoP.refl _,coN,trivial⟩,CoC.refl _,trivial⟩)
 have h3:=r3
 have h3:=of_decide_eq_true (am h3)
 try simp only [ty] at h3
 have hr:=b7b (q:=m7 n l) hk (by assumption)
 refine w_7 ?_;refine rc rfl rfl rfl rfl rfl rfl aou (b02 n l m (m7 n l).1) (CoL.refl _) rfl rfl ?_;refine w_5 ?_
 exact hx8 rfl rfl rfl (by rw [hr.1,hr.2];exact CoL.refl _)
theorem b7o (n:Int) (l m:List Fd) (hx:¬ jq n l m = 0):ae Tryz.prog 15 [pI n,pP (fdl l),pP (fdl m)] (ai [dsn ([],0,[]),pI (jq n l m)]):=by
 refine a8 (nt:=50) a7 Tryz.func15 rfl rfl l9 ?_;refine sx7 ?_;refine m9 0 ?_;refine w_8 ?_;refine rc rfl rfl rfl rfl rfl rfl a7m (ak4 n l m) (CoL.refl _) rfl rfl ?_;refine w_7 ?_
 refine a6 _ rfl (fun r0=>?_) (fun r0=>?_)
 ·
  have h0:=r0
  have h0:=of_decide_eq_false (ap h0)
  try simp only [ty] at h0
  refine w_7 ?_
  exact hx8 rfl rfl rfl (⟨CoC.agg ⟨coN,CoP.refl _,coN,trivial⟩,CoC.refl _,trivial⟩)
 have h0:=r0
 have h0:=of_decide_eq_true (am h0)
 try simp only [ty] at h0
 exfalso
 exact hx (by assumption)
end Go.Hx
end
section
namespace Go.Hx
open Go.Proofs
set_option maxRecDepth 100000
theorem b5i:goodFn Tryz.prog 210:=⟨Tryz.f210,Tryz.func210,by kernel_rfl,by kernel_rfl⟩
theorem bd0 (b:Bs) (g k:Nat) (caps:Nat → PV) (V:UInt8 → Bool) (hg:goodFn Tryz.prog g) (hV:∀ x,ae Tryz.prog g (pU8 x :: fp caps k 0) (ai [pB (V x)])):ae Tryz.prog 210 [pP (byl b),pP (.fn g k caps)] (ai [pI (idx V b.data.toList)]):=by
 refine a8 (nt:=19) a7 Tryz.func210 rfl rfl l9 ?_;refine ct ?_
 refine dg 0 rfl fun hn=>?_
 refine w_3 ?_;refine cj (ι:=Unit) ⟨[],[]⟩ ⟨trivial,trivial⟩ (fun _i=>⟨[],[]⟩) (fun _i=>idx V b.data.toList = -1) ?_ ?_
 ·
  refine w_7 ?_
  refine aj (ι:=Nat) ⟨[(0,some _),(1,some _),(7,some _)],[]⟩ ⟨⟨c9,c9,c9,trivial⟩,trivial⟩ (fun i=>⟨[(8,some (vI i))],[]⟩) (fun i=>i ≤ b.data.toList.length ∧ (∀ j,j < i → V (b.data.toList.getD j default) = false)) (fun i=>b.data.toList.length - i) (0) (⟨Nat.zero_le _,ck⟩) ⟨⟨zy,trivial⟩,trivial⟩ ?_
  rintro i ⟨hi,hI⟩
  refine w_5 ?_;refine a6 _ rfl (fun r0=>?_) (fun r0=>?_)
  ·
   have h0:=of_decide_eq_true r0
   try simp only [ty] at h0
   refine o0 ?_;refine rc rfl rfl rfl rfl rfl rfl hg (hV (b.data.toList.getD i default)) (CoL.refl _) rfl rfl ?_;refine b8 ?_;refine a6 _ rfl (fun r1=>?_) (fun r1=>?_)
   ·
    have h1:=r1
    refine w_5 ?_
    exact hx8 rfl rfl rfl (⟨cci (rz (i:=i) (by omega) hI h1).symm,trivial⟩)
   have h1:=r1
   refine w_5 ?_;refine ⟨i + 1, ?_, ?_, ?_⟩
   · exact ⟨by show i + 1 ≤ _;omega,br hI (h1)⟩
   · first | omega | (dsimp only;omega)
   exact ⟨⟨zy,c9,c9,c9,trivial⟩,trivial⟩
  have h0:=of_decide_eq_false r0
  try simp only [ty] at h0
  refine er ?_;refine ⟨(), ?_, ?_⟩
  · exact rr fun j hj=>hI j (by omega)
  exact ⟨trivial,trivial⟩
 rintro _ hj
 refine w_4 ?_
 exact hx8 rfl rfl rfl (⟨cci hj.symm,trivial⟩)
theorem b4f:goodFn Tryz.prog 162:=⟨Tryz.f162,Tryz.func162,by kernel_rfl,by kernel_rfl⟩
theorem bcp (b:Bs) (g k:Nat) (caps:Nat → PV) (V:UInt8 → Bool) (hg:goodFn Tryz.prog g) (hV:∀ x,ae Tryz.prog g (pU8 x :: fp caps k 0) (ai [pB (V x)])):ae Tryz.prog 162 [pP (byl b),pP (.fn g k caps)] (ai [pB (b.data.toList.any V)]):=by
 refine a8 (nt:=9) a7 Tryz.func162 rfl rfl l9 ?_;refine w_8 ?_;refine rc rfl rfl rfl rfl rfl rfl b5i (bd0 b g k caps V hg hV) (CoL.refl _) rfl rfl ?_;refine w_3 ?_
 exact hx8 rfl rfl rfl (⟨ccb vi,trivial⟩)
theorem b5n:goodFn Tryz.prog 211:=⟨Tryz.f211,Tryz.func211,by kernel_rfl,by kernel_rfl⟩
theorem bbt (l:List Bs) (s:Bs):ae Tryz.prog 211 [pP (bsl l),pS s] (ai [pI (idx (fun x=>decide (x = s)) l)]):=by
 refine a8 (nt:=19) a7 Tryz.func211 rfl rfl l9 ?_;refine ct ?_
 refine dg 0 rfl fun hn=>?_
 refine w_3 ?_;refine cj (ι:=Unit) ⟨[],[]⟩ ⟨trivial,trivial⟩ (fun _i=>⟨[],[]⟩) (fun _i=>idx (fun x=>decide (x = s)) l = -1) ?_ ?_
 ·
  refine w_7 ?_
  refine aj (ι:=Nat) ⟨[(0,some _),(1,some _),(7,some _)],[]⟩ ⟨⟨c9,c9,c9,trivial⟩,trivial⟩ (fun i=>⟨[(8,some (vI i))],[]⟩) (fun i=>i ≤ l.length ∧ (∀ j,j < i → decide (l.getD j default = s) = false)) (fun i=>l.length - i) (0) (⟨Nat.zero_le _,ck⟩) ⟨⟨zy,trivial⟩,trivial⟩ ?_
  rintro i ⟨hi,hI⟩
  refine w_5 ?_;refine a6 _ rfl (fun r0=>?_) (fun r0=>?_)
  ·
   have h0:=of_decide_eq_true r0
   try simp only [ty] at h0
   refine akn ?_;refine a6 _ rfl (fun r1=>?_) (fun r1=>?_)
   ·
    have h1:=of_decide_eq_true r1
    try simp only [ty] at h1
    refine w_5 ?_
    exact hx8 rfl rfl rfl (⟨cci (rz (p:=fun x=>decide (x = s)) (i:=i) (by omega) hI (decide_eq_true h1.symm)).symm,trivial⟩)
   have h1:=of_decide_eq_false r1
   try simp only [ty] at h1
   refine w_5 ?_;refine ⟨i + 1, ?_, ?_, ?_⟩
   · exact ⟨by show i + 1 ≤ _;omega,br hI (decide_eq_false fun e=>h1 e.symm)⟩
   · first | omega | (dsimp only;omega)
   exact ⟨⟨zy,c9,c9,c9,trivial⟩,trivial⟩
  have h0:=of_decide_eq_false r0
  try simp only [ty] at h0
  refine er ?_;refine ⟨(), ?_, ?_⟩
  · exact rr (p:=fun x=>decide (x = s)) fun j hj=>hI j (by omega)
  exact ⟨trivial,trivial⟩
 rintro _ hj
 refine w_4 ?_
 exact hx8 rfl rfl rfl (⟨cci hj.symm,trivial⟩)
theorem b2c:goodFn Tryz.prog 164:=⟨Tryz.f164,Tryz.func164,by kernel_rfl,by kernel_rfl⟩
theorem bbx (l:List Bs) (s:Bs):ae Tryz.prog 164 [pP (bsl l),pS s] (ai [pB (l.any fun x=>decide (x = s))]):=by
 refine a8 (nt:=9) a7 Tryz.func164 rfl rfl l9 ?_;refine w_8 ?_;refine rc rfl rfl rfl rfl rfl rfl b5n (bbt _ _) (CoL.refl _) rfl rfl ?_;refine w_3 ?_
 exact hx8 rfl rfl rfl (⟨ccb vi,trivial⟩)
theorem b48:goodFn Tryz.prog 163:=⟨Tryz.f163,Tryz.func163,by kernel_rfl,by kernel_rfl⟩
theorem bbi (x:UInt8):ae Tryz.prog 163 [pU8 x] (ai [pB (abs x)]):=by
 refine a8 (nt:=9) a7 Tryz.func163 rfl rfl l9 ?_;refine w_9 ?_;refine bc rfl rfl (fun r0=>?_) (fun r0=>?_)
 ·
  have h0:=of_decide_eq_true r0
  try simp only [ty] at h0
  (iterate 2 refine k9 (gtf r0) ?_);refine rq rfl rfl rfl rfl rfl ?_ (hp:=r0);refine w_2 ?_
  exact hx8 rfl rfl rfl (⟨ccb (by unfold abs;first | rfl | simp_all),trivial⟩)
 have h0:=of_decide_eq_false r0
 try simp only [ty] at h0
 (iterate 2 refine qy ?_ (hg:=(gff r0)));refine w_3 ?_
 exact hx8 rfl rfl rfl (⟨ccb (by unfold abs;first | rfl | simp_all),trivial⟩)
theorem b4r:goodFn Tryz.prog 111:=⟨Tryz.f111,Tryz.func111,by kernel_rfl,by kernel_rfl⟩
theorem bcd (l:List Bs) (hl:∀ b ∈ l,b.size ≤ maxLen):ae Tryz.prog 111 [pP (bsl l)] (ai [pI (jw l)]):=by
 refine a8 (nt:=30) a7 Tryz.func111 rfl rfl l9 ?_;refine w_6 ?_
 refine dg 0 rfl fun hn=>?_
 refine w_5 ?_;refine a6 _ rfl (fun r0=>?_) (fun r0=>?_)
 ·
  have h0:=of_decide_eq_true r0
  try simp only [ty] at h0
  have he:=bdc h0
  refine w_4 ?_
  exact hx8 rfl rfl rfl (⟨cci he.symm,trivial⟩)
 have h0:=of_decide_eq_false r0
 try simp only [ty] at h0
 refine w_9 ?_
 refine aj (ι:=Nat) ⟨[(0,some _),(8,some _),(9,some _)],[]⟩ ⟨⟨c9,c9,c9,trivial⟩,trivial⟩ (fun i=>⟨[(10,some (vI i))],[]⟩) (fun i=>i ≤ l.length ∧ (∀ j,j < i → nk l j = false)) (fun i=>l.length - i) (0) (⟨Nat.zero_le _,ck⟩) ⟨⟨zy,trivial⟩,trivial⟩ ?_
 rintro i ⟨hi,hI⟩
 refine w_5 ?_;refine a6 _ rfl (fun r1=>?_) (fun r1=>?_)
 ·
  have h1:=of_decide_eq_true r1
  try simp only [ty] at h1
  have hsz:(l.getD i default).size ≤ maxLen:=hl _ (by rw [List.getD_eq_getElem?_getD,List.getElem?_eq_getElem (by omega)];exact List.getElem_mem _)
  refine a52 ?_;refine bc rfl rfl (fun r2=>?_) (fun r2=>?_)
  ·
   have h2:=of_decide_eq_true r2
   try simp only [ty] at h2
   have hb:nk l i = true:=by unfold nk;simp_all
   (iterate 3 refine k9 (gtf r2) ?_);refine rq rfl rfl rfl rfl rfl ?_ (hp:=r2);refine qy ?_;(iterate 5 refine k9 rfl ?_);refine w_2 ?_;refine a6 _ rfl (fun _=>?_) (fun e=>by cases e);refine w_4 ?_
   exact hx8 rfl rfl rfl (⟨cci (aw9 h0 (by omega) hb).symm,trivial⟩)
  have h2:=of_decide_eq_false r2
  try simp only [ty] at h2
  refine qy ?_ (hg:=(gff r2));refine rv rfl rfl rfl rfl rfl (gff r2) ?_;refine rc rfl rfl rfl rfl rfl rfl b4f (bcp (l.getD i default) 163 0 (fun _=>.any) abs b48 bbi) (CoL.refl _) rfl (gff r2) ?_;refine w_2 ?_
  refine bc rfl rfl (fun r3=>?_) (fun r3=>?_)
  ·
   have h3:=r3
   have h3:=bu r2 h3
   have hb:nk l i = true:=by unfold nk;simp_all
   (iterate 5 refine k9 (gtf r3) ?_);refine rq rfl rfl rfl rfl rfl ?_ (hp:=r3);refine b8 ?_;refine a6 _ rfl (fun _=>?_) (fun e=>by cases e);refine w_4 ?_
   exact hx8 rfl rfl rfl (⟨cci (aw9 h0 (by omega) hb).symm,trivial⟩)
  have h3:=r3
  have h3:=bu r2 h3
  (iterate 4 refine qy ?_ (hg:=(gff r3)));refine rc rfl rfl rfl rfl rfl rfl b2c (bbx (l.take i) (l.getD i default)) (⟨CoC.one (agy (k:=i) (by omega)),CoC.refl _,trivial⟩) rfl (gff r3) ?_;refine w_2 ?_
  refine a6 _ rfl (fun r4=>?_) (fun r4=>?_)
  ·
   have h4:=r4
   have h4:=bu r3 h4
   have hb:nk l i = true:=by unfold nk;simp_all
   refine w_4 ?_
   exact hx8 rfl rfl rfl (⟨cci (aw9 h0 (by omega) hb).symm,trivial⟩)
  have h4:=r4
  have h4:=bu r3 h4
  have hb:nk l i = false:=by unfold nk;simp_all
  refine w_5 ?_;refine ⟨i + 1, ?_, ?_, ?_⟩
  · exact ⟨by show i + 1 ≤ _;omega,br hI (hb)⟩
  · first | omega | (dsimp only;omega)
  exact ⟨⟨zy,c9,c9,c9,trivial⟩,trivial⟩
 have h1:=of_decide_eq_false r1
 try simp only [ty] at h1
 obtain rfl:i = l.length:=by omega
 refine w_5 ?_
 exact hx8 rfl rfl rfl (⟨cci (bc5 h0 hI).symm,trivial⟩)
end Go.Hx
end

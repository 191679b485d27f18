/- A part of the proof: Cs44 V39 Ls9 Dw6 Dw4 Ds6 Dw7. -/
import Derived.Test.YtkkenjdfbojdlaaGreatDoorFx23
import Derived.Test.YtkkenjdfbojdlaaGreatDoorFx31
import Derived.Test.YtkkenjdfbojdlaaGreatDoorFx38
import Derived.Test.YtkkenjdfbojdlaaGreatDoorFx39
set_option linter.all false
set_option maxRecDepth 100000
set_option maxHeartbeats 1000000
namespace Go.Hx
section
def xf (l:List Fd) (z:Int):Option PV:=match l.find? (fun f=>decide (asI f.lhs = z)) with | some f=>some (asC (mgR l f.lhs)) | none=>none
def a1m (l:List Fd):MK → Option PV
 | .i .u32 z=>xf l z
 | _=>none
theorem wfA (s:AS):(Lit.int .u32 (asI s)).wf = true:=by
 have h1:=a8y s
 have h2:=a42 s
 have e1:IntKind.min .u32 = 0:=by decide
 have e2:IntKind.max .u32 = 4294967295:=by decide
 simp only [Lit.wf,e1,e2,Bool.and_eq_true,decide_eq_true_eq]
 omega
theorem av6 {l:List Fd} {s:AS} (h:∀ f ∈ l,¬ f.lhs = s):mgR l s = 0:=by
 unfold mgR
 rw [List.filter_eq_nil_iff.2 fun f hf=>by simpa using h f hf]
 rfl
theorem a8m {l:List Fd} {s:AS} {f:Fd} (h:l.find? (fun f=>decide (asI f.lhs = asI s)) = some f):f.lhs = s:=by
 have:=List.find?_some h
 exact c8.1 (of_decide_eq_true this)
theorem a9v (l:List Fd) (s:AS):a17 (a1m l) (.i .u32 (asI s)) (.int .u32 0) = asC (mgR l s):=by
 show (match xf l (asI s) with | some y=>y | none=>jg (.int .u32 0)) = _
 unfold xf
 cases h:l.find? (fun f=>decide (asI f.lhs = asI s)) with
 | some f =>
  have:=a8m h
  subst this
  rfl
 | none =>
  rw [av6 fun f hf e=>by
   have:=List.find?_eq_none.1 h f hf
   rw [e] at this
   exact this (decide_eq_true rfl)]
  rfl
theorem ar6 (m:MK):CoM none (a1m [] m):=by
 cases m with
 | i q z=>cases q <;> exact CoM.refl _
 | s b=>exact CoM.refl _
theorem aro {l:List Fd} {i:Nat} (hi:i < l.length) (z:Int):(if z = asI (l.getD i default).lhs then some (PV.raw (.int .u32 (bo .or .u32 (asI (mgR (l.take i) (l.getD i default).lhs)) (asI (l.getD i default).rhs)))) else xf (l.take i) z) = xf (l.take (i + 1)) z:=by
 unfold xf
 by_cases hz:z = asI (l.getD i default).lhs
 · subst hz
   rw [if_pos rfl,bbk hi rfl]
   cases h:(l.take (i + 1)).find? (fun f=>decide (asI f.lhs = asI (l.getD i default).lhs)) with
   | some f =>
    have:=a8m h
    rw [← this]
   | none =>
    have:=List.find?_eq_none.1 h (l.getD i default) (by rw [b5 hi];simp)
    exact absurd (decide_eq_true rfl) this
 rw [if_neg hz,b5 hi,List.find?_append]
 have hx:[l.getD i default].find? (fun f=>decide (asI f.lhs = z)) = none:=by
  rw [List.find?_cons,decide_eq_false (fun e=>hz e.symm)]
  rfl
 rw [hx,Option.or_none]
 cases h:(l.take i).find? (fun f=>decide (asI f.lhs = z)) with
 | none=>rfl
 | some f =>
  have hf0:=List.find?_some h
  have hf:asI f.lhs = z:=of_decide_eq_true hf0
  dsimp only
  rw [← b5 hi,b8k hi (fun e=>hz (by rw [e];exact hf.symm))]
theorem ap7 {l:List Fd} {i:Nat} (hi:i < l.length) (m:MK):CoM (u7 (a1m (l.take i)) (.i .u32 (asI (l.getD i default).lhs)) (.raw (.int .u32 (bo .or .u32 (asI (mgR (l.take i) (l.getD i default).lhs)) (asI (l.getD i default).rhs)))) m) (a1m (l.take (i + 1)) m):=by
 refine CoM.of_eq ?_
 unfold u7
 cases m with
 | s b=>rfl
 | i q z =>
  by_cases hq:q = .u32
  · subst hq
    show (bif (decide True && decide (z = _)) then _ else xf _ z) = xf _ z
    rw [← aro hi z]
    by_cases hz:z = asI (l.getD i default).lhs
    · rw [if_pos hz,decide_eq_true hz];rfl
    rw [if_neg hz,decide_eq_false hz];rfl
  have h1:MK.same (.i q z) (.i .u32 (asI (l.getD i default).lhs)) = false:=by
   show (decide _ && decide _) = false
   rw [decide_eq_false hq,Bool.false_and]
  rw [h1]
  cases q <;> first | rfl | exact absurd rfl hq
end
section
open Go.Proofs
theorem ara (l:List Fd) (hl:l.length ≤ 16777216):af Tryz.prog 135 [pP (fdl l)] (aj [pP (fdl (ab0 l))]):=by
 refine a8 (nt:=47) a7 Tryz.func135 rfl rfl l9 ?_;refine w_6 ?_;refine m9 0 ?_;refine wg ?_
 refine d6 4 900 true 1 46 (lf sC []) (by decide) rfl (CoP.sl rfl (.inr rfl) (fun h=>h) (fun i j hi _=>absurd hi (Nat.not_lt_zero i))) (.inr rfl) rfl ?_
 refine ah (ι:=Nat) ⟨[(3,some _),(11,some _),(12,some _)],[]⟩ ⟨⟨c9,c9,c9,trivial⟩,trivial⟩ (fun i=>⟨[(4,some (.v (.one (.ref 900 ((l.take i).map Fd.lhs).length)))),(13,some (vI i))],[(0,some (.mp (.int .u32) i (a1m (l.take i)))),(900,some (.arr true 1 46 ((l.take i).map Fd.lhs).length (lf sC ((l.take i).map Fd.lhs))))]⟩) (fun i=>i ≤ l.length) (fun i=>l.length - i) (0) (Nat.zero_le _) ⟨⟨zy,zy,trivial⟩,⟨⟨_,rfl,⟨rfl,Nat.le_refl _,ar6⟩⟩,u9,trivial⟩⟩ ?_
 rintro i hi
 have hlen:((l.take i).map Fd.lhs).length ≤ i:=by rw [List.length_map,List.length_take];omega
 refine w_5 ?_;refine a6 _ rfl (fun r0=>?_) (fun r0=>?_)
 ·
  have h0:=ae r0
  try simp only [ty] at h0
  refine w_7 ?_;refine m9 1 ?_;refine w_7 ?_
  refine rq (out:=⟨_, .v (.one (.p (asC (mgR (l.take i) (l.getD i default).lhs))))⟩) rfl rfl rfl (congrArg (fun z=>some (Out.mk _ (HR.v (HC.one (HV.p z))))) (a9v _ _)) rfl ?_ (hp:=⟨rfl,rfl,wfA _⟩);refine w_3 ?_
  refine rs rfl rfl rfl rfl rfl ?_ (hp:=⟨rfl,⟨rfl,wfA _⟩,by simp only [maxLen];omega⟩);refine w_5 ?_;refine m9 2 ?_;refine ra 3 true rfl rfl rfl rfl rfl rfl ?_;refine w_6 ?_;refine ⟨i + 1, ?_, ?_, ?_⟩
  · show i + 1 ≤ _;omega
  · first | omega | (dsimp only;omega)
  exact ⟨⟨⟨_,rfl,(ca (qo (by omega)))⟩,zy,c9,c9,c9,trivial⟩,⟨⟨_,rfl,⟨rfl,Nat.le_refl _,ap7 (by omega)⟩⟩,⟨_,rfl,(c7 (qo (by omega)) (CoP.refl _))⟩,trivial⟩⟩
 have h0:=aa r0
 try simp only [ty] at h0
 obtain rfl:i = l.length:=by omega
 rw [show (l.take l.length).map Fd.lhs = l.map Fd.lhs by rw [List.take_length],show a1m (l.take l.length) = a1m l by rw [List.take_length]]
 refine w_7 ?_;refine bi 4 rfl rfl rfl ?_
 have hol:=l7 (l.map Fd.lhs)
 rw [List.length_map] at hol
 refine w_2 ?_;refine qcx vt (a3p (l.map Fd.lhs) (by rw [List.length_map];omega)) ?_;refine w_4 ?_
 refine d6 7 901 true 2 48 (lf Fd.c []) (by decide) rfl (CoP.sl rfl (.inr rfl) (fun h=>h) (fun i j hi _=>absurd hi (Nat.not_lt_zero i))) (.inr rfl) rfl ?_
 refine ah (ι:=Nat) ⟨[(3,some _),(31,some _),(32,some _)],[(0,some _)]⟩ ⟨⟨c9,c9,c9,trivial⟩,⟨u9,trivial⟩⟩ (fun k=>⟨[(7,some (.v (.one (.ref 901 (((ord (l.map Fd.lhs)).take k).map (mgF l)).length)))),(33,some (vI k))],[(901,some (.arr true 2 48 (((ord (l.map Fd.lhs)).take k).map (mgF l)).length (lf Fd.c (((ord (l.map Fd.lhs)).take k).map (mgF l)))))]⟩) (fun k=>k ≤ (ord (l.map Fd.lhs)).length) (fun k=>(ord (l.map Fd.lhs)).length - k) (0) (Nat.zero_le _) ⟨⟨zy,zy,trivial⟩,⟨u9,trivial⟩⟩ ?_
 rintro k hk
 have hlen2:(((ord (l.map Fd.lhs)).take k).map (mgF l)).length ≤ k:=by rw [List.length_map,List.length_take];omega
 refine w_5 ?_;refine a6 _ rfl (fun r1=>?_) (fun r1=>?_)
 ·
  have h1:=ae r1
  try simp only [ty] at h1
  refine wg ?_
  refine rq (out:=⟨_, .v (.one (.p (asC (mgR l ((ord (l.map Fd.lhs)).getD k default)))))⟩) rfl rfl rfl (congrArg (fun z=>some (Out.mk _ (HR.v (HC.one (HV.p z))))) (a9v _ _)) rfl ?_ (hp:=⟨rfl,rfl,wfA _⟩)
  refine qy ?_;refine m9 4 ?_;refine ra 5 true rfl rfl rfl rfl rfl rfl ?_;refine w_6 ?_;refine ⟨k + 1, ?_, ?_, ?_⟩
  · show k + 1 ≤ _;omega
  · first | omega | (dsimp only;omega)
  exact ⟨⟨⟨_,rfl,(ca (qo (by omega)))⟩,zy,c9,c9,c9,trivial⟩,⟨⟨_,rfl,(ov (qo (by omega)) (CoP.refl _) (CoP.refl _))⟩,u9,trivial⟩⟩
 have h1:=aa r1
 try simp only [ty] at h1
 obtain rfl:k = (ord (l.map Fd.lhs)).length:=by omega
 refine w_6 ?_;refine bi 2 rfl rfl rfl ?_
 exact hx8 rfl rfl rfl (⟨CoC.one (CoP.of_eq (by rw [List.take_length];rfl)),trivial⟩)
end
section
def bd2 (l0:List Fd) (x:Fd) (a:Nat):Prop:=x.lhs.getLsbD a = true → imp l0 (alk x a) = false
def bdz (l:List Fd):Prop:=∀ f ∈ l,∃ k:Nat,f.rhs = (1:AS) <<< k
section
variable {n:Int} {l:List Fd}
end
end
section
open Go.Proofs
theorem ays:goodFn Tryz.prog 104:=wgx Tryz.func104
theorem b1t (n:Int) (l m:List Fd) (p:AS):af Tryz.prog 104 [.agg [.raw (.int .i64 n),fdl l,fdl m],pA p] (aj [pB (thB n l p)]):=by
 refine a8 (nt:=21) a7 Tryz.func104 rfl rfl l9 ?_;refine sx7 ?_;refine m9 0 ?_;refine w_9 ?_;refine qcx az4 (ayd n l p) ?_;refine dl ?_;refine b9 rfl rfl (fun r0=>?_) (fun r0=>?_)
 ·
  have h0:=r0
  (iterate 2 refine qy ?_ (hg:=(gtt r0)));refine w_3 ?_
  exact hx8 rfl rfl rfl (⟨ccb (by unfold thB;first | rfl | simp_all),trivial⟩)
 have h0:=r0
 (iterate 2 refine k9 (gft r0) ?_);refine rq rfl rfl rfl rfl rfl ?_ (hp:=r0);refine w_2 ?_
 exact hx8 rfl rfl rfl (⟨ccb (by unfold thB;first | rfl | simp_all),trivial⟩)
theorem ayh:goodFn Tryz.prog 105:=wgx Tryz.func105
theorem ayt (n:Int) (l m:List Fd) (p:AS):af Tryz.prog 105 [.agg [.raw (.int .i64 n),fdl l,fdl m],pA p] (aj [pB (byB l p)]):=by
 refine a8 (nt:=22) a7 Tryz.func105 rfl rfl l9 ?_;refine sx7 ?_;refine m9 0 ?_;refine w_7 ?_;refine qcx azx (bby l p) ?_;refine w_4 ?_;refine m9 1 ?_;refine w_9 ?_
 refine b9 rfl rfl (fun r0=>?_) (fun r0=>?_)
 ·
  have h0:=r0
  have h0:=au h0
  (iterate 2 refine qy ?_ (hg:=(gtt r0)));refine w_3 ?_
  exact hx8 rfl rfl rfl (⟨ccb (by unfold byB;first | rfl | simp_all),trivial⟩)
 have h0:=r0
 have h0:=ar h0
 (iterate 2 refine k9 (gft r0) ?_);refine rq rfl rfl rfl rfl rfl ?_ (hp:=r0);refine w_2 ?_
 exact hx8 rfl rfl rfl (⟨ccb (by unfold byB;first | rfl | simp_all),trivial⟩)
theorem ayw:goodFn Tryz.prog 106:=wgx Tryz.func106
theorem avl (n:Int) (l m:List Fd) (p:AS):af Tryz.prog 106 [.agg [.raw (.int .i64 n),fdl l,fdl m],pA p] (aj [pB (foB n l m p)]):=by
 refine a8 (nt:=26) a7 Tryz.func106 rfl rfl l9 ?_;refine sx7 ?_;refine m9 0 ?_;refine f8 ?_;refine qcx b8g (b99 n l m p) ?_;refine w_4 ?_;refine m9 1 ?_;refine w_9 ?_
 refine b9 rfl rfl (fun r0=>?_) (fun r0=>?_)
 ·
  have h0:=r0
  have h0:=au h0
  (iterate 2 refine qy ?_ (hg:=(gtt r0)));refine w_3 ?_
  exact hx8 rfl rfl rfl (⟨ccb (by unfold foB;first | rfl | simp_all),trivial⟩)
 have h0:=r0
 have h0:=ar h0
 (iterate 2 refine k9 (gft r0) ?_);refine rq rfl rfl rfl rfl rfl ?_ (hp:=r0);refine w_2 ?_
 exact hx8 rfl rfl rfl (⟨ccb (by unfold foB;first | rfl | simp_all),trivial⟩)
theorem b1q:goodFn Tryz.prog 155:=wgx Tryz.func155
theorem b0v (p:AS) (g k:Nat) (fr:Nat → PV) (V:AS → Bool) (hg:goodFn Tryz.prog g) (hV:∀ p,af Tryz.prog g [.agg (pvN fr k 0),pA p] (aj [pB (V p)])):af Tryz.prog 155 [pA p,pP (bx (.bnd g k fr))] (aj [pB (!V p)]):=by
 refine a8 (nt:=8) a7 Tryz.func155 rfl rfl l9 ?_;refine w_8 ?_;refine rc rfl rfl rfl rfl rfl rfl hg (hV p) (CoL.refl _) rfl rfl ?_;refine w_3 ?_
 exact hx8 rfl rfl rfl (CoL.refl _)
theorem b37 {ps:List AS} {V:AS → Bool}:(!ps.any fun p=>!V p) = ps.all V:=by rw [← List.not_all_eq_any_not,Bool.not_not]
theorem abg:goodFn Tryz.prog 103:=wgx Tryz.func103
theorem agc (ps:List AS) (g k:Nat) (fr:Nat → PV) (V:AS → Bool) (hg:goodFn Tryz.prog g) (hV:∀ p,af Tryz.prog g [.agg (pvN fr k 0),pA p] (aj [pB (V p)])):af Tryz.prog 103 [pP (asl ps),pP (.bnd g k fr)] (aj [pB (ps.all V)]):=by
 refine a8 (nt:=9) a7 Tryz.func103 rfl rfl l9 ?_;refine sx7 ?_;refine m9 0 ?_;refine w_3 ?_;refine cz 3 rfl rfl rfl ?_;refine w_3 ?_
 refine qcx aa3 (ale ps 155 1 (fun i=>[bx (.bnd g k fr)].getD i .any) (fun p=>!V p) b1q (fun p=>b0v p g k fr V hg hV)) ?_;refine w_3 ?_
 exact hx8 rfl rfl rfl (⟨ccb b37,trivial⟩)
theorem b6w:goodFn Tryz.prog 46:=wgx Tryz.func46
theorem b9e (n:Int) (l m:List Fd) (ps:List AS) (hl:l.length ≤ 16777216):af Tryz.prog 46 [.agg [.raw (.int .i64 n),fdl l,fdl m],pP (asl ps)] (aj [pI (a56 n l m ps)]):=by
 refine a8 (nt:=31) a7 Tryz.func46 rfl rfl l9 ?_;refine sx7 ?_;refine m9 0 ?_;refine w_6 ?_
 refine d4 (ι:=Unit) ⟨[(1,some _),(2,some _)],[(0,some _)]⟩ ⟨⟨c9,c9,trivial⟩,⟨u9,trivial⟩⟩ (fun _i=>⟨[(5,some (vI (um (nr l ps) false false false)))],[]⟩) (fun _i=>True) ?_ ?_
 ·
  refine w_5 ?_;refine qcx af0 (auj l ps hl) ?_;refine ax ?_;refine a6 _ rfl (fun r0=>?_) (fun r0=>?_)
  ·
   have h0:=r0
   have hA:=h0
   refine w_5 ?_;refine ⟨(), ?_, ?_⟩
   · trivial
   exact ⟨⟨⟨_,rfl,(coi (by first | exact anm hA | (rw [hA];done) | (rw [hA];rfl)))⟩,c9,c9,trivial⟩,⟨u9,trivial⟩⟩
  have h0:=r0
  have hA:=h0
  refine dn ?_;refine ⟨(), ?_, ?_⟩
  · trivial
  exact ⟨⟨⟨_,rfl,(coi (by first | exact anm hA | (rw [hA];done) | (rw [hA];rfl)))⟩,c9,c9,trivial⟩,⟨u9,trivial⟩⟩
 rintro _ _
 refine d4 (ι:=Unit) ⟨[(1,some _),(2,some _)],[(0,some _)]⟩ ⟨⟨c9,c9,trivial⟩,⟨u9,trivial⟩⟩ (fun _i=>⟨[(5,some (vI (um (nr l ps) (ps.all (thB n l)) false false)))],[]⟩) (fun _i=>True) ?_ ?_
 ·
  refine w_5 ?_;refine qcx abg (agc ps 104 3 (fun i=>([PV.raw (.int .i64 n),fdl l,fdl m]:List PV).getD i .any) (thB n l) ays (fun p=>b1t n l m p)) ?_;refine ax ?_
  refine a6 _ rfl (fun r1=>?_) (fun r1=>?_)
  ·
   have h1:=r1
   have hB:=h1
   refine w_5 ?_;refine ⟨(), ?_, ?_⟩
   · trivial
   exact ⟨⟨⟨_,rfl,(coi (by first | exact aqb hB | (rw [hB];done) | (rw [hB];rfl)))⟩,c9,c9,trivial⟩,⟨u9,trivial⟩⟩
  have h1:=r1
  have hB:=h1
  refine dn ?_;refine ⟨(), ?_, ?_⟩
  · trivial
  exact ⟨⟨⟨_,rfl,(coi (by first | exact aqb hB | (rw [hB];done) | (rw [hB];rfl)))⟩,c9,c9,trivial⟩,⟨u9,trivial⟩⟩
 rintro _ _
 refine d4 (ι:=Unit) ⟨[(1,some _),(2,some _)],[(0,some _)]⟩ ⟨⟨c9,c9,trivial⟩,⟨u9,trivial⟩⟩ (fun _i=>⟨[(5,some (vI (um (nr l ps) (ps.all (thB n l)) (ps.all (byB l)) false)))],[]⟩) (fun _i=>True) ?_ ?_
 ·
  refine w_5 ?_;refine qcx abg (agc ps 105 3 (fun i=>([PV.raw (.int .i64 n),fdl l,fdl m]:List PV).getD i .any) (byB l) ayh (fun p=>ayt n l m p)) ?_;refine ax ?_
  refine a6 _ rfl (fun r2=>?_) (fun r2=>?_)
  ·
   have h2:=r2
   have hC:=h2
   refine w_5 ?_;refine ⟨(), ?_, ?_⟩
   · trivial
   exact ⟨⟨⟨_,rfl,(coi (by first | exact arx hC | (rw [hC];done) | (rw [hC];rfl)))⟩,c9,c9,trivial⟩,⟨u9,trivial⟩⟩
  have h2:=r2
  have hC:=h2
  refine dn ?_;refine ⟨(), ?_, ?_⟩
  · trivial
  exact ⟨⟨⟨_,rfl,(coi (by first | exact arx hC | (rw [hC];done) | (rw [hC];rfl)))⟩,c9,c9,trivial⟩,⟨u9,trivial⟩⟩
 rintro _ _
 refine d4 (ι:=Unit) ⟨[],[]⟩ ⟨trivial,trivial⟩ (fun _i=>⟨[(5,some (vI (um (nr l ps) (ps.all (thB n l)) (ps.all (byB l)) (ps.all (foB n l m)))))],[]⟩) (fun _i=>True) ?_ ?_
 ·
  refine w_5 ?_;refine qcx abg (agc ps 106 3 (fun i=>([PV.raw (.int .i64 n),fdl l,fdl m]:List PV).getD i .any) (foB n l m) ayw (fun p=>avl n l m p)) ?_;refine ax ?_
  refine a6 _ rfl (fun r3=>?_) (fun r3=>?_)
  ·
   have h3:=r3
   have hD:=h3
   refine w_5 ?_;refine ⟨(), ?_, ?_⟩
   · trivial
   exact ⟨⟨⟨_,rfl,(coi (by first | exact aq9 hD | (rw [hD];done) | (rw [hD];rfl)))⟩,trivial⟩,trivial⟩
  have h3:=r3
  have hD:=h3
  refine dn ?_;refine ⟨(), ?_, ?_⟩
  · trivial
  exact ⟨⟨⟨_,rfl,(coi (by first | exact aq9 hD | (rw [hD];done) | (rw [hD];rfl)))⟩,trivial⟩,trivial⟩
 rintro _ _
 refine w_5 ?_
 exact hx8 rfl rfl rfl (CoL.refl _)
theorem b6l:goodFn Tryz.prog 18:=wgx Tryz.func18
theorem b0h (n:Int) (l m:List Fd) (ps:List AS):af Tryz.prog 18 [pI n,pP (fdl l),pP (fdl m),pP (asl ps)] (aj [pI (uh n l m ps),pI (lsC n ps l m)]):=by
 refine a8 (nt:=34) a7 Tryz.func18 rfl rfl l9 ?_;refine f8 ?_;refine qcx b8f (bc0 n ps l m) ?_;refine fc ?_;refine a6 _ rfl (fun r0=>?_) (fun r0=>?_)
 ·
  have h0:=r0
  have h0:=aa (au h0)
  try simp only [ty] at h0
  have hr:=b92 (l:=l) (m:=m) (ps:=ps) (n:=n) h0
  refine w_6 ?_
  exact hx8 rfl rfl rfl (⟨cci hr.symm,CoC.refl _,trivial⟩)
 have h0:=r0
 have h0:=ae (ar h0)
 try simp only [ty] at h0
 have hls:lsC n ps l m = 0:=by assumption
 have hl:l.length ≤ 16777216:=by have:=(m8 (a3w hls).2).2.2.1;omega
 refine w_8 ?_;refine qcx b6w (b9e n l m ps hl) ?_;refine w_2 ?_;refine d4 (ι:=Unit) ⟨[],[]⟩ ⟨trivial,trivial⟩ (fun _i=>⟨[(12,some (vI (uh n l m ps)))],[]⟩) (fun _i=>True) ?_ ?_
 ·
  refine w_4 ?_;refine a6 _ rfl (fun r1=>?_) (fun r1=>?_)
  ·
   have h1:=r1
   have hr:=bas hls h1
   refine w_5 ?_;refine ⟨(), ?_, ?_⟩
   · trivial
   exact ⟨⟨⟨_,rfl,(coi hr.symm)⟩,trivial⟩,trivial⟩
  have h1:=r1
  have hr:=ba2 hls h1
  refine dn ?_;refine ⟨(), ?_, ?_⟩
  · trivial
  exact ⟨⟨⟨_,rfl,(coi hr.symm)⟩,trivial⟩,trivial⟩
 rintro _ _
 refine w_6 ?_
 exact hx8 rfl rfl rfl (⟨CoC.refl _,cci hls.symm,trivial⟩)
theorem ar4:goodFn Tryz.prog 35:=wgx Tryz.func35
theorem axd (n:Int) (l m:List Fd) (ps:List AS):af Tryz.prog 35 [pI n,pP (fdl l),pP (fdl m),pP (asl ps)] (aj [dsn (fuD n l m ps),pI (lsC n ps l m)]):=by
 refine a8 (nt:=45) a7 Tryz.func35 rfl rfl l9 ?_;refine sx7 ?_;refine m9 0 ?_;refine w_8 ?_;refine qcx b6l (b0h n l m ps) ?_;refine fc ?_;refine a6 _ rfl (fun r0=>?_) (fun r0=>?_)
 ·
  have h0:=r0
  have h0:=aa (au h0)
  try simp only [ty] at h0
  have hr:=bc5 (l:=l) (m:=m) (ps:=ps) (n:=n) h0
  refine w_7 ?_
  exact hx8 rfl rfl rfl (by rw [hr];exact ⟨CoC.agg ⟨coN,CoP.refl _,coN,trivial⟩,CoC.refl _,trivial⟩)
 have h0:=r0
 have h0:=ae (ar h0)
 try simp only [ty] at h0
 have hls:lsC n ps l m = 0:=by assumption
 have hodd:=ayr hls
 refine w_6 ?_;refine m9 1 ?_;refine w_9 ?_;refine a6 _ rfl (fun r1=>?_) (fun r1=>?_)
 ·
  have h1:=r1
  have h1:=aa (au h1)
  try simp only [ty] at h1
  have hb:lsB n ps l m = true:=by
   cases hq:lsB n ps l m with
   | true=>rfl
   | false=>rw [hq] at hodd;exact absurd (ae hodd) h1
  have hp0:=baq hls hb
  have hr:=bck hls hb
  refine w_6 ?_;refine qcx b89 (aye n ps l m) ?_;refine fc ?_;refine a6 _ rfl (fun r2=>?_) (fun r2=>?_)
  ·
   have h2:=r2
   have h2:=aa (au h2)
   try simp only [ty] at h2
   exfalso
   exact h2 hp0
  have h2:=r2
  have h2:=ae (ar h2)
  try simp only [ty] at h2
  refine w_7 ?_
  exact hx8 rfl rfl rfl (by rw [hr,hls];first | exact CoL.refl _ | exact ⟨CoC.agg ⟨CoP.refl _,CoP.refl _,coN,trivial⟩,CoC.refl _,trivial⟩)
 have h1:=r1
 have h1:=ae (ar h1)
 try simp only [ty] at h1
 have hb:lsB n ps l m = false:=by
  cases hq:lsB n ps l m with
  | false=>rfl
  | true=>rw [hq] at hodd;have hx:=aa hodd;simp_all
 have hr:=bbs hls hb
 refine w_7 ?_
 exact hx8 rfl rfl rfl (by rw [hr,hls];first | exact CoL.refl _ | exact ⟨CoC.agg ⟨CoP.refl _,CoP.refl _,coN,trivial⟩,CoC.refl _,trivial⟩)
theorem asc:goodFn Tryz.prog 31:=wgx Tryz.func31
theorem b6d (n:Int) (l m:List Fd):af Tryz.prog 31 [pI n,pP (fdl l),pP (fdl m)] (aj [pI (su n l m)]):=by
 refine a8 (nt:=17) a7 Tryz.func31 rfl rfl l9 ?_;refine dl ?_;refine b9 rfl rfl (fun r0=>?_) (fun r0=>?_)
 ·
  have h0:=ae r0
  try simp only [ty] at h0
  have hk:=aya (l:=l) (m:=m) (n:=n) (.inl h0)
  (iterate 2 refine k9 (gtf r0) ?_);refine rq rfl rfl rfl rfl rfl ?_ (hp:=r0);refine ax ?_;refine a6 _ rfl (fun _=>?_) (fun e=>by cases e);refine w_4 ?_
  exact hx8 rfl rfl rfl (⟨cci hk.symm,trivial⟩)
 have h0:=aa r0
 try simp only [ty] at h0
 (iterate 2 refine qy ?_ (hg:=(gff r0)));refine w_2 ?_;refine a6 _ rfl (fun r1=>?_) (fun r1=>?_)
 ·
  have h1:=r1
  have h1:=c6 r0 h1
  have h1:=ae h1
  try simp only [ty] at h1
  have hk:=aya (l:=l) (m:=m) (n:=n) (.inr h1)
  refine w_4 ?_
  exact hx8 rfl rfl rfl (⟨cci hk.symm,trivial⟩)
 have h1:=r1
 have h1:=c6 r0 h1
 have h1:=aa h1
 try simp only [ty] at h1
 have hk:su n l m = d9 n l m:=b9h (by omega)
 refine w_6 ?_;refine qcx zq (vw n l m) ?_;refine w_2 ?_
 exact hx8 rfl rfl rfl (⟨cci hk.symm,trivial⟩)
theorem aoj:goodFn Tryz.prog 12:=wgx Tryz.func12
theorem ac0 (n:Int) (l m:List Fd) (f:Int) (h5:¬ f = 5):af Tryz.prog 12 [pI n,pP (fdl l),pP (fdl m),pI f] (aj [dsn (goD n l m (kj n l m f)),pI (goE n l m (kj n l m f))]):=by
 refine a8 (nt:=58) a7 Tryz.func12 rfl rfl l9 ?_;refine sx7 ?_;refine m9 0 ?_;refine w_8 ?_;refine qcx asc (b6d n l m) ?_;refine w_7 ?_;refine a6 _ rfl (fun r0=>?_) (fun r0=>?_)
 ·
  have h0:=r0
  have h0:=aa (au h0)
  try simp only [ty] at h0
  have hr:=b7e (q:=kj n l m f) h0
  refine w_7 ?_
  exact hx8 rfl rfl rfl (by rw [hr.1,hr.2];exact ⟨CoC.agg ⟨coN,CoP.refl _,coN,trivial⟩,CoC.refl _,trivial⟩)
 have h0:=r0
 have h0:=ae (ar h0)
 try simp only [ty] at h0
 have hk:su n l m = 0:=by assumption
 refine w_9 ?_
 refine d4 (ι:=Unit) ⟨[(0,some _),(1,some _),(2,some _),(8,some _)],[(0,some _)]⟩ ⟨⟨c9,c9,c9,c9,trivial⟩,⟨u9,trivial⟩⟩ (fun _i=>⟨[(11,some (.v (.one (.p (asl (kj n l m f).1))))),(12,some (vI (kj n l m f).2))],[]⟩) (fun _i=>True) ?_ ?_
 ·
  refine dl ?_;refine a6 _ rfl (fun r1=>?_) (fun r1=>?_)
  ·
   have h1:=ae r1
   try simp only [ty] at h1
   have hf3:f = 3:=h1
   have hpp:=bc4 (n:=n) (l:=l) (m:=m) hf3
   refine w_3 ?_;refine qcx ap5 (akb ara n l) ?_;refine w_6 ?_;refine ⟨(), ?_, ?_⟩
   · trivial
   exact ⟨⟨⟨_,rfl,(by rw [hpp];first | exact CoR.refl _ | exact coN)⟩,⟨_,rfl,(by rw [hpp];exact CoR.refl _)⟩,c9,c9,c9,c9,trivial⟩,⟨u9,trivial⟩⟩
  have h1:=aa r1
  try simp only [ty] at h1
  have hf3:¬ f = 3:=h1
  refine w_5 ?_;refine a6 _ rfl (fun r2=>?_) (fun r2=>?_)
  ·
   have h2:=ae r2
   try simp only [ty] at h2
   have hf4:f = 4:=h2
   have hpp:=bc2 (n:=n) (l:=l) (m:=m) hf3 hf4
   refine w_3 ?_;refine qcx b4g (bcm n l) ?_;refine w_6 ?_;refine ⟨(), ?_, ?_⟩
   · trivial
   exact ⟨⟨⟨_,rfl,(by rw [hpp];first | exact CoR.refl _ | exact coN)⟩,⟨_,rfl,(by rw [hpp];exact CoR.refl _)⟩,c9,c9,c9,c9,trivial⟩,⟨u9,trivial⟩⟩
  have h2:=aa r2
  try simp only [ty] at h2
  have hf4:¬ f = 4:=h2
  refine w_5 ?_;refine a6 _ rfl (fun r3=>?_) (fun r3=>?_)
  ·
   have h3:=ae r3
   try simp only [ty] at h3
   exfalso
   exact h5 h3
  have h3:=aa r3
  try simp only [ty] at h3
  have hpp:=bbz (n:=n) (l:=l) (m:=m) hf3 hf4 h3
  refine w_3 ?_;refine ⟨(), ?_, ?_⟩
  · trivial
  exact ⟨⟨⟨_,rfl,(by rw [hpp];first | exact CoR.refl _ | exact coN)⟩,⟨_,rfl,(by rw [hpp];exact CoR.refl _)⟩,c9,c9,c9,c9,trivial⟩,⟨u9,trivial⟩⟩
 rintro _ _
 refine w_6 ?_;refine a6 _ rfl (fun r4=>?_) (fun r4=>?_)
 ·
  have h4:=r4
  have h4:=aa (au h4)
  try simp only [ty] at h4
  have hr:=b5x (q:=kj n l m f) hk h4
  refine w_7 ?_
  exact hx8 rfl rfl rfl (by rw [hr.1,hr.2];exact ⟨CoC.agg ⟨coN,CoP.refl _,coN,trivial⟩,CoC.refl _,trivial⟩)
 have h4:=r4
 have h4:=ae (ar h4)
 try simp only [ty] at h4
 have hr:=b4f (q:=kj n l m f) hk (by assumption)
 refine w_7 ?_;refine qcx ar4 (axd n l m (kj n l m f).1) ?_;refine w_5 ?_
 exact hx8 rfl rfl rfl (by rw [hr.1,hr.2];exact CoL.refl _)
theorem b7z:goodFn Tryz.prog 15:=wgx Tryz.func15
theorem b9m (n:Int) (l m:List Fd):af Tryz.prog 15 [pI n,pP (fdl l),pP (fdl m)] (aj [dsn (goD n l m (mn n l)),pI (goE n l m (mn n l))]):=by
 refine a8 (nt:=50) a7 Tryz.func15 rfl rfl l9 ?_;refine sx7 ?_;refine m9 0 ?_;refine w_8 ?_;refine qcx asc (b6d n l m) ?_;refine w_7 ?_;refine a6 _ rfl (fun r0=>?_) (fun r0=>?_)
 ·
  have h0:=r0
  have h0:=aa (au h0)
  try simp only [ty] at h0
  have hr:=b7e (q:=mn n l) h0
  refine w_7 ?_
  exact hx8 rfl rfl rfl (by rw [hr.1,hr.2];exact ⟨CoC.agg ⟨coN,CoP.refl _,coN,trivial⟩,CoC.refl _,trivial⟩)
 have h0:=r0
 have h0:=ae (ar h0)
 try simp only [ty] at h0
 have hk:su n l m = 0:=by assumption
 refine w_5 ?_;refine qcx b5l (bak n l) ?_;refine w_8 ?_
 refine d4 (ι:=Unit) ⟨[(0,some _),(1,some _),(2,some _),(6,some _)],[(0,some _)]⟩ ⟨⟨c9,c9,c9,c9,trivial⟩,⟨u9,trivial⟩⟩ (fun _i=>⟨[(9,some (.v (.one (.p (asl (mn n l).1))))),(11,some (vI (mn n l).2))],[]⟩) (fun _i=>True) ?_ ?_
 ·
  refine w_5 ?_;refine b9 rfl rfl (fun r1=>?_) (fun r1=>?_)
  ·
   have h1:=ae r1
   try simp only [ty] at h1
   (iterate 2 refine qy ?_ (hg:=(gtt r1)));refine w_2 ?_;refine a6 _ rfl (fun r2=>?_) (fun r2=>?_)
   ·
    have h2:=r2
    have h2:=du r1 h2
    have h2:=au h2
    have hpp:=bci (n:=n) (l:=l) (by assumption) (by simp_all)
    refine w_3 ?_;refine qcx ap5 (akb ara n l) ?_;refine w_6 ?_;refine ⟨(), ?_, ?_⟩
    · trivial
    exact ⟨⟨⟨_,rfl,(by rw [hpp];exact CoR.refl _)⟩,⟨_,rfl,(by rw [hpp];exact CoR.refl _)⟩,c9,c9,c9,c9,trivial⟩,⟨u9,trivial⟩⟩
   have h2:=r2
   have h2:=du r1 h2
   have h2:=ar h2
   have hpp:=bb8 (n:=n) (l:=l) (by assumption) (by simp_all)
   refine dn ?_;refine ⟨(), ?_, ?_⟩
   · trivial
   exact ⟨⟨⟨_,rfl,(by rw [hpp];exact CoR.refl _)⟩,⟨_,rfl,(by rw [hpp];exact CoR.refl _)⟩,c9,c9,c9,c9,trivial⟩,⟨u9,trivial⟩⟩
  have h1:=aa r1
  try simp only [ty] at h1
  have hpp:=bbc (n:=n) (l:=l) h1
  (iterate 2 refine k9 (gft r1) ?_);refine rq rfl rfl rfl rfl rfl ?_ (hp:=r1);refine ax ?_;refine a6 _ rfl (fun e=>by cases e) (fun _=>?_);refine dn ?_;refine ⟨(), ?_, ?_⟩
  · trivial
  exact ⟨⟨⟨_,rfl,(by rw [hpp];exact CoR.refl _)⟩,⟨_,rfl,(by rw [hpp];exact CoR.refl _)⟩,c9,c9,c9,c9,trivial⟩,⟨u9,trivial⟩⟩
 rintro _ _
 refine w_6 ?_;refine a6 _ rfl (fun r3=>?_) (fun r3=>?_)
 ·
  have h3:=r3
  have h3:=aa (au h3)
  try simp only [ty] at h3
  have hr:=b5x (q:=mn n l) hk h3
  refine w_7 ?_
  exact hx8 rfl rfl rfl (by rw [hr.1,hr.2];exact ⟨CoC.agg ⟨coN,CoP.refl _,coN,trivial⟩,CoC.refl _,trivial⟩)
 have h3:=r3
 have h3:=ae (ar h3)
 try simp only [ty] at h3
 have hr:=b4f (q:=mn n l) hk (by assumption)
 refine w_7 ?_;refine qcx ar4 (axd n l m (mn n l).1) ?_;refine w_5 ?_
 exact hx8 rfl rfl rfl (by rw [hr.1,hr.2];exact CoL.refl _)
end
section
open Go.Proofs
theorem aqu:goodFn Tryz.prog 23:=wgx Tryz.func23
theorem ajj (ns:List Bs) (l m:List Fd) (ps:List AS) (c:Int) (sts:PV) (hsz:∀ b ∈ ns,b.size ≤ 1000):af Tryz.prog 23 [pP (bsl ns),pP (fdl l),pP (fdl m), .agg [asl ps, .raw (.int .i64 c),sts]] (aj [pS (a6l ns l m ps c),pI (pg ns l m ps)]):=by
 refine a8 (nt:=128) a7 Tryz.func23 rfl rfl l9 ?_;refine sx7 ?_;refine m9 0 ?_;refine m9 1 ?_;refine w_7 ?_;refine qcx b62 (b3x ns (fun b hb=>Nat.le_trans (hsz b hb) (by decide))) ?_;refine f8 ?_
 refine a6 _ rfl (fun r0=>?_) (fun r0=>?_)
 ·
  have h0:=r0
  have h0:=aa (au h0)
  try simp only [ty] at h0
  refine w_7 ?_;refine ⟨.inr rfl, ?_⟩
  have hr:=apm (l:=l) (m:=m) (ps:=ps) (c:=c) h0
  exact f9 rfl rfl (⟨CoC.one (CoP.of_eq (by rw [hr.2];rfl)),cci hr.1.symm,trivial⟩)
 have h0:=r0
 have h0:=ae (ar h0)
 try simp only [ty] at h0
 refine kf ?_;refine qcx ast (al4 ns.length ps) ?_;refine w_7 ?_;refine a6 _ rfl (fun r1=>?_) (fun r1=>?_)
 ·
  have h1:=r1
  have h1:=aa (au h1)
  try simp only [ty] at h1
  refine w_7 ?_;refine ⟨.inr rfl, ?_⟩
  have hr:=asb (l:=l) (m:=m) (c:=c) h0 h1
  exact f9 rfl rfl (⟨CoC.one (CoP.of_eq (by rw [hr.2];rfl)),cci hr.1.symm,trivial⟩)
 have h1:=r1
 have h1:=ae (ar h1)
 try simp only [ty] at h1
 refine w_7 ?_;refine qcx zq (vw ns.length l m) ?_;refine w_7 ?_;refine a6 _ rfl (fun r2=>?_) (fun r2=>?_)
 ·
  have h2:=r2
  have h2:=aa (au h2)
  try simp only [ty] at h2
  refine w_7 ?_;refine ⟨.inr rfl, ?_⟩
  have hr:=aru (c:=c) h0 h1 h2
  exact f9 rfl rfl (⟨CoC.one (CoP.of_eq (by rw [hr.2];rfl)),cci hr.1.symm,trivial⟩)
 have h2:=r2
 have h2:=ae (ar h2)
 try simp only [ty] at h2
 refine w_2 ?_;refine cz 4 rfl rfl rfl ?_;refine cz 7 rfl rfl rfl ?_
 have he:j6 ns = 0:=h0
 have hv:lvE ns.length ps = 0:=h1
 have hb:d9 ns.length l m = 0:=h2
 obtain ⟨hn0,hn8,h64,_,_⟩:=n3 hv
 obtain ⟨_,_,hl64,hall,_,_⟩:=m8 hb
 have hx:=axw hsz
 have hP:∀ i,(d7 ns l ps i).length ≤ 134400000000:=fun i=>a89 hsz (fun p hp=>a14 hv hp) h64
 have hin:∀ f ∈ l,sub f.lhs (aq ns.length) ∧ sub f.rhs (aq ns.length):=fun f hf=>by
  have:=(aj5 hn0 (by omega)).1 (List.all_eq_true.1 hall f hf)
  exact ⟨it sg this,it wh this⟩
 have hmem:∀ s,sub s (aq ns.length) → ∀ i ∈ ap s,i < ns.length:=fun s hs i hi=>aiw (by omega) hs hi
 refine w_6 ?_;refine m9 2 ?_;refine dl ?_
 refine ah (ι:=Nat) ⟨[(1,some _),(7,some _),(15,some _),(16,some _),(51,some _),(52,some _)],[]⟩ ⟨⟨c9,c9,c9,c9,c9,c9,trivial⟩,trivial⟩ (fun i=>⟨[(53,some (vI i))],[(2,some (bd false (d7 ns l ps i)))]⟩) (fun i=>i ≤ ps.length) (fun i=>ps.length - i) (0) (Nat.zero_le _) ⟨⟨zy,trivial⟩,⟨⟨_,rfl,⟨fun h=>(by cases h),rfl,rfl,rfl⟩⟩,trivial⟩⟩ ?_
 rintro i hi
 refine w_5 ?_;refine a6 _ rfl (fun r3=>?_) (fun r3=>?_)
 ·
  have h3:=ae r3
  try simp only [ty] at h3
  have hil:i < ps.length:=by omega
  have hmp:(ps.getD i default) ∈ ps:=cu hil
  have hps:sub (ps.getD i default) (aq ns.length):=a9g hv hmp
  refine kf ?_;refine qcx a9w (ads (ps.getD i default) ns (hmem _ hps) hsz) ?_;refine rq rfl rfl rfl rfl rfl ?_ (hp:=(by have h2:=hx (ps.getD i default);show 5 + _ ≤ _;omega))
  refine rq rfl rfl rfl rfl rfl ?_ (hp:=(by have h2:=hx (ps.getD i default);rw [szA];show 5 + _ + 5 ≤ _;omega))
  refine bf rfl rfl rfl rfl rfl rfl o9 (od 2 false (d7 ns l ps i) ((⟨#[112,97,114,116,32]⟩ ++ txT ns (ps.getD i default)) ++ ⟨#[32,107,101,121,115]⟩) (by have h1:=hP i;have h2:=hx (ps.getD i default);rw [szA,szA];show _ + (5 + _ + 5) ≤ _;omega)) (da.refl _) ⟨u9,trivial⟩ rfl rfl ?_
  refine w_6 ?_;refine qcx b5m (cPk l (ps.getD i default)) ?_;refine w_4 ?_
  refine ah (ι:=Nat) ⟨[(1,some _),(7,some _),(15,some _),(16,some _),(51,some _),(52,some _),(53,some _),(65,some _),(66,some _)],[]⟩ ⟨⟨c9,c9,c9,c9,c9,c9,c9,c9,c9,trivial⟩,trivial⟩ (fun k=>⟨[(67,some (vI k))],[(2,some (bd false (((d7 ns l ps i) ++ k6 ns (ps.getD i default)) ++ io ns (pkL l (ps.getD i default)) k)))]⟩) (fun k=>k ≤ (pkL l (ps.getD i default)).length) (fun k=>(pkL l (ps.getD i default)).length - k) (0) (Nat.zero_le _) ⟨⟨zy,trivial⟩,⟨⟨_,rfl,(CoO.of_eq (by rw [b0n]))⟩,trivial⟩⟩ ?_
  rintro k hk
  refine w_5 ?_;refine a6 _ rfl (fun r4=>?_) (fun r4=>?_)
  ·
   have h4:=ae r4
   try simp only [ty] at h4
   have hkk:k < (pkL l (ps.getD i default)).length:=by omega
   have hkey:sub ((pkL l (ps.getD i default)).getD k default) (aq ns.length):=it (apy (cu hkk)) hps
   have hpl:=yu (l:=l) (a14 hv hmp)
   refine fc ?_;refine qcx a9w (ads ((pkL l (ps.getD i default)).getD k default) ns (hmem _ hkey) hsz) ?_
   refine rq rfl rfl rfl rfl rfl ?_ (hp:=(by have h2:=hx ((pkL l (ps.getD i default)).getD k default);show 1 + _ ≤ _;omega))
   refine bf rfl rfl rfl rfl rfl rfl o9 (od 2 false (((d7 ns l ps i) ++ k6 ns (ps.getD i default)) ++ io ns (pkL l (ps.getD i default)) k) (⟨#[32]⟩ ++ txT ns ((pkL l (ps.getD i default)).getD k default)) (by have h1:=hP i;have h2:=hx ((pkL l (ps.getD i default)).getD k default);have h3:=xr hsz (ps.getD i default);have h4:=xu (i:=k) (ks:=(pkL l (ps.getD i default))) hsz;have h5:=yu (l:=l) (a14 hv hmp);rw [szA,List.length_append,List.length_append];show _ + (1 + _) ≤ _;omega)) (da.refl _) ⟨u9,trivial⟩ rfl rfl ?_
   refine w_5 ?_;refine ⟨k + 1, ?_, ?_, ?_⟩
   · show k + 1 ≤ _;omega
   · first | omega | (dsimp only;omega)
   exact ⟨⟨zy,c9,c9,c9,c9,c9,c9,c9,c9,c9,trivial⟩,⟨⟨_,rfl,(CoO.of_eq (by rw [b5c hkk]))⟩,trivial⟩⟩
  have h4:=aa r4
  try simp only [ty] at h4
  obtain rfl:k = (pkL l (ps.getD i default)).length:=by omega
  refine w_2 ?_
  refine bf rfl rfl rfl rfl rfl rfl o9 (od 2 false (((d7 ns l ps i) ++ k6 ns (ps.getD i default)) ++ io ns (pkL l (ps.getD i default)) (pkL l (ps.getD i default)).length) ⟨#[10]⟩ (by have h1:=hP i;have h3:=xr hsz (ps.getD i default);have h4:=xu (i:=(pkL l (ps.getD i default)).length) (ks:=(pkL l (ps.getD i default))) hsz;have h5:=yu (l:=l) (a14 hv hmp);rw [List.length_append,List.length_append];show _ + 1 ≤ _;omega)) (da.refl _) ⟨u9,trivial⟩ rfl rfl ?_
  refine w_5 ?_;refine ⟨i + 1, ?_, ?_, ?_⟩
  · show i + 1 ≤ _;omega
  · first | omega | (dsimp only;omega)
  exact ⟨⟨zy,c9,c9,c9,c9,c9,c9,trivial⟩,⟨⟨_,rfl,(CoO.of_eq (by rw [b2a hil]))⟩,trivial⟩⟩
 have h3:=aa r3
 try simp only [ty] at h3
 obtain rfl:i = ps.length:=by omega
 refine w_7 ?_;refine qcx ar3 (axo l ps (by omega)) ?_;refine w_4 ?_
 have hL:∀ j,(eq ns l (b7 l ps l.length) j).length ≤ 4102400:=fun j=>a9a hsz (Nat.le_trans a11 hl64)
 refine ah (ι:=Nat) ⟨[(1,some _),(7,some _),(15,some _),(16,some _),(82,some _),(83,some _)],[]⟩ ⟨⟨c9,c9,c9,c9,c9,c9,trivial⟩,trivial⟩ (fun j=>⟨[(84,some (vI j))],[(2,some (bd false ((d7 ns l ps ps.length) ++ eq ns l (b7 l ps l.length) j)))]⟩) (fun j=>j ≤ (b7 l ps l.length).length) (fun j=>(b7 l ps l.length).length - j) (0) (Nat.zero_le _) ⟨⟨zy,trivial⟩,⟨⟨_,rfl,(CoO.of_eq (by rw [show eq ns l (b7 l ps l.length) 0 = [] from rfl,List.append_nil]))⟩,trivial⟩⟩ ?_
 rintro j hj
 refine w_5 ?_;refine a6 _ rfl (fun r5=>?_) (fun r5=>?_)
 ·
  have h5:=ae r5
  try simp only [ty] at h5
  have hjl:j < (b7 l ps l.length).length:=by omega
  have hj2:=akg hjl
  have hls:=Nat.le_trans (a11 (l:=l) (ps:=ps)) hl64
  have hf:=hin (l.getD ((b7 l ps l.length).getD j default) default) (cu hj2)
  refine w_9 ?_;refine bg (E:=bj) a7 aw [0,1,2,3,4,5,6,7,8,9,10,11,12,13,14,15,16,17,18] ?_;refine w_3 ?_
  refine rq rfl rfl rfl rfl rfl ?_ (hp:=⟨rfl,Int.natCast_nonneg _,Int.ofNat_lt.2 hj2⟩);refine w_2 ?_;refine qcx a9w (ads (l.getD ((b7 l ps l.length).getD j default) default).lhs ns (hmem _ hf.1) hsz) ?_
  refine rq rfl rfl rfl rfl rfl ?_ (hp:=(by have h2:=hx (l.getD ((b7 l ps l.length).getD j default) default).lhs;show 5 + _ ≤ _;omega))
  refine rq rfl rfl rfl rfl rfl ?_ (hp:=(by have h2:=hx (l.getD ((b7 l ps l.length).getD j default) default).lhs;rw [szA];show 5 + _ + 4 ≤ _;omega));refine w_3 ?_
  refine rq rfl rfl rfl rfl rfl ?_ (hp:=⟨rfl,Int.natCast_nonneg _,Int.ofNat_lt.2 hj2⟩);refine w_2 ?_;refine qcx a9w (ads (l.getD ((b7 l ps l.length).getD j default) default).rhs ns (hmem _ hf.2) hsz) ?_
  refine rq rfl rfl rfl rfl rfl ?_ (hp:=(by have h2:=hx (l.getD ((b7 l ps l.length).getD j default) default).lhs;have h3:=hx (l.getD ((b7 l ps l.length).getD j default) default).rhs;rw [szA,szA];show 5 + _ + 4 + _ ≤ _;omega))
  refine rq rfl rfl rfl rfl rfl ?_ (hp:=(by have h2:=hx (l.getD ((b7 l ps l.length).getD j default) default).lhs;have h3:=hx (l.getD ((b7 l ps l.length).getD j default) default).rhs;rw [szA,szA,szA];show 5 + _ + 4 + _ + 1 ≤ _;omega))
  refine bf rfl rfl rfl rfl rfl rfl o9 (od 2 false ((d7 ns l ps ps.length) ++ eq ns l (b7 l ps l.length) j) ((((⟨#[108,111,115,116,32]⟩ ++ txT ns (l.getD ((b7 l ps l.length).getD j default) default).lhs) ++ ⟨#[32,45,62,32]⟩) ++ txT ns (l.getD ((b7 l ps l.length).getD j default) default).rhs) ++ ⟨#[10]⟩) (by have h1:=hP ps.length;have h2:=hx (l.getD ((b7 l ps l.length).getD j default) default).lhs;have h3:=hx (l.getD ((b7 l ps l.length).getD j default) default).rhs;have h4:=hL j;rw [szA,szA,szA,szA,List.length_append];show _ + (5 + _ + 4 + _ + 1) ≤ _;omega)) (da.refl _) ⟨u9,trivial⟩ rfl rfl ?_
  refine ax ?_;refine ⟨by kernel_rfl, ?_⟩;refine w_4 ?_;refine ⟨j + 1, ?_, ?_, ?_⟩
  · show j + 1 ≤ _;omega
  · first | omega | (dsimp only;omega)
  exact ⟨⟨zy,c9,c9,c9,c9,c9,c9,trivial⟩,⟨⟨_,rfl,(CoO.of_eq (by rw [b17 hjl _ rfl]))⟩,trivial⟩⟩
 have h5:=aa r5
 try simp only [ty] at h5
 obtain rfl:j = (b7 l ps l.length).length:=by omega
 refine w_3 ?_
 refine bf rfl rfl rfl rfl rfl rfl o9 (od 2 false ((d7 ns l ps ps.length) ++ eq ns l (b7 l ps l.length) (b7 l ps l.length).length) ⟨#[99,108,97,105,109,115]⟩ (by have h1:=hP ps.length;have h4:=hL (b7 l ps l.length).length;rw [List.length_append];show _ + 6 ≤ _;omega)) (da.refl _) ⟨u9,trivial⟩ rfl rfl ?_
 refine w_4 ?_;refine m9 3 ?_;refine w_4 ?_;refine bi 109 rfl rfl rfl ?_
 refine ah (ι:=Nat) ⟨[(7,some _),(16,some _),(110,some _)],[]⟩ ⟨⟨c9,c9,c9,trivial⟩,trivial⟩ (fun i=>⟨[(109,some (.v (.one (.p (bsl ir))))),(111,some (vI i))],[(2,some (bd false ((((d7 ns l ps ps.length) ++ eq ns l (b7 l ps l.length) (b7 l ps l.length).length) ++ [99,108,97,105,109,115]) ++ fk c i)))]⟩) (fun i=>i ≤ 5) (fun i=>5 - i) (0) (by omega) ⟨⟨⟨_,rfl,(show CoP _ _ from CoP.sl rfl (.inl rfl) (fun h=>by cases h) fun i j hi hj=>by have hj:j < 1:=hj;obtain rfl:j = 0:=(by omega);exact CoP.of_eq (aw6 (f:=fun a b=>(ir.map fun b=>jg (.string b)).getD (a * 1 + b) .any) hi rfl rfl rfl rfl rfl))⟩,zy,trivial⟩,⟨⟨_,rfl,(CoO.of_eq (by rw [show fk c 0 = [] from rfl,List.append_nil]))⟩,trivial⟩⟩ ?_
 rintro i hi
 refine w_5 ?_;refine a6 _ rfl (fun r6=>?_) (fun r6=>?_)
 ·
  have h6:=ae r6
  try simp only [ty] at h6
  have hi5:i < 5:=by have:(i:Int) < 5:=h6;omega
  refine aay ?_;refine a6 _ rfl (fun r7=>?_) (fun r7=>?_)
  ·
   have h7:=ae r7
   try simp only [ty] at h7
   have hbit:xl c i = true:=decide_eq_true h7
   refine w_2 ?_;refine rq rfl rfl rfl rfl rfl ?_ (hp:=(by have h6:=afy hi5;show 1 + (ir.getD i default).size ≤ _;omega))
   refine bf rfl rfl rfl rfl rfl rfl o9 (od 2 false ((((d7 ns l ps ps.length) ++ eq ns l (b7 l ps l.length) (b7 l ps l.length).length) ++ [99,108,97,105,109,115]) ++ fk c i) (⟨#[32]⟩ ++ ir.getD i default) (by have h1:=hP ps.length;have h4:=hL (b7 l ps l.length).length;have h5:=a69 (c:=c) (i:=i) (by omega);have h6:=afy hi5;rw [szA,List.length_append,List.length_append,List.length_append];show _ + 6 + _ + (1 + _) ≤ _;omega)) (da.refl _) ⟨u9,trivial⟩ rfl rfl ?_
   refine w_5 ?_
   first | (refine ⟨i + 1, ?_, ?_, ?_⟩
            · show i + 1 ≤ _;omega
            · first | omega | (dsimp only;omega)
            exact ⟨⟨c9,zy,c9,c9,c9,trivial⟩,⟨⟨_,rfl,(CoO.of_eq (by rw [arf hbit]))⟩,trivial⟩⟩)
         | (refine ⟨i + 1, ?_, ?_, ?_⟩
            · show i + 1 ≤ _;omega
            · first | omega | (dsimp only;omega)
            exact ⟨⟨c9,zy,c9,c9,c9,trivial⟩,⟨⟨_,rfl,(CoO.of_eq (by rw [← ap4 hbit]))⟩,trivial⟩⟩)
  have h7:=aa r7
  try simp only [ty] at h7
  have hbit:xl c i = false:=decide_eq_false h7
  refine w_5 ?_
  first | (refine ⟨i + 1, ?_, ?_, ?_⟩
           · show i + 1 ≤ _;omega
           · first | omega | (dsimp only;omega)
           exact ⟨⟨c9,zy,c9,c9,c9,trivial⟩,⟨⟨_,rfl,(CoO.of_eq (by rw [arf hbit]))⟩,trivial⟩⟩)
        | (refine ⟨i + 1, ?_, ?_, ?_⟩
           · show i + 1 ≤ _;omega
           · first | omega | (dsimp only;omega)
           exact ⟨⟨c9,zy,c9,c9,c9,trivial⟩,⟨⟨_,rfl,(CoO.of_eq (by rw [← ap4 hbit]))⟩,trivial⟩⟩)
 have h6:=aa r6
 try simp only [ty] at h6
 obtain rfl:i = 5:=by have:¬ (i:Int) < 5:=h6;omega
 refine w_3 ?_
 refine bf rfl rfl rfl rfl rfl rfl o9 (od 2 false ((((d7 ns l ps ps.length) ++ eq ns l (b7 l ps l.length) (b7 l ps l.length).length) ++ [99,108,97,105,109,115]) ++ fk c 5) ⟨#[10]⟩ (by have h1:=hP ps.length;have h4:=hL (b7 l ps l.length).length;have h5:=a69 (c:=c) (i:=5) (by omega);rw [List.length_append,List.length_append,List.length_append];show _ + 6 + _ + 1 ≤ _;omega)) (da.refl _) ⟨u9,trivial⟩ rfl rfl ?_
 refine w_3 ?_;refine bf rfl rfl rfl rfl rfl rfl apk (ax7 2 false (ah5 ns l ps c) (by unfold ah5;exact List.append_ne_nil_of_right_ne_nil _ (by simp))) (da.refl _) ⟨u9,trivial⟩ rfl rfl ?_;refine w_4 ?_
 refine ⟨.inr rfl, ?_⟩
 have hr:=ap1 (c:=c) he hv hb
 exact f9 rfl rfl (⟨CoC.one (CoP.of_eq (by rw [hr.2];rfl)),cci hr.1.symm,trivial⟩)
end
section
section
variable {n:Int} {l m:List Fd} {q:List Fd} {i:Nat}
def evT (q:List Fd) (i:Nat):List Fd:=((List.range i).filter fun k=>decide (((k:Nat):Int) % 2 = 0)).map fun k=>q.getD k default
def odT (q:List Fd) (i:Nat):List Fd:=((List.range i).filter fun k=>!decide (((k:Nat):Int) % 2 = 0)).map fun k=>q.getD k default
end
abbrev exC:List Fd:=[⟨1,2⟩,⟨2,4⟩]
abbrev exA:List Fd:=[⟨3,4⟩,⟨4,1⟩]
abbrev exN:List Bs:=[⟨#[97]⟩,⟨#[98]⟩,⟨#[99]⟩]
theorem bap:(goD 3 exC [] (kj 3 exC [] 3)).1 = [3,6] ∧ (goD 3 exC [] (kj 3 exC [] 3)).2.1 = 31 ∧ goE 3 exC [] (kj 3 exC [] 3) = 0:=by decide +kernel
theorem b95:(goD 3 exA [] (kj 3 exA [] 4)).1 = [5,6] ∧ (goD 3 exA [] (kj 3 exA [] 4)).2.1 = 29 ∧ goE 3 exA [] (kj 3 exA [] 4) = 0:=by decide +kernel
theorem ba5:(goD 3 exA [] (mn 3 exA)).1 = [7] ∧ (goD 3 exA [] (mn 3 exA)).2.1 = 7 ∧ goE 3 exA [] (mn 3 exA) = 0:=by decide +kernel
abbrev avw:List UInt8:=[112,97,114,116,32,97,44,98,32,107,101,121,115,32,97,10,112,97,114,116,32,98,44,99,32,107,101,121,115,32,98,10,99,108,97,105,109,115,32]
abbrev avr:List UInt8:=[108,111,115,115,108,101,115,115,32,112,114,101,115,101,114,118,105,110,103,32,116,104,105,114,100,32,98,111,121,99,101,32,102,111,117,114,116,104,10]
theorem bb0:pg exN exC [] [3,6] = 0 ∧ ah5 exN exC [3,6] 31 = List.append avw avr:=by
 constructor <;> decide +kernel
end
section
open Go.Proofs
theorem b4s (a:List AS):af Tryz.prog 30 [pP (asl a),pP (asl a)] (aj [pB true]):=by
 have h:=bbi a a
 rw [decide_eq_true rfl] at h
 exact h
theorem b7x:af Tryz.prog 12 [pI 3,pP (fdl exC),pP (fdl []),pI 3] (aj [dsn ([3,6],31,(goD 3 exC [] (kj 3 exC [] 3)).2.2),pI 0]):=by
 have h:=ac0 3 exC [] 3 (by decide)
 obtain ⟨h1,h2,h3⟩:=bap
 rw [h3] at h
 unfold dsn at h ⊢
 rw [h1,h2] at h
 exact h
theorem b4r:af Tryz.prog 12 [pI 3,pP (fdl exA),pP (fdl []),pI 4] (aj [dsn ([5,6],29,(goD 3 exA [] (kj 3 exA [] 4)).2.2),pI 0]):=by
 have h:=ac0 3 exA [] 4 (by decide)
 obtain ⟨h1,h2,h3⟩:=b95
 rw [h3] at h
 unfold dsn at h ⊢
 rw [h1,h2] at h
 exact h
theorem b7b:af Tryz.prog 15 [pI 3,pP (fdl exA),pP (fdl [])] (aj [dsn ([7],7,(goD 3 exA [] (mn 3 exA)).2.2),pI 0]):=by
 have h:=b9m 3 exA []
 obtain ⟨h1,h2,h3⟩:=ba5
 rw [h3] at h
 unfold dsn at h ⊢
 rw [h1,h2] at h
 exact h
theorem baj (sts:PV):af Tryz.prog 23 [pP (bsl exN),pP (fdl exC),pP (fdl []), .agg [asl [3,6], .raw (.int .i64 31),sts]] (aj [pS ⟨(List.append avw avr).toArray⟩,pI 0]):=by
 have h:=ajj exN exC [] [3,6] 31 sts (by decide)
 obtain ⟨h1,h2⟩:=bb0
 rw [h1,show a6l exN exC [] [3,6] 31 = ⟨(List.append avw avr).toArray⟩ from (if_pos h1).trans (congrArg bOf h2)] at h
 exact h
theorem afg:goodFn Tryz.prog 11:=wgx Tryz.func11
theorem a7c  : af Tryz.prog 11 [] (aj [pB true]):=by
 refine a8 (nt:=84) a7 Tryz.func11 rfl rfl l9 ?_;refine w_8 ?_;refine m9 0 ?_;refine w_6 ?_;refine m9 1 ?_;refine w_3 ?_;refine bi 1 rfl rfl rfl ?_;refine bi 2 rfl rfl rfl ?_;refine w_2 ?_
 refine rc rfl rfl rfl rfl rfl rfl aoj (b7x) (⟨CoC.refl _,(CoC.one (CoP.sl rfl (.inl rfl) (fun h=>(by cases h)) fun i j hi hj=>CoP.of_eq (by have hi:i < 2:=hi;have hj:j < 2:=hj;rcases (show i = 0 ∨ i = 1 by omega) with rfl | rfl <;> rcases (show j = 0 ∨ j = 1 by omega) with rfl | rfl <;> rfl))),CoC.one coN,CoC.refl _,trivial⟩) rfl rfl ?_
 refine w_3 ?_;refine m9 2 ?_;refine w_5 ?_;refine m9 3 ?_;refine w_2 ?_
 refine rc rfl rfl rfl rfl rfl rfl aqu (baj _) (⟨(CoC.one (CoP.sl rfl (.inl rfl) (fun h=>(by cases h)) fun i j hi hj=>CoP.of_eq (by have hi:i < 3:=hi;have hj:j < 1:=hj;obtain rfl:j = 0:=(by omega);rcases (show i = 0 ∨ i = 1 ∨ i = 2 by omega) with rfl | rfl | rfl <;> rfl))),(CoC.one (CoP.sl rfl (.inl rfl) (fun h=>(by cases h)) fun i j hi hj=>CoP.of_eq (by have hi:i < 2:=hi;have hj:j < 2:=hj;rcases (show i = 0 ∨ i = 1 by omega) with rfl | rfl <;> rcases (show j = 0 ∨ j = 1 by omega) with rfl | rfl <;> rfl))),CoC.one coN,CoC.refl _,trivial⟩) rfl rfl ?_
 refine w_9 ?_
 refine rc rfl rfl rfl rfl rfl rfl aoj (b4r) (⟨CoC.refl _,(CoC.one (CoP.sl rfl (.inl rfl) (fun h=>(by cases h)) fun i j hi hj=>CoP.of_eq (by have hi:i < 2:=hi;have hj:j < 2:=hj;rcases (show i = 0 ∨ i = 1 by omega) with rfl | rfl <;> rcases (show j = 0 ∨ j = 1 by omega) with rfl | rfl <;> rfl))),CoC.one coN,CoC.refl _,trivial⟩) rfl rfl ?_
 refine w_3 ?_;refine m9 4 ?_;refine w_6 ?_
 refine rc rfl rfl rfl rfl rfl rfl b7z (b7b) (⟨CoC.refl _,(CoC.one (CoP.sl rfl (.inl rfl) (fun h=>(by cases h)) fun i j hi hj=>CoP.of_eq (by have hi:i < 2:=hi;have hj:j < 2:=hj;rcases (show i = 0 ∨ i = 1 by omega) with rfl | rfl <;> rcases (show j = 0 ∨ j = 1 by omega) with rfl | rfl <;> rfl))),CoC.one coN,trivial⟩) rfl rfl ?_
 refine w_3 ?_;refine m9 5 ?_;refine fc ?_;(iterate 2 refine rq rfl rfl rfl rfl (gtt (dc rfl rfl)) ?_);refine w_2 ?_;(iterate 2 refine rq rfl rfl rfl rfl (gtt (dc (dc rfl rfl) rfl)) ?_);refine w_2 ?_
 (iterate 3 refine rq rfl rfl rfl rfl (gtt (dc (dc (dc rfl rfl) rfl) rfl)) ?_);refine w_2 ?_;(iterate 2 refine rq rfl rfl rfl rfl (gtt (dc (dc (dc (dc rfl rfl) rfl) rfl) rfl)) ?_);refine w_2 ?_
 refine b9 rfl rfl (fun r0=>?_) (fun r0=>?_)
 ·
  have h0:=r0
  have h0:=du (dc (dc (dc (dc rfl rfl) rfl) rfl) rfl) h0
  have h0:=ae h0
  try simp only [ty] at h0
  (iterate 2 refine qy ?_ (hg:=(gtt r0)));refine rm 6 rfl rfl rfl rfl rfl (gtt r0) ?_
  refine rc rfl rfl rfl rfl rfl rfl as6 (b4s [5,6]) (⟨CoC.refl _,(CoC.one (CoP.sl rfl (.inl rfl) (fun h=>(by cases h)) fun i j hi hj=>CoP.of_eq (by have hi:i < 2:=hi;have hj:j < 1:=hj;obtain rfl:j = 0:=(by omega);rcases (show i = 0 ∨ i = 1 by omega) with rfl | rfl <;> rfl))),trivial⟩) rfl (gtt r0) ?_
  refine w_2 ?_;(iterate 3 refine rq rfl rfl rfl rfl (gtt (dc r0 rfl)) ?_);refine w_2 ?_;(iterate 2 refine rq rfl rfl rfl rfl (gtt (dc (dc r0 rfl) rfl)) ?_)
  refine rm 7 rfl rfl rfl rfl rfl (gtt (dc (dc r0 rfl) rfl)) ?_
  refine rc rfl rfl rfl rfl rfl rfl as6 (b4s [7]) (⟨CoC.refl _,(CoC.one (CoP.sl rfl (.inl rfl) (fun h=>(by cases h)) fun i j hi hj=>CoP.of_eq (by have hi:i < 1:=hi;have hj:j < 1:=hj;obtain rfl:j = 0:=(by omega);obtain rfl:i = 0:=(by omega);rfl))),trivial⟩) rfl (gtt (dc (dc r0 rfl) rfl)) ?_
  refine w_2 ?_;(iterate 3 refine rq rfl rfl rfl rfl (gtt (dc (dc (dc r0 rfl) rfl) rfl)) ?_);refine w_3 ?_
  exact hx8 rfl rfl rfl (CoL.refl _)
 have h0:=r0
 have h0:=du (dc (dc (dc (dc rfl rfl) rfl) rfl) rfl) h0
 have h0:=aa h0
 try simp only [ty] at h0
 exfalso
 first | exact h0 rfl | exact h0 trivial | cases h0
end
end Go.Hx

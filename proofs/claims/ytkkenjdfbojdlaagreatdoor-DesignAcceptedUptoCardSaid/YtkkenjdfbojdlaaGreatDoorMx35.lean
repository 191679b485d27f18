/- A part of the proof: Y7 Bz7 Y8 Bz8 Y9 Bz9 Ls7 Ls8 Ds3 Ds4. -/
import Derived.Test.YtkkenjdfbojdlaaGreatDoorMx34
set_option linter.all false
set_option maxRecDepth 100000
set_option maxHeartbeats 1000000
namespace Go.Hx
section
open Go.Proofs
def blg (T:List AS) (d:Fd) (s:AS) (hq:fdT d T = some s) (hT:T.length <= 8589934592):dq btb 240 [.one (.ptr 1000 0),d.pc.toH] [(1000, .box [.ref 901 T.length]),(901, .arr true 1 46 T.length (lf sC T))] (.v (.one (.p (.raw (.bool true))))) [(1000, .box [.ref 901 (ln T s).length]),(901, .arr true 1 46 (ln T s).length (lf sC (ln T s)))] [1000]:=by
 refine hfx (nt:=59) Tryz.func240 ?_;refine sx7 ?_;refine m9 0 ?_;refine w_8 ?_;refine ah (ι:=Nat) (ka 0 (ka 3 kn)) (kb 1000 (kb 901 (kb 0 km))) (fun i=>⟨[(5,some (vI i))],[]⟩) (fun i=>i <= T.length /\ (T.take i).findSome? (fdQ d T) = none) (fun i=>T.length - i) (0) (⟨boe _,rfl⟩) ⟨⟨⟨_,rfl,(CoR.refl _)⟩,trivial⟩,trivial⟩ ?_;rintro i ⟨hi,hI⟩;refine dl ?_;refine hcd (fun h0=>?_) (fun h0=>?_)
 ·
  have hil:i < T.length:=by omega
  refine w_8 ?_;refine ah (ι:=Nat) (ka 0 (ka 3 (ka 5 kn))) (kb 1000 (kb 901 (kb 0 km))) (fun k=>⟨[(6,some (vI k))],[]⟩) (fun k=>k <= T.length /\ (T.take k).findSome? (fdP d (T.getD i default)) = none) (fun k=>T.length - k) (0) (⟨boe _,rfl⟩) ⟨⟨⟨_,rfl,(CoR.refl _)⟩,trivial⟩,trivial⟩ ?_;rintro k ⟨hk,hK⟩;refine dl ?_;refine hcd (fun h1=>?_) (fun h1=>?_)
  ·
   have hkl:k < T.length:=by omega
   refine a3d ?_;refine rq (out:=⟨_, .v (.one (.p (asC ((T.getD i default) ^^^ (T.getD k default)))))⟩) rfl rfl rfl (congrArg (fun z=>some (Out.mk _ (HR.v (HC.one (HV.p (.raw (.int .u32 z))))))) (aw6 _ _)) rfl ?_;refine dl ?_;refine ai rfl rfl (fun r2=>?_) (fun r2=>?_)
   ·
    have h2:=tz1 r2;have g1:((T.getD i default) ^^^ (T.getD k default)) &&& d.lhs = 0:=wk h2;(iterate 5 refine qy ?_ (hg:=(gtt r2)));refine w_2 ?_;refine am _ rfl (fun r3=>?_) (fun r3=>?_)
    · have h3:=tz2 (ci (bq r2 r3));have g2:¬ ((T.getD i default) ^^^ (T.getD k default)) &&& d.rhs = 0:=s7 h3;have hq2:fdT d T = some (((T.getD i default) ^^^ (T.getD k default)) &&& d.rhs):=vk hil hI (show fdQ d T (T.getD i default) = _ from vk hkl hK (b7d g1 g2));rw [hq] at hq2;obtain rfl:=Option.some.inj hq2;refine cw ?_;refine a65 ⟨[(0,some _),(3,some _),(7,some _)],[(1000,some _),(901,some _),(0,some _)]⟩ (by exact kk) ?_;refine w_6 ?_;refine ik rfl rfl rfl rfl rfl rfl (wgx Tryz.func255) (bmg T (((T.getD i default) ^^^ (T.getD k default)) &&& d.rhs) hT) (⟨xk.refl _,(CoP.of_eq (congrArg (fun z=>PV.raw (.int .u32 z)) (gk _ _))),trivial⟩) uu rfl rfl ?_;refine w_5 ?_;refine hrr ?_;exact ⟨_,_,rfl,bss,CoR.refl _,uu⟩
    have h3:=tz1 (cj (bq r2 r3));have g2:((T.getD i default) ^^^ (T.getD k default)) &&& d.rhs = 0:=wk h3;refine w_6 ?_;refine lpz (k + 1) ⟨⟨⟨_,rfl,(CoR.refl _)⟩,tt⟩,uu⟩ ?_;exact ⟨by omega,(kr hkl hK).trans (by first | exact akr g1 | exact akh g1 g2)⟩
   have h2:=tz2 r2;have g1:¬ ((T.getD i default) ^^^ (T.getD k default)) &&& d.lhs = 0:=s7 h2;(iterate 5 refine k9 (gft r2) ?_);refine w_9 ?_;refine lpz (k + 1) ⟨⟨⟨_,rfl,(CoR.refl _)⟩,tt⟩,uu⟩ ?_
   exact ⟨by omega,(kr hkl hK).trans (by first | exact akr g1 | exact akh g1 g2)⟩
  obtain rfl:k = T.length:=by omega
  rw [show T.take T.length = T from bog] at hK;refine w_6 ?_;refine lpz (i + 1) ⟨⟨⟨_,rfl,(CoR.refl _)⟩,tt⟩,uu⟩ ?_;exact ⟨by omega,(kr hil hI).trans hK⟩
 obtain rfl:i = T.length:=by omega
 rw [show T.take T.length = T from bog] at hI;refine w_5 ?_;refine hrr ?_;exact absurd (hq.symm.trans (show fdT d T = none from hI)) (fun e=>by cases e)
def bl9 (T:List AS) (d:Fd) (hq:fdT d T = none) (hT:T.length <= 8589934592):dq btb 240 [.one (.ptr 1000 0),d.pc.toH] [(1000, .box [.ref 901 T.length]),(901, .arr true 1 46 T.length (lf sC T))] (.v (.one (.p (.raw (.bool false))))) [(1000, .box [.ref 901 T.length]),(901, .arr true 1 46 T.length (lf sC T))] [1000]:=by
 refine hfx (nt:=59) Tryz.func240 ?_;refine sx7 ?_;refine m9 0 ?_;refine w_8 ?_;refine ah (ι:=Nat) (ka 0 (ka 3 kn)) (kb 1000 (kb 901 (kb 0 km))) (fun i=>⟨[(5,some (vI i))],[]⟩) (fun i=>i <= T.length /\ (T.take i).findSome? (fdQ d T) = none) (fun i=>T.length - i) (0) (⟨boe _,rfl⟩) ⟨⟨⟨_,rfl,(CoR.refl _)⟩,trivial⟩,trivial⟩ ?_;rintro i ⟨hi,hI⟩;refine dl ?_;refine hcd (fun h0=>?_) (fun h0=>?_)
 ·
  have hil:i < T.length:=by omega
  refine w_8 ?_;refine ah (ι:=Nat) (ka 0 (ka 3 (ka 5 kn))) (kb 1000 (kb 901 (kb 0 km))) (fun k=>⟨[(6,some (vI k))],[]⟩) (fun k=>k <= T.length /\ (T.take k).findSome? (fdP d (T.getD i default)) = none) (fun k=>T.length - k) (0) (⟨boe _,rfl⟩) ⟨⟨⟨_,rfl,(CoR.refl _)⟩,trivial⟩,trivial⟩ ?_;rintro k ⟨hk,hK⟩;refine dl ?_;refine hcd (fun h1=>?_) (fun h1=>?_)
  ·
   have hkl:k < T.length:=by omega
   refine a3d ?_;refine rq (out:=⟨_, .v (.one (.p (asC ((T.getD i default) ^^^ (T.getD k default)))))⟩) rfl rfl rfl (congrArg (fun z=>some (Out.mk _ (HR.v (HC.one (HV.p (.raw (.int .u32 z))))))) (aw6 _ _)) rfl ?_;refine dl ?_;refine ai rfl rfl (fun r2=>?_) (fun r2=>?_)
   ·
    have h2:=tz1 r2;have g1:((T.getD i default) ^^^ (T.getD k default)) &&& d.lhs = 0:=wk h2;(iterate 5 refine qy ?_ (hg:=(gtt r2)));refine w_2 ?_;refine am _ rfl (fun r3=>?_) (fun r3=>?_)
    · have h3:=tz2 (ci (bq r2 r3));have g2:¬ ((T.getD i default) ^^^ (T.getD k default)) &&& d.rhs = 0:=s7 h3;have hq2:fdT d T = some (((T.getD i default) ^^^ (T.getD k default)) &&& d.rhs):=vk hil hI (show fdQ d T (T.getD i default) = _ from vk hkl hK (b7d g1 g2));exact absurd (hq.symm.trans hq2) (fun e=>by cases e)
    have h3:=tz1 (cj (bq r2 r3));have g2:((T.getD i default) ^^^ (T.getD k default)) &&& d.rhs = 0:=wk h3;refine w_6 ?_;refine lpz (k + 1) ⟨⟨⟨_,rfl,(CoR.refl _)⟩,tt⟩,uu⟩ ?_;exact ⟨by omega,(kr hkl hK).trans (by first | exact akr g1 | exact akh g1 g2)⟩
   have h2:=tz2 r2;have g1:¬ ((T.getD i default) ^^^ (T.getD k default)) &&& d.lhs = 0:=s7 h2;(iterate 5 refine k9 (gft r2) ?_);refine w_9 ?_;refine lpz (k + 1) ⟨⟨⟨_,rfl,(CoR.refl _)⟩,tt⟩,uu⟩ ?_
   exact ⟨by omega,(kr hkl hK).trans (by first | exact akr g1 | exact akh g1 g2)⟩
  obtain rfl:k = T.length:=by omega
  rw [show T.take T.length = T from bog] at hK;refine w_6 ?_;refine lpz (i + 1) ⟨⟨⟨_,rfl,(CoR.refl _)⟩,tt⟩,uu⟩ ?_;exact ⟨by omega,(kr hil hI).trans hK⟩
 obtain rfl:i = T.length:=by omega
 rw [show T.take T.length = T from bog] at hI;refine w_5 ?_;refine hrr ?_;exact ⟨_,_,rfl,bss,CoR.refl _,uu⟩
end
section
structure MvO (d:Fd) (T0:List AS) (x:Nat × List AS × Nat):Prop where
 nd:x.2.1.Nodup
 pre:T0 <+: x.2.1
 res:mvO d x.1 x.2.1 x.2.2 = mvO d FU2 T0 0
 le:x.2.2 <= x.2.1.length
 fuel:4294967296 < x.1 + x.2.2
structure MvI (d:Fd) (T:List AS) (i:Nat) (x:Nat × List AS × Nat):Prop where
 nd:x.2.1.Nodup
 pre:T <+: x.2.1
 res:mvI d x.1 x.2.1 i x.2.2 = mvI d 8589934592 T i 0
 le:x.2.2 <= x.2.1.length
 fuel:4294967296 < x.1 + x.2.2
section
variable {d:Fd} {T0 T:List AS} {i f k:Nat}
theorem MvO.start (h:T.Nodup):MvO d T (FU2,T,0):=⟨h,brc _,rfl,boe _,by show 4294967296 < 8589934592 + 0;omega⟩
theorem MvI.start (h:T.Nodup):MvI d T i (8589934592,T,0):=⟨h,brc _,rfl,boe _,by show 4294967296 < 8589934592 + 0;omega⟩
theorem MvO.pos (h:MvO d T0 (f,T,i)):0 < f /\ T.length <= 4294967296:=by
 have h1:=yo h.nd;have h2:=h.le;have h3:=h.fuel;dsimp only at h1 h2 h3;omega
section
variable {U:List AS}
theorem MvI.pos (h:MvI d T i (f,U,k)):0 < f /\ U.length <= 4294967296:=by
 have h1:=yo h.nd;have h2:=h.le;have h3:=h.fuel;dsimp only at h1 h2 h3;omega
theorem MvO.done (h:MvO d T0 (f,T,i)) (hi:¬ i < T.length):T = mvO d FU2 T0 0:=by
 have hp:=h.pos.1;have hr:mvO d f T i = mvO d FU2 T0 0:=h.res;obtain ⟨g,rfl⟩:∃ g,f = g + 1:=⟨f - 1,by omega⟩;unfold mvO at hr;rw [if_neg hi] at hr;exact hr
theorem MvI.done (h:MvI d T i (f,U,k)) (hk:¬ k < U.length):U = mvI d 8589934592 T i 0:=by
 have hp:=h.pos.1;have hr:mvI d f U i k = mvI d 8589934592 T i 0:=h.res;obtain ⟨g,rfl⟩:∃ g,f = g + 1:=⟨f - 1,by omega⟩;unfold mvI at hr;rw [if_neg hk] at hr;exact hr
theorem MvI.next (h:MvI d T i (f,U,k)) (hk:k < U.length):MvI d T i (f - 1,mvS d U i k,k + 1):=by
 have hp:=h.pos.1;have hr:mvI d f U i k = mvI d 8589934592 T i 0:=h.res;obtain ⟨g,rfl⟩:∃ g,f = g + 1:=⟨f - 1,by omega⟩;unfold mvI at hr;rw [if_pos hk] at hr;have hf:4294967296 < g + 1 + k:=h.fuel;exact ⟨azq h.nd,h.pre.trans (a3q d U i k),hr,bon hk (a3q d U i k).length_le,by show 4294967296 < g + (k + 1);omega⟩
theorem MvO.next (h:MvO d T0 (f,T,i)) (hi:i < T.length) (hU:U = mvI d 8589934592 T i 0):MvO d T0 (f - 1,U,i + 1):=by
 subst hU;have hp:=h.pos.1;have hr:mvO d f T i = mvO d FU2 T0 0:=h.res;obtain ⟨g,rfl⟩:∃ g,f = g + 1:=⟨f - 1,by omega⟩;unfold mvO at hr;rw [if_pos hi] at hr;have hf:4294967296 < g + 1 + i:=h.fuel;exact ⟨akv h.nd,h.pre.trans (a0t d _ T i 0),hr,bon hi (a0t d _ T i 0).length_le,by show 4294967296 < g + (i + 1);omega⟩
def wv (h:agB d (U.getD i default) (U.getD k default) = false):mvS d U i k = U:=by unfold mvS;rw [if_neg (by rw [h];decide)]
def n4 (h:agB d (U.getD i default) (U.getD k default) = true):mvS d U i k = i7 U (mh d (U.getD i default) (U.getD k default)):=by unfold mvS;rw [if_pos h]
def apq {T:List AS} {q:AS} (hp:T <+: U) (h:¬ q ∈ U):true = decide (T.length < (i7 U q).length):=by
 have h1:=hp.length_le;rw [amk h];exact (decide_eq_true bsq).symm
def amb {T:List AS} {q:AS} (h:q ∈ U):decide (T.length < U.length) = decide (T.length < (i7 U q).length):=by rw [show i7 U q = U from if_pos h]
def bkq (r k l h:AS):ap .or .u32 (ap .and .u32 (asI r) (ap .or .u32 (asI l) (asI h))) (ap .andNot .u32 (asI k) (ap .or .u32 (asI l) (asI h))) = asI (mh ⟨l,h⟩ r k):=by
 rw [bOr,gk,it,bOr];rfl
def bmk {r k:AS} (h:ap .and .u32 (ap .xor .u32 (asI r) (asI k)) (asI d.lhs) = 0):agB d r k = true:=by
 rw [aw6,gk] at h;exact decide_eq_true (ck.1 h)
def blj {r k:AS} (h:¬ ap .and .u32 (ap .xor .u32 (asI r) (asI k)) (asI d.lhs) = 0):agB d r k = false:=by
 rw [aw6,gk] at h;exact decide_eq_false fun e=>h (congrArg asI e)
end
end
end
section
open Go.Proofs
def bn0 (T:List AS) (d:Fd) (hn:T.Nodup):dq btb 241 [.one (.ptr 1000 0),d.pc.toH] [(1000, .box [.ref 1001 T.length]),(1001, .arr true 1 46 T.length (lf sC T))] (.v (.one (.p (.raw (.bool (decide (T.length < (mvO d FU2 T 0).length))))))) [(1000, .box [.ref 1001 (mvO d FU2 T 0).length]),(1001, .arr true 1 46 (mvO d FU2 T 0).length (lf sC (mvO d FU2 T 0)))] [1000,1001]:=by
 refine hfx (nt:=77) Tryz.func241 ?_;refine sx7 ?_;refine m9 0 ?_;refine i6 ?_;refine ah (ι:=(Nat × List AS × Nat)) (ka 0 (ka 3 kn)) (kb 0 km) (fun x=>⟨[(5,some (vB (decide (T.length < x.2.1.length)))),(6,some (vI x.2.2))],[(1000,some (.box [.ref 1001 x.2.1.length])),(1001,some (.arr true 1 46 x.2.1.length (lf sC x.2.1)))]⟩) (fun x=>MvO d T x) (fun x=>x.1) ((FU2,T,0)) (MvO.start hn) ⟨⟨⟨_,rfl,(cob bst)⟩,⟨_,rfl,(CoR.refl _)⟩,trivial⟩,uu⟩ ?_;rintro ⟨f,T1,i⟩ hO;have hOl:=hO.pos.2;refine dl ?_;refine hcd (fun h0=>?_) (fun h0=>?_)
 ·
  have hil:i < T1.length:=by omega
  have hfI:=hO.pos.1;refine w_8 ?_;refine ah (ι:=(Nat × List AS × Nat)) (ka 0 (ka 3 (ka 6 kn))) (kb 0 km) (fun y=>⟨[(5,some (vB (decide (T.length < y.2.1.length)))),(7,some (vI y.2.2))],[(1000,some (.box [.ref 1001 y.2.1.length])),(1001,some (.arr true 1 46 y.2.1.length (lf sC y.2.1)))]⟩) (fun y=>MvI d T1 i y) (fun y=>y.1) ((8589934592,T1,0)) (MvI.start hO.nd) ⟨⟨⟨_,rfl,(CoR.refl _)⟩,⟨_,rfl,(CoR.refl _)⟩,trivial⟩,uu⟩ ?_;rintro ⟨g,U,k⟩ hI;have hIl:=hI.pos.2;refine dl ?_;refine hcd (fun h1=>?_) (fun h1=>?_)
  ·
   have hkl:k < U.length:=by omega
   have hil2:i < U.length:=bqh hil hI.pre.length_le;have hUl:=hI.pos.2;have hpre:T <+: U:=hO.pre.trans hI.pre;have hg0:=hI.pos.1;refine bgd ?_;refine ai rfl rfl (fun r2=>?_) (fun r2=>?_)
   ·
    have h2:=tz1 r2;have ha:agB d (U.getD i default) (U.getD k default) = true:=bmk h2;(iterate 28 refine qy ?_ (hg:=(gtt r2)));refine ik rfl rfl rfl rfl rfl rfl agl (b3o U (mh d (U.getD i default) (U.getD k default)) bsq) (⟨xk.refl _,(CoP.of_eq (congrArg (fun z=>PV.raw (.int .u32 z)) (bkq _ _ _ _))),trivial⟩) uu rfl (gtt r2) ?_;refine w_3 ?_;refine am _ rfl (fun r3=>?_) (fun r3=>?_)
    ·
     have h3:=bq r2 r3;have hin:¬ (mh d (U.getD i default) (U.getD k default)) ∈ U:=a4x (by simpa using h3);refine w_8 ?_;refine ⟨(g - 1,mvS d U i k,k + 1), ?_, ?_, ?_⟩
     · exact hI.next hkl
     · dsimp only;omega
     exact ⟨⟨⟨_,rfl,(by first | (rw [wv ha];exact CoR.refl _) | (rw [n4 ha];exact cob (apq hpre hin)) | (rw [n4 ha];exact cob (amb hin)))⟩,⟨_,rfl,(CoR.refl _)⟩,tt⟩,⟨⟨_,rfl,(by first | (rw [wv ha];exact CoO.refl _) | (rw [n4 ha];exact CoO.refl _))⟩,⟨_,rfl,(by first | (rw [wv ha];exact CoO.refl _) | (rw [n4 ha];exact CoO.refl _))⟩,uu⟩⟩
    have h3:=bq r2 r3;have hin:(mh d (U.getD i default) (U.getD k default)) ∈ U:=a2v (by simpa using h3);refine w_6 ?_;refine ⟨(g - 1,mvS d U i k,k + 1), ?_, ?_, ?_⟩
    · exact hI.next hkl
    · dsimp only;omega
    exact ⟨⟨⟨_,rfl,(by first | (rw [wv ha];exact CoR.refl _) | (rw [n4 ha];exact cob (apq hpre hin)) | (rw [n4 ha];exact cob (amb hin)))⟩,⟨_,rfl,(CoR.refl _)⟩,tt⟩,⟨⟨_,rfl,(by first | (rw [wv ha];exact CoO.refl _) | (rw [n4 ha];exact CoO.refl _))⟩,⟨_,rfl,(by first | (rw [wv ha];exact CoO.refl _) | (rw [n4 ha];exact CoO.refl _))⟩,uu⟩⟩
   have h2:=tz2 r2;have ha:agB d (U.getD i default) (U.getD k default) = false:=blj h2;(iterate 29 refine k9 (gft r2) ?_);refine d5 ?_;refine ⟨(g - 1,mvS d U i k,k + 1), ?_, ?_, ?_⟩
   · exact hI.next hkl
   · dsimp only;omega
   exact ⟨⟨⟨_,rfl,(by first | (rw [wv ha];exact CoR.refl _) | (rw [n4 ha];exact cob (apq hpre hin)) | (rw [n4 ha];exact cob (amb hin)))⟩,⟨_,rfl,(CoR.refl _)⟩,tt⟩,⟨⟨_,rfl,(by first | (rw [wv ha];exact CoO.refl _) | (rw [n4 ha];exact CoO.refl _))⟩,⟨_,rfl,(by first | (rw [wv ha];exact CoO.refl _) | (rw [n4 ha];exact CoO.refl _))⟩,uu⟩⟩
  have hU:=hI.done bsq;have hT1l:=hO.pos.2;refine w_6 ?_;refine ⟨(f - 1,U,i + 1), ?_, ?_, ?_⟩
  · exact hO.next hil hU
  · dsimp only;omega
  exact ⟨⟨⟨_,rfl,(CoR.refl _)⟩,⟨_,rfl,(CoR.refl _)⟩,tt⟩,uu⟩
 have hT:T1 = mvO d FU2 T 0:=hO.done bsq;subst hT;refine w_6 ?_;refine hrr ?_;exact ⟨_,_,rfl,bss,CoR.refl _,uu⟩
end
section
structure ChI (l m:List Fd) (R:List AS) (x:Nat × List AS × Bool):Prop where
 nd:x.2.1.Nodup
 t:x.2.2 = true -> chF l m x.1 x.2.1 = R /\ muT x.2.1 < x.1
 f:x.2.2 = false -> x.2.1 = R
def avi (x:Nat × List AS × Bool):Nat:=x.1 + (bif x.2.2 then 1 else 0)
def b9r {f:Nat} {T U:List AS} {c:Bool} (h:0 < f):avi (f - 1,U,c) < avi (f,T,true):=by
 cases c <;> simp only [avi,cond_true,cond_false] <;> omega
theorem ChI.start (l m:List Fd) (rest:AS):ChI l m (chT l m rest) (MU,ac5 rest,true):=⟨b7q rest,fun _=>⟨rfl,ayd _⟩,fun h=>by cases h⟩
theorem ChI.next {l m:List Fd} {R T:List AS} {f:Nat} (h:ChI l m R (f,T,true)):ChI l m R (f - 1,(pw l m T).1,(pw l m T).2) /\ 0 < f:=by
 obtain ⟨h1,h2⟩:=h.t rfl;have h2:muT T < f:=h2;have h1:chF l m f T = R:=h1;have hn:T.Nodup:=h.nd;obtain ⟨g,rfl⟩:∃ g,f = g + 1:=⟨f - 1,by omega⟩;unfold chF at h1;refine ⟨⟨a9m akq auy hn,fun hc=>?_,fun hc=>?_⟩,by omega⟩
 · have hc:(pw l m T).2 = true:=hc
   rw [if_pos hc] at h1;have:=ax8 hn hc;exact ⟨h1,by show muT (pw l m T).1 < g;omega⟩
 have hc:(pw l m T).2 = false:=hc;rw [if_neg (by rw [hc];decide)] at h1;exact h1
def my (l:List Fd) (T:List AS) (i:Nat):TC:=(l.take i).foldl fdR (T,false)
def ain {l:List Fd} {T:List AS} {i:Nat} (h:i < l.length):my l T (i + 1) = fdR (my l T i) (l.getD i default):=by
 unfold my;rw [aw h,bpk];rfl
def asv {l:List Fd} {T:List AS} {i:Nat} (h:T.Nodup):(my l T i).1.Nodup:=aah (fs:=l) akq (l.take i) (T,false) (fun _ h=>bq8 h) h
def mvX (m:List Fd) (x:TC) (i:Nat):TC:=(m.take i).foldl mvR x
def y8 {m:List Fd} {x:TC} {i:Nat} (h:i < m.length):mvX m x (i + 1) = mvR (mvX m x i) (m.getD i default):=by
 unfold mvX;rw [aw h,bpk];rfl
def bed {m:List Fd} {x:TC} {i:Nat} (h:x.1.Nodup):(mvX m x i).1.Nodup:=ahe (ms:=m) auy (m.take i) x (fun _ h=>bq8 h) h
def bjq (l m:List Fd) (T:List AS):mvX m (my l T l.length) m.length = pw l m T:=by
 unfold mvX my pw;rw [bog,bog]
structure FdI (d:Fd) (U0:List AS) (x:Nat × List AS × Bool):Prop where
 nd:x.2.1.Nodup
 res:tf d x.1 x.2.1 = tf d FU2 U0
 fuel:(orL x.2.1).toNat < x.1
 f:x.2.2 = false -> x.2.1 = U0
 t:x.2.2 = true -> (fdT d U0).isSome = true
section
variable {d:Fd} {U0 U:List AS} {g:Nat} {b c:Bool} {s:AS}
theorem FdI.start (h:U0.Nodup):FdI d U0 (FU2,U0,false):=⟨h,rfl,bqh (orL U0).isLt (show 2 ^ 32 <= FU2 by decide),fun _=>rfl,fun h=>by cases h⟩
theorem FdI.len (h:FdI d U0 (g,U,b)):U.length <= 8589934592:=bon (yo (show U.Nodup from h.nd)) bsu
theorem FdI.next (h:FdI d U0 (g,U,b)) (hq:fdT d U = some s):FdI d U0 (g - 1,ln U s,true) /\ 0 < g:=by
 have h3:(orL U).toNat < g:=h.fuel;have h2:tf d g U = tf d FU2 U0:=h.res;obtain ⟨k,rfl⟩:∃ k,g = k + 1:=⟨g - 1,by omega⟩;rw [a2h hq] at h2;have h4:=ag5 hq;refine ⟨⟨aem U s,h2,(by show (orL (ln U s)).toNat < k;omega),(fun hc=>by cases hc),fun _=>?_⟩,by omega⟩
 cases hb:b with
 | true=>exact h.t hb
 | false =>
  have e:U = U0:=h.f hb;rw [<- e,hq];rfl
theorem FdI.done (h:FdI d U0 (g,U,b)) (hq:fdT d U = none):(U,c || b) = fdR (U0,c) d:=by
 have h2:tf d g U = tf d FU2 U0:=h.res;rw [a2e hq] at h2;unfold fdR;rw [<- h2]
 cases hb:b with
 | true=>rw [h.t hb]
 | false =>
  have e:U = U0:=h.f hb;rw [<- e,hq];rfl
end
def aap {x:TC} {d:Fd}:mvR x d = (mvO d FU2 x.1 0,x.2 || decide (x.1.length < (mvO d FU2 x.1 0).length)):=rfl
end
section
open Go.Proofs
def b0n (n:Int) (l m:List Fd) (x:AS):a7 btb 206 [pI n,pP (fdl l),pP (fdl m),pA x] (aa [.agg [asl (chT l m (a6 n &&& ~~~x))]]):=by
 refine hpx (nt:=44) Tryz.func206 ?_;refine cq 1 rfl fun hbl=>?_;refine cq 2 rfl fun hbm=>?_;refine sx7 ?_;refine m9 900 ?_;refine w_3 ?_;refine m9 901 ?_;refine qy ?_;refine m9 902 ?_;refine w_5 ?_;refine qcx x4 (w4 n) ?_;refine w_2 ?_;refine ik rfl rfl rfl rfl rfl rfl agl (((b3o [0] (a6 n &&& ~~~x) bsu).swap 1000 902).swap 1001 901) (⟨xk.refl _,(CoP.of_eq (congrArg (fun z=>PV.raw (.int .u32 z)) (it _ _))),trivial⟩) ⟨u9,⟨_,rfl,(y4 (CoP.refl _))⟩,trivial⟩ rfl rfl ?_;refine w_7 ?_;refine ah (ι:=(Nat × List AS × Bool)) (ka 1 (ka 2 (ka 8 (ka 9 kn)))) (kb 900 km) (fun y=>⟨[(10,some (vB y.2.2))],[(902,some (.box [.ref 901 y.2.1.length])),(901,some (.arr true 1 46 y.2.1.length (lf sC y.2.1)))]⟩) (fun y=>ChI l m (chT l m (a6 n &&& ~~~x)) y) (fun y=>avi y) ((MU,ac5 (a6 n &&& ~~~x),true)) (ChI.start l m (a6 n &&& ~~~x)) ⟨⟨⟨_,rfl,(CoR.refl _)⟩,trivial⟩,uu⟩ ?_;rintro ⟨f,T,ag⟩ hC;refine w_5 ?_;refine am _ rfl (fun r0=>?_) (fun r0=>?_)
 ·
  have h0:=r0;obtain rfl:ag = true:=r0;obtain ⟨hC2,hf⟩:=hC.next
  have hT:T.Nodup:=hC.nd;refine i6 ?_;refine bp (ka 1 (ka 2 (ka 8 (ka 9 kn)))) (kb 900 km) (fun i=>⟨[(10,some (vB (my l T i).2)),(11,some (vI i))],[(902,some (.box [.ref 901 (my l T i).1.length])),(901,some (.arr true 1 46 (my l T i).1.length (lf sC (my l T i).1)))]⟩) l.length ⟨⟨⟨_,rfl,(CoR.refl _)⟩,⟨_,rfl,(CoR.refl _)⟩,trivial⟩,uu⟩ ?_;rintro i hi;refine w_8 ?_;refine hcd (fun h1=>?_) (fun h1=>?_)
  ·
   have hil:i < l.length:=by omega
   refine w_4 ?_;refine ah (ι:=(Nat × List AS × Bool)) (ka 1 (ka 2 (ka 8 (ka 9 (ka 11 kn))))) (kb 900 km) (fun y=>⟨[(10,some (vB ((my l T i).2 || y.2.2)))],[(902,some (.box [.ref 901 y.2.1.length])),(901,some (.arr true 1 46 y.2.1.length (lf sC y.2.1)))]⟩) (fun y=>FdI (l.getD i default) (my l T i).1 y) (fun y=>y.1) ((FU2,(my l T i).1,false)) (FdI.start (asv hT)) ⟨⟨⟨_,rfl,(cob bst)⟩,trivial⟩,uu⟩ ?_;rintro ⟨g,U,b⟩ hF;refine w_2 ?_
   rcases hq:fdT (l.getD i default) U with _ | s
   ·
    refine w_5 ?_;refine fc9 (wgx Tryz.func240) ((bl9 U (l.getD i default) hq hF.len).swap 1000 902) uu ?_;refine cu ?_;refine am _ rfl (fun r2=>?_) (fun r2=>?_)
    · have h2:=r2;cases r2
    have h2:=r2;have hd:=hF.done (c:=(my l T i).2) hq;have hd1:U = (my l T (i + 1)).1:=by rw [ain hil];exact congrArg Prod.fst hd
    have hd2:((my l T i).2 || b) = (my l T (i + 1)).2:=by rw [ain hil];exact congrArg Prod.snd hd
    refine w_6 ?_;exact lpx (i + 1) ⟨⟨⟨_,rfl,(by rw [<- hd2];exact CoR.refl _)⟩,⟨_,rfl,(CoR.refl _)⟩,tt⟩,⟨⟨_,rfl,(by rw [<- hd1];exact CoO.refl _)⟩,⟨_,rfl,(by rw [<- hd1];exact CoO.refl _)⟩,uu⟩⟩
   refine w_5 ?_;refine fc9 (wgx Tryz.func240) ((blg U (l.getD i default) s hq hF.len).swap 1000 902) uu ?_;refine cu ?_;refine am _ rfl (fun r3=>?_) (fun r3=>?_)
   ·
    have h3:=r3;obtain ⟨hF2,hg0⟩:=hF.next hq
    refine w_5 ?_;refine ⟨(g - 1,ln U s,true), ?_, ?_, ?_⟩
    · exact hF2
    · dsimp only;omega
    exact ⟨⟨⟨_,rfl,(cob bst)⟩,tt⟩,uu⟩
   have h3:=r3;cases r3
  obtain rfl:i = l.length:=by omega
  refine w_6 ?_;refine bp (ka 1 (ka 2 (ka 8 (ka 9 kn)))) (kb 900 km) (fun i=>⟨[(10,some (vB (mvX m (my l T l.length) i).2)),(12,some (vI i))],[(902,some (.box [.ref 901 (mvX m (my l T l.length) i).1.length])),(901,some (.arr true 1 46 (mvX m (my l T l.length) i).1.length (lf sC (mvX m (my l T l.length) i).1)))]⟩) m.length ⟨⟨⟨_,rfl,(CoR.refl _)⟩,⟨_,rfl,(CoR.refl _)⟩,trivial⟩,uu⟩ ?_;rintro i hi;refine w_8 ?_;refine hcd (fun h4=>?_) (fun h4=>?_)
  ·
   have hil:i < m.length:=by omega
   refine w_9 ?_;refine fc9 (wgx Tryz.func241) (((bn0 (mvX m (my l T l.length) i).1 (m.getD i default) (bed (asv hT))).swap 1000 902).swap 1001 901) uu ?_;refine cu ?_;refine am _ rfl (fun r5=>?_) (fun r5=>?_)
   · have h5:=r5;have hch:=a2v r5;refine w_8 ?_;exact lpx (i + 1) ⟨⟨⟨_,rfl,(by rw [y8 hil,aap];first | exact cob (by rw [decide_eq_true hch];simp) | exact cob (by rw [decide_eq_false hch];simp))⟩,⟨_,rfl,(CoR.refl _)⟩,tt⟩,⟨⟨_,rfl,(by rw [y8 hil,aap];exact CoO.refl _)⟩,⟨_,rfl,(by rw [y8 hil,aap];exact CoO.refl _)⟩,uu⟩⟩
   have h5:=r5;have hch:=a4x r5;refine w_6 ?_;exact lpx (i + 1) ⟨⟨⟨_,rfl,(by rw [y8 hil,aap];first | exact cob (by rw [decide_eq_true hch];simp) | exact cob (by rw [decide_eq_false hch];simp))⟩,⟨_,rfl,(CoR.refl _)⟩,tt⟩,⟨⟨_,rfl,(by rw [y8 hil,aap];exact CoO.refl _)⟩,⟨_,rfl,(by rw [y8 hil,aap];exact CoO.refl _)⟩,uu⟩⟩
  obtain rfl:i = m.length:=by omega
  have hron:=bjq l m T;refine dy ?_;refine ⟨(f - 1,(pw l m T).1,(pw l m T).2), ?_, ?_, ?_⟩
  · exact hC2
  · exact b9r hf
  exact ⟨⟨⟨_,rfl,(by rw [<- hron];exact CoR.refl _)⟩,tt⟩,⟨⟨_,rfl,(by rw [<- hron];exact CoO.refl _)⟩,⟨_,rfl,(by rw [<- hron];exact CoO.refl _)⟩,uu⟩⟩
 have h0:=r0;obtain rfl:ag = false:=r0;have hl:T = (chT l m (a6 n &&& ~~~x)):=hC.f rfl;subst hl;refine w_6 ?_;refine agm 900 0 rfl rfl rfl rfl rfl ?_;exact hx8 rfl rfl rfl (⟨CoC.refl _,trivial⟩)
def b66 (T:List AS):a7 btb 207 [.agg [asl T]] (aa [pA (orL T)]):=by
 refine hpx (nt:=20) Tryz.func207 ?_;refine sx7 ?_;refine m9 0 ?_;refine w_8 ?_;refine b6b 0 0 rfl rfl fun hb=>?_;refine w_4 ?_;refine bp (ka 1 kn) (kb 0 km) (fun i=>⟨[(3,some (vA (orL (T.take i)))),(4,some (vI i))],[]⟩) T.length ⟨⟨⟨_,rfl,(CoR.refl _)⟩,⟨_,rfl,(CoR.refl _)⟩,trivial⟩,trivial⟩ ?_;rintro i hi;refine w_9 ?_;refine hcd (fun h0=>?_) (fun h0=>?_)
 · refine ao5 ?_;exact lpx (i + 1) ⟨⟨⟨_,rfl,(bz ((bOr _ _).trans (congrArg asI (a4u bsq).symm)))⟩,⟨_,rfl,(CoR.refl _)⟩,tt⟩,uu⟩
 obtain rfl:i = T.length:=by omega
 rw [show T.take T.length = T from bog];refine v_6 ?_;exact CoL.refl _
def ay0 (n:Int) (l m:List Fd) (x:AS):a7 btb 159 [pI n,pP (fdl l),pP (fdl m),pA x] (aa [pA (a6 n &&& ~~~(orL (chT l m (a6 n &&& ~~~x))))]):=by
 refine hpx (nt:=18) Tryz.func159 ?_;refine w_7 ?_;refine qcx x4 (w4 n) ?_;refine w_4 ?_;refine qcx (wgx Tryz.func206) (b0n n l m x) ?_;refine qcx (wgx Tryz.func207) (b66 (chT l m (a6 n &&& ~~~x))) ?_;refine v_3 ?_;exact ⟨cci (it _ _),trivial⟩
end
section
def abo (a b:AS):Bool:=xw b a
def a33 (l:List AS):List AS:=wt abo l
def okM (l:List AS) (i k:Nat):Bool:=(List.range k).all fun j=>decide (j = i) || !xw (l.getD j default) (l.getD i default)
def b1u (l:List AS) (i k:Nat):okM l i (k + 1) = (okM l i k && (decide (k = i) || !xw (l.getD k default) (l.getD i default))):=by
 unfold okM;rw [bq7,List.all_append];simp
def okM_succ' (l:List AS) (i k:Nat):okM l i (k + 1) = (okM l i k && (decide ((k:Int) = i) || !xw (l.getD k default) (l.getD i default))):=by
 rw [b1u,decide_eq_decide.2 (show (k:Int) = i <-> k = i by omega)]
section
variable {l:List AS}
def ate {i:Nat} (hn:l.Nodup) (hi:i < l.length):okM l i l.length = !ws abo l (l.getD i default):=by
 rw [bqf];unfold okM ws abo;rw [bp1,boz,bpw];constructor
 · intro h b hb hc
   obtain ⟨j,hj,rfl⟩:=bou hb;have:=h j (bor.2 hj);simp only [boc,decide_eq_true_eq,bph,boz,bo7,bo6 hj,bo6 hi,bp0] at this hc
   rcases this with h1 | h1
   · subst h1;exact hc.1 rfl
   rw [hc.2] at h1;cases h1
 intro h j hj;have hj:=bor.1 hj;have:=h l[j] (bp3 hj);simp only [bo7,bo6 hj,bo6 hi,bp0,bph,decide_eq_true_eq,boz,boc] at this ⊢;by_cases e:j = i
 · exact .inl e
 right;rw [bol];intro hs;refine this ⟨fun he=>e ?_,hs⟩;exact ((List.getElem_inj hn).1 he).symm
def sn (l:List AS) (i:Nat):List AS:=((ord l).take i).filter fun x=>!ws abo (ord l) x
def a9z {i:Nat} (hi:i < (ord l).length) (h:okM (ord l) i (ord l).length = true):sn l (i + 1) = sn l i ++ [(ord l).getD i default]:=by
 rw [ate (yw l) hi] at h;unfold sn;rw [aw hi,bpr];simp only [bpp,h,if_true,bq9]
def a9e {i:Nat} (hi:i < (ord l).length) (h:okM (ord l) i (ord l).length = false):sn l (i + 1) = sn l i:=by
 rw [ate (yw l) hi] at h;unfold sn;rw [aw hi,bpr];simp only [bpp,h,bpe,if_false,bq9,bpd]
def b1g (l:List AS) (i:Nat):(sn l i).length <= i:=by
 unfold sn;exact bon (bqb _ _) bt6
def ayc (l:List AS):sn l (ord l).length = a33 l:=by
 unfold sn a33 wt;rw [bog]
def aov {z:AS}:z ∈ a33 l <-> z ∈ l /\ ∀ b ∈ l,sub b z -> b = z:=by
 unfold a33 wt;rw [bpq,gn,boz,bol];refine and_congr Iff.rfl ?_;unfold ws abo xw;rw [Ne,bp4];constructor
 · intro h b hb hs
   apply Classical.byContradiction;intro hne;exact h ⟨b,gn.2 hb,by rw [boc,decide_eq_true_eq,decide_eq_true_eq];exact ⟨fun e=>hne e.symm,hs⟩⟩
 rintro h ⟨b,hb,hc⟩;rw [boc,decide_eq_true_eq,decide_eq_true_eq] at hc;exact hc.1 (h b (gn.1 hb) hc.2).symm
def b5u (l:List AS):t8 (a33 l):=List.Pairwise.filter _ (ja l)
def b5k (l:List AS):(a33 l).length <= l.length:=bon (bqb _ _) (n3 l)
def yq (rest L x:AS) (T:List AS) (y:AS):Bool:=!decide (y = 0) && (decide (y &&& ~~~rest = 0) && decide ((L &&& ~~~(x ||| y)) ∈ T))
def yL (rest L x:AS) (T:List AS) (k:Nat):List AS:=((List.range k).map (BitVec.ofNat 32)).filter (yq rest L x T)
end
section
variable {rest L x:AS} {T:List AS} {k:Nat}
def b1h:yL rest L x T 1 = []:=by
 unfold yL;rw [show List.range 1 = [0] from rfl];simp only [bpt,bs2,bpp,bq9];rw [if_neg];unfold yq;rw [decide_eq_true (show BitVec.ofNat 32 0 = 0 from rfl)];intro h;cases h
def ahc (h:yq rest L x T (BitVec.ofNat 32 k) = true):yL rest L x T (k + 1) = yL rest L x T k ++ [BitVec.ofNat 32 k]:=by
 unfold yL;rw [bq7,bqi,bpr];simp only [bpt,bs2,bpp,bq9,h,if_true]
def ah9 (h:yq rest L x T (BitVec.ofNat 32 k) = false):yL rest L x T (k + 1) = yL rest L x T k:=by
 unfold yL;rw [bq7,bqi,bpr];simp only [bpt,bs2,bpp,bq9,h,bpe,if_false,bpd]
def ay4:(yL rest L x T k).length <= k:=by
 unfold yL;exact bon (bqb _ _) (by rw [bp2,bqm];exact bo9 _)
def bhk {z:AS}:z ∈ yL rest L x T (rest.toNat + 1) <-> qB T L x rest z:=by
 unfold yL yq qB;rw [bpq,boo,boc,boc,boz,decide_eq_false_iff_not,decide_eq_true_eq,decide_eq_true_eq];constructor
 · rintro ⟨_,h1,h2,h3⟩
   exact ⟨h1,h2,h3⟩
 rintro ⟨h1,h2,h3⟩;exact ⟨⟨z.toNat,bor.2 (by have:=a8g h2;omega),by simp⟩,h1,h2,h3⟩
end
def bbv (n:Int) (x:AS):(a6 n &&& ~~~x) &&& x = 0:=k7.2 fun i hi h=>by
 rw [c7 hi,boc] at h;simpa using h.2
def awe (n:Int) (l m:List Fd) (x:AS):a33 (yL (a6 n &&& ~~~x) (orL (chT l m (a6 n &&& ~~~x))) x (chT l m (a6 n &&& ~~~x)) ((a6 n &&& ~~~x).toNat + 1)) = dt n l m x:=by
 obtain ⟨h1,h2⟩:=alg (fs:=l) (ms:=m) (rest:=a6 n &&& ~~~x);refine apx (b5u _) fun z=>?_;rw [aov,az4 aq2 (a3j (j5 l m) (a6 n &&& ~~~x)).1 h1 h2 (bbv n x) z];simp only [bhk]
section
variable {a:Nat}
def ba3 {b:AS} (h:bsz b = 1) (ha:b.getLsbD a = true):b = j8 a:=by
 rw [vc] at h;have h1:a ∈ al b:=gi.2 ⟨a1g ha,ha⟩
 cases hm:al b with
 | nil=>rw [hm] at h1;cases h1
 | cons c r =>
  rw [hm] at h h1;have hr:r = []:=brl.1 (by simpa using h);subst hr;have e:a = c:=by simpa using h1
  subst e;apply mf;intro i hi;rw [fp (a1g ha) hi]
  cases hb:b.getLsbD i with
  | true =>
   have:i ∈ al b:=gi.2 ⟨hi,hb⟩;rw [hm] at this;simpa using this
  | false =>
   symm;rw [decide_eq_false_iff_not];rintro rfl;rw [ha] at hb;cases hb
def b33 (ha:a < 32):bsz (j8 a) = 1:=by
 unfold bsz
 have e:(List.range 32).countP (fun i=>(j8 a).getLsbD i) = (List.range 32).countP fun i=>decide (i = a):=by
  apply List.countP_congr;intro i hi;rw [bor] at hi;rw [fp ha hi]
 rw [e]
 have h2:∀ k,(List.range k).countP (fun i=>decide (i = a)) = if a < k then 1 else 0:=by
  intro k
  induction k with
  | zero=>simp
  | succ k ih =>
   rw [bq7,bsd,ih];simp only [bqs,List.countP_nil];by_cases h:k = a
   · subst h
     simp
   have hd:¬ decide (k = a) = true:=fun q=>h (of_decide_eq_true q);rw [if_neg hd];by_cases h3:a < k
   · rw [if_pos h3,if_pos (show a < k + 1 by omega)]
   rw [if_neg h3,if_neg (show ¬ a < k + 1 by omega)]
 rw [h2,if_pos ha]
def aoi {l:List Fd}:∀ {bs:List AS} {o:AS},(wc l o bs).getLsbD a = true <-> o.getLsbD a = true \/ ∃ b ∈ bs,bsz b = 1 /\ l.any (a0u b) = true /\ b.getLsbD a = true
 | [],o=>by simp [wc]
 | b :: bs,o=>by
  show (wc l (xb l o b) bs).getLsbD a = true <-> _;rw [aoi];unfold xb;constructor
  · rintro (h | ⟨c,hc,h⟩)
    · split at h
      · split at h
        · rw [bpj,bph] at h
          rcases h with h | h
          · exact .inl h
          exact .inr ⟨b,by simp,by assumption,by assumption,h⟩
        exact .inl h
      exact .inl h
    exact .inr ⟨c,by simp [hc],h⟩
  rintro (h | ⟨c,hc,h1,h2,h3⟩)
  · left
    split
    · split
      · rw [bpj,h];rfl
      exact h
    exact h
  rcases bok.1 hc with rfl | hc
  · left
    rw [if_pos h1,if_pos h2,bpj,h3,bsp]
  exact .inr ⟨c,hc,h1,h2,h3⟩
def aid {f:Fd} (ha:a < 32):a0u (j8 a) f = true <-> f.rhs.getLsbD a = true /\ f.lhs.getLsbD a = false:=by
 unfold a0u;rw [boz,decide_eq_false_iff_not];constructor
 · intro h
   obtain ⟨i,hi,h1,h2⟩:=z6 h;rw [fp ha hi] at h2;have e:i = a:=by simpa using h2
   subst e;rw [c7 hi,boc] at h1;exact ⟨h1.1,by simpa using h1.2⟩
 rintro ⟨h1,h2⟩ h;have:=k7.1 h a ha (by rw [c7 ha,h1,h2];rfl);rw [fp ha ha] at this;simp at this
def bcd {n:Int} {l m:List Fd} {x:AS} (ha:a < 32):(rz n l m x).getLsbD a = true <-> x.getLsbD a = true \/ adg l (blks (j5 l m) (a6 n &&& ~~~x)) a:=by
 unfold rz;rw [aoi];refine or_congr Iff.rfl ?_;unfold dt adg;constructor
 · rintro ⟨b,hb,h1,h2,h3⟩
   have e:=ba3 h1 h3;subst e;obtain ⟨f,hf,hc⟩:=bp4.1 h2;exact ⟨gn.1 hb,f,hf,(aid ha).1 hc⟩
 rintro ⟨h1,f,hf,h2⟩;exact ⟨j8 a,gn.2 h1,b33 ha,bp4.2 ⟨f,hf,(aid ha).2 h2⟩,by rw [fp ha ha];simp⟩
def b3n {n:Int} {l m:List Fd} {x:AS} (hx:sub x (a6 n)):a6 n &&& ~~~(orL (chT l m (a6 n &&& ~~~x))) = rz n l m x:=by
 obtain ⟨h1,h2⟩:=alg (fs:=l) (ms:=m) (rest:=a6 n &&& ~~~x);have hf:=aq2 (fs:=l) (ms:=m) (rest:=a6 n &&& ~~~x);obtain ⟨hb,hs⟩:=a3j (j5 l m) (a6 n &&& ~~~x);have hr:=(hf.j.r _ h1).1;obtain ⟨L,q1,q2,q3⟩:=hf.j.top;have eL:orL (chT l m (a6 n &&& ~~~x)) = L:=br (q2 _ h1) (h2 _ q1);apply mf;intro a ha;rw [c7 ha,bqf,boc,boz,bcd ha];constructor
 · rintro ⟨p1,p2⟩
   cases hxa:x.getLsbD a with
   | true=>exact .inl rfl
   | false =>
    right;rw [eL] at p2;exact q3 a ha (by rw [c7 ha,p1,hxa];rfl) p2
 rintro (p | p)
 · refine ⟨ae.1 hx a ha p, ?_⟩
   cases hl:(orL (chT l m (a6 n &&& ~~~x))).getLsbD a with
   | false=>rfl
   | true =>
    have:=ae.1 hr a ha hl;rw [c7 ha,p] at this;simp at this
 have p0:=p;obtain ⟨p1,_⟩:=p;have:=ae.1 (hb.sub p1) a ha (by rw [fp ha ha];simp);rw [c7 ha,boc] at this;exact ⟨this.1,b4n hf hb h1 h2 ha p0⟩
end
end
section
section
variable {n:Int} {l:List Fd}
section
variable {ps:List AS}
def b1m {s q:AS} (h:q ∈ oe n l ps s):q ∈ ps:=by
 unfold oe at h;split at h
 · exact List.mem_of_mem_eraseIdx h
 exact h
variable {p0:List AS}
def aiq:∀ {j:Nat} {q:AS},q ∈ a5e n l p0 j -> q ∈ p0
 | 0,q,h=>h
 | j + 1,q,h=>aiq (j:=j) (b1m h)
def b52 {s:AS} (h:ps.Nodup):(oe n l ps s).Nodup:=by
 unfold oe;split
 · exact h.sublist (List.eraseIdx_sublist _ _)
 exact h
def als (h:p0.Nodup):∀ j,(a5e n l p0 j).Nodup
 | 0=>h
 | j + 1=>b52 (als h j)
def aw9 {s:AS} (h:kz n l ps = true):kz n l (oe n l ps s) = true:=by
 unfold oe;split
 · rename_i e;exact e
 exact h
def a4t (h:kz n l p0 = true):∀ j,kz n l (a5e n l p0 j) = true
 | 0=>h
 | j + 1=>aw9 (a4t h j)
def b8w (hv:au n l = 0) {a b:AS} (h:f5 n l a = true) (hs:sub a b) (hb:sub b (a6 n)):f5 n l b = true:=by
 obtain ⟨_,_,h3⟩:=of_decide_eq_true h;refine decide_eq_true ⟨hv,hb,br (ut hv hb) ?_⟩;rw [<- h3];exact jv hs
def bhw (hv:au n l = 0):∀ (k:Nat) (s:AS),bsz s <= k -> f5 n l s = true -> ∃ q,a5g n l q = true:=by
 intro k
 induction k with
 | zero =>
  intro s hs h;refine ⟨s,as3 h fun a ha=>?_⟩;rw [Bool.and_eq_false_iff];left;rw [bol];intro hb;have h0:sub (noA s a) s:=arz
  have hne:noA s a ≠ s:=fun e=>by
   have h1:(noA s a).getLsbD a = true:=by rw [e];exact hb
   unfold noA at h1
   have ha32:a < 32:=by
    apply Classical.byContradiction;intro hn;rw [BitVec.getLsbD_of_ge s a bsq] at hb;cases hb
   rw [boh,bp7,ey a a ha32] at h1;simp at h1
  have:=j0 h0 hne;omega
 | succ k ih =>
  intro s hs h;by_cases hk:∀ a,a < n.toNat -> (s.getLsbD a && f5 n l (noA s a)) = false
  · exact ⟨s,as3 h hk⟩
  obtain ⟨a,ha⟩:=Classical.not_forall.1 hk;obtain ⟨ha,hb⟩:=Classical.not_imp.1 ha;rw [Bool.not_eq_false,boc] at hb;obtain ⟨hb,hc⟩:=hb
  have hne:noA s a ≠ s:=fun e=>by
   have h1:(noA s a).getLsbD a = true:=by rw [e];exact hb
   unfold noA at h1
   have ha32:a < 32:=by
    apply Classical.byContradiction;intro hn;rw [BitVec.getLsbD_of_ge s a bsq] at hb;cases hb
   rw [boh,bp7,ey a a ha32] at h1;simp at h1
  have:=j0 (arz) hne;exact ih (noA s a) bsq hc
def at8 (h8:fc n l 8 = 0) {q:AS} (h:q ∈ gj n l):sub q (a6 n) /\ cr l q = false:=by
 rw [anv h8,bpq] at h;refine ⟨aij h.1, ?_⟩;have:=h.2;rw [boz] at this;exact this
def b1d {L:List AS} {t:AS} (h:aa8 l (ef L) t):aa8 l L t:=fun p hp=>by
 obtain ⟨y,hy,hpy⟩:=n5 hp;refine ak (gr ?_ ?_) (h y hy)
 · exact ak d6 (jv (gr d6 (ak lu hpy)))
 exact ak lu hpy
def axj {L:List AS} (h:ij l L = true):ij l (ef L) = true:=by
 rw [abs] at h ⊢;intro f hf;have:=of_decide_eq_true (h f hf);refine decide_eq_true (ak this (ahm (b1d (a5q l (ef L) f.lhs)) a4o))
def b6j (h8:fc n l 8 = 0) (hall:ij l (gj n l) = true):kz n l (ef (gj n l)) = true:=by
 obtain ⟨hv,hn8⟩:=sy h8;obtain ⟨h0,h16,_⟩:=f8 hv;have hin:∀ q,q ∈ ef (gj n l) -> sub q (a6 n):=fun q hq=>(at8 h8 (uz.1 hq).1).1
 have e1:orL (ef (gj n l)) = a6 n:=by
  refine br (a85 hin) (ae.2 fun i hi hb=>?_)
  have hsub:sub ((1:AS) <<< i) (a6 n):=ae.2 fun k hk hbk=>by
   rw [ey i k hk] at hbk;rw [of_decide_eq_true hbk];exact hb
  obtain ⟨y,hy,hiy⟩:=n5 (apk h8 hsub b3u);refine ae.1 (sq hy) i hi (ae.1 hiy i hi ?_);rw [ey i i hi];simp
 have e2:=axj hall;have hfull:f5 n l (a6 n) = true:=decide_eq_true ⟨hv,df _,br (ut hv (df _)) j9⟩;obtain ⟨k,hk⟩:=bhw hv _ (a6 n) (bo9 _) hfull
 have hks:f5 n l k = true:=by
  unfold a5g at hk;rw [boc] at hk;exact hk.1
 obtain ⟨_,hksub,_⟩:=of_decide_eq_true hks;obtain ⟨y,hy,hky⟩:=n5 (apk h8 hksub (b4j bsq hk));have e3:(ef (gj n l)).any (f5 n l) = true:=bp4.2 ⟨y,hy,b8w hv hks hky (hin y hy)⟩;unfold kz;rw [e2,e3,decide_eq_true e1];rfl
def anp (h:kz n l ps = true):orL ps = a6 n /\ ij l ps = true /\ ∃ k,k ∈ ps /\ f5 n l k = true:=by
 unfold kz at h;rw [boc,boc] at h;obtain ⟨k,hk,hs⟩:=bp4.1 h.2;exact ⟨of_decide_eq_true h.1.1,h.1.2,k,hk,hs⟩
def bca (h8:fc n l 8 = 0) (h6:n <= 6) (hp:qz n l = true):lsC n (o9 n l) l [] = 0 /\ b3i n l (o9 n l) = true /\ ij l (o9 n l) = true:=by
 obtain ⟨hv,_⟩:=sy h8;obtain ⟨h0,h16,_⟩:=f8 hv
 have hall:a0q n l = true:=by
  unfold qz at hp;rw [decide_eq_true h8,bq1] at hp;exact hp
 have e:=(an1 h8 hall).1;have hg:kz n l (o9 n l) = true:=by rw [e];exact a4t (b6j h8 hall) _
 have hmem:∀ q,q ∈ o9 n l -> sub q (a6 n) /\ cr l q = false:=fun q hq=>by
  rw [e] at hq;exact at8 h8 (uz.1 (aiq hq)).1
 obtain ⟨g1,g2,k,hk,g3⟩:=anp hg;have hlv:lvE n (o9 n l) = 0:=akt h0 h6 (by rw [e];exact als (vz _) _) (fun q hq=>(hmem q hq).1) (bsk hk) (by rw [g1];exact df _);obtain ⟨c1,c2⟩:=baa hlv (b4q hv);obtain ⟨_,_,hkey⟩:=of_decide_eq_true g3;refine ⟨c1, ?_,g2⟩;unfold b3i;rw [c2.2 (zp h0 h16 hk hkey g2),bq1,boz,bpw];intro q hq;rw [(hmem q hq).2];decide
end
end
end
section
def bli (l:List Fd) (p:AS) (k:Nat):List Fd:=(((List.range k).map (BitVec.ofNat 32)).filter fun s=>decide (sub s p)).map fun s=>⟨s,clo l s &&& p⟩
def bo0 (l:List Fd) (ps:List AS) (i:Nat):List Fd:=(ps.take i).flatMap fun p=>bli l p (p.toNat + 1)
def bnn (a b:List Fd):Bool:=b.any fun f=>!imp a f
def bnz (n:Int) (l:List Fd) (ps:List AS):Int:=if au n l = 0 then lsC n ps l [] else au n l
def bo3 (n:Int) (l:List Fd) (ps:List AS):Bool:=decide (au n l = 0) && (lsB n ps l [] && ij l ps && ps.all (jc l))
section
variable {n:Int} {l:List Fd} {ps:List AS}
def b9q (h0:0 <= n) (h8:n <= 8) {q:AS} (hq:sub q (a6 n)):q.toNat < 65536:=by
 have h1:=a8g hq;have h2:∀ k,k <= 8 -> (ky k).toNat < 65536:=by decide +kernel
 have h3:(a6 n).toNat < 65536:=h2 (min n.toNat 32) bsq;omega
def akd (h:lvE n ps = 0) {q:AS} (hq:q ∈ ps):q.toNat < 65536:=b9q (nj h).1 (nj h).2.1 (a7a h hq)
end
end
section
def aep (a b:Bs):bL (a ++ b) = bL a ++ bL b:=by simp [ByteArray.data_append]
def pkV (l:List Fd) (p s:AS):Bool:=!decide (p &&& ~~~(clo l s) = 0)
def pkL (l:List Fd) (p:AS):List AS:=a33 ((av p).filter fun s=>!pkV l p s)
def av8 (ns:List Bs) (k:AS):List UInt8:=32 :: bL (txT ns k)
def qf (ns:List Bs) (ks:List AS) (i:Nat):List UInt8:=(ks.take i).flatMap (av8 ns)
def wj (ns:List Bs) (p:AS):List UInt8:=[112,97,114,116,32] ++ bL (txT ns p) ++ [32,107,101,121,115]
def a83 (ns:List Bs) (l:List Fd) (p:AS):List UInt8:=wj ns p ++ qf ns (pkL l p) (pkL l p).length ++ [10]
def gz (ns:List Bs) (l:List Fd) (ps:List AS) (i:Nat):List UInt8:=(ps.take i).flatMap (a83 ns l)
def a79 (ns:List Bs) (f:Fd):List UInt8:=[108,111,115,116,32] ++ bL (txT ns f.lhs) ++ [32,45,62,32] ++ bL (txT ns f.rhs) ++ [10]
def ju (ns:List Bs) (l:List Fd) (ls:List Nat) (i:Nat):List UInt8:=(ls.take i).flatMap fun j=>a79 ns (l.getD j default)
def kx:List Bs:=[⟨#[108,111,115,115,108,101,115,115]⟩,⟨#[112,114,101,115,101,114,118,105,110,103]⟩,⟨#[116,104,105,114,100]⟩,⟨#[98,111,121,99,101]⟩,⟨#[102,111,117,114,116,104]⟩]
def af0 (c:Int) (i:Nat):Bool:=decide (ap .and .i64 (c.fdiv (2 ^ (min i 64))) 1 = 1)
def a81 (c:Int) (i:Nat):List UInt8:=if af0 c i = true then 32 :: bL (kx.getD i default) else []
def ji (c:Int) (i:Nat):List UInt8:=(List.range i).flatMap (a81 c)
def aln (ns:List Bs) (l:List Fd) (ps:List AS) (c:Int):List UInt8 :=
 gz ns l ps ps.length ++ ju ns l (ca l ps l.length) (ca l ps l.length).length ++ [99,108,97,105,109,115] ++ ji c 5 ++ [10]
section
variable {ns:List Bs} {l:List Fd} {ps:List AS} {c:Int} {i:Nat}
def a6r {α:Type} [Inhabited α] {f:α -> List UInt8} {q:List α} (h:i < q.length):(q.take (i + 1)).flatMap f = (q.take i).flatMap f ++ f (q.getD i default):=by
 rw [List.take_succ,bo6 h,bs9,bo7,bo6 h];simp
def aqq {ks:List AS} (h:i < ks.length):qf ns ks (i + 1) = qf ns ks i ++ av8 ns (ks.getD i default):=a6r h
def aq3 (h:i < ps.length):gz ns l ps (i + 1) = gz ns l ps i ++ a83 ns l (ps.getD i default):=a6r h
def amh {ls:List Nat} (h:i < ls.length):ju ns l ls (i + 1) = ju ns l ls i ++ a79 ns (l.getD (ls.getD i default) default):=a6r h
def a6u:ji c (i + 1) = ji c i ++ a81 c i:=by
 unfold ji;rw [bq7,bs9];simp
def yz {α:Type} {f:α -> List UInt8} {K:Nat}:∀ {q:List α},(∀ x ∈ q,(f x).length <= K) -> (q.flatMap f).length <= K * q.length
 | [],_=>by simp
 | x :: q,h=>by
  have h1:=h x bst;have h2:=yz (q:=q) fun y hy=>h y (by simp [hy]);rw [brk,bob,bov,Nat.mul_succ];omega
def a90 (h:∀ b ∈ ns,b.size <= 1000) (s:AS):(bL (txT ns s)).length <= 32033:=by
 have:=b8s (s:=s) h;rw [afc];omega
def a8b (h:∀ b ∈ ns,b.size <= 1000) {ks:List AS}:(qf ns ks i).length <= 32034 * ks.length:=by
 refine bon (yz (K:=32034) fun x _=>?_) (Nat.mul_le_mul_left _ bt6);have:=a90 h x;show (bL _).length + 1 <= _;omega
def a8j (h:∀ b ∈ ns,b.size <= 1000) (p:AS):(wj ns p).length <= 32043:=by
 have:=a90 h p;unfold wj;simp only [bob,bov,bps];omega
def ae9 {p:AS} (hp:p.toNat < 65536):(pkL l p).length <= 65537:=by
 unfold pkL;refine bon (b5k _) (bon (bqb _ _) ?_);unfold av a03;have h1:=a7b (s:=p) (p.toNat + 1) p;have h2:=n3 (a2o p (p.toNat + 1) p);split
 · simp
 omega
def b0x (h:∀ b ∈ ns,b.size <= 1000) {p:AS} (hp:p.toNat < 65536):(a83 ns l p).length <= 2100000000:=by
 have h1:=a8b (i:=(pkL l p).length) (ks:=pkL l p) h;have h2:=a8j h p;have h3:=ae9 (l:=l) hp;unfold a83;simp only [bob,bov,bps];omega
def av1 (h:∀ b ∈ ns,b.size <= 1000) (hp:∀ p ∈ ps,p.toNat < 65536) (h64:ps.length <= 64):(gz ns l ps i).length <= 134400000000:=by
 have h1:(gz ns l ps i).length <= 2100000000 * (ps.take i).length:=yz (K:=2100000000) fun x hx=>b0x h (hp x (bq8 hx));rw [boi] at h1;omega
def azv (h:∀ b ∈ ns,b.size <= 1000) (f:Fd):(a79 ns f).length <= 64100:=by
 have h1:=a90 h f.lhs;have h2:=a90 h f.rhs;unfold a79;simp only [bob,bov,bps];omega
def ave (h:∀ b ∈ ns,b.size <= 1000) {ls:List Nat} (hl:ls.length <= 64):(ju ns l ls i).length <= 4102400:=by
 have h1:(ju ns l ls i).length <= 64100 * (ls.take i).length:=yz (K:=64100) fun x _=>azv h _;rw [boi] at h1;omega
def aaz (h:i <= 5):(ji c i).length <= 100:=by
 have h1:(ji c i).length <= 20 * (List.range i).length:=yz (K:=20) fun x hx=>by
  unfold a81;split
  · have hx:=bor.1 hx
    have:(bL (kx.getD x default)).length <= 10:=by
     match x,hx with
     | 0,_=>decide
     | 1,_=>decide
     | 2,_=>decide
     | 3,_=>decide
     | 4,_=>decide
     | n + 5,hx=>omega
    show _ + 1 <= _;omega
  exact boe _
 rw [bqm] at h1;omega
def bce {s:AS} {n:Nat} (h8:n <= 16) (h:sub s (a6 n)) {i:Nat} (hi:i ∈ al s):i < n:=by
 obtain ⟨h32,hb⟩:=gi.1 hi;have:=ae.1 h i h32 hb
 have hn:¬ n <= i:=fun hle=>by
  have h2:=(a5r (s:=a6 n) (n:=(n:Int)) bsq bsq).1 (sub_self _);have h3:=congrArg (fun x:AS=>x.getLsbD (i - n)) h2;simp only [bop,br7,show n + (i - n) = i by omega,this] at h3;simp at h3
 omega
def bbr {j:Nat} (h:j < (ca l ps l.length).length):(ca l ps l.length).getD j default < l.length:=by
 have hm:(ca l ps l.length).getD j default ∈ ca l ps l.length:=dj h;exact bor.1 (bpq.1 hm).1
def amo:(ca l ps l.length).length <= l.length:=by
 refine bon (bqb _ _) ?_;rw [bqm];exact bo9 _
end
end
section
def x3 (ns:List Bs) (l m:List Fd) (ps:List AS):Int:=if oi ns = 0 then (if lvE ns.length ps = 0 then be ns.length l m else lvE ns.length ps) else oi ns
def agi (ns:List Bs) (l m:List Fd) (ps:List AS) (c:Int):Bs:=if x3 ns l m ps = 0 then bOf (aln ns l ps c) else ⟨#[]⟩
section
variable {ns:List Bs} {l m:List Fd} {ps:List AS} {c:Int} {X:List UInt8}
def bhu (h:¬ oi ns = 0):x3 ns l m ps = oi ns /\ agi ns l m ps c = ⟨#[]⟩:=by
 have e:x3 ns l m ps = oi ns:=if_neg h;exact ⟨e,if_neg (by rw [e];exact h)⟩
def bhr (h:oi ns = 0) (h2:¬ lvE ns.length ps = 0):x3 ns l m ps = lvE ns.length ps /\ agi ns l m ps c = ⟨#[]⟩:=by
 have e:x3 ns l m ps = lvE ns.length ps:=by unfold x3;rw [if_pos h,if_neg h2]
 exact ⟨e,if_neg (by rw [e];exact h2)⟩
def bhq (h:oi ns = 0) (h2:lvE ns.length ps = 0) (h3:¬ be ns.length l m = 0):x3 ns l m ps = be ns.length l m /\ agi ns l m ps c = ⟨#[]⟩:=by
 have e:x3 ns l m ps = be ns.length l m:=by unfold x3;rw [if_pos h,if_pos h2]
 exact ⟨e,if_neg (by rw [e];exact h3)⟩
def bfa (h:oi ns = 0) (h2:lvE ns.length ps = 0) (h3:be ns.length l m = 0):x3 ns l m ps = 0 /\ agi ns l m ps c = bOf (aln ns l ps c):=by
 have e:x3 ns l m ps = 0:=by unfold x3;rw [if_pos h,if_pos h2,h3]
 exact ⟨e,if_pos e⟩
def bho {p k:AS} (h:k ∈ pkL l p):sub k p:=by
 have h1:=(aov.1 h).1;have h2:=(bpq.1 h1).1;unfold av at h2;split at h2
 · cases h2
 exact rt.1 h2
def szA (a b:Bs):(a ++ b).size = a.size + b.size:=ByteArray.size_append
def bl3 (h:∀ b ∈ ns,b.size <= 1000) (s:AS):(txT ns s).size <= 32033:=a90 h s
def bdh {p:AS} {ks:List AS}:X ++ bL ((⟨#[112,97,114,116,32]⟩ ++ txT ns p) ++ ⟨#[32,107,101,121,115]⟩) = X ++ wj ns p ++ qf ns ks 0:=by
 simp [aep,wj,qf]
def bhm {ks:List AS} {k:Nat} (h:k < ks.length):(X ++ qf ns ks k) ++ bL (⟨#[32]⟩ ++ txT ns (ks.getD k default)) = X ++ qf ns ks (k + 1):=by
 rw [aqq h];simp [aep,av8]
section
variable {i:Nat}
def bd1 (h:i < ps.length):(gz ns l ps i ++ wj ns (ps.getD i default) ++ qf ns (pkL l (ps.getD i default)) (pkL l (ps.getD i default)).length) ++ bL ⟨#[10]⟩ = gz ns l ps (i + 1):=by
 rw [aq3 h];simp [a83]
def bcl {ls:List Nat} {j:Nat} (h:j < ls.length) (f:Fd) (hf:f = l.getD (ls.getD j default) default) :
 (X ++ ju ns l ls j) ++ bL ((((⟨#[108,111,115,116,32]⟩ ++ txT ns f.lhs) ++ ⟨#[32,45,62,32]⟩) ++ txT ns f.rhs) ++ ⟨#[10]⟩) = X ++ ju ns l ls (j + 1):=by
 subst hf;rw [amh h];simp [aep,a79]
def az3 (h:af0 c i = true):(X ++ ji c i) ++ bL (⟨#[32]⟩ ++ kx.getD i default) = X ++ ji c (i + 1):=by
 rw [a6u];unfold a81;rw [if_pos h];simp [aep]
def axm (h:af0 c i = false):X ++ ji c i = X ++ ji c (i + 1):=by
 rw [a6u];unfold a81;rw [if_neg (by rw [h];exact bre),bpd]
def b1y {f:Nat -> Nat -> PV} (hi:i < 5) (h0:f 0 0 = bsC (kx.getD 0 default) 0) (h1:f 1 0 = bsC (kx.getD 1 default) 0) (h2:f 2 0 = bsC (kx.getD 2 default) 0) (h3:f 3 0 = bsC (kx.getD 3 default) 0) (h4:f 4 0 = bsC (kx.getD 4 default) 0):f i 0 = bsC (kx.getD i default) 0:=by
 match i,hi with
 | 0,_=>exact h0
 | 1,_=>exact h1
 | 2,_=>exact h2
 | 3,_=>exact h3
 | 4,_=>exact h4
def aow (hi:i < 5):(kx.getD i default).size <= 10:=by
 match i,hi with
 | 0,_=>decide
 | 1,_=>decide
 | 2,_=>decide
 | 3,_=>decide
 | 4,_=>decide
end
end
end
end Go.Hx

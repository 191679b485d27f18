/- A part of the proof: Kw2 Jw1. -/
import Derived.Test.YtmoggbnlhllhaaaGreatDoorUx26
set_option linter.all false
set_option maxRecDepth 100000
set_option maxHeartbeats 1000000
namespace Go.Hx
section
open Go.Proofs
def bel(l:List (List Nat))(g k:Nat)(caps:Nat->PV)(V:List Nat->Bool)(hg:a6 bqh g)(hV:∀x,a7 bqh g (pP (il x)::er caps k 0) (af [pB (V x)])):a7 bqh 145 [pP (ill l),pP (.fn g k caps)] (af [pI (idx V l)]):=by
 refine hpx (nt:=19) Tryz.func145 ?_;refine eq ?_;refine fp 0 rfl fun hn=>?_;refine w_3 ?_;refine dn (ι:=Unit) kn km (fun _i=>⟨[],[]⟩) (fun _i=>idx V l=-1) ?_ ?_
 ·
  refine w_7 ?_;refine ar (ι:=Nat) (ka 0 (ka 1 (ka 7 kn))) km (fun i=>⟨[(8,some (vI i))],[]⟩) (fun i=>i<=l.length/\(∀j,j<i->V (l.getD j default)=false)) (fun i=>l.length-i) (0) (⟨bm3 _,e9⟩) kk ?_;rintro i ⟨hi,hIi⟩;refine w_5 ?_;refine hcd ?_ ?_<;>intro h0
  ·
   refine jd ?_;refine rc rfl rfl rfl rfl rfl rfl hg (hV (l.getD i default)) (CoL.refl _) rfl rfl ?_;refine d5 ?_;refine hcb ?_ ?_<;>intro h1
   · refine v_5 ?_;exact⟨cci (qx (i:=i) bpw hIi bpx).symm,trivial⟩
   refine w_5 ?_;refine lpz (i+1) kk ?_;exact⟨by show i+1<=_;omega,da hIi bpx⟩
  refine dz ?_;refine⟨(), ?_, ?_⟩
  · exact qv fun j hj=>hIi j bpw
  exact⟨trivial,trivial⟩
 rintro _ hj;refine v_4 ?_;exact⟨cci hj.symm,trivial⟩
def api:a6 bqh 150:=wgx Tryz.func150
def b11(l:List (List Nat))(g k:Nat)(caps:Nat->PV)(V:List Nat->Bool)(hg:a6 bqh g)(hV:∀x,a7 bqh g (pP (il x)::er caps k 0) (af [pB (V x)])):dg bqh 150 [.one (.ref 900 l.length), .one (.p (.fn g k caps))] [(900, .arr true 1 57 l.length (lf ilC l))] (.v (.one (.p (ill (l.filter fun x=>!V x))))) [] []:=by
 refine hfx (nt:=42) Tryz.func150 ?_;refine eq ?_;refine ah3 900 rfl fun hlen=>?_;refine w_7 ?_;refine qcx b5n (bel l g k caps V hg hV) ?_;refine w_8 ?_;refine hcd ?_ ?_<;>intro h0
 · refine w_5 ?_;refine be 4 rfl rfl rfl ?_;refine hrr ?_;exact⟨_,_,rfl,bpy,aws (aks bpx),trivial⟩
 obtain⟨i0,hi0,hi1,hi2,hi3⟩:=aih h0;refine w_9 ?_;refine ar (ι:=Nat×Nat×List (List Nat)) (ka 0 (ka 1 kn)) km (fun x=>⟨[(5,some (vI x.1)),(6,some (vI x.2.1))],[(900,some (.arr true 1 57 l.length (lf ilC x.2.2)))]⟩) (fun x=>DfI V l x.1 x.2.1 x.2.2) (fun x=>l.length-x.2.1) ((i0,i0+1,l)) (DfI.start hi1 hi2 hi3) ⟨⟨⟨_,rfl,(coi hi0)⟩,⟨_,rfl,(coi (by dsimp only;omega))⟩,trivial⟩,uu⟩ ?_;rintro x hC;have hC0:=hC;obtain⟨hml,hkq,hql,_,_⟩:=hC0;refine w_8 ?_;refine hcd ?_ ?_<;>intro h1
 ·
  refine jd ?_;refine rc rfl rfl rfl rfl rfl rfl hg (hV (x.2.2.getD (x.2.1:Int).toNat default)) (CoL.refl _) rfl rfl ?_;refine w_2 ?_;refine hcv ?_ ?_<;>intro h2
  ·
   have hv:=h2;refine aam ?_
   first | (refine lpz (x.1+1, x.2.1+1, x.2.2.set x.1 (x.2.2.getD x.2.1 default)) ⟨⟨⟨_, rfl, (coi bq3)⟩, ⟨_, rfl, (coi bq3)⟩, tt⟩, ⟨⟨_, rfl, (sn id hml.symm bpw bpw bpw)⟩, trivial⟩⟩ ?_; exact hC.keep bpw (by simpa using hv))
         |(refine lpz (x.1,x.2.1+1,x.2.2) ⟨⟨⟨_,rfl,(coi bq0)⟩,⟨_,rfl,(coi bq0)⟩,tt⟩,uu⟩ ?_;exact hC.skip bpw (by simpa using hv))
  have hv:=h2;refine w_6 ?_
  first | (refine lpz (x.1+1, x.2.1+1, x.2.2.set x.1 (x.2.2.getD x.2.1 default)) ⟨⟨⟨_, rfl, (coi bq3)⟩, ⟨_, rfl, (coi bq3)⟩, tt⟩, ⟨⟨_, rfl, (sn id hml.symm bpw bpw bpw)⟩, trivial⟩⟩ ?_; exact hC.keep bpw (by simpa using hv))
        |(refine lpz (x.1,x.2.1+1,x.2.2) ⟨⟨⟨_,rfl,(coi bq0)⟩,⟨_,rfl,(coi bq0)⟩,tt⟩,uu⟩ ?_;exact hC.skip bpw (by simpa using hv))
 have hq:=h1;refine w_6 ?_;refine rz9 0 true ?_;refine w_5 ?_;refine as6 rfl rfl rfl rfl rfl ?_;refine w_2 ?_;refine hrr ?_;exact⟨_,_,rfl,bpy,axg hC bpw (by simp[c5]),trivial⟩
def b5q:a6 bqh 151:=wgx Tryz.func151
def ba7 (l:List Nat):a7 bqh 151 [pP (il l)] (af [pB (decide (l.length<2))]):=by
 refine hpx (nt:=6) Tryz.func151 ?_;refine w_5 ?_;refine fp 0 rfl fun hn=>?_;refine v_6 ?_;exact⟨ccb (decide_eq_decide.2 bpw),trivial⟩
def b9v:a6 bqh 92:=wgx Tryz.func92
def beu(ks:List ByteArray)(hks:ks.length<=1000)(hsz:∀i,i<ks.length->(ks.getD i default).size<=maxLen):a7 bqh 92 [pP (aan ks)] (af [pP (ill (adu ks))]):=by
 refine hpx (nt:=46) Tryz.func92 ?_;refine w_5 ?_;refine db [] [0,1] rfl ?_;refine yx (k:=0) (L:=[1]) 901 rfl (fun bg=>?_);refine d9 (E:=ci) (L1:=[1]) (L2:=[]) bw ?_;refine w_2 ?_;refine gk ?_;refine l6 ?_;refine aft 4 900 57 3 1 (fun _=>0) (fun _ _ _=>.any) bq4 rfl rfl ?_;refine ar (ι:=Nat×Array MapEntry×Nat) (ka 3 (ka 10 (ka 11 kn))) km (fun x=>⟨[(4,some (.v (.one (.ref 900 (c6 ks x.1).length)))),(12,some (vI x.1))],[(900,some (grN 57 3 (c6 ks x.1))),(901,some (mpO bg x.2.1 x.2.2))]⟩) (fun x=>x.1<=ks.length/\AtI bqh 9 Value.string x.2.1 x.2.2 (c6 ks x.1)) (fun x=>ks.length-x.1) ((0,#[],0)) (⟨bm3 _,AtI.nil⟩) ⟨tt,⟨⟨_,rfl,(avl rfl)⟩,uu⟩⟩ ?_;rintro⟨i,es,clock⟩ ⟨hi,hA⟩;dsimp only at hi hA ⊢;have hgl:=aa9 (ks:=ks) (i:=i);refine w_5 ?_;refine hcd ?_ ?_<;>intro h0
 ·
  refine l6 ?_;refine db [] [0,1,2,3,4,5,6,7] rfl ?_;refine d9 (E:=ci) (L1:=[0,1]) (L2:=[2,3,4,5,6,7]) bw ?_;refine w_3 ?_;refine a2f (mid:=901) (k:=2) (L:=[3,4,5,6,7]) rfl Tryz.underlying234 (Go.Maps.string_keyed Tryz.underlying9) Tryz.zeroValue3 rfl hA.mx (Go.WideMaps.keyOf_string_mk Tryz.underlying9 (by show(ks.getD i default).size<=maxLen;exact hsz i bpw)) rfl (fun ok v hy hn1=>?_)
  obtain ⟨nv,rfl⟩:∃nv:Int,v=.int .i64 nv:=by
   cases ok with
   | true =>
    obtain⟨e,he,hk,rfl⟩:=hy rfl;obtain⟨r,_,_,h3⟩:=hA.to e he;exact⟨_,h3⟩
   |false=>exact⟨0,(hn1 rfl).1⟩
  refine d9 (E:=ci) (L1:=[3,4,5,6,7]) (L2:=[]) bw ?_;refine w_6 ?_;refine gk ?_;refine dn (ι:=Array MapEntry×Nat) (ka 3 (ka 5 (ka 10 (ka 11 (ka 12 kn))))) km (fun y=>⟨[(4,some (.v (.one (.ref 900 (cz (c6 ks i) (ks.getD i default)).length)))),(7,some (vI (dj (c6 ks i) (ks.getD i default))))],[(900,some (grN 57 3 (cz (c6 ks i) (ks.getD i default)))),(901,some (mpO bg y.1 y.2))]⟩) (fun y=>AtJ bqh 9 Value.string (cz (c6 ks i) (ks.getD i default)) y) ?_ ?_
  ·
   refine ahw ?_;refine w_5 ?_;refine aw _ rfl ?_ ?_<;>intro r1
   ·
    have h1:=dc r1;have hok1:ok=false:=by simpa using r1
    subst hok1;obtain⟨hz0,hno⟩:=hn1 rfl;have hab:(dj (c6 ks i) (ks.getD i default))=(c6 ks i).length:=hA.absent hno;refine w_7 ?_;refine db [] [0,1,2,3] rfl ?_;refine d9 (E:=ci) (L1:=[0,1,2]) (L2:=[3]) bw ?_;refine w_4 ?_;refine xo (mid:=901) (k:=3) (L:=[]) rfl Tryz.underlying234 (Go.Maps.string_keyed Tryz.underlying9) hA.mx (by have:=hA.size;unfold maxLen;omega) (Go.WideMaps.keyOf_string_mk Tryz.underlying9 (by show(ks.getD i default).size<=maxLen;exact hsz i bpw)) rfl rfl (fun es3 clock3 hX3 hP=>?_);refine gk ?_;have hA1:AtJ bqh 9 Value.string (cz (c6 ks i) (ks.getD i default)) (es3,clock3):=hA.put hab hX3 hP;refine db [0,1] [2,3] rfl ?_;refine d9 (E:=ci) bw ?_;refine qy ?_;refine m9 0 ?_;refine d5 ?_;refine xg ?_;refine a47 (n2:=1) 0 0 904 true 1 3 (lf iC []) bq4 rfl bq4 rfl (CoP.sl rfl (.inr rfl) (fun h=>h) (fun i j hi _=>absurd hi (bm6 i))) (.inr rfl) rfl rfl ?_;refine gl ?_;refine d9 (E:=ci) (L1:=[2,3]) (L2:=[]) bw ?_;refine rz9 1 true ?_;refine w_2 ?_;refine gk ?_;show HE _ _ _
    first|refine zc 900 904 rfl rfl ?_|skip
    refine gl ?_;exact⟨_,hA1,⟨⟨⟨_,rfl,(by first|(rw[show(cz (c6 ks i) (ks.getD i default)).length=(c6 ks i).length+1 by unfold cz;rw[if_neg bpw];simp];exact CoR.refl _)|(rw[show(cz (c6 ks i) (ks.getD i default)).length=(c6 ks i).length by unfold cz;rw[if_pos hlt]];exact CoR.refl _))⟩,⟨_,rfl,(by first|(rw[hab];exact CoR.refl _)|exact CoR.refl _)⟩,tt⟩,⟨⟨_,rfl,(by first|exact abe bpw|exact a7p hlt)⟩,uu⟩⟩⟩
   have h1:=df r1;have hok1:ok=true:=by simpa using r1
   obtain⟨e0,he0,hk0,hv0⟩:=hy hok1;obtain⟨hlt,hv1⟩:=hA.found (fun a b e=>Value.string.inj e) ajg he0 hk0;have hnv:nv=_:=(Value.int.inj (hv0.trans hv1)).2;have hA1:AtJ bqh 9 Value.string (cz (c6 ks i) (ks.getD i default)) (es,clock):=hA.keep hlt;obtain rfl:=hnv;refine ej ?_;show HE _ _ _
   first|refine zc 900 904 rfl rfl ?_|skip
   refine gl ?_;exact⟨_,hA1,⟨⟨⟨_,rfl,(by first|(rw[show(cz (c6 ks i) (ks.getD i default)).length=(c6 ks i).length+1 by unfold cz;rw[if_neg bpw];simp];exact CoR.refl _)|(rw[show(cz (c6 ks i) (ks.getD i default)).length=(c6 ks i).length by unfold cz;rw[if_pos hlt]];exact CoR.refl _))⟩,⟨_,rfl,(by first|(rw[hab];exact CoR.refl _)|exact CoR.refl _)⟩,tt⟩,⟨⟨_,rfl,(by first|exact abe bpw|exact a7p hlt)⟩,uu⟩⟩⟩
  rintro⟨es2,clock2⟩ hA2;dsimp only at hA2 ⊢;have hr1:(dj (c6 ks i) (ks.getD i default))<(cz (c6 ks i) (ks.getD i default)).length:=ape;have hrl:=ajz hr1;refine akm 900 (dj (c6 ks i) (ks.getD i default)) 906 907 rfl hr1 avi (fun hd B hbf=>?_) rfl rfl rfl rfl;refine w_6 ?_;refine rq (out:=Out.mk _ (.v (.one (.ref 906 ((cz (c6 ks i) (ks.getD i default)).getD (dj (c6 ks i) (ks.getD i default)) default).2.length)))) rfl rfl rfl (congrArg (fun z=>some (Out.mk _ (HR.v (HC.one z)))) (a0x hd 906 (dj (c6 ks i) (ks.getD i default)) ((cz (c6 ks i) (ks.getD i default)).getD (dj (c6 ks i) (ks.getD i default)) default).2.length 0)) rfl ?_;refine qy ?_;refine m9 2 ?_;refine rz9 3 true ?_;refine w_3 ?_;refine yt ⟨[(3,some _),(4,some _),(10,some _),(11,some _),(12,some _)],[(900,some _),(901,some _),(906,some _),(907,some _)]⟩ kk ?_;refine ahn 4 900 906 907 908 hbf rfl rfl rfl rfl hr1 (by first|exact a0x _ _ _ _ _|exact ast) (fun b _ hne=>by first|exact a64 hne|exact aw0 hne) ?_;refine yt ⟨[(3,some _),(4,some _),(10,some _),(11,some _),(12,some _)],[(901,some _),(908,some _)]⟩ kk ?_;refine ap8 4 908 900 rfl rfl ?_;refine w_4 ?_;refine lpz (i+1,es2,clock2) ⟨⟨⟨_,rfl,(by rw[show(c6 ks (i+1)).length=(cz (c6 ks i) (ks.getD i default)).length by rw[ly,v6,a1r]];exact CoR.refl _)⟩,tt⟩,⟨⟨_,rfl,(anz (by rw[ly,v6]) hr1 (bm rfl (CoP.refl _)))⟩,uu⟩⟩ ?_;exact⟨by show i+1<=_;omega,hA2.modify (by rw[ly,v6])⟩
 obtain rfl:i=ks.length:=by omega
 refine w_2 ?_;refine ap7 900 rfl ?_;refine w_2 ?_;refine nj rfl rfl rfl rfl rfl rfl api ((b11 ((c6 ks ks.length).map (·.2)) 151 0 (fun _=>.any) (fun l=>decide (l.length<2)) b5q (fun x=>ba7 x))) (⟨congrArg (HV.ref 900) (by rw[bn0]),CoP.refl _,trivial⟩) ⟨⟨_,rfl,ans⟩,trivial⟩ rfl rfl ?_;refine v_2 ?_;exact⟨CoC.one (CoP.of_eq (by unfold adu azi;rfl)),trivial⟩
def ak2:Go.WideMaps.ArrKey bqh 301 3 2:=⟨Tryz.underlying301,by kernel_rfl,by kernel_rfl,by kernel_rfl⟩
def bbz:∃m,bqh.types.size=m+1:=⟨340,by kernel_rfl⟩
def k2C (x:Int×Int):Nat->PV
 |0=>.raw (.int .i64 x.1)
 |1=>.raw (.int .i64 x.2)
 |_=>.any
abbrev k2s(l:List (Int×Int)):PV:=psl 2 k2C l
def k2V(x:Int×Int):Value:=.agg #[.int .i64 x.1, .int .i64 x.2]
def b9n (a b:Int×Int) (h:k2V a=k2V b):a=b:=by
 unfold k2V at h;simp only[Value.agg.injEq,Array.mk.injEq,List.cons.injEq,Value.int.injEq,true_and,and_true]at h;exact Prod.ext h.1 h.2
def b3f:a6 bqh 255:=wgx Tryz.func255
def b9x (l:List Nat):a7 bqh 255 [pP (il l)] (af [pB (decide (l.length<2))]):=by
 refine hpx (nt:=6) Tryz.func255 ?_;refine w_5 ?_;refine fp 0 rfl fun hn=>?_;refine v_6 ?_;exact⟨ccb (decide_eq_decide.2 bpw),trivial⟩
def b58:a6 bqh 228:=wgx Tryz.func228
def bdv(ks:List (Int×Int))(hks:ks.length<=1000)(hwf:∀i,i<ks.length->(Lit.int .i64 (ks.getD i default).1).wf=true/\(Lit.int .i64 (ks.getD i default).2).wf=true):a7 bqh 228 [pP (k2s ks)] (af [pP (ill (adu ks))]):=by
 refine hpx (nt:=46) Tryz.func228 ?_;refine w_5 ?_;refine db [] [0,1] rfl ?_;refine yx (k:=0) (L:=[1]) 901 rfl (fun bg=>?_);refine d9 (E:=ci) (L1:=[1]) (L2:=[]) bw ?_;refine w_2 ?_;refine gk ?_;refine l6 ?_;refine aft 4 900 57 3 1 (fun _=>0) (fun _ _ _=>.any) bq4 rfl rfl ?_;refine ar (ι:=Nat×Array MapEntry×Nat) (ka 3 (ka 10 (ka 11 kn))) km (fun x=>⟨[(4,some (.v (.one (.ref 900 (c6 ks x.1).length)))),(12,some (vI x.1))],[(900,some (grN 57 3 (c6 ks x.1))),(901,some (mpO bg x.2.1 x.2.2))]⟩) (fun x=>x.1<=ks.length/\AtI bqh 301 k2V x.2.1 x.2.2 (c6 ks x.1)) (fun x=>ks.length-x.1) ((0,#[],0)) (⟨bm3 _,AtI.nil⟩) ⟨tt,⟨⟨_,rfl,(avl rfl)⟩,uu⟩⟩ ?_;rintro⟨i,es,clock⟩ ⟨hi,hA⟩;dsimp only at hi hA ⊢;have hgl:=aa9 (ks:=ks) (i:=i);refine w_5 ?_;refine hcd ?_ ?_<;>intro h0
 ·
  refine w_8 ?_;refine m9 0 ?_;refine w_4 ?_;refine db [] [0,1,2,3,4,5,6,7] rfl ?_;refine d9 (E:=ci) (L1:=[0,1]) (L2:=[2,3,4,5,6,7]) bw ?_;refine w_3 ?_;refine a2f (mid:=901) (k:=2) (L:=[3,4,5,6,7]) rfl Tryz.underlying320 (Go.Maps.Keyed.of_law ak2.law) Tryz.zeroValue3 rfl hA.mx (Go.WideMaps.keyOf_pair ak2 Tryz.underlying3 bbz (hwf i bpw).1 (hwf i bpw).2) rfl (fun ok v hy hn1=>?_)
  obtain ⟨nv,rfl⟩:∃nv:Int,v=.int .i64 nv:=by
   cases ok with
   | true =>
    obtain⟨e,he,hk,rfl⟩:=hy rfl;obtain⟨r,_,_,h3⟩:=hA.to e he;exact⟨_,h3⟩
   |false=>exact⟨0,(hn1 rfl).1⟩
  refine d9 (E:=ci) (L1:=[3,4,5,6,7]) (L2:=[]) bw ?_;refine w_6 ?_;refine gk ?_;refine dn (ι:=Array MapEntry×Nat) (ka 3 (ka 5 (ka 10 (ka 11 (ka 12 kn))))) km (fun y=>⟨[(4,some (.v (.one (.ref 900 (cz (c6 ks i) (ks.getD i default)).length)))),(7,some (vI (dj (c6 ks i) (ks.getD i default))))],[(900,some (grN 57 3 (cz (c6 ks i) (ks.getD i default)))),(901,some (mpO bg y.1 y.2))]⟩) (fun y=>AtJ bqh 301 k2V (cz (c6 ks i) (ks.getD i default)) y) ?_ ?_
  ·
   refine ahw ?_;refine w_5 ?_;refine aw _ rfl ?_ ?_<;>intro r1
   ·
    have h1:=dc r1;have hok1:ok=false:=by simpa using r1
    subst hok1;obtain⟨hz0,hno⟩:=hn1 rfl;have hab:(dj (c6 ks i) (ks.getD i default))=(c6 ks i).length:=hA.absent hno;refine w_7 ?_;refine db [] [0,1,2,3] rfl ?_;refine d9 (E:=ci) (L1:=[0,1,2]) (L2:=[3]) bw ?_;refine w_4 ?_;refine xo (mid:=901) (k:=3) (L:=[]) rfl Tryz.underlying320 (Go.Maps.Keyed.of_law ak2.law) hA.mx (by have:=hA.size;unfold maxLen;omega) (Go.WideMaps.keyOf_pair ak2 Tryz.underlying3 bbz (hwf i bpw).1 (hwf i bpw).2) rfl rfl (fun es3 clock3 hX3 hP=>?_);refine gk ?_;have hA1:AtJ bqh 301 k2V (cz (c6 ks i) (ks.getD i default)) (es3,clock3):=hA.put hab hX3 hP;refine db [0,1] [2,3] rfl ?_;refine d9 (E:=ci) bw ?_;refine qy ?_;refine m9 1 ?_;refine d5 ?_;refine xg ?_;refine a47 (n2:=1) 1 0 904 true 1 3 (lf iC []) bq4 rfl bq4 rfl (CoP.sl rfl (.inr rfl) (fun h=>h) (fun i j hi _=>absurd hi (bm6 i))) (.inr rfl) rfl rfl ?_;refine gl ?_;refine d9 (E:=ci) (L1:=[2,3]) (L2:=[]) bw ?_;refine rz9 2 true ?_;refine w_2 ?_;refine gk ?_;show HE _ _ _
    first|refine zc 900 904 rfl rfl ?_|skip
    refine gl ?_;exact⟨_,hA1,⟨⟨⟨_,rfl,(by first|(rw[show(cz (c6 ks i) (ks.getD i default)).length=(c6 ks i).length+1 by unfold cz;rw[if_neg bpw];simp];exact CoR.refl _)|(rw[show(cz (c6 ks i) (ks.getD i default)).length=(c6 ks i).length by unfold cz;rw[if_pos hlt]];exact CoR.refl _))⟩,⟨_,rfl,(by first|(rw[hab];exact CoR.refl _)|exact CoR.refl _)⟩,tt⟩,⟨⟨_,rfl,(by first|exact abe bpw|exact a7p hlt)⟩,uu⟩⟩⟩
   have h1:=df r1;have hok1:ok=true:=by simpa using r1
   obtain⟨e0,he0,hk0,hv0⟩:=hy hok1;obtain⟨hlt,hv1⟩:=hA.found b9n ajg he0 hk0;have hnv:nv=_:=(Value.int.inj (hv0.trans hv1)).2;have hA1:AtJ bqh 301 k2V (cz (c6 ks i) (ks.getD i default)) (es,clock):=hA.keep hlt;obtain rfl:=hnv;refine ej ?_;show HE _ _ _
   first|refine zc 900 904 rfl rfl ?_|skip
   refine gl ?_;exact⟨_,hA1,⟨⟨⟨_,rfl,(by first|(rw[show(cz (c6 ks i) (ks.getD i default)).length=(c6 ks i).length+1 by unfold cz;rw[if_neg bpw];simp];exact CoR.refl _)|(rw[show(cz (c6 ks i) (ks.getD i default)).length=(c6 ks i).length by unfold cz;rw[if_pos hlt]];exact CoR.refl _))⟩,⟨_,rfl,(by first|(rw[hab];exact CoR.refl _)|exact CoR.refl _)⟩,tt⟩,⟨⟨_,rfl,(by first|exact abe bpw|exact a7p hlt)⟩,uu⟩⟩⟩
  rintro⟨es2,clock2⟩ hA2;dsimp only at hA2 ⊢;have hr1:(dj (c6 ks i) (ks.getD i default))<(cz (c6 ks i) (ks.getD i default)).length:=ape;have hrl:=ajz hr1;refine akm 900 (dj (c6 ks i) (ks.getD i default)) 906 907 rfl hr1 avi (fun hd B hbf=>?_) rfl rfl rfl rfl;refine w_6 ?_;refine rq (out:=Out.mk _ (.v (.one (.ref 906 ((cz (c6 ks i) (ks.getD i default)).getD (dj (c6 ks i) (ks.getD i default)) default).2.length)))) rfl rfl rfl (congrArg (fun z=>some (Out.mk _ (HR.v (HC.one z)))) (a0x hd 906 (dj (c6 ks i) (ks.getD i default)) ((cz (c6 ks i) (ks.getD i default)).getD (dj (c6 ks i) (ks.getD i default)) default).2.length 0)) rfl ?_;refine qy ?_;refine m9 3 ?_;refine rz9 4 true ?_;refine w_3 ?_;refine yt ⟨[(3,some _),(4,some _),(10,some _),(11,some _),(12,some _)],[(900,some _),(901,some _),(906,some _),(907,some _)]⟩ kk ?_;refine ahn 4 900 906 907 908 hbf rfl rfl rfl rfl hr1 (by first|exact a0x _ _ _ _ _|exact ast) (fun b _ hne=>by first|exact a64 hne|exact aw0 hne) ?_;refine yt ⟨[(3,some _),(4,some _),(10,some _),(11,some _),(12,some _)],[(901,some _),(908,some _)]⟩ kk ?_;refine ap8 4 908 900 rfl rfl ?_;refine w_4 ?_;refine lpz (i+1,es2,clock2) ⟨⟨⟨_,rfl,(by rw[show(c6 ks (i+1)).length=(cz (c6 ks i) (ks.getD i default)).length by rw[ly,v6,a1r]];exact CoR.refl _)⟩,tt⟩,⟨⟨_,rfl,(anz (by rw[ly,v6]) hr1 (bm rfl (CoP.refl _)))⟩,uu⟩⟩ ?_;exact⟨by show i+1<=_;omega,hA2.modify (by rw[ly,v6])⟩
 obtain rfl:i=ks.length:=by omega
 refine w_2 ?_;refine ap7 900 rfl ?_;refine w_2 ?_;refine nj rfl rfl rfl rfl rfl rfl api ((b11 ((c6 ks ks.length).map (·.2)) 255 0 (fun _=>.any) (fun l=>decide (l.length<2)) b3f (fun x=>b9x x))) (⟨congrArg (HV.ref 900) (by rw[bn0]),CoP.refl _,trivial⟩) ⟨⟨_,rfl,ans⟩,trivial⟩ rfl rfl ?_;refine v_2 ?_;exact⟨CoC.one (CoP.of_eq (by unfold adu azi;rfl)),trivial⟩
end
section
open Go.Proofs
def apq:a6 bqh 148:=wgx Tryz.func148
def ane (l:List Int) (n:Int) (hl:l.length<=1000000):dg bqh 148 [.one (.ref 1000 l.length), .one (.p (.raw (.int .i64 n)))] [(1000, .arr true 1 5 l.length (lf byC l))] (.v (.one (.ref 1000 (l++a5m n).length))) [(1000, .arr true 1 5 (l++a5m n).length (lf byC (l++a5m n)))] [1000]:=by
 refine hfx (nt:=22) Tryz.func148 ?_;refine w_7 ?_;refine rqw rfl rfl rfl rfl rfl ?_;refine w_9 ?_;refine c7 (ka 5 kn) km (fun i=>⟨[(0,some (.v (.one (.ref 1000 (l++ur n i).length)))),(6,some (vI (56-8*(i:Int))))],[(1000,some (.arr true 1 5 (l++ur n i).length (lf byC (l++ur n i))))]⟩) 8 ⟨⟨⟨_,rfl,(bo (by simp[ur]))⟩,⟨_,rfl,(coi (by first|rfl|omega))⟩,trivial⟩,⟨⟨_,rfl,(bf (by simp[ur]))⟩,trivial⟩⟩ ?_;rintro i hi;have hlen:(l++ur n i).length=l.length+i:=by simp[ur]
 refine w_6 ?_;refine hcd ?_ ?_<;>intro h0
 · refine w_8 ?_;refine rqw rfl rfl rfl rfl rfl ?_;refine m9 0 ?_;refine rz9 1 true ?_;refine w_7 ?_;exact lpx (i+1) ⟨⟨⟨_,rfl,(bj aj0)⟩,⟨_,rfl,(coi (by first|omega|(dsimp only;omega)))⟩,tt⟩,⟨⟨_,rfl,(bm aj0 (CoP.of_eq (by dsimp only;rw[show((56:Int)-8*(i:Int)).toNat=56-8*i by omega];rfl)))⟩,trivial⟩⟩
 obtain rfl:i=8:=by omega
 refine w_6 ?_;refine hrr ?_;exact⟨_,_,rfl,bpy,fe (by rw[am6]),⟨⟨_,rfl,bf (by rw[am6])⟩,trivial⟩⟩
def b7u:a6 bqh 89:=wgx Tryz.func89
def bqe{p:Prop}(h:p:=by first|exact .inl bpx|exact .inr bpx):p:=h
def bqg{p:Prop}(h:p:=by first|exact fe (by rw[(sj bqe)])|exact fe (by rw[ss bpx,bm2];rfl)|exact fe (by rw[(t6 bpx bpx bpx)];rfl)):p:=h
def bh8(v:Val):a7 bqh 89 [v.pc] (af [pS (tc v),pI (ayz v)]):=by
 refine hpx (nt:=51) Tryz.func89 ?_;refine sx7 ?_;refine m9 0 ?_;refine w_7 ?_;refine qcx aog (c76 v) ?_;refine w_2 ?_;refine hcv ?_ ?_<;>intro h0
 · refine v_5 ?_;exact⟨CoC.one (by rw[b3k bpx];exact CoP.refl _),cci (b6p bpx).symm,trivial⟩
 have hs:=a2g h0;refine w_5 ?_;refine rqw rfl rfl rfl rfl rfl ?_;refine m9 1 ?_;refine w_2 ?_;refine yy kn (kb 0 km) ⟨[(4,some (.v (.one (.ref 1 (tk v).length))))],[(1,some (.arr true 1 5 (tk v).length (lf byC (tk v))))]⟩ ?_ ?_
 ·
  refine l6 ?_;refine aw _ rfl ?_ ?_<;>intro r1
  · have h1:=tz1 r1;refine ej ?_;refine aw _ rfl (fun _=>?_) (fun e=>Bool.noConfusion (r1.symm.trans e));refine w_4 ?_;refine fc9 apq ((ane [kB v] v.num l9).swap 1000 1) ⟨⟨_,rfl,np (CoP.refl _)⟩,trivial⟩ ?_;refine w_2 ?_;exact⟨⟨⟨_,rfl,bqg⟩,trivial⟩,⟨⟨_,rfl,(by first|exact bf (sj bqe)|exact a3k (ss bpx) (CoP.refl _) (CoP.refl _)|(rw[(t6 bpx bpx bpx)];exact np (CoP.refl _)))⟩,uu⟩⟩
  have h1:=tz2 r1;refine w_4 ?_;refine hcd ?_ ?_<;>intro h2
  · refine w_4 ?_;refine fc9 apq ((ane [kB v] v.num l9).swap 1000 1) ⟨⟨_,rfl,np (CoP.refl _)⟩,trivial⟩ ?_;refine w_2 ?_;exact⟨⟨⟨_,rfl,bqg⟩,trivial⟩,⟨⟨_,rfl,(by first|exact bf (sj bqe)|exact a3k (ss bpx) (CoP.refl _) (CoP.refl _)|(rw[(t6 bpx bpx bpx)];exact np (CoP.refl _)))⟩,uu⟩⟩
  refine w_5 ?_;refine hcd ?_ ?_<;>intro h3
  ·
   refine w_9 ?_;refine c7 (ka 1 (ka 26 kn)) (kb 0 km) (fun i=>⟨[(4,some (.v (.one (.ref 1 (vd v i).length)))),(27,some (vI i))],[(1,some (.arr true 1 5 (vd v i).length (lf byC (vd v i))))]⟩) v.str.size ⟨⟨⟨_,rfl,(CoR.refl _)⟩,tt⟩,⟨⟨_,rfl,(np (CoP.refl _))⟩,trivial⟩⟩ ?_;rintro i hi;have hlen:=b3i (v:=v) (i:=i);refine w_5 ?_;refine hcd ?_ ?_<;>intro h4
   ·
    refine jd ?_;refine m9 2 ?_;refine rz9 3 true ?_;refine eu ?_;refine hcd ?_ ?_<;>intro h5
    ·
     refine w_2 ?_;refine m9 4 ?_;refine rz9 5 true ?_;refine w_6 ?_
     first | (refine lpz (i+1) ⟨⟨⟨_, rfl, (by rw[ah6 bpw bpx]; simp only[bm2]; exact CoR.refl _)⟩, tt⟩, ⟨⟨_, rfl, (by rw[ah6 bpw bpx]; exact ag0 rfl (CoP.refl _) (CoP.refl _))⟩, uu⟩⟩ ?_; show i+1<=_; omega)
           |(refine lpz (i+1) ⟨⟨⟨_,rfl,(bj (ah2 bpw bpx))⟩,tt⟩,⟨⟨_,rfl,(bm (ah2 bpw bpx) (CoP.refl _))⟩,uu⟩⟩ ?_;show i+1<=_;omega)
    refine w_5 ?_
    first | (refine lpz (i+1) ⟨⟨⟨_, rfl, (by rw[ah6 bpw bpx]; simp only[bm2]; exact CoR.refl _)⟩, tt⟩, ⟨⟨_, rfl, (by rw[ah6 bpw bpx]; exact ag0 rfl (CoP.refl _) (CoP.refl _))⟩, uu⟩⟩ ?_; show i+1<=_; omega)
          |(refine lpz (i+1) ⟨⟨⟨_,rfl,(bj (ah2 bpw bpx))⟩,tt⟩,⟨⟨_,rfl,(bm (ah2 bpw bpx) (CoP.refl _))⟩,uu⟩⟩ ?_;show i+1<=_;omega)
   obtain rfl:i=v.str.size:=by omega
   refine w_3 ?_;refine m9 6 ?_;refine rz9 7 true ?_;refine w_2 ?_;exact⟨⟨⟨_,rfl,bqg⟩,trivial⟩,⟨⟨_,rfl,(by first|exact bf (sj bqe)|exact a3k (ss bpx) (CoP.refl _) (CoP.refl _)|(rw[(t6 bpx bpx bpx)];exact np (CoP.refl _)))⟩,uu⟩⟩
  refine ej ?_;exact⟨⟨⟨_,rfl,bqg⟩,trivial⟩,⟨⟨_,rfl,(by first|exact bf (sj bqe)|exact a3k (ss bpx) (CoP.refl _) (CoP.refl _)|(rw[(t6 bpx bpx bpx)];exact np (CoP.refl _)))⟩,uu⟩⟩
 refine eq ?_;refine be 4 rfl rfl rfl ?_;refine w_2 ?_;refine rq rfl rfl rfl rfl rfl ?_ (hp:=⟨rfl,fun i hi=>⟨_,rfl⟩⟩);refine v_3 ?_;exact⟨CoC.one (by rw[apf bpx,<- b28];exact CoP.refl _),cci (b42 bpx).symm,trivial⟩
end
end Go.Hx

/- A part of the proof: Jw4 Jw5 Kw9 Jrw3 W5a Y13 Y14 Kw15. -/
import Derived.Test.YtnlcekpflogjkaaGreatDoorTy43
import Derived.Test.YtnlcekpflogjkaaGreatDoorTy44
set_option linter.all false
set_option maxRecDepth 100000
set_option maxHeartbeats 1000000
namespace Go.Hx
section
open Go.Proofs
def ava(t:Tbl)(ps:List AS):a6 bxn 47 [t.pc,pP (asl ps)] (ae [(xi t ps).pc,pI (ow t ps)]):=by
 refine hpx (nt:=182) Tryz.func47 ?_;refine sx7 ?_;refine m9 0 ?_;refine m9 1 ?_;refine w_6 ?_;refine qcx af7 (c88 t) ?_;refine w_7 ?_;refine hcn ?_ ?_<;>intro h0
 · refine w_7 ?_;refine hrr ?_;have he:=bev (ps:=ps) (by assumption:¬dg t=0);exact f9 rfl rfl (⟨(by rw[agh he bwx];exact CoC.agg ⟨CoP.refl _,sw,sw,trivial⟩),cci he.symm,trivial⟩)
 have h0:dg t=0:=by assumption
 have ht:=mc.1 h0;have hna:=ht.na;have hnr:=ht.nr;have hw:∀i,i<t.rows.length->(t.rows.getD i default).vals.length=t.attrs.length:=fun i hi=>ht.width hi;have hw':∀i:Nat,i<t.rows.length->(t.rows.getD ((i:Int)).toNat default).vals.length=t.attrs.length:=fun i hi=>ht.width hi;refine jo ?_;refine qcx apz (aic t.attrs.length ps) ?_;refine w_7 ?_;refine hcn ?_ ?_<;>intro h1
 · refine w_7 ?_;refine hrr ?_;have he:=b9u h0 (by assumption:¬lvE t.attrs.length ps=0);exact f9 rfl rfl (⟨(by rw[agh he bwx];exact CoC.agg ⟨CoP.refl _,sw,sw,trivial⟩),cci he.symm,trivial⟩)
 have hv:lvE t.attrs.length ps=0:=by assumption
 have hps:=aue hv;have hp64:=asa hv;refine w_5 ?_;refine m9 2 ?_;refine qy ?_;refine m9 3 ?_;refine w_9 ?_;refine br (ka 1 (ka 2 (ka 4 (ka 7 (ka 9 (ka 43 kn)))))) (kb 0 (kb 1 (kb 3 km))) (fun a=>⟨[(44,some (vI a))],[(2,some (.arr true 1 79 t.attrs.length (zr t.rows a)))]⟩) t.attrs.length ⟨tt,⟨⟨_,rfl,(b2u rfl fun _=>axz)⟩,trivial⟩⟩ ?_;rintro a ha;refine w_5 ?_;refine hcd ?_ ?_<;>intro h2
 ·
  refine da ?_;refine aks 2 a 30 true 3 84 (lf Val.c (yd t.rows a)) bx3 rfl bww be1 (CoP.sl rfl (.inr rfl) (fun h=>h) (fun i j hi _=>absurd hi (bt1 i))) (.inr rfl) rfl rfl ?_;refine w_7 ?_;refine br (ka 1 (ka 2 (ka 4 (ka 7 (ka 9 (ka 10 (ka 43 (ka 44 (ka 48 (ka 49 kn)))))))))) (kb 0 (kb 1 (kb 3 km))) (fun i=>⟨[(50,some (vI i))],[(2,some (.arrh 1 79 t.attrs.length [30] (i6 a (.ref 30 i) (zr t.rows a)))),(30,some (.arr true 3 84 i (lf Val.c (yd t.rows a))))]⟩) t.rows.length kk ?_;rintro i hi;refine w_5 ?_;refine hcd ?_ ?_<;>intro h3
  · refine w_7 ?_;refine m9 4 ?_;refine mz ?_;refine rq (out:=Out.mk _ (.v (.one (.ref 30 i)))) rfl rfl rfl (congrArg (fun x=>some (Out.mk _ (.v (.one x)))) a5j) rfl ?_;refine w_3 ?_;refine rq rfl rfl rfl rfl rfl ?_ (hp:=⟨rfl,by omega,by rw[hw' i bww];omega⟩);refine qy ?_;refine m9 5 ?_;refine r9 6 true ?_;refine w_8 ?_;exact lpx (i+1) ⟨tt,⟨⟨_,rfl,(arx rfl)⟩,⟨_,rfl,(aze bww (aha (CoP.refl _) (CoP.refl _) (CoP.refl _)))⟩,uu⟩⟩
  obtain rfl:i=t.rows.length:=by omega
  refine w_9 ?_;refine rq (out:=Out.mk _ (.v (.one (.ref 30 t.rows.length)))) rfl rfl rfl (congrArg (fun x=>some (Out.mk _ (.v (.one x)))) a5j) rfl ?_;refine j7 rfl rfl rfl rfl rfl rfl (wgx Tryz.func100) (bl6 30 (yd t.rows a) (by rw[a5k];omega) _) (⟨congrArg (HV.ref 30) a5k.symm,CoP.refl _,trivial⟩) ⟨⟨_,rfl,bcq (fun h=>h) a5k.symm⟩,trivial⟩ rfl rfl ?_;refine jo ?_;refine rq (out:=Out.mk _ (.v (.one (.ref 30 t.rows.length)))) rfl rfl rfl (congrArg (fun x=>some (Out.mk _ (.v (.one x)))) a5j) rfl ?_;refine j7 rfl rfl rfl rfl rfl rfl (wgx Tryz.func102) ((bgh (ac9 gv (yd t.rows a))).swap 900 30) (⟨congrArg (HV.ref 30) (by rw[anq,a5k]),trivial⟩) ⟨⟨_,rfl,co_encL' (fun h=>h) (by rw[anq])⟩,trivial⟩ rfl rfl ?_;refine w_8 ?_;exact lpx (a+1) ⟨tt,⟨⟨_,rfl,(an8 rfl b1z bah)⟩,uu⟩⟩
 obtain rfl:a=t.attrs.length:=by omega
 refine w_3 ?_;refine go 3 2 31 true 1 162 (lf (lvC t.rows t.attrs.length) ps) bx3 rfl rfl (CoP.sl rfl (.inr rfl) (fun h=>h) (fun i j hi _=>absurd hi (bt1 i))) (.inr rfl) rfl rfl ?_;refine w_6 ?_;refine br (ka 2 (ka 4 (ka 7 (ka 9 (ka 98 (ka 99 kn)))))) (kb 2 (kb 0 (kb 1 km))) (fun p=>⟨[(100,some (vI p))],[(3,some (.box [.p (asl ps), .ref 2 t.attrs.length, .ref 31 p, .p (lp (.slice none 0 0))])),(31,some (.arr true 1 162 p (lf (lvC t.rows t.attrs.length) ps)))]⟩) ps.length kk ?_;rintro p hp;refine d5 ?_;refine cw 98 rfl fun hpn=>?_;refine w_4 ?_;refine hcd ?_ ?_<;>intro h4
 ·
  refine jo ?_;refine rm 7 rfl rfl rfl rfl rfl rfl ?_ (hp:=⟨by omega,by omega,by omega,by show(8:Int)*_<=_;omega⟩);refine da ?_;refine br (ka 2 (ka 4 (ka 7 (ka 9 (ka 14 (ka 15 (ka 98 (ka 99 (ka 100 (ka 108 kn)))))))))) (kb 3 (kb 31 (kb 2 (kb 0 (kb 1 km))))) (fun k=>⟨[(109,some (vI k))],[(7,some (.arr true 1 163 (t.attrs.length+1) (lvT t.rows (ps.getD p default) k)))]⟩) (t.attrs.length+1) ⟨tt,⟨⟨_,rfl,(b3j (by first|rfl|omega) fun _=>CoP.refl _)⟩,trivial⟩⟩ ?_;rintro k hk;refine w_5 ?_;refine hcd ?_ ?_<;>intro h5
  ·
   refine w_9 ?_;refine bg8 7 (.arrh 1 163 (t.attrs.length+1) [] fun i j=>.p (lvT t.rows (ps.getD p default) k i j)) rfl bgt ?_;refine w_3 ?_;refine m9 8 ?_;refine ig ?_;refine br (ka 2 (ka 4 (ka 7 (ka 9 (ka 14 (ka 15 (ka 16 (ka 98 (ka 99 (ka 100 (ka 108 (ka 109 (ka 117 (ka 118 kn)))))))))))))) (kb 3 (kb 31 (kb 2 (kb 0 (kb 1 km))))) (fun i=>⟨[(119,some (vI i))],[(7,some (.arrh 1 163 (t.attrs.length+1) [8] (i6 k (.ref 8 0) (lvT t.rows (ps.getD p default) k)))),(8,some (.mp .str i (yn (t.rows.take i) (ps.getD p default) k)))]⟩) t.rows.length ⟨tt,⟨⟨_,rfl,(ark rfl)⟩,⟨_,rfl,(bbn fun _=>rfl)⟩,trivial⟩⟩ ?_;rintro i hi;refine w_5 ?_;refine hcd ?_ ?_<;>intro h6
   · refine w_7 ?_;refine m9 9 ?_;refine w_6 ?_;refine rq (out:=Out.mk _ (.v (.one (.ref 8 0)))) rfl rfl rfl (congrArg (fun x=>some (Out.mk _ (.v (.one x)))) a5j) rfl ?_;refine w_3 ?_;refine rq rfl rfl rfl rfl rfl ?_ (hp:=⟨rfl,trivial,⟨by omega,by rw[hw' i bww];omega⟩,trivial⟩);refine qy ?_;refine rc rfl rfl rfl rfl rfl rfl ahc (agt ((t.rows.getD i default).vals.take k) (ps.getD p default) (by rw[bt4];omega)) (⟨CoC.one (b83 (by rw[hw' i bww];omega)),CoC.refl _,trivial⟩) rfl rfl ?_;refine rs rfl rfl rfl rfl rfl ?_ (hp:=⟨rfl,amm (by rw[bt4];omega),by show i<maxLen;unfold maxLen;omega⟩);refine w_6 ?_;exact lpx (i+1) ⟨tt,⟨u9,⟨_,rfl,(ba6 bww rfl)⟩,uu⟩⟩
   obtain rfl:i=t.rows.length:=by omega
   refine ck ?_;refine ae4 (id:=8) 7 (lvT t.rows (ps.getD p default) (k+1)) rfl rfl rfl bnf ?_;refine w_4 ?_;exact lpx (k+1) kk
  obtain rfl:k=t.attrs.length+1:=by omega
  refine ck ?_;refine bh 15 rfl rfl rfl ?_;refine w_7 ?_;refine m9 10 ?_;refine r9 11 true ?_;refine w_8 ?_;exact lpx (p+1) ⟨tt,⟨u9,⟨_,rfl,(b5m rfl)⟩,uu⟩⟩
 obtain rfl:p=ps.length:=by omega
 refine w_2 ?_;refine fm 3 2 rfl rfl rfl rfl rfl ?_;refine fm 3 1 rfl rfl rfl rfl rfl ?_;refine go 3 3 32 true 1 79 (lf vlC []) bx3 rfl rfl (CoP.sl rfl (.inr rfl) (fun h=>h) (fun i j hi _=>absurd hi (bt1 i))) (.inr rfl) rfl rfl ?_;refine w_2 ?_;refine j7 rfl rfl rfl rfl rfl rfl (wgx Tryz.func104) (((bl5 t.rows ps t.attrs.length bww hps t.attrs.length [] [] (btk _) (bsx _)).swap 1000 3).swap 1001 32) (⟨rfl,sw,trivial⟩) ⟨⟨_,rfl,⟨CoH.refl _,b5t,CoP.refl _,rfl,trivial⟩⟩,uu⟩ rfl rfl ?_;refine ig ?_;refine hcd ?_ ?_<;>intro h7
 · refine w_6 ?_;refine hrr ?_;have he:=bdr h0 hv bwx;exact f9 rfl rfl (⟨(by rw[agh he bx3];exact CoC.agg ⟨CoP.refl _,sw,sw,trivial⟩),cci he.symm,trivial⟩)
 have hJ:(gu t.rows ps (cn t.rows t.attrs.length) t.attrs.length [] []).length=(py t.rows ps t.attrs.length).length:=rfl;refine w_7 ?_;refine qcx (wgx Tryz.func105) (c77 t.attrs bww) ?_;refine qy ?_;refine m9 12 ?_;refine w_5 ?_;refine fm 3 3 rfl rfl rfl rfl rfl ?_;refine w_9 ?_;refine go 12 2 33 true 2 81 (lf Row.c (ju (py t.rows ps t.attrs.length))) bx3 rfl rfl (CoP.sl rfl (.inr rfl) (fun h=>h) (fun i j hi _=>absurd hi (bt1 i))) (.inr rfl) rfl rfl ?_;refine br (ka 4 (ka 19 (ka 164 (ka 165 kn)))) (kb 1 km) (fun i=>⟨[(166,some (vI i))],[(12,some (.box [.p (.raw (.string t.name)), .p (ya t.attrs), .ref 33 i])),(33,some (.arr true 2 81 i (lf Row.c (ju (py t.rows ps t.attrs.length)))))]⟩) ((py t.rows ps t.attrs.length).length) kk ?_;rintro i hi;refine w_5 ?_;refine hcd ?_ ?_<;>intro h8
 · refine a4l ?_;refine m9 13 ?_;refine r9 14 true ?_;refine w_7 ?_;exact lpx (i+1) ⟨tt,⟨u9,⟨_,rfl,(are bww (CoP.refl _) (CoP.refl _))⟩,uu⟩⟩
 obtain rfl:i=(py t.rows ps t.attrs.length).length:=by omega
 refine w_2 ?_;refine fm 12 2 rfl rfl rfl rfl rfl ?_;refine w_5 ?_;refine hrr ?_;have he:=au2 h0 hv bwx;exact f9 rfl rfl (⟨(by rw[au9 he];exact CoC.agg ⟨CoP.refl _,CoP.refl _,CoP.sl adq (.inl rfl) (fun h=>h) (fun _ _ _ _=>CoP.refl _),trivial⟩),cci he.symm,trivial⟩)
end
section
open Go.Proofs
def blc(n:Int)(ps:List AS)(p m:List Fd):a6 bxn 45 [pI n,pP (asl ps),pP (fdl p),pP (fdl m)] (ae [pP (stl (prS n ps p m)),pI (prC n ps p m)]):=by
 refine hpx (nt:=55) Tryz.func45 ?_;refine ig ?_;refine qcx (wgx Tryz.func93) (bfg n ps p m) ?_;refine w_5 ?_;refine m9 0 ?_;refine m9 1 ?_;refine ig ?_;refine hcn ?_ ?_<;>intro h0
 · refine w_6 ?_;refine hrr ?_;obtain⟨e1,e2⟩:=az9 (p:=p) (m:=m) (n:=n) (ps:=ps) (by rw[<- ada];assumption);exact f9 rfl rfl (⟨(by rw[e1];exact CoC.one (CoP.sl rfl (.inr rfl) (fun _=>rfl) (fun i j hi _=>absurd hi (bt1 i)))),cci (ada.trans e2.symm),trivial⟩)
 have hls:lsC n ps p m=0:=ada.symm.trans bwx;obtain⟨hv,hb,hc,hR⟩:=b07 hls;have hz:=b8q hv;have htr:=b32 hv hb hc;have hfew:(lsT n ps p m).1.length<=1300000:=bc8 (p:=p) (m:=m) hv hb;refine w_6 ?_;refine ai (ι:=Nat) (ka 0 (ka 2 (ka 3 (ka 10 kn)))) km (fun i=>⟨[(14,some (vI i)),(11,some (vP (stl (lsT n ps p m).1)))],[(0,some (.box [.p (.raw (.int .i64 n)), .p (rl ((trL n p m (bn (b9 n ps)) (lsT n ps p m).1).getD i default))]))]⟩) (fun i=>i<=(lsT n ps p m).1.length/\(∀j,j<i->nc n ((trL n p m (bn (b9 n ps)) (lsT n ps p m).1).getD j default)=false)) (fun i=>(lsT n ps p m).1.length-i) (0) (⟨bsx _,fun j hj=>absurd hj (bt1 j)⟩) ⟨⟨zy,⟨_,rfl,(by rw[hR];exact CoR.refl _)⟩,trivial⟩,⟨⟨_,rfl,(by rw[hR,auo];exact CoO.refl _)⟩,trivial⟩⟩ ?_;rintro i ⟨hi,hI⟩;refine w_7 ?_;refine qcx (wgx Tryz.func95) (av6 n hz.1 bww) ?_;refine qcx ank (awc n ((trL n p m (bn (b9 n ps)) (lsT n ps p m).1).getD i default) (dy n)) ?_;refine w_2 ?_;refine al _ rfl ?_ ?_<;>intro r1
 · have h1:=r1;obtain⟨e1,e2⟩:=ay4 hls hi hI r1;refine v_8 ?_;exact by rw[e1,e2];exact⟨CoC.one (b3g (by rw[bt4];dsimp only [dv,b7];omega) (fun a j=>by first|rfl|(simp;rfl))),CoC.refl _,trivial⟩
 have h1:=r1;have hno:nc n ((trL n p m (bn (b9 n ps)) (lsT n ps p m).1).getD i default)=false:=r1;refine w_9 ?_;refine hcd ?_ ?_<;>intro h2
 ·
  obtain ⟨e1,e2⟩:=aua hls fun j hj=>by
   by_cases e:j=i
   · rw[e];exact hno
   exact hI j bww
  refine v_5 ?_;exact by rw[e1,e2];exact⟨CoC.one (CoP.sl rfl (.inr rfl) (fun _=>rfl) (fun i j hi _=>absurd hi (bt1 i))),CoC.refl _,trivial⟩
 obtain⟨hx1,hx2,hx3⟩:=bnw bww (b96 htr (i:=i) bww);refine da ?_;refine qcx (wgx Tryz.func96) (b31 n ((trL n p m (bn (b9 n ps)) (lsT n ps p m).1).getD i default) p m ((lsT n ps p m).1.getD i default) hx1 hb hx2 hx3) ?_;refine air ?_;refine lpz (i+1) ⟨tt,⟨⟨_,rfl,(by rw[auy bww];exact CoO.refl _)⟩,trivial⟩⟩ ?_;refine⟨by omega,fun j hj=>?_⟩;by_cases e:j=i
 · rw[e];exact hno
 exact hI j bww
def bbl (n:Int) (ps:List AS) (p m:List Fd) (sts:List RSt):a6 bxn 46 [pI n,pP (asl ps),pP (fdl p),pP (fdl m),pP (b6e sts)] (ae [pB (a2q n ps p m sts)]):=by
 refine hpx (nt:=57) Tryz.func46 ?_;refine w_9 ?_;refine qcx apz (aic n ps) ?_;refine w_2 ?_;refine ak rfl rfl ?_ ?_<;>intro r0
 ·
  have h0:=tz2 (dt r0);(iterate 5 refine k9 (gtf r0) ?_);refine w_7 ?_
  exact hx8 rfl rfl rfl (⟨ccb (by first|exact(b02 bwx).symm|exact(b0z bwx).symm|(symm;simp_all [a2q])),trivial⟩)
 have h0:=tz1 (du r0);(iterate 3 refine qy ?_ (hg:=(gff r0)));refine qcx a8a (a44 n p m) ?_ (hg:=(gff r0));refine qy ?_ (hg:=(gff r0));refine w_2 ?_;refine al _ rfl ?_ ?_<;>intro r1
 · have h1:=tz2 (dt (ax r0 r1));refine v_4 ?_;exact⟨ccb (by first|exact(b02 bwx).symm|exact(b0z bwx).symm|(symm;simp_all [a2q])),trivial⟩
 have h1:=tz1 (du (ax r0 r1));have hv:lvE n ps=0:=by simp_all
 have hb:dc n p m=0:=by simp_all
 have hz:=b8q hv;refine w_5 ?_;refine qcx (wgx Tryz.func98) (au7 n ps hv) ?_;refine w_3 ?_;refine m9 0 ?_;refine ig ?_;refine ai (ι:=Nat×Int×List Rw×Int) (ka 0 (ka 2 (ka 3 (ka 11 (ka 32 (ka 33 kn)))))) km (fun x=>⟨[(12,some (vI x.2.2.2)),(34,some (vI x.1))],[(0,some (.box [.p (.raw (.int .i64 x.2.1)), .p (rl x.2.2.1)]))]⟩) (fun x=>a4v n ps p m sts x) (fun x=>sts.length-x.1) ((0,n,(bn (b9 n ps)),0)) (a4v.start) kk ?_;rintro x hC;have hle:=hC.le;refine d5 ?_;refine cw 32 rfl fun hsn=>?_;refine w_4 ?_;refine hcd ?_ ?_<;>intro h2
 ·
  refine w_7 ?_;refine m9 1 ?_;refine w_8 ?_;refine hcn ?_ ?_<;>intro h3
  · refine v_4 ?_;exact⟨ccb (by rw[aff hv hb];exact(hC.no bwx).symm),trivial⟩
  refine w_6 ?_;refine qcx (wgx Tryz.func96) (asz x.2.1 x.2.2.1 p m (sts.getD x.1 default).1 (sts.getD x.1 default).2.1 (sts.getD x.1 default).2.2.1 (sts.getD x.1 default).2.2.2) ?_;refine da ?_;refine lpz (x.1+1,(a2j x.2.1 x.2.2.1 p m (sts.getD x.1 default)).1,(a2j x.2.1 x.2.2.1 p m (sts.getD x.1 default)).2.1,(a2j x.2.1 x.2.2.1 p m (sts.getD x.1 default)).2.2) ⟨⟨⟨_,rfl,(CoR.refl _)⟩,⟨_,rfl,(coi bwz)⟩,tt⟩,uu⟩ ?_;exact hC.step bww bwx
 have hend:¬x.1<sts.length:=by omega
 refine w_6 ?_;refine ak rfl rfl ?_ ?_<;>intro r4
 ·
  have h4:=tz1 r4;(iterate 2 refine qy ?_ (hg:=(gtt r4)));refine qcx (wgx Tryz.func95) (av6 n hz.1 bww) ?_ (hg:=(gtt r4));refine qcx ank (awc x.2.1 x.2.2.1 (dy n)) ?_ (hg:=(gtt r4));refine w_4 ?_
  exact hx8 rfl rfl rfl (⟨ccb (by rw[aff hv hb];first|exact(hC.no bwx).symm|(refine Eq.trans ?_ (hC.no bwx).symm;simp_all;done)|(refine Eq.trans ?_ (hC.fin hend bwx).symm;first|rfl|(simp_all;done)|(simp_all;rfl))),trivial⟩)
 have h4:=tz2 r4;(iterate 4 refine k9 (gft r4) ?_);refine w_4 ?_
 exact hx8 rfl rfl rfl (⟨ccb (by rw[aff hv hb];first|exact(hC.no bwx).symm|(refine Eq.trans ?_ (hC.no bwx).symm;simp_all;done)|(refine Eq.trans ?_ (hC.fin hend bwx).symm;first|rfl|(simp_all;done)|(simp_all;rfl))),trivial⟩)
end
section
open Go.Proofs
def bov {n:Int} {ps:List AS} {p m:List Fd} (h:prC n ps p m=0):a6 bxn 46 [pI n,pP (asl ps),pP (fdl p),pP (fdl m),pP (b6e ((prS n ps p m).map St.r))] (ae [pB true]):=by
 have h2:=bbl n ps p m ((prS n ps p m).map St.r);rw[b76 h]at h2;exact h2
def bge(t:Tbl)(n:Int)(ps:List AS)(p m:List Fd)(h:prC n ps p m=0\/prC n ps p m=3)(hj:ow t ps=0)(hs:a1t (xi t ps) t=true):a6 bxn 12 [t.pc,pI n,pP (asl ps),pP (fdl p),pP (fdl m)] (ae [pB true]):=by
 refine hpx (nt:=50) Tryz.func12 ?_;refine sx7 ?_;refine m9 0 ?_;refine w_8 ?_;refine qcx (wgx Tryz.func45) (blc n ps p m) ?_;refine fh ?_;refine ak rfl rfl ?_ ?_<;>intro r0
 ·
  have h0:=tz2 (dt r0);(iterate 3 refine qy ?_ (hg:=(gtt r0)));refine ak rfl rfl ?_ ?_<;>intro r1
  ·
   have h1:=tz2 (dt r1);(iterate 7 refine k9 (gtf r1) ?_);refine rq rfl rfl rfl rfl (gtt r0) ?_ (hp:=r1);refine w_2 ?_;refine al _ rfl (fun _=>?_) (fun e=>Bool.noConfusion ((t8 r0 rfl).symm.trans e));refine w_4 ?_;refine hrr ?_
   simp_all
  have h1:=tz1 (du r1);(iterate 5 refine qy ?_ (hg:=(gff r1)));refine rc rfl rfl rfl rfl rfl rfl (wgx Tryz.func46) (bov (by rcases h with h|h<;>first|exact h|exact absurd h bwx)) (⟨CoC.refl _,CoC.refl _,CoC.refl _,CoC.refl _,CoC.one baz,trivial⟩) rfl (gff r1) ?_;refine qy ?_ (hg:=(gff r1));refine qy ?_ (hg:=(gtt r0));refine w_2 ?_;refine al _ rfl ?_ ?_<;>intro r2
  · have h2:=dt (ax r1 (c5 r0 r2));refine w_4 ?_;refine hrr ?_;simp_all
  have h2:=du (ax r1 (c5 r0 r2));refine w_5 ?_;refine qcx (wgx Tryz.func47) (ava t ps) ?_;refine w_3 ?_;refine m9 1 ?_;refine w_8 ?_;refine ak rfl rfl ?_ ?_<;>intro r3
  ·
   have h3:=tz1 r3;(iterate 2 refine qy ?_ (hg:=(gtt r3)));refine qcx (wgx Tryz.func48) (axs (xi t ps) t) ?_ (hg:=(gtt r3));refine w_3 ?_
   exact hx8 rfl rfl rfl (⟨ccb bxa,trivial⟩)
  have h3:=tz2 r3;(iterate 3 refine k9 (gft r3) ?_);refine w_3 ?_
  exact hx8 rfl rfl rfl (⟨ccb bxa,trivial⟩)
 have h0:=tz1 (du r0);(iterate 3 refine k9 (gft r0) ?_);(iterate 7 refine k9 rfl ?_);refine k9 (gft r0) ?_;refine w_8 ?_;refine qcx (wgx Tryz.func47) (ava t ps) ?_;refine w_3 ?_;refine m9 2 ?_;refine w_8 ?_
 refine ak rfl rfl ?_ ?_<;>intro r4
 ·
  have h4:=tz1 r4;(iterate 2 refine qy ?_ (hg:=(gtt r4)));refine qcx (wgx Tryz.func48) (axs (xi t ps) t) ?_ (hg:=(gtt r4));refine w_3 ?_
  exact hx8 rfl rfl rfl (⟨ccb bxa,trivial⟩)
 have h4:=tz2 r4;(iterate 3 refine k9 (gft r4) ?_);refine w_3 ?_
 exact hx8 rfl rfl rfl (⟨ccb bxa,trivial⟩)
end
section
open Go.Proofs
def bso(x:oq)(n:Int):Bool:=decide (¬(x.rows.length:Int) > n)
def brz(x:oq)(n:Nat):Tbl:=if x.rows.length > n then T0 else er x (x.attrs.toNat%6)
def c36(x:oq)(n:Nat)(hn:n<=8)(hx:x.rows.length<=68719476736):a6 bxn 8 [x.pc,pI n] (ae [(er x n).pc]):=by
 refine hpx (nt:=67) Tryz.func8 ?_;refine sx7 ?_;refine m9 0 ?_;refine m9 1 ?_;refine w_3 ?_;refine m9 2 ?_;refine m9 3 ?_;refine qy ?_;refine aii rfl rfl rfl rfl rfl ?_;refine r9 4 true ?_;refine qy ?_;refine m9 5 ?_;refine w_2 ?_;refine fm 5 1 rfl rfl rfl rfl rfl ?_;refine w_6 ?_;refine go 5 2 100 true 2 81 (lf Row.c (my x n)) bx3 rfl rfl (CoP.sl rfl (.inr rfl) (fun h=>h) (fun i j hi _=>absurd hi (bt1 i))) (.inr rfl) rfl rfl ?_;refine br (ka 1 (ka 2 (ka 4 (ka 5 kn)))) (kb 0 (kb 1 km)) (fun i=>⟨[(6,some (vI i))],[(5,some (.box [.p (.raw (.string ⟨#[114]⟩)), .p (ya (oo.take n)), .ref 100 i])),(100,some (.arr true 2 81 i (lf Row.c (my x n))))]⟩) x.rows.length ⟨tt,⟨⟨_,rfl,⟨CoH.refl _,bpe hn,CoH.refl _,trivial⟩⟩,uu⟩⟩ ?_;rintro i hi;refine w_9 ?_;refine hcd ?_ ?_<;>intro h0
 ·
  refine w_4 ?_;have hgl:=bi6 (g:=x.gap) (i:=i);refine da ?_;refine m9 6 ?_;refine w_8 ?_;refine go 6 1 101 true 3 84 (lf Val.c (qs (x.rows.getD i default) n)) bx3 rfl rfl (CoP.sl rfl (.inr rfl) (fun h=>h) (fun i j hi _=>absurd hi (bt1 i))) (.inr rfl) rfl rfl ?_;refine br (ka 1 (ka 2 (ka 4 (ka 5 (ka 6 (ka 7 kn)))))) (kb 5 (kb 100 (kb 0 (kb 1 km)))) (fun k=>⟨[(8,some (vI k))],[(6,some (.box [.p (.raw (.int .i64 (1+(i:Int)*(1+(x.gap.toNat:Int)%3)))), .ref 101 k])),(101,some (.arr true 3 84 k (lf Val.c (qs (x.rows.getD i default) n))))]⟩) n kk ?_;rintro k hk;refine w_7 ?_;refine hcd ?_ ?_<;>intro h1
  ·
   refine w_7 ?_;refine a1f (ka 1 (ka 2 (ka 4 (ka 5 (ka 6 (ka 7 (ka 8 kn))))))) (kb 6 (kb 101 (kb 5 (kb 100 (kb 0 (kb 1 km)))))) ⟨[(9,some (.v (.one (.p (.raw (.int .u8 ((((x.rows.getD i default).getD k default).toNat:Nat):Int)))))))],[]⟩ ?_ ?_
   ·
    refine d5 ?_;refine bo1 0 2 rfl rfl (fun hb=>?_);refine da ?_;refine hcd ?_ ?_<;>intro h2
    · refine ig ?_;exact⟨⟨⟨_,rfl,(by first|exact CoR.refl _|exact CoR.of_eq (by rw[ah6 bww];rfl))⟩,tt⟩,uu⟩
    refine dn ?_;exact⟨⟨⟨_,rfl,(by first|exact CoR.refl _|exact CoR.of_eq (by rw[ah6 bww];rfl))⟩,tt⟩,uu⟩
   refine w_4 ?_;refine qcx (wgx Tryz.func35) (c49 ((((x.rows.getD i default).getD k default).toNat:Nat):Int) bww) ?_;refine m9 7 ?_;refine r9 8 true ?_;refine w_9 ?_;refine lpz (k+1) ⟨tt,⟨u9,⟨_,rfl,(wh (fun h=>h) (by first|(intro j hj;rw[ay2 bww];revert j;exact lt3 (CoP.refl _) (CoP.refl _) (CoP.refl _))|(intro j hj;rw[ay2 bww,ah6 bww];revert j;exact lt3 (CoP.refl _) (CoP.refl _) (CoP.refl _))))⟩,uu⟩⟩ ?_;show k+1<=_;omega
  obtain rfl:k=n:=by omega
  refine ck ?_;refine fm 6 1 rfl rfl rfl rfl rfl ?_;refine w_4 ?_;refine m9 9 ?_;refine r9 10 true ?_;refine w_8 ?_;refine lpz (i+1) ⟨tt,⟨u9,⟨_,rfl,(wh (fun h=>h) (by intro j hj;rw[bgi bww];revert j;exact lt2 (CoP.refl _) (CoP.sl ayx (.inl rfl) (fun h=>h) (fun _ _ _ _=>CoP.refl _))))⟩,uu⟩⟩ ?_;show i+1<=_;omega
 obtain rfl:i=x.rows.length:=by omega
 refine v_6 ?_;exact⟨CoC.agg ⟨CoP.refl _,CoP.refl _,CoP.sl azc (.inl rfl) (fun h=>h) (fun _ _ _ _=>CoP.refl _),trivial⟩,trivial⟩
end
section
open Go.Proofs
def bsk(a b:List Fd):Int:=let i:=idx (fun f=>!imp a f) b;if i<0 then 0 else i
end
section
open Go.Proofs
def q8(n:Int)(q:BitVec 8):AS:=q.setWidth 32&&&aa n
end
section
open Go.Proofs
def bj6 {n:Int} {l m:List Fd} (hz:ck4 n l m 0=0):a6 bxn 15 [pI n,pP (fdl l),pP (fdl m)] (ae [pP (asl (iw n l m)),pI 0]):=by
 have h:=bo9 n l m;rw[hz]at h;exact h
end
section
open Go.Proofs
def bbi (n:Int) (l:List Dp) (hl:l.length<=16777216):a6 bxn 49 [pI n,pP (dpl l)] (ae [pP (fdl (l.map (Dp.fd n)))]):=by
 refine hpx (nt:=32) Tryz.func49 ?_;refine fh ?_;refine qcx (wgx Tryz.func29) (b8f n l hl) ?_;refine w_8 ?_;refine d4 5 900 true 2 52 (lf Fd.c []) bx3 rfl (CoP.sl rfl (.inr rfl) (fun h=>h) (fun i j hi _=>absurd hi (bt1 i))) (.inr rfl) rfl ?_;have hll:(l.map (Dp.fd n)).length<=16777216:=by rw[btn];exact hl
 refine br (ka 6 kn) km (fun i=>⟨[(5,some (.v (.one (.ref 900 ((l.map (Dp.fd n)).take i).length)))),(7,some (vI i))],[(900,some (.arr true 2 52 ((l.map (Dp.fd n)).take i).length (lf Fd.c ((l.map (Dp.fd n)).take i))))]⟩) ((l.map (Dp.fd n)).length) ⟨⟨⟨_,rfl,(CoR.refl _)⟩,⟨_,rfl,(CoR.refl _)⟩,trivial⟩,uu⟩ ?_;rintro i hi;have hlen:((l.map (Dp.fd n)).take i).length<=i:=by rw[bt4];omega
 refine w_8 ?_;refine hcd ?_ ?_<;>intro h0
 · refine ov ?_;refine m9 0 ?_;refine r9 1 true ?_;refine w_8 ?_;exact lpx (i+1) ⟨⟨⟨_,rfl,(bq (aj bww))⟩,⟨_,rfl,(CoR.refl _)⟩,tt⟩,⟨⟨_,rfl,(ij (aj bww) (CoP.refl _) (CoP.refl _))⟩,trivial⟩⟩
 obtain rfl:i=(l.map (Dp.fd n)).length:=by omega
 refine w_6 ?_;refine bh 4 rfl rfl rfl ?_;exact hx8 rfl rfl rfl (⟨CoC.one (CoP.of_eq (by rw[bt6];rfl)),trivial⟩)
def bmn (x:Mx) (hl:x.d.l.length<=16777216) (hm:x.m.length<=16777216):a6 bxn 13 [x.pc] (ae [pI x.d.num,pP (fdl x.d.fds),pP (fdl x.mv),pB x.ok]):=by
 refine hpx (nt:=29) Tryz.func13 ?_;refine sx7 ?_;refine m9 0 ?_;refine w_9 ?_;refine qcx (wgx Tryz.func6) (cOf x.d hl) ?_;refine j5 ?_;refine qcx (wgx Tryz.func49) (bbi x.d.num x.m hm) ?_;refine w_2 ?_;refine ak rfl rfl ?_ ?_<;>intro r0
 ·
  have h0:=r0;(iterate 4 refine qy ?_ (hg:=(gtt r0)));refine w_7 ?_
  exact hx8 rfl rfl rfl (⟨CoC.refl _,CoC.refl _,CoC.refl _,ccb (by unfold Mx.ok;try first|rfl|(rw[(by assumption:decide (x.d.l.length<=6)=false),Bool.false_and])|(rw[(by assumption:decide (x.d.l.length<=6)=true),bv2];exact decide_eq_decide.2 bww)),trivial⟩)
 have h0:=r0;(iterate 4 refine k9 (gft r0) ?_);refine w_7 ?_
 exact hx8 rfl rfl rfl (⟨CoC.refl _,CoC.refl _,CoC.refl _,ccb (by unfold Mx.ok;try first|rfl|(rw[(by assumption:decide (x.d.l.length<=6)=false),Bool.false_and])|(rw[(by assumption:decide (x.d.l.length<=6)=true),bv2];exact decide_eq_decide.2 bww)),trivial⟩)
def b6i {n:Int} {p m:List Fd} (h:ck4 n p m 0=0):ck4 n p m (aa n)=0:=by
 obtain⟨h0,h8,hb⟩:=sx h;rw[a5r bww,a93 (zq hb).1];exact(rp (s:=aa n) (n:=n.toNat) bww).1 (by unfold aa;rw[btz bww];exact jh _)
def bx9{p:Prop}(h:p:=by first|assumption|simp_all):p:=h
def bgj(x:oq)(y:Mx)(hx:x.rows.length<=16777216)(hl:y.d.l.length<=16777216)(hm:y.m.length<=16777216):a6 bxn 4 [x.pc,y.pc] (ae [pB true]):=by
 refine hpx (nt:=106) Tryz.func4 ?_;have hs6:y.d.num<=6:=(afe y.d).2;have hd0:0<=y.d.num:=(afe y.d).1;have hm7:(y.d.n.toNat%7)<=6:=by omega
 refine sx7 ?_;refine m9 0 ?_;refine m9 1 ?_;refine w_5 ?_;refine qcx (wgx Tryz.func13) (bmn y hl hm) ?_;refine jo ?_;refine qcx al7 (a4x) ?_;refine w_2 ?_;refine ak rfl rfl ?_ ?_<;>intro r0
 ·
  have h0:=dt r0;(iterate 2 refine k9 (gtf r0) ?_);refine w_2 ?_;(iterate 4 refine k9 rfl ?_);refine w_5 ?_;refine qcx al7 (a4x) ?_;refine w_2 ?_
  exact hx8 rfl rfl rfl (CoL.refl _)
 have h0:=du r0;(iterate 2 refine qy ?_ (hg:=(gff r0)));refine w_2 ?_;refine ak rfl rfl ?_ ?_<;>intro r1
 ·
  have h1:=dt (ax r0 r1);(iterate 4 refine k9 (gtf r1) ?_);refine w_5 ?_;refine qcx al7 (a4x) ?_;refine w_2 ?_
  exact hx8 rfl rfl rfl (CoL.refl _)
 have h1:=du (ax r0 r1);(iterate 4 refine qy ?_ (hg:=(gff r1)));refine w_2 ?_;refine al _ rfl ?_ ?_<;>intro r2
 · have h2:=tz1 (ax r1 r2);refine sx7 ?_;refine qcx al7 (a4x) ?_;refine v_2 ?_;exact CoL.refl _
 have h2:=tz2 (ax r1 r2);refine w_2 ?_;have hRw:x.rows.length<=8:=by omega
 have hok:y.ok=true:=by simp_all
 obtain⟨m1,m2,hb0⟩:=bmu hok;have hT:TOk (er x (y.d.n.toNat%7)):=bck bww hRw;have hn:(((er x (y.d.n.toNat%7)).attrs.length:Nat):Int)=y.d.num:=by rw[ac3 bww];rfl
 have hck:=atu (t:=(er x (y.d.n.toNat%7))) hb0 hd0 hs6;have h64:(iw y.d.num (jf (er x (y.d.n.toNat%7)) y.d.fds) (kf (er x (y.d.n.toNat%7)) y.mv)).length<=64:=asa (adl hck hs6);obtain⟨s1,s2,s3,_⟩:=b3w hT b73 hn hb0 hd0 hs6;have hfl:y.d.fds.length<=1000000:=by unfold Dps.fds;rw[btn];omega
 have hml:y.mv.length<=16:=by unfold Mx.mv;rw[btn];omega
 have hin:∀j,j<y.mv.length->sub ((y.mv.getD j default).lhs|||(y.mv.getD j default).rhs) (aa (er x (y.d.n.toNat%7)).attrs.length):=fun j hj=>by rw[hn,c4 _ _ hj];exact(bc6 hd0 bww).1 (btl.1 (uv hb0).2.2.2.2.2 _ (bta hj))
 refine w_3 ?_;refine qcx (wgx Tryz.func8) (c36 x (y.d.n.toNat%7) bww bww) ?_;refine m9 2 ?_;refine w_6 ?_;refine qcx (wgx Tryz.func9) (ba3 (er x (y.d.n.toNat%7)) y.d.fds hT.ok hfl) ?_;refine mz ?_;refine d4 10 900 true 2 52 (lf Fd.c []) bx3 rfl (CoP.sl rfl (.inr rfl) (fun h=>h) (fun i j hi _=>absurd hi (bt1 i))) (.inr rfl) rfl ?_;refine br (ka 5 (ka 6 (ka 9 (ka 48 (ka 49 kn))))) (kb 2 km) (fun i=>⟨[(10,some (.v (.one (.ref 900 (a2b (er x (y.d.n.toNat%7)) y.mv i).length)))),(50,some (vI i))],[(900,some (.arr true 2 52 (a2b (er x (y.d.n.toNat%7)) y.mv i).length (lf Fd.c (a2b (er x (y.d.n.toNat%7)) y.mv i))))]⟩) y.mv.length kk ?_;rintro i hi;have hhl:=b3p (t:=(er x (y.d.n.toNat%7))) (l:=y.mv) (i:=i);refine w_5 ?_;refine hcd ?_ ?_<;>intro h3
 ·
  have hil:i<y.mv.length:=by omega
  refine w_7 ?_;refine m9 3 ?_;refine w_6 ?_;refine qcx (wgx Tryz.func14) (b9z (er x (y.d.n.toNat%7)) (y.mv.getD i default) hT (hin i bww)) ?_;refine da ?_;refine ak rfl rfl ?_ ?_<;>intro r4
  ·
   have h4:=r4;(iterate 2 refine qy ?_ (hg:=(gtt r4)));refine w_2 ?_;refine al _ rfl ?_ ?_<;>intro r5
   ·
    have h5:=tz1 (c5 r4 r5);refine w_3 ?_;refine m9 4 ?_;refine r9 5 true ?_;refine w_6 ?_
    first | (refine lpz (i+1) ⟨⟨⟨_, rfl, (bq (a3v hil bx9))⟩, tt⟩, ⟨⟨_, rfl, (ij (a3v hil bx9) (CoP.refl _) (CoP.refl _))⟩, uu⟩⟩ ?_; show i+1<=_; omega)
          |(refine lpz (i+1) ⟨⟨⟨_,rfl,(bm (a35 hil bx9))⟩,tt⟩,⟨⟨_,rfl,(b6 (a35 hil bx9))⟩,uu⟩⟩ ?_;show i+1<=_;omega)
   have h5:=tz2 (c5 r4 r5);refine w_5 ?_
   first | (refine lpz (i+1) ⟨⟨⟨_, rfl, (bq (a3v hil bx9))⟩, tt⟩, ⟨⟨_, rfl, (ij (a3v hil bx9) (CoP.refl _) (CoP.refl _))⟩, uu⟩⟩ ?_; show i+1<=_; omega)
         |(refine lpz (i+1) ⟨⟨⟨_,rfl,(bm (a35 hil bx9))⟩,tt⟩,⟨⟨_,rfl,(b6 (a35 hil bx9))⟩,uu⟩⟩ ?_;show i+1<=_;omega)
  have h4:=r4;(iterate 2 refine k9 (gft r4) ?_);refine w_8 ?_
  first | (refine lpz (i+1) ⟨⟨⟨_, rfl, (bq (a3v hil bx9))⟩, tt⟩, ⟨⟨_, rfl, (ij (a3v hil bx9) (CoP.refl _) (CoP.refl _))⟩, uu⟩⟩ ?_; show i+1<=_; omega)
        |(refine lpz (i+1) ⟨⟨⟨_,rfl,(bm (a35 hil bx9))⟩,tt⟩,⟨⟨_,rfl,(b6 (a35 hil bx9))⟩,uu⟩⟩ ?_;show i+1<=_;omega)
 obtain rfl:i=y.mv.length:=by omega
 refine w_2 ?_;refine bh 10 rfl rfl rfl ?_;refine w_4 ?_;refine rc rfl rfl rfl rfl rfl rfl (wgx Tryz.func15) (bj6 hck) (⟨CoC.refl _,CoC.refl _,CoC.of_eq (by rw[ac6];rfl),trivial⟩) rfl rfl ?_;refine fh ?_;refine hcn ?_ ?_<;>intro h6
 · refine w_4 ?_;refine hrr ?_;simp_all
 refine w_9 ?_;refine br (ka 5 (ka 6 (ka 9 (ka 10 (ka 15 (ka 79 (ka 80 kn))))))) (kb 2 km) (fun k=>⟨[(81,some (vI k))],[]⟩) ((iw y.d.num (jf (er x (y.d.n.toNat%7)) y.d.fds) (kf (er x (y.d.n.toNat%7)) y.mv)).length) kk ?_;rintro k hk;refine w_5 ?_;refine hcd ?_ ?_<;>intro h7
 ·
  have hkl:k<(iw y.d.num (jf (er x (y.d.n.toNat%7)) y.d.fds) (kf (er x (y.d.n.toNat%7)) y.mv)).length:=by omega
  have hq:((iw y.d.num (jf (er x (y.d.n.toNat%7)) y.d.fds) (kf (er x (y.d.n.toNat%7)) y.mv)).getD k default)∈(iw y.d.num (jf (er x (y.d.n.toNat%7)) y.d.fds) (kf (er x (y.d.n.toNat%7)) y.mv)):=by rw[c4 _ _ hkl];exact bta hkl
  obtain⟨hlf,hsb⟩:=a8s hck hq
  have hkq:ck4 y.d.num (jf (er x (y.d.n.toNat%7)) y.d.fds) (kf (er x (y.d.n.toNat%7)) y.mv) ((iw y.d.num (jf (er x (y.d.n.toNat%7)) y.d.fds) (kf (er x (y.d.n.toNat%7)) y.mv)).getD k default)=0:=by
   have hkf:ck4 y.d.num (jf (er x (y.d.n.toNat%7)) y.d.fds) (kf (er x (y.d.n.toNat%7)) y.mv) (aa y.d.num)=0:=b6i hck;exact a99 hkf hsb
  refine j5 ?_;refine rc rfl rfl rfl rfl rfl rfl (wgx Tryz.func16) (az1 (p:=((iw y.d.num (jf (er x (y.d.n.toNat%7)) y.d.fds) (kf (er x (y.d.n.toNat%7)) y.mv)).getD k default)) hkq) (⟨CoC.refl _,CoC.refl _,CoC.of_eq (by rw[ac6];rfl),CoC.refl _,trivial⟩) rfl rfl ?_;refine w_4 ?_;refine m9 6 ?_;refine w_8 ?_;refine ak rfl rfl ?_ ?_<;>intro r8
  ·
   have h8:=r8;(iterate 2 refine k9 (gtf r8) ?_);refine w_7 ?_;refine hrr ?_
   simp_all
  have h8:=r8;(iterate 2 refine qy ?_ (hg:=(gff r8)));refine w_2 ?_;refine al _ rfl ?_ ?_<;>intro r9
  · have h9:=tz2 (dt (ax r8 r9));refine w_4 ?_;refine hrr ?_;simp_all
  have h9:=tz1 (du (ax r8 r9));refine w_5 ?_;exact lpx (k+1) kk
 obtain rfl:k=(iw y.d.num (jf (er x (y.d.n.toNat%7)) y.d.fds) (kf (er x (y.d.n.toNat%7)) y.mv)).length:=by omega
 refine w_8 ?_;refine rc rfl rfl rfl rfl rfl rfl (wgx Tryz.func12) (bge (er x (y.d.n.toNat%7)) y.d.num (iw y.d.num (jf (er x (y.d.n.toNat%7)) y.d.fds) (kf (er x (y.d.n.toNat%7)) y.mv)) (jf (er x (y.d.n.toNat%7)) y.d.fds) (kf (er x (y.d.n.toNat%7)) y.mv) s1 s2 s3) (⟨CoC.refl _,CoC.refl _,CoC.refl _,CoC.refl _,CoC.of_eq (by rw[ac6];rfl),trivial⟩) rfl rfl ?_;refine v_2 ?_;exact CoL.refl _
end
end Go.Hx

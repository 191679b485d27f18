/- A part of the proof: Jw4 Jw5 Kw9 Jrw3 W5a Kw13. -/
import Derived.Test.YtnlcekpflogjkaaGreatDoorTx46
import Derived.Test.YtnlcekpflogjkaaGreatDoorTx47
set_option linter.all false
set_option maxRecDepth 100000
set_option maxHeartbeats 1000000
namespace Go.Hx
section
open Go.Proofs
def ath (t:Tbl) (ps:List AS):a6 bw0 47 [t.pc,pP (asl ps)] (af [(t6 t ps).pc,pI (ng t ps)]):=by
 refine hpx (nt:=182) Tryz.func47 ?_;refine sx7 ?_;refine m9 0 ?_;refine m9 1 ?_;refine w_6 ?_;refine qcx aef (c88 t) ?_;refine w_7 ?_;refine hcn (fun h0=>?_) (fun h0=>?_)
 · refine w_7 ?_;refine hrr ?_;have he:=bbp (ps:=ps) (by assumption:¬ d8 t = 0);exact f9 rfl rfl (⟨(by rw [ahq he bva];exact CoC.agg ⟨CoP.refl _,su,su,trivial⟩),cci he.symm,trivial⟩)
 have h0:d8 t = 0:=by assumption
 have ht:=nn.1 h0;have hna:=ht.na;have hnr:=ht.nr;have hw:∀ i,i < t.rows.length -> (t.rows.getD i default).vals.length = t.attrs.length:=fun i hi=>ht.width hi;have hw':∀ i:Nat,i < t.rows.length -> (t.rows.getD ((i:Int)).toNat default).vals.length = t.attrs.length:=fun i hi=>ht.width hi;refine kf ?_;refine qcx aqh (ahk t.attrs.length ps) ?_;refine w_7 ?_;refine hcn (fun h1=>?_) (fun h1=>?_)
 · refine w_7 ?_;refine hrr ?_;have he:=b9e h0 (by assumption:¬ lvE t.attrs.length ps = 0);exact f9 rfl rfl (⟨(by rw [ahq he bva];exact CoC.agg ⟨CoP.refl _,su,su,trivial⟩),cci he.symm,trivial⟩)
 have hv:lvE t.attrs.length ps = 0:=by assumption
 have hps:=aub hv;have hp64:=b93 hv;refine w_5 ?_;refine m9 2 ?_;refine qy ?_;refine m9 3 ?_;refine w_9 ?_;refine br (ka 1 (ka 2 (ka 4 (ka 7 (ka 9 (ka 43 kn)))))) (kb 0 (kb 1 (kb 3 km))) (fun a=>⟨[(44,some (vI a))],[(2,some (.arr true 1 79 t.attrs.length (a0a t.rows a)))]⟩) t.attrs.length ⟨tt,⟨⟨_,rfl,(axu rfl fun _=>azg)⟩,trivial⟩⟩ ?_;rintro a ha;refine w_5 ?_;refine hcd (fun h2=>?_) (fun h2=>?_)
 ·
  refine dc ?_;refine akb 2 a 30 true 3 84 (lf Val.c (y7 t.rows a)) bvg rfl bv9 bcn (CoP.sl rfl (.inr rfl) (fun h=>h) (fun i j hi _=>absurd hi (brg i))) (.inr rfl) rfl rfl ?_;refine w_7 ?_;refine br (ka 1 (ka 2 (ka 4 (ka 7 (ka 9 (ka 10 (ka 43 (ka 44 (ka 48 (ka 49 kn)))))))))) (kb 0 (kb 1 (kb 3 km))) (fun i=>⟨[(50,some (vI i))],[(2,some (.arrh 1 79 t.attrs.length [30] (ik a (.ref 30 i) (a0a t.rows a)))),(30,some (.arr true 3 84 i (lf Val.c (y7 t.rows a))))]⟩) t.rows.length kk ?_;rintro i hi;refine w_5 ?_;refine hcd (fun h3=>?_) (fun h3=>?_)
  · refine w_7 ?_;refine m9 4 ?_;refine qs ?_;refine rq (out:=Out.mk _ (.v (.one (.ref 30 i)))) rfl rfl rfl (congrArg (fun x=>some (Out.mk _ (.v (.one x)))) a58) rfl ?_;refine w_3 ?_;refine rq rfl rfl rfl rfl rfl ?_ (hp:=⟨rfl,by omega,by rw [hw' i bv9];omega⟩);refine qy ?_;refine m9 5 ?_;refine r9 6 true ?_;refine w_8 ?_;exact lpx (i + 1) ⟨tt,⟨⟨_,rfl,(ard rfl)⟩,⟨_,rfl,(b0l bv9 (agh (CoP.refl _) (CoP.refl _) (CoP.refl _)))⟩,uu⟩⟩
  obtain rfl:i = t.rows.length:=by omega
  refine w_9 ?_;refine rq (out:=Out.mk _ (.v (.one (.ref 30 t.rows.length)))) rfl rfl rfl (congrArg (fun x=>some (Out.mk _ (.v (.one x)))) a58) rfl ?_;refine jc rfl rfl rfl rfl rfl rfl (wgx Tryz.func100) (bfd 30 (y7 t.rows a) (by rw [a4h];omega) _) (⟨congrArg (HV.ref 30) a4h.symm,CoP.refl _,trivial⟩) ⟨⟨_,rfl,b96 (fun h=>h) a4h.symm⟩,trivial⟩ rfl rfl ?_;refine kf ?_;refine rq (out:=Out.mk _ (.v (.one (.ref 30 t.rows.length)))) rfl rfl rfl (congrArg (fun x=>some (Out.mk _ (.v (.one x)))) a58) rfl ?_;refine jc rfl rfl rfl rfl rfl rfl (wgx Tryz.func102) ((bfs (abl ig (y7 t.rows a))).swap 900 30) (⟨congrArg (HV.ref 30) (by rw [aq8,a4h]),trivial⟩) ⟨⟨_,rfl,co_encL' (fun h=>h) (by rw [aq8])⟩,trivial⟩ rfl rfl ?_;refine w_8 ?_;exact lpx (a + 1) ⟨tt,⟨⟨_,rfl,(anb rfl axn bdg)⟩,uu⟩⟩
 obtain rfl:a = t.attrs.length:=by omega
 refine w_3 ?_;refine go 3 2 31 true 1 162 (lf (lvC t.rows t.attrs.length) ps) bvg rfl rfl (CoP.sl rfl (.inr rfl) (fun h=>h) (fun i j hi _=>absurd hi (brg i))) (.inr rfl) rfl rfl ?_;refine w_6 ?_;refine br (ka 2 (ka 4 (ka 7 (ka 9 (ka 98 (ka 99 kn)))))) (kb 2 (kb 0 (kb 1 km))) (fun p=>⟨[(100,some (vI p))],[(3,some (.box [.p (asl ps), .ref 2 t.attrs.length, .ref 31 p, .p (ke (.slice none 0 0))])),(31,some (.arr true 1 162 p (lf (lvC t.rows t.attrs.length) ps)))]⟩) ps.length kk ?_;rintro p hp;refine cq ?_;refine cu 98 rfl fun hpn=>?_;refine w_4 ?_;refine hcd (fun h4=>?_) (fun h4=>?_)
 ·
  refine kf ?_;refine rm 7 rfl rfl rfl rfl rfl rfl ?_ (hp:=⟨by omega,by omega,by omega,by show (8:Int) * _ <= _;omega⟩);refine dc ?_;refine br (ka 2 (ka 4 (ka 7 (ka 9 (ka 14 (ka 15 (ka 98 (ka 99 (ka 100 (ka 108 kn)))))))))) (kb 3 (kb 31 (kb 2 (kb 0 (kb 1 km))))) (fun k=>⟨[(109,some (vI k))],[(7,some (.arr true 1 163 (t.attrs.length + 1) (lvT t.rows (ps.getD p default) k)))]⟩) (t.attrs.length + 1) ⟨tt,⟨⟨_,rfl,(b2y (by first | rfl | omega) fun _=>CoP.refl _)⟩,trivial⟩⟩ ?_;rintro k hk;refine w_5 ?_;refine hcd (fun h5=>?_) (fun h5=>?_)
  ·
   refine w_9 ?_;refine bgh 7 (.arrh 1 163 (t.attrs.length + 1) [] fun i j=>.p (lvT t.rows (ps.getD p default) k i j)) rfl bjr ?_;refine w_3 ?_;refine m9 8 ?_;refine j3 ?_;refine br (ka 2 (ka 4 (ka 7 (ka 9 (ka 14 (ka 15 (ka 16 (ka 98 (ka 99 (ka 100 (ka 108 (ka 109 (ka 117 (ka 118 kn)))))))))))))) (kb 3 (kb 31 (kb 2 (kb 0 (kb 1 km))))) (fun i=>⟨[(119,some (vI i))],[(7,some (.arrh 1 163 (t.attrs.length + 1) [8] (ik k (.ref 8 0) (lvT t.rows (ps.getD p default) k)))),(8,some (.mp .str i (yf (t.rows.take i) (ps.getD p default) k)))]⟩) t.rows.length ⟨tt,⟨⟨_,rfl,(arh rfl)⟩,⟨_,rfl,(b9y fun _=>rfl)⟩,trivial⟩⟩ ?_;rintro i hi;refine w_5 ?_;refine hcd (fun h6=>?_) (fun h6=>?_)
   · refine w_7 ?_;refine m9 9 ?_;refine w_6 ?_;refine rq (out:=Out.mk _ (.v (.one (.ref 8 0)))) rfl rfl rfl (congrArg (fun x=>some (Out.mk _ (.v (.one x)))) a58) rfl ?_;refine w_3 ?_;refine rq rfl rfl rfl rfl rfl ?_ (hp:=⟨rfl,trivial,⟨by omega,by rw [hw' i bv9];omega⟩,trivial⟩);refine qy ?_;refine rc rfl rfl rfl rfl rfl rfl agu (ahz ((t.rows.getD i default).vals.take k) (ps.getD p default) (by rw [brl];omega)) (⟨CoC.one (b3u (by rw [hw' i bv9];omega)),CoC.refl _,trivial⟩) rfl rfl ?_;refine rs rfl rfl rfl rfl rfl ?_ (hp:=⟨rfl,ane (by rw [brl];omega),by show i < maxLen;unfold maxLen;omega⟩);refine w_6 ?_;exact lpx (i + 1) ⟨tt,⟨u9,⟨_,rfl,(be3 bv9 rfl)⟩,uu⟩⟩
   obtain rfl:i = t.rows.length:=by omega
   refine d7 ?_;refine ady (id:=8) 7 (lvT t.rows (ps.getD p default) (k + 1)) rfl rfl rfl bln ?_;refine w_4 ?_;exact lpx (k + 1) kk
  obtain rfl:k = t.attrs.length + 1:=by omega
  refine d7 ?_;refine bn 15 rfl rfl rfl ?_;refine w_7 ?_;refine m9 10 ?_;refine r9 11 true ?_;refine w_8 ?_;exact lpx (p + 1) ⟨tt,⟨u9,⟨_,rfl,(b34 rfl)⟩,uu⟩⟩
 obtain rfl:p = ps.length:=by omega
 refine w_2 ?_;refine fk 3 2 rfl rfl rfl rfl rfl ?_;refine fk 3 1 rfl rfl rfl rfl rfl ?_;refine go 3 3 32 true 1 79 (lf vlC []) bvg rfl rfl (CoP.sl rfl (.inr rfl) (fun h=>h) (fun i j hi _=>absurd hi (brg i))) (.inr rfl) rfl rfl ?_;refine w_2 ?_;refine jc rfl rfl rfl rfl rfl rfl (wgx Tryz.func104) (((bjs t.rows ps t.attrs.length bv9 hps t.attrs.length [] [] (bs5 _) (bre _)).swap 1000 3).swap 1001 32) (⟨rfl,su,trivial⟩) ⟨⟨_,rfl,⟨CoH.refl _,b72,CoP.refl _,rfl,trivial⟩⟩,uu⟩ rfl rfl ?_;refine j3 ?_;refine hcd (fun h7=>?_) (fun h7=>?_)
 · refine w_6 ?_;refine hrr ?_;have he:=bdm h0 hv bva;exact f9 rfl rfl (⟨(by rw [ahq he bvg];exact CoC.agg ⟨CoP.refl _,su,su,trivial⟩),cci he.symm,trivial⟩)
 have hJ:(i9 t.rows ps (ca t.rows t.attrs.length) t.attrs.length [] []).length = (pj t.rows ps t.attrs.length).length:=rfl;refine w_7 ?_;refine qcx (wgx Tryz.func105) (c77 t.attrs bv9) ?_;refine qy ?_;refine m9 12 ?_;refine w_5 ?_;refine fk 3 3 rfl rfl rfl rfl rfl ?_;refine w_9 ?_;refine go 12 2 33 true 2 81 (lf Row.c (jt (pj t.rows ps t.attrs.length))) bvg rfl rfl (CoP.sl rfl (.inr rfl) (fun h=>h) (fun i j hi _=>absurd hi (brg i))) (.inr rfl) rfl rfl ?_;refine br (ka 4 (ka 19 (ka 164 (ka 165 kn)))) (kb 1 km) (fun i=>⟨[(166,some (vI i))],[(12,some (.box [.p (.raw (.string t.name)), .p (a2m t.attrs), .ref 33 i])),(33,some (.arr true 2 81 i (lf Row.c (jt (pj t.rows ps t.attrs.length)))))]⟩) ((pj t.rows ps t.attrs.length).length) kk ?_;rintro i hi;refine w_5 ?_;refine hcd (fun h8=>?_) (fun h8=>?_)
 · refine aau ?_;refine m9 13 ?_;refine r9 14 true ?_;refine w_7 ?_;exact lpx (i + 1) ⟨tt,⟨u9,⟨_,rfl,(arp bv9 (CoP.refl _) (CoP.refl _))⟩,uu⟩⟩
 obtain rfl:i = (pj t.rows ps t.attrs.length).length:=by omega
 refine w_2 ?_;refine fk 12 2 rfl rfl rfl rfl rfl ?_;refine w_5 ?_;refine hrr ?_;have he:=atl h0 hv bva;exact f9 rfl rfl (⟨(by rw [asv he];exact CoC.agg ⟨CoP.refl _,CoP.refl _,CoP.sl aem (.inl rfl) (fun h=>h) (fun _ _ _ _=>CoP.refl _),trivial⟩),cci he.symm,trivial⟩)
end
section
open Go.Proofs
def bjg (n:Int) (ps:List AS) (p m:List Fd):a6 bw0 45 [pI n,pP (asl ps),pP (fdl p),pP (fdl m)] (af [pP (stl (prS n ps p m)),pI (prC n ps p m)]):=by
 refine hpx (nt:=55) Tryz.func45 ?_;refine j3 ?_;refine qcx (wgx Tryz.func93) (bby n ps p m) ?_;refine w_5 ?_;refine m9 0 ?_;refine m9 1 ?_;refine j3 ?_;refine hcn (fun h0=>?_) (fun h0=>?_)
 · refine w_6 ?_;refine hrr ?_;obtain ⟨e1,e2⟩:=ay4 (p:=p) (m:=m) (n:=n) (ps:=ps) (by rw [<- abv];assumption);exact f9 rfl rfl (⟨(by rw [e1];exact CoC.one (CoP.sl rfl (.inr rfl) (fun _=>rfl) (fun i j hi _=>absurd hi (brg i)))),cci (abv.trans e2.symm),trivial⟩)
 have hls:lsC n ps p m = 0:=abv.symm.trans bva;obtain ⟨hv,hb,hc,hR⟩:=ayt hls;have hz:=b82 hv;have htr:=b0r hv hb hc;have hfew:(lsT n ps p m).1.length <= 1300000:=ba0 (p:=p) (m:=m) hv hb;refine w_6 ?_;refine ah (ι:=Nat) (ka 0 (ka 2 (ka 3 (ka 10 kn)))) km (fun i=>⟨[(14,some (vI i)),(11,some (vP (stl (lsT n ps p m).1)))],[(0,some (.box [.p (.raw (.int .i64 n)), .p (rl ((trL n p m (bf (ax n ps)) (lsT n ps p m).1).getD i default))]))]⟩) (fun i=>i <= (lsT n ps p m).1.length /\ (∀ j,j < i -> n9 n ((trL n p m (bf (ax n ps)) (lsT n ps p m).1).getD j default) = false)) (fun i=>(lsT n ps p m).1.length - i) (0) (⟨bre _,fun j hj=>absurd hj (brg j)⟩) ⟨⟨zy,⟨_,rfl,(by rw [hR];exact CoR.refl _)⟩,trivial⟩,⟨⟨_,rfl,(by rw [hR,atp];exact CoO.refl _)⟩,trivial⟩⟩ ?_;rintro i ⟨hi,hI⟩;refine w_7 ?_;refine qcx (wgx Tryz.func95) (aus n hz.1 bv9) ?_;refine qcx am5 (awh n ((trL n p m (bf (ax n ps)) (lsT n ps p m).1).getD i default) (dg n)) ?_;refine w_2 ?_;refine au _ rfl (fun r1=>?_) (fun r1=>?_)
 · have h1:=r1;obtain ⟨e1,e2⟩:=axk hls hi hI r1;refine v_8 ?_;exact by rw [e1,e2];exact ⟨CoC.one (b5c (by rw [brl];dsimp only [dn,b5];omega) (fun a j=>by first | rfl | (simp;rfl))),CoC.refl _,trivial⟩
 have h1:=r1;have hno:n9 n ((trL n p m (bf (ax n ps)) (lsT n ps p m).1).getD i default) = false:=r1;refine w_9 ?_;refine hcd (fun h2=>?_) (fun h2=>?_)
 ·
  obtain ⟨e1,e2⟩:=atd hls fun j hj=>by
   by_cases e:j = i
   · rw [e];exact hno
   exact hI j bv9
  refine v_5 ?_;exact by rw [e1,e2];exact ⟨CoC.one (CoP.sl rfl (.inr rfl) (fun _=>rfl) (fun i j hi _=>absurd hi (brg i))),CoC.refl _,trivial⟩
 obtain ⟨hx1,hx2,hx3⟩:=bkw bv9 (b8f htr (i:=i) bv9);refine dc ?_;refine qcx (wgx Tryz.func96) (b1y n ((trL n p m (bf (ax n ps)) (lsT n ps p m).1).getD i default) p m ((lsT n ps p m).1.getD i default) hx1 hb hx2 hx3) ?_;refine ahc ?_;refine lpz (i + 1) ⟨tt,⟨⟨_,rfl,(by rw [au9 bv9];exact CoO.refl _)⟩,trivial⟩⟩ ?_;refine ⟨by omega,fun j hj=>?_⟩;by_cases e:j = i
 · rw [e];exact hno
 exact hI j bv9
def bce (n:Int) (ps:List AS) (p m:List Fd) (sts:List RSt):a6 bw0 46 [pI n,pP (asl ps),pP (fdl p),pP (fdl m),pP (b2f sts)] (af [pB (a2d n ps p m sts)]):=by
 refine hpx (nt:=57) Tryz.func46 ?_;refine w_9 ?_;refine qcx aqh (ahk n ps) ?_;refine w_2 ?_;refine aw rfl rfl (fun r0=>?_) (fun r0=>?_)
 ·
  have h0:=tz2 (eg r0);(iterate 5 refine k9 (gtf r0) ?_);refine w_7 ?_
  exact hx8 rfl rfl rfl (⟨ccb (by first | exact (azs bva).symm | exact (axw bva).symm | (symm;simp_all [a2d])),trivial⟩)
 have h0:=tz1 (ek r0);(iterate 3 refine qy ?_ (hg:=(gff r0)));refine qcx anu (ah5 n p m) ?_ (hg:=(gff r0));refine qy ?_ (hg:=(gff r0));refine w_2 ?_;refine au _ rfl (fun r1=>?_) (fun r1=>?_)
 · have h1:=tz2 (eg (be r0 r1));refine v_4 ?_;exact ⟨ccb (by first | exact (azs bva).symm | exact (axw bva).symm | (symm;simp_all [a2d])),trivial⟩
 have h1:=tz1 (ek (be r0 r1));have hv:lvE n ps = 0:=by simp_all
 have hb:dv n p m = 0:=by simp_all
 have hz:=b82 hv;refine w_5 ?_;refine qcx (wgx Tryz.func98) (atc n ps hv) ?_;refine w_3 ?_;refine m9 0 ?_;refine j3 ?_;refine ah (ι:=Nat × Int × List Rw × Int) (ka 0 (ka 2 (ka 3 (ka 11 (ka 32 (ka 33 kn)))))) km (fun x=>⟨[(12,some (vI x.2.2.2)),(34,some (vI x.1))],[(0,some (.box [.p (.raw (.int .i64 x.2.1)), .p (rl x.2.2.1)]))]⟩) (fun x=>a5f n ps p m sts x) (fun x=>sts.length - x.1) ((0,n,(bf (ax n ps)),0)) (a5f.start) kk ?_;rintro x hC;have hle:=hC.le;refine cq ?_;refine cu 32 rfl fun hsn=>?_;refine w_4 ?_;refine hcd (fun h2=>?_) (fun h2=>?_)
 ·
  refine w_7 ?_;refine m9 1 ?_;refine w_8 ?_;refine hcn (fun h3=>?_) (fun h3=>?_)
  · refine v_4 ?_;exact ⟨ccb (by rw [ad6 hv hb];exact (hC.no bva).symm),trivial⟩
  refine w_6 ?_;refine qcx (wgx Tryz.func96) (at7 x.2.1 x.2.2.1 p m (sts.getD x.1 default).1 (sts.getD x.1 default).2.1 (sts.getD x.1 default).2.2.1 (sts.getD x.1 default).2.2.2) ?_;refine dc ?_;refine lpz (x.1 + 1,(a26 x.2.1 x.2.2.1 p m (sts.getD x.1 default)).1,(a26 x.2.1 x.2.2.1 p m (sts.getD x.1 default)).2.1,(a26 x.2.1 x.2.2.1 p m (sts.getD x.1 default)).2.2) ⟨⟨⟨_,rfl,(CoR.refl _)⟩,⟨_,rfl,(coi bvc)⟩,tt⟩,uu⟩ ?_;exact hC.step bv9 bva
 have hend:¬ x.1 < sts.length:=by omega
 refine w_6 ?_;refine aw rfl rfl (fun r4=>?_) (fun r4=>?_)
 ·
  have h4:=tz1 r4;(iterate 2 refine qy ?_ (hg:=(gtt r4)));refine qcx (wgx Tryz.func95) (aus n hz.1 bv9) ?_ (hg:=(gtt r4));refine qcx am5 (awh x.2.1 x.2.2.1 (dg n)) ?_ (hg:=(gtt r4));refine w_4 ?_
  exact hx8 rfl rfl rfl (⟨ccb (by rw [ad6 hv hb];first | exact (hC.no bva).symm | (refine Eq.trans ?_ (hC.no bva).symm;simp_all;done) | (refine Eq.trans ?_ (hC.fin hend bva).symm;first | rfl | (simp_all;done) | (simp_all;rfl))),trivial⟩)
 have h4:=tz2 r4;(iterate 4 refine k9 (gft r4) ?_);refine w_4 ?_
 exact hx8 rfl rfl rfl (⟨ccb (by rw [ad6 hv hb];first | exact (hC.no bva).symm | (refine Eq.trans ?_ (hC.no bva).symm;simp_all;done) | (refine Eq.trans ?_ (hC.fin hend bva).symm;first | rfl | (simp_all;done) | (simp_all;rfl))),trivial⟩)
end
section
open Go.Proofs
def bnj {n:Int} {ps:List AS} {p m:List Fd} (h:prC n ps p m = 0):a6 bw0 46 [pI n,pP (asl ps),pP (fdl p),pP (fdl m),pP (b2f ((prS n ps p m).map St.r))] (af [pB true]):=by
 have h2:=bce n ps p m ((prS n ps p m).map St.r);rw [b6c h] at h2;exact h2
def azd (t:Tbl) (n:Int) (ps:List AS) (p m:List Fd) (h:prC n ps p m = 0 \/ prC n ps p m = 3) (hj:ng t ps = 0) (hs:ya (t6 t ps) t = true):a6 bw0 12 [t.pc,pI n,pP (asl ps),pP (fdl p),pP (fdl m)] (af [pB true]):=by
 refine hpx (nt:=50) Tryz.func12 ?_;refine sx7 ?_;refine m9 0 ?_;refine w_8 ?_;refine qcx (wgx Tryz.func45) (bjg n ps p m) ?_;refine j4 ?_;refine aw rfl rfl (fun r0=>?_) (fun r0=>?_)
 ·
  have h0:=tz2 (eg r0);(iterate 3 refine qy ?_ (hg:=(gtt r0)));refine aw rfl rfl (fun r1=>?_) (fun r1=>?_)
  ·
   have h1:=tz2 (eg r1);(iterate 7 refine k9 (gtf r1) ?_);refine rq rfl rfl rfl rfl (gtt r0) ?_ (hp:=r1);refine w_2 ?_;refine au _ rfl (fun _=>?_) (fun e=>Bool.noConfusion ((ut r0 rfl).symm.trans e));refine w_4 ?_;refine hrr ?_
   simp_all
  have h1:=tz1 (ek r1);(iterate 5 refine qy ?_ (hg:=(gff r1)));refine rc rfl rfl rfl rfl rfl rfl (wgx Tryz.func46) (bnj (by rcases h with h | h <;> first | exact h | exact absurd h bva)) (⟨CoC.refl _,CoC.refl _,CoC.refl _,CoC.refl _,CoC.one b97,trivial⟩) rfl (gff r1) ?_;refine qy ?_ (hg:=(gff r1));refine qy ?_ (hg:=(gtt r0));refine w_2 ?_;refine au _ rfl (fun r2=>?_) (fun r2=>?_)
  · have h2:=eg (be r1 (ck r0 r2));refine w_4 ?_;refine hrr ?_;simp_all
  have h2:=ek (be r1 (ck r0 r2));refine w_5 ?_;refine qcx (wgx Tryz.func47) (ath t ps) ?_;refine w_3 ?_;refine m9 1 ?_;refine w_8 ?_;refine aw rfl rfl (fun r3=>?_) (fun r3=>?_)
  ·
   have h3:=tz1 r3;(iterate 2 refine qy ?_ (hg:=(gtt r3)));refine qcx (wgx Tryz.func48) (b1v (t6 t ps) t) ?_ (hg:=(gtt r3));refine w_3 ?_
   exact hx8 rfl rfl rfl (⟨ccb bvl,trivial⟩)
  have h3:=tz2 r3;(iterate 3 refine k9 (gft r3) ?_);refine w_3 ?_
  exact hx8 rfl rfl rfl (⟨ccb bvl,trivial⟩)
 have h0:=tz1 (ek r0);(iterate 3 refine k9 (gft r0) ?_);(iterate 7 refine k9 rfl ?_);refine k9 (gft r0) ?_;refine w_8 ?_;refine qcx (wgx Tryz.func47) (ath t ps) ?_;refine w_3 ?_;refine m9 2 ?_;refine w_8 ?_
 refine aw rfl rfl (fun r4=>?_) (fun r4=>?_)
 ·
  have h4:=tz1 r4;(iterate 2 refine qy ?_ (hg:=(gtt r4)));refine qcx (wgx Tryz.func48) (b1v (t6 t ps) t) ?_ (hg:=(gtt r4));refine w_3 ?_
  exact hx8 rfl rfl rfl (⟨ccb bvl,trivial⟩)
 have h4:=tz2 r4;(iterate 3 refine k9 (gft r4) ?_);refine w_3 ?_
 exact hx8 rfl rfl rfl (⟨ccb bvl,trivial⟩)
end
section
open Go.Proofs
def bpv (x:oe) (n:Int):Bool:=decide (¬ (x.rows.length:Int) > n)
def bpx (x:oe) (n:Nat):Tbl:=if x.rows.length > n then T0 else sg x (x.attrs.toNat % 6)
def c36 (x:oe) (n:Nat) (hn:n <= 8) (hx:x.rows.length <= 68719476736):a6 bw0 8 [x.pc,pI n] (af [(sg x n).pc]):=by
 refine hpx (nt:=67) Tryz.func8 ?_;refine sx7 ?_;refine m9 0 ?_;refine m9 1 ?_;refine w_3 ?_;refine m9 2 ?_;refine m9 3 ?_;refine qy ?_;refine afl rfl rfl rfl rfl rfl ?_;refine r9 4 true ?_;refine qy ?_;refine m9 5 ?_;refine w_2 ?_;refine fk 5 1 rfl rfl rfl rfl rfl ?_;refine w_6 ?_;refine go 5 2 100 true 2 81 (lf Row.c (n4 x n)) bvg rfl rfl (CoP.sl rfl (.inr rfl) (fun h=>h) (fun i j hi _=>absurd hi (brg i))) (.inr rfl) rfl rfl ?_;refine br (ka 1 (ka 2 (ka 4 (ka 5 kn)))) (kb 0 (kb 1 km)) (fun i=>⟨[(6,some (vI i))],[(5,some (.box [.p (.raw (.string ⟨#[114]⟩)), .p (a2m (og.take n)), .ref 100 i])),(100,some (.arr true 2 81 i (lf Row.c (n4 x n))))]⟩) x.rows.length ⟨tt,⟨⟨_,rfl,⟨CoH.refl _,bok hn,CoH.refl _,trivial⟩⟩,uu⟩⟩ ?_;rintro i hi;refine w_9 ?_;refine hcd (fun h0=>?_) (fun h0=>?_)
 ·
  refine w_4 ?_;have hgl:=bhk (g:=x.gap) (i:=i);refine dc ?_;refine m9 6 ?_;refine w_8 ?_;refine go 6 1 101 true 3 84 (lf Val.c (qt (x.rows.getD i default) n)) bvg rfl rfl (CoP.sl rfl (.inr rfl) (fun h=>h) (fun i j hi _=>absurd hi (brg i))) (.inr rfl) rfl rfl ?_;refine br (ka 1 (ka 2 (ka 4 (ka 5 (ka 6 (ka 7 kn)))))) (kb 5 (kb 100 (kb 0 (kb 1 km)))) (fun k=>⟨[(8,some (vI k))],[(6,some (.box [.p (.raw (.int .i64 (1 + (i:Int) * (1 + (x.gap.toNat:Int) % 3)))), .ref 101 k])),(101,some (.arr true 3 84 k (lf Val.c (qt (x.rows.getD i default) n))))]⟩) n kk ?_;rintro k hk;refine w_7 ?_;refine hcd (fun h1=>?_) (fun h1=>?_)
  ·
   refine w_7 ?_;refine aek (ka 1 (ka 2 (ka 4 (ka 5 (ka 6 (ka 7 (ka 8 kn))))))) (kb 6 (kb 101 (kb 5 (kb 100 (kb 0 (kb 1 km)))))) ⟨[(9,some (.v (.one (.p (.raw (.int .u8 ((((x.rows.getD i default).getD k default).toNat:Nat):Int)))))))],[]⟩ ?_ ?_
   ·
    refine cq ?_;refine bmb 0 2 rfl rfl (fun hb=>?_);refine dc ?_;refine hcd (fun h2=>?_) (fun h2=>?_)
    · refine j3 ?_;exact ⟨⟨⟨_,rfl,(by first | exact CoR.refl _ | exact CoR.of_eq (by rw [agw bv9];rfl))⟩,tt⟩,uu⟩
    refine dy ?_;exact ⟨⟨⟨_,rfl,(by first | exact CoR.refl _ | exact CoR.of_eq (by rw [agw bv9];rfl))⟩,tt⟩,uu⟩
   refine w_4 ?_;refine qcx (wgx Tryz.func35) (c49 ((((x.rows.getD i default).getD k default).toNat:Nat):Int) bv9) ?_;refine m9 7 ?_;refine r9 8 true ?_;refine w_9 ?_;refine lpz (k + 1) ⟨tt,⟨u9,⟨_,rfl,(wn (fun h=>h) (by first | (intro j hj;rw [axo bv9];revert j;exact lt3 (CoP.refl _) (CoP.refl _) (CoP.refl _)) | (intro j hj;rw [axo bv9,agw bv9];revert j;exact lt3 (CoP.refl _) (CoP.refl _) (CoP.refl _))))⟩,uu⟩⟩ ?_;show k + 1 <= _;omega
  obtain rfl:k = n:=by omega
  refine d7 ?_;refine fk 6 1 rfl rfl rfl rfl rfl ?_;refine w_4 ?_;refine m9 9 ?_;refine r9 10 true ?_;refine w_8 ?_;refine lpz (i + 1) ⟨tt,⟨u9,⟨_,rfl,(wn (fun h=>h) (by intro j hj;rw [bew bv9];revert j;exact lt2 (CoP.refl _) (CoP.sl ayl (.inl rfl) (fun h=>h) (fun _ _ _ _=>CoP.refl _))))⟩,uu⟩⟩ ?_;show i + 1 <= _;omega
 obtain rfl:i = x.rows.length:=by omega
 refine v_6 ?_;exact ⟨CoC.agg ⟨CoP.refl _,CoP.refl _,CoP.sl b00 (.inl rfl) (fun h=>h) (fun _ _ _ _=>CoP.refl _),trivial⟩,trivial⟩
end
section
open Go.Proofs
def bq5 (a b:List Fd):Int:=let i:=idx (fun f=>!imp a f) b;if i < 0 then 0 else i
end
section
open Go.Proofs
def bkn {n:Int} {l:List Fd} (h:bj n l = 0):a6 bw0 10 [pI n,pP (fdl l)] (af [pP (asl (k7 n l)),pI 0]):=by
 have hh:=atj (fun k hk=>b0z k hk) n l;rw [h] at hh;exact hh
def bjn {n:Int} {l:List Fd} (h:k6 n l 8 = 0):a6 bw0 11 [pI n,pP (fdl l)] (af [pP (asl (qi n l)),pI 0]):=by
 have hh:=bom n l;rw [h] at hh;exact hh
def b5t {t:Tbl} {n:Int} {l:List Fd} (h:bj n l = 0) (h6:n <= 6):k6 n (jh t l) 8 = 0:=by unfold k6;rw [if_pos (acr h),if_neg bv9]
def bgu (x:oe) (d:Dps) (hx:x.rows.length <= 16777216) (hl:d.l.length <= 16777216):a6 bw0 3 [x.pc,d.pc] (af [pB true]):=by
 refine hpx (nt:=70) Tryz.func3 ?_;have h6:d.num <= 6:=(b1w d).2;have hm7:(d.n.toNat % 7) <= 6:=by omega
 refine sx7 ?_;refine m9 0 ?_;refine m9 1 ?_;refine w_5 ?_;refine qcx (wgx Tryz.func6) (cOf d hl) ?_;refine j3 ?_;refine qcx akn (a5p) ?_;refine w_2 ?_;refine aw rfl rfl (fun r0=>?_) (fun r0=>?_)
 ·
  have h0:=eg r0;(iterate 2 refine k9 (gtf r0) ?_);refine w_2 ?_;(iterate 4 refine k9 rfl ?_);refine w_5 ?_;refine qcx akn (a5p) ?_;refine w_2 ?_
  exact hx8 rfl rfl rfl (CoL.refl _)
 have h0:=ek r0;(iterate 2 refine qy ?_ (hg:=(gff r0)));refine w_2 ?_;refine aw rfl rfl (fun r1=>?_) (fun r1=>?_)
 ·
  have h1:=eg (be r0 r1);(iterate 4 refine k9 (gtf r1) ?_);refine w_5 ?_;refine qcx akn (a5p) ?_;refine w_2 ?_
  exact hx8 rfl rfl rfl (CoL.refl _)
 have h1:=ek (be r0 r1);(iterate 4 refine qy ?_ (hg:=(gff r1)));refine w_2 ?_;refine au _ rfl (fun r2=>?_) (fun r2=>?_)
 · have h2:=tz1 (be r1 r2);refine sx7 ?_;refine qcx akn (a5p) ?_;refine v_2 ?_;exact CoL.refl _
 have h2:=tz2 (be r1 r2);refine w_2 ?_;have hRw:x.rows.length <= 8:=by omega
 have hd6:d.l.length <= 6:=by simp_all
 have hT:TOk (sg x (d.n.toNat % 7)):=bbc bv9 hRw;have hn:(((sg x (d.n.toNat % 7)).attrs.length:Nat):Int) = d.num:=by rw [acn bv9];rfl
 have hv:=bfc hd6;have hv2:=acr (t:=(sg x (d.n.toNat % 7))) hv;obtain ⟨s1,s2,s3,_⟩:=bec hT an8 hn hv h6;obtain ⟨b1,b2,b3,_⟩:=bej hT an8 hn hv h6;have hfl:d.fds.length <= 1000000:=by unfold Dps.fds;rw [bsc];omega
 refine w_3 ?_;refine qcx (wgx Tryz.func8) (c36 x (d.n.toNat % 7) bv9 bv9) ?_;refine m9 2 ?_;refine w_6 ?_;refine qcx (wgx Tryz.func9) (bbh (sg x (d.n.toNat % 7)) d.fds hT.ok hfl) ?_;refine w_6 ?_;refine qcx (wgx Tryz.func10) (bkn hv2) ?_;refine dc ?_;refine qcx (wgx Tryz.func11) (bjn (b5t hv h6)) ?_;refine j3 ?_;refine aw rfl rfl (fun r3=>?_) (fun r3=>?_)
 ·
  have h3:=tz1 r3;(iterate 2 refine qy ?_ (hg:=(gtt r3)));refine w_2 ?_;refine aw rfl rfl (fun r4=>?_) (fun r4=>?_)
  ·
   have h4:=tz1 (ck r3 r4);(iterate 4 refine qy ?_ (hg:=(gtt r4)));refine rc rfl rfl rfl rfl rfl rfl (wgx Tryz.func12) (azd (sg x (d.n.toNat % 7)) d.num (k7 d.num (jh (sg x (d.n.toNat % 7)) d.fds)) (jh (sg x (d.n.toNat % 7)) d.fds) [] (.inl s1) s2 s3) (⟨CoC.refl _,CoC.refl _,CoC.refl _,CoC.refl _,b7z,trivial⟩) rfl (gtt r4) ?_;refine w_2 ?_;refine aw rfl rfl (fun r5=>?_) (fun r5=>?_)
   · have h5:=ck r4 r5;(iterate 4 refine qy ?_ (hg:=(gtt r5)));refine rc rfl rfl rfl rfl rfl rfl (wgx Tryz.func12) (azd (sg x (d.n.toNat % 7)) d.num (qi d.num (jh (sg x (d.n.toNat % 7)) d.fds)) (jh (sg x (d.n.toNat % 7)) d.fds) [] (.inl b1) b2 b3) (⟨CoC.refl _,CoC.refl _,CoC.refl _,CoC.refl _,b7z,trivial⟩) rfl (gtt r5) ?_;refine v_3 ?_;exact ⟨ccb bvl,trivial⟩
   have h5:=ck r4 r5;(iterate 5 refine k9 (gft r5) ?_);refine w_3 ?_
   exact hx8 rfl rfl rfl (⟨ccb bvl,trivial⟩)
  have h4:=tz2 (ck r3 r4);(iterate 5 refine k9 (gft r4) ?_);refine w_2 ?_;(iterate 5 refine k9 rfl ?_);refine w_3 ?_
  exact hx8 rfl rfl rfl (⟨ccb bvl,trivial⟩)
 have h3:=tz2 r3;(iterate 2 refine k9 (gft r3) ?_);refine w_2 ?_;(iterate 5 refine k9 rfl ?_);refine w_2 ?_;(iterate 5 refine k9 rfl ?_);refine w_3 ?_
 exact hx8 rfl rfl rfl (⟨ccb bvl,trivial⟩)
end
end Go.Hx

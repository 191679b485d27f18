/- A part of the proof: W1 Ls6 W2 W2a Ch22 X26 Ch25 X31 Cc4 Ds1 Rb27 Rb28. -/
import Derived.Lib.Join
import Derived.Test.YtkkenjdfbojdlaaGreatDoorIx15
import Derived.Test.YtkkenjdfbojdlaaGreatDoorIx18
import Derived.Test.YtkkenjdfbojdlaaGreatDoorIx19
import Derived.Test.YtkkenjdfbojdlaaGreatDoorIx22
import Derived.Test.YtkkenjdfbojdlaaGreatDoorIx23
import Derived.Test.YtkkenjdfbojdlaaGreatDoorIx24
import Derived.Test.YtkkenjdfbojdlaaGreatDoorIx29
import Derived.Test.YtkkenjdfbojdlaaGreatDoorIx30
import Derived.Test.YtkkenjdfbojdlaaGreatDoorIx31
set_option linter.all false
set_option maxRecDepth 100000
set_option maxHeartbeats 1000000
namespace Go.Hx
section
open Go.Proofs
def bgs (ps:List AS):a6 brj 112 [pP (asl ps)] (a8 [pA (orL ps)]):=by
 refine hpx (nt:=17) Tryz.func112 ?_;refine bz ?_;refine ca 0 rfl fun hn=>?_;refine w_6 ?_;refine b7 (ka 6 (ka 7 kn)) km (fun i=>⟨[(3,some (vA (orL (ps.take i)))),(8,some (vI i))],[]⟩) ps.length ⟨⟨⟨_,rfl,(CoR.refl _)⟩,tt⟩,trivial⟩ ?_;rintro i hi;refine w_5 ?_;refine hcd (fun h0=>?_) (fun h0=>?_)
 · refine a2o ?_;exact lpx (i + 1) ⟨⟨⟨_,rfl,(bn (by rw [bOr,a4r bqx];rfl))⟩,tt⟩,trivial⟩
 obtain rfl:i = ps.length:=by omega
 refine v_6 ?_;exact ⟨cci (by rw [bmt]),trivial⟩
def br7 {p:Prop} (h:p:=by (repeat' apply And.intro) <;> first | trivial | exact bmn rfl | rfl):p:=h
def ara (n:Int) (ps:List AS):a6 brj 52 [pI n,pP (asl ps)] (a8 [pI (lvE n ps)]):=by
 refine hpx (nt:=28) Tryz.func52 ?_;refine cq ?_;refine ai rfl rfl (fun r0=>?_) (fun r0=>?_)
 ·
  have h0:=tz1 r0;(iterate 2 refine k9 (gtf r0) ?_);refine rq rfl rfl rfl rfl rfl ?_ (hp:=r0);refine w_7 ?_
  exact hx8 rfl rfl rfl (⟨cci (ajy bqx).symm,trivial⟩)
 have h0:=tz2 r0;(iterate 2 refine qy ?_ (hg:=(gff r0)));refine w_3 ?_;refine aj _ rfl (fun r1=>?_) (fun r1=>?_)
 · have h1:=tz1 (av r0 r1);refine v_4 ?_;exact ⟨cci (ajy bqx).symm,trivial⟩
 have h1:=tz2 (av r0 r1);have hz0:0 <= n:=by omega
 have hz1:n <= 16:=by omega
 refine w_7 ?_;refine hcd (fun h2=>?_) (fun h2=>?_)
 · refine v_4 ?_;exact ⟨cci (b53 bqx bqx).symm,trivial⟩
 refine w_6 ?_;refine ai rfl rfl (fun r3=>?_) (fun r3=>?_)
 ·
  have h3:=tz1 r3;(iterate 6 refine k9 (gtf r3) ?_);refine rq rfl rfl rfl rfl rfl ?_ (hp:=r3);refine w_8 ?_
  exact hx8 rfl rfl rfl (⟨cci (ajo bqx bqx (by first | exact .inl bqx | exact .inr (fun e=>absurd (show asI (orL ps) = IntKind.wrap .u32 (1 * 2 ^ (min n.toNat 32)) - 1 by rw [sg hz0 hz1,e]) bqy))).symm,trivial⟩)
 have h3:=tz2 r3;refine qy ?_ (hg:=(gff r3));refine qcx (wgx Tryz.func112) (bgs ps) ?_ (hg:=(gff r3));(iterate 2 refine qy ?_ (hg:=(gff r3)));refine rq rfl rfl rfl rfl (gff r3) ?_ (hp:=⟨ww hz0 hz1,uf hz0 hz1⟩);refine qy ?_ (hg:=(gff r3));refine w_4 ?_;refine aj _ rfl (fun r4=>?_) (fun r4=>?_)
 · have h4:=tz2 (cu (av r3 r4));refine v_4 ?_;exact ⟨cci (ajo bqx bqx (by first | exact .inl bqx | exact .inr (fun e=>absurd (show asI (orL ps) = IntKind.wrap .u32 (1 * 2 ^ (min n.toNat 32)) - 1 by rw [sg hz0 hz1,e]) bqy))).symm,trivial⟩
 have h4:=tz1 (ct (av r3 r4));refine w_6 ?_;refine ⟨.inr rfl, ?_⟩
 exact ⟨_,_,_,_,rfl,br7,rfl,br7,⟨cci (b5g bqx bqx (fun e=>by
  rcases e with e | e
  · omega
  exact e (c7.1 ((by assumption:asI (orL ps) = IntKind.wrap .u32 (1 * 2 ^ (min n.toNat 32)) - 1).trans (sg hz0 hz1))))).symm,trivial⟩⟩
def ary (n:Int) (ps:List AS) (p m:List Fd):a6 brj 100 [pI n,pP (asl ps),pP (fdl p),pP (fdl m)] (a8 [pT (lcR n ps p m).1.1 (lcR n ps p m).1.2,pP (stl (lcR n ps p m).2.1),pT (lcR n ps p m).2.2.1.1 (lcR n ps p m).2.2.1.2,pI (lcR n ps p m).2.2.2]):=by
 refine hpx (nt:=58) Tryz.func100 ?_;refine sx7 ?_;refine m9 0 ?_;refine qy ?_;refine m9 1 ?_;refine w_7 ?_;refine qcx (wgx Tryz.func52) (ara n ps) ?_;refine w_7 ?_;refine hcn (fun h0=>?_) (fun h0=>?_)
 · refine bz ?_;refine hrr ?_;have he:=bi8 (p:=p) (m:=m) (by assumption:¬ lvE n ps = 0);exact f9 rfl rfl (by rw [he];exact ⟨CoC.agg ⟨CoP.refl _,be,trivial⟩,CoC.one (CoP.sl rfl (.inr rfl) (fun _=>rfl) (fun i j hi _=>absurd hi (bmq i))),CoC.agg ⟨CoP.refl _,be,trivial⟩,CoC.refl _,trivial⟩)
 have hv:lvE n ps = 0:=by assumption
 refine w_7 ?_;refine qcx a2r (zg n p m) ?_;refine w_7 ?_;refine hcn (fun h1=>?_) (fun h1=>?_)
 · refine bz ?_;refine hrr ?_;have he:=bh9 hv (by assumption:¬ br n p m = 0);exact f9 rfl rfl (by rw [he];exact ⟨CoC.agg ⟨CoP.refl _,be,trivial⟩,CoC.one (CoP.sl rfl (.inr rfl) (fun _=>rfl) (fun i j hi _=>absurd hi (bmq i))),CoC.agg ⟨CoP.refl _,be,trivial⟩,CoC.refl _,trivial⟩)
 have hb:br n p m = 0:=by assumption
 refine w_5 ?_;refine qcx (wgx Tryz.func128) (bay n ps hv) ?_;refine w_3 ?_;refine m9 2 ?_;refine pg ?_;refine qcx (wgx Tryz.func151) (b6j n ps p m) ?_;refine w_4 ?_;refine m9 3 ?_;refine pg ?_;refine hrr ?_;have he:=auy hv hb;exact f9 rfl rfl (by rw [he];exact CoL.refl _)
def arv (n:Int) (h0:0 <= n) (h1:n <= 16):a6 brj 102 [pI n] (a8 [pZ (df n)]):=by
 refine hpx (nt:=18) Tryz.func102 ?_;refine w_7 ?_;refine m9 0 ?_;refine bz ?_;refine b7 (ka 3 (ka 8 kn)) km (fun k=>⟨[(9,some (vI k))],[(0,some (.arr true 1 3 n.toNat (lf zC (stT n 0 (jt 32) k))))]⟩) n.toNat ⟨tt,⟨⟨_,rfl,(ap2 rfl (fun _=>rfl))⟩,trivial⟩⟩ ?_;rintro k hk;refine w_5 ?_;refine hcd (fun h0=>?_) (fun h0=>?_)
 · refine a2o ?_;exact lpx (k + 1) ⟨tt,⟨⟨_,rfl,(bfd (aw8 bqx) rfl bqx)⟩,trivial⟩⟩
 refine w_2 ?_;refine al 3 rfl rfl rfl ?_;refine v_4 ?_;exact ⟨ayr h1 bqx,trivial⟩
def bkt (n:Int) (ps:List AS) (p m:List Fd):a6 brj 45 [pI n,pP (asl ps),pP (fdl p),pP (fdl m)] (a8 [pB (lsB n ps p m),pI (lsC n ps p m)]):=by
 refine hpx (nt:=33) Tryz.func45 ?_;refine cq ?_;refine qcx (wgx Tryz.func100) (ary n ps p m) ?_;refine w_5 ?_;refine m9 0 ?_;refine m9 1 ?_;refine bz ?_;refine ai rfl rfl (fun r0=>?_) (fun r0=>?_)
 ·
  have h0:=tz1 r0;have hz:=bk8 (n:=n) (ps:=ps) (p:=p) (m:=m) rfl h0;(iterate 2 refine qy ?_ (hg:=(gtt r0)));refine qcx (wgx Tryz.func102) (arv n hz.1 bqx) ?_ (hg:=(gtt r0));refine qcx ahf (atd (lcR n ps p m).2.2.1.1 (lcR n ps p m).2.2.1.2 (df n)) ?_ (hg:=(gtt r0))
  refine v_6 ?_;exact ⟨ccb (by first | exact bcz | exact b34 (n:=n) (ps:=ps) (p:=p) (m:=m) bqy | exact (b0g (n:=n) (ps:=ps) (p:=p) (m:=m) bqy).symm),cci qo,trivial⟩
 have h0:=tz2 r0;(iterate 4 refine k9 (gft r0) ?_);refine rq rfl rfl rfl rfl rfl ?_ (hp:=r0);refine w_5 ?_
 exact hx8 rfl rfl rfl (⟨ccb (by first | exact bcz | exact b34 (n:=n) (ps:=ps) (p:=p) (m:=m) bqy | exact (b0g (n:=n) (ps:=ps) (p:=p) (m:=m) bqy).symm),cci qo,trivial⟩)
def b2l (n:Int) (ps:List AS):a6 brj 62 [pI n,pP (asl ps)] (a8 [pI (lvE n ps)]):=by
 refine hpx (nt:=37) Tryz.func62 ?_;refine bz ?_;refine ai rfl rfl (fun r0=>?_) (fun r0=>?_)
 ·
  have h0:=tz1 r0;(iterate 2 refine k9 (gtf r0) ?_);refine rq rfl rfl rfl rfl rfl ?_ (hp:=r0);refine w_6 ?_
  exact hx8 rfl rfl rfl (⟨cci (ajy bqx).symm,trivial⟩)
 have h0:=tz2 r0;(iterate 2 refine qy ?_ (hg:=(gff r0)));refine w_2 ?_;refine aj _ rfl (fun r1=>?_) (fun r1=>?_)
 · have h1:=tz1 (av r0 r1);refine v_4 ?_;exact ⟨cci (ajy bqx).symm,trivial⟩
 have h1:=tz2 (av r0 r1);refine w_8 ?_;refine hcd (fun h2=>?_) (fun h2=>?_)
 · refine v_4 ?_;exact ⟨cci (b53 bqx bqx).symm,trivial⟩
 refine cq ?_;refine b7 (ka 0 (ka 1 kn)) km (fun i=>⟨[(5,some (vA (orL (ps.take i)))),(6,some (vI i))],[]⟩) ps.length ⟨⟨⟨_,rfl,(CoR.refl _)⟩,tt⟩,trivial⟩ ?_;rintro i hi;refine w_8 ?_;refine hcd (fun h3=>?_) (fun h3=>?_)
 · refine yf ?_;exact lpx (i + 1) ⟨⟨⟨_,rfl,(bn (by rw [bOr,a4r bqx];rfl))⟩,tt⟩,trivial⟩
 obtain rfl:i = ps.length:=by omega
 rw [show ps.take ps.length = ps from bmt];refine w_8 ?_;refine ai rfl rfl (fun r4=>?_) (fun r4=>?_)
 ·
  have h4:=tz1 r4;(iterate 4 refine k9 (gtf r4) ?_);refine rq rfl rfl rfl rfl rfl ?_ (hp:=r4);refine w_6 ?_
  exact hx8 rfl rfl rfl (⟨cci (ajo bqx bqx (by first | exact .inl bqx | exact .inr (fun e=>absurd (show asI (orL ps) = asI (a7 n) by rw [e]) bqy))).symm,trivial⟩)
 have h4:=tz2 r4;(iterate 2 refine qy ?_ (hg:=(gff r4)));refine qcx lr (lj n) ?_ (hg:=(gff r4));refine qy ?_ (hg:=(gff r4));refine w_2 ?_;refine aj _ rfl (fun r5=>?_) (fun r5=>?_)
 · have h5:=tz2 (cu (av r4 r5));refine v_4 ?_;exact ⟨cci (ajo bqx bqx (by first | exact .inl bqx | exact .inr (fun e=>absurd (show asI (orL ps) = asI (a7 n) by rw [e]) bqy))).symm,trivial⟩
 have h5:=tz1 (ct (av r4 r5));refine w_6 ?_;refine ⟨.inr rfl, ?_⟩
 exact ⟨_,_,_,_,rfl,br7,rfl,br7,⟨cci (b5g bqx bqx (fun e=>by
  rcases e with e | e
  · omega
  exact e (c7.1 bqy))).symm,trivial⟩⟩
def bbj (n:Int) (ps:List AS) (p m:List Fd):a6 brj 68 [pI n,pP (asl ps),pP (fdl p),pP (fdl m)] (a8 [pP (stl (rcR n ps p m).1),pP (psl 2 tbC (rcR n ps p m).2.1),pI (rcR n ps p m).2.2]):=by
 refine hpx (nt:=77) Tryz.func68 ?_;refine cq ?_;refine qcx (wgx Tryz.func62) (b2l n ps) ?_;refine w_7 ?_;refine hcn (fun h0=>?_) (fun h0=>?_)
 · refine w_7 ?_;refine hrr ?_;have he:=att (n:=n) (ps:=ps) (p:=p) (m:=m) (bi7 bqy).1 bqy;exact f9 rfl rfl (by rw [he];exact ⟨CoC.one (CoP.sl rfl (.inr rfl) (fun _=>rfl) (fun i j hi _=>absurd hi (bmq i))),CoC.one (CoP.sl rfl (.inr rfl) (fun _=>rfl) (fun i j hi _=>absurd hi (bmq i))),CoC.refl _,trivial⟩)
 have hv:lvE n ps = 0:=by assumption
 refine w_7 ?_;refine qcx a6f (a0h n p m) ?_;refine w_7 ?_;refine hcn (fun h1=>?_) (fun h1=>?_)
 · refine w_7 ?_;refine hrr ?_;have he:=att (n:=n) (ps:=ps) (p:=p) (m:=m) (bh5 hv bqy).1 bqy;exact f9 rfl rfl (by rw [he];exact ⟨CoC.one (CoP.sl rfl (.inr rfl) (fun _=>rfl) (fun i j hi _=>absurd hi (bmq i))),CoC.one (CoP.sl rfl (.inr rfl) (fun _=>rfl) (fun i j hi _=>absurd hi (bmq i))),CoC.refl _,trivial⟩)
 have hb:br n p m = 0:=by assumption
 refine w_5 ?_;refine qcx (wgx Tryz.func130) (b0w n ps hv) ?_;refine w_3 ?_;refine m9 0 ?_;refine pg ?_;refine qcx (wgx Tryz.func132) (b2r n ps p m) ?_;refine w_4 ?_;refine m9 1 ?_;refine bz ?_;refine hcn (fun h2=>?_) (fun h2=>?_)
 · refine w_7 ?_;refine hrr ?_;have he:=att (n:=n) (ps:=ps) (p:=p) (m:=m) (ad1 hv hb) bqy;exact f9 rfl rfl (by rw [he];exact ⟨CoC.one (CoP.sl rfl (.inr rfl) (fun _=>rfl) (fun i j hi _=>absurd hi (bmq i))),CoC.one (CoP.sl rfl (.inr rfl) (fun _=>rfl) (fun i j hi _=>absurd hi (bmq i))),CoC.refl _,trivial⟩)
 have hc:(lsT n ps p m).2.2 = 0:=by assumption
 have htr:=azr hv hb hc;have hfew:(lsT n ps p m).1.length <= 1300000:=ah8 (p:=p) (m:=m) hv hb;have hls:lsC n ps p m = 0:=(ad1 hv hb).trans hc;refine w_4 ?_;refine m9 2 ?_;refine w_8 ?_;refine b7 (ka 2 (ka 3 (ka 13 (ka 15 kn)))) km (fun i=>⟨[(17,some (.v (.one (.ref 2 ((ji n p m (au (bo n ps)) (lsT n ps p m).1).take (i + 1)).length)))),(18,some (vI i))],[(0,some (.box [.p (.raw (.int .i64 n)), .p (rl ((trL n p m (au (bo n ps)) (lsT n ps p m).1).getD i default))])),(2,some (.arr true 2 111 ((ji n p m (au (bo n ps)) (lsT n ps p m).1).take (i + 1)).length (lf tbC ((ji n p m (au (bo n ps)) (lsT n ps p m).1).take (i + 1)))))]⟩) ((lsT n ps p m).1.length) ⟨⟨⟨_,rfl,(gj (by rw [ana];rfl))⟩,tt⟩,⟨⟨_,rfl,(by rw [asq];exact CoO.refl _)⟩,⟨_,rfl,(b88 ana rfl (CoP.refl _) (CoP.refl _))⟩,trivial⟩⟩ ?_;rintro i hi;have hlen:((ji n p m (au (bo n ps)) (lsT n ps p m).1).take (i + 1)).length <= i + 1:=by rw [bmv];omega
 refine w_8 ?_;refine hcd (fun h3=>?_) (fun h3=>?_)
 · obtain ⟨hx1,hx2,hx3⟩:=b4o bqx (at2 htr (i:=i) bqx);refine en ?_;refine qcx (wgx Tryz.func131) (axa n ((trL n p m (au (bo n ps)) (lsT n ps p m).1).getD i default) p m ((lsT n ps p m).1.getD i default) hx1 hb hx2 hx3) ?_;refine w_9 ?_;refine m9 3 ?_;refine r9 4 true ?_;refine w_7 ?_;exact lpx (i + 1) ⟨⟨⟨_,rfl,(bf (aj2 bqx))⟩,tt⟩,⟨⟨_,rfl,(by rw [a9t bqx];exact CoO.refl _)⟩,⟨_,rfl,(jp (aj2 bqx) (CoP.refl _) (CoP.refl _))⟩,trivial⟩⟩
 obtain rfl:i = (lsT n ps p m).1.length:=by omega
 refine w_2 ?_;refine al 17 rfl rfl rfl ?_;refine w_7 ?_;refine hrr ?_;have he:=a94 hls;exact f9 rfl rfl (by rw [he];exact ⟨CoC.refl _,(by rw [List.take_of_length_le (by rw [a00];omega)];exact CoC.refl _),CoC.refl _,trivial⟩)
def aqy (n:Int) (ps:List AS) (p m:List Fd):a6 brj 28 [pI n,pP (asl ps),pP (fdl p),pP (fdl m)] (a8 [pP (stl (prS n ps p m)),pI (prC n ps p m)]):=by
 refine hpx (nt:=42) Tryz.func28 ?_;refine cq ?_;refine qcx (wgx Tryz.func68) (bbj n ps p m) ?_;refine pw ?_;refine hcn (fun h0=>?_) (fun h0=>?_)
 ·
  refine w_6 ?_;refine hrr ?_;have hn:¬ (rcR n ps p m).2.2 = 0:=by assumption
  have e1:prS n ps p m = []:=if_neg hn;have e2:prC n ps p m = (rcR n ps p m).2.2:=if_neg hn;exact f9 rfl rfl (by rw [e1,e2];exact ⟨CoC.one (CoP.sl rfl (.inr rfl) (fun _=>rfl) (fun i j hi _=>absurd hi (bmq i))),CoC.refl _,trivial⟩)
 have hc:(rcR n ps p m).2.2 = 0:=by assumption
 obtain ⟨hz0,hz1,hfew0⟩:=bkj hc;have hfew:(rcR n ps p m).1.length <= 1300000:=hfew0;have hln:=be6 hc;refine w_7 ?_;refine ae (ι:=Nat) (ka 0 (ka 10 (ka 11 kn))) km (fun i=>⟨[(13,some (vI i))],[]⟩) (fun i=>i <= (rcR n ps p m).2.1.length /\ (∀ j,j < i -> o0 n ((rcR n ps p m).2.1.getD j default).2 = false)) (fun i=>(rcR n ps p m).2.1.length - i) (0) (⟨bms _,fun j hj=>absurd hj (bmq j)⟩) kk ?_;rintro i ⟨hi,hI⟩;refine w_8 ?_;refine hcd (fun h1=>?_) (fun h1=>?_)
 ·
  refine bz ?_;refine qcx (wgx Tryz.func70) (bgm n hz1) ?_;refine qcx akv (ao3 ((rcR n ps p m).2.1.getD i default).1 ((rcR n ps p m).2.1.getD i default).2 (df n)) ?_;refine w_2 ?_;refine hcb (fun h2=>?_) (fun h2=>?_)
  ·
   have hx:prX n ps p m = (i:Int):=sq (p:=(fun a:Int × List Rw=>o0 n a.2)) (i:=i) bqx hI bqy;refine w_8 ?_;refine hrr ?_
   have e1:prS n ps p m = (rcR n ps p m).1.take i:=by
    unfold prS;rw [if_pos hc,if_neg bqx,hx];rfl
   have e2:prC n ps p m = 0:=by
    unfold prC;rw [if_pos hc,if_neg bqx]
   exact f9 rfl rfl (by rw [e1,e2];exact ⟨CoC.one (alm (by rw [bmv];dsimp only [d5,ar];omega) (fun a j=>by first | rfl | (simp;rfl))),CoC.refl _,trivial⟩)
  refine w_6 ?_;refine lpz (i + 1) kk ?_;refine ⟨by omega,fun j hj=>?_⟩;by_cases e:j = i
  · rw [e];assumption
  exact hI j bqx
 have hx:prX n ps p m < 0:=by
  have:prX n ps p m = -1:=sy (p:=(fun a:Int × List Rw=>o0 n a.2)) fun j hj=>hI j bqx;omega
 refine w_6 ?_;refine hrr ?_
 have e1:prS n ps p m = []:=by
  unfold prS;rw [if_pos hc,if_pos hx]
 have e2:prC n ps p m = 11:=by
  unfold prC;rw [if_pos hc,if_pos hx]
 exact f9 rfl rfl (by rw [e1,e2];exact ⟨CoC.one (CoP.sl rfl (.inr rfl) (fun _=>rfl) (fun i j hi _=>absurd hi (bmq i))),CoC.refl _,trivial⟩)
def bjs (n:Int) (ps:List AS) (p m:List Fd):a6 brj 47 [pI n,pP (asl ps),pP (fdl p),pP (fdl m)] (a8 [pB (lsB n ps p m),pI (lsC n ps p m)]):=by
 refine hpx (nt:=25) Tryz.func47 ?_;refine cq ?_;refine qcx (wgx Tryz.func28) (aqy n ps p m) ?_;refine en ?_;refine hcd (fun h0=>?_) (fun h0=>?_)
 · refine w_5 ?_;refine hrr ?_;obtain ⟨e1,e2⟩:=bjm (n:=n) (ps:=ps) (p:=p) (m:=m) bqy;exact f9 rfl rfl (⟨ccb e1.symm,cci e2.symm,trivial⟩)
 refine w_9 ?_;refine hrr ?_;obtain ⟨e1,e2⟩:=bhx (n:=n) (ps:=ps) (p:=p) (m:=m) bqy;exact f9 rfl rfl (⟨ccb e1,cci e2,trivial⟩)
end
section
inductive Lf (l:List Fd):AS -> AS -> Prop
 | leaf {s:AS}:cz l s = false -> Lf l s s
 | left {s q:AS}:cz l s = true -> Lf l (spA l s) q -> Lf l s q
 | right {s q:AS}:cz l s = true -> Lf l (spB l s) q -> Lf l s q
section
variable {l:List Fd} {s:AS}
theorem Lf.iff {q:AS} (h:cz l s = true):Lf l s q <-> Lf l (spA l s) q \/ Lf l (spB l s) q:=by
 constructor
 · intro k
   cases k with
   | leaf e=>rw [h] at e;cases e
   | left _ k=>exact .inl k
   | right _ k=>exact .inr k
 rintro (k | k)
 · exact .left h k
 exact .right h k
theorem Lf.iff0 {q:AS} (h:cz l s = false):Lf l s q <-> q = s:=by
 constructor
 · intro k
   cases k with
   | leaf e=>rfl
   | left e _=>rw [h] at e;cases e
   | right e _=>rw [h] at e;cases e
 rintro rfl;exact .leaf h
def jf (l:List Fd):Nat -> AS -> List AS
 | 0,s=>[s]
 | k + 1,s=>if cz l s = true then jf l k (spA l s) ++ jf l k (spB l s) else [s]
def ayk {k:Nat} (h:cz l s = true):jf l (k + 1) s = jf l k (spA l s) ++ jf l k (spB l s):=if_pos h
def axo {k:Nat} (h:cz l s = false):jf l (k + 1) s = [s]:=if_neg (by rw [h];decide)
def aay (l:List Fd):∀ (k:Nat) (s:AS),(jf l k s).length <= 2 ^ k
 | 0,s=>bmp 1
 | k + 1,s=>by
  unfold jf;have h1:=aay l k (spA l s);have h2:=aay l k (spB l s);have h3:(2:Nat) ^ (k + 1) = 2 ^ k * 2:=bqe ..;have h4:0 < 2 ^ k:=bpg br2;split
  · rw [bmo];omega
  show 1 <= _;omega
def ab3 (l:List Fd) {k:Nat} (hk:k <= 8) (s:AS):(jf l k s).length <= 256:=bmy (aay l k s) (bmy (bo2 br2 hk) br2)
def aaw:∀ {k:Nat} {s q:AS},bsz s <= k -> (q ∈ jf l k s <-> Lf l s q)
 | 0,s,q,h=>by
  have hv:cz l s = false:=by
   rw [bmx];intro e;obtain ⟨h1,h2,_⟩:=vr e;have:=ij h1 h2;omega
  rw [Lf.iff0 hv];show q ∈ [s] <-> _;rw [bn2]
 | k + 1,s,q,h=>by
  cases hv:cz l s with
  | false=>rw [axo hv,Lf.iff0 hv,bn2]
  | true =>
   obtain ⟨h1,h2,h3,h4⟩:=vr hv;have b1:=ij h1 h2;have b2:=ij h3 h4;rw [ayk hv,bn1,aaw bqx,aaw bqx,Lf.iff hv]
def b25 {q:AS}:∀ (f:Nat) (todo out:List AS),i6 todo < f -> (q ∈ a2e l f todo out <-> q ∈ out \/ ∃ s,s ∈ todo /\ Lf l s q):=by
 intro f
 induction f with
 | zero=>intro _ _ h;exact absurd h (bmq _)
 | succ f ih =>
  intro todo out hm;unfold a2e;by_cases h0:todo.length = 0
  · rw [if_pos h0]
    have:todo = []:=bqh.1 h0;subst this;simp
  rw [if_neg h0];have hlast:=up (todo:=todo) bqx;have hms:=mz (todo.take (todo.length - 1)) [todo.getD (todo.length - 1) default];rw [<- hlast] at hms;have hone:i6 [todo.getD (todo.length - 1) default] = 3 ^ bsz (todo.getD (todo.length - 1) default):=by unfold i6;simp
  have hp1:0 < 3 ^ bsz (todo.getD (todo.length - 1) default):=bpg br2
  have hsplit:(∃ s,s ∈ todo /\ Lf l s q) <-> (∃ s,s ∈ todo.take (todo.length - 1) /\ Lf l s q) \/ Lf l (todo.getD (todo.length - 1) default) q:=by
   conv=>lhs;rw [hlast]
   constructor
   · rintro ⟨s,hs,hl⟩
     rcases bn1.1 hs with hs | hs
     · exact .inl ⟨s,hs,hl⟩
     rw [bn2.1 hs] at hl;exact .inr hl
   rintro (⟨s,hs,hl⟩ | hl)
   · exact ⟨s,bn5 _ hs,hl⟩
   exact ⟨_,bna _ (bn2.2 rfl),hl⟩
  rw [hsplit];by_cases hv:cz l (todo.getD (todo.length - 1) default) = true
  · rw [if_pos hv]
    obtain ⟨s1,s2,s3,s4⟩:=vr hv;have b1:=ij s1 s2;have b2:=ij s3 s4
    have hm2:i6 (todo.take (todo.length - 1) ++ [spA l (todo.getD (todo.length - 1) default),spB l (todo.getD (todo.length - 1) default)]) < f:=by
     rw [mz];have e2:i6 [spA l (todo.getD (todo.length - 1) default),spB l (todo.getD (todo.length - 1) default)] = 3 ^ bsz (spA l (todo.getD (todo.length - 1) default)) + 3 ^ bsz (spB l (todo.getD (todo.length - 1) default)):=by unfold i6;simp
     obtain ⟨k,hk⟩:∃ k,bsz (todo.getD (todo.length - 1) default) = k + 1:=⟨bsz (todo.getD (todo.length - 1) default) - 1,by omega⟩;have p1:3 ^ bsz (spA l (todo.getD (todo.length - 1) default)) <= 3 ^ k:=bo2 br2 bqx;have p2:3 ^ bsz (spB l (todo.getD (todo.length - 1) default)) <= 3 ^ k:=bo2 br2 bqx;have p3:(3:Nat) ^ (k + 1) = 3 ^ k * 3:=bqe ..;have p4:0 < 3 ^ k:=bpg br2;rw [hk] at hone;omega
    rw [ih _ _ hm2,Lf.iff hv];constructor
    · rintro (h | ⟨s,hs,hl⟩)
      · exact .inl h
      rcases bn1.1 hs with hs | hs
      · exact .inr (.inl ⟨s,hs,hl⟩)
      simp only [bn0,List.not_mem_nil,or_false] at hs
      rcases hs with rfl | rfl
      · exact .inr (.inr (.inl hl))
      exact .inr (.inr (.inr hl))
    rintro (h | ⟨s,hs,hl⟩ | h | h)
    · exact .inl h
    · exact .inr ⟨s,bn5 _ hs,hl⟩
    · exact .inr ⟨_,bna _ br1,h⟩
    exact .inr ⟨_,bna _ (bnq _ br1),h⟩
  have hv:=bmx.2 hv;rw [if_neg (by rw [hv];decide),ih _ _ bqx,Lf.iff0 hv,bn1,bn2];constructor
  · rintro ((h | h) | h)
    · exact .inl h
    · exact .inr (.inr h)
    exact .inr (.inl h)
  rintro (h | h | h)
  · exact .inl (.inl h)
  · exact .inr h
  exact .inl (.inr h)
def av0 {a b:List AS} (h:∀ q,q ∈ a <-> q ∈ b):ek a = ek b:=oo (aho a) (aho b) fun q=>by
 rw [anb,anb,h];exact ⟨fun k=>⟨k.1,fun y hy=>k.2 y ((h y).2 hy)⟩,fun k=>⟨k.1,fun y hy=>k.2 y ((h y).1 hy)⟩⟩
def b5p {n:Int} (h8:er n l 8 = 0):ek (jf l 8 (a7 n)) = aaz n l:=by
 rw [awo h8];refine av0 fun q=>?_;rw [aaw (ta (z6 h8).2 br2)];show _ <-> q ∈ a2e l 6562 [a7 n] [];rw [b25 6562 _ _ (anu h8).2.1];simp
def bh1 {k:Nat} (h:cz l s = false):jf l k s = [s]:=by
 cases k with
 | zero=>rfl
 | succ k=>exact axo h
end
end
section
open Go.Proofs
def ani:goodFn brj 87:=wgx Tryz.func87
def b55 (l:List Fd) (k:Nat) (s:AS) (hv:cz l s = false):cb brj 87 [.one (.p (fdl l)), .one (.p (asC s))] [] (.v (.one (.ref 909 (jf l k s).length))) [(909, .arr true 1 46 (jf l k s).length (lf sC (jf l k s)))] []:=by
 refine hfx (nt:=31) Tryz.func87 ?_;refine w_8 ?_;refine qcx afm (ap0 l s) ?_;refine w_3 ?_;refine m9 0 ?_;refine w_9 ?_;refine aj _ rfl (fun r0=>?_) (fun r0=>?_)
 · have h0:=cu r0;refine w_3 ?_;refine m9 1 ?_;refine w_2 ?_;refine jz 4 909 rfl rfl rfl rfl ?_;refine hrr ?_;have he:=bh1 (k:=k) hv;exact ⟨_,_,rfl,bqz,(by rw [he];exact CoR.refl _),⟨⟨_,rfl,(by rw [he];exact qi (CoP.refl _))⟩,trivial⟩⟩
 have h0:=ct r0;exfalso;rw [hv] at r0;exact absurd r0 br2
def bhz (l:List Fd) (k:Nat) (hk:k <= 8) (IH:∀ s,bsz s <= k -> cb brj 87 [.one (.p (fdl l)), .one (.p (asC s))] [] (.v (.one (.ref 900 (jf l k s).length))) [(900, .arr true 1 46 (jf l k s).length (lf sC (jf l k s)))] []) (s:AS) (hs:bsz s <= k + 1) (hv:cz l s = true):cb brj 87 [.one (.p (fdl l)), .one (.p (asC s))] [] (.v (.one (.ref 909 (jf l (k + 1) s).length))) [(909, .arr true 1 46 (jf l (k + 1) s).length (lf sC (jf l (k + 1) s)))] []:=by
 refine hfx (nt:=31) Tryz.func87 ?_;obtain ⟨s1,s2,s3,s4⟩:=vr hv;have b1:=ij s1 s2;have b2:=ij s3 s4;have hla:=ab3 l hk (spA l s);have hlb:=ab3 l hk (spB l s);refine w_8 ?_;refine qcx afm (ap0 l s) ?_;refine w_3 ?_;refine m9 0 ?_;refine w_9 ?_;refine aj _ rfl (fun r0=>?_) (fun r0=>?_)
 · have h0:=cu r0;exfalso;rw [hv] at r0;exact absurd r0 br2
 have h0:=ct r0;refine w_9 ?_;refine fj rfl rfl rfl rfl rfl rfl ani ((IH (spA l s) bqx)) (⟨CoP.refl _,CoP.of_eq (congrArg (fun z=>PV.raw (.int .u32 z)) (by rw [bOr];rfl)),trivial⟩) trivial rfl rfl ?_;refine w_5 ?_;refine rc rfl rfl rfl rfl rfl rfl ani (cb.pure (args:=[pP (fdl l),pA (spB l s)]) (l:=[.one (.ref 900 (jf l k (spB l s)).length)]) (IH (spB l s) bqx) rfl ⟨rfl,trivial⟩) (⟨CoC.refl _,cci (by rw [gl];rfl),trivial⟩) rfl rfl ?_;refine r9 1 true ?_;refine w_3 ?_;refine jz 4 909 rfl rfl rfl rfl ?_;refine hrr ?_;have he:=ayk (k:=k) hv;exact ⟨_,_,rfl,bqz,(by rw [he,bmo];exact CoR.refl _),⟨⟨_,rfl,(by rw [he];exact ad4 _ (fun h=>h) rfl (fun i j hi hj=>CoP.refl _))⟩,trivial⟩⟩
def b4h (l:List Fd):∀ (k:Nat),k <= 8 -> ∀ s,bsz s <= k -> cb brj 87 [.one (.p (fdl l)), .one (.p (asC s))] [] (.v (.one (.ref 900 (jf l k s).length))) [(900, .arr true 1 46 (jf l k s).length (lf sC (jf l k s)))] []
 | 0,_,s,hs=>by
  have hv:cz l s = false:=by
   rw [bmx];intro e;obtain ⟨h1,h2,_⟩:=vr e;have:=ij h1 h2;omega
  exact (b55 l 0 s hv).swap 909 900
 | k + 1,hk,s,hs=>by
  cases hv:cz l s with
  | false=>exact (b55 l (k + 1) s hv).swap 909 900
  | true=>exact (bhz l k bqx (b4h l k bqx) s hs hv).swap 909 900
def bj6 (l:List Fd) (s:AS) (hs:bsz s <= 8):a6 brj 87 [pP (fdl l),pA s] (a8 [pP (asl (jf l 8 s))]) :=
 cb.pure (args:=[pP (fdl l),pA s]) (l:=[.one (.ref 900 (jf l 8 s).length)]) (b4h l 8 (bmp _) s hs) rfl ⟨rfl,trivial⟩
def bi6 (n:Int) (l:List Fd):a6 brj 37 [pI n,pP (fdl l)] (a8 [pP (asl (aaz n l)),pI (er n l 8)]):=by
 refine hpx (nt:=18) Tryz.func37 ?_;refine bz ?_;refine qcx (wgx Tryz.func86) (bia n l 8) ?_;refine w_7 ?_;refine hcn (fun h0=>?_) (fun h0=>?_)
 · refine w_6 ?_;refine hrr ?_;have he:=ay2 (by assumption:¬ er n l 8 = 0);exact f9 rfl rfl (⟨(by rw [he];exact CoC.one (CoP.sl rfl (.inr rfl) (fun h=>by cases h) fun i j hi _=>absurd hi (bmq i))),CoC.refl _,trivial⟩)
 have he8:er n l 8 = 0:=by assumption
 refine w_5 ?_;refine qcx lr (lj n) ?_;refine qcx ani (bj6 l (a7 n) (ta (z6 he8).2 br2)) ?_;refine qcx akq (a81 (jf l 8 (a7 n)) (bmy (ab3 l (bmp 8) _) br2)) ?_;refine v_3 ?_;exact ⟨(by rw [<- b5p he8];exact CoC.refl _),cci he8.symm,trivial⟩
end
section
open Go.Proofs
def b0y (l:List AS):a6 brj 40 [pP (asl l),pP (asl l)] (a8 [pB true]):=by
 have:=bg9 l l;rw [decide_eq_true rfl] at this;exact this
def u8A (b:BitVec 8):AS:=b.setWidth 32
abbrev u8C:BitVec 8 -> Nat -> PV:=fun b _=>.raw (.int .u8 (b.toNat:Int))
end
section
structure Rcp where
 n:BitVec 8
 f:List Dp
 m:List Dp
 p:List (BitVec 8)
deriving Inhabited
def Rcp.num (d:Rcp) (k:Nat):Int:=1 + ((d.n.toNat % k:Nat):Int)
abbrev Rcp.pc (d:Rcp):PC:=.agg [.raw (.int .u8 (d.n.toNat:Int)),dpl d.f,dpl d.m,psl 1 u8C d.p]
def u8S (n:Int) (b:BitVec 8):AS:=b.setWidth 32 &&& a7 n
def au2 {a b c:Nat}:(bif bif decide ((a:Int) <= 4) then decide ((b:Int) <= 4) else false then decide ((c:Int) <= 3) else false) = decide (a <= 4 /\ b <= 4 /\ c <= 3):=by
 rw [bom,decide_eq_true_iff];by_cases h1:(a:Int) <= 4
 · by_cases h2:(b:Int) <= 4
   · rw [decide_eq_true h1,decide_eq_true h2,cond_true,cond_true,decide_eq_true_iff];omega
   rw [decide_eq_true h1,decide_eq_false h2,cond_true,cond_false];exact ⟨(fun h=>by cases h),(fun h=>by omega)⟩
 rw [decide_eq_false h1,cond_false,cond_false];exact ⟨(fun h=>by cases h),(fun h=>by omega)⟩
end
section
open Go.Proofs
def bk1 (d:Rcp) (hf:d.f.length <= 16777216) (hm:d.m.length <= 16777216) (hp:d.p.length <= 16777216):a6 brj 29 [d.pc,pI 4] (a8 [pI (d.num 4),pP (fdl (d.f.map (Dp.fd (d.num 4)))),pP (fdl (d.m.map (Dp.fd (d.num 4)))),pP (asl (d.p.map (u8S (d.num 4)))),pB (decide (d.f.length <= 4 /\ d.m.length <= 4 /\ d.p.length <= 3))]):=by
 refine hpx (nt:=118) Tryz.func29 ?_;refine sx7 ?_;refine m9 0 ?_;refine a2o ?_;refine qcx lr (lj (d.num 4)) ?_;refine en ?_;refine bw 11 900 true 2 48 (lf Fd.c []) br2 rfl (CoP.sl rfl (.inr rfl) (fun h=>h) (fun i j hi _=>absurd hi (bmq i))) (.inr rfl) rfl ?_;refine b7 (ka 2 (ka 9 (ka 10 kn))) (kb 0 km) (fun i=>⟨[(11,some (.v (.one (.ref 900 ((d.f.take i).map (Dp.fd (d.num 4))).length)))),(12,some (vI i))],[(900,some (.arr true 2 48 ((d.f.take i).map (Dp.fd (d.num 4))).length (lf Fd.c ((d.f.take i).map (Dp.fd (d.num 4))))))]⟩) d.f.length kk ?_;rintro i hi;have hlen:((d.f.take i).map (Dp.fd (d.num 4))).length <= i:=by rw [bn6,bmv];omega
 refine w_9 ?_;refine hcd (fun h0=>?_) (fun h0=>?_)
 · refine bci ?_;refine m9 1 ?_;refine r9 2 true ?_;refine w_8 ?_;exact lpx (i + 1) ⟨⟨⟨_,rfl,(bf (m7 bqx))⟩,tt⟩,⟨⟨_,rfl,(jp (m7 bqx) (CoP.of_eq (congrArg (fun z=>PV.raw (.int .u32 z)) (a7d _ _))) (CoP.of_eq (congrArg (fun z=>PV.raw (.int .u32 z)) (a7d _ _))))⟩,uu⟩⟩
 obtain rfl:i = d.f.length:=by omega
 refine w_2 ?_;refine al 11 rfl rfl rfl ?_;refine w_9 ?_;refine bw 13 901 true 2 49 (lf Fd.c []) br2 rfl (CoP.sl rfl (.inr rfl) (fun h=>h) (fun i j hi _=>absurd hi (bmq i))) (.inr rfl) rfl ?_;refine b7 (ka 2 (ka 9 (ka 10 (ka 11 kn)))) (kb 0 km) (fun i=>⟨[(13,some (.v (.one (.ref 901 ((d.m.take i).map (Dp.fd (d.num 4))).length)))),(14,some (vI i))],[(901,some (.arr true 2 49 ((d.m.take i).map (Dp.fd (d.num 4))).length (lf Fd.c ((d.m.take i).map (Dp.fd (d.num 4))))))]⟩) d.m.length kk ?_;rintro i hi;have hlen:((d.m.take i).map (Dp.fd (d.num 4))).length <= i:=by rw [bn6,bmv];omega
 refine w_9 ?_;refine hcd (fun h1=>?_) (fun h1=>?_)
 · refine bci ?_;refine m9 3 ?_;refine r9 4 true ?_;refine w_8 ?_;exact lpx (i + 1) ⟨⟨⟨_,rfl,(bf (m7 bqx))⟩,tt⟩,⟨⟨_,rfl,(jp (m7 bqx) (CoP.of_eq (congrArg (fun z=>PV.raw (.int .u32 z)) (a7d _ _))) (CoP.of_eq (congrArg (fun z=>PV.raw (.int .u32 z)) (a7d _ _))))⟩,uu⟩⟩
 obtain rfl:i = d.m.length:=by omega
 refine w_2 ?_;refine al 13 rfl rfl rfl ?_;refine w_9 ?_;refine bw 15 902 true 1 46 (lf sC []) br2 rfl (CoP.sl rfl (.inr rfl) (fun h=>h) (fun i j hi _=>absurd hi (bmq i))) (.inr rfl) rfl ?_;refine b7 (ka 2 (ka 9 (ka 10 (ka 11 (ka 13 kn))))) (kb 0 km) (fun i=>⟨[(15,some (.v (.one (.ref 902 ((d.p.take i).map (u8S (d.num 4))).length)))),(16,some (vI i))],[(902,some (.arr true 1 46 ((d.p.take i).map (u8S (d.num 4))).length (lf sC ((d.p.take i).map (u8S (d.num 4))))))]⟩) d.p.length kk ?_;rintro i hi;have hlen:((d.p.take i).map (u8S (d.num 4))).length <= i:=by rw [bn6,bmv];omega
 refine w_9 ?_;refine hcd (fun h2=>?_) (fun h2=>?_)
 · refine jd ?_;refine m9 5 ?_;refine r9 6 true ?_;refine w_7 ?_;exact lpx (i + 1) ⟨⟨⟨_,rfl,(bf (m7 bqx))⟩,tt⟩,⟨⟨_,rfl,(bg (m7 bqx) (CoP.of_eq (congrArg (fun z=>PV.raw (.int .u32 z)) (a7d _ _))))⟩,uu⟩⟩
 obtain rfl:i = d.p.length:=by omega
 refine w_2 ?_;refine al 15 rfl rfl rfl ?_;refine w_9 ?_;refine ai rfl rfl (fun r3=>?_) (fun r3=>?_)
 ·
  have h3:=tz1 r3;(iterate 3 refine qy ?_ (hg:=(gtt r3)));refine w_2 ?_;refine ai rfl rfl (fun r4=>?_) (fun r4=>?_)
  ·
   have h4:=tz1 (bt r3 r4);(iterate 3 refine qy ?_ (hg:=(gtt r4)));refine w_7 ?_
   exact hx8 rfl rfl rfl (⟨CoC.refl _,(by rw [bmt];exact CoC.refl _),(by rw [bmt];exact CoC.refl _),(by rw [bmt];exact CoC.refl _),ccb (by first | (simp only [bn6,bmt];exact au2) | exact (decide_eq_false bqx).symm),trivial⟩)
  have h4:=tz2 (bt r3 r4);(iterate 3 refine k9 (gft r4) ?_);refine rq rfl rfl rfl rfl rfl ?_ (hp:=r4);refine w_6 ?_
  exact hx8 rfl rfl rfl (⟨CoC.refl _,(by rw [bmt];exact CoC.refl _),(by rw [bmt];exact CoC.refl _),(by rw [bmt];exact CoC.refl _),ccb (by first | (simp only [bn6,bmt];exact au2) | exact (decide_eq_false bqx).symm),trivial⟩)
 have h3:=tz2 r3;(iterate 3 refine k9 (gft r3) ?_);refine rq rfl rfl rfl rfl rfl ?_ (hp:=r3);refine qy ?_;(iterate 3 refine k9 rfl ?_);refine w_7 ?_
 exact hx8 rfl rfl rfl (⟨CoC.refl _,(by rw [bmt];exact CoC.refl _),(by rw [bmt];exact CoC.refl _),(by rw [bmt];exact CoC.refl _),ccb (by first | (simp only [bn6,bmt];exact au2) | exact (decide_eq_false bqx).symm),trivial⟩)
end
section
section
variable {a b:Int}
def ant {n:Int} {l:List Rw} {p m:List Fd} {mu:Bool} {i:Int} (h:¬ ckE n l p m = 0):eq n l p m mu i a b = (0,[],ckE n l p m):=if_neg h
def n4 {n:Int} {l:List Rw} {p m:List Fd} {mu:Bool} {i:Int} (h:ckE n l p m = 0) (h3:ir l p m mu i a b):eq n l p m mu i a b = (0,[],1):=(if_pos h).trans (if_pos h3)
def abu {n:Int} {l:List Rw} {p m:List Fd} {mu:Bool} {i:Int} (h:ckE n l p m = 0) (h3:¬ ir l p m mu i a b):eq n l p m mu i a b = dx n l p m (mu,i.toNat,a.toNat,b.toNat):=(if_pos h).trans (if_neg h3)
def ow (h:(if b < a then b else a) < 0):a < 0 \/ b < 0:=by split at h <;> omega
def om {k:Int} (h:k <= (if a < b then b else a)):k <= a \/ k <= b:=by split at h <;> omega
def aw0 (h:¬ (if b < a then b else a) < 0):0 <= a /\ 0 <= b:=by split at h <;> omega
def azl {k:Int} (h:¬ k <= (if a < b then b else a)):a < k /\ b < k:=by split at h <;> omega
def stQ (x y:St):Bool:=(x.1 == y.1) && (decide ((x.2.1:Int) = (y.2.1:Int)) && (decide ((x.2.2.1:Int) = (y.2.2.1:Int)) && decide ((x.2.2.2:Int) = (y.2.2.2:Int))))
end
end
section
open Go.Proofs
def b1x (n:Int) (l:List Rw) (p m:List Fd) (i a b:Int):a6 brj 129 [pT n l,pP (fdl p),pP (fdl m), .agg [.raw (.bool true), .raw (.int .i64 i), .raw (.int .i64 a), .raw (.int .i64 b)]] (a8 [pT (eq n l p m true i a b).1 (eq n l p m true i a b).2.1,pI (eq n l p m true i a b).2.2]):=by
 refine hpx (nt:=69) Tryz.func129 ?_;refine sx7 ?_;refine m9 0 ?_;refine m9 1 ?_;refine m9 2 ?_;refine w_8 ?_;refine qcx afb (ab4 n l p m) ?_;refine w_7 ?_;refine hcn (fun h0=>?_) (fun h0=>?_)
 · refine w_7 ?_;refine hrr ?_;have he:=ant (n:=n) (l:=l) (p:=p) (m:=m) (mu:=true) (i:=i) (a:=a) (b:=b) bqy;exact f9 rfl rfl (by rw [he];exact ⟨CoC.agg ⟨CoP.refl _,be,trivial⟩,CoC.refl _,trivial⟩)
 have hck:ckE n l p m = 0:=by assumption
 obtain ⟨hT,hbe,hpa⟩:=adf hck;refine bgh ?_;refine ai rfl rfl (fun r1=>?_) (fun r1=>?_)
 ·
  have h1:=tz1 r1;(iterate 4 refine k9 (gtf r1) ?_);refine rq rfl rfl rfl rfl rfl ?_ (hp:=r1);refine qy ?_;(iterate 5 refine k9 rfl ?_);refine w_2 ?_;(iterate 6 refine k9 rfl ?_);refine w_2 ?_;(iterate 9 refine k9 rfl ?_);refine w_9 ?_
  refine hrr ?_
  have hbad:ir l p m true i a b:=by
   first
    | exact bdS
    | (refine (ow (a:=a) (b:=b) ?_).elim (fun hq=>?_) (fun hq=>?_) <;> first | assumption | exact bdS)
    | (refine (om (a:=a) (b:=b) (k:=(l.length:Int)) ?_).elim (fun hq=>?_) (fun hq=>?_) <;> first | assumption | exact bdS)
  have he:=n4 hck hbad;exact f9 rfl rfl (by rw [he];exact ⟨CoC.agg ⟨CoP.refl _,be,trivial⟩,CoC.refl _,trivial⟩)
 have h1:=tz2 r1;(iterate 4 refine qy ?_ (hg:=(gff r1)));refine w_2 ?_;refine ai rfl rfl (fun r2=>?_) (fun r2=>?_)
 ·
  have h2:=tz1 (av r1 r2);(iterate 5 refine k9 (gtf r2) ?_);refine rq rfl rfl rfl rfl rfl ?_ (hp:=r2);refine qy ?_;(iterate 6 refine k9 rfl ?_);refine w_2 ?_;(iterate 9 refine k9 rfl ?_);refine w_9 ?_;refine hrr ?_
  have hbad:ir l p m true i a b:=by
   first
    | exact bdS
    | (refine (ow (a:=a) (b:=b) ?_).elim (fun hq=>?_) (fun hq=>?_) <;> first | assumption | exact bdS)
    | (refine (om (a:=a) (b:=b) (k:=(l.length:Int)) ?_).elim (fun hq=>?_) (fun hq=>?_) <;> first | assumption | exact bdS)
  have he:=n4 hck hbad;exact f9 rfl rfl (by rw [he];exact ⟨CoC.agg ⟨CoP.refl _,be,trivial⟩,CoC.refl _,trivial⟩)
 have h2:=tz2 (av r1 r2);(iterate 5 refine qy ?_ (hg:=(gff r2)));refine w_2 ?_;refine ai rfl rfl (fun r3=>?_) (fun r3=>?_)
 ·
  have h3:=tz1 (av r2 r3);(iterate 6 refine k9 (gtf r3) ?_);refine rq rfl rfl rfl rfl rfl ?_ (hp:=r3);refine qy ?_;(iterate 9 refine k9 rfl ?_);refine w_9 ?_;refine hrr ?_
  have hbad:ir l p m true i a b:=by
   first
    | exact bdS
    | (refine (ow (a:=a) (b:=b) ?_).elim (fun hq=>?_) (fun hq=>?_) <;> first | assumption | exact bdS)
    | (refine (om (a:=a) (b:=b) (k:=(l.length:Int)) ?_).elim (fun hq=>?_) (fun hq=>?_) <;> first | assumption | exact bdS)
  have he:=n4 hck hbad;exact f9 rfl rfl (by rw [he];exact ⟨CoC.agg ⟨CoP.refl _,be,trivial⟩,CoC.refl _,trivial⟩)
 have h3:=tz2 (av r2 r3);(iterate 6 refine qy ?_ (hg:=(gff r3)));refine w_2 ?_;refine ai rfl rfl (fun r4=>?_) (fun r4=>?_)
 ·
  have h4:=tz1 (av r3 r4);(iterate 9 refine k9 (gtf r4) ?_);refine rq rfl rfl rfl rfl rfl ?_ (hp:=r4);refine w_8 ?_;refine hrr ?_
  have hbad:ir l p m true i a b:=by
   first
    | exact bdS
    | (refine (ow (a:=a) (b:=b) ?_).elim (fun hq=>?_) (fun hq=>?_) <;> first | assumption | exact bdS)
    | (refine (om (a:=a) (b:=b) (k:=(l.length:Int)) ?_).elim (fun hq=>?_) (fun hq=>?_) <;> first | assumption | exact bdS)
  have he:=n4 hck hbad;exact f9 rfl rfl (by rw [he];exact ⟨CoC.agg ⟨CoP.refl _,be,trivial⟩,CoC.refl _,trivial⟩)
 have h4:=tz2 (av r3 r4);(iterate 9 refine qy ?_ (hg:=(gff r4)));refine w_2 ?_;refine aj _ rfl (fun r5=>?_) (fun r5=>?_)
 ·
  have h5:=tz1 (av r4 r5);refine w_6 ?_;refine hrr ?_
  have hbad:ir l p m true i a b:=by
   first
    | exact bdS
    | (refine (ow (a:=a) (b:=b) ?_).elim (fun hq=>?_) (fun hq=>?_) <;> first | assumption | exact bdS)
    | (refine (om (a:=a) (b:=b) (k:=(l.length:Int)) ?_).elim (fun hq=>?_) (fun hq=>?_) <;> first | assumption | exact bdS)
  have he:=n4 hck hbad;exact f9 rfl rfl (by rw [he];exact ⟨CoC.agg ⟨CoP.refl _,be,trivial⟩,CoC.refl _,trivial⟩)
 have h5:=tz2 (av r4 r5);refine w_2 ?_;obtain ⟨ha0,hb0⟩:=aw0 (a:=a) (b:=b) bqy;obtain ⟨hal,hbl⟩:=azl (a:=a) (b:=b) (k:=(l.length:Int)) bqy
 have hnb:¬ ir l p m true i a b:=by
  unfold ir;rintro (h | h | h | h | h | h | ⟨h,h2⟩ | ⟨h,h2⟩) <;> first | omega | cases h
 have ha:a.toNat < l.length:=by omega
 have hb:b.toNat < l.length:=by omega
 have hi:i.toNat < m.length:=by omega
 refine w_5 ?_;refine rc rfl rfl rfl rfl rfl rfl ag8 (as8 n l p m i.toNat a.toNat b.toNat hT ha hb hi) (⟨CoC.refl _,CoC.refl _,CoC.refl _,CoC.agg ⟨CoP.refl _,CoP.of_eq (by rw [bpv bqx]),CoP.of_eq (by rw [bpv bqx]),CoP.of_eq (by rw [bpv bqx]),trivial⟩,trivial⟩) rfl rfl ?_;refine w_5 ?_;refine hrr ?_;have he:=abu (n:=n) (i:=i) (a:=a) (b:=b) hck hnb;exact f9 rfl rfl (by rw [he];exact CoL.refl _)
def b42 (n:Int) (l:List Rw) (p m:List Fd) (i a b:Int):a6 brj 129 [pT n l,pP (fdl p),pP (fdl m), .agg [.raw (.bool false), .raw (.int .i64 i), .raw (.int .i64 a), .raw (.int .i64 b)]] (a8 [pT (eq n l p m false i a b).1 (eq n l p m false i a b).2.1,pI (eq n l p m false i a b).2.2]):=by
 refine hpx (nt:=69) Tryz.func129 ?_;refine sx7 ?_;refine m9 0 ?_;refine m9 1 ?_;refine m9 2 ?_;refine w_8 ?_;refine qcx afb (ab4 n l p m) ?_;refine w_7 ?_;refine hcn (fun h0=>?_) (fun h0=>?_)
 · refine w_7 ?_;refine hrr ?_;have he:=ant (n:=n) (l:=l) (p:=p) (m:=m) (mu:=false) (i:=i) (a:=a) (b:=b) bqy;exact f9 rfl rfl (by rw [he];exact ⟨CoC.agg ⟨CoP.refl _,be,trivial⟩,CoC.refl _,trivial⟩)
 have hck:ckE n l p m = 0:=by assumption
 obtain ⟨hT,hbe,hpa⟩:=adf hck;refine am5 ?_;refine ai rfl rfl (fun r1=>?_) (fun r1=>?_)
 ·
  have h1:=tz1 r1;(iterate 4 refine k9 (gtf r1) ?_);refine rq rfl rfl rfl rfl rfl ?_ (hp:=r1);refine qy ?_;(iterate 5 refine k9 rfl ?_);refine w_2 ?_;(iterate 6 refine k9 rfl ?_);refine w_2 ?_;(iterate 9 refine k9 rfl ?_);refine w_9 ?_
  refine hrr ?_
  have hbad:ir l p m false i a b:=by
   first
    | exact bdS
    | (refine (ow (a:=a) (b:=b) ?_).elim (fun hq=>?_) (fun hq=>?_) <;> first | assumption | exact bdS)
    | (refine (om (a:=a) (b:=b) (k:=(l.length:Int)) ?_).elim (fun hq=>?_) (fun hq=>?_) <;> first | assumption | exact bdS)
  have he:=n4 hck hbad;exact f9 rfl rfl (by rw [he];exact ⟨CoC.agg ⟨CoP.refl _,be,trivial⟩,CoC.refl _,trivial⟩)
 have h1:=tz2 r1;(iterate 4 refine qy ?_ (hg:=(gff r1)));refine w_2 ?_;refine ai rfl rfl (fun r2=>?_) (fun r2=>?_)
 ·
  have h2:=tz1 (av r1 r2);(iterate 5 refine k9 (gtf r2) ?_);refine rq rfl rfl rfl rfl rfl ?_ (hp:=r2);refine qy ?_;(iterate 6 refine k9 rfl ?_);refine w_2 ?_;(iterate 9 refine k9 rfl ?_);refine w_9 ?_;refine hrr ?_
  have hbad:ir l p m false i a b:=by
   first
    | exact bdS
    | (refine (ow (a:=a) (b:=b) ?_).elim (fun hq=>?_) (fun hq=>?_) <;> first | assumption | exact bdS)
    | (refine (om (a:=a) (b:=b) (k:=(l.length:Int)) ?_).elim (fun hq=>?_) (fun hq=>?_) <;> first | assumption | exact bdS)
  have he:=n4 hck hbad;exact f9 rfl rfl (by rw [he];exact ⟨CoC.agg ⟨CoP.refl _,be,trivial⟩,CoC.refl _,trivial⟩)
 have h2:=tz2 (av r1 r2);(iterate 5 refine qy ?_ (hg:=(gff r2)));refine w_2 ?_;refine ai rfl rfl (fun r3=>?_) (fun r3=>?_)
 ·
  have h3:=tz1 (av r2 r3);(iterate 6 refine k9 (gtf r3) ?_);refine rq rfl rfl rfl rfl rfl ?_ (hp:=r3);refine qy ?_;(iterate 9 refine k9 rfl ?_);refine w_9 ?_;refine hrr ?_
  have hbad:ir l p m false i a b:=by
   first
    | exact bdS
    | (refine (ow (a:=a) (b:=b) ?_).elim (fun hq=>?_) (fun hq=>?_) <;> first | assumption | exact bdS)
    | (refine (om (a:=a) (b:=b) (k:=(l.length:Int)) ?_).elim (fun hq=>?_) (fun hq=>?_) <;> first | assumption | exact bdS)
  have he:=n4 hck hbad;exact f9 rfl rfl (by rw [he];exact ⟨CoC.agg ⟨CoP.refl _,be,trivial⟩,CoC.refl _,trivial⟩)
 have h3:=tz2 (av r2 r3);(iterate 6 refine qy ?_ (hg:=(gff r3)));refine w_2 ?_;refine ai rfl rfl (fun r4=>?_) (fun r4=>?_)
 ·
  have h4:=tz1 (av r3 r4);(iterate 9 refine k9 (gtf r4) ?_);refine rq rfl rfl rfl rfl rfl ?_ (hp:=r4);refine w_8 ?_;refine hrr ?_
  have hbad:ir l p m false i a b:=by
   first
    | exact bdS
    | (refine (ow (a:=a) (b:=b) ?_).elim (fun hq=>?_) (fun hq=>?_) <;> first | assumption | exact bdS)
    | (refine (om (a:=a) (b:=b) (k:=(l.length:Int)) ?_).elim (fun hq=>?_) (fun hq=>?_) <;> first | assumption | exact bdS)
  have he:=n4 hck hbad;exact f9 rfl rfl (by rw [he];exact ⟨CoC.agg ⟨CoP.refl _,be,trivial⟩,CoC.refl _,trivial⟩)
 have h4:=tz2 (av r3 r4);(iterate 9 refine qy ?_ (hg:=(gff r4)));refine w_2 ?_;refine aj _ rfl (fun r5=>?_) (fun r5=>?_)
 ·
  have h5:=tz1 (av r4 r5);refine w_6 ?_;refine hrr ?_
  have hbad:ir l p m false i a b:=by
   first
    | exact bdS
    | (refine (ow (a:=a) (b:=b) ?_).elim (fun hq=>?_) (fun hq=>?_) <;> first | assumption | exact bdS)
    | (refine (om (a:=a) (b:=b) (k:=(l.length:Int)) ?_).elim (fun hq=>?_) (fun hq=>?_) <;> first | assumption | exact bdS)
  have he:=n4 hck hbad;exact f9 rfl rfl (by rw [he];exact ⟨CoC.agg ⟨CoP.refl _,be,trivial⟩,CoC.refl _,trivial⟩)
 have h5:=tz2 (av r4 r5);refine w_2 ?_;obtain ⟨ha0,hb0⟩:=aw0 (a:=a) (b:=b) bqy;obtain ⟨hal,hbl⟩:=azl (a:=a) (b:=b) (k:=(l.length:Int)) bqy
 have hnb:¬ ir l p m false i a b:=by
  unfold ir;rintro (h | h | h | h | h | h | ⟨h,h2⟩ | ⟨h,h2⟩) <;> first | omega | cases h
 have ha:a.toNat < l.length:=by omega
 have hb:b.toNat < l.length:=by omega
 have hi:i.toNat < p.length:=by omega
 refine w_5 ?_;refine rc rfl rfl rfl rfl rfl rfl ag8 (asx n l p m i.toNat a.toNat b.toNat hT ha hb hi (bnr.1 hpa _ (dt hi))) (⟨CoC.refl _,CoC.refl _,CoC.refl _,CoC.agg ⟨CoP.refl _,CoP.of_eq (by rw [bpv bqx]),CoP.of_eq (by rw [bpv bqx]),CoP.of_eq (by rw [bpv bqx]),trivial⟩,trivial⟩) rfl rfl ?_;refine w_5 ?_;refine hrr ?_;have he:=abu (n:=n) (i:=i) (a:=a) (b:=b) hck hnb;exact f9 rfl rfl (by rw [he];exact CoL.refl _)
end
section
open Go.Proofs
abbrev Rcp.fs (d:Rcp) (k:Nat):List Fd:=d.f.map (Dp.fd (d.num k))
abbrev Rcp.ms (d:Rcp) (k:Nat):List Fd:=d.m.map (Dp.fd (d.num k))
abbrev Rcp.ps (d:Rcp) (k:Nat):List AS:=d.p.map (u8S (d.num k))
abbrev Rcp.t0 (d:Rcp) (k:Nat):List Rw:=au (bo (d.num k) (d.ps k))
section
variable {n:Int} {p m:List Fd} {l0 l:List Rw}
end
def b79 (n:Int) (l:List Rw) (p m:List Fd) (mu:Bool) (i a b:Int):a6 brj 129 [pT n l,pP (fdl p),pP (fdl m), .agg [.raw (.bool mu), .raw (.int .i64 i), .raw (.int .i64 a), .raw (.int .i64 b)]] (a8 [pT (eq n l p m mu i a b).1 (eq n l p m mu i a b).2.1,pI (eq n l p m mu i a b).2.2]):=by
 cases mu with
 | false=>exact b42 n l p m i a b
 | true=>exact b1x n l p m i a b
def ax4 {n:Int} {l:List Rw} {p m:List Fd} {s:St} (hT:tok n l = true) (hb:br n p m = 0) (h:yd l p m s):eq n l p m s.1 s.2.1 s.2.2.1 s.2.2.2 = dx n l p m s:=by
 obtain ⟨mu,i,a,b⟩:=s;have hck:ckE n l p m = 0:=(if_pos hT).trans hb;obtain ⟨ha,hbb,h⟩:=h;have ha:a < l.length:=ha;have hbb:b < l.length:=hbb
 have hne:¬ a = b:=by
  rintro rfl
  rcases h with ⟨_,_,h⟩ | ⟨_,_,h⟩
  · rw [show fc l (p.getD i default) a a = false from a4s] at h;cases h
  rw [show ff l (m.getD i default) a a = false from a56 ha] at h;cases h
 show eq n l p m mu (i:Int) (a:Int) (b:Int) = _;rw [abu hck]
 · rfl
 unfold ir
 rcases h with ⟨h1,h2,_⟩ | ⟨h1,h2,_⟩
 · have h1:mu = false:=h1
   subst h1;have h2:i < p.length:=h2;rintro (h | h | h | h | h | h | ⟨h,h3⟩ | ⟨h,h3⟩) <;> first | omega | cases h
 have h1:mu = true:=h1;subst h1;have h2:i < m.length:=h2;rintro (h | h | h | h | h | h | ⟨h,h3⟩ | ⟨h,h3⟩) <;> first | omega | cases h
def ay0 (n:Int) (l:List Rw) (p m:List Fd) (s:St) (hT:tok n l = true) (hb:br n p m = 0) (h:yd l p m s) (he:dx n l p m s = (n,(dx n l p m s).2.1,0)):a6 brj 129 [pT n l,pP (fdl p),pP (fdl m),s.pc] (a8 [pT n (dx n l p m s).2.1,pI 0]):=by
 have:=b79 n l p m s.1 s.2.1 s.2.2.1 s.2.2.2;rw [ax4 hT hb h,he] at this;exact this
end
section
abbrev Bs:=ByteArray
def bsC:Bs -> Nat -> PV:=fun b _=>.raw (.string b)
abbrev bsl (l:List Bs):PV:=psl 1 bsC l
abbrev pS (b:Bs):PC:=.one (.raw (.string b))
abbrev vS (b:Bs):HR:=bp (.raw (.string b))
def byC:UInt8 -> Nat -> PV:=fun x _=>.raw (.int .u8 (x.toNat:Int))
abbrev byl (b:Bs):PV:=psl 1 byC b.data.toList
abbrev pU8 (x:UInt8):PC:=.one (.raw (.int .u8 (x.toNat:Int)))
def coN {α:Type} [Inhabited α] {s:Nat} {c:α -> Nat -> PV} {f:Nat -> Nat -> PV}:CoP (.sl 0 0 true f) (psl s c []):=CoP.sl rfl (.inr rfl) (fun h=>by cases h) fun i j hi _=>absurd hi (bmq i)
def aku (x:UInt8):Bool:=decide ((x.toNat:Int) <= 32) || decide ((x.toNat:Int) = 127)
def t7 (l:List Bs) (i:Nat):Bool:=decide (l.getD i default = ⟨#[]⟩) || ((l.getD i default).data.toList.any aku || (l.take i).any fun x=>decide (x = l.getD i default))
def nf (l:List Bs):Int:=if 16 < l.length then 3 else if (List.range l.length).any (t7 l) = true then 1 else 0
section
variable {l:List Bs}
def b0z {i:Nat} (h0:¬ (16:Int) < l.length) (hi:i < l.length) (h:t7 l i = true):nf l = 1:=by
 unfold nf;rw [if_neg bqx,if_pos (bno.2 ⟨i,bn3.2 hi,h⟩)]
def bky (h0:¬ (16:Int) < l.length) (h:∀ j,j < l.length -> t7 l j = false):nf l = 0:=by
 unfold nf;rw [if_neg bqx,if_neg];rw [bqa,bof];intro j hj;rw [h j (bn3.1 hj)];exact bqk
def bkk (h:(16:Int) < l.length):nf l = 3:=if_pos bqx
def bOf (l:List UInt8):Bs:=⟨l.toArray⟩
abbrev bL (b:Bs):List UInt8:=b.data.toList
def bie (b:Bs):bOf (bL b) = b:=by
 cases b;simp [bOf]
def a5l (l:List Bs) (sep:Bs):Bs:=bOf (Lib.join (l.map bL) (bL sep))
def w5 (l:List Bs) (s:AS):List Bs:=(ak s).map fun i=>l.getD i default
def txT (l:List Bs) (s:AS):Bs:=if (w5 l s).length = 0 then ⟨#[45]⟩ else a5l (w5 l s) ⟨#[44]⟩
def szB (l:List Bs):Nat:=(l.map ByteArray.size).sum
def ae1 (b:Bs):(bL b).length = b.size:=rfl
def b1m (l:List Bs) (sep:List UInt8):(Lib.join (l.map bL) sep).length <= szB l + sep.length * l.length:=by
 cases l with
 | nil=>simp [Lib.join_nil]
 | cons x r =>
  rw [bo7,Lib.join_cons,bmo,Lib.joinTail_length]
  have:Lib.lens (r.map bL) = szB r:=by
   unfold Lib.lens szB;rw [List.map_map];rfl
  rw [this,bn6];have h2:szB (x :: r) = x.size + szB r:=by simp [szB]
  rw [h2,ae1,bn9,Nat.mul_succ];omega
def akw {s:AS} {m:Nat} (h:∀ b ∈ l,b.size <= m):szB (w5 l s) <= m * 32:=by
 have key:∀ q:List Nat,szB (q.map fun i=>l.getD i default) <= m * q.length:=by
  intro q
  induction q with
  | nil=>simp [szB]
  | cons i q ih =>
   have h1:(l.getD i default).size <= m:=by
    rw [bmm]
    cases hi:l[i]? with
    | none=>exact bms _
    | some b=>exact h b (List.mem_of_getElem? hi)
   have h2:szB ((i :: q).map fun i=>l.getD i default) = (l.getD i default).size + szB (q.map fun i=>l.getD i default):=by simp [szB]
   rw [h2,bn9,Nat.mul_succ];omega
 exact bmy (key _) (Nat.mul_le_mul_left _ (o6 s))
def ba1 {s:AS} {m:Nat} (h:∀ b ∈ l,b.size <= m):(txT l s).size <= m * 32 + 33:=by
 unfold txT;split
 · show 1 <= _
   omega
 show (bOf _).size <= _;have h1:=b1m (w5 l s) [44];have h2:=akw (s:=s) h;have h3:(w5 l s).length <= 32:=by unfold w5;rw [bn6];exact o6 s
 have h4:(bOf (Lib.join ((w5 l s).map bL) (bL ⟨#[44]⟩))).size = (Lib.join ((w5 l s).map bL) [44]).length:=rfl;rw [h4];simp only [bo3,Nat.one_mul] at h1;omega
end
end
section
open Go.Proofs Go.Proofs.YtkkenjdfbojdlaaGreatDoor
open Go.RowKit Go.ChangeShapes Go.WideShapes Go.ChangeAt
def rd5:Rd brj 5 1 u8C:=(bj0 Tryz.underlying5).co (fun u=>u.toBitVec) fun a j hj=>CoP.refl _
def bks:RdB brj 113 2 Dp.c fun _ _=>True:=by
 intro H enc w sp held fuel cs x h;obtain ⟨hl,n,hf⟩:=b1q Tryz.underlying113 h;obtain ⟨y0,e0⟩:=hf 0 bqx;obtain ⟨y1,e1⟩:=hf 1 bqx;have hc:brj.cellsOf 5 = 1:=by kernel_rfl
 obtain ⟨a0,_,h0⟩:=ui (off:=0) (fun _ _ _ _ _=>trivial) rd5.toB (by simpa using e0);obtain ⟨a1,_,h1⟩:=ui (off:=1) (fun _ _ _ _ _=>trivial) rd5.toB (by simpa [hc] using e1);refine ⟨hl.trans (by kernel_rfl),(⟨a0,a1⟩:Dp),trivial,fun j hj=>?_⟩
 match j,hj with
 | 0,_=>exact h0 0 bqx
 | 1,_=>exact h1 0 bqx
def bdz:RdB brj 22 1 (b1z 2 Dp.c) fun b l=>l.length <= b :=
 (aix (B:=fun _ _=>True) (fun _ _ _ _ _=>trivial) Tryz.underlying22 (by kernel_rfl) bqx bks).co id (fun b a h=>h.1) fun a j hj=>CoP.refl _
def bk0:RdB brj 23 1 (b1z 1 u8C) fun b l=>l.length <= b :=
 (aix (B:=fun _ _=>True) (fun _ _ _ _ _=>trivial) Tryz.underlying23 (by kernel_rfl) bqx rd5.toB).co id (fun b a h=>h.1) fun a j hj=>CoP.refl _
abbrev Rcp.c (d:Rcp):Nat -> PV:=fun j=>[.raw (.int .u8 (d.n.toNat:Int)),dpl d.f,dpl d.m,psl 1 u8C d.p].getD j .any
def bkn:RdB brj 25 4 Rcp.c fun b d=>d.f.length <= b /\ d.m.length <= b /\ d.p.length <= b:=by
 intro H enc w sp held fuel cs x h;obtain ⟨hl,n,hf⟩:=ati Tryz.underlying25 h;obtain ⟨y0,e0⟩:=hf 0 _ rfl;obtain ⟨y1,e1⟩:=hf 1 _ rfl;obtain ⟨y2,e2⟩:=hf 2 _ rfl;obtain ⟨y3,e3⟩:=hf 3 _ rfl;obtain ⟨a0,_,h0⟩:=ui (fun _ _ _ _ _=>trivial) rd5.toB e0;obtain ⟨a1,b1,h1⟩:=ui (B:=fun b (l:List Dp)=>l.length <= b) (fun _ _ _ h k=>bmy k h) bdz e1;obtain ⟨a2,b2,h2⟩:=ui (B:=fun b (l:List Dp)=>l.length <= b) (fun _ _ _ h k=>bmy k h) bdz e2;obtain ⟨a3,b3,h3⟩:=ui (B:=fun b (l:List (BitVec 8))=>l.length <= b) (fun _ _ _ h k=>bmy k h) bk0 e3;refine ⟨hl.trans (by kernel_rfl),(⟨a0,a1,a2,a3⟩:Rcp),⟨b1,b2,b3⟩,fun j hj=>?_⟩
 match j,hj with
 | 0,_=>exact h0 0 bqx
 | 1,_=>exact h1 0 bqx
 | 2,_=>exact h2 0 bqx
 | 3,_=>exact h3 0 bqx
def bib:brj.readableRec 25 = true /\ 25 < brj.types.size:=⟨by kernel_rfl,of_decide_eq_true (by kernel_rfl)⟩
end
section
open Go.Proofs Go.Proofs.YtkkenjdfbojdlaaGreatDoor
def bl4:brj.readableRec 5 = true /\ 5 < brj.types.size:=⟨by kernel_rfl,of_decide_eq_true (by kernel_rfl)⟩
end
end Go.Hx

/- A part of the proof: W1 Ls6 W2a Rbm Bz1 Bz2 Bz3 Y1 Bz4 Y3 Bz5 Rb25 Ch22 X26 Ch25 X31 Cc4 Sp1. -/
import Derived.Test.YteklilhbjjofbaaGreatDoorLb26
set_option linter.all false
set_option maxRecDepth 100000
set_option maxHeartbeats 1000000
namespace Go.Hx
section
open Go.Proofs
def avm (ps:List AS):a8 b62 44 [pP (asl ps)] (ah [pA (orL ps)]):=by
 refine hpx (nt:=17) Tryz.func44 ?_;refine dm ?_;refine ca 0 rfl fun hn=>?_;refine w_6 ?_;refine ce (ka 6 (ka 7 kn)) km (fun i=>⟨[(3,some (vA (orL (ps.take i)))),(8,some (vI i))],[]⟩) ps.length ⟨⟨⟨_,rfl,(CoR.refl _)⟩,tt⟩,trivial⟩ ?_;rintro i hi;refine w_5 ?_;refine hcd (fun h0=>?_) (fun h0=>?_)
 · refine a2k ?_;exact lpx (i + 1) ⟨⟨⟨_,rfl,(qz (by rw [bOr,a2z b5c];rfl))⟩,tt⟩,trivial⟩
 obtain rfl:i = ps.length:=by omega
 refine v_6 ?_;exact ⟨cci (by rw [b31]),trivial⟩
def a9u:goodFn b62 12:=wgx Tryz.func12
def b5p {p:Prop} (h:p:=by (repeat' apply And.intro) <;> first | trivial | exact b27 rfl | rfl):p:=h
def a78 (n:Int) (ps:List AS):a8 b62 12 [pI n,pP (asl ps)] (ah [pI (lvE n ps)]):=by
 refine hpx (nt:=28) Tryz.func12 ?_;refine dn ?_;refine ag rfl rfl (fun r0=>?_) (fun r0=>?_)
 ·
  have h0:=tz1 r0;(iterate 2 refine k9 (gtf r0) ?_);refine w_8 ?_
  exact hx8 rfl rfl rfl (⟨cci (a93 b5c).symm,trivial⟩)
 have h0:=tz2 r0;(iterate 2 refine qy ?_ (hg:=(gff r0)));refine w_3 ?_;refine al _ rfl (fun r1=>?_) (fun r1=>?_)
 · have h1:=tz1 (af r0 r1);refine v_4 ?_;exact ⟨cci (a93 b5c).symm,trivial⟩
 have h1:=tz2 (af r0 r1);have hz0:0 <= n:=by omega
 have hz1:n <= 16:=by omega
 refine w_7 ?_;refine hcd (fun h2=>?_) (fun h2=>?_)
 · refine v_4 ?_;exact ⟨cci (aol b5c b5c).symm,trivial⟩
 refine w_6 ?_;refine ag rfl rfl (fun r3=>?_) (fun r3=>?_)
 ·
  have h3:=tz1 r3;(iterate 6 refine k9 (gtf r3) ?_);refine w_9 ?_
  exact hx8 rfl rfl rfl (⟨cci (a8u b5c b5c (by first | exact .inl b5c | exact .inr (fun e=>absurd (show asI (orL ps) = IntKind.wrap .u32 (1 * 2 ^ (min n.toNat 32)) - 1 by rw [a0g hz0 hz1,e]) b5d))).symm,trivial⟩)
 have h3:=tz2 r3;refine qy ?_ (hg:=(gff r3));refine qcx (wgx Tryz.func44) (avm ps) ?_ (hg:=(gff r3));(iterate 2 refine qy ?_ (hg:=(gff r3)));refine rq rfl rfl rfl rfl (gff r3) ?_ (hp:=⟨ano hz0 hz1,akf hz0 hz1⟩);refine qy ?_ (hg:=(gff r3));refine w_4 ?_;refine al _ rfl (fun r4=>?_) (fun r4=>?_)
 · have h4:=tz2 (dq (af r3 r4));refine v_4 ?_;exact ⟨cci (a8u b5c b5c (by first | exact .inl b5c | exact .inr (fun e=>absurd (show asI (orL ps) = IntKind.wrap .u32 (1 * 2 ^ (min n.toNat 32)) - 1 by rw [a0g hz0 hz1,e]) b5d))).symm,trivial⟩
 have h4:=tz1 (dt (af r3 r4));refine w_6 ?_;refine ⟨.inr rfl, ?_⟩
 exact ⟨_,_,_,_,rfl,b5p,rfl,b5p,⟨cci (aoq b5c b5c (fun e=>by
  rcases e with e | e
  · omega
  exact e (oi.1 ((by assumption:asI (orL ps) = IntKind.wrap .u32 (1 * 2 ^ (min n.toNat 32)) - 1).trans (a0g hz0 hz1))))).symm,trivial⟩⟩
def ad0:goodFn b62 45:=wgx Tryz.func45
def a62 (n:Int) (ps:List AS) (p m:List Fd):a8 b62 45 [pI n,pP (asl ps),pP (fdl p),pP (fdl m)] (ah [pT (lcR n ps p m).1.1 (lcR n ps p m).1.2,pP (stl (lcR n ps p m).2.1),pT (lcR n ps p m).2.2.1.1 (lcR n ps p m).2.2.1.2,pI (lcR n ps p m).2.2.2]):=by
 refine hpx (nt:=58) Tryz.func45 ?_;refine sx7 ?_;refine m9 0 ?_;refine qy ?_;refine m9 1 ?_;refine w_7 ?_;refine qcx a9u (a78 n ps) ?_;refine w_7 ?_;refine hcn (fun h0=>?_) (fun h0=>?_)
 · refine dm ?_;refine hrr ?_;have he:=axj (p:=p) (m:=m) (by assumption:¬ lvE n ps = 0);exact f9 rfl rfl (by rw [he];exact ⟨CoC.agg ⟨CoP.refl _,aw,trivial⟩,CoC.one (CoP.sl rfl (.inr rfl) (fun _=>rfl) (fun i j hi _=>absurd hi (b2c i))),CoC.agg ⟨CoP.refl _,aw,trivial⟩,CoC.refl _,trivial⟩)
 have hv:lvE n ps = 0:=by assumption
 refine w_7 ?_;refine qcx aca (a73 n p m) ?_;refine w_7 ?_;refine hcn (fun h1=>?_) (fun h1=>?_)
 · refine dm ?_;refine hrr ?_;have he:=aw6 hv (by assumption:¬ bj n p m = 0);exact f9 rfl rfl (by rw [he];exact ⟨CoC.agg ⟨CoP.refl _,aw,trivial⟩,CoC.one (CoP.sl rfl (.inr rfl) (fun _=>rfl) (fun i j hi _=>absurd hi (b2c i))),CoC.agg ⟨CoP.refl _,aw,trivial⟩,CoC.refl _,trivial⟩)
 have hb:bj n p m = 0:=by assumption
 refine w_5 ?_;refine qcx (wgx Tryz.func53) (aea n ps hv) ?_;refine w_3 ?_;refine m9 2 ?_;refine og ?_;refine qcx (wgx Tryz.func86) (aqq n ps p m) ?_;refine w_4 ?_;refine m9 3 ?_;refine og ?_;refine hrr ?_;have he:=afz hv hb;exact f9 rfl rfl (by rw [he];exact CoL.refl _)
def a4j:goodFn b62 47:=wgx Tryz.func47
def a0s (n:Int) (h0:0 <= n) (h1:n <= 16):a8 b62 47 [pI n] (ah [pZ (br n)]):=by
 refine hpx (nt:=18) Tryz.func47 ?_;refine w_7 ?_;refine m9 0 ?_;refine dm ?_;refine ce (ka 3 (ka 8 kn)) km (fun k=>⟨[(9,some (vI k))],[(0,some (.arr true 1 3 n.toNat (lf zC (stT n 0 (j3 32) k))))]⟩) n.toNat ⟨tt,⟨⟨_,rfl,(abk rfl (fun _=>rfl))⟩,trivial⟩⟩ ?_;rintro k hk;refine w_5 ?_;refine hcd (fun h0=>?_) (fun h0=>?_)
 · refine a2k ?_;exact lpx (k + 1) ⟨tt,⟨⟨_,rfl,(at3 (aim b5c) rfl b5c)⟩,trivial⟩⟩
 refine w_2 ?_;refine bo 3 rfl rfl rfl ?_;refine v_4 ?_;exact ⟨ai1 h1 b5c,trivial⟩
def azi (n:Int) (ps:List AS) (p m:List Fd):a8 b62 17 [pI n,pP (asl ps),pP (fdl p),pP (fdl m)] (ah [pB (lsB n ps p m),pI (lsC n ps p m)]):=by
 refine hpx (nt:=33) Tryz.func17 ?_;refine dn ?_;refine qcx ad0 (a62 n ps p m) ?_;refine w_5 ?_;refine m9 0 ?_;refine m9 1 ?_;refine dm ?_;refine ag rfl rfl (fun r0=>?_) (fun r0=>?_)
 ·
  have h0:=tz1 r0;have hz:=axw (n:=n) (ps:=ps) (p:=p) (m:=m) rfl h0;(iterate 2 refine qy ?_ (hg:=(gtt r0)));refine qcx a4j (a0s n hz.1 b5c) ?_ (hg:=(gtt r0));refine qcx zo (a4s (lcR n ps p m).2.2.1.1 (lcR n ps p m).2.2.1.2 (br n)) ?_ (hg:=(gtt r0));refine w_6 ?_
  exact hx8 rfl rfl rfl (⟨ccb (by first | exact ava | exact alf (n:=n) (ps:=ps) (p:=p) (m:=m) b5d | exact (ao3 (n:=n) (ps:=ps) (p:=p) (m:=m) b5d).symm),cci gq,trivial⟩)
 have h0:=tz2 r0;(iterate 4 refine k9 (gft r0) ?_);refine w_6 ?_
 exact hx8 rfl rfl rfl (⟨ccb (by first | exact ava | exact alf (n:=n) (ps:=ps) (p:=p) (m:=m) b5d | exact (ao3 (n:=n) (ps:=ps) (p:=p) (m:=m) b5d).symm),cci gq,trivial⟩)
def abx (n:Int) (ps:List AS):a8 b62 14 [pI n,pP (asl ps)] (ah [pI (lvE n ps)]):=by
 refine hpx (nt:=37) Tryz.func14 ?_;refine dm ?_;refine ag rfl rfl (fun r0=>?_) (fun r0=>?_)
 ·
  have h0:=tz1 r0;(iterate 2 refine k9 (gtf r0) ?_);refine w_7 ?_
  exact hx8 rfl rfl rfl (⟨cci (a93 b5c).symm,trivial⟩)
 have h0:=tz2 r0;(iterate 2 refine qy ?_ (hg:=(gff r0)));refine w_2 ?_;refine al _ rfl (fun r1=>?_) (fun r1=>?_)
 · have h1:=tz1 (af r0 r1);refine v_4 ?_;exact ⟨cci (a93 b5c).symm,trivial⟩
 have h1:=tz2 (af r0 r1);refine w_8 ?_;refine hcd (fun h2=>?_) (fun h2=>?_)
 · refine v_4 ?_;exact ⟨cci (aol b5c b5c).symm,trivial⟩
 refine dn ?_;refine ce (ka 0 (ka 1 kn)) km (fun i=>⟨[(5,some (vA (orL (ps.take i)))),(6,some (vI i))],[]⟩) ps.length ⟨⟨⟨_,rfl,(CoR.refl _)⟩,tt⟩,trivial⟩ ?_;rintro i hi;refine w_8 ?_;refine hcd (fun h3=>?_) (fun h3=>?_)
 · refine za ?_;exact lpx (i + 1) ⟨⟨⟨_,rfl,(qz (by rw [bOr,a2z b5c];rfl))⟩,tt⟩,trivial⟩
 obtain rfl:i = ps.length:=by omega
 rw [show ps.take ps.length = ps from b31];refine w_8 ?_;refine ag rfl rfl (fun r4=>?_) (fun r4=>?_)
 ·
  have h4:=tz1 r4;(iterate 4 refine k9 (gtf r4) ?_);refine w_7 ?_
  exact hx8 rfl rfl rfl (⟨cci (a8u b5c b5c (by first | exact .inl b5c | exact .inr (fun e=>absurd (show asI (orL ps) = asI (bi n) by rw [e]) b5d))).symm,trivial⟩)
 have h4:=tz2 r4;(iterate 2 refine qy ?_ (hg:=(gff r4)));refine qcx tv (tz n) ?_ (hg:=(gff r4));refine qy ?_ (hg:=(gff r4));refine w_2 ?_;refine al _ rfl (fun r5=>?_) (fun r5=>?_)
 · have h5:=tz2 (dq (af r4 r5));refine v_4 ?_;exact ⟨cci (a8u b5c b5c (by first | exact .inl b5c | exact .inr (fun e=>absurd (show asI (orL ps) = asI (bi n) by rw [e]) b5d))).symm,trivial⟩
 have h5:=tz1 (dt (af r4 r5));refine w_6 ?_;refine ⟨.inr rfl, ?_⟩
 exact ⟨_,_,_,_,rfl,b5p,rfl,b5p,⟨cci (aoq b5c b5c (fun e=>by
  rcases e with e | e
  · omega
  exact e (oi.1 b5d))).symm,trivial⟩⟩
def ap5 (n:Int) (ps:List AS) (p m:List Fd):a8 b62 49 [pI n,pP (asl ps),pP (fdl p),pP (fdl m)] (ah [pP (stl (rcR n ps p m).1),pP (psl 2 tbC (rcR n ps p m).2.1),pI (rcR n ps p m).2.2]):=by
 refine hpx (nt:=77) Tryz.func49 ?_;refine dn ?_;refine qcx (wgx Tryz.func14) (abx n ps) ?_;refine w_7 ?_;refine hcn (fun h0=>?_) (fun h0=>?_)
 · refine w_7 ?_;refine hrr ?_;have he:=ahk (n:=n) (ps:=ps) (p:=p) (m:=m) (awy b5d).1 b5d;exact f9 rfl rfl (by rw [he];exact ⟨CoC.one (CoP.sl rfl (.inr rfl) (fun _=>rfl) (fun i j hi _=>absurd hi (b2c i))),CoC.one (CoP.sl rfl (.inr rfl) (fun _=>rfl) (fun i j hi _=>absurd hi (b2c i))),CoC.refl _,trivial⟩)
 have hv:lvE n ps = 0:=by assumption
 refine w_7 ?_;refine qcx zz (t8 n p m) ?_;refine w_7 ?_;refine hcn (fun h1=>?_) (fun h1=>?_)
 · refine w_7 ?_;refine hrr ?_;have he:=ahk (n:=n) (ps:=ps) (p:=p) (m:=m) (awg hv b5d).1 b5d;exact f9 rfl rfl (by rw [he];exact ⟨CoC.one (CoP.sl rfl (.inr rfl) (fun _=>rfl) (fun i j hi _=>absurd hi (b2c i))),CoC.one (CoP.sl rfl (.inr rfl) (fun _=>rfl) (fun i j hi _=>absurd hi (b2c i))),CoC.refl _,trivial⟩)
 have hb:bj n p m = 0:=by assumption
 refine w_5 ?_;refine qcx (wgx Tryz.func84) (acd n ps hv) ?_;refine w_3 ?_;refine m9 0 ?_;refine og ?_;refine qcx (wgx Tryz.func92) (am4 n ps p m) ?_;refine w_4 ?_;refine m9 1 ?_;refine dm ?_;refine hcn (fun h2=>?_) (fun h2=>?_)
 · refine w_7 ?_;refine hrr ?_;have he:=ahk (n:=n) (ps:=ps) (p:=p) (m:=m) (a4o hv hb) b5d;exact f9 rfl rfl (by rw [he];exact ⟨CoC.one (CoP.sl rfl (.inr rfl) (fun _=>rfl) (fun i j hi _=>absurd hi (b2c i))),CoC.one (CoP.sl rfl (.inr rfl) (fun _=>rfl) (fun i j hi _=>absurd hi (b2c i))),CoC.refl _,trivial⟩)
 have hc:(lsT n ps p m).2.2 = 0:=by assumption
 have htr:=ajp hv hb hc;have hfew:(lsT n ps p m).1.length <= 1300000:=a0r (p:=p) (m:=m) hv hb;have hls:lsC n ps p m = 0:=(a4o hv hb).trans hc;refine w_4 ?_;refine m9 2 ?_;refine w_8 ?_;refine ce (ka 2 (ka 3 (ka 13 (ka 15 kn)))) km (fun i=>⟨[(17,some (.v (.one (.ref 2 ((gi n p m (ae (ai n ps)) (lsT n ps p m).1).take (i + 1)).length)))),(18,some (vI i))],[(0,some (.box [.p (.raw (.int .i64 n)), .p (rl ((trL n p m (ae (ai n ps)) (lsT n ps p m).1).getD i default))])),(2,some (.arr true 2 93 ((gi n p m (ae (ai n ps)) (lsT n ps p m).1).take (i + 1)).length (lf tbC ((gi n p m (ae (ai n ps)) (lsT n ps p m).1).take (i + 1)))))]⟩) ((lsT n ps p m).1.length) ⟨⟨⟨_,rfl,(ik (by rw [abn];rfl))⟩,tt⟩,⟨⟨_,rfl,(by rw [afl];exact CoO.refl _)⟩,⟨_,rfl,(arj abn rfl (CoP.refl _) (CoP.refl _))⟩,trivial⟩⟩ ?_;rintro i hi;have hlen:((gi n p m (ae (ai n ps)) (lsT n ps p m).1).take (i + 1)).length <= i + 1:=by rw [b2g];omega
 refine w_8 ?_;refine hcd (fun h3=>?_) (fun h3=>?_)
 · obtain ⟨hx1,hx2,hx3⟩:=aos b5c (aft htr (i:=i) b5c);refine pe ?_;refine qcx ab1 (aip n ((trL n p m (ae (ai n ps)) (lsT n ps p m).1).getD i default) p m ((lsT n ps p m).1.getD i default) hx1 hb hx2 hx3) ?_;refine w_9 ?_;refine m9 3 ?_;refine r9 4 true ?_;refine w_7 ?_;exact lpx (i + 1) ⟨⟨⟨_,rfl,(ju (a7v b5c))⟩,tt⟩,⟨⟨_,rfl,(by rw [a15 b5c];exact CoO.refl _)⟩,⟨_,rfl,(a2u (a7v b5c) (CoP.refl _) (CoP.refl _))⟩,trivial⟩⟩
 obtain rfl:i = (lsT n ps p m).1.length:=by omega
 refine w_2 ?_;refine bo 17 rfl rfl rfl ?_;refine w_7 ?_;refine hrr ?_;have he:=a1b hls;exact f9 rfl rfl (by rw [he];exact ⟨CoC.refl _,(by rw [b4o (by rw [t6];omega)];exact CoC.refl _),CoC.refl _,trivial⟩)
def af8 (n:Int) (ps:List AS) (p m:List Fd):a8 b62 22 [pI n,pP (asl ps),pP (fdl p),pP (fdl m)] (ah [pP (stl (prS n ps p m)),pI (prC n ps p m)]):=by
 refine hpx (nt:=42) Tryz.func22 ?_;refine dn ?_;refine qcx (wgx Tryz.func49) (ap5 n ps p m) ?_;refine xr ?_;refine hcn (fun h0=>?_) (fun h0=>?_)
 ·
  refine w_6 ?_;refine hrr ?_;have hn:¬ (rcR n ps p m).2.2 = 0:=by assumption
  have e1:prS n ps p m = []:=if_neg hn;have e2:prC n ps p m = (rcR n ps p m).2.2:=if_neg hn;exact f9 rfl rfl (by rw [e1,e2];exact ⟨CoC.one (CoP.sl rfl (.inr rfl) (fun _=>rfl) (fun i j hi _=>absurd hi (b2c i))),CoC.refl _,trivial⟩)
 have hc:(rcR n ps p m).2.2 = 0:=by assumption
 obtain ⟨hz0,hz1,hfew0⟩:=azc hc;have hfew:(rcR n ps p m).1.length <= 1300000:=hfew0;have hln:=avs hc;refine w_7 ?_;refine am (ι:=Nat) (ka 0 (ka 10 (ka 11 kn))) km (fun i=>⟨[(13,some (vI i))],[]⟩) (fun i=>i <= (rcR n ps p m).2.1.length /\ (∀ j,j < i -> fg n ((rcR n ps p m).2.1.getD j default).2 = false)) (fun i=>(rcR n ps p m).2.1.length - i) (0) (⟨b2b _,fun j hj=>absurd hj (b2c j)⟩) kk ?_;rintro i ⟨hi,hI⟩;refine w_8 ?_;refine hcd (fun h1=>?_) (fun h1=>?_)
 ·
  refine dm ?_;refine qcx a9w (a9l n hz1) ?_;refine qcx a0d (ze ((rcR n ps p m).2.1.getD i default).1 ((rcR n ps p m).2.1.getD i default).2 (br n)) ?_;refine w_2 ?_;refine hcb (fun h2=>?_) (fun h2=>?_)
  ·
   have hx:prX n ps p m = (i:Int):=a0n (p:=(fun a:Int × List Rw=>fg n a.2)) (i:=i) b5c hI b5d;refine w_8 ?_;refine hrr ?_
   have e1:prS n ps p m = (rcR n ps p m).1.take i:=by
    unfold prS;rw [if_pos hc,if_neg b5c,hx];rfl
   have e2:prC n ps p m = 0:=by
    unfold prC;rw [if_pos hc,if_neg b5c]
   exact f9 rfl rfl (by rw [e1,e2];exact ⟨CoC.one (aai (by rw [b2g];dsimp only [f0,bd];omega) (fun a j=>by first | rfl | (simp;rfl))),CoC.refl _,trivial⟩)
  refine w_6 ?_;refine lpz (i + 1) kk ?_;refine ⟨by omega,fun j hj=>?_⟩;by_cases e:j = i
  · rw [e];assumption
  exact hI j b5c
 have hx:prX n ps p m < 0:=by
  have:prX n ps p m = -1:=a16 (p:=(fun a:Int × List Rw=>fg n a.2)) fun j hj=>hI j b5c;omega
 refine w_6 ?_;refine hrr ?_
 have e1:prS n ps p m = []:=by
  unfold prS;rw [if_pos hc,if_pos hx]
 have e2:prC n ps p m = 11:=by
  unfold prC;rw [if_pos hc,if_pos hx]
 exact f9 rfl rfl (by rw [e1,e2];exact ⟨CoC.one (CoP.sl rfl (.inr rfl) (fun _=>rfl) (fun i j hi _=>absurd hi (b2c i))),CoC.refl _,trivial⟩)
def ay9 (n:Int) (ps:List AS) (p m:List Fd):a8 b62 20 [pI n,pP (asl ps),pP (fdl p),pP (fdl m)] (ah [pB (lsB n ps p m),pI (lsC n ps p m)]):=by
 refine hpx (nt:=25) Tryz.func20 ?_;refine dn ?_;refine qcx (wgx Tryz.func22) (af8 n ps p m) ?_;refine pe ?_;refine hcd (fun h0=>?_) (fun h0=>?_)
 · refine w_5 ?_;refine hrr ?_;obtain ⟨e1,e2⟩:=axe (n:=n) (ps:=ps) (p:=p) (m:=m) b5d;exact f9 rfl rfl (⟨ccb e1.symm,cci e2.symm,trivial⟩)
 refine w_9 ?_;refine hrr ?_;obtain ⟨e1,e2⟩:=axh (n:=n) (ps:=ps) (p:=p) (m:=m) b5d;exact f9 rfl rfl (⟨ccb e1,cci e2,trivial⟩)
end
section
inductive Lf (l:List Fd):AS -> AS -> Prop
 | leaf {s:AS}:s3 l s = false -> Lf l s s
 | left {s q:AS}:s3 l s = true -> Lf l (spA l s) q -> Lf l s q
 | right {s q:AS}:s3 l s = true -> Lf l (spB l s) q -> Lf l s q
def av9 (l:List Fd):Nat -> AS -> List AS
 | 0,s=>[s]
 | k + 1,s=>if s3 l s = true then av9 l k (spA l s) ++ av9 l k (spB l s) else [s]
def a3v {s:Nat} {f:Nat -> Nat -> PV}:CoC (.one (.sl 0 s true f)) (pP (fdl [])):=CoC.one (CoP.sl rfl (.inr rfl) (fun h=>by cases h) fun i j hi _=>absurd hi (b2c i))
end
section
open Go.Proofs
def u8A (b:BitVec 8):AS:=b.setWidth 32
abbrev u8C:BitVec 8 -> Nat -> PV:=fun b _=>.raw (.int .u8 (b.toNat:Int))
end
section
open Go.Proofs Go.Proofs.YteklilhbjjofbaaGreatDoor
open Go.RowKit Go.ChangeShapes Go.WideShapes Go.ChangeAt
def rd5:Rd b62 5 1 u8C:=(ax1 Tryz.underlying5).co (fun u=>u.toBitVec) fun a j hj=>CoP.refl _
def ay2:RdB b62 31 1 (agd 1 u8C) fun b l=>l.length <= b :=
 (a08 (B:=fun _ _=>True) (fun _ _ _ _ _=>trivial) Tryz.underlying31 b5q b5c rd5.toB).co id (fun b a h=>h.1) fun a j hj=>CoP.refl _
end
section
section
variable {b:AS}
def ac9 {a:AS} (h:∀ i,i < 32 -> a.getLsbD i = b.getLsbD i):a = b:=b3r h
def avf {s:AS} (h:s ≠ 0):∃ i,i < 32 /\ s.getLsbD i = true:=by
 apply Classical.byContradiction;intro hn;refine h (ac9 fun i hi=>?_)
 cases hs:s.getLsbD i with
 | false=>simp
 | true=>exact absurd ⟨i,hi,hs⟩ hn
def aug {s:AS} {i:Nat} (h:s.getLsbD i = true):i < 32:=BitVec.lt_of_getLsbD h
def m8 {s t:AS} {i:Nat} (hi:i < 32):(s &&& ~~~t).getLsbD i = (s.getLsbD i && !t.getLsbD i):=by simp [hi]
def ath (a:Nat):AS:=1#32 <<< a
def tx (m:Fd) (b:AS):Bool:=decide (b &&& m.lhs = 0) && (decide (b &&& m.rhs ≠ 0) && decide (b &&& ~~~m.rhs ≠ 0))
def hdB (m:Fd) (b:AS):AS:=if tx m b = true then b &&& m.rhs else b
def tlB (m:Fd) (b:AS):List AS:=if tx m b = true then [b &&& ~~~m.rhs] else []
def stB (m:Fd) (l:List AS) (i:Nat):List AS:=(l.take i).map (hdB m) ++ l.drop i ++ (l.take i).flatMap (tlB m)
def rdB (m:Fd) (l:List AS):List AS:=l.map (hdB m) ++ l.flatMap (tlB m)
def avd (ms:List Fd) (l:List AS):List AS:=ms.foldl (fun l m=>rdB m l) l
def av0:List Fd -> List AS -> Bool
 | [],_=>false
 | m :: ms,l=>l.any (tx m) || av0 ms (rdB m l)
def alo (ms:List Fd):Nat -> List AS -> List AS
 | 0,l=>l
 | f + 1,l=>if av0 ms l = true then alo ms f (avd ms l) else avd ms l
def muB:List AS -> Nat
 | []=>0
 | b :: l=>b.toNat * b.toNat + muB l
def ang {m:Fd}:tx m b = true <-> b &&& m.lhs = 0 /\ b &&& m.rhs ≠ 0 /\ b &&& ~~~m.rhs ≠ 0:=by simp [tx]
structure Blk (ms:List Fd) (rest:AS) (bs:List AS):Prop where
 nz:∀ b ∈ bs,b ≠ 0
 cnt:∀ a,a < 32 -> bs.countP (fun b=>b.getLsbD a) = if rest.getLsbD a = true then 1 else 0
 ind:∀ G:AS -> Prop,G rest -> (∀ m ∈ ms,∀ b,G b -> tx m b = true -> G (b &&& m.rhs) /\ G (b &&& ~~~m.rhs)) -> ∀ b ∈ bs,G b
variable {bs:List AS} {ms:List Fd} {rest:AS}
theorem Blk.rd (h:Blk ms rest bs) {m:Fd} (hm:m ∈ ms):Blk ms rest (rdB m bs):=by
 have hmem:∀ {b:AS},b ∈ rdB m bs -> ∃ b0 ∈ bs,(tx m b0 = false /\ b = b0) \/ (tx m b0 = true /\ (b = b0 &&& m.rhs \/ b = b0 &&& ~~~m.rhs)):=by
  intro b hb;unfold rdB at hb
  rcases b2u.1 hb with hb | hb
  · obtain ⟨b0,h0,rfl⟩:=b32.1 hb
    refine ⟨b0,h0, ?_⟩;cases hs:tx m b0 <;> simp [hdB,hs]
  obtain ⟨b0,h0,hb⟩:=List.mem_flatMap.1 hb;refine ⟨b0,h0, ?_⟩;cases hs:tx m b0
  · simp [tlB,hs] at hb
  simp [tlB,hs] at hb;exact .inr ⟨rfl, .inr hb⟩
 refine ⟨fun b hb=>?_,fun a ha=>?_,fun G h0 hG b hb=>?_⟩
 · obtain ⟨b0,h0,⟨_,rfl⟩ | ⟨hs,hb⟩⟩:=hmem hb
   · exact h.nz _ h0
   obtain ⟨_,h2,h3⟩:=ang.1 hs
   rcases hb with rfl | rfl
   · exact h2
   exact h3
 · rw [<- h.cnt a ha]
   have:∀ l:List AS,(l.map (hdB m)).countP (fun b=>b.getLsbD a) + (l.flatMap (tlB m)).countP (fun b=>b.getLsbD a) = l.countP (fun b=>b.getLsbD a):=by
    intro l
    induction l with
    | nil=>rfl
    | cons b l ih =>
     rw [b3y,List.flatMap_cons,List.countP_append,b4f,b4f,<- ih];cases hs:tx m b
     · simp [hdB,tlB,hs];omega
     simp only [hdB,tlB,hs,if_true,b4f,List.countP_nil,m8 ha,b3j];cases b.getLsbD a <;> cases m.rhs.getLsbD a <;> simp <;> omega
   unfold rdB;rw [List.countP_append];exact this bs
 obtain ⟨b0,h1,⟨_,rfl⟩ | ⟨hs,hb⟩⟩:=hmem hb
 · exact h.ind G h0 hG _ h1
 obtain ⟨g1,g2⟩:=hG m hm b0 (h.ind G h0 hG _ h1) hs
 rcases hb with rfl | rfl
 · exact g1
 exact g2
def aay (rest:AS):List AS:=if rest = 0 then [] else [rest]
theorem Blk.start (ms:List Fd) (rest:AS):Blk ms rest (aay rest):=by
 unfold aay;by_cases h:rest = 0
 · subst h
   simp only [if_true];exact ⟨fun _ h=>by (cases h),fun a ha=>by simp,fun _ _ _ _ h=>by cases h⟩
 rw [if_neg h];exact ⟨fun b hb=>by (simp at hb;subst hb;exact h),fun a ha=>by simp [b4f],fun G h0 _ b hb=>by (simp at hb;subst hb;exact h0)⟩
def blks (ms:List Fd) (rest:AS):List AS:=alo ms 18446744073709551616 (aay rest)
def agp {p:AS -> Bool} {l:List AS} (h:l.countP p <= 1) {a:AS} (ha:a ∈ l) (hb:b ∈ l) (pa:p a = true) (pb:p b = true):a = b:=by
 rw [List.countP_eq_length_filter] at h;have h1:a ∈ l.filter p:=b4i.2 ⟨ha,pa⟩;have h2:b ∈ l.filter p:=b4i.2 ⟨hb,pb⟩
 cases hl:l.filter p with
 | nil=>rw [hl] at h1;cases h1
 | cons x r =>
  rw [hl] at h h1 h2
  cases r with
  | nil=>simp at h1 h2;rw [h1,h2]
  | cons=>simp at h
theorem Blk.one (h:Blk ms rest bs) {b':AS} (hb:b ∈ bs) (hb':b' ∈ bs) {a:Nat} (h1:b.getLsbD a = true) (h2:b'.getLsbD a = true):b = b':=by
 refine agp (p:=fun b=>b.getLsbD a) ?_ hb hb' h1 h2;rw [h.cnt a (aug h1)];split <;> omega
theorem Blk.sub (h:Blk ms rest bs) (hb:b ∈ bs):Go.Hx.sub b rest:=du.2 fun a ha hba=>by
 have h1:=h.cnt a ha;have h2:0 < bs.countP (fun b=>b.getLsbD a):=List.countP_pos_iff.2 ⟨b,hb,hba⟩
 cases hr:rest.getLsbD a with
 | true=>rfl
 | false=>rw [hr] at h1;simp only [b52,if_false] at h1;omega
end
end
section
def sgl (f:Fd):List Fd:=(b6 f.rhs).map fun a=>⟨f.lhs,ath a⟩
def ax3 (fs ms:List Fd):List Fd:=ms ++ fs.flatMap sgl
def l7 (T:List AS) (r:AS):List AS:=if r ∈ T then T else T ++ [r]
def a3e {T:List AS} {r z:AS}:z ∈ l7 T r <-> z ∈ T \/ z = r:=by
 unfold l7;split
 · rename_i h
   constructor
   · exact .inl
   rintro (h2 | rfl)
   · exact h2
   exact h
 simp
def rr {T:List AS} {r:AS} (h:T.Nodup):(l7 T r).Nodup:=by
 unfold l7;split
 · exact h
 rename_i hr;rw [List.nodup_append];exact ⟨h,by simp,fun a ha b hb=>by simp at hb;subst hb;rintro rfl;exact hr ha⟩
def a5n (s:AS) (o:List AS) (T:List AS):List AS:=T.foldl (fun o r=>l7 o (r &&& ~~~s)) o
def mh (T:List AS) (s:AS):List AS:=a5n s [] T
def a2m {s:AS}:∀ {T o:List AS},(o.Nodup -> (a5n s o T).Nodup) /\ ∀ z,z ∈ a5n s o T <-> z ∈ o \/ ∃ r ∈ T,z = r &&& ~~~s
 | [],o=>⟨fun h=>h,fun z=>by simp [a5n]⟩
 | r :: T,o=>by
  obtain ⟨h1,h2⟩:=a2m (s:=s) (T:=T) (o:=l7 o (r &&& ~~~s));refine ⟨fun h=>h1 (rr h),fun z=>?_⟩;show z ∈ a5n s (l7 o (r &&& ~~~s)) T <-> _;rw [h2 z,a3e];simp only [b2f];constructor
  · rintro ((h | h) | ⟨q,hq,h⟩)
    · exact .inl h
    · exact .inr ⟨r, .inl rfl,h⟩
    exact .inr ⟨q, .inr hq,h⟩
  rintro (h | ⟨q,rfl | hq,h⟩)
  · exact .inl (.inl h)
  · exact .inl (.inr h)
  exact .inr ⟨q,hq,h⟩
def a31 {T:List AS} {s z:AS}:z ∈ mh T s <-> ∃ r ∈ T,z = r &&& ~~~s:=by
 have:=(a2m (s:=s) (T:=T) (o:=[])).2 z;simpa [mh] using this
def a5o (T:List AS) (s:AS):(mh T s).Nodup:=(a2m (s:=s) (T:=T) (o:=[])).1 List.nodup_nil
def vf (d:Fd) (r k:AS):AS:=(r &&& (d.lhs ||| d.rhs)) ||| (k &&& ~~~(d.lhs ||| d.rhs))
def agB (d:Fd) (r k:AS):Bool:=decide ((r ^^^ k) &&& d.lhs = 0)
def an6 {d:Fd} {r k:AS} {i:Nat} (hi:i < 32):(vf d r k).getLsbD i = (if d.lhs.getLsbD i || d.rhs.getLsbD i then r.getLsbD i else k.getLsbD i):=by
 unfold vf;rw [b4k,m8 hi,b3j,b4k];cases d.lhs.getLsbD i <;> cases d.rhs.getLsbD i <;> simp
structure awf (fs ms:List Fd) (T:List AS):Prop where
 fd:∀ d ∈ fs,∀ r ∈ T,∀ k ∈ T,agB d r k = true -> (r ^^^ k) &&& d.rhs = 0
 mv:∀ d ∈ ms,∀ r ∈ T,∀ k ∈ T,agB d r k = true -> vf d r k ∈ T
def awh (fs:List Fd) (bs:List AS) (a:Nat):Prop:=ath a ∈ bs /\ ∃ f ∈ fs,f.rhs.getLsbD a = true /\ f.lhs.getLsbD a = false
structure JT (fs:List Fd) (bs:List AS) (rest:AS) (T:List AS):Prop where
 z:(0:AS) ∈ T
 r:∀ r ∈ T,sub r rest /\ ∀ b ∈ bs,b &&& r = 0 \/ sub b r
 top:∃ L ∈ T,(∀ r ∈ T,sub r L) /\ ∀ a,a < 32 -> rest.getLsbD a = true -> L.getLsbD a = false -> awh fs bs a
section
variable {fs ms:List Fd} {bs:List AS} {rest:AS} {T:List AS}
def b0g (T:List AS) (b:AS):Prop:=∀ r ∈ T,∀ k ∈ T,((r &&& b) ||| (k &&& ~~~b)) ∈ T
structure b1d (fs ms:List Fd) (bs:List AS) (rest:AS) (T:List AS):Prop where
 j:JT fs bs rest T
 c:awf fs ms T
def qB (T:List AS) (L x rest y:AS):Prop:=y ≠ 0 /\ sub y rest /\ (L &&& ~~~(x ||| y)) ∈ T
end
end
section
def at4:List AS -> Nat
 | []=>0
 | b :: l=>b.toNat + at4 l
def OkB (l:List AS):Prop:=at4 l < 4294967296 /\ ∀ b ∈ l,b ≠ 0
def b16 (l:List AS) (i:Nat):Nat -> Nat -> PV:=fun k c=>if k < i then .any else sC (l.getD k default) c
structure BkI (ms:List Fd) (R:List AS) (x:Nat × List AS × Bool):Prop where
 ok:OkB x.2.1
 t:x.2.2 = true -> alo ms x.1 x.2.1 = R /\ muB x.2.1 < x.1
 f:x.2.2 = false -> x.2.1 = R
def ckB (n:Int) (l m:List Fd) (s:AS):Int:=if bj n l m = 0 then (if s >>> n.toNat = 0 then 0 else 1) else bj n l m
def b0v (fs ms:List Fd) (i k:Nat):List Fd:=ms ++ (fs.take i).flatMap sgl ++ (sgl (fs.getD i default)).take k
end
section
open Go.Proofs
def b1f (x:Nat × List AS × Bool):Nat:=x.1 + (bif x.2.2 then 1 else 0)
end
section
def azg (b:AS) (f:Fd):Bool:=!decide ((f.rhs &&& ~~~f.lhs) &&& b = 0)
def ark (l:List Fd) (o b:AS):AS:=if bsz b = 1 then (if l.any (azg b) = true then o ||| b else o) else o
def ayd (l:List Fd) (o:AS) (bs:List AS):AS:=bs.foldl (ark l) o
section
variable {l:List Fd} {o:AS} {bs:List AS} {i:Nat}
end
def ams (n:Int) (l m:List Fd) (x:AS):List AS:=ord (blks (ax3 l m) (bi n &&& ~~~x))
def b0z (n:Int) (l m:List Fd) (x:AS):List AS:=if ckB n l m x = 0 then ams n l m x else []
def au4 (n:Int) (l m:List Fd) (x:AS):AS:=ayd l x (ams n l m x)
def b1w (n:Int) (l m:List Fd) (x:AS):AS:=if ckB n l m x = 0 then au4 n l m x else 0
def ayk (p:AS) (bs:List AS):List AS:=(bs.filter fun b=>!decide (b &&& p = 0)).map fun b=>b &&& p
def anc (n:Int) (l m:List Fd) (x p:AS):List AS:=ord (ayk p (ams n l m x))
def ck4 (n:Int) (l m:List Fd) (s:AS):Int:=if n < 0 \/ 8 < n then 7 else ckB n l m s
def b11 (n:Int) (l m:List Fd) (x p:AS):List AS:=if ck4 n l m (x ||| p) = 0 then anc n l m x p else []
def aye (n:Int) (l m:List Fd) (p x:AS):Option Fd:=if p &&& ~~~(au4 n l m x) = 0 then none else if 1 < (anc n l m x p).length then some ⟨x,(anc n l m x p).getD 0 default⟩ else none
def anv (n:Int) (l m:List Fd) (p:AS):Option Fd:=(a90 p).findSome? (aye n l m p)
def amt:Option Fd -> Fd × Bool
 | some v=>(v,true)
 | none=>(⟨0,0⟩,false)
def ays (n:Int) (l m:List Fd) (p:AS):Fd × Bool:=if ck4 n l m p = 0 then amt (anv n l m p) else (⟨0,0⟩,false)
def a85 {α:Type} [Inhabited α] {l:List α} {i:Nat} (h:i < l.length):l.getD i default ∈ l:=by
 rw [b26,b25 h];exact b2l h
def b0m (V:AS -> Option Fd):Prop:=∀ p v,V p = some v -> sub (v.lhs ||| v.rhs) p /\ v.lhs ||| v.rhs ≠ p /\ p &&& ~~~v.rhs ≠ p
section
variable {V:AS -> Option Fd}
def vF (V:AS -> Option Fd) (s:AS):Fd:=(amt (V s)).1
def vBo (V:AS -> Option Fd) (s:AS):Bool:=(amt (V s)).2
def aul (V:AS -> Option Fd) (s:AS):AS:=(vF V s).lhs ||| (vF V s).rhs
def aup (V:AS -> Option Fd) (s:AS):AS:=s &&& ~~~(vF V s).rhs
def ac5 (V:AS -> Option Fd):Nat -> List AS -> List AS -> List AS
 | 0,_,out=>out
 | n + 1,todo,out =>
  if todo.length = 0 then out
  else if vBo V (todo.getD (todo.length - 1) default) = true then ac5 V n (todo.take (todo.length - 1) ++ [aul V (todo.getD (todo.length - 1) default),aup V (todo.getD (todo.length - 1) default)]) out
  else ac5 V n (todo.take (todo.length - 1)) (out ++ [todo.getD (todo.length - 1) default])
def b1k (V:AS -> Option Fd) (p0:AS) (x:Nat × List AS × List AS):Prop:=ac5 V x.1 x.2.1 x.2.2 = ac5 V 6562 [p0] [] /\ ats x.2.1 < x.1 /\ x.2.2.length + x.1 <= 6562
def lvG (V:AS -> Option Fd):Nat -> AS -> List AS
 | 0,s=>[s]
 | n + 1,s=>if vBo V s = true then lvG V n (aul V s) ++ lvG V n (aup V s) else [s]
end
def axs (n:Int) (l m:List Fd):List AS:=ac5 (anv n l m) 6562 [bi n] []
def b0x (n:Int) (l m:List Fd):List AS:=if ck4 n l m 0 = 0 then ad5 (axs n l m) else []
end
section
open Go.Proofs
def is4 (n:Int) (l m:List Fd):Bool:=if ck4 n l m 0 = 0 then !(ays n l m (bi n)).2 else false
end
section
structure Mx where
 d:Dps
 m:List Dp
deriving Inhabited
def Mx.mv (x:Mx):List Fd:=x.m.map (Dp.fd x.d.num)
def Mx.c (x:Mx):Nat -> PV
 | 0=>x.d.c 0
 | 1=>x.d.c 1
 | 2=>dpl x.m
 | _=>.any
abbrev Mx.pc (x:Mx):PC:=.agg [x.c 0,x.c 1,x.c 2]
def Mx.ok (x:Mx):Bool:=decide (x.d.l.length <= 6) && decide (x.m.length <= 4)
def b0w (n:Int) (l m:List Fd) (ps:List AS):Int:=if ck4 n l m 0 = 0 then lsC n ps l m else ck4 n l m 0
def b1e (n:Int) (l m:List Fd) (ps:List AS):Bool:=if ck4 n l m 0 = 0 then (if lsC n ps l m = 0 then lsB n ps l m && ps.all (fun p=>!vBo (anv n l m) p) else false) else false
end
section
open Go.Proofs Go.Proofs.YteklilhbjjofbaaGreatDoor
open Go.RowKit Go.ChangeShapes Go.WideShapes Go.ChangeAt
def s2C (x:AS × AS):Nat -> PV
 | 0=>asC x.1
 | 1=>asC x.2
 | _=>.any
def azh:Rd b62 4 1 aog:=ari Tryz.underlying4
end
section
structure Rcp where
 n:BitVec 8
 f:List Dp
 m:List Dp
 p:List (BitVec 8)
deriving Inhabited
def Rcp.num (d:Rcp) (k:Nat):Int:=1 + ((d.n.toNat % k:Nat):Int)
abbrev Rcp.pc (d:Rcp):PC:=.agg [.raw (.int .u8 (d.n.toNat:Int)),dpl d.f,dpl d.m,psl 1 u8C d.p]
def u8S (n:Int) (b:BitVec 8):AS:=b.setWidth 32 &&& bi n
def ag7 {a b c:Nat}:(bif bif decide ((a:Int) <= 4) then decide ((b:Int) <= 4) else false then decide ((c:Int) <= 3) else false) = decide (a <= 4 /\ b <= 4 /\ c <= 3):=by
 rw [b51,decide_eq_true_iff];by_cases h1:(a:Int) <= 4
 · by_cases h2:(b:Int) <= 4
   · rw [decide_eq_true h1,decide_eq_true h2,cond_true,cond_true,decide_eq_true_iff];omega
   rw [decide_eq_true h1,decide_eq_false h2,cond_true,cond_false];exact ⟨(fun h=>by cases h),(fun h=>by omega)⟩
 rw [decide_eq_false h1,cond_false,cond_false];exact ⟨(fun h=>by cases h),(fun h=>by omega)⟩
end
section
open Go.Proofs
def ayl (d:Rcp) (hf:d.f.length <= 16777216) (hm:d.m.length <= 16777216) (hp:d.p.length <= 16777216):a8 b62 15 [d.pc,pI 5] (ah [pI (d.num 5),pP (fdl (d.f.map (Dp.fd (d.num 5)))),pP (fdl (d.m.map (Dp.fd (d.num 5)))),pP (asl (d.p.map (u8S (d.num 5)))),pB (decide (d.f.length <= 4 /\ d.m.length <= 4 /\ d.p.length <= 3))]):=by
 refine hpx (nt:=118) Tryz.func15 ?_;refine sx7 ?_;refine m9 0 ?_;refine a2k ?_;refine qcx tv (tz (d.num 5)) ?_;refine pe ?_;refine fe 11 900 true 2 43 (lf Fd.c []) b5i rfl (CoP.sl rfl (.inr rfl) (fun h=>h) (fun i j hi _=>absurd hi (b2c i))) (.inr rfl) rfl ?_;refine ce (ka 2 (ka 9 (ka 10 kn))) (kb 0 km) (fun i=>⟨[(11,some (.v (.one (.ref 900 ((d.f.take i).map (Dp.fd (d.num 5))).length)))),(12,some (vI i))],[(900,some (.arr true 2 43 ((d.f.take i).map (Dp.fd (d.num 5))).length (lf Fd.c ((d.f.take i).map (Dp.fd (d.num 5))))))]⟩) d.f.length kk ?_;rintro i hi;have hlen:((d.f.take i).map (Dp.fd (d.num 5))).length <= i:=by rw [b33,b2g];omega
 refine w_9 ?_;refine hcd (fun h0=>?_) (fun h0=>?_)
 · refine atq ?_;refine m9 1 ?_;refine r9 2 true ?_;refine w_8 ?_;exact lpx (i + 1) ⟨⟨⟨_,rfl,(ju (a6l b5c))⟩,tt⟩,⟨⟨_,rfl,(a2u (a6l b5c) (CoP.of_eq (congrArg (fun z=>PV.raw (.int .u32 z)) (z6 _ _))) (CoP.of_eq (congrArg (fun z=>PV.raw (.int .u32 z)) (z6 _ _))))⟩,uu⟩⟩
 obtain rfl:i = d.f.length:=by omega
 refine w_2 ?_;refine bo 11 rfl rfl rfl ?_;refine w_9 ?_;refine fe 13 901 true 2 45 (lf Fd.c []) b5i rfl (CoP.sl rfl (.inr rfl) (fun h=>h) (fun i j hi _=>absurd hi (b2c i))) (.inr rfl) rfl ?_;refine ce (ka 2 (ka 9 (ka 10 (ka 11 kn)))) (kb 0 km) (fun i=>⟨[(13,some (.v (.one (.ref 901 ((d.m.take i).map (Dp.fd (d.num 5))).length)))),(14,some (vI i))],[(901,some (.arr true 2 45 ((d.m.take i).map (Dp.fd (d.num 5))).length (lf Fd.c ((d.m.take i).map (Dp.fd (d.num 5))))))]⟩) d.m.length kk ?_;rintro i hi;have hlen:((d.m.take i).map (Dp.fd (d.num 5))).length <= i:=by rw [b33,b2g];omega
 refine w_9 ?_;refine hcd (fun h1=>?_) (fun h1=>?_)
 · refine atq ?_;refine m9 3 ?_;refine r9 4 true ?_;refine w_8 ?_;exact lpx (i + 1) ⟨⟨⟨_,rfl,(ju (a6l b5c))⟩,tt⟩,⟨⟨_,rfl,(a2u (a6l b5c) (CoP.of_eq (congrArg (fun z=>PV.raw (.int .u32 z)) (z6 _ _))) (CoP.of_eq (congrArg (fun z=>PV.raw (.int .u32 z)) (z6 _ _))))⟩,uu⟩⟩
 obtain rfl:i = d.m.length:=by omega
 refine w_2 ?_;refine bo 13 rfl rfl rfl ?_;refine w_9 ?_;refine fe 15 902 true 1 28 (lf sC []) b5i rfl (CoP.sl rfl (.inr rfl) (fun h=>h) (fun i j hi _=>absurd hi (b2c i))) (.inr rfl) rfl ?_;refine ce (ka 2 (ka 9 (ka 10 (ka 11 (ka 13 kn))))) (kb 0 km) (fun i=>⟨[(15,some (.v (.one (.ref 902 ((d.p.take i).map (u8S (d.num 5))).length)))),(16,some (vI i))],[(902,some (.arr true 1 28 ((d.p.take i).map (u8S (d.num 5))).length (lf sC ((d.p.take i).map (u8S (d.num 5))))))]⟩) d.p.length kk ?_;rintro i hi;have hlen:((d.p.take i).map (u8S (d.num 5))).length <= i:=by rw [b33,b2g];omega
 refine w_9 ?_;refine hcd (fun h2=>?_) (fun h2=>?_)
 · refine mj ?_;refine m9 5 ?_;refine r9 6 true ?_;refine w_7 ?_;exact lpx (i + 1) ⟨⟨⟨_,rfl,(ju (a6l b5c))⟩,tt⟩,⟨⟨_,rfl,(ji (a6l b5c) (CoP.of_eq (congrArg (fun z=>PV.raw (.int .u32 z)) (z6 _ _))))⟩,uu⟩⟩
 obtain rfl:i = d.p.length:=by omega
 refine w_2 ?_;refine bo 15 rfl rfl rfl ?_;refine w_9 ?_;refine ag rfl rfl (fun r3=>?_) (fun r3=>?_)
 ·
  have h3:=tz1 r3;(iterate 3 refine qy ?_ (hg:=(gtt r3)));refine w_2 ?_;refine ag rfl rfl (fun r4=>?_) (fun r4=>?_)
  ·
   have h4:=tz1 (cn r3 r4);(iterate 3 refine qy ?_ (hg:=(gtt r4)));refine w_7 ?_
   exact hx8 rfl rfl rfl (⟨CoC.refl _,(by rw [b31];exact CoC.refl _),(by rw [b31];exact CoC.refl _),(by rw [b31];exact CoC.refl _),ccb (by first | (simp only [b33,b31];exact ag7) | exact (decide_eq_false b5c).symm),trivial⟩)
  have h4:=tz2 (cn r3 r4);(iterate 3 refine k9 (gft r4) ?_);refine w_7 ?_
  exact hx8 rfl rfl rfl (⟨CoC.refl _,(by rw [b31];exact CoC.refl _),(by rw [b31];exact CoC.refl _),(by rw [b31];exact CoC.refl _),ccb (by first | (simp only [b33,b31];exact ag7) | exact (decide_eq_false b5c).symm),trivial⟩)
 have h3:=tz2 r3;(iterate 3 refine k9 (gft r3) ?_);refine w_2 ?_;(iterate 3 refine k9 rfl ?_);refine w_7 ?_
 exact hx8 rfl rfl rfl (⟨CoC.refl _,(by rw [b31];exact CoC.refl _),(by rw [b31];exact CoC.refl _),(by rw [b31];exact CoC.refl _),ccb (by first | (simp only [b33,b31];exact ag7) | exact (decide_eq_false b5c).symm),trivial⟩)
end
section
section
variable {a b:Int}
def acb {n:Int} {l:List Rw} {p m:List Fd} {mu:Bool} {i:Int} (h:¬ ckE n l p m = 0):bw n l p m mu i a b = (0,[],ckE n l p m):=if_neg h
def im {n:Int} {l:List Rw} {p m:List Fd} {mu:Bool} {i:Int} (h:ckE n l p m = 0) (h3:ep l p m mu i a b):bw n l p m mu i a b = (0,[],1):=(if_pos h).trans (if_pos h3)
def a3i {n:Int} {l:List Rw} {p m:List Fd} {mu:Bool} {i:Int} (h:ckE n l p m = 0) (h3:¬ ep l p m mu i a b):bw n l p m mu i a b = bu n l p m (mu,i.toNat,a.toNat,b.toNat):=(if_pos h).trans (if_neg h3)
def jr (h:(if b < a then b else a) < 0):a < 0 \/ b < 0:=by split at h <;> omega
def jq {k:Int} (h:k <= (if a < b then b else a)):k <= a \/ k <= b:=by split at h <;> omega
def ajs (h:¬ (if b < a then b else a) < 0):0 <= a /\ 0 <= b:=by split at h <;> omega
def aif {k:Int} (h:¬ k <= (if a < b then b else a)):a < k /\ b < k:=by split at h <;> omega
def stQ (x y:St):Bool:=(x.1 == y.1) && (decide ((x.2.1:Int) = (y.2.1:Int)) && (decide ((x.2.2.1:Int) = (y.2.2.1:Int)) && decide ((x.2.2.2:Int) = (y.2.2.2:Int))))
end
end
section
open Go.Proofs
def alg (n:Int) (l:List Rw) (p m:List Fd) (i a b:Int):a8 b62 48 [pT n l,pP (fdl p),pP (fdl m), .agg [.raw (.bool true), .raw (.int .i64 i), .raw (.int .i64 a), .raw (.int .i64 b)]] (ah [pT (bw n l p m true i a b).1 (bw n l p m true i a b).2.1,pI (bw n l p m true i a b).2.2]):=by
 refine hpx (nt:=69) Tryz.func48 ?_;refine sx7 ?_;refine m9 0 ?_;refine m9 1 ?_;refine m9 2 ?_;refine w_8 ?_;refine qcx aa0 (a3s n l p m) ?_;refine w_7 ?_;refine hcn (fun h0=>?_) (fun h0=>?_)
 · refine w_7 ?_;refine hrr ?_;have he:=acb (n:=n) (l:=l) (p:=p) (m:=m) (mu:=true) (i:=i) (a:=a) (b:=b) b5d;exact f9 rfl rfl (by rw [he];exact ⟨CoC.agg ⟨CoP.refl _,aw,trivial⟩,CoC.refl _,trivial⟩)
 have hck:ckE n l p m = 0:=by assumption
 obtain ⟨hT,hbe,hpa⟩:=a5a hck;refine axr ?_;refine ag rfl rfl (fun r1=>?_) (fun r1=>?_)
 ·
  have h1:=tz1 r1;(iterate 4 refine k9 (gtf r1) ?_);refine w_2 ?_;(iterate 5 refine k9 rfl ?_);refine w_2 ?_;(iterate 6 refine k9 rfl ?_);refine w_2 ?_;(iterate 9 refine k9 rfl ?_);refine w_9 ?_;refine hrr ?_
  have hbad:ep l p m true i a b:=by
   first
    | exact bdS
    | (refine (jr (a:=a) (b:=b) ?_).elim (fun hq=>?_) (fun hq=>?_) <;> first | assumption | exact bdS)
    | (refine (jq (a:=a) (b:=b) (k:=(l.length:Int)) ?_).elim (fun hq=>?_) (fun hq=>?_) <;> first | assumption | exact bdS)
  have he:=im hck hbad;exact f9 rfl rfl (by rw [he];exact ⟨CoC.agg ⟨CoP.refl _,aw,trivial⟩,CoC.refl _,trivial⟩)
 have h1:=tz2 r1;(iterate 4 refine qy ?_ (hg:=(gff r1)));refine w_2 ?_;refine ag rfl rfl (fun r2=>?_) (fun r2=>?_)
 ·
  have h2:=tz1 (af r1 r2);(iterate 5 refine k9 (gtf r2) ?_);refine w_2 ?_;(iterate 6 refine k9 rfl ?_);refine w_2 ?_;(iterate 9 refine k9 rfl ?_);refine w_9 ?_;refine hrr ?_
  have hbad:ep l p m true i a b:=by
   first
    | exact bdS
    | (refine (jr (a:=a) (b:=b) ?_).elim (fun hq=>?_) (fun hq=>?_) <;> first | assumption | exact bdS)
    | (refine (jq (a:=a) (b:=b) (k:=(l.length:Int)) ?_).elim (fun hq=>?_) (fun hq=>?_) <;> first | assumption | exact bdS)
  have he:=im hck hbad;exact f9 rfl rfl (by rw [he];exact ⟨CoC.agg ⟨CoP.refl _,aw,trivial⟩,CoC.refl _,trivial⟩)
 have h2:=tz2 (af r1 r2);(iterate 5 refine qy ?_ (hg:=(gff r2)));refine w_2 ?_;refine ag rfl rfl (fun r3=>?_) (fun r3=>?_)
 ·
  have h3:=tz1 (af r2 r3);(iterate 6 refine k9 (gtf r3) ?_);refine w_2 ?_;(iterate 9 refine k9 rfl ?_);refine w_9 ?_;refine hrr ?_
  have hbad:ep l p m true i a b:=by
   first
    | exact bdS
    | (refine (jr (a:=a) (b:=b) ?_).elim (fun hq=>?_) (fun hq=>?_) <;> first | assumption | exact bdS)
    | (refine (jq (a:=a) (b:=b) (k:=(l.length:Int)) ?_).elim (fun hq=>?_) (fun hq=>?_) <;> first | assumption | exact bdS)
  have he:=im hck hbad;exact f9 rfl rfl (by rw [he];exact ⟨CoC.agg ⟨CoP.refl _,aw,trivial⟩,CoC.refl _,trivial⟩)
 have h3:=tz2 (af r2 r3);(iterate 6 refine qy ?_ (hg:=(gff r3)));refine w_2 ?_;refine ag rfl rfl (fun r4=>?_) (fun r4=>?_)
 ·
  have h4:=tz1 (af r3 r4);(iterate 9 refine k9 (gtf r4) ?_);refine w_9 ?_;refine hrr ?_
  have hbad:ep l p m true i a b:=by
   first
    | exact bdS
    | (refine (jr (a:=a) (b:=b) ?_).elim (fun hq=>?_) (fun hq=>?_) <;> first | assumption | exact bdS)
    | (refine (jq (a:=a) (b:=b) (k:=(l.length:Int)) ?_).elim (fun hq=>?_) (fun hq=>?_) <;> first | assumption | exact bdS)
  have he:=im hck hbad;exact f9 rfl rfl (by rw [he];exact ⟨CoC.agg ⟨CoP.refl _,aw,trivial⟩,CoC.refl _,trivial⟩)
 have h4:=tz2 (af r3 r4);(iterate 9 refine qy ?_ (hg:=(gff r4)));refine w_2 ?_;refine al _ rfl (fun r5=>?_) (fun r5=>?_)
 ·
  have h5:=tz1 (af r4 r5);refine w_6 ?_;refine hrr ?_
  have hbad:ep l p m true i a b:=by
   first
    | exact bdS
    | (refine (jr (a:=a) (b:=b) ?_).elim (fun hq=>?_) (fun hq=>?_) <;> first | assumption | exact bdS)
    | (refine (jq (a:=a) (b:=b) (k:=(l.length:Int)) ?_).elim (fun hq=>?_) (fun hq=>?_) <;> first | assumption | exact bdS)
  have he:=im hck hbad;exact f9 rfl rfl (by rw [he];exact ⟨CoC.agg ⟨CoP.refl _,aw,trivial⟩,CoC.refl _,trivial⟩)
 have h5:=tz2 (af r4 r5);refine w_2 ?_;obtain ⟨ha0,hb0⟩:=ajs (a:=a) (b:=b) b5d;obtain ⟨hal,hbl⟩:=aif (a:=a) (b:=b) (k:=(l.length:Int)) b5d
 have hnb:¬ ep l p m true i a b:=by
  unfold ep;rintro (h | h | h | h | h | h | ⟨h,h2⟩ | ⟨h,h2⟩) <;> first | omega | cases h
 have ha:a.toNat < l.length:=by omega
 have hb:b.toNat < l.length:=by omega
 have hi:i.toNat < m.length:=by omega
 refine w_5 ?_;refine rc rfl rfl rfl rfl rfl rfl ace (afc n l p m i.toNat a.toNat b.toNat hT ha hb hi) (⟨CoC.refl _,CoC.refl _,CoC.refl _,CoC.agg ⟨CoP.refl _,CoP.of_eq (by rw [b4m b5c]),CoP.of_eq (by rw [b4m b5c]),CoP.of_eq (by rw [b4m b5c]),trivial⟩,trivial⟩) rfl rfl ?_;refine w_5 ?_;refine hrr ?_;have he:=a3i (n:=n) (i:=i) (a:=a) (b:=b) hck hnb;exact f9 rfl rfl (by rw [he];exact CoL.refl _)
def al2 (n:Int) (l:List Rw) (p m:List Fd) (i a b:Int):a8 b62 48 [pT n l,pP (fdl p),pP (fdl m), .agg [.raw (.bool false), .raw (.int .i64 i), .raw (.int .i64 a), .raw (.int .i64 b)]] (ah [pT (bw n l p m false i a b).1 (bw n l p m false i a b).2.1,pI (bw n l p m false i a b).2.2]):=by
 refine hpx (nt:=69) Tryz.func48 ?_;refine sx7 ?_;refine m9 0 ?_;refine m9 1 ?_;refine m9 2 ?_;refine w_8 ?_;refine qcx aa0 (a3s n l p m) ?_;refine w_7 ?_;refine hcn (fun h0=>?_) (fun h0=>?_)
 · refine w_7 ?_;refine hrr ?_;have he:=acb (n:=n) (l:=l) (p:=p) (m:=m) (mu:=false) (i:=i) (a:=a) (b:=b) b5d;exact f9 rfl rfl (by rw [he];exact ⟨CoC.agg ⟨CoP.refl _,aw,trivial⟩,CoC.refl _,trivial⟩)
 have hck:ckE n l p m = 0:=by assumption
 obtain ⟨hT,hbe,hpa⟩:=a5a hck;refine alt ?_;refine ag rfl rfl (fun r1=>?_) (fun r1=>?_)
 ·
  have h1:=tz1 r1;(iterate 4 refine k9 (gtf r1) ?_);refine w_2 ?_;(iterate 5 refine k9 rfl ?_);refine w_2 ?_;(iterate 6 refine k9 rfl ?_);refine w_2 ?_;(iterate 9 refine k9 rfl ?_);refine w_9 ?_;refine hrr ?_
  have hbad:ep l p m false i a b:=by
   first
    | exact bdS
    | (refine (jr (a:=a) (b:=b) ?_).elim (fun hq=>?_) (fun hq=>?_) <;> first | assumption | exact bdS)
    | (refine (jq (a:=a) (b:=b) (k:=(l.length:Int)) ?_).elim (fun hq=>?_) (fun hq=>?_) <;> first | assumption | exact bdS)
  have he:=im hck hbad;exact f9 rfl rfl (by rw [he];exact ⟨CoC.agg ⟨CoP.refl _,aw,trivial⟩,CoC.refl _,trivial⟩)
 have h1:=tz2 r1;(iterate 4 refine qy ?_ (hg:=(gff r1)));refine w_2 ?_;refine ag rfl rfl (fun r2=>?_) (fun r2=>?_)
 ·
  have h2:=tz1 (af r1 r2);(iterate 5 refine k9 (gtf r2) ?_);refine w_2 ?_;(iterate 6 refine k9 rfl ?_);refine w_2 ?_;(iterate 9 refine k9 rfl ?_);refine w_9 ?_;refine hrr ?_
  have hbad:ep l p m false i a b:=by
   first
    | exact bdS
    | (refine (jr (a:=a) (b:=b) ?_).elim (fun hq=>?_) (fun hq=>?_) <;> first | assumption | exact bdS)
    | (refine (jq (a:=a) (b:=b) (k:=(l.length:Int)) ?_).elim (fun hq=>?_) (fun hq=>?_) <;> first | assumption | exact bdS)
  have he:=im hck hbad;exact f9 rfl rfl (by rw [he];exact ⟨CoC.agg ⟨CoP.refl _,aw,trivial⟩,CoC.refl _,trivial⟩)
 have h2:=tz2 (af r1 r2);(iterate 5 refine qy ?_ (hg:=(gff r2)));refine w_2 ?_;refine ag rfl rfl (fun r3=>?_) (fun r3=>?_)
 ·
  have h3:=tz1 (af r2 r3);(iterate 6 refine k9 (gtf r3) ?_);refine w_2 ?_;(iterate 9 refine k9 rfl ?_);refine w_9 ?_;refine hrr ?_
  have hbad:ep l p m false i a b:=by
   first
    | exact bdS
    | (refine (jr (a:=a) (b:=b) ?_).elim (fun hq=>?_) (fun hq=>?_) <;> first | assumption | exact bdS)
    | (refine (jq (a:=a) (b:=b) (k:=(l.length:Int)) ?_).elim (fun hq=>?_) (fun hq=>?_) <;> first | assumption | exact bdS)
  have he:=im hck hbad;exact f9 rfl rfl (by rw [he];exact ⟨CoC.agg ⟨CoP.refl _,aw,trivial⟩,CoC.refl _,trivial⟩)
 have h3:=tz2 (af r2 r3);(iterate 6 refine qy ?_ (hg:=(gff r3)));refine w_2 ?_;refine ag rfl rfl (fun r4=>?_) (fun r4=>?_)
 ·
  have h4:=tz1 (af r3 r4);(iterate 9 refine k9 (gtf r4) ?_);refine w_9 ?_;refine hrr ?_
  have hbad:ep l p m false i a b:=by
   first
    | exact bdS
    | (refine (jr (a:=a) (b:=b) ?_).elim (fun hq=>?_) (fun hq=>?_) <;> first | assumption | exact bdS)
    | (refine (jq (a:=a) (b:=b) (k:=(l.length:Int)) ?_).elim (fun hq=>?_) (fun hq=>?_) <;> first | assumption | exact bdS)
  have he:=im hck hbad;exact f9 rfl rfl (by rw [he];exact ⟨CoC.agg ⟨CoP.refl _,aw,trivial⟩,CoC.refl _,trivial⟩)
 have h4:=tz2 (af r3 r4);(iterate 9 refine qy ?_ (hg:=(gff r4)));refine w_2 ?_;refine al _ rfl (fun r5=>?_) (fun r5=>?_)
 ·
  have h5:=tz1 (af r4 r5);refine w_6 ?_;refine hrr ?_
  have hbad:ep l p m false i a b:=by
   first
    | exact bdS
    | (refine (jr (a:=a) (b:=b) ?_).elim (fun hq=>?_) (fun hq=>?_) <;> first | assumption | exact bdS)
    | (refine (jq (a:=a) (b:=b) (k:=(l.length:Int)) ?_).elim (fun hq=>?_) (fun hq=>?_) <;> first | assumption | exact bdS)
  have he:=im hck hbad;exact f9 rfl rfl (by rw [he];exact ⟨CoC.agg ⟨CoP.refl _,aw,trivial⟩,CoC.refl _,trivial⟩)
 have h5:=tz2 (af r4 r5);refine w_2 ?_;obtain ⟨ha0,hb0⟩:=ajs (a:=a) (b:=b) b5d;obtain ⟨hal,hbl⟩:=aif (a:=a) (b:=b) (k:=(l.length:Int)) b5d
 have hnb:¬ ep l p m false i a b:=by
  unfold ep;rintro (h | h | h | h | h | h | ⟨h,h2⟩ | ⟨h,h2⟩) <;> first | omega | cases h
 have ha:a.toNat < l.length:=by omega
 have hb:b.toNat < l.length:=by omega
 have hi:i.toNat < p.length:=by omega
 refine w_5 ?_;refine rc rfl rfl rfl rfl rfl rfl ace (afg n l p m i.toNat a.toNat b.toNat hT ha hb hi (b3d.1 hpa _ (db hi))) (⟨CoC.refl _,CoC.refl _,CoC.refl _,CoC.agg ⟨CoP.refl _,CoP.of_eq (by rw [b4m b5c]),CoP.of_eq (by rw [b4m b5c]),CoP.of_eq (by rw [b4m b5c]),trivial⟩,trivial⟩) rfl rfl ?_;refine w_5 ?_;refine hrr ?_;have he:=a3i (n:=n) (i:=i) (a:=a) (b:=b) hck hnb;exact f9 rfl rfl (by rw [he];exact CoL.refl _)
end
section
open Go.Proofs
abbrev Rcp.fs (d:Rcp) (k:Nat):List Fd:=d.f.map (Dp.fd (d.num k))
abbrev Rcp.ms (d:Rcp) (k:Nat):List Fd:=d.m.map (Dp.fd (d.num k))
abbrev Rcp.ps (d:Rcp) (k:Nat):List AS:=d.p.map (u8S (d.num k))
abbrev Rcp.t0 (d:Rcp) (k:Nat):List Rw:=ae (ai (d.num k) (d.ps k))
section
variable {n:Int} {p m:List Fd} {l0 l:List Rw}
end
def afk (n:Int) (l:List Rw) (p m:List Fd) (mu:Bool) (i a b:Int):a8 b62 48 [pT n l,pP (fdl p),pP (fdl m), .agg [.raw (.bool mu), .raw (.int .i64 i), .raw (.int .i64 a), .raw (.int .i64 b)]] (ah [pT (bw n l p m mu i a b).1 (bw n l p m mu i a b).2.1,pI (bw n l p m mu i a b).2.2]):=by
 cases mu with
 | false=>exact al2 n l p m i a b
 | true=>exact alg n l p m i a b
def an8 (n:Int) (l:List Rw) (p m:List Fd) (mu:Bool) (i a b:Int):a8 b62 85 [pT n l,pP (fdl p),pP (fdl m), .agg [.raw (.bool mu), .raw (.int .i64 i), .raw (.int .i64 a), .raw (.int .i64 b)]] (ah [pT (bw n l p m mu i a b).1 (bw n l p m mu i a b).2.1,pI (bw n l p m mu i a b).2.2]):=by
 cases mu with
 | false=>exact a9x n l p m i a b
 | true=>exact ac1 n l p m i a b
def aig {n:Int} {l:List Rw} {p m:List Fd} {s:St} (hT:tok n l = true) (hb:bj n p m = 0) (h:qo l p m s):bw n l p m s.1 s.2.1 s.2.2.1 s.2.2.2 = bu n l p m s:=by
 obtain ⟨mu,i,a,b⟩:=s;have hck:ckE n l p m = 0:=(if_pos hT).trans hb;obtain ⟨ha,hbb,h⟩:=h;have ha:a < l.length:=ha;have hbb:b < l.length:=hbb
 have hne:¬ a = b:=by
  rintro rfl
  rcases h with ⟨_,_,h⟩ | ⟨_,_,h⟩
  · rw [show d7 l (p.getD i default) a a = false from xj] at h;cases h
  rw [show dg l (m.getD i default) a a = false from xt ha] at h;cases h
 show bw n l p m mu (i:Int) (a:Int) (b:Int) = _;rw [a3i hck]
 · rfl
 unfold ep
 rcases h with ⟨h1,h2,_⟩ | ⟨h1,h2,_⟩
 · have h1:mu = false:=h1
   subst h1;have h2:i < p.length:=h2;rintro (h | h | h | h | h | h | ⟨h,h3⟩ | ⟨h,h3⟩) <;> first | omega | cases h
 have h1:mu = true:=h1;subst h1;have h2:i < m.length:=h2;rintro (h | h | h | h | h | h | ⟨h,h3⟩ | ⟨h,h3⟩) <;> first | omega | cases h
def ajb (n:Int) (l:List Rw) (p m:List Fd) (s:St) (hT:tok n l = true) (hb:bj n p m = 0) (h:qo l p m s) (he:bu n l p m s = (n,(bu n l p m s).2.1,0)):a8 b62 48 [pT n l,pP (fdl p),pP (fdl m),s.pc] (ah [pT n (bu n l p m s).2.1,pI 0]):=by
 have:=afk n l p m s.1 s.2.1 s.2.2.1 s.2.2.2;rw [aig hT hb h,he] at this;exact this
end
section
def sgn (a b:Int):Int:=if a < b then -1 else if b < a then 1 else 0
def bAt (s:ByteArray) (i:Nat):Int:=bv s i
def iu:List UInt8 -> List UInt8 -> Int
 | [],[]=>0
 | [],_ :: _=>-1
 | _ :: _,[]=>1
 | x :: xs,y :: ys=>if x = y then iu xs ys else sgn x.toNat y.toNat
abbrev bl (s:ByteArray):List UInt8:=s.data.toList
def lh (a b:ByteArray):Int:=iu (bl a) (bl b)
def yw (s:ByteArray):(bl s).length = s.size:=b2w
def a8f:∀ {a b:List UInt8},iu a b = 0 <-> a = b
 | [],[]=>by simp [iu]
 | [],_ :: _=>by simp [iu]
 | _ :: _,[]=>by simp [iu]
 | x :: xs,y :: ys=>by
  simp only [iu];by_cases h:x = y
  · simp [h,a8f]
  have:¬ x.toNat = y.toNat:=fun e=>h (UInt8.toNat_inj.1 e);simp only [h,if_false,sgn,List.cons.injEq,false_and,iff_false]
  repeat' split
  all_goals omega
def a1z {a b:ByteArray}:lh a b = 0 <-> a = b:=by
 unfold lh;rw [a8f];exact ⟨fun h=>ByteArray.ext (Array.ext' h),fun h=>by rw [h]⟩
def iq (a b:Val):Int :=
 if sgn a.kind b.kind ≠ 0 then sgn a.kind b.kind else if sgn a.num b.num ≠ 0 then sgn a.num b.num else lh a.str b.str
def jm {a b:Int}:sgn a b = 0 <-> a = b:=by
 unfold sgn
 repeat' split
 all_goals omega
def aj2 {a b:Val}:iq a b = 0 <-> a = b:=by
 unfold iq;cases a;cases b;simp only [Val.mk.injEq];split
 · rename_i h;rw [Ne,jm] at h
   constructor
   · intro e;rw [jm] at e;exact absurd e h
   rintro ⟨e,_⟩;exact absurd e h
 rename_i h;rw [Ne,jm,Classical.not_not] at h;split
 · rename_i h2;rw [Ne,jm] at h2
   constructor
   · intro e;rw [jm] at e;exact absurd e h2
   rintro ⟨_,e,_⟩;exact absurd e h2
 rename_i h2;rw [Ne,jm,Classical.not_not] at h2;rw [a1z];exact ⟨fun e=>⟨h,h2,e⟩,fun e=>e.2.2⟩
def ax0:List Val -> List Val -> Int
 | [],[]=>0
 | [],_ :: _=>-1
 | _ :: _,[]=>1
 | x :: xs,y :: ys=>if iq x y ≠ 0 then iq x y else ax0 xs ys
end
end Go.Hx

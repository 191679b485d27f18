/- A part of the proof: W1 Ls6 W2a Ch22 X26 Ch25 X31 Cc4 Ds1 Rb27 Ds2. -/
import Derived.Lib.Join
import Derived.Test.YtkkenjdfbojdlaaGreatDoorGx16
import Derived.Test.YtkkenjdfbojdlaaGreatDoorGx19
import Derived.Test.YtkkenjdfbojdlaaGreatDoorGx20
import Derived.Test.YtkkenjdfbojdlaaGreatDoorGx22
import Derived.Test.YtkkenjdfbojdlaaGreatDoorGx23
import Derived.Test.YtkkenjdfbojdlaaGreatDoorGx24
import Derived.Test.YtkkenjdfbojdlaaGreatDoorGx29
import Derived.Test.YtkkenjdfbojdlaaGreatDoorGx30
import Derived.Test.YtkkenjdfbojdlaaGreatDoorGx31
set_option linter.all false
set_option maxRecDepth 100000
set_option maxHeartbeats 1000000
namespace Go.Hx
section
open Go.Proofs
theorem b8w:goodFn Tryz.prog 112:=wgx Tryz.func112
theorem bej (ps:List AS):a7 Tryz.prog 112 [pP (asl ps)] (ae [pA (orL ps)]):=by
 refine hpx (nt:=17) Tryz.func112 ?_;refine ce ?_;refine cb 0 rfl fun hn=>?_;refine w_6 ?_;refine a6 (ι:=Nat) ⟨[(6,some _),(7,some _)],[]⟩ ⟨⟨c9,c9,trivial⟩,trivial⟩ (fun i=>⟨[(3,some (vA (orL (ps.take i)))),(8,some (vI i))],[]⟩) (fun i=>i <= ps.length) (fun i=>ps.length - i) (0) (bkl _) ⟨⟨⟨_,rfl,(CoR.refl _)⟩,zy,trivial⟩,trivial⟩ ?_;rintro i hi;refine w_5 ?_;refine hcd (fun h0=>?_) (fun h0=>?_)
 · refine a42 ?_;exact lpx (i + 1) ⟨⟨⟨_,rfl,(bw (by rw [bOr,z7 bos];rfl))⟩,zy,c9,c9,trivial⟩,trivial⟩
 obtain rfl:i = ps.length:=by omega
 refine w_6 ?_;exact hx8 rfl rfl rfl (⟨cci (by rw [bks]),trivial⟩)
theorem awh:goodFn Tryz.prog 52:=wgx Tryz.func52
theorem bp2 {p:Prop} (h:p:=by (repeat' apply And.intro) <;> first | trivial | exact bkm rfl | rfl):p:=h
theorem aoh (n:Int) (ps:List AS):a7 Tryz.prog 52 [pI n,pP (asl ps)] (ae [pI (lvE n ps)]):=by
 refine hpx (nt:=28) Tryz.func52 ?_;refine cu ?_;refine am rfl rfl (fun r0=>?_) (fun r0=>?_)
 ·
  have h0:=tz1 r0;(iterate 2 refine k9 (gtf r0) ?_);refine rq rfl rfl rfl rfl rfl ?_ (hp:=r0);refine w_2 ?_;refine a8 _ rfl (fun _=>?_) (fun e=>by cases e);refine w_4 ?_
  exact hx8 rfl rfl rfl (⟨cci (ahd bos).symm,trivial⟩)
 have h0:=tz2 r0;(iterate 2 refine qy ?_ (hg:=(gff r0)));refine w_3 ?_;refine a8 _ rfl (fun r1=>?_) (fun r1=>?_)
 · have h1:=tz1 (au r0 r1);refine w_4 ?_;exact hx8 rfl rfl rfl (⟨cci (ahd bos).symm,trivial⟩)
 have h1:=tz2 (au r0 r1);have hz0:0 <= n:=by omega
 have hz1:n <= 16:=by omega
 refine w_7 ?_;refine hcd (fun h2=>?_) (fun h2=>?_)
 · refine w_4 ?_;exact hx8 rfl rfl rfl (⟨cci (b3b bos bos).symm,trivial⟩)
 refine w_6 ?_;refine am rfl rfl (fun r3=>?_) (fun r3=>?_)
 ·
  have h3:=tz1 r3;(iterate 6 refine k9 (gtf r3) ?_);refine rq rfl rfl rfl rfl rfl ?_ (hp:=r3);refine w_3 ?_;refine a8 _ rfl (fun _=>?_) (fun e=>by cases e);refine w_4 ?_
  exact hx8 rfl rfl rfl (⟨cci (ah8 bos bos (by first | exact .inl bos | exact .inr (fun e=>absurd (show asI (orL ps) = IntKind.wrap .u32 (1 * 2 ^ (min n.toNat 32)) - 1 by rw [ua hz0 hz1,e]) bot))).symm,trivial⟩)
 have h3:=tz2 r3;refine qy ?_ (hg:=(gff r3));refine qcx b8w (bej ps) ?_ (hg:=(gff r3));(iterate 2 refine qy ?_ (hg:=(gff r3)));refine rq rfl rfl rfl rfl (gff r3) ?_ (hp:=⟨yn hz0 hz1,wz hz0 hz1⟩);refine qy ?_ (hg:=(gff r3));refine w_4 ?_;refine a8 _ rfl (fun r4=>?_) (fun r4=>?_)
 · have h4:=tz2 (d6 (au r3 r4));refine w_4 ?_;exact hx8 rfl rfl rfl (⟨cci (ah8 bos bos (by first | exact .inl bos | exact .inr (fun e=>absurd (show asI (orL ps) = IntKind.wrap .u32 (1 * 2 ^ (min n.toNat 32)) - 1 by rw [ua hz0 hz1,e]) bot))).symm,trivial⟩)
 have h4:=tz1 (d5 (au r3 r4));refine w_6 ?_;refine ⟨.inr rfl, ?_⟩
 exact ⟨_,_,_,_,rfl,bp2,rfl,bp2,⟨cci (b3p bos bos (fun e=>by
  rcases e with e | e
  · omega
  exact e (cg.1 ((by assumption:asI (orL ps) = IntKind.wrap .u32 (1 * 2 ^ (min n.toNat 32)) - 1).trans (ua hz0 hz1))))).symm,trivial⟩⟩
theorem an6:goodFn Tryz.prog 100:=wgx Tryz.func100
theorem ao1 (n:Int) (ps:List AS) (p m:List Fd):a7 Tryz.prog 100 [pI n,pP (asl ps),pP (fdl p),pP (fdl m)] (ae [pT (lcR n ps p m).1.1 (lcR n ps p m).1.2,pP (stl (lcR n ps p m).2.1),pT (lcR n ps p m).2.2.1.1 (lcR n ps p m).2.2.1.2,pI (lcR n ps p m).2.2.2]):=by
 refine hpx (nt:=58) Tryz.func100 ?_;refine sx7 ?_;refine m9 0 ?_;refine qy ?_;refine m9 1 ?_;refine w_7 ?_;refine qcx awh (aoh n ps) ?_;refine w_7 ?_;refine hcn (fun h0=>?_) (fun h0=>?_)
 · refine cu ?_;refine ⟨.inr rfl, ?_⟩;have he:=ber (p:=p) (m:=m) (by assumption:¬ lvE n ps = 0);exact f9 rfl rfl (by rw [he];exact ⟨CoC.agg ⟨CoP.refl _,bf,trivial⟩,CoC.one (CoP.sl rfl (.inr rfl) (fun _=>rfl) (fun i j hi _=>absurd hi (bkp i))),CoC.agg ⟨CoP.refl _,bf,trivial⟩,CoC.refl _,trivial⟩)
 have hv:lvE n ps = 0:=by assumption
 refine w_7 ?_;refine qcx a1n (y7 n p m) ?_;refine w_7 ?_;refine hcn (fun h1=>?_) (fun h1=>?_)
 · refine cu ?_;refine ⟨.inr rfl, ?_⟩;have he:=bgq hv (by assumption:¬ c8 n p m = 0);exact f9 rfl rfl (by rw [he];exact ⟨CoC.agg ⟨CoP.refl _,bf,trivial⟩,CoC.one (CoP.sl rfl (.inr rfl) (fun _=>rfl) (fun i j hi _=>absurd hi (bkp i))),CoC.agg ⟨CoP.refl _,bf,trivial⟩,CoC.refl _,trivial⟩)
 have hb:c8 n p m = 0:=by assumption
 refine w_5 ?_;refine qcx b6i (b7e n ps hv) ?_;refine w_3 ?_;refine m9 2 ?_;refine w_9 ?_;refine a8 _ rfl (fun e=>by cases e) (fun _=>?_);refine w_6 ?_;refine qcx b92 (b91 n ps p m) ?_;refine w_4 ?_;refine m9 3 ?_;refine xa ?_;refine ⟨.inr rfl, ?_⟩;have he:=as1 hv hb;exact f9 rfl rfl (by rw [he];exact CoL.refl _)
theorem apk:goodFn Tryz.prog 102:=wgx Tryz.func102
theorem aq2 (n:Int) (h0:0 <= n) (h1:n <= 16):a7 Tryz.prog 102 [pI n] (ae [pZ (dc n)]):=by
 refine hpx (nt:=18) Tryz.func102 ?_;refine w_7 ?_;refine m9 0 ?_;refine ce ?_;refine a6 (ι:=Nat) ⟨[(3,some _),(8,some _)],[]⟩ ⟨⟨c9,c9,trivial⟩,trivial⟩ (fun k=>⟨[(9,some (vI k))],[(0,some (.arr true 1 3 n.toNat (lf zC (stT n 0 (jw 32) k))))]⟩) (fun k=>k <= n.toNat) (fun k=>n.toNat - k) (0) (bkl _) ⟨⟨zy,trivial⟩,⟨⟨_,rfl,(ajq rfl (fun _=>rfl))⟩,trivial⟩⟩ ?_;rintro k hk;refine w_5 ?_;refine hcd (fun h0=>?_) (fun h0=>?_)
 · refine a42 ?_;exact lpx (k + 1) ⟨⟨zy,c9,c9,trivial⟩,⟨⟨_,rfl,(bbw (avi bos) rfl bos)⟩,trivial⟩⟩
 refine w_2 ?_;refine av 3 rfl rfl rfl ?_;refine w_4 ?_;exact hx8 rfl rfl rfl (⟨ax0 h1 bos,trivial⟩)
theorem bc1:goodFn Tryz.prog 45:=wgx Tryz.func45
theorem bis (n:Int) (ps:List AS) (p m:List Fd):a7 Tryz.prog 45 [pI n,pP (asl ps),pP (fdl p),pP (fdl m)] (ae [pB (lsB n ps p m),pI (lsC n ps p m)]):=by
 refine hpx (nt:=33) Tryz.func45 ?_;refine cu ?_;refine qcx an6 (ao1 n ps p m) ?_;refine w_5 ?_;refine m9 0 ?_;refine m9 1 ?_;refine ce ?_;refine am rfl rfl (fun r0=>?_) (fun r0=>?_)
 ·
  have h0:=tz1 r0;have hz:=bhz (n:=n) (ps:=ps) (p:=p) (m:=m) rfl h0;(iterate 2 refine qy ?_ (hg:=(gtt r0)));refine qcx apk (aq2 n hz.1 bos) ?_ (hg:=(gtt r0));refine qcx acz (ars (lcR n ps p m).2.2.1.1 (lcR n ps p m).2.2.1.2 (dc n)) ?_ (hg:=(gtt r0))
  refine w_6 ?_;exact hx8 rfl rfl rfl (⟨ccb (by first | exact bdl | exact azh (n:=n) (ps:=ps) (p:=p) (m:=m) bot | exact (b0n (n:=n) (ps:=ps) (p:=p) (m:=m) bot).symm),cci oo,trivial⟩)
 have h0:=tz2 r0;(iterate 4 refine k9 (gft r0) ?_);refine rq rfl rfl rfl rfl rfl ?_ (hp:=r0);refine w_5 ?_
 exact hx8 rfl rfl rfl (⟨ccb (by first | exact bdl | exact azh (n:=n) (ps:=ps) (p:=p) (m:=m) bot | exact (b0n (n:=n) (ps:=ps) (p:=p) (m:=m) bot).symm),cci oo,trivial⟩)
theorem bad:goodFn Tryz.prog 62:=wgx Tryz.func62
theorem b1a (n:Int) (ps:List AS):a7 Tryz.prog 62 [pI n,pP (asl ps)] (ae [pI (lvE n ps)]):=by
 refine hpx (nt:=37) Tryz.func62 ?_;refine ce ?_;refine am rfl rfl (fun r0=>?_) (fun r0=>?_)
 ·
  have h0:=tz1 r0;(iterate 2 refine k9 (gtf r0) ?_);refine rq rfl rfl rfl rfl rfl ?_ (hp:=r0);refine aq ?_;refine a8 _ rfl (fun _=>?_) (fun e=>by cases e);refine w_4 ?_
  exact hx8 rfl rfl rfl (⟨cci (ahd bos).symm,trivial⟩)
 have h0:=tz2 r0;(iterate 2 refine qy ?_ (hg:=(gff r0)));refine w_2 ?_;refine a8 _ rfl (fun r1=>?_) (fun r1=>?_)
 · have h1:=tz1 (au r0 r1);refine w_4 ?_;exact hx8 rfl rfl rfl (⟨cci (ahd bos).symm,trivial⟩)
 have h1:=tz2 (au r0 r1);refine w_8 ?_;refine hcd (fun h2=>?_) (fun h2=>?_)
 · refine w_4 ?_;exact hx8 rfl rfl rfl (⟨cci (b3b bos bos).symm,trivial⟩)
 refine cu ?_;refine a6 (ι:=Nat) ⟨[(0,some _),(1,some _)],[]⟩ ⟨⟨c9,c9,trivial⟩,trivial⟩ (fun i=>⟨[(5,some (vA (orL (ps.take i)))),(6,some (vI i))],[]⟩) (fun i=>i <= ps.length) (fun i=>ps.length - i) (0) (bkl _) ⟨⟨⟨_,rfl,(CoR.refl _)⟩,zy,trivial⟩,trivial⟩ ?_;rintro i hi;refine w_8 ?_;refine hcd (fun h3=>?_) (fun h3=>?_)
 · refine xa ?_;exact lpx (i + 1) ⟨⟨⟨_,rfl,(bw (by rw [bOr,z7 bos];rfl))⟩,zy,c9,c9,trivial⟩,trivial⟩
 obtain rfl:i = ps.length:=by omega
 rw [show ps.take ps.length = ps from bks];refine w_8 ?_;refine am rfl rfl (fun r4=>?_) (fun r4=>?_)
 ·
  have h4:=tz1 r4;(iterate 4 refine k9 (gtf r4) ?_);refine rq rfl rfl rfl rfl rfl ?_ (hp:=r4);refine aq ?_;refine a8 _ rfl (fun _=>?_) (fun e=>by cases e);refine w_4 ?_
  exact hx8 rfl rfl rfl (⟨cci (ah8 bos bos (by first | exact .inl bos | exact .inr (fun e=>absurd (show asI (orL ps) = asI (aa n) by rw [e]) bot))).symm,trivial⟩)
 have h4:=tz2 r4;(iterate 2 refine qy ?_ (hg:=(gff r4)));refine qcx ol (oq n) ?_ (hg:=(gff r4));refine qy ?_ (hg:=(gff r4));refine w_2 ?_;refine a8 _ rfl (fun r5=>?_) (fun r5=>?_)
 · have h5:=tz2 (d6 (au r4 r5));refine w_4 ?_;exact hx8 rfl rfl rfl (⟨cci (ah8 bos bos (by first | exact .inl bos | exact .inr (fun e=>absurd (show asI (orL ps) = asI (aa n) by rw [e]) bot))).symm,trivial⟩)
 have h5:=tz1 (d5 (au r4 r5));refine w_6 ?_;refine ⟨.inr rfl, ?_⟩
 exact ⟨_,_,_,_,rfl,bp2,rfl,bp2,⟨cci (b3p bos bos (fun e=>by
  rcases e with e | e
  · omega
  exact e (cg.1 bot))).symm,trivial⟩⟩
theorem bek:goodFn Tryz.prog 68:=wgx Tryz.func68
theorem b6d (n:Int) (ps:List AS) (p m:List Fd):a7 Tryz.prog 68 [pI n,pP (asl ps),pP (fdl p),pP (fdl m)] (ae [pP (stl (rcR n ps p m).1),pP (psl 2 tbC (rcR n ps p m).2.1),pI (rcR n ps p m).2.2]):=by
 refine hpx (nt:=77) Tryz.func68 ?_;refine cu ?_;refine qcx bad (b1a n ps) ?_;refine w_7 ?_;refine hcn (fun h0=>?_) (fun h0=>?_)
 · refine w_8 ?_;refine ⟨.inr rfl, ?_⟩;have he:=aqx (n:=n) (ps:=ps) (p:=p) (m:=m) (bgh bot).1 bot;exact f9 rfl rfl (by rw [he];exact ⟨CoC.one (CoP.sl rfl (.inr rfl) (fun _=>rfl) (fun i j hi _=>absurd hi (bkp i))),CoC.one (CoP.sl rfl (.inr rfl) (fun _=>rfl) (fun i j hi _=>absurd hi (bkp i))),CoC.refl _,trivial⟩)
 have hv:lvE n ps = 0:=by assumption
 refine w_7 ?_;refine qcx aby (a48 n p m) ?_;refine w_7 ?_;refine hcn (fun h1=>?_) (fun h1=>?_)
 · refine w_8 ?_;refine ⟨.inr rfl, ?_⟩;have he:=aqx (n:=n) (ps:=ps) (p:=p) (m:=m) (bgc hv bot).1 bot;exact f9 rfl rfl (by rw [he];exact ⟨CoC.one (CoP.sl rfl (.inr rfl) (fun _=>rfl) (fun i j hi _=>absurd hi (bkp i))),CoC.one (CoP.sl rfl (.inr rfl) (fun _=>rfl) (fun i j hi _=>absurd hi (bkp i))),CoC.refl _,trivial⟩)
 have hb:c8 n p m = 0:=by assumption
 refine w_5 ?_;refine qcx b72 (ayj n ps hv) ?_;refine w_3 ?_;refine m9 0 ?_;refine w_9 ?_;refine a8 _ rfl (fun e=>by cases e) (fun _=>?_);refine w_6 ?_;refine qcx b4b (ay4 n ps p m) ?_;refine w_4 ?_;refine m9 1 ?_;refine ce ?_;refine hcn (fun h2=>?_) (fun h2=>?_)
 · refine w_8 ?_;refine ⟨.inr rfl, ?_⟩;have he:=aqx (n:=n) (ps:=ps) (p:=p) (m:=m) (aat hv hb) bot;exact f9 rfl rfl (by rw [he];exact ⟨CoC.one (CoP.sl rfl (.inr rfl) (fun _=>rfl) (fun i j hi _=>absurd hi (bkp i))),CoC.one (CoP.sl rfl (.inr rfl) (fun _=>rfl) (fun i j hi _=>absurd hi (bkp i))),CoC.refl _,trivial⟩)
 have hc:(lsT n ps p m).2.2 = 0:=by assumption
 have htr:=awz hv hb hc;have hfew:(lsT n ps p m).1.length <= 1300000:=adx (p:=p) (m:=m) hv hb;have hls:lsC n ps p m = 0:=(aat hv hb).trans hc;refine w_4 ?_;refine m9 2 ?_;refine w_8 ?_;refine a6 (ι:=Nat) ⟨[(2,some _),(3,some _),(13,some _),(15,some _)],[]⟩ ⟨⟨c9,c9,c9,c9,trivial⟩,trivial⟩ (fun i=>⟨[(17,some (.v (.one (.ref 2 ((j4 n p m (ar (bm n ps)) (lsT n ps p m).1).take (i + 1)).length)))),(18,some (vI i))],[(0,some (.box [.p (.raw (.int .i64 n)), .p (rl ((trL n p m (ar (bm n ps)) (lsT n ps p m).1).getD i default))])),(2,some (.arr true 2 111 ((j4 n p m (ar (bm n ps)) (lsT n ps p m).1).take (i + 1)).length (lf tbC ((j4 n p m (ar (bm n ps)) (lsT n ps p m).1).take (i + 1)))))]⟩) (fun i=>i <= (lsT n ps p m).1.length) (fun i=>(lsT n ps p m).1.length - i) (0) (bkl _) ⟨⟨⟨_,rfl,(kn (by rw [ajf];rfl))⟩,zy,trivial⟩,⟨⟨_,rfl,(by rw [ank];exact CoO.refl _)⟩,⟨_,rfl,(b8f ajf rfl (CoP.refl _) (CoP.refl _))⟩,trivial⟩⟩ ?_;rintro i hi;have hlen:((j4 n p m (ar (bm n ps)) (lsT n ps p m).1).take (i + 1)).length <= i + 1:=by rw [bku];omega
 refine w_8 ?_;refine hcd (fun h3=>?_) (fun h3=>?_)
 · obtain ⟨hx1,hx2,hx3⟩:=b36 bos (aqu htr (i:=i) bos);refine ef ?_;refine qcx aoq (avo n ((trL n p m (ar (bm n ps)) (lsT n ps p m).1).getD i default) p m ((lsT n ps p m).1.getD i default) hx1 hb hx2 hx3) ?_;refine w_9 ?_;refine m9 3 ?_;refine r9 4 true ?_;refine w_7 ?_;exact lpx (i + 1) ⟨⟨⟨_,rfl,(c7 (afb bos))⟩,zy,c9,c9,c9,c9,trivial⟩,⟨⟨_,rfl,(by rw [a89 bos];exact CoO.refl _)⟩,⟨_,rfl,(ow (afb bos) (CoP.refl _) (CoP.refl _))⟩,trivial⟩⟩
 obtain rfl:i = (lsT n ps p m).1.length:=by omega
 refine w_2 ?_;refine av 17 rfl rfl rfl ?_;refine w_8 ?_;refine ⟨.inr rfl, ?_⟩;have he:=a6s hls;exact f9 rfl rfl (by rw [he];exact ⟨CoC.refl _,(by rw [List.take_of_length_le (by rw [z6];omega)];exact CoC.refl _),CoC.refl _,trivial⟩)
theorem bel:goodFn Tryz.prog 28:=wgx Tryz.func28
theorem b5m (n:Int) (ps:List AS) (p m:List Fd):a7 Tryz.prog 28 [pI n,pP (asl ps),pP (fdl p),pP (fdl m)] (ae [pP (stl (prS n ps p m)),pI (prC n ps p m)]):=by
 refine hpx (nt:=42) Tryz.func28 ?_;refine cu ?_;refine qcx bek (b6d n ps p m) ?_;refine oe ?_;refine hcn (fun h0=>?_) (fun h0=>?_)
 ·
  refine w_7 ?_;refine ⟨.inr rfl, ?_⟩;have hn:¬ (rcR n ps p m).2.2 = 0:=by assumption
  have e1:prS n ps p m = []:=if_neg hn;have e2:prC n ps p m = (rcR n ps p m).2.2:=if_neg hn;exact f9 rfl rfl (by rw [e1,e2];exact ⟨CoC.one (CoP.sl rfl (.inr rfl) (fun _=>rfl) (fun i j hi _=>absurd hi (bkp i))),CoC.refl _,trivial⟩)
 have hc:(rcR n ps p m).2.2 = 0:=by assumption
 obtain ⟨hz0,hz1,hfew0⟩:=bj2 hc;have hfew:(rcR n ps p m).1.length <= 1300000:=hfew0;have hln:=bag hc;refine w_7 ?_;refine a6 (ι:=Nat) ⟨[(0,some _),(10,some _),(11,some _)],[]⟩ ⟨⟨c9,c9,c9,trivial⟩,trivial⟩ (fun i=>⟨[(13,some (vI i))],[]⟩) (fun i=>i <= (rcR n ps p m).2.1.length /\ (∀ j,j < i -> mw n ((rcR n ps p m).2.1.getD j default).2 = false)) (fun i=>(rcR n ps p m).2.1.length - i) (0) (⟨bkl _,fun j hj=>absurd hj (bkp j)⟩) ⟨⟨zy,trivial⟩,trivial⟩ ?_;rintro i ⟨hi,hI⟩;refine w_8 ?_;refine hcd (fun h1=>?_) (fun h1=>?_)
 ·
  refine ce ?_;refine qcx bed (bbk n hz1) ?_;refine qcx alp (aj6 ((rcR n ps p m).2.1.getD i default).1 ((rcR n ps p m).2.1.getD i default).2 (dc n)) ?_;refine w_2 ?_;refine hcb (fun h2=>?_) (fun h2=>?_)
  ·
   have hx:prX n ps p m = (i:Int):=rp (p:=(fun a:Int × List Rw=>mw n a.2)) (i:=i) bos hI bot;refine w_9 ?_;refine ⟨.inr rfl, ?_⟩
   have e1:prS n ps p m = (rcR n ps p m).1.take i:=by
    unfold prS;rw [if_pos hc,if_neg bos,hx];rfl
   have e2:prC n ps p m = 0:=by
    unfold prC;rw [if_pos hc,if_neg bos]
   exact f9 rfl rfl (by rw [e1,e2];exact ⟨CoC.one (akf (by rw [bku];dsimp only [ek,be];omega) (fun a j=>by first | rfl | (simp;rfl))),CoC.refl _,trivial⟩)
  refine w_6 ?_;refine lpz (i + 1) ⟨⟨zy,c9,c9,c9,trivial⟩,trivial⟩ ?_;refine ⟨by omega,fun j hj=>?_⟩;by_cases e:j = i
  · rw [e];assumption
  exact hI j bos
 have hx:prX n ps p m < 0:=by
  have:prX n ps p m = -1:=rr (p:=(fun a:Int × List Rw=>mw n a.2)) fun j hj=>hI j bos;omega
 refine w_7 ?_;refine ⟨.inr rfl, ?_⟩
 have e1:prS n ps p m = []:=by
  unfold prS;rw [if_pos hc,if_pos hx]
 have e2:prC n ps p m = 11:=by
  unfold prC;rw [if_pos hc,if_pos hx]
 exact f9 rfl rfl (by rw [e1,e2];exact ⟨CoC.one (CoP.sl rfl (.inr rfl) (fun _=>rfl) (fun i j hi _=>absurd hi (bkp i))),CoC.refl _,trivial⟩)
theorem bcq:goodFn Tryz.prog 47:=wgx Tryz.func47
theorem bir (n:Int) (ps:List AS) (p m:List Fd):a7 Tryz.prog 47 [pI n,pP (asl ps),pP (fdl p),pP (fdl m)] (ae [pB (lsB n ps p m),pI (lsC n ps p m)]):=by
 refine hpx (nt:=25) Tryz.func47 ?_;refine cu ?_;refine qcx bel (b5m n ps p m) ?_;refine ef ?_;refine hcd (fun h0=>?_) (fun h0=>?_)
 · refine w_6 ?_;refine ⟨.inr rfl, ?_⟩;obtain ⟨e1,e2⟩:=bf3 (n:=n) (ps:=ps) (p:=p) (m:=m) bot;exact f9 rfl rfl (⟨ccb e1.symm,cci e2.symm,trivial⟩)
 refine ce ?_;refine ⟨.inr rfl, ?_⟩;obtain ⟨e1,e2⟩:=bgb (n:=n) (ps:=ps) (p:=p) (m:=m) bot;exact f9 rfl rfl (⟨ccb e1,cci e2,trivial⟩)
end
section
inductive Lf (l:List Fd):AS -> AS -> Prop
 | leaf {s:AS}:dm l s = false -> Lf l s s
 | left {s q:AS}:dm l s = true -> Lf l (spA l s) q -> Lf l s q
 | right {s q:AS}:dm l s = true -> Lf l (spB l s) q -> Lf l s q
def bd0 (l:List Fd):Nat -> AS -> List AS
 | 0,s=>[s]
 | k + 1,s=>if dm l s = true then bd0 l k (spA l s) ++ bd0 l k (spB l s) else [s]
end
section
open Go.Proofs
def u8A (b:BitVec 8):AS:=b.setWidth 32
abbrev u8C:BitVec 8 -> Nat -> PV:=fun b _=>.raw (.int .u8 (b.toNat:Int))
end
section
structure Rcp where
 n:BitVec 8
 f:List Dp
 m:List Dp
 p:List (BitVec 8)
deriving Inhabited
def Rcp.num (d:Rcp) (k:Nat):Int:=1 + ((d.n.toNat % k:Nat):Int)
abbrev Rcp.pc (d:Rcp):PC:=.agg [.raw (.int .u8 (d.n.toNat:Int)),dpl d.f,dpl d.m,psl 1 u8C d.p]
def u8S (n:Int) (b:BitVec 8):AS:=b.setWidth 32 &&& aa n
theorem arv {a b c:Nat}:(bif bif decide ((a:Int) <= 4) then decide ((b:Int) <= 4) else false then decide ((c:Int) <= 3) else false) = decide (a <= 4 /\ b <= 4 /\ c <= 3):=by
 rw [bme,decide_eq_true_iff];by_cases h1:(a:Int) <= 4
 · by_cases h2:(b:Int) <= 4
   · rw [decide_eq_true h1,decide_eq_true h2,cond_true,cond_true,decide_eq_true_iff];omega
   rw [decide_eq_true h1,decide_eq_false h2,cond_true,cond_false];exact ⟨(fun h=>by cases h),(fun h=>by omega)⟩
 rw [decide_eq_false h1,cond_false,cond_false];exact ⟨(fun h=>by cases h),(fun h=>by omega)⟩
end
section
open Go.Proofs
theorem bc3:goodFn Tryz.prog 29:=wgx Tryz.func29
theorem bh6 (d:Rcp) (hf:d.f.length <= 16777216) (hm:d.m.length <= 16777216) (hp:d.p.length <= 16777216):a7 Tryz.prog 29 [d.pc,pI 4] (ae [pI (d.num 4),pP (fdl (d.f.map (Dp.fd (d.num 4)))),pP (fdl (d.m.map (Dp.fd (d.num 4)))),pP (asl (d.p.map (u8S (d.num 4)))),pB (decide (d.f.length <= 4 /\ d.m.length <= 4 /\ d.p.length <= 3))]):=by
 refine hpx (nt:=118) Tryz.func29 ?_;refine sx7 ?_;refine m9 0 ?_;refine a42 ?_;refine qcx ol (oq (d.num 4)) ?_;refine ef ?_;refine cj 11 900 true 2 48 (lf Fd.c []) boz rfl (CoP.sl rfl (.inr rfl) (fun h=>h) (fun i j hi _=>absurd hi (bkp i))) (.inr rfl) rfl ?_;refine a6 (ι:=Nat) ⟨[(2,some _),(9,some _),(10,some _)],[(0,some _)]⟩ ⟨⟨c9,c9,c9,trivial⟩,⟨u9,trivial⟩⟩ (fun i=>⟨[(11,some (.v (.one (.ref 900 ((d.f.take i).map (Dp.fd (d.num 4))).length)))),(12,some (vI i))],[(900,some (.arr true 2 48 ((d.f.take i).map (Dp.fd (d.num 4))).length (lf Fd.c ((d.f.take i).map (Dp.fd (d.num 4))))))]⟩) (fun i=>i <= d.f.length) (fun i=>d.f.length - i) (0) (bkl _) ⟨⟨zy,zy,trivial⟩,⟨u9,trivial⟩⟩ ?_;rintro i hi;have hlen:((d.f.take i).map (Dp.fd (d.num 4))).length <= i:=by rw [bl7,bku];omega
 refine w_9 ?_;refine hcd (fun h0=>?_) (fun h0=>?_)
 · refine aqj ?_;refine m9 1 ?_;refine r9 2 true ?_;refine w_8 ?_;exact lpx (i + 1) ⟨⟨⟨_,rfl,(c7 (tn bos))⟩,zy,c9,c9,c9,trivial⟩,⟨⟨_,rfl,(ow (tn bos) (CoP.of_eq (congrArg (fun z=>PV.raw (.int .u32 z)) (a61 _ _))) (CoP.of_eq (congrArg (fun z=>PV.raw (.int .u32 z)) (a61 _ _))))⟩,u9,trivial⟩⟩
 obtain rfl:i = d.f.length:=by omega
 refine w_2 ?_;refine av 11 rfl rfl rfl ?_;refine w_9 ?_;refine cj 13 901 true 2 49 (lf Fd.c []) boz rfl (CoP.sl rfl (.inr rfl) (fun h=>h) (fun i j hi _=>absurd hi (bkp i))) (.inr rfl) rfl ?_;refine a6 (ι:=Nat) ⟨[(2,some _),(9,some _),(10,some _),(11,some _)],[(0,some _)]⟩ ⟨⟨c9,c9,c9,c9,trivial⟩,⟨u9,trivial⟩⟩ (fun i=>⟨[(13,some (.v (.one (.ref 901 ((d.m.take i).map (Dp.fd (d.num 4))).length)))),(14,some (vI i))],[(901,some (.arr true 2 49 ((d.m.take i).map (Dp.fd (d.num 4))).length (lf Fd.c ((d.m.take i).map (Dp.fd (d.num 4))))))]⟩) (fun i=>i <= d.m.length) (fun i=>d.m.length - i) (0) (bkl _) ⟨⟨zy,zy,trivial⟩,⟨u9,trivial⟩⟩ ?_;rintro i hi;have hlen:((d.m.take i).map (Dp.fd (d.num 4))).length <= i:=by rw [bl7,bku];omega
 refine w_9 ?_;refine hcd (fun h1=>?_) (fun h1=>?_)
 · refine aqj ?_;refine m9 3 ?_;refine r9 4 true ?_;refine w_8 ?_;exact lpx (i + 1) ⟨⟨⟨_,rfl,(c7 (tn bos))⟩,zy,c9,c9,c9,c9,trivial⟩,⟨⟨_,rfl,(ow (tn bos) (CoP.of_eq (congrArg (fun z=>PV.raw (.int .u32 z)) (a61 _ _))) (CoP.of_eq (congrArg (fun z=>PV.raw (.int .u32 z)) (a61 _ _))))⟩,u9,trivial⟩⟩
 obtain rfl:i = d.m.length:=by omega
 refine w_2 ?_;refine av 13 rfl rfl rfl ?_;refine w_9 ?_;refine cj 15 902 true 1 46 (lf sC []) boz rfl (CoP.sl rfl (.inr rfl) (fun h=>h) (fun i j hi _=>absurd hi (bkp i))) (.inr rfl) rfl ?_;refine a6 (ι:=Nat) ⟨[(2,some _),(9,some _),(10,some _),(11,some _),(13,some _)],[(0,some _)]⟩ ⟨⟨c9,c9,c9,c9,c9,trivial⟩,⟨u9,trivial⟩⟩ (fun i=>⟨[(15,some (.v (.one (.ref 902 ((d.p.take i).map (u8S (d.num 4))).length)))),(16,some (vI i))],[(902,some (.arr true 1 46 ((d.p.take i).map (u8S (d.num 4))).length (lf sC ((d.p.take i).map (u8S (d.num 4))))))]⟩) (fun i=>i <= d.p.length) (fun i=>d.p.length - i) (0) (bkl _) ⟨⟨zy,zy,trivial⟩,⟨u9,trivial⟩⟩ ?_;rintro i hi;have hlen:((d.p.take i).map (u8S (d.num 4))).length <= i:=by rw [bl7,bku];omega
 refine w_9 ?_;refine hcd (fun h2=>?_) (fun h2=>?_)
 · refine ik ?_;refine m9 5 ?_;refine r9 6 true ?_;refine w_7 ?_;exact lpx (i + 1) ⟨⟨⟨_,rfl,(c7 (tn bos))⟩,zy,c9,c9,c9,c9,c9,trivial⟩,⟨⟨_,rfl,(bz (tn bos) (CoP.of_eq (congrArg (fun z=>PV.raw (.int .u32 z)) (a61 _ _))))⟩,u9,trivial⟩⟩
 obtain rfl:i = d.p.length:=by omega
 refine w_2 ?_;refine av 15 rfl rfl rfl ?_;refine w_9 ?_;refine am rfl rfl (fun r3=>?_) (fun r3=>?_)
 ·
  have h3:=tz1 r3;(iterate 3 refine qy ?_ (hg:=(gtt r3)));refine w_2 ?_;refine am rfl rfl (fun r4=>?_) (fun r4=>?_)
  ·
   have h4:=tz1 (bp r3 r4);(iterate 3 refine qy ?_ (hg:=(gtt r4)));refine w_7 ?_
   exact hx8 rfl rfl rfl (⟨CoC.refl _,(by rw [bks];exact CoC.refl _),(by rw [bks];exact CoC.refl _),(by rw [bks];exact CoC.refl _),ccb (by first | (simp only [bl7,bks];exact arv) | exact (decide_eq_false bos).symm),trivial⟩)
  have h4:=tz2 (bp r3 r4);(iterate 3 refine k9 (gft r4) ?_);refine rq rfl rfl rfl rfl rfl ?_ (hp:=r4);refine w_6 ?_
  exact hx8 rfl rfl rfl (⟨CoC.refl _,(by rw [bks];exact CoC.refl _),(by rw [bks];exact CoC.refl _),(by rw [bks];exact CoC.refl _),ccb (by first | (simp only [bl7,bks];exact arv) | exact (decide_eq_false bos).symm),trivial⟩)
 have h3:=tz2 r3;(iterate 3 refine k9 (gft r3) ?_);refine rq rfl rfl rfl rfl rfl ?_ (hp:=r3);refine qy ?_;(iterate 3 refine k9 rfl ?_);refine w_7 ?_
 exact hx8 rfl rfl rfl (⟨CoC.refl _,(by rw [bks];exact CoC.refl _),(by rw [bks];exact CoC.refl _),(by rw [bks];exact CoC.refl _),ccb (by first | (simp only [bl7,bks];exact arv) | exact (decide_eq_false bos).symm),trivial⟩)
end
section
section
variable {a b:Int}
theorem ahr {n:Int} {l:List Rw} {p m:List Fd} {mu:Bool} {i:Int} (h:¬ ckE n l p m = 0):en n l p m mu i a b = (0,[],ckE n l p m):=if_neg h
theorem me {n:Int} {l:List Rw} {p m:List Fd} {mu:Bool} {i:Int} (h:ckE n l p m = 0) (h3:gu l p m mu i a b):en n l p m mu i a b = (0,[],1):=(if_pos h).trans (if_pos h3)
theorem a99 {n:Int} {l:List Rw} {p m:List Fd} {mu:Bool} {i:Int} (h:ckE n l p m = 0) (h3:¬ gu l p m mu i a b):en n l p m mu i a b = dx n l p m (mu,i.toNat,a.toNat,b.toNat):=(if_pos h).trans (if_neg h3)
theorem o5 (h:(if b < a then b else a) < 0):a < 0 \/ b < 0:=by split at h <;> omega
theorem o4 {k:Int} (h:k <= (if a < b then b else a)):k <= a \/ k <= b:=by split at h <;> omega
theorem aua (h:¬ (if b < a then b else a) < 0):0 <= a /\ 0 <= b:=by split at h <;> omega
theorem atl {k:Int} (h:¬ k <= (if a < b then b else a)):a < k /\ b < k:=by split at h <;> omega
def stQ (x y:St):Bool:=(x.1 == y.1) && (decide ((x.2.1:Int) = (y.2.1:Int)) && (decide ((x.2.2.1:Int) = (y.2.2.1:Int)) && decide ((x.2.2.2:Int) = (y.2.2.2:Int))))
end
end
section
open Go.Proofs
theorem b7a:goodFn Tryz.prog 129:=wgx Tryz.func129
theorem azo (n:Int) (l:List Rw) (p m:List Fd) (i a b:Int):a7 Tryz.prog 129 [pT n l,pP (fdl p),pP (fdl m), .agg [.raw (.bool true), .raw (.int .i64 i), .raw (.int .i64 a), .raw (.int .i64 b)]] (ae [pT (en n l p m true i a b).1 (en n l p m true i a b).2.1,pI (en n l p m true i a b).2.2]):=by
 refine hpx (nt:=69) Tryz.func129 ?_;refine sx7 ?_;refine m9 0 ?_;refine m9 1 ?_;refine m9 2 ?_;refine w_8 ?_;refine qcx ads (a9g n l p m) ?_;refine w_7 ?_;refine hcn (fun h0=>?_) (fun h0=>?_)
 · refine w_8 ?_;refine ⟨.inr rfl, ?_⟩;have he:=ahr (n:=n) (l:=l) (p:=p) (m:=m) (mu:=true) (i:=i) (a:=a) (b:=b) bot;exact f9 rfl rfl (by rw [he];exact ⟨CoC.agg ⟨CoP.refl _,bf,trivial⟩,CoC.refl _,trivial⟩)
 have hck:ckE n l p m = 0:=by assumption
 obtain ⟨hT,hbe,hpa⟩:=abx hck;refine ik ?_;refine a8 _ rfl (fun _=>?_) (fun e=>by cases e);refine ef ?_;refine am rfl rfl (fun r1=>?_) (fun r1=>?_)
 ·
  have h1:=tz1 r1;(iterate 4 refine k9 (gtf r1) ?_);refine rq rfl rfl rfl rfl rfl ?_ (hp:=r1);refine qy ?_;(iterate 5 refine k9 rfl ?_);refine w_2 ?_;(iterate 6 refine k9 rfl ?_);refine w_2 ?_;(iterate 9 refine k9 rfl ?_);refine w_2 ?_
  refine a8 _ rfl (fun _=>?_) (fun e=>by cases e);refine w_7 ?_;refine ⟨.inr rfl, ?_⟩
  have hbad:gu l p m true i a b:=by
   first
    | exact bdS
    | (refine (o5 (a:=a) (b:=b) ?_).elim (fun hq=>?_) (fun hq=>?_) <;> first | assumption | exact bdS)
    | (refine (o4 (a:=a) (b:=b) (k:=(l.length:Int)) ?_).elim (fun hq=>?_) (fun hq=>?_) <;> first | assumption | exact bdS)
  have he:=me hck hbad;exact f9 rfl rfl (by rw [he];exact ⟨CoC.agg ⟨CoP.refl _,bf,trivial⟩,CoC.refl _,trivial⟩)
 have h1:=tz2 r1;(iterate 4 refine qy ?_ (hg:=(gff r1)));refine w_2 ?_;refine am rfl rfl (fun r2=>?_) (fun r2=>?_)
 ·
  have h2:=tz1 (au r1 r2);(iterate 5 refine k9 (gtf r2) ?_);refine rq rfl rfl rfl rfl rfl ?_ (hp:=r2);refine qy ?_;(iterate 6 refine k9 rfl ?_);refine w_2 ?_;(iterate 9 refine k9 rfl ?_);refine w_2 ?_
  refine a8 _ rfl (fun _=>?_) (fun e=>by cases e);refine w_7 ?_;refine ⟨.inr rfl, ?_⟩
  have hbad:gu l p m true i a b:=by
   first
    | exact bdS
    | (refine (o5 (a:=a) (b:=b) ?_).elim (fun hq=>?_) (fun hq=>?_) <;> first | assumption | exact bdS)
    | (refine (o4 (a:=a) (b:=b) (k:=(l.length:Int)) ?_).elim (fun hq=>?_) (fun hq=>?_) <;> first | assumption | exact bdS)
  have he:=me hck hbad;exact f9 rfl rfl (by rw [he];exact ⟨CoC.agg ⟨CoP.refl _,bf,trivial⟩,CoC.refl _,trivial⟩)
 have h2:=tz2 (au r1 r2);(iterate 5 refine qy ?_ (hg:=(gff r2)));refine w_2 ?_;refine am rfl rfl (fun r3=>?_) (fun r3=>?_)
 ·
  have h3:=tz1 (au r2 r3);(iterate 6 refine k9 (gtf r3) ?_);refine rq rfl rfl rfl rfl rfl ?_ (hp:=r3);refine qy ?_;(iterate 9 refine k9 rfl ?_);refine w_2 ?_;refine a8 _ rfl (fun _=>?_) (fun e=>by cases e);refine w_7 ?_
  refine ⟨.inr rfl, ?_⟩
  have hbad:gu l p m true i a b:=by
   first
    | exact bdS
    | (refine (o5 (a:=a) (b:=b) ?_).elim (fun hq=>?_) (fun hq=>?_) <;> first | assumption | exact bdS)
    | (refine (o4 (a:=a) (b:=b) (k:=(l.length:Int)) ?_).elim (fun hq=>?_) (fun hq=>?_) <;> first | assumption | exact bdS)
  have he:=me hck hbad;exact f9 rfl rfl (by rw [he];exact ⟨CoC.agg ⟨CoP.refl _,bf,trivial⟩,CoC.refl _,trivial⟩)
 have h3:=tz2 (au r2 r3);(iterate 6 refine qy ?_ (hg:=(gff r3)));refine w_2 ?_;refine am rfl rfl (fun r4=>?_) (fun r4=>?_)
 ·
  have h4:=tz1 (au r3 r4);(iterate 9 refine k9 (gtf r4) ?_);refine rq rfl rfl rfl rfl rfl ?_ (hp:=r4);refine aq ?_;refine a8 _ rfl (fun _=>?_) (fun e=>by cases e);refine w_7 ?_;refine ⟨.inr rfl, ?_⟩
  have hbad:gu l p m true i a b:=by
   first
    | exact bdS
    | (refine (o5 (a:=a) (b:=b) ?_).elim (fun hq=>?_) (fun hq=>?_) <;> first | assumption | exact bdS)
    | (refine (o4 (a:=a) (b:=b) (k:=(l.length:Int)) ?_).elim (fun hq=>?_) (fun hq=>?_) <;> first | assumption | exact bdS)
  have he:=me hck hbad;exact f9 rfl rfl (by rw [he];exact ⟨CoC.agg ⟨CoP.refl _,bf,trivial⟩,CoC.refl _,trivial⟩)
 have h4:=tz2 (au r3 r4);(iterate 9 refine qy ?_ (hg:=(gff r4)));refine w_2 ?_;refine a8 _ rfl (fun r5=>?_) (fun r5=>?_)
 ·
  have h5:=tz1 (au r4 r5);refine w_7 ?_;refine ⟨.inr rfl, ?_⟩
  have hbad:gu l p m true i a b:=by
   first
    | exact bdS
    | (refine (o5 (a:=a) (b:=b) ?_).elim (fun hq=>?_) (fun hq=>?_) <;> first | assumption | exact bdS)
    | (refine (o4 (a:=a) (b:=b) (k:=(l.length:Int)) ?_).elim (fun hq=>?_) (fun hq=>?_) <;> first | assumption | exact bdS)
  have he:=me hck hbad;exact f9 rfl rfl (by rw [he];exact ⟨CoC.agg ⟨CoP.refl _,bf,trivial⟩,CoC.refl _,trivial⟩)
 have h5:=tz2 (au r4 r5);refine w_2 ?_;obtain ⟨ha0,hb0⟩:=aua (a:=a) (b:=b) bot;obtain ⟨hal,hbl⟩:=atl (a:=a) (b:=b) (k:=(l.length:Int)) bot
 have hnb:¬ gu l p m true i a b:=by
  unfold gu;rintro (h | h | h | h | h | h | ⟨h,h2⟩ | ⟨h,h2⟩) <;> first | omega | cases h
 have ha:a.toNat < l.length:=by omega
 have hb:b.toNat < l.length:=by omega
 have hi:i.toNat < m.length:=by omega
 refine w_5 ?_;refine rc rfl rfl rfl rfl rfl rfl ael (apq n l p m i.toNat a.toNat b.toNat hT ha hb hi) (⟨CoC.refl _,CoC.refl _,CoC.refl _,CoC.agg ⟨CoP.refl _,CoP.of_eq (by rw [bnu bos]),CoP.of_eq (by rw [bnu bos]),CoP.of_eq (by rw [bnu bos]),trivial⟩,trivial⟩) rfl rfl ?_;refine w_6 ?_;refine ⟨.inr rfl, ?_⟩;have he:=a99 (n:=n) (i:=i) (a:=a) (b:=b) hck hnb;exact f9 rfl rfl (by rw [he];exact CoL.refl _)
theorem azb (n:Int) (l:List Rw) (p m:List Fd) (i a b:Int):a7 Tryz.prog 129 [pT n l,pP (fdl p),pP (fdl m), .agg [.raw (.bool false), .raw (.int .i64 i), .raw (.int .i64 a), .raw (.int .i64 b)]] (ae [pT (en n l p m false i a b).1 (en n l p m false i a b).2.1,pI (en n l p m false i a b).2.2]):=by
 refine hpx (nt:=69) Tryz.func129 ?_;refine sx7 ?_;refine m9 0 ?_;refine m9 1 ?_;refine m9 2 ?_;refine w_8 ?_;refine qcx ads (a9g n l p m) ?_;refine w_7 ?_;refine hcn (fun h0=>?_) (fun h0=>?_)
 · refine w_8 ?_;refine ⟨.inr rfl, ?_⟩;have he:=ahr (n:=n) (l:=l) (p:=p) (m:=m) (mu:=false) (i:=i) (a:=a) (b:=b) bot;exact f9 rfl rfl (by rw [he];exact ⟨CoC.agg ⟨CoP.refl _,bf,trivial⟩,CoC.refl _,trivial⟩)
 have hck:ckE n l p m = 0:=by assumption
 obtain ⟨hT,hbe,hpa⟩:=abx hck;refine ik ?_;refine a8 _ rfl (fun e=>by cases e) (fun _=>?_);refine w_8 ?_;refine am rfl rfl (fun r1=>?_) (fun r1=>?_)
 ·
  have h1:=tz1 r1;(iterate 4 refine k9 (gtf r1) ?_);refine rq rfl rfl rfl rfl rfl ?_ (hp:=r1);refine qy ?_;(iterate 5 refine k9 rfl ?_);refine w_2 ?_;(iterate 6 refine k9 rfl ?_);refine w_2 ?_;(iterate 9 refine k9 rfl ?_);refine w_2 ?_
  refine a8 _ rfl (fun _=>?_) (fun e=>by cases e);refine w_7 ?_;refine ⟨.inr rfl, ?_⟩
  have hbad:gu l p m false i a b:=by
   first
    | exact bdS
    | (refine (o5 (a:=a) (b:=b) ?_).elim (fun hq=>?_) (fun hq=>?_) <;> first | assumption | exact bdS)
    | (refine (o4 (a:=a) (b:=b) (k:=(l.length:Int)) ?_).elim (fun hq=>?_) (fun hq=>?_) <;> first | assumption | exact bdS)
  have he:=me hck hbad;exact f9 rfl rfl (by rw [he];exact ⟨CoC.agg ⟨CoP.refl _,bf,trivial⟩,CoC.refl _,trivial⟩)
 have h1:=tz2 r1;(iterate 4 refine qy ?_ (hg:=(gff r1)));refine w_2 ?_;refine am rfl rfl (fun r2=>?_) (fun r2=>?_)
 ·
  have h2:=tz1 (au r1 r2);(iterate 5 refine k9 (gtf r2) ?_);refine rq rfl rfl rfl rfl rfl ?_ (hp:=r2);refine qy ?_;(iterate 6 refine k9 rfl ?_);refine w_2 ?_;(iterate 9 refine k9 rfl ?_);refine w_2 ?_
  refine a8 _ rfl (fun _=>?_) (fun e=>by cases e);refine w_7 ?_;refine ⟨.inr rfl, ?_⟩
  have hbad:gu l p m false i a b:=by
   first
    | exact bdS
    | (refine (o5 (a:=a) (b:=b) ?_).elim (fun hq=>?_) (fun hq=>?_) <;> first | assumption | exact bdS)
    | (refine (o4 (a:=a) (b:=b) (k:=(l.length:Int)) ?_).elim (fun hq=>?_) (fun hq=>?_) <;> first | assumption | exact bdS)
  have he:=me hck hbad;exact f9 rfl rfl (by rw [he];exact ⟨CoC.agg ⟨CoP.refl _,bf,trivial⟩,CoC.refl _,trivial⟩)
 have h2:=tz2 (au r1 r2);(iterate 5 refine qy ?_ (hg:=(gff r2)));refine w_2 ?_;refine am rfl rfl (fun r3=>?_) (fun r3=>?_)
 ·
  have h3:=tz1 (au r2 r3);(iterate 6 refine k9 (gtf r3) ?_);refine rq rfl rfl rfl rfl rfl ?_ (hp:=r3);refine qy ?_;(iterate 9 refine k9 rfl ?_);refine w_2 ?_;refine a8 _ rfl (fun _=>?_) (fun e=>by cases e);refine w_7 ?_
  refine ⟨.inr rfl, ?_⟩
  have hbad:gu l p m false i a b:=by
   first
    | exact bdS
    | (refine (o5 (a:=a) (b:=b) ?_).elim (fun hq=>?_) (fun hq=>?_) <;> first | assumption | exact bdS)
    | (refine (o4 (a:=a) (b:=b) (k:=(l.length:Int)) ?_).elim (fun hq=>?_) (fun hq=>?_) <;> first | assumption | exact bdS)
  have he:=me hck hbad;exact f9 rfl rfl (by rw [he];exact ⟨CoC.agg ⟨CoP.refl _,bf,trivial⟩,CoC.refl _,trivial⟩)
 have h3:=tz2 (au r2 r3);(iterate 6 refine qy ?_ (hg:=(gff r3)));refine w_2 ?_;refine am rfl rfl (fun r4=>?_) (fun r4=>?_)
 ·
  have h4:=tz1 (au r3 r4);(iterate 9 refine k9 (gtf r4) ?_);refine rq rfl rfl rfl rfl rfl ?_ (hp:=r4);refine aq ?_;refine a8 _ rfl (fun _=>?_) (fun e=>by cases e);refine w_7 ?_;refine ⟨.inr rfl, ?_⟩
  have hbad:gu l p m false i a b:=by
   first
    | exact bdS
    | (refine (o5 (a:=a) (b:=b) ?_).elim (fun hq=>?_) (fun hq=>?_) <;> first | assumption | exact bdS)
    | (refine (o4 (a:=a) (b:=b) (k:=(l.length:Int)) ?_).elim (fun hq=>?_) (fun hq=>?_) <;> first | assumption | exact bdS)
  have he:=me hck hbad;exact f9 rfl rfl (by rw [he];exact ⟨CoC.agg ⟨CoP.refl _,bf,trivial⟩,CoC.refl _,trivial⟩)
 have h4:=tz2 (au r3 r4);(iterate 9 refine qy ?_ (hg:=(gff r4)));refine w_2 ?_;refine a8 _ rfl (fun r5=>?_) (fun r5=>?_)
 ·
  have h5:=tz1 (au r4 r5);refine w_7 ?_;refine ⟨.inr rfl, ?_⟩
  have hbad:gu l p m false i a b:=by
   first
    | exact bdS
    | (refine (o5 (a:=a) (b:=b) ?_).elim (fun hq=>?_) (fun hq=>?_) <;> first | assumption | exact bdS)
    | (refine (o4 (a:=a) (b:=b) (k:=(l.length:Int)) ?_).elim (fun hq=>?_) (fun hq=>?_) <;> first | assumption | exact bdS)
  have he:=me hck hbad;exact f9 rfl rfl (by rw [he];exact ⟨CoC.agg ⟨CoP.refl _,bf,trivial⟩,CoC.refl _,trivial⟩)
 have h5:=tz2 (au r4 r5);refine w_2 ?_;obtain ⟨ha0,hb0⟩:=aua (a:=a) (b:=b) bot;obtain ⟨hal,hbl⟩:=atl (a:=a) (b:=b) (k:=(l.length:Int)) bot
 have hnb:¬ gu l p m false i a b:=by
  unfold gu;rintro (h | h | h | h | h | h | ⟨h,h2⟩ | ⟨h,h2⟩) <;> first | omega | cases h
 have ha:a.toNat < l.length:=by omega
 have hb:b.toNat < l.length:=by omega
 have hi:i.toNat < p.length:=by omega
 refine w_5 ?_;refine rc rfl rfl rfl rfl rfl rfl ael (aou n l p m i.toNat a.toNat b.toNat hT ha hb hi (blo.1 hpa _ (dt hi))) (⟨CoC.refl _,CoC.refl _,CoC.refl _,CoC.agg ⟨CoP.refl _,CoP.of_eq (by rw [bnu bos]),CoP.of_eq (by rw [bnu bos]),CoP.of_eq (by rw [bnu bos]),trivial⟩,trivial⟩) rfl rfl ?_;refine w_6 ?_;refine ⟨.inr rfl, ?_⟩;have he:=a99 (n:=n) (i:=i) (a:=a) (b:=b) hck hnb;exact f9 rfl rfl (by rw [he];exact CoL.refl _)
end
section
open Go.Proofs
abbrev Rcp.fs (d:Rcp) (k:Nat):List Fd:=d.f.map (Dp.fd (d.num k))
abbrev Rcp.ms (d:Rcp) (k:Nat):List Fd:=d.m.map (Dp.fd (d.num k))
abbrev Rcp.ps (d:Rcp) (k:Nat):List AS:=d.p.map (u8S (d.num k))
abbrev Rcp.t0 (d:Rcp) (k:Nat):List Rw:=ar (bm (d.num k) (d.ps k))
section
variable {n:Int} {p m:List Fd} {l0 l:List Rw}
end
theorem b98 (n:Int) (l:List Rw) (p m:List Fd) (mu:Bool) (i a b:Int):a7 Tryz.prog 129 [pT n l,pP (fdl p),pP (fdl m), .agg [.raw (.bool mu), .raw (.int .i64 i), .raw (.int .i64 a), .raw (.int .i64 b)]] (ae [pT (en n l p m mu i a b).1 (en n l p m mu i a b).2.1,pI (en n l p m mu i a b).2.2]):=by
 cases mu with
 | false=>exact azb n l p m i a b
 | true=>exact azo n l p m i a b
theorem axe {n:Int} {l:List Rw} {p m:List Fd} {s:St} (hT:tok n l = true) (hb:c8 n p m = 0) (h:xf l p m s):en n l p m s.1 s.2.1 s.2.2.1 s.2.2.2 = dx n l p m s:=by
 obtain ⟨mu,i,a,b⟩:=s;have hck:ckE n l p m = 0:=(if_pos hT).trans hb;obtain ⟨ha,hbb,h⟩:=h;have ha:a < l.length:=ha;have hbb:b < l.length:=hbb
 have hne:¬ a = b:=by
  rintro rfl
  rcases h with ⟨_,_,h⟩ | ⟨_,_,h⟩
  · rw [show ey l (p.getD i default) a a = false from a2t] at h;cases h
  rw [show f8 l (m.getD i default) a a = false from a3a ha] at h;cases h
 show en n l p m mu (i:Int) (a:Int) (b:Int) = _;rw [a99 hck]
 · rfl
 unfold gu
 rcases h with ⟨h1,h2,_⟩ | ⟨h1,h2,_⟩
 · have h1:mu = false:=h1
   subst h1;have h2:i < p.length:=h2;rintro (h | h | h | h | h | h | ⟨h,h3⟩ | ⟨h,h3⟩) <;> first | omega | cases h
 have h1:mu = true:=h1;subst h1;have h2:i < m.length:=h2;rintro (h | h | h | h | h | h | ⟨h,h3⟩ | ⟨h,h3⟩) <;> first | omega | cases h
theorem aux (n:Int) (l:List Rw) (p m:List Fd) (s:St) (hT:tok n l = true) (hb:c8 n p m = 0) (h:xf l p m s) (he:dx n l p m s = (n,(dx n l p m s).2.1,0)):a7 Tryz.prog 129 [pT n l,pP (fdl p),pP (fdl m),s.pc] (ae [pT n (dx n l p m s).2.1,pI 0]):=by
 have:=b98 n l p m s.1 s.2.1 s.2.2.1 s.2.2.2;rw [axe hT hb h,he] at this;exact this
end
section
abbrev Bs:=ByteArray
def bsC:Bs -> Nat -> PV:=fun b _=>.raw (.string b)
abbrev bsl (l:List Bs):PV:=psl 1 bsC l
abbrev pS (b:Bs):PC:=.one (.raw (.string b))
abbrev vS (b:Bs):HR:=bn (.raw (.string b))
def byC:UInt8 -> Nat -> PV:=fun x _=>.raw (.int .u8 (x.toNat:Int))
abbrev byl (b:Bs):PV:=psl 1 byC b.data.toList
abbrev pU8 (x:UInt8):PC:=.one (.raw (.int .u8 (x.toNat:Int)))
theorem coN {α:Type} [Inhabited α] {s:Nat} {c:α -> Nat -> PV} {f:Nat -> Nat -> PV}:CoP (.sl 0 0 true f) (psl s c []):=CoP.sl rfl (.inr rfl) (fun h=>by cases h) fun i j hi _=>absurd hi (bkp i)
def aiw (x:UInt8):Bool:=decide ((x.toNat:Int) <= 32) || decide ((x.toNat:Int) = 127)
def ru (l:List Bs) (i:Nat):Bool:=decide (l.getD i default = ⟨#[]⟩) || ((l.getD i default).data.toList.any aiw || (l.take i).any fun x=>decide (x = l.getD i default))
def mj (l:List Bs):Int:=if 16 < l.length then 3 else if (List.range l.length).any (ru l) = true then 1 else 0
section
variable {l:List Bs}
theorem b1t {i:Nat} (h0:¬ (16:Int) < l.length) (hi:i < l.length) (h:ru l i = true):mj l = 1:=by
 unfold mj;rw [if_neg bos,if_pos (bll.2 ⟨i,bl0.2 hi,h⟩)]
theorem bhr (h0:¬ (16:Int) < l.length) (h:∀ j,j < l.length -> ru l j = false):mj l = 0:=by
 unfold mj;rw [if_neg bos,if_neg];rw [bo6,bmh];intro j hj;rw [h j (bl0.1 hj)];exact boe
theorem bij (h:(16:Int) < l.length):mj l = 3:=if_pos bos
def bOf (l:List UInt8):Bs:=⟨l.toArray⟩
abbrev bL (b:Bs):List UInt8:=b.data.toList
theorem bh1 (b:Bs):bOf (bL b) = b:=by
 cases b;simp [bOf]
def a2s (l:List Bs) (sep:Bs):Bs:=bOf (Lib.join (l.map bL) (bL sep))
def vm (l:List Bs) (s:AS):List Bs:=(al s).map fun i=>l.getD i default
def txT (l:List Bs) (s:AS):Bs:=if (vm l s).length = 0 then ⟨#[45]⟩ else a2s (vm l s) ⟨#[44]⟩
def szB (l:List Bs):Nat:=(l.map ByteArray.size).sum
theorem aao (b:Bs):(bL b).length = b.size:=rfl
theorem ay2 (l:List Bs) (sep:List UInt8):(Lib.join (l.map bL) sep).length <= szB l + sep.length * l.length:=by
 cases l with
 | nil=>simp [Lib.join_nil]
 | cons x r =>
  rw [bm4,Lib.join_cons,bkq,Lib.joinTail_length]
  have:Lib.lens (r.map bL) = szB r:=by
   unfold Lib.lens szB;rw [List.map_map];rfl
  rw [this,bl7];have h2:szB (x :: r) = x.size + szB r:=by simp [szB]
  rw [h2,aao,blf,Nat.mul_succ];omega
theorem ajv {s:AS} {m:Nat} (h:∀ b ∈ l,b.size <= m):szB (vm l s) <= m * 32:=by
 have key:∀ q:List Nat,szB (q.map fun i=>l.getD i default) <= m * q.length:=by
  intro q
  induction q with
  | nil=>simp [szB]
  | cons i q ih =>
   have h1:(l.getD i default).size <= m:=by
    rw [bkk]
    cases hi:l[i]? with
    | none=>exact bkl _
    | some b=>exact h b (List.mem_of_getElem? hi)
   have h2:szB ((i :: q).map fun i=>l.getD i default) = (l.getD i default).size + szB (q.map fun i=>l.getD i default):=by simp [szB]
   rw [h2,blf,Nat.mul_succ];omega
 exact bky (key _) (Nat.mul_le_mul_left _ (ng s))
theorem b6f {s:AS} {m:Nat} (h:∀ b ∈ l,b.size <= m):(txT l s).size <= m * 32 + 33:=by
 unfold txT;split
 · show 1 <= _
   omega
 show (bOf _).size <= _;have h1:=ay2 (vm l s) [44];have h2:=ajv (s:=s) h;have h3:(vm l s).length <= 32:=by unfold vm;rw [bl7];exact ng s
 have h4:(bOf (Lib.join ((vm l s).map bL) (bL ⟨#[44]⟩))).size = (Lib.join ((vm l s).map bL) [44]).length:=rfl;rw [h4];simp only [bm7,Nat.one_mul] at h1;omega
end
end
section
open Go.Proofs Go.Proofs.YtkkenjdfbojdlaaGreatDoor
open Go.RowKit Go.ChangeShapes Go.WideShapes Go.ChangeAt
theorem rd5:Rd Tryz.prog 5 1 u8C:=(bgv Tryz.underlying5).co (fun u=>u.toBitVec) fun a j hj=>CoP.refl _
theorem bip:RdB Tryz.prog 113 2 Dp.c fun _ _=>True:=by
 intro H enc w sp held fuel cs x h;obtain ⟨hl,n,hf⟩:=b2e Tryz.underlying113 h;obtain ⟨y0,e0⟩:=hf 0 bos;obtain ⟨y1,e1⟩:=hf 1 bos;have hc:Tryz.prog.cellsOf 5 = 1:=by kernel_rfl
 obtain ⟨a0,_,h0⟩:=t8 (off:=0) (fun _ _ _ _ _=>trivial) rd5.toB (by simpa using e0);obtain ⟨a1,_,h1⟩:=t8 (off:=1) (fun _ _ _ _ _=>trivial) rd5.toB (by simpa [hc] using e1);refine ⟨hl.trans (by kernel_rfl),(⟨a0,a1⟩:Dp),trivial,fun j hj=>?_⟩
 match j,hj with
 | 0,_=>exact h0 0 bos
 | 1,_=>exact h1 0 bos
theorem bcy:RdB Tryz.prog 22 1 (b0b 2 Dp.c) fun b l=>l.length <= b :=
 (agl (B:=fun _ _=>True) (fun _ _ _ _ _=>trivial) Tryz.underlying22 (by kernel_rfl) bos bip).co id (fun b a h=>h.1) fun a j hj=>CoP.refl _
theorem bhf:RdB Tryz.prog 23 1 (b0b 1 u8C) fun b l=>l.length <= b :=
 (agl (B:=fun _ _=>True) (fun _ _ _ _ _=>trivial) Tryz.underlying23 (by kernel_rfl) bos rd5.toB).co id (fun b a h=>h.1) fun a j hj=>CoP.refl _
abbrev Rcp.c (d:Rcp):Nat -> PV:=fun j=>[.raw (.int .u8 (d.n.toNat:Int)),dpl d.f,dpl d.m,psl 1 u8C d.p].getD j .any
theorem bh9:RdB Tryz.prog 25 4 Rcp.c fun b d=>d.f.length <= b /\ d.m.length <= b /\ d.p.length <= b:=by
 intro H enc w sp held fuel cs x h;obtain ⟨hl,n,hf⟩:=ari Tryz.underlying25 h;obtain ⟨y0,e0⟩:=hf 0 _ rfl;obtain ⟨y1,e1⟩:=hf 1 _ rfl;obtain ⟨y2,e2⟩:=hf 2 _ rfl;obtain ⟨y3,e3⟩:=hf 3 _ rfl;obtain ⟨a0,_,h0⟩:=t8 (fun _ _ _ _ _=>trivial) rd5.toB e0;obtain ⟨a1,b1,h1⟩:=t8 (B:=fun b (l:List Dp)=>l.length <= b) (fun _ _ _ h k=>bky k h) bcy e1;obtain ⟨a2,b2,h2⟩:=t8 (B:=fun b (l:List Dp)=>l.length <= b) (fun _ _ _ h k=>bky k h) bcy e2;obtain ⟨a3,b3,h3⟩:=t8 (B:=fun b (l:List (BitVec 8))=>l.length <= b) (fun _ _ _ h k=>bky k h) bhf e3;refine ⟨hl.trans (by kernel_rfl),(⟨a0,a1,a2,a3⟩:Rcp),⟨b1,b2,b3⟩,fun j hj=>?_⟩
 match j,hj with
 | 0,_=>exact h0 0 bos
 | 1,_=>exact h1 0 bos
 | 2,_=>exact h2 0 bos
 | 3,_=>exact h3 0 bos
theorem bh0:Tryz.prog.readableRec 25 = true /\ 25 < Tryz.prog.types.size:=⟨by kernel_rfl,of_decide_eq_true (by kernel_rfl)⟩
end
section
section
variable {l:List Bs}
theorem aiz {i:Nat} (hi:i < l.length):szB (l.take (i + 1)) = szB (l.take i) + (l.getD i default).size:=by
 unfold szB;rw [List.take_succ,bkj hi,bmw,List.sum_append,bkk,bkj hi];simp
theorem axk (l:List Bs) (i:Nat):szB l = szB (l.take i) + szB (l.drop i):=by
 unfold szB;rw [<- List.sum_append,<- bmw,bnz]
theorem a13 (l:List Bs) (i:Nat):szB (l.take i) <= szB l:=by have:=axk l i;omega
theorem aba {i:Nat} (hi:i < l.length):(l.getD i default).size <= szB l:=by
 have h1:=aiz hi;have h2:=a13 l (i + 1);omega
def sa (l:List Bs) (sep:Bs) (i:Nat):List UInt8:=bL (l.getD 0 default) ++ Lib.joinTail (bL sep) (((l.drop 1).take i).map bL)
theorem be2 (l:List Bs) (sep:Bs):sa l sep 0 = [] ++ bL (l.getD 0 default):=by simp [sa,Lib.joinTail]
theorem agn {sep:Bs} {i:Nat} (hi:1 + i < l.length):sa l sep (i + 1) = (sa l sep i ++ bL sep) ++ bL (l.getD (1 + i) default):=by
 unfold sa
 have h:((l.drop 1).map bL)[i]? = some (bL (l.getD (1 + i) default)):=by
  rw [bl6,bmy,bkk,bkj hi];rfl
 have h2:=Lib.joinTail_take_succ (bL sep) ((l.drop 1).map bL) i _ h;rw [List.map_take,List.map_take,h2];simp only [blw]
theorem b1c (sep:Bs) (h:l ≠ []):(⟨(sa l sep (l.length - 1)).toArray⟩:Bs) = a2s l sep:=by
 obtain ⟨x,r,rfl⟩:=List.exists_cons_of_ne_nil h;unfold sa a2s bOf;rw [bm4,Lib.join_cons];simp
theorem b5l (l:List Bs) (sep:Bs) (i:Nat):(sa l sep i).length <= szB l + sep.size * l.length:=by
 unfold sa;rw [bkq,Lib.joinTail_length,bl7]
 have h1:Lib.lens (((l.drop 1).take i).map bL) <= szB (l.drop 1):=by
  have:Lib.lens (((l.drop 1).take i).map bL) = szB ((l.drop 1).take i):=by
   unfold Lib.lens szB;rw [List.map_map];rfl
  rw [this];exact a13 _ _
 have h2:((l.drop 1).take i).length <= l.length:=by
  rw [bku,bma];omega
 have h3:(bL (l.getD 0 default)).length + szB (l.drop 1) <= szB l:=by
  cases l with
  | nil=>exact bko 0
  | cons x r =>
   have e:szB (x :: r) = x.size + szB r:=by simp [szB]
   rw [e];show x.size + szB r <= _;omega
 have h4:=Nat.mul_le_mul_left sep.size h2;show _ + (sep.size * _ + _) <= _;omega
theorem avl (sep:Bs) (h:(l.length:Int) = 1):a2s l sep = l.getD 0 default:=by
 match l,h with
 | [x],_ =>
  show bOf (Lib.join [bL x] (bL sep)) = x;rw [Lib.join_one,bh1]
theorem bi0 {α:Type} {l:List α} (h:(l.length:Int) = 0):l = []:=bm8 bos
theorem b7s {n:Int} (h1:1 <= n) (h2:n <= 1000):(2:Int) <= 9223372036854775807 / n:=Int.le_ediv_of_mul_le bos bos
end
end
end Go.Hx

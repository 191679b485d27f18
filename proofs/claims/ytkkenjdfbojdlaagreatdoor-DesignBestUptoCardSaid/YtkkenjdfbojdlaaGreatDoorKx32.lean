/- A part of the proof: W0 W1 Ls6 W2a Ch22 X26 Ch25 X31 Cc4 Ds1 Rb27 Ds2. -/
import Derived.Lib.Join
import Derived.Test.YtkkenjdfbojdlaaGreatDoorKx31
set_option linter.all false
set_option maxRecDepth 100000
set_option maxHeartbeats 1000000
namespace Go.Hx
section
open Go.Proofs
section
variable {m p:List Fd} {n:Int} {ps:List AS}
def ax1 (h:lvE n ps = 0) (hb:bt n p m = 0) (hc:(lsT n ps p m).2.2 = 0):TrZ n p m (lsT n ps p m).2.1.2 (av (bo n ps)) (lsT n ps p m).1:=by
 obtain ⟨sts,lend,e,htr,_⟩:=anl h hb hc;rw [e];exact htr
def bex (h:(rcR n ps p m).2.2 = 0):(rcR n ps p m).2.1.length = (rcR n ps p m).1.length + 1:=by
 rw [a05] at h;rw [a9d h];exact zr
def bju (h:(rcR n ps p m).2.2 = 0):0 <= n /\ n <= 16 /\ (rcR n ps p m).1.length <= FU:=by
 rw [a05] at h;obtain ⟨h1,h2⟩:=pl h;rw [a9d h];have:=oe h1;exact ⟨this.1,by omega,agj h1 h2⟩
def b6c {l:List Rw} {T:List (Int × List Rw)} {e:TypeId} {N:Nat} {f:Nat -> Nat -> PV} (h:T = [(n,l)]) (hN:N = 1) (h0:CoP (f 0 0) (.raw (.int .i64 n))) (h1:CoP (f 0 1) (rl l)):CoO (.arr true 2 e N f) (.arr true 2 e T.length (lf tbC T)):=by
 subst h hN;refine ⟨fun h=>h,rfl,rfl,rfl,fun a j ha hj=>?_⟩
 have ha:a = 0:=by
  have:a < 1:=ha;omega
 subst ha
 match j,hj with
 | 0,_=>exact h0
 | 1,_=>exact h1
def ao8 {n:Nat} {l:List St} {i:Nat} {cl:Bool} (hn:n = (l.take i).length) {f:Nat -> Nat -> PV} (hf:∀ a j,f a j = lf St.c l a j):CoP (.sl n 4 cl f) (stl (l.take i)):=by
 refine CoP.sl hn.symm (.inl rfl) (fun h=>by cases h) fun a j ha hj=>CoP.of_eq ?_;rw [hf];show St.c (l.getD a default) j = St.c ((l.take i).getD a default) j;have:a < i:=by rw [hn,bmk] at ha;omega
 rw [bmb,bmb,bmy,if_pos this]
def bbq (n:Int) (ps:List AS) (h:lvE n ps = 0):a6 br6 128 [pI n,pP (asl ps)] (a8 [pT n (av (bo n ps)),pI 0]):=by
 have:=bbz n ps;rw [aoa h] at this;exact this
def b2d (n:Int) (ps:List AS) (h:lvE n ps = 0):a6 br6 130 [pI n,pP (asl ps)] (a8 [pT n (av (bo n ps)),pI 0]):=by
 have:=bad n ps;rw [aoa h] at this;exact this
def b9d (n:Int) (ps:List AS) (p m:List Fd):a6 br6 151 [pT n (av (bo n ps)),pP (fdl p),pP (fdl m)] (a8 [pP (stl (lsT n ps p m).1),pT (lsT n ps p m).2.1.1 (lsT n ps p m).2.1.2,pI (lsT n ps p m).2.2]) :=
 bc5 FU n (av (bo n ps)) p m (fun h=>aol h) bqo
def b1k (n:Int) (ps:List AS) (p m:List Fd):a6 br6 132 [pT n (av (bo n ps)),pP (fdl p),pP (fdl m)] (a8 [pP (stl (lsT n ps p m).1),pT (lsT n ps p m).2.1.1 (lsT n ps p m).2.1.2,pI (lsT n ps p m).2.2]) :=
 baj FU n (av (bo n ps)) p m (fun h=>aol h) bqo
def ava (n:Int) (l:List Rw) (p m:List Fd) (s:St) (hT:tok n l = true) (hb:bt n p m = 0) (h:y9 l p m s) (he:dx n l p m s = (n,(dx n l p m s).2.1,0)):a6 br6 131 [pT n l,pP (fdl p),pP (fdl m),s.pc] (a8 [pT n (dx n l p m s).2.1,pI 0]):=by
 have:=ahm n l p m s ((if_pos hT).trans hb) h;rw [he] at this;exact this
def b3z {l lend:List Rw} {sts:List St} {i:Nat} (hi:i < sts.length) (h:TrZ n p m lend l (sts.drop i)):tok n l = true /\ y9 l p m (sts.getD i default) /\ dx n l p m (sts.getD i default) = (n,(dx n l p m (sts.getD i default)).2.1,0):=by
 have e:sts.drop i = sts.getD i default :: sts.drop (i + 1):=by
  rw [bpc hi,bmb,bma hi];rfl
 rw [e] at h;obtain ⟨h1,h2,l',h3,h4,h5⟩:=h;rw [h3];exact ⟨h1,h2,rfl⟩
end
end
section
open Go.Proofs
def be1 (ps:List AS):a6 br6 112 [pP (asl ps)] (a8 [pA (orL ps)]):=by
 refine hpx (nt:=17) Tryz.func112 ?_;refine c5 ?_;refine c8 0 rfl fun hn=>?_;refine w_6 ?_;refine b5 (ka 6 (ka 7 kn)) km (fun i=>⟨[(3,some (vA (orL (ps.take i)))),(8,some (vI i))],[]⟩) ps.length ⟨⟨⟨_,rfl,(CoR.refl _)⟩,tt⟩,trivial⟩ ?_;rintro i hi;refine w_5 ?_;refine hcd (fun h0=>?_) (fun h0=>?_)
 · refine a2a ?_;exact lpx (i + 1) ⟨⟨⟨_,rfl,(bj (by rw [bOr,wt bqi];rfl))⟩,tt⟩,trivial⟩
 obtain rfl:i = ps.length:=by omega
 refine v_6 ?_;exact ⟨cci (by rw [bmi]),trivial⟩
def bqr {p:Prop} (h:p:=by (repeat' apply And.intro) <;> first | trivial | exact bmc rfl | rfl):p:=h
def arf (n:Int) (ps:List AS):a6 br6 52 [pI n,pP (asl ps)] (a8 [pI (lvE n ps)]):=by
 refine hpx (nt:=28) Tryz.func52 ?_;refine cq ?_;refine ah rfl rfl (fun r0=>?_) (fun r0=>?_)
 ·
  have h0:=tz1 r0;(iterate 2 refine k9 (gtf r0) ?_);refine rq rfl rfl rfl rfl rfl ?_ (hp:=r0);refine w_7 ?_
  exact hx8 rfl rfl rfl (⟨cci (aja bqi).symm,trivial⟩)
 have h0:=tz2 r0;(iterate 2 refine qy ?_ (hg:=(gff r0)));refine w_3 ?_;refine ak _ rfl (fun r1=>?_) (fun r1=>?_)
 · have h1:=tz1 (au r0 r1);refine v_4 ?_;exact ⟨cci (aja bqi).symm,trivial⟩
 have h1:=tz2 (au r0 r1);have hz0:0 <= n:=by omega
 have hz1:n <= 16:=by omega
 refine w_7 ?_;refine hcd (fun h2=>?_) (fun h2=>?_)
 · refine v_4 ?_;exact ⟨cci (b4w bqi bqi).symm,trivial⟩
 refine w_6 ?_;refine ah rfl rfl (fun r3=>?_) (fun r3=>?_)
 ·
  have h3:=tz1 r3;(iterate 6 refine k9 (gtf r3) ?_);refine rq rfl rfl rfl rfl rfl ?_ (hp:=r3);refine w_8 ?_
  exact hx8 rfl rfl rfl (⟨cci (aiu bqi bqi (by first | exact .inl bqi | exact .inr (fun e=>absurd (show asI (orL ps) = IntKind.wrap .u32 (1 * 2 ^ (min n.toNat 32)) - 1 by rw [ut hz0 hz1,e]) bqj))).symm,trivial⟩)
 have h3:=tz2 r3;refine qy ?_ (hg:=(gff r3));refine qcx (wgx Tryz.func112) (be1 ps) ?_ (hg:=(gff r3));(iterate 2 refine qy ?_ (hg:=(gff r3)));refine rq rfl rfl rfl rfl (gff r3) ?_ (hp:=⟨a00 hz0 hz1,xt hz0 hz1⟩);refine qy ?_ (hg:=(gff r3));refine w_4 ?_;refine ak _ rfl (fun r4=>?_) (fun r4=>?_)
 · have h4:=tz2 (cu (au r3 r4));refine v_4 ?_;exact ⟨cci (aiu bqi bqi (by first | exact .inl bqi | exact .inr (fun e=>absurd (show asI (orL ps) = IntKind.wrap .u32 (1 * 2 ^ (min n.toNat 32)) - 1 by rw [ut hz0 hz1,e]) bqj))).symm,trivial⟩
 have h4:=tz1 (ct (au r3 r4));refine w_6 ?_;refine ⟨.inr rfl, ?_⟩
 exact ⟨_,_,_,_,rfl,bqr,rfl,bqr,⟨cci (b4d bqi bqi (fun e=>by
  rcases e with e | e
  · omega
  exact e (c6.1 ((by assumption:asI (orL ps) = IntKind.wrap .u32 (1 * 2 ^ (min n.toNat 32)) - 1).trans (ut hz0 hz1))))).symm,trivial⟩⟩
def asg (n:Int) (ps:List AS) (p m:List Fd):a6 br6 100 [pI n,pP (asl ps),pP (fdl p),pP (fdl m)] (a8 [pT (lcR n ps p m).1.1 (lcR n ps p m).1.2,pP (stl (lcR n ps p m).2.1),pT (lcR n ps p m).2.2.1.1 (lcR n ps p m).2.2.1.2,pI (lcR n ps p m).2.2.2]):=by
 refine hpx (nt:=58) Tryz.func100 ?_;refine sx7 ?_;refine m9 0 ?_;refine qy ?_;refine m9 1 ?_;refine w_7 ?_;refine qcx (wgx Tryz.func52) (arf n ps) ?_;refine w_7 ?_;refine hcn (fun h0=>?_) (fun h0=>?_)
 · refine c5 ?_;refine hrr ?_;have he:=bj8 (p:=p) (m:=m) (by assumption:¬ lvE n ps = 0);exact f9 rfl rfl (by rw [he];exact ⟨CoC.agg ⟨CoP.refl _,bf,trivial⟩,CoC.one (CoP.sl rfl (.inr rfl) (fun _=>rfl) (fun i j hi _=>absurd hi (bmf i))),CoC.agg ⟨CoP.refl _,bf,trivial⟩,CoC.refl _,trivial⟩)
 have hv:lvE n ps = 0:=by assumption
 refine w_7 ?_;refine qcx a2k (zj n p m) ?_;refine w_7 ?_;refine hcn (fun h1=>?_) (fun h1=>?_)
 · refine c5 ?_;refine hrr ?_;have he:=bhl hv (by assumption:¬ bt n p m = 0);exact f9 rfl rfl (by rw [he];exact ⟨CoC.agg ⟨CoP.refl _,bf,trivial⟩,CoC.one (CoP.sl rfl (.inr rfl) (fun _=>rfl) (fun i j hi _=>absurd hi (bmf i))),CoC.agg ⟨CoP.refl _,bf,trivial⟩,CoC.refl _,trivial⟩)
 have hb:bt n p m = 0:=by assumption
 refine w_5 ?_;refine qcx (wgx Tryz.func128) (bbq n ps hv) ?_;refine w_3 ?_;refine m9 2 ?_;refine ow ?_;refine qcx (wgx Tryz.func151) (b9d n ps p m) ?_;refine w_4 ?_;refine m9 3 ?_;refine ow ?_;refine hrr ?_;have he:=au0 hv hb;exact f9 rfl rfl (by rw [he];exact CoL.refl _)
def aqj (n:Int) (h0:0 <= n) (h1:n <= 16):a6 br6 102 [pI n] (a8 [pZ (dj n)]):=by
 refine hpx (nt:=18) Tryz.func102 ?_;refine w_7 ?_;refine m9 0 ?_;refine c5 ?_;refine b5 (ka 3 (ka 8 kn)) km (fun k=>⟨[(9,some (vI k))],[(0,some (.arr true 1 3 n.toNat (lf zC (stT n 0 (jn 32) k))))]⟩) n.toNat ⟨tt,⟨⟨_,rfl,(amm rfl (fun _=>rfl))⟩,trivial⟩⟩ ?_;rintro k hk;refine w_5 ?_;refine hcd (fun h0=>?_) (fun h0=>?_)
 · refine a2a ?_;exact lpx (k + 1) ⟨tt,⟨⟨_,rfl,(bcn (az6 bqi) rfl bqi)⟩,trivial⟩⟩
 refine w_2 ?_;refine al 3 rfl rfl rfl ?_;refine v_4 ?_;exact ⟨avi h1 bqi,trivial⟩
def bks (n:Int) (ps:List AS) (p m:List Fd):a6 br6 45 [pI n,pP (asl ps),pP (fdl p),pP (fdl m)] (a8 [pB (lsB n ps p m),pI (lsC n ps p m)]):=by
 refine hpx (nt:=33) Tryz.func45 ?_;refine cq ?_;refine qcx (wgx Tryz.func100) (asg n ps p m) ?_;refine w_5 ?_;refine m9 0 ?_;refine m9 1 ?_;refine c5 ?_;refine ah rfl rfl (fun r0=>?_) (fun r0=>?_)
 ·
  have h0:=tz1 r0;have hz:=bjp (n:=n) (ps:=ps) (p:=p) (m:=m) rfl h0;(iterate 2 refine qy ?_ (hg:=(gtt r0)));refine qcx (wgx Tryz.func102) (aqj n hz.1 bqi) ?_ (hg:=(gtt r0));refine qcx ag0 (atv (lcR n ps p m).2.2.1.1 (lcR n ps p m).2.2.1.2 (dj n)) ?_ (hg:=(gtt r0))
  refine v_6 ?_;exact ⟨ccb (by first | exact bfo | exact b14 (n:=n) (ps:=ps) (p:=p) (m:=m) bqj | exact (b0f (n:=n) (ps:=ps) (p:=p) (m:=m) bqj).symm),cci qd,trivial⟩
 have h0:=tz2 r0;(iterate 4 refine k9 (gft r0) ?_);refine rq rfl rfl rfl rfl rfl ?_ (hp:=r0);refine w_5 ?_
 exact hx8 rfl rfl rfl (⟨ccb (by first | exact bfo | exact b14 (n:=n) (ps:=ps) (p:=p) (m:=m) bqj | exact (b0f (n:=n) (ps:=ps) (p:=p) (m:=m) bqj).symm),cci qd,trivial⟩)
def b3i (n:Int) (ps:List AS):a6 br6 62 [pI n,pP (asl ps)] (a8 [pI (lvE n ps)]):=by
 refine hpx (nt:=37) Tryz.func62 ?_;refine c5 ?_;refine ah rfl rfl (fun r0=>?_) (fun r0=>?_)
 ·
  have h0:=tz1 r0;(iterate 2 refine k9 (gtf r0) ?_);refine rq rfl rfl rfl rfl rfl ?_ (hp:=r0);refine w_6 ?_
  exact hx8 rfl rfl rfl (⟨cci (aja bqi).symm,trivial⟩)
 have h0:=tz2 r0;(iterate 2 refine qy ?_ (hg:=(gff r0)));refine w_2 ?_;refine ak _ rfl (fun r1=>?_) (fun r1=>?_)
 · have h1:=tz1 (au r0 r1);refine v_4 ?_;exact ⟨cci (aja bqi).symm,trivial⟩
 have h1:=tz2 (au r0 r1);refine w_8 ?_;refine hcd (fun h2=>?_) (fun h2=>?_)
 · refine v_4 ?_;exact ⟨cci (b4w bqi bqi).symm,trivial⟩
 refine cq ?_;refine b5 (ka 0 (ka 1 kn)) km (fun i=>⟨[(5,some (vA (orL (ps.take i)))),(6,some (vI i))],[]⟩) ps.length ⟨⟨⟨_,rfl,(CoR.refl _)⟩,tt⟩,trivial⟩ ?_;rintro i hi;refine w_8 ?_;refine hcd (fun h3=>?_) (fun h3=>?_)
 · refine y5 ?_;exact lpx (i + 1) ⟨⟨⟨_,rfl,(bj (by rw [bOr,wt bqi];rfl))⟩,tt⟩,trivial⟩
 obtain rfl:i = ps.length:=by omega
 rw [show ps.take ps.length = ps from bmi];refine w_8 ?_;refine ah rfl rfl (fun r4=>?_) (fun r4=>?_)
 ·
  have h4:=tz1 r4;(iterate 4 refine k9 (gtf r4) ?_);refine rq rfl rfl rfl rfl rfl ?_ (hp:=r4);refine w_6 ?_
  exact hx8 rfl rfl rfl (⟨cci (aiu bqi bqi (by first | exact .inl bqi | exact .inr (fun e=>absurd (show asI (orL ps) = asI (a7 n) by rw [e]) bqj))).symm,trivial⟩)
 have h4:=tz2 r4;(iterate 2 refine qy ?_ (hg:=(gff r4)));refine qcx lg (li n) ?_ (hg:=(gff r4));refine qy ?_ (hg:=(gff r4));refine w_2 ?_;refine ak _ rfl (fun r5=>?_) (fun r5=>?_)
 · have h5:=tz2 (cu (au r4 r5));refine v_4 ?_;exact ⟨cci (aiu bqi bqi (by first | exact .inl bqi | exact .inr (fun e=>absurd (show asI (orL ps) = asI (a7 n) by rw [e]) bqj))).symm,trivial⟩
 have h5:=tz1 (ct (au r4 r5));refine w_6 ?_;refine ⟨.inr rfl, ?_⟩
 exact ⟨_,_,_,_,rfl,bqr,rfl,bqr,⟨cci (b4d bqi bqi (fun e=>by
  rcases e with e | e
  · omega
  exact e (c6.1 bqj))).symm,trivial⟩⟩
def baz (n:Int) (ps:List AS) (p m:List Fd):a6 br6 68 [pI n,pP (asl ps),pP (fdl p),pP (fdl m)] (a8 [pP (stl (rcR n ps p m).1),pP (psl 2 tbC (rcR n ps p m).2.1),pI (rcR n ps p m).2.2]):=by
 refine hpx (nt:=77) Tryz.func68 ?_;refine cq ?_;refine qcx (wgx Tryz.func62) (b3i n ps) ?_;refine w_7 ?_;refine hcn (fun h0=>?_) (fun h0=>?_)
 · refine w_7 ?_;refine hrr ?_;have he:=atd (n:=n) (ps:=ps) (p:=p) (m:=m) (bhw bqj).1 bqj;exact f9 rfl rfl (by rw [he];exact ⟨CoC.one (CoP.sl rfl (.inr rfl) (fun _=>rfl) (fun i j hi _=>absurd hi (bmf i))),CoC.one (CoP.sl rfl (.inr rfl) (fun _=>rfl) (fun i j hi _=>absurd hi (bmf i))),CoC.refl _,trivial⟩)
 have hv:lvE n ps = 0:=by assumption
 refine w_7 ?_;refine qcx a67 (a0b n p m) ?_;refine w_7 ?_;refine hcn (fun h1=>?_) (fun h1=>?_)
 · refine w_7 ?_;refine hrr ?_;have he:=atd (n:=n) (ps:=ps) (p:=p) (m:=m) (bi9 hv bqj).1 bqj;exact f9 rfl rfl (by rw [he];exact ⟨CoC.one (CoP.sl rfl (.inr rfl) (fun _=>rfl) (fun i j hi _=>absurd hi (bmf i))),CoC.one (CoP.sl rfl (.inr rfl) (fun _=>rfl) (fun i j hi _=>absurd hi (bmf i))),CoC.refl _,trivial⟩)
 have hb:bt n p m = 0:=by assumption
 refine w_5 ?_;refine qcx (wgx Tryz.func130) (b2d n ps hv) ?_;refine w_3 ?_;refine m9 0 ?_;refine ow ?_;refine qcx (wgx Tryz.func132) (b1k n ps p m) ?_;refine w_4 ?_;refine m9 1 ?_;refine c5 ?_;refine hcn (fun h2=>?_) (fun h2=>?_)
 · refine w_7 ?_;refine hrr ?_;have he:=atd (n:=n) (ps:=ps) (p:=p) (m:=m) (ad8 hv hb) bqj;exact f9 rfl rfl (by rw [he];exact ⟨CoC.one (CoP.sl rfl (.inr rfl) (fun _=>rfl) (fun i j hi _=>absurd hi (bmf i))),CoC.one (CoP.sl rfl (.inr rfl) (fun _=>rfl) (fun i j hi _=>absurd hi (bmf i))),CoC.refl _,trivial⟩)
 have hc:(lsT n ps p m).2.2 = 0:=by assumption
 have htr:=ax1 hv hb hc;have hfew:(lsT n ps p m).1.length <= 1300000:=agj (p:=p) (m:=m) hv hb;have hls:lsC n ps p m = 0:=(ad8 hv hb).trans hc;refine w_4 ?_;refine m9 2 ?_;refine w_8 ?_;refine b5 (ka 2 (ka 3 (ka 13 (ka 15 kn)))) km (fun i=>⟨[(17,some (.v (.one (.ref 2 ((jd n p m (av (bo n ps)) (lsT n ps p m).1).take (i + 1)).length)))),(18,some (vI i))],[(0,some (.box [.p (.raw (.int .i64 n)), .p (rl ((trL n p m (av (bo n ps)) (lsT n ps p m).1).getD i default))])),(2,some (.arr true 2 111 ((jd n p m (av (bo n ps)) (lsT n ps p m).1).take (i + 1)).length (lf tbC ((jd n p m (av (bo n ps)) (lsT n ps p m).1).take (i + 1)))))]⟩) ((lsT n ps p m).1.length) ⟨⟨⟨_,rfl,(j5 (by rw [alt];rfl))⟩,tt⟩,⟨⟨_,rfl,(by rw [ar8];exact CoO.refl _)⟩,⟨_,rfl,(b6c alt rfl (CoP.refl _) (CoP.refl _))⟩,trivial⟩⟩ ?_;rintro i hi;have hlen:((jd n p m (av (bo n ps)) (lsT n ps p m).1).take (i + 1)).length <= i + 1:=by rw [bmk];omega
 refine w_8 ?_;refine hcd (fun h3=>?_) (fun h3=>?_)
 · obtain ⟨hx1,hx2,hx3⟩:=b3z bqi (asu htr (i:=i) bqi);refine dy ?_;refine qcx (wgx Tryz.func131) (ava n ((trL n p m (av (bo n ps)) (lsT n ps p m).1).getD i default) p m ((lsT n ps p m).1.getD i default) hx1 hb hx2 hx3) ?_;refine w_9 ?_;refine m9 3 ?_;refine r9 4 true ?_;refine w_7 ?_;exact lpx (i + 1) ⟨⟨⟨_,rfl,(bg (ahk bqi))⟩,tt⟩,⟨⟨_,rfl,(by rw [a98 bqi];exact CoO.refl _)⟩,⟨_,rfl,(jh (ahk bqi) (CoP.refl _) (CoP.refl _))⟩,trivial⟩⟩
 obtain rfl:i = (lsT n ps p m).1.length:=by omega
 refine w_2 ?_;refine al 17 rfl rfl rfl ?_;refine w_7 ?_;refine hrr ?_;have he:=a9d hls;exact f9 rfl rfl (by rw [he];exact ⟨CoC.refl _,(by rw [List.take_of_length_le (by rw [zr];omega)];exact CoC.refl _),CoC.refl _,trivial⟩)
def aq4 (n:Int) (ps:List AS) (p m:List Fd):a6 br6 28 [pI n,pP (asl ps),pP (fdl p),pP (fdl m)] (a8 [pP (stl (prS n ps p m)),pI (prC n ps p m)]):=by
 refine hpx (nt:=42) Tryz.func28 ?_;refine cq ?_;refine qcx (wgx Tryz.func68) (baz n ps p m) ?_;refine p9 ?_;refine hcn (fun h0=>?_) (fun h0=>?_)
 ·
  refine w_6 ?_;refine hrr ?_;have hn:¬ (rcR n ps p m).2.2 = 0:=by assumption
  have e1:prS n ps p m = []:=if_neg hn;have e2:prC n ps p m = (rcR n ps p m).2.2:=if_neg hn;exact f9 rfl rfl (by rw [e1,e2];exact ⟨CoC.one (CoP.sl rfl (.inr rfl) (fun _=>rfl) (fun i j hi _=>absurd hi (bmf i))),CoC.refl _,trivial⟩)
 have hc:(rcR n ps p m).2.2 = 0:=by assumption
 obtain ⟨hz0,hz1,hfew0⟩:=bju hc;have hfew:(rcR n ps p m).1.length <= 1300000:=hfew0;have hln:=bex hc;refine w_7 ?_;refine ae (ι:=Nat) (ka 0 (ka 10 (ka 11 kn))) km (fun i=>⟨[(13,some (vI i))],[]⟩) (fun i=>i <= (rcR n ps p m).2.1.length /\ (∀ j,j < i -> np n ((rcR n ps p m).2.1.getD j default).2 = false)) (fun i=>(rcR n ps p m).2.1.length - i) (0) (⟨bmh _,fun j hj=>absurd hj (bmf j)⟩) kk ?_;rintro i ⟨hi,hI⟩;refine w_8 ?_;refine hcd (fun h1=>?_) (fun h1=>?_)
 ·
  refine c5 ?_;refine qcx (wgx Tryz.func70) (bfb n hz1) ?_;refine qcx ajn (alx ((rcR n ps p m).2.1.getD i default).1 ((rcR n ps p m).2.1.getD i default).2 (dj n)) ?_;refine w_2 ?_;refine hcb (fun h2=>?_) (fun h2=>?_)
  ·
   have hx:prX n ps p m = (i:Int):=rg (p:=(fun a:Int × List Rw=>np n a.2)) (i:=i) bqi hI bqj;refine w_8 ?_;refine hrr ?_
   have e1:prS n ps p m = (rcR n ps p m).1.take i:=by
    unfold prS;rw [if_pos hc,if_neg bqi,hx];rfl
   have e2:prC n ps p m = 0:=by
    unfold prC;rw [if_pos hc,if_neg bqi]
   exact f9 rfl rfl (by rw [e1,e2];exact ⟨CoC.one (ao8 (by rw [bmk];dsimp only [d9,ax];omega) (fun a j=>by first | rfl | (simp;rfl))),CoC.refl _,trivial⟩)
  refine w_6 ?_;refine lpz (i + 1) kk ?_;refine ⟨by omega,fun j hj=>?_⟩;by_cases e:j = i
  · rw [e];assumption
  exact hI j bqi
 have hx:prX n ps p m < 0:=by
  have:prX n ps p m = -1:=sx (p:=(fun a:Int × List Rw=>np n a.2)) fun j hj=>hI j bqi;omega
 refine w_6 ?_;refine hrr ?_
 have e1:prS n ps p m = []:=by
  unfold prS;rw [if_pos hc,if_pos hx]
 have e2:prC n ps p m = 11:=by
  unfold prC;rw [if_pos hc,if_pos hx]
 exact f9 rfl rfl (by rw [e1,e2];exact ⟨CoC.one (CoP.sl rfl (.inr rfl) (fun _=>rfl) (fun i j hi _=>absurd hi (bmf i))),CoC.refl _,trivial⟩)
def bjo (n:Int) (ps:List AS) (p m:List Fd):a6 br6 47 [pI n,pP (asl ps),pP (fdl p),pP (fdl m)] (a8 [pB (lsB n ps p m),pI (lsC n ps p m)]):=by
 refine hpx (nt:=25) Tryz.func47 ?_;refine cq ?_;refine qcx (wgx Tryz.func28) (aq4 n ps p m) ?_;refine dy ?_;refine hcd (fun h0=>?_) (fun h0=>?_)
 · refine w_5 ?_;refine hrr ?_;obtain ⟨e1,e2⟩:=bii (n:=n) (ps:=ps) (p:=p) (m:=m) bqj;exact f9 rfl rfl (⟨ccb e1.symm,cci e2.symm,trivial⟩)
 refine w_9 ?_;refine hrr ?_;obtain ⟨e1,e2⟩:=bh7 (n:=n) (ps:=ps) (p:=p) (m:=m) bqj;exact f9 rfl rfl (⟨ccb e1,cci e2,trivial⟩)
end
section
inductive Lf (l:List Fd):AS -> AS -> Prop
 | leaf {s:AS}:ec l s = false -> Lf l s s
 | left {s q:AS}:ec l s = true -> Lf l (spA l s) q -> Lf l s q
 | right {s q:AS}:ec l s = true -> Lf l (spB l s) q -> Lf l s q
def bg7 (l:List Fd):Nat -> AS -> List AS
 | 0,s=>[s]
 | k + 1,s=>if ec l s = true then bg7 l k (spA l s) ++ bg7 l k (spB l s) else [s]
end
section
open Go.Proofs
def b0o (l:List AS):a6 br6 40 [pP (asl l),pP (asl l)] (a8 [pB true]):=by
 have:=bfx l l;rw [decide_eq_true rfl] at this;exact this
def u8A (b:BitVec 8):AS:=b.setWidth 32
abbrev u8C:BitVec 8 -> Nat -> PV:=fun b _=>.raw (.int .u8 (b.toNat:Int))
end
section
structure Rcp where
 n:BitVec 8
 f:List Dp
 m:List Dp
 p:List (BitVec 8)
deriving Inhabited
def Rcp.num (d:Rcp) (k:Nat):Int:=1 + ((d.n.toNat % k:Nat):Int)
abbrev Rcp.pc (d:Rcp):PC:=.agg [.raw (.int .u8 (d.n.toNat:Int)),dpl d.f,dpl d.m,psl 1 u8C d.p]
def u8S (n:Int) (b:BitVec 8):AS:=b.setWidth 32 &&& a7 n
def ata {a b c:Nat}:(bif bif decide ((a:Int) <= 4) then decide ((b:Int) <= 4) else false then decide ((c:Int) <= 3) else false) = decide (a <= 4 /\ b <= 4 /\ c <= 3):=by
 rw [bo8,decide_eq_true_iff];by_cases h1:(a:Int) <= 4
 · by_cases h2:(b:Int) <= 4
   · rw [decide_eq_true h1,decide_eq_true h2,cond_true,cond_true,decide_eq_true_iff];omega
   rw [decide_eq_true h1,decide_eq_false h2,cond_true,cond_false];exact ⟨(fun h=>by cases h),(fun h=>by omega)⟩
 rw [decide_eq_false h1,cond_false,cond_false];exact ⟨(fun h=>by cases h),(fun h=>by omega)⟩
end
section
open Go.Proofs
def bkt (d:Rcp) (hf:d.f.length <= 16777216) (hm:d.m.length <= 16777216) (hp:d.p.length <= 16777216):a6 br6 29 [d.pc,pI 4] (a8 [pI (d.num 4),pP (fdl (d.f.map (Dp.fd (d.num 4)))),pP (fdl (d.m.map (Dp.fd (d.num 4)))),pP (asl (d.p.map (u8S (d.num 4)))),pB (decide (d.f.length <= 4 /\ d.m.length <= 4 /\ d.p.length <= 3))]):=by
 refine hpx (nt:=118) Tryz.func29 ?_;refine sx7 ?_;refine m9 0 ?_;refine a2a ?_;refine qcx lg (li (d.num 4)) ?_;refine dy ?_;refine bw 11 900 true 2 48 (lf Fd.c []) bqo rfl (CoP.sl rfl (.inr rfl) (fun h=>h) (fun i j hi _=>absurd hi (bmf i))) (.inr rfl) rfl ?_;refine b5 (ka 2 (ka 9 (ka 10 kn))) (kb 0 km) (fun i=>⟨[(11,some (.v (.one (.ref 900 ((d.f.take i).map (Dp.fd (d.num 4))).length)))),(12,some (vI i))],[(900,some (.arr true 2 48 ((d.f.take i).map (Dp.fd (d.num 4))).length (lf Fd.c ((d.f.take i).map (Dp.fd (d.num 4))))))]⟩) d.f.length kk ?_;rintro i hi;have hlen:((d.f.take i).map (Dp.fd (d.num 4))).length <= i:=by rw [bms,bmk];omega
 refine w_9 ?_;refine hcd (fun h0=>?_) (fun h0=>?_)
 · refine bdg ?_;refine m9 1 ?_;refine r9 2 true ?_;refine w_8 ?_;exact lpx (i + 1) ⟨⟨⟨_,rfl,(bg (lv bqi))⟩,tt⟩,⟨⟨_,rfl,(jh (lv bqi) (CoP.of_eq (congrArg (fun z=>PV.raw (.int .u32 z)) (a64 _ _))) (CoP.of_eq (congrArg (fun z=>PV.raw (.int .u32 z)) (a64 _ _))))⟩,uu⟩⟩
 obtain rfl:i = d.f.length:=by omega
 refine w_2 ?_;refine al 11 rfl rfl rfl ?_;refine w_9 ?_;refine bw 13 901 true 2 49 (lf Fd.c []) bqo rfl (CoP.sl rfl (.inr rfl) (fun h=>h) (fun i j hi _=>absurd hi (bmf i))) (.inr rfl) rfl ?_;refine b5 (ka 2 (ka 9 (ka 10 (ka 11 kn)))) (kb 0 km) (fun i=>⟨[(13,some (.v (.one (.ref 901 ((d.m.take i).map (Dp.fd (d.num 4))).length)))),(14,some (vI i))],[(901,some (.arr true 2 49 ((d.m.take i).map (Dp.fd (d.num 4))).length (lf Fd.c ((d.m.take i).map (Dp.fd (d.num 4))))))]⟩) d.m.length kk ?_;rintro i hi;have hlen:((d.m.take i).map (Dp.fd (d.num 4))).length <= i:=by rw [bms,bmk];omega
 refine w_9 ?_;refine hcd (fun h1=>?_) (fun h1=>?_)
 · refine bdg ?_;refine m9 3 ?_;refine r9 4 true ?_;refine w_8 ?_;exact lpx (i + 1) ⟨⟨⟨_,rfl,(bg (lv bqi))⟩,tt⟩,⟨⟨_,rfl,(jh (lv bqi) (CoP.of_eq (congrArg (fun z=>PV.raw (.int .u32 z)) (a64 _ _))) (CoP.of_eq (congrArg (fun z=>PV.raw (.int .u32 z)) (a64 _ _))))⟩,uu⟩⟩
 obtain rfl:i = d.m.length:=by omega
 refine w_2 ?_;refine al 13 rfl rfl rfl ?_;refine w_9 ?_;refine bw 15 902 true 1 46 (lf sC []) bqo rfl (CoP.sl rfl (.inr rfl) (fun h=>h) (fun i j hi _=>absurd hi (bmf i))) (.inr rfl) rfl ?_;refine b5 (ka 2 (ka 9 (ka 10 (ka 11 (ka 13 kn))))) (kb 0 km) (fun i=>⟨[(15,some (.v (.one (.ref 902 ((d.p.take i).map (u8S (d.num 4))).length)))),(16,some (vI i))],[(902,some (.arr true 1 46 ((d.p.take i).map (u8S (d.num 4))).length (lf sC ((d.p.take i).map (u8S (d.num 4))))))]⟩) d.p.length kk ?_;rintro i hi;have hlen:((d.p.take i).map (u8S (d.num 4))).length <= i:=by rw [bms,bmk];omega
 refine w_9 ?_;refine hcd (fun h2=>?_) (fun h2=>?_)
 · refine ja ?_;refine m9 5 ?_;refine r9 6 true ?_;refine w_7 ?_;exact lpx (i + 1) ⟨⟨⟨_,rfl,(bg (lv bqi))⟩,tt⟩,⟨⟨_,rfl,(bh (lv bqi) (CoP.of_eq (congrArg (fun z=>PV.raw (.int .u32 z)) (a64 _ _))))⟩,uu⟩⟩
 obtain rfl:i = d.p.length:=by omega
 refine w_2 ?_;refine al 15 rfl rfl rfl ?_;refine w_9 ?_;refine ah rfl rfl (fun r3=>?_) (fun r3=>?_)
 ·
  have h3:=tz1 r3;(iterate 3 refine qy ?_ (hg:=(gtt r3)));refine w_2 ?_;refine ah rfl rfl (fun r4=>?_) (fun r4=>?_)
  ·
   have h4:=tz1 (br r3 r4);(iterate 3 refine qy ?_ (hg:=(gtt r4)));refine w_7 ?_
   exact hx8 rfl rfl rfl (⟨CoC.refl _,(by rw [bmi];exact CoC.refl _),(by rw [bmi];exact CoC.refl _),(by rw [bmi];exact CoC.refl _),ccb (by first | (simp only [bms,bmi];exact ata) | exact (decide_eq_false bqi).symm),trivial⟩)
  have h4:=tz2 (br r3 r4);(iterate 3 refine k9 (gft r4) ?_);refine rq rfl rfl rfl rfl rfl ?_ (hp:=r4);refine w_6 ?_
  exact hx8 rfl rfl rfl (⟨CoC.refl _,(by rw [bmi];exact CoC.refl _),(by rw [bmi];exact CoC.refl _),(by rw [bmi];exact CoC.refl _),ccb (by first | (simp only [bms,bmi];exact ata) | exact (decide_eq_false bqi).symm),trivial⟩)
 have h3:=tz2 r3;(iterate 3 refine k9 (gft r3) ?_);refine rq rfl rfl rfl rfl rfl ?_ (hp:=r3);refine qy ?_;(iterate 3 refine k9 rfl ?_);refine w_7 ?_
 exact hx8 rfl rfl rfl (⟨CoC.refl _,(by rw [bmi];exact CoC.refl _),(by rw [bmi];exact CoC.refl _),(by rw [bmi];exact CoC.refl _),ccb (by first | (simp only [bms,bmi];exact ata) | exact (decide_eq_false bqi).symm),trivial⟩)
end
section
section
variable {a b:Int}
def amc {n:Int} {l:List Rw} {p m:List Fd} {mu:Bool} {i:Int} (h:¬ ckE n l p m = 0):ey n l p m mu i a b = (0,[],ckE n l p m):=if_neg h
def mn {n:Int} {l:List Rw} {p m:List Fd} {mu:Bool} {i:Int} (h:ckE n l p m = 0) (h3:io l p m mu i a b):ey n l p m mu i a b = (0,[],1):=(if_pos h).trans (if_pos h3)
def aav {n:Int} {l:List Rw} {p m:List Fd} {mu:Bool} {i:Int} (h:ckE n l p m = 0) (h3:¬ io l p m mu i a b):ey n l p m mu i a b = dx n l p m (mu,i.toNat,a.toNat,b.toNat):=(if_pos h).trans (if_neg h3)
def oq (h:(if b < a then b else a) < 0):a < 0 \/ b < 0:=by split at h <;> omega
def ot {k:Int} (h:k <= (if a < b then b else a)):k <= a \/ k <= b:=by split at h <;> omega
def avk (h:¬ (if b < a then b else a) < 0):0 <= a /\ 0 <= b:=by split at h <;> omega
def aym {k:Int} (h:¬ k <= (if a < b then b else a)):a < k /\ b < k:=by split at h <;> omega
def stQ (x y:St):Bool:=(x.1 == y.1) && (decide ((x.2.1:Int) = (y.2.1:Int)) && (decide ((x.2.2.1:Int) = (y.2.2.1:Int)) && decide ((x.2.2.2:Int) = (y.2.2.2:Int))))
end
end
section
open Go.Proofs
def b1j (n:Int) (l:List Rw) (p m:List Fd) (i a b:Int):a6 br6 129 [pT n l,pP (fdl p),pP (fdl m), .agg [.raw (.bool true), .raw (.int .i64 i), .raw (.int .i64 a), .raw (.int .i64 b)]] (a8 [pT (ey n l p m true i a b).1 (ey n l p m true i a b).2.1,pI (ey n l p m true i a b).2.2]):=by
 refine hpx (nt:=69) Tryz.func129 ?_;refine sx7 ?_;refine m9 0 ?_;refine m9 1 ?_;refine m9 2 ?_;refine w_8 ?_;refine qcx afv (ab6 n l p m) ?_;refine w_7 ?_;refine hcn (fun h0=>?_) (fun h0=>?_)
 · refine w_7 ?_;refine hrr ?_;have he:=amc (n:=n) (l:=l) (p:=p) (m:=m) (mu:=true) (i:=i) (a:=a) (b:=b) bqj;exact f9 rfl rfl (by rw [he];exact ⟨CoC.agg ⟨CoP.refl _,bf,trivial⟩,CoC.refl _,trivial⟩)
 have hck:ckE n l p m = 0:=by assumption
 obtain ⟨hT,hbe,hpa⟩:=adk hck;refine be2 ?_;refine ah rfl rfl (fun r1=>?_) (fun r1=>?_)
 ·
  have h1:=tz1 r1;(iterate 4 refine k9 (gtf r1) ?_);refine rq rfl rfl rfl rfl rfl ?_ (hp:=r1);refine qy ?_;(iterate 5 refine k9 rfl ?_);refine w_2 ?_;(iterate 6 refine k9 rfl ?_);refine w_2 ?_;(iterate 9 refine k9 rfl ?_);refine w_9 ?_
  refine hrr ?_
  have hbad:io l p m true i a b:=by
   first
    | exact bdS
    | (refine (oq (a:=a) (b:=b) ?_).elim (fun hq=>?_) (fun hq=>?_) <;> first | assumption | exact bdS)
    | (refine (ot (a:=a) (b:=b) (k:=(l.length:Int)) ?_).elim (fun hq=>?_) (fun hq=>?_) <;> first | assumption | exact bdS)
  have he:=mn hck hbad;exact f9 rfl rfl (by rw [he];exact ⟨CoC.agg ⟨CoP.refl _,bf,trivial⟩,CoC.refl _,trivial⟩)
 have h1:=tz2 r1;(iterate 4 refine qy ?_ (hg:=(gff r1)));refine w_2 ?_;refine ah rfl rfl (fun r2=>?_) (fun r2=>?_)
 ·
  have h2:=tz1 (au r1 r2);(iterate 5 refine k9 (gtf r2) ?_);refine rq rfl rfl rfl rfl rfl ?_ (hp:=r2);refine qy ?_;(iterate 6 refine k9 rfl ?_);refine w_2 ?_;(iterate 9 refine k9 rfl ?_);refine w_9 ?_;refine hrr ?_
  have hbad:io l p m true i a b:=by
   first
    | exact bdS
    | (refine (oq (a:=a) (b:=b) ?_).elim (fun hq=>?_) (fun hq=>?_) <;> first | assumption | exact bdS)
    | (refine (ot (a:=a) (b:=b) (k:=(l.length:Int)) ?_).elim (fun hq=>?_) (fun hq=>?_) <;> first | assumption | exact bdS)
  have he:=mn hck hbad;exact f9 rfl rfl (by rw [he];exact ⟨CoC.agg ⟨CoP.refl _,bf,trivial⟩,CoC.refl _,trivial⟩)
 have h2:=tz2 (au r1 r2);(iterate 5 refine qy ?_ (hg:=(gff r2)));refine w_2 ?_;refine ah rfl rfl (fun r3=>?_) (fun r3=>?_)
 ·
  have h3:=tz1 (au r2 r3);(iterate 6 refine k9 (gtf r3) ?_);refine rq rfl rfl rfl rfl rfl ?_ (hp:=r3);refine qy ?_;(iterate 9 refine k9 rfl ?_);refine w_9 ?_;refine hrr ?_
  have hbad:io l p m true i a b:=by
   first
    | exact bdS
    | (refine (oq (a:=a) (b:=b) ?_).elim (fun hq=>?_) (fun hq=>?_) <;> first | assumption | exact bdS)
    | (refine (ot (a:=a) (b:=b) (k:=(l.length:Int)) ?_).elim (fun hq=>?_) (fun hq=>?_) <;> first | assumption | exact bdS)
  have he:=mn hck hbad;exact f9 rfl rfl (by rw [he];exact ⟨CoC.agg ⟨CoP.refl _,bf,trivial⟩,CoC.refl _,trivial⟩)
 have h3:=tz2 (au r2 r3);(iterate 6 refine qy ?_ (hg:=(gff r3)));refine w_2 ?_;refine ah rfl rfl (fun r4=>?_) (fun r4=>?_)
 ·
  have h4:=tz1 (au r3 r4);(iterate 9 refine k9 (gtf r4) ?_);refine rq rfl rfl rfl rfl rfl ?_ (hp:=r4);refine w_8 ?_;refine hrr ?_
  have hbad:io l p m true i a b:=by
   first
    | exact bdS
    | (refine (oq (a:=a) (b:=b) ?_).elim (fun hq=>?_) (fun hq=>?_) <;> first | assumption | exact bdS)
    | (refine (ot (a:=a) (b:=b) (k:=(l.length:Int)) ?_).elim (fun hq=>?_) (fun hq=>?_) <;> first | assumption | exact bdS)
  have he:=mn hck hbad;exact f9 rfl rfl (by rw [he];exact ⟨CoC.agg ⟨CoP.refl _,bf,trivial⟩,CoC.refl _,trivial⟩)
 have h4:=tz2 (au r3 r4);(iterate 9 refine qy ?_ (hg:=(gff r4)));refine w_2 ?_;refine ak _ rfl (fun r5=>?_) (fun r5=>?_)
 ·
  have h5:=tz1 (au r4 r5);refine w_6 ?_;refine hrr ?_
  have hbad:io l p m true i a b:=by
   first
    | exact bdS
    | (refine (oq (a:=a) (b:=b) ?_).elim (fun hq=>?_) (fun hq=>?_) <;> first | assumption | exact bdS)
    | (refine (ot (a:=a) (b:=b) (k:=(l.length:Int)) ?_).elim (fun hq=>?_) (fun hq=>?_) <;> first | assumption | exact bdS)
  have he:=mn hck hbad;exact f9 rfl rfl (by rw [he];exact ⟨CoC.agg ⟨CoP.refl _,bf,trivial⟩,CoC.refl _,trivial⟩)
 have h5:=tz2 (au r4 r5);refine w_2 ?_;obtain ⟨ha0,hb0⟩:=avk (a:=a) (b:=b) bqj;obtain ⟨hal,hbl⟩:=aym (a:=a) (b:=b) (k:=(l.length:Int)) bqj
 have hnb:¬ io l p m true i a b:=by
  unfold io;rintro (h | h | h | h | h | h | ⟨h,h2⟩ | ⟨h,h2⟩) <;> first | omega | cases h
 have ha:a.toNat < l.length:=by omega
 have hb:b.toNat < l.length:=by omega
 have hi:i.toNat < m.length:=by omega
 refine w_5 ?_;refine rc rfl rfl rfl rfl rfl rfl agl (aq5 n l p m i.toNat a.toNat b.toNat hT ha hb hi) (⟨CoC.refl _,CoC.refl _,CoC.refl _,CoC.agg ⟨CoP.refl _,CoP.of_eq (by rw [bpk bqi]),CoP.of_eq (by rw [bpk bqi]),CoP.of_eq (by rw [bpk bqi]),trivial⟩,trivial⟩) rfl rfl ?_;refine w_5 ?_;refine hrr ?_;have he:=aav (n:=n) (i:=i) (a:=a) (b:=b) hck hnb;exact f9 rfl rfl (by rw [he];exact CoL.refl _)
def b0z (n:Int) (l:List Rw) (p m:List Fd) (i a b:Int):a6 br6 129 [pT n l,pP (fdl p),pP (fdl m), .agg [.raw (.bool false), .raw (.int .i64 i), .raw (.int .i64 a), .raw (.int .i64 b)]] (a8 [pT (ey n l p m false i a b).1 (ey n l p m false i a b).2.1,pI (ey n l p m false i a b).2.2]):=by
 refine hpx (nt:=69) Tryz.func129 ?_;refine sx7 ?_;refine m9 0 ?_;refine m9 1 ?_;refine m9 2 ?_;refine w_8 ?_;refine qcx afv (ab6 n l p m) ?_;refine w_7 ?_;refine hcn (fun h0=>?_) (fun h0=>?_)
 · refine w_7 ?_;refine hrr ?_;have he:=amc (n:=n) (l:=l) (p:=p) (m:=m) (mu:=false) (i:=i) (a:=a) (b:=b) bqj;exact f9 rfl rfl (by rw [he];exact ⟨CoC.agg ⟨CoP.refl _,bf,trivial⟩,CoC.refl _,trivial⟩)
 have hck:ckE n l p m = 0:=by assumption
 obtain ⟨hT,hbe,hpa⟩:=adk hck;refine ak9 ?_;refine ah rfl rfl (fun r1=>?_) (fun r1=>?_)
 ·
  have h1:=tz1 r1;(iterate 4 refine k9 (gtf r1) ?_);refine rq rfl rfl rfl rfl rfl ?_ (hp:=r1);refine qy ?_;(iterate 5 refine k9 rfl ?_);refine w_2 ?_;(iterate 6 refine k9 rfl ?_);refine w_2 ?_;(iterate 9 refine k9 rfl ?_);refine w_9 ?_
  refine hrr ?_
  have hbad:io l p m false i a b:=by
   first
    | exact bdS
    | (refine (oq (a:=a) (b:=b) ?_).elim (fun hq=>?_) (fun hq=>?_) <;> first | assumption | exact bdS)
    | (refine (ot (a:=a) (b:=b) (k:=(l.length:Int)) ?_).elim (fun hq=>?_) (fun hq=>?_) <;> first | assumption | exact bdS)
  have he:=mn hck hbad;exact f9 rfl rfl (by rw [he];exact ⟨CoC.agg ⟨CoP.refl _,bf,trivial⟩,CoC.refl _,trivial⟩)
 have h1:=tz2 r1;(iterate 4 refine qy ?_ (hg:=(gff r1)));refine w_2 ?_;refine ah rfl rfl (fun r2=>?_) (fun r2=>?_)
 ·
  have h2:=tz1 (au r1 r2);(iterate 5 refine k9 (gtf r2) ?_);refine rq rfl rfl rfl rfl rfl ?_ (hp:=r2);refine qy ?_;(iterate 6 refine k9 rfl ?_);refine w_2 ?_;(iterate 9 refine k9 rfl ?_);refine w_9 ?_;refine hrr ?_
  have hbad:io l p m false i a b:=by
   first
    | exact bdS
    | (refine (oq (a:=a) (b:=b) ?_).elim (fun hq=>?_) (fun hq=>?_) <;> first | assumption | exact bdS)
    | (refine (ot (a:=a) (b:=b) (k:=(l.length:Int)) ?_).elim (fun hq=>?_) (fun hq=>?_) <;> first | assumption | exact bdS)
  have he:=mn hck hbad;exact f9 rfl rfl (by rw [he];exact ⟨CoC.agg ⟨CoP.refl _,bf,trivial⟩,CoC.refl _,trivial⟩)
 have h2:=tz2 (au r1 r2);(iterate 5 refine qy ?_ (hg:=(gff r2)));refine w_2 ?_;refine ah rfl rfl (fun r3=>?_) (fun r3=>?_)
 ·
  have h3:=tz1 (au r2 r3);(iterate 6 refine k9 (gtf r3) ?_);refine rq rfl rfl rfl rfl rfl ?_ (hp:=r3);refine qy ?_;(iterate 9 refine k9 rfl ?_);refine w_9 ?_;refine hrr ?_
  have hbad:io l p m false i a b:=by
   first
    | exact bdS
    | (refine (oq (a:=a) (b:=b) ?_).elim (fun hq=>?_) (fun hq=>?_) <;> first | assumption | exact bdS)
    | (refine (ot (a:=a) (b:=b) (k:=(l.length:Int)) ?_).elim (fun hq=>?_) (fun hq=>?_) <;> first | assumption | exact bdS)
  have he:=mn hck hbad;exact f9 rfl rfl (by rw [he];exact ⟨CoC.agg ⟨CoP.refl _,bf,trivial⟩,CoC.refl _,trivial⟩)
 have h3:=tz2 (au r2 r3);(iterate 6 refine qy ?_ (hg:=(gff r3)));refine w_2 ?_;refine ah rfl rfl (fun r4=>?_) (fun r4=>?_)
 ·
  have h4:=tz1 (au r3 r4);(iterate 9 refine k9 (gtf r4) ?_);refine rq rfl rfl rfl rfl rfl ?_ (hp:=r4);refine w_8 ?_;refine hrr ?_
  have hbad:io l p m false i a b:=by
   first
    | exact bdS
    | (refine (oq (a:=a) (b:=b) ?_).elim (fun hq=>?_) (fun hq=>?_) <;> first | assumption | exact bdS)
    | (refine (ot (a:=a) (b:=b) (k:=(l.length:Int)) ?_).elim (fun hq=>?_) (fun hq=>?_) <;> first | assumption | exact bdS)
  have he:=mn hck hbad;exact f9 rfl rfl (by rw [he];exact ⟨CoC.agg ⟨CoP.refl _,bf,trivial⟩,CoC.refl _,trivial⟩)
 have h4:=tz2 (au r3 r4);(iterate 9 refine qy ?_ (hg:=(gff r4)));refine w_2 ?_;refine ak _ rfl (fun r5=>?_) (fun r5=>?_)
 ·
  have h5:=tz1 (au r4 r5);refine w_6 ?_;refine hrr ?_
  have hbad:io l p m false i a b:=by
   first
    | exact bdS
    | (refine (oq (a:=a) (b:=b) ?_).elim (fun hq=>?_) (fun hq=>?_) <;> first | assumption | exact bdS)
    | (refine (ot (a:=a) (b:=b) (k:=(l.length:Int)) ?_).elim (fun hq=>?_) (fun hq=>?_) <;> first | assumption | exact bdS)
  have he:=mn hck hbad;exact f9 rfl rfl (by rw [he];exact ⟨CoC.agg ⟨CoP.refl _,bf,trivial⟩,CoC.refl _,trivial⟩)
 have h5:=tz2 (au r4 r5);refine w_2 ?_;obtain ⟨ha0,hb0⟩:=avk (a:=a) (b:=b) bqj;obtain ⟨hal,hbl⟩:=aym (a:=a) (b:=b) (k:=(l.length:Int)) bqj
 have hnb:¬ io l p m false i a b:=by
  unfold io;rintro (h | h | h | h | h | h | ⟨h,h2⟩ | ⟨h,h2⟩) <;> first | omega | cases h
 have ha:a.toNat < l.length:=by omega
 have hb:b.toNat < l.length:=by omega
 have hi:i.toNat < p.length:=by omega
 refine w_5 ?_;refine rc rfl rfl rfl rfl rfl rfl agl (aq7 n l p m i.toNat a.toNat b.toNat hT ha hb hi (bnh.1 hpa _ (dl hi))) (⟨CoC.refl _,CoC.refl _,CoC.refl _,CoC.agg ⟨CoP.refl _,CoP.of_eq (by rw [bpk bqi]),CoP.of_eq (by rw [bpk bqi]),CoP.of_eq (by rw [bpk bqi]),trivial⟩,trivial⟩) rfl rfl ?_;refine w_5 ?_;refine hrr ?_;have he:=aav (n:=n) (i:=i) (a:=a) (b:=b) hck hnb;exact f9 rfl rfl (by rw [he];exact CoL.refl _)
end
section
open Go.Proofs
abbrev Rcp.fs (d:Rcp) (k:Nat):List Fd:=d.f.map (Dp.fd (d.num k))
abbrev Rcp.ms (d:Rcp) (k:Nat):List Fd:=d.m.map (Dp.fd (d.num k))
abbrev Rcp.ps (d:Rcp) (k:Nat):List AS:=d.p.map (u8S (d.num k))
abbrev Rcp.t0 (d:Rcp) (k:Nat):List Rw:=av (bo (d.num k) (d.ps k))
section
variable {n:Int} {p m:List Fd} {l0 l:List Rw}
end
def b60 (n:Int) (l:List Rw) (p m:List Fd) (mu:Bool) (i a b:Int):a6 br6 129 [pT n l,pP (fdl p),pP (fdl m), .agg [.raw (.bool mu), .raw (.int .i64 i), .raw (.int .i64 a), .raw (.int .i64 b)]] (a8 [pT (ey n l p m mu i a b).1 (ey n l p m mu i a b).2.1,pI (ey n l p m mu i a b).2.2]):=by
 cases mu with
 | false=>exact b0z n l p m i a b
 | true=>exact b1j n l p m i a b
def ayo {n:Int} {l:List Rw} {p m:List Fd} {s:St} (hT:tok n l = true) (hb:bt n p m = 0) (h:y9 l p m s):ey n l p m s.1 s.2.1 s.2.2.1 s.2.2.2 = dx n l p m s:=by
 obtain ⟨mu,i,a,b⟩:=s;have hck:ckE n l p m = 0:=(if_pos hT).trans hb;obtain ⟨ha,hbb,h⟩:=h;have ha:a < l.length:=ha;have hbb:b < l.length:=hbb
 have hne:¬ a = b:=by
  rintro rfl
  rcases h with ⟨_,_,h⟩ | ⟨_,_,h⟩
  · rw [show ff l (p.getD i default) a a = false from a5c] at h;cases h
  rw [show fk l (m.getD i default) a a = false from a4z ha] at h;cases h
 show ey n l p m mu (i:Int) (a:Int) (b:Int) = _;rw [aav hck]
 · rfl
 unfold io
 rcases h with ⟨h1,h2,_⟩ | ⟨h1,h2,_⟩
 · have h1:mu = false:=h1
   subst h1;have h2:i < p.length:=h2;rintro (h | h | h | h | h | h | ⟨h,h3⟩ | ⟨h,h3⟩) <;> first | omega | cases h
 have h1:mu = true:=h1;subst h1;have h2:i < m.length:=h2;rintro (h | h | h | h | h | h | ⟨h,h3⟩ | ⟨h,h3⟩) <;> first | omega | cases h
def awh (n:Int) (l:List Rw) (p m:List Fd) (s:St) (hT:tok n l = true) (hb:bt n p m = 0) (h:y9 l p m s) (he:dx n l p m s = (n,(dx n l p m s).2.1,0)):a6 br6 129 [pT n l,pP (fdl p),pP (fdl m),s.pc] (a8 [pT n (dx n l p m s).2.1,pI 0]):=by
 have:=b60 n l p m s.1 s.2.1 s.2.2.1 s.2.2.2;rw [ayo hT hb h,he] at this;exact this
end
section
abbrev Bs:=ByteArray
def bsC:Bs -> Nat -> PV:=fun b _=>.raw (.string b)
abbrev bsl (l:List Bs):PV:=psl 1 bsC l
abbrev pS (b:Bs):PC:=.one (.raw (.string b))
abbrev vS (b:Bs):HR:=bp (.raw (.string b))
def byC:UInt8 -> Nat -> PV:=fun x _=>.raw (.int .u8 (x.toNat:Int))
abbrev byl (b:Bs):PV:=psl 1 byC b.data.toList
abbrev pU8 (x:UInt8):PC:=.one (.raw (.int .u8 (x.toNat:Int)))
def coN {α:Type} [Inhabited α] {s:Nat} {c:α -> Nat -> PV} {f:Nat -> Nat -> PV}:CoP (.sl 0 0 true f) (psl s c []):=CoP.sl rfl (.inr rfl) (fun h=>by cases h) fun i j hi _=>absurd hi (bmf i)
def ank (x:UInt8):Bool:=decide ((x.toNat:Int) <= 32) || decide ((x.toNat:Int) = 127)
def t6 (l:List Bs) (i:Nat):Bool:=decide (l.getD i default = ⟨#[]⟩) || ((l.getD i default).data.toList.any ank || (l.take i).any fun x=>decide (x = l.getD i default))
def n4 (l:List Bs):Int:=if 16 < l.length then 3 else if (List.range l.length).any (t6 l) = true then 1 else 0
section
variable {l:List Bs}
def b0n {i:Nat} (h0:¬ (16:Int) < l.length) (hi:i < l.length) (h:t6 l i = true):n4 l = 1:=by
 unfold n4;rw [if_neg bqi,if_pos (bne.2 ⟨i,bmq.2 hi,h⟩)]
def bke (h0:¬ (16:Int) < l.length) (h:∀ j,j < l.length -> t6 l j = false):n4 l = 0:=by
 unfold n4;rw [if_neg bqi,if_neg];rw [bpy,bo7];intro j hj;rw [h j (bmq.1 hj)];exact bq5
def bkw (h:(16:Int) < l.length):n4 l = 3:=if_pos bqi
def bOf (l:List UInt8):Bs:=⟨l.toArray⟩
abbrev bL (b:Bs):List UInt8:=b.data.toList
def bj0 (b:Bs):bOf (bL b) = b:=by
 cases b;simp [bOf]
def a48 (l:List Bs) (sep:Bs):Bs:=bOf (Lib.join (l.map bL) (bL sep))
def vr (l:List Bs) (s:AS):List Bs:=(aj s).map fun i=>l.getD i default
def txT (l:List Bs) (s:AS):Bs:=if (vr l s).length = 0 then ⟨#[45]⟩ else a48 (vr l s) ⟨#[44]⟩
def szB (l:List Bs):Nat:=(l.map ByteArray.size).sum
def ac5 (b:Bs):(bL b).length = b.size:=rfl
def azp (l:List Bs) (sep:List UInt8):(Lib.join (l.map bL) sep).length <= szB l + sep.length * l.length:=by
 cases l with
 | nil=>simp [Lib.join_nil]
 | cons x r =>
  rw [bnx,Lib.join_cons,bmg,Lib.joinTail_length]
  have:Lib.lens (r.map bL) = szB r:=by
   unfold Lib.lens szB;rw [List.map_map];rfl
  rw [this,bms];have h2:szB (x :: r) = x.size + szB r:=by simp [szB]
  rw [h2,ac5,bn7,Nat.mul_succ];omega
def akp {s:AS} {m:Nat} (h:∀ b ∈ l,b.size <= m):szB (vr l s) <= m * 32:=by
 have key:∀ q:List Nat,szB (q.map fun i=>l.getD i default) <= m * q.length:=by
  intro q
  induction q with
  | nil=>simp [szB]
  | cons i q ih =>
   have h1:(l.getD i default).size <= m:=by
    rw [bmb]
    cases hi:l[i]? with
    | none=>exact bmh _
    | some b=>exact h b (List.mem_of_getElem? hi)
   have h2:szB ((i :: q).map fun i=>l.getD i default) = (l.getD i default).size + szB (q.map fun i=>l.getD i default):=by simp [szB]
   rw [h2,bn7,Nat.mul_succ];omega
 exact bmo (key _) (Nat.mul_le_mul_left _ (o0 s))
def b5u {s:AS} {m:Nat} (h:∀ b ∈ l,b.size <= m):(txT l s).size <= m * 32 + 33:=by
 unfold txT;split
 · show 1 <= _
   omega
 show (bOf _).size <= _;have h1:=azp (vr l s) [44];have h2:=akp (s:=s) h;have h3:(vr l s).length <= 32:=by unfold vr;rw [bms];exact o0 s
 have h4:(bOf (Lib.join ((vr l s).map bL) (bL ⟨#[44]⟩))).size = (Lib.join ((vr l s).map bL) [44]).length:=rfl;rw [h4];simp only [bo1,Nat.one_mul] at h1;omega
end
end
section
open Go.Proofs Go.Proofs.YtkkenjdfbojdlaaGreatDoor
open Go.RowKit Go.ChangeShapes Go.WideShapes Go.ChangeAt
def rd5:Rd br6 5 1 u8C:=(biw Tryz.underlying5).co (fun u=>u.toBitVec) fun a j hj=>CoP.refl _
def bkk:RdB br6 113 2 Dp.c fun _ _=>True:=by
 intro H enc w sp held fuel cs x h;obtain ⟨hl,n,hf⟩:=b10 Tryz.underlying113 h;obtain ⟨y0,e0⟩:=hf 0 bqi;obtain ⟨y1,e1⟩:=hf 1 bqi;have hc:br6.cellsOf 5 = 1:=by kernel_rfl
 obtain ⟨a0,_,h0⟩:=ua (off:=0) (fun _ _ _ _ _=>trivial) rd5.toB (by simpa using e0);obtain ⟨a1,_,h1⟩:=ua (off:=1) (fun _ _ _ _ _=>trivial) rd5.toB (by simpa [hc] using e1);refine ⟨hl.trans (by kernel_rfl),(⟨a0,a1⟩:Dp),trivial,fun j hj=>?_⟩
 match j,hj with
 | 0,_=>exact h0 0 bqi
 | 1,_=>exact h1 0 bqi
def bd8:RdB br6 22 1 (b2x 2 Dp.c) fun b l=>l.length <= b :=
 (ai4 (B:=fun _ _=>True) (fun _ _ _ _ _=>trivial) Tryz.underlying22 (by kernel_rfl) bqi bkk).co id (fun b a h=>h.1) fun a j hj=>CoP.refl _
def bk3:RdB br6 23 1 (b2x 1 u8C) fun b l=>l.length <= b :=
 (ai4 (B:=fun _ _=>True) (fun _ _ _ _ _=>trivial) Tryz.underlying23 (by kernel_rfl) bqi rd5.toB).co id (fun b a h=>h.1) fun a j hj=>CoP.refl _
abbrev Rcp.c (d:Rcp):Nat -> PV:=fun j=>[.raw (.int .u8 (d.n.toNat:Int)),dpl d.f,dpl d.m,psl 1 u8C d.p].getD j .any
def bjq:RdB br6 25 4 Rcp.c fun b d=>d.f.length <= b /\ d.m.length <= b /\ d.p.length <= b:=by
 intro H enc w sp held fuel cs x h;obtain ⟨hl,n,hf⟩:=aud Tryz.underlying25 h;obtain ⟨y0,e0⟩:=hf 0 _ rfl;obtain ⟨y1,e1⟩:=hf 1 _ rfl;obtain ⟨y2,e2⟩:=hf 2 _ rfl;obtain ⟨y3,e3⟩:=hf 3 _ rfl;obtain ⟨a0,_,h0⟩:=ua (fun _ _ _ _ _=>trivial) rd5.toB e0;obtain ⟨a1,b1,h1⟩:=ua (B:=fun b (l:List Dp)=>l.length <= b) (fun _ _ _ h k=>bmo k h) bd8 e1;obtain ⟨a2,b2,h2⟩:=ua (B:=fun b (l:List Dp)=>l.length <= b) (fun _ _ _ h k=>bmo k h) bd8 e2;obtain ⟨a3,b3,h3⟩:=ua (B:=fun b (l:List (BitVec 8))=>l.length <= b) (fun _ _ _ h k=>bmo k h) bk3 e3;refine ⟨hl.trans (by kernel_rfl),(⟨a0,a1,a2,a3⟩:Rcp),⟨b1,b2,b3⟩,fun j hj=>?_⟩
 match j,hj with
 | 0,_=>exact h0 0 bqi
 | 1,_=>exact h1 0 bqi
 | 2,_=>exact h2 0 bqi
 | 3,_=>exact h3 0 bqi
def bin:br6.readableRec 25 = true /\ 25 < br6.types.size:=⟨by kernel_rfl,of_decide_eq_true (by kernel_rfl)⟩
end
section
section
variable {l:List Bs}
def ajg {i:Nat} (hi:i < l.length):szB (l.take (i + 1)) = szB (l.take i) + (l.getD i default).size:=by
 unfold szB;rw [List.take_succ,bma hi,boh,List.sum_append,bmb,bma hi];simp
def avr (l:List Bs) (i:Nat):szB l = szB (l.take i) + szB (l.drop i):=by
 unfold szB;rw [<- List.sum_append,<- boh,bpq]
def a1x (l:List Bs) (i:Nat):szB (l.take i) <= szB l:=by have:=avr l i;omega
def aec {i:Nat} (hi:i < l.length):(l.getD i default).size <= szB l:=by
 have h1:=ajg hi;have h2:=a1x l (i + 1);omega
def tg (l:List Bs) (sep:Bs) (i:Nat):List UInt8:=bL (l.getD 0 default) ++ Lib.joinTail (bL sep) (((l.drop 1).take i).map bL)
def bg2 (l:List Bs) (sep:Bs):tg l sep 0 = [] ++ bL (l.getD 0 default):=by simp [tg,Lib.joinTail]
def aic {sep:Bs} {i:Nat} (hi:1 + i < l.length):tg l sep (i + 1) = (tg l sep i ++ bL sep) ++ bL (l.getD (1 + i) default):=by
 unfold tg
 have h:((l.drop 1).map bL)[i]? = some (bL (l.getD (1 + i) default)):=by
  rw [bn0,boj,bmb,bma hi];rfl
 have h2:=Lib.joinTail_take_succ (bL sep) ((l.drop 1).map bL) i _ h;rw [List.map_take,List.map_take,h2];simp only [bnm]
def b2n (sep:Bs) (h:l ≠ []):(⟨(tg l sep (l.length - 1)).toArray⟩:Bs) = a48 l sep:=by
 obtain ⟨x,r,rfl⟩:=List.exists_cons_of_ne_nil h;unfold tg a48 bOf;rw [bnx,Lib.join_cons];simp
def b7n (l:List Bs) (sep:Bs) (i:Nat):(tg l sep i).length <= szB l + sep.size * l.length:=by
 unfold tg;rw [bmg,Lib.joinTail_length,bms]
 have h1:Lib.lens (((l.drop 1).take i).map bL) <= szB (l.drop 1):=by
  have:Lib.lens (((l.drop 1).take i).map bL) = szB ((l.drop 1).take i):=by
   unfold Lib.lens szB;rw [List.map_map];rfl
  rw [this];exact a1x _ _
 have h2:((l.drop 1).take i).length <= l.length:=by
  rw [bmk,bnv];omega
 have h3:(bL (l.getD 0 default)).length + szB (l.drop 1) <= szB l:=by
  cases l with
  | nil=>exact bmd 0
  | cons x r =>
   have e:szB (x :: r) = x.size + szB r:=by simp [szB]
   rw [e];show x.size + szB r <= _;omega
 have h4:=Nat.mul_le_mul_left sep.size h2;show _ + (sep.size * _ + _) <= _;omega
def avy (sep:Bs) (h:(l.length:Int) = 1):a48 l sep = l.getD 0 default:=by
 match l,h with
 | [x],_ =>
  show bOf (Lib.join [bL x] (bL sep)) = x;rw [Lib.join_one,bj0]
def bkv {α:Type} {l:List α} (h:(l.length:Int) = 0):l = []:=bo3 bqi
def b7t {n:Int} (h1:1 <= n) (h2:n <= 1000):(2:Int) <= 9223372036854775807 / n:=Int.le_ediv_of_mul_le bqi bqi
end
end
end Go.Hx

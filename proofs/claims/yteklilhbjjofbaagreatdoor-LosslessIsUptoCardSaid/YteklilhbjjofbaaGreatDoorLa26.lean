/- A part of the proof: W0 W1 Ls6 W2a Rbm Bz1 Bz2 Bz3 Y1 Bz4 Y2 Y3 Bz5 Rb25 Ch22 X26 Ch25. -/
import Derived.Test.YteklilhbjjofbaaGreatDoorLa25
set_option linter.all false
set_option maxRecDepth 100000
set_option maxHeartbeats 1000000
namespace Go.Hx
section
open Go.Proofs
section
variable {m p:List Fd} {n:Int} {ps:List AS}
def a9h (h:lvE n ps = 0) (hb:bi n p m = 0) (hc:(lsT n ps p m).2.2 = 0):TrZ n p m (lsT n ps p m).2.1.2 (ae (ah n ps)) (lsT n ps p m).1:=by
 obtain ⟨sts,lend,e,htr,_⟩:=aa4 h hb hc;rw [e];exact htr
def aw2 (h:(rcR n ps p m).2.2 = 0):(rcR n ps p m).2.1.length = (rcR n ps p m).1.length + 1:=by
 rw [ou] at h;rw [a16 h];exact t8
def azr (h:(rcR n ps p m).2.2 = 0):0 <= n /\ n <= 16 /\ (rcR n ps p m).1.length <= FU:=by
 rw [ou] at h;obtain ⟨h1,h2⟩:=w9 h;rw [a16 h];have:=lp h1;exact ⟨this.1,by omega,a6z h1 h2⟩
def apq {l:List Rw} {T:List (Int × List Rw)} {e:TypeId} {N:Nat} {f:Nat -> Nat -> PV} (h:T = [(n,l)]) (hN:N = 1) (h0:CoP (f 0 0) (.raw (.int .i64 n))) (h1:CoP (f 0 1) (rl l)):CoO (.arr true 2 e N f) (.arr true 2 e T.length (lf tbC T)):=by
 subst h hN;refine ⟨fun h=>h,rfl,rfl,rfl,fun a j ha hj=>?_⟩
 have ha:a = 0:=by
  have:a < 1:=ha;omega
 subst ha
 match j,hj with
 | 0,_=>exact h0
 | 1,_=>exact h1
def a9e {n:Nat} {l:List St} {i:Nat} {cl:Bool} (hn:n = (l.take i).length) {f:Nat -> Nat -> PV} (hf:∀ a j,f a j = lf St.c l a j):CoP (.sl n 4 cl f) (stl (l.take i)):=by
 refine CoP.sl hn.symm (.inl rfl) (fun h=>by cases h) fun a j ha hj=>CoP.of_eq ?_;rw [hf];show St.c (l.getD a default) j = St.c ((l.take i).getD a default) j;have:a < i:=by rw [hn,b3h] at ha;omega
 rw [b2t,b2t,b3o,if_pos this]
def afg (n:Int) (ps:List AS) (h:lvE n ps = 0):a8 b6e 53 [pI n,pP (asl ps)] (aa [pT n (ae (ah n ps)),pI 0]):=by
 have:=avp n ps;rw [aby h] at this;exact this
def als (n:Int) (ps:List AS) (h:lvE n ps = 0):a8 b6e 84 [pI n,pP (asl ps)] (aa [pT n (ae (ah n ps)),pI 0]):=by
 have:=apn n ps;rw [aby h] at this;exact this
def ass (n:Int) (ps:List AS) (p m:List Fd):a8 b6e 86 [pT n (ae (ah n ps)),pP (fdl p),pP (fdl m)] (aa [pP (stl (lsT n ps p m).1),pT (lsT n ps p m).2.1.1 (lsT n ps p m).2.1.2,pI (lsT n ps p m).2.2]) :=
 aw8 FU n (ae (ah n ps)) p m (fun h=>a9o h) b5t
def ao8 (n:Int) (ps:List AS) (p m:List Fd):a8 b6e 92 [pT n (ae (ah n ps)),pP (fdl p),pP (fdl m)] (aa [pP (stl (lsT n ps p m).1),pT (lsT n ps p m).2.1.1 (lsT n ps p m).2.1.2,pI (lsT n ps p m).2.2]) :=
 aps FU n (ae (ah n ps)) p m (fun h=>a9o h) b5t
def aim (n:Int) (l:List Rw) (p m:List Fd) (s:St) (hT:tok n l = true) (hb:bi n p m = 0) (h:qo l p m s) (he:bu n l p m s = (n,(bu n l p m s).2.1,0)):a8 b6e 85 [pT n l,pP (fdl p),pP (fdl m),s.pc] (aa [pT n (bu n l p m s).2.1,pI 0]):=by
 have:=a83 n l p m s ((if_pos hT).trans hb) h;rw [he] at this;exact this
def aor {l lend:List Rw} {sts:List St} {i:Nat} (hi:i < sts.length) (h:TrZ n p m lend l (sts.drop i)):tok n l = true /\ qo l p m (sts.getD i default) /\ bu n l p m (sts.getD i default) = (n,(bu n l p m (sts.getD i default)).2.1,0):=by
 have e:sts.drop i = sts.getD i default :: sts.drop (i + 1):=by
  rw [b4r hi,b2t,b2s hi];rfl
 rw [e] at h;obtain ⟨h1,h2,l',h3,h4,h5⟩:=h;rw [h3];exact ⟨h1,h2,rfl⟩
end
end
section
open Go.Proofs
def awq (ps:List AS):a8 b6e 44 [pP (asl ps)] (aa [pA (orL ps)]):=by
 refine hpx (nt:=17) Tryz.func44 ?_;refine dh ?_;refine c5 0 rfl fun hn=>?_;refine w_6 ?_;refine bw (ka 6 (ka 7 kn)) km (fun i=>⟨[(3,some (vA (orL (ps.take i)))),(8,some (vI i))],[]⟩) ps.length ⟨⟨⟨_,rfl,(CoR.refl _)⟩,tt⟩,trivial⟩ ?_;rintro i hi;refine w_5 ?_;refine hcd (fun h0=>?_) (fun h0=>?_)
 · refine a6i ?_;exact lpx (i + 1) ⟨⟨⟨_,rfl,(la (by rw [bOr,a2m b5o];rfl))⟩,tt⟩,trivial⟩
 obtain rfl:i = ps.length:=by omega
 refine v_6 ?_;exact ⟨cci (by rw [b37]),trivial⟩
def a3r:goodFn b6e 12:=wgx Tryz.func12
def b60 {p:Prop} (h:p:=by (repeat' apply And.intro) <;> first | trivial | exact b2u rfl | rfl):p:=h
def a19 (n:Int) (ps:List AS):a8 b6e 12 [pI n,pP (asl ps)] (aa [pI (lvE n ps)]):=by
 refine hpx (nt:=28) Tryz.func12 ?_;refine dq ?_;refine ag rfl rfl (fun r0=>?_) (fun r0=>?_)
 ·
  have h0:=tz1 r0;(iterate 2 refine k9 (gtf r0) ?_);refine w_8 ?_
  exact hx8 rfl rfl rfl (⟨cci (a91 b5o).symm,trivial⟩)
 have h0:=tz2 r0;(iterate 2 refine qy ?_ (hg:=(gff r0)));refine w_3 ?_;refine ai _ rfl (fun r1=>?_) (fun r1=>?_)
 · have h1:=tz1 (af r0 r1);refine v_4 ?_;exact ⟨cci (a91 b5o).symm,trivial⟩
 have h1:=tz2 (af r0 r1);have hz0:0 <= n:=by omega
 have hz1:n <= 16:=by omega
 refine w_7 ?_;refine hcd (fun h2=>?_) (fun h2=>?_)
 · refine v_4 ?_;exact ⟨cci (aok b5o b5o).symm,trivial⟩
 refine w_6 ?_;refine ag rfl rfl (fun r3=>?_) (fun r3=>?_)
 ·
  have h3:=tz1 r3;(iterate 6 refine k9 (gtf r3) ?_);refine w_9 ?_
  exact hx8 rfl rfl rfl (⟨cci (a97 b5o b5o (by first | exact .inl b5o | exact .inr (fun e=>absurd (show asI (orL ps) = IntKind.wrap .u32 (1 * 2 ^ (min n.toNat 32)) - 1 by rw [qh hz0 hz1,e]) b5p))).symm,trivial⟩)
 have h3:=tz2 r3;refine qy ?_ (hg:=(gff r3));refine qcx (wgx Tryz.func44) (awq ps) ?_ (hg:=(gff r3));(iterate 2 refine qy ?_ (hg:=(gff r3)));refine rq rfl rfl rfl rfl (gff r3) ?_ (hp:=⟨aa8 hz0 hz1,a82 hz0 hz1⟩);refine qy ?_ (hg:=(gff r3));refine w_4 ?_;refine ai _ rfl (fun r4=>?_) (fun r4=>?_)
 · have h4:=tz2 (cz (af r3 r4));refine v_4 ?_;exact ⟨cci (a97 b5o b5o (by first | exact .inl b5o | exact .inr (fun e=>absurd (show asI (orL ps) = IntKind.wrap .u32 (1 * 2 ^ (min n.toNat 32)) - 1 by rw [qh hz0 hz1,e]) b5p))).symm,trivial⟩
 have h4:=tz1 (cu (af r3 r4));refine w_6 ?_;refine ⟨.inr rfl, ?_⟩
 exact ⟨_,_,_,_,rfl,b60,rfl,b60,⟨cci (aoz b5o b5o (fun e=>by
  rcases e with e | e
  · omega
  exact e (i7.1 ((by assumption:asI (orL ps) = IntKind.wrap .u32 (1 * 2 ^ (min n.toNat 32)) - 1).trans (qh hz0 hz1))))).symm,trivial⟩⟩
def ab0:goodFn b6e 45:=wgx Tryz.func45
def a5u (n:Int) (ps:List AS) (p m:List Fd):a8 b6e 45 [pI n,pP (asl ps),pP (fdl p),pP (fdl m)] (aa [pT (lcR n ps p m).1.1 (lcR n ps p m).1.2,pP (stl (lcR n ps p m).2.1),pT (lcR n ps p m).2.2.1.1 (lcR n ps p m).2.2.1.2,pI (lcR n ps p m).2.2.2]):=by
 refine hpx (nt:=58) Tryz.func45 ?_;refine sx7 ?_;refine m9 0 ?_;refine qy ?_;refine m9 1 ?_;refine w_7 ?_;refine qcx a3r (a19 n ps) ?_;refine w_7 ?_;refine hcn (fun h0=>?_) (fun h0=>?_)
 · refine dh ?_;refine hrr ?_;have he:=axo (p:=p) (m:=m) (by assumption:¬ lvE n ps = 0);exact f9 rfl rfl (by rw [he];exact ⟨CoC.agg ⟨CoP.refl _,au,trivial⟩,CoC.one (CoP.sl rfl (.inr rfl) (fun _=>rfl) (fun i j hi _=>absurd hi (b2y i))),CoC.agg ⟨CoP.refl _,au,trivial⟩,CoC.refl _,trivial⟩)
 have hv:lvE n ps = 0:=by assumption
 refine w_7 ?_;refine qcx ace (a6v n p m) ?_;refine w_7 ?_;refine hcn (fun h1=>?_) (fun h1=>?_)
 · refine dh ?_;refine hrr ?_;have he:=axc hv (by assumption:¬ bi n p m = 0);exact f9 rfl rfl (by rw [he];exact ⟨CoC.agg ⟨CoP.refl _,au,trivial⟩,CoC.one (CoP.sl rfl (.inr rfl) (fun _=>rfl) (fun i j hi _=>absurd hi (b2y i))),CoC.agg ⟨CoP.refl _,au,trivial⟩,CoC.refl _,trivial⟩)
 have hb:bi n p m = 0:=by assumption
 refine w_5 ?_;refine qcx (wgx Tryz.func53) (afg n ps hv) ?_;refine w_3 ?_;refine m9 2 ?_;refine mj ?_;refine qcx (wgx Tryz.func86) (ass n ps p m) ?_;refine w_4 ?_;refine m9 3 ?_;refine mj ?_;refine hrr ?_;have he:=aga hv hb;exact f9 rfl rfl (by rw [he];exact CoL.refl _)
def a4e:goodFn b6e 47:=wgx Tryz.func47
def a0i (n:Int) (h0:0 <= n) (h1:n <= 16):a8 b6e 47 [pI n] (aa [pZ (bg n)]):=by
 refine hpx (nt:=18) Tryz.func47 ?_;refine w_7 ?_;refine m9 0 ?_;refine dh ?_;refine bw (ka 3 (ka 8 kn)) km (fun k=>⟨[(9,some (vI k))],[(0,some (.arr true 1 3 n.toNat (lf zC (stT n 0 (j3 32) k))))]⟩) n.toNat ⟨tt,⟨⟨_,rfl,(aat rfl (fun _=>rfl))⟩,trivial⟩⟩ ?_;rintro k hk;refine w_5 ?_;refine hcd (fun h0=>?_) (fun h0=>?_)
 · refine a6i ?_;exact lpx (k + 1) ⟨tt,⟨⟨_,rfl,(aui (akn b5o) rfl b5o)⟩,trivial⟩⟩
 refine w_2 ?_;refine bf 3 rfl rfl rfl ?_;refine v_4 ?_;exact ⟨akg h1 b5o,trivial⟩
def ac4:goodFn b6e 17:=wgx Tryz.func17
def ale (n:Int) (ps:List AS) (p m:List Fd):a8 b6e 17 [pI n,pP (asl ps),pP (fdl p),pP (fdl m)] (aa [pB (lsB n ps p m),pI (lsC n ps p m)]):=by
 refine hpx (nt:=33) Tryz.func17 ?_;refine dq ?_;refine qcx ab0 (a5u n ps p m) ?_;refine w_5 ?_;refine m9 0 ?_;refine m9 1 ?_;refine dh ?_;refine ag rfl rfl (fun r0=>?_) (fun r0=>?_)
 ·
  have h0:=tz1 r0;have hz:=az0 (n:=n) (ps:=ps) (p:=p) (m:=m) rfl h0;(iterate 2 refine qy ?_ (hg:=(gtt r0)));refine qcx a4e (a0i n hz.1 b5o) ?_ (hg:=(gtt r0));refine qcx zr (a3x (lcR n ps p m).2.2.1.1 (lcR n ps p m).2.2.1.2 (bg n)) ?_ (hg:=(gtt r0));refine w_6 ?_
  exact hx8 rfl rfl rfl (⟨ccb (by first | exact at7 | exact ao6 (n:=n) (ps:=ps) (p:=p) (m:=m) b5p | exact (amx (n:=n) (ps:=ps) (p:=p) (m:=m) b5p).symm),cci gp,trivial⟩)
 have h0:=tz2 r0;(iterate 4 refine k9 (gft r0) ?_);refine w_6 ?_
 exact hx8 rfl rfl rfl (⟨ccb (by first | exact at7 | exact ao6 (n:=n) (ps:=ps) (p:=p) (m:=m) b5p | exact (amx (n:=n) (ps:=ps) (p:=p) (m:=m) b5p).symm),cci gp,trivial⟩)
def aak:goodFn b6e 14:=wgx Tryz.func14
def a2p (n:Int) (ps:List AS):a8 b6e 14 [pI n,pP (asl ps)] (aa [pI (lvE n ps)]):=by
 refine hpx (nt:=37) Tryz.func14 ?_;refine dh ?_;refine ag rfl rfl (fun r0=>?_) (fun r0=>?_)
 ·
  have h0:=tz1 r0;(iterate 2 refine k9 (gtf r0) ?_);refine w_7 ?_
  exact hx8 rfl rfl rfl (⟨cci (a91 b5o).symm,trivial⟩)
 have h0:=tz2 r0;(iterate 2 refine qy ?_ (hg:=(gff r0)));refine w_2 ?_;refine ai _ rfl (fun r1=>?_) (fun r1=>?_)
 · have h1:=tz1 (af r0 r1);refine v_4 ?_;exact ⟨cci (a91 b5o).symm,trivial⟩
 have h1:=tz2 (af r0 r1);refine w_8 ?_;refine hcd (fun h2=>?_) (fun h2=>?_)
 · refine v_4 ?_;exact ⟨cci (aok b5o b5o).symm,trivial⟩
 refine dq ?_;refine bw (ka 0 (ka 1 kn)) km (fun i=>⟨[(5,some (vA (orL (ps.take i)))),(6,some (vI i))],[]⟩) ps.length ⟨⟨⟨_,rfl,(CoR.refl _)⟩,tt⟩,trivial⟩ ?_;rintro i hi;refine w_8 ?_;refine hcd (fun h3=>?_) (fun h3=>?_)
 · refine yo ?_;exact lpx (i + 1) ⟨⟨⟨_,rfl,(la (by rw [bOr,a2m b5o];rfl))⟩,tt⟩,trivial⟩
 obtain rfl:i = ps.length:=by omega
 rw [show ps.take ps.length = ps from b37];refine w_8 ?_;refine ag rfl rfl (fun r4=>?_) (fun r4=>?_)
 ·
  have h4:=tz1 r4;(iterate 4 refine k9 (gtf r4) ?_);refine w_7 ?_
  exact hx8 rfl rfl rfl (⟨cci (a97 b5o b5o (by first | exact .inl b5o | exact .inr (fun e=>absurd (show asI (orL ps) = asI (ax n) by rw [e]) b5p))).symm,trivial⟩)
 have h4:=tz2 r4;(iterate 2 refine qy ?_ (hg:=(gff r4)));refine qcx lr (lv n) ?_ (hg:=(gff r4));refine qy ?_ (hg:=(gff r4));refine w_2 ?_;refine ai _ rfl (fun r5=>?_) (fun r5=>?_)
 · have h5:=tz2 (cz (af r4 r5));refine v_4 ?_;exact ⟨cci (a97 b5o b5o (by first | exact .inl b5o | exact .inr (fun e=>absurd (show asI (orL ps) = asI (ax n) by rw [e]) b5p))).symm,trivial⟩
 have h5:=tz1 (cu (af r4 r5));refine w_6 ?_;refine ⟨.inr rfl, ?_⟩
 exact ⟨_,_,_,_,rfl,b60,rfl,b60,⟨cci (aoz b5o b5o (fun e=>by
  rcases e with e | e
  · omega
  exact e (i7.1 b5p))).symm,trivial⟩⟩
def as3 (n:Int) (ps:List AS) (p m:List Fd):a8 b6e 49 [pI n,pP (asl ps),pP (fdl p),pP (fdl m)] (aa [pP (stl (rcR n ps p m).1),pP (psl 2 tbC (rcR n ps p m).2.1),pI (rcR n ps p m).2.2]):=by
 refine hpx (nt:=77) Tryz.func49 ?_;refine dq ?_;refine qcx aak (a2p n ps) ?_;refine w_7 ?_;refine hcn (fun h0=>?_) (fun h0=>?_)
 · refine w_7 ?_;refine hrr ?_;have he:=agz (n:=n) (ps:=ps) (p:=p) (m:=m) (ay4 b5p).1 b5p;exact f9 rfl rfl (by rw [he];exact ⟨CoC.one (CoP.sl rfl (.inr rfl) (fun _=>rfl) (fun i j hi _=>absurd hi (b2y i))),CoC.one (CoP.sl rfl (.inr rfl) (fun _=>rfl) (fun i j hi _=>absurd hi (b2y i))),CoC.refl _,trivial⟩)
 have hv:lvE n ps = 0:=by assumption
 refine w_7 ?_;refine qcx z1 (sn n p m) ?_;refine w_7 ?_;refine hcn (fun h1=>?_) (fun h1=>?_)
 · refine w_7 ?_;refine hrr ?_;have he:=agz (n:=n) (ps:=ps) (p:=p) (m:=m) (axm hv b5p).1 b5p;exact f9 rfl rfl (by rw [he];exact ⟨CoC.one (CoP.sl rfl (.inr rfl) (fun _=>rfl) (fun i j hi _=>absurd hi (b2y i))),CoC.one (CoP.sl rfl (.inr rfl) (fun _=>rfl) (fun i j hi _=>absurd hi (b2y i))),CoC.refl _,trivial⟩)
 have hb:bi n p m = 0:=by assumption
 refine w_5 ?_;refine qcx (wgx Tryz.func84) (als n ps hv) ?_;refine w_3 ?_;refine m9 0 ?_;refine mj ?_;refine qcx (wgx Tryz.func92) (ao8 n ps p m) ?_;refine w_4 ?_;refine m9 1 ?_;refine dh ?_;refine hcn (fun h2=>?_) (fun h2=>?_)
 · refine w_7 ?_;refine hrr ?_;have he:=agz (n:=n) (ps:=ps) (p:=p) (m:=m) (a56 hv hb) b5p;exact f9 rfl rfl (by rw [he];exact ⟨CoC.one (CoP.sl rfl (.inr rfl) (fun _=>rfl) (fun i j hi _=>absurd hi (b2y i))),CoC.one (CoP.sl rfl (.inr rfl) (fun _=>rfl) (fun i j hi _=>absurd hi (b2y i))),CoC.refl _,trivial⟩)
 have hc:(lsT n ps p m).2.2 = 0:=by assumption
 have htr:=a9h hv hb hc;have hfew:(lsT n ps p m).1.length <= 1300000:=a6z (p:=p) (m:=m) hv hb;have hls:lsC n ps p m = 0:=(a56 hv hb).trans hc;refine w_4 ?_;refine m9 2 ?_;refine w_8 ?_;refine bw (ka 2 (ka 3 (ka 13 (ka 15 kn)))) km (fun i=>⟨[(17,some (.v (.one (.ref 2 ((gi n p m (ae (ah n ps)) (lsT n ps p m).1).take (i + 1)).length)))),(18,some (vI i))],[(0,some (.box [.p (.raw (.int .i64 n)), .p (rl ((trL n p m (ae (ah n ps)) (lsT n ps p m).1).getD i default))])),(2,some (.arr true 2 93 ((gi n p m (ae (ah n ps)) (lsT n ps p m).1).take (i + 1)).length (lf tbC ((gi n p m (ae (ah n ps)) (lsT n ps p m).1).take (i + 1)))))]⟩) ((lsT n ps p m).1.length) ⟨⟨⟨_,rfl,(ig (by rw [aav];rfl))⟩,tt⟩,⟨⟨_,rfl,(by rw [a6a];exact CoO.refl _)⟩,⟨_,rfl,(apq aav rfl (CoP.refl _) (CoP.refl _))⟩,trivial⟩⟩ ?_;rintro i hi;have hlen:((gi n p m (ae (ah n ps)) (lsT n ps p m).1).take (i + 1)).length <= i + 1:=by rw [b3h];omega
 refine w_8 ?_;refine hcd (fun h3=>?_) (fun h3=>?_)
 · obtain ⟨hx1,hx2,hx3⟩:=aor b5o (ahg htr (i:=i) b5o);refine jh ?_;refine qcx (wgx Tryz.func85) (aim n ((trL n p m (ae (ah n ps)) (lsT n ps p m).1).getD i default) p m ((lsT n ps p m).1.getD i default) hx1 hb hx2 hx3) ?_;refine w_9 ?_;refine m9 3 ?_;refine r9 4 true ?_;refine w_7 ?_;exact lpx (i + 1) ⟨⟨⟨_,rfl,(i6 (a7n b5o))⟩,tt⟩,⟨⟨_,rfl,(by rw [a0e b5o];exact CoO.refl _)⟩,⟨_,rfl,(tc (a7n b5o) (CoP.refl _) (CoP.refl _))⟩,trivial⟩⟩
 obtain rfl:i = (lsT n ps p m).1.length:=by omega
 refine w_2 ?_;refine bf 17 rfl rfl rfl ?_;refine w_7 ?_;refine hrr ?_;have he:=a16 hls;exact f9 rfl rfl (by rw [he];exact ⟨CoC.refl _,(by rw [List.take_of_length_le (by rw [t8];omega)];exact CoC.refl _),CoC.refl _,trivial⟩)
def afw (n:Int) (ps:List AS) (p m:List Fd):a8 b6e 22 [pI n,pP (asl ps),pP (fdl p),pP (fdl m)] (aa [pP (stl (prS n ps p m)),pI (prC n ps p m)]):=by
 refine hpx (nt:=42) Tryz.func22 ?_;refine dq ?_;refine qcx (wgx Tryz.func49) (as3 n ps p m) ?_;refine v7 ?_;refine hcn (fun h0=>?_) (fun h0=>?_)
 ·
  refine w_6 ?_;refine hrr ?_;have hn:¬ (rcR n ps p m).2.2 = 0:=by assumption
  have e1:prS n ps p m = []:=if_neg hn;have e2:prC n ps p m = (rcR n ps p m).2.2:=if_neg hn;exact f9 rfl rfl (by rw [e1,e2];exact ⟨CoC.one (CoP.sl rfl (.inr rfl) (fun _=>rfl) (fun i j hi _=>absurd hi (b2y i))),CoC.refl _,trivial⟩)
 have hc:(rcR n ps p m).2.2 = 0:=by assumption
 obtain ⟨hz0,hz1,hfew0⟩:=azr hc;have hfew:(rcR n ps p m).1.length <= 1300000:=hfew0;have hln:=aw2 hc;refine w_7 ?_;refine ak (ι:=Nat) (ka 0 (ka 10 (ka 11 kn))) km (fun i=>⟨[(13,some (vI i))],[]⟩) (fun i=>i <= (rcR n ps p m).2.1.length /\ (∀ j,j < i -> fg n ((rcR n ps p m).2.1.getD j default).2 = false)) (fun i=>(rcR n ps p m).2.1.length - i) (0) (⟨b2z _,fun j hj=>absurd hj (b2y j)⟩) kk ?_;rintro i ⟨hi,hI⟩;refine w_8 ?_;refine hcd (fun h1=>?_) (fun h1=>?_)
 ·
  refine dh ?_;refine qcx (wgx Tryz.func51) (aw9 n hz1) ?_;refine qcx aag (acb ((rcR n ps p m).2.1.getD i default).1 ((rcR n ps p m).2.1.getD i default).2 (bg n)) ?_;refine w_2 ?_;refine hcb (fun h2=>?_) (fun h2=>?_)
  ·
   have hx:prX n ps p m = (i:Int):=a0s (p:=(fun a:Int × List Rw=>fg n a.2)) (i:=i) b5o hI b5p;refine w_8 ?_;refine hrr ?_
   have e1:prS n ps p m = (rcR n ps p m).1.take i:=by
    unfold prS;rw [if_pos hc,if_neg b5o,hx];rfl
   have e2:prC n ps p m = 0:=by
    unfold prC;rw [if_pos hc,if_neg b5o]
   exact f9 rfl rfl (by rw [e1,e2];exact ⟨CoC.one (a9e (by rw [b3h];dsimp only [fy,bh];omega) (fun a j=>by first | rfl | (simp;rfl))),CoC.refl _,trivial⟩)
  refine w_6 ?_;refine lpz (i + 1) kk ?_;refine ⟨by omega,fun j hj=>?_⟩;by_cases e:j = i
  · rw [e];assumption
  exact hI j b5o
 have hx:prX n ps p m < 0:=by
  have:prX n ps p m = -1:=a0a (p:=(fun a:Int × List Rw=>fg n a.2)) fun j hj=>hI j b5o;omega
 refine w_6 ?_;refine hrr ?_
 have e1:prS n ps p m = []:=by
  unfold prS;rw [if_pos hc,if_pos hx]
 have e2:prC n ps p m = 11:=by
  unfold prC;rw [if_pos hc,if_pos hx]
 exact f9 rfl rfl (by rw [e1,e2];exact ⟨CoC.one (CoP.sl rfl (.inr rfl) (fun _=>rfl) (fun i j hi _=>absurd hi (b2y i))),CoC.refl _,trivial⟩)
def avk (n:Int) (ps:List AS) (p m:List Fd):a8 b6e 20 [pI n,pP (asl ps),pP (fdl p),pP (fdl m)] (aa [pB (lsB n ps p m),pI (lsC n ps p m)]):=by
 refine hpx (nt:=25) Tryz.func20 ?_;refine dq ?_;refine qcx (wgx Tryz.func22) (afw n ps p m) ?_;refine jh ?_;refine hcd (fun h0=>?_) (fun h0=>?_)
 · refine w_5 ?_;refine hrr ?_;obtain ⟨e1,e2⟩:=axx (n:=n) (ps:=ps) (p:=p) (m:=m) b5p;exact f9 rfl rfl (⟨ccb e1.symm,cci e2.symm,trivial⟩)
 refine w_9 ?_;refine hrr ?_;obtain ⟨e1,e2⟩:=ayb (n:=n) (ps:=ps) (p:=p) (m:=m) b5p;exact f9 rfl rfl (⟨ccb e1,cci e2,trivial⟩)
end
section
inductive Lf (l:List Fd):AS -> AS -> Prop
 | leaf {s:AS}:rj l s = false -> Lf l s s
 | left {s q:AS}:rj l s = true -> Lf l (spA l s) q -> Lf l s q
 | right {s q:AS}:rj l s = true -> Lf l (spB l s) q -> Lf l s q
def avi (l:List Fd):Nat -> AS -> List AS
 | 0,s=>[s]
 | k + 1,s=>if rj l s = true then avi l k (spA l s) ++ avi l k (spB l s) else [s]
def a18 {s:Nat} {f:Nat -> Nat -> PV}:CoC (.one (.sl 0 s true f)) (pP (fdl [])):=CoC.one (CoP.sl rfl (.inr rfl) (fun h=>by cases h) fun i j hi _=>absurd hi (b2y i))
end
section
open Go.Proofs
def u8A (b:BitVec 8):AS:=b.setWidth 32
def axl (b:BitVec 8):(b.toNat:Int) = asI (u8A b):=by
 have h:=b.isLt;unfold asI u8A;rw [BitVec.toNat_setWidth,b5n b5o]
abbrev u8C:BitVec 8 -> Nat -> PV:=fun b _=>.raw (.int .u8 (b.toNat:Int))
end
section
open Go.Proofs Go.Proofs.YteklilhbjjofbaaGreatDoor
open Go.RowKit Go.ChangeShapes Go.WideShapes Go.ChangeAt
def rd5:Rd b6e 5 1 u8C:=(ay1 Tryz.underlying5).co (fun u=>u.toBitVec) fun a j hj=>CoP.refl _
def ax2:Rd b6e 188 2 Dp.c:=by
 intro H enc w sp held fuel cs x h;obtain ⟨hl,n,hf⟩:=ajl Tryz.underlying188 h;obtain ⟨y0,e0⟩:=hf 0 _ rfl;obtain ⟨y1,e1⟩:=hf 1 _ rfl;obtain ⟨a0,h0⟩:=aa5 rd5 e0;obtain ⟨a1,h1⟩:=aa5 rd5 e1;refine ⟨hl.trans b62,(⟨a0,a1⟩:Dp),fun j hj=>?_⟩
 match j,hj with
 | 0,_=>exact h0 0 b5o
 | 1,_=>exact h1 0 b5o
def aow:RdB b6e 52 1 (a6w 2 Dp.c) fun b l=>l.length <= b :=
 (a03 (B:=fun _ _=>True) (fun _ _ _ _ _=>trivial) Tryz.underlying52 b62 b5o ax2.toB).co id (fun b a h=>h.1) fun a j hj=>CoP.refl _
def azg:RdB b6e 54 2 Dps.c fun b d=>d.l.length <= b:=by
 intro H enc w sp held fuel cs x h;obtain ⟨hl,n,hf⟩:=y8 Tryz.underlying54 h;obtain ⟨y0,e0⟩:=hf 0 _ rfl;obtain ⟨y1,e1⟩:=hf 1 _ rfl;obtain ⟨a0,_,h0⟩:=gl (fun _ _ _ _ _=>trivial) rd5.toB e0;obtain ⟨a1,hb,h1⟩:=gl (B:=fun b (l:List Dp)=>l.length <= b) (fun _ _ _ h k=>b3r k h) aow e1;refine ⟨hl.trans b62,(⟨a0,a1⟩:Dps),hb,fun j hj=>?_⟩
 match j,hj with
 | 0,_=>exact h0 0 b5o
 | 1,_=>exact h1 0 b5o
def az6:RdB b6e 31 1 (a6w 1 u8C) fun b l=>l.length <= b :=
 (a03 (B:=fun _ _=>True) (fun _ _ _ _ _=>trivial) Tryz.underlying31 b62 b5o rd5.toB).co id (fun b a h=>h.1) fun a j hj=>CoP.refl _
end
section
section
variable {b:AS}
def aal {a:AS} (h:∀ i,i < 32 -> a.getLsbD i = b.getLsbD i):a = b:=b4a h
def aw6 {s:AS} (h:s ≠ 0):∃ i,i < 32 /\ s.getLsbD i = true:=by
 apply Classical.byContradiction;intro hn;refine h (aal fun i hi=>?_)
 cases hs:s.getLsbD i with
 | false=>simp
 | true=>exact absurd ⟨i,hi,hs⟩ hn
def awb {s:AS} {i:Nat} (h:s.getLsbD i = true):i < 32:=BitVec.lt_of_getLsbD h
def ml {s t:AS} {i:Nat} (hi:i < 32):(s &&& ~~~t).getLsbD i = (s.getLsbD i && !t.getLsbD i):=by simp [hi]
def av2 (a:Nat):AS:=1#32 <<< a
def sm (m:Fd) (b:AS):Bool:=decide (b &&& m.lhs = 0) && (decide (b &&& m.rhs ≠ 0) && decide (b &&& ~~~m.rhs ≠ 0))
def hdB (m:Fd) (b:AS):AS:=if sm m b = true then b &&& m.rhs else b
def tlB (m:Fd) (b:AS):List AS:=if sm m b = true then [b &&& ~~~m.rhs] else []
def stB (m:Fd) (l:List AS) (i:Nat):List AS:=(l.take i).map (hdB m) ++ l.drop i ++ (l.take i).flatMap (tlB m)
def rdB (m:Fd) (l:List AS):List AS:=l.map (hdB m) ++ l.flatMap (tlB m)
def av6 (ms:List Fd) (l:List AS):List AS:=ms.foldl (fun l m=>rdB m l) l
def aus:List Fd -> List AS -> Bool
 | [],_=>false
 | m :: ms,l=>l.any (sm m) || aus ms (rdB m l)
def am5 (ms:List Fd):Nat -> List AS -> List AS
 | 0,l=>l
 | f + 1,l=>if aus ms l = true then am5 ms f (av6 ms l) else av6 ms l
def muB:List AS -> Nat
 | []=>0
 | b :: l=>b.toNat * b.toNat + muB l
def am0 {m:Fd}:sm m b = true <-> b &&& m.lhs = 0 /\ b &&& m.rhs ≠ 0 /\ b &&& ~~~m.rhs ≠ 0:=by simp [sm]
structure Blk (ms:List Fd) (rest:AS) (bs:List AS):Prop where
 nz:∀ b ∈ bs,b ≠ 0
 cnt:∀ a,a < 32 -> bs.countP (fun b=>b.getLsbD a) = if rest.getLsbD a = true then 1 else 0
 ind:∀ G:AS -> Prop,G rest -> (∀ m ∈ ms,∀ b,G b -> sm m b = true -> G (b &&& m.rhs) /\ G (b &&& ~~~m.rhs)) -> ∀ b ∈ bs,G b
variable {bs:List AS} {ms:List Fd} {rest:AS}
theorem Blk.rd (h:Blk ms rest bs) {m:Fd} (hm:m ∈ ms):Blk ms rest (rdB m bs):=by
 have hmem:∀ {b:AS},b ∈ rdB m bs -> ∃ b0 ∈ bs,(sm m b0 = false /\ b = b0) \/ (sm m b0 = true /\ (b = b0 &&& m.rhs \/ b = b0 &&& ~~~m.rhs)):=by
  intro b hb;unfold rdB at hb
  rcases b3f.1 hb with hb | hb
  · obtain ⟨b0,h0,rfl⟩:=b3k.1 hb
    refine ⟨b0,h0, ?_⟩;cases hs:sm m b0 <;> simp [hdB,hs]
  obtain ⟨b0,h0,hb⟩:=List.mem_flatMap.1 hb;refine ⟨b0,h0, ?_⟩;cases hs:sm m b0
  · simp [tlB,hs] at hb
  simp [tlB,hs] at hb;exact .inr ⟨rfl, .inr hb⟩
 refine ⟨fun b hb=>?_,fun a ha=>?_,fun G h0 hG b hb=>?_⟩
 · obtain ⟨b0,h0,⟨_,rfl⟩ | ⟨hs,hb⟩⟩:=hmem hb
   · exact h.nz _ h0
   obtain ⟨_,h2,h3⟩:=am0.1 hs
   rcases hb with rfl | rfl
   · exact h2
   exact h3
 · rw [<- h.cnt a ha]
   have:∀ l:List AS,(l.map (hdB m)).countP (fun b=>b.getLsbD a) + (l.flatMap (tlB m)).countP (fun b=>b.getLsbD a) = l.countP (fun b=>b.getLsbD a):=by
    intro l
    induction l with
    | nil=>rfl
    | cons b l ih =>
     rw [b4e,List.flatMap_cons,List.countP_append,b4z,b4z,<- ih];cases hs:sm m b
     · simp [hdB,tlB,hs];omega
     simp only [hdB,tlB,hs,if_true,b4z,List.countP_nil,ml ha,b40];cases b.getLsbD a <;> cases m.rhs.getLsbD a <;> simp <;> omega
   unfold rdB;rw [List.countP_append];exact this bs
 obtain ⟨b0,h1,⟨_,rfl⟩ | ⟨hs,hb⟩⟩:=hmem hb
 · exact h.ind G h0 hG _ h1
 obtain ⟨g1,g2⟩:=hG m hm b0 (h.ind G h0 hG _ h1) hs
 rcases hb with rfl | rfl
 · exact g1
 exact g2
def acp (rest:AS):List AS:=if rest = 0 then [] else [rest]
theorem Blk.start (ms:List Fd) (rest:AS):Blk ms rest (acp rest):=by
 unfold acp;by_cases h:rest = 0
 · subst h
   simp only [if_true];exact ⟨fun _ h=>by (cases h),fun a ha=>by simp,fun _ _ _ _ h=>by cases h⟩
 rw [if_neg h];exact ⟨fun b hb=>by (simp at hb;subst hb;exact h),fun a ha=>by simp [b4z],fun G h0 _ b hb=>by (simp at hb;subst hb;exact h0)⟩
def blks (ms:List Fd) (rest:AS):List AS:=am5 ms 18446744073709551616 (acp rest)
def agr {p:AS -> Bool} {l:List AS} (h:l.countP p <= 1) {a:AS} (ha:a ∈ l) (hb:b ∈ l) (pa:p a = true) (pb:p b = true):a = b:=by
 rw [List.countP_eq_length_filter] at h;have h1:a ∈ l.filter p:=b51.2 ⟨ha,pa⟩;have h2:b ∈ l.filter p:=b51.2 ⟨hb,pb⟩
 cases hl:l.filter p with
 | nil=>rw [hl] at h1;cases h1
 | cons x r =>
  rw [hl] at h h1 h2
  cases r with
  | nil=>simp at h1 h2;rw [h1,h2]
  | cons=>simp at h
theorem Blk.one (h:Blk ms rest bs) {b':AS} (hb:b ∈ bs) (hb':b' ∈ bs) {a:Nat} (h1:b.getLsbD a = true) (h2:b'.getLsbD a = true):b = b':=by
 refine agr (p:=fun b=>b.getLsbD a) ?_ hb hb' h1 h2;rw [h.cnt a (awb h1)];split <;> omega
theorem Blk.sub (h:Blk ms rest bs) (hb:b ∈ bs):Go.Hx.sub b rest:=da.2 fun a ha hba=>by
 have h1:=h.cnt a ha;have h2:0 < bs.countP (fun b=>b.getLsbD a):=List.countP_pos_iff.2 ⟨b,hb,hba⟩
 cases hr:rest.getLsbD a with
 | true=>rfl
 | false=>rw [hr] at h1;simp only [b5e,if_false] at h1;omega
end
end
section
def sgl (f:Fd):List Fd:=(b6 f.rhs).map fun a=>⟨f.lhs,av2 a⟩
def axv (fs ms:List Fd):List Fd:=ms ++ fs.flatMap sgl
def ld (T:List AS) (r:AS):List AS:=if r ∈ T then T else T ++ [r]
def a3n {T:List AS} {r z:AS}:z ∈ ld T r <-> z ∈ T \/ z = r:=by
 unfold ld;split
 · rename_i h
   constructor
   · exact .inl
   rintro (h2 | rfl)
   · exact h2
   exact h
 simp
def qu {T:List AS} {r:AS} (h:T.Nodup):(ld T r).Nodup:=by
 unfold ld;split
 · exact h
 rename_i hr;rw [List.nodup_append];exact ⟨h,by simp,fun a ha b hb=>by simp at hb;subst hb;rintro rfl;exact hr ha⟩
def a4x (s:AS) (o:List AS) (T:List AS):List AS:=T.foldl (fun o r=>ld o (r &&& ~~~s)) o
def mo (T:List AS) (s:AS):List AS:=a4x s [] T
def a2u {s:AS}:∀ {T o:List AS},(o.Nodup -> (a4x s o T).Nodup) /\ ∀ z,z ∈ a4x s o T <-> z ∈ o \/ ∃ r ∈ T,z = r &&& ~~~s
 | [],o=>⟨fun h=>h,fun z=>by simp [a4x]⟩
 | r :: T,o=>by
  obtain ⟨h1,h2⟩:=a2u (s:=s) (T:=T) (o:=ld o (r &&& ~~~s));refine ⟨fun h=>h1 (qu h),fun z=>?_⟩;show z ∈ a4x s (ld o (r &&& ~~~s)) T <-> _;rw [h2 z,a3n];simp only [b33];constructor
  · rintro ((h | h) | ⟨q,hq,h⟩)
    · exact .inl h
    · exact .inr ⟨r, .inl rfl,h⟩
    exact .inr ⟨q, .inr hq,h⟩
  rintro (h | ⟨q,rfl | hq,h⟩)
  · exact .inl (.inl h)
  · exact .inl (.inr h)
  exact .inr ⟨q,hq,h⟩
def a35 {T:List AS} {s z:AS}:z ∈ mo T s <-> ∃ r ∈ T,z = r &&& ~~~s:=by
 have:=(a2u (s:=s) (T:=T) (o:=[])).2 z;simpa [mo] using this
def a40 (T:List AS) (s:AS):(mo T s).Nodup:=(a2u (s:=s) (T:=T) (o:=[])).1 List.nodup_nil
def ve (d:Fd) (r k:AS):AS:=(r &&& (d.lhs ||| d.rhs)) ||| (k &&& ~~~(d.lhs ||| d.rhs))
def agB (d:Fd) (r k:AS):Bool:=decide ((r ^^^ k) &&& d.lhs = 0)
def aly {d:Fd} {r k:AS} {i:Nat} (hi:i < 32):(ve d r k).getLsbD i = (if d.lhs.getLsbD i || d.rhs.getLsbD i then r.getLsbD i else k.getLsbD i):=by
 unfold ve;rw [b52,ml hi,b40,b52];cases d.lhs.getLsbD i <;> cases d.rhs.getLsbD i <;> simp
structure ax0 (fs ms:List Fd) (T:List AS):Prop where
 fd:∀ d ∈ fs,∀ r ∈ T,∀ k ∈ T,agB d r k = true -> (r ^^^ k) &&& d.rhs = 0
 mv:∀ d ∈ ms,∀ r ∈ T,∀ k ∈ T,agB d r k = true -> ve d r k ∈ T
def ay6 (fs:List Fd) (bs:List AS) (a:Nat):Prop:=av2 a ∈ bs /\ ∃ f ∈ fs,f.rhs.getLsbD a = true /\ f.lhs.getLsbD a = false
structure JT (fs:List Fd) (bs:List AS) (rest:AS) (T:List AS):Prop where
 z:(0:AS) ∈ T
 r:∀ r ∈ T,sub r rest /\ ∀ b ∈ bs,b &&& r = 0 \/ sub b r
 top:∃ L ∈ T,(∀ r ∈ T,sub r L) /\ ∀ a,a < 32 -> rest.getLsbD a = true -> L.getLsbD a = false -> ay6 fs bs a
section
variable {fs ms:List Fd} {bs:List AS} {rest:AS} {T:List AS}
def b0s (T:List AS) (b:AS):Prop:=∀ r ∈ T,∀ k ∈ T,((r &&& b) ||| (k &&& ~~~b)) ∈ T
structure b2e (fs ms:List Fd) (bs:List AS) (rest:AS) (T:List AS):Prop where
 j:JT fs bs rest T
 c:ax0 fs ms T
def qB (T:List AS) (L x rest y:AS):Prop:=y ≠ 0 /\ sub y rest /\ (L &&& ~~~(x ||| y)) ∈ T
end
end
section
def avv:List AS -> Nat
 | []=>0
 | b :: l=>b.toNat + avv l
def OkB (l:List AS):Prop:=avv l < 4294967296 /\ ∀ b ∈ l,b ≠ 0
def b1j (l:List AS) (i:Nat):Nat -> Nat -> PV:=fun k c=>if k < i then .any else sC (l.getD k default) c
structure BkI (ms:List Fd) (R:List AS) (x:Nat × List AS × Bool):Prop where
 ok:OkB x.2.1
 t:x.2.2 = true -> am5 ms x.1 x.2.1 = R /\ muB x.2.1 < x.1
 f:x.2.2 = false -> x.2.1 = R
def ckB (n:Int) (l m:List Fd) (s:AS):Int:=if bi n l m = 0 then (if s >>> n.toNat = 0 then 0 else 1) else bi n l m
def b28 (fs ms:List Fd) (i k:Nat):List Fd:=ms ++ (fs.take i).flatMap sgl ++ (sgl (fs.getD i default)).take k
end
section
open Go.Proofs
def b1g (x:Nat × List AS × Bool):Nat:=x.1 + (bif x.2.2 then 1 else 0)
end
section
def ayi (b:AS) (f:Fd):Bool:=!decide ((f.rhs &&& ~~~f.lhs) &&& b = 0)
def apm (l:List Fd) (o b:AS):AS:=if bsz b = 1 then (if l.any (ayi b) = true then o ||| b else o) else o
def azi (l:List Fd) (o:AS) (bs:List AS):AS:=bs.foldl (apm l) o
section
variable {l:List Fd} {o:AS} {bs:List AS} {i:Nat}
end
def ao2 (n:Int) (l m:List Fd) (x:AS):List AS:=ord (blks (axv l m) (ax n &&& ~~~x))
def b1x (n:Int) (l m:List Fd) (x:AS):List AS:=if ckB n l m x = 0 then ao2 n l m x else []
def aue (n:Int) (l m:List Fd) (x:AS):AS:=azi l x (ao2 n l m x)
def b20 (n:Int) (l m:List Fd) (x:AS):AS:=if ckB n l m x = 0 then aue n l m x else 0
def ays (p:AS) (bs:List AS):List AS:=(bs.filter fun b=>!decide (b &&& p = 0)).map fun b=>b &&& p
def an4 (n:Int) (l m:List Fd) (x p:AS):List AS:=ord (ays p (ao2 n l m x))
def ck4 (n:Int) (l m:List Fd) (s:AS):Int:=if n < 0 \/ 8 < n then 7 else ckB n l m s
def b1m (n:Int) (l m:List Fd) (x p:AS):List AS:=if ck4 n l m (x ||| p) = 0 then an4 n l m x p else []
def ayu (n:Int) (l m:List Fd) (p x:AS):Option Fd:=if p &&& ~~~(aue n l m x) = 0 then none else if 1 < (an4 n l m x p).length then some ⟨x,(an4 n l m x p).getD 0 default⟩ else none
def amb (n:Int) (l m:List Fd) (p:AS):Option Fd:=(a9b p).findSome? (ayu n l m p)
def am7:Option Fd -> Fd × Bool
 | some v=>(v,true)
 | none=>(⟨0,0⟩,false)
def azy (n:Int) (l m:List Fd) (p:AS):Fd × Bool:=if ck4 n l m p = 0 then am7 (amb n l m p) else (⟨0,0⟩,false)
def a85 {α:Type} [Inhabited α] {l:List α} {i:Nat} (h:i < l.length):l.getD i default ∈ l:=by
 rw [b2t,b2s h];exact b38 h
def b16 (V:AS -> Option Fd):Prop:=∀ p v,V p = some v -> sub (v.lhs ||| v.rhs) p /\ v.lhs ||| v.rhs ≠ p /\ p &&& ~~~v.rhs ≠ p
section
variable {V:AS -> Option Fd}
def vF (V:AS -> Option Fd) (s:AS):Fd:=(am7 (V s)).1
def vBo (V:AS -> Option Fd) (s:AS):Bool:=(am7 (V s)).2
def av5 (V:AS -> Option Fd) (s:AS):AS:=(vF V s).lhs ||| (vF V s).rhs
def at5 (V:AS -> Option Fd) (s:AS):AS:=s &&& ~~~(vF V s).rhs
def ad6 (V:AS -> Option Fd):Nat -> List AS -> List AS -> List AS
 | 0,_,out=>out
 | n + 1,todo,out =>
  if todo.length = 0 then out
  else if vBo V (todo.getD (todo.length - 1) default) = true then ad6 V n (todo.take (todo.length - 1) ++ [av5 V (todo.getD (todo.length - 1) default),at5 V (todo.getD (todo.length - 1) default)]) out
  else ad6 V n (todo.take (todo.length - 1)) (out ++ [todo.getD (todo.length - 1) default])
def b2g (V:AS -> Option Fd) (p0:AS) (x:Nat × List AS × List AS):Prop:=ad6 V x.1 x.2.1 x.2.2 = ad6 V 6562 [p0] [] /\ auk x.2.1 < x.1 /\ x.2.2.length + x.1 <= 6562
def lvG (V:AS -> Option Fd):Nat -> AS -> List AS
 | 0,s=>[s]
 | n + 1,s=>if vBo V s = true then lvG V n (av5 V s) ++ lvG V n (at5 V s) else [s]
end
def b03 (n:Int) (l m:List Fd):List AS:=ad6 (amb n l m) 6562 [ax n] []
def b2i (n:Int) (l m:List Fd):List AS:=if ck4 n l m 0 = 0 then abw (b03 n l m) else []
end
section
open Go.Proofs
def aj4:goodFn b6e 19:=⟨Tryz.f19,Tryz.func19,by kernel_rfl,by kernel_rfl⟩
def au6 (n:Nat) (c:Bool) (f:Nat -> Nat -> PV) (hn:n <= 17592186044416) :
 c8 b6e 19 [.one (.p (.sl n 2 c f))] [] (.v (.one (.ref 0 n))) [(0, .arr true 2 45 n f)] []:=by
 refine hfx (nt:=8) Tryz.func19 ?_;refine sx7 ?_;refine av true rfl rfl rfl rfl rfl trivial ?_;refine bm ?_;refine p7 (ι:=Bool) (fun c=>⟨[(0,some (b4 (.sl n 2 c f)))],[]⟩) (fun _=>True) ?_ fun c _=>?_
 · rcases b3y n with hz | h0
   · subst hz
     refine hw_exact' 0 rfl fun ad cap hcap=>?_;refine sx7 ?_;(iterate 2 refine av true rfl rfl rfl rfl rfl trivial ?_);refine bm ?_;refine ai ad.isNone rfl (fun hc=>?_) (fun hc=>?_)
     · refine sx7 ?_
       refine av true rfl rfl rfl rfl rfl trivial ?_;refine bm ?_;refine dn 2 0 true 2 45 f b5t rfl (CoP.sl rfl (.inr rfl) (fun h=>h) fun i j hi _=>absurd hi (b2y i)) (.inr rfl) rfl ?_;refine hrr ?_;exact ⟨_,_,rfl,trivial,CoR.refl _,uu⟩
     refine c4 ?_;exact ⟨false,trivial,⟨⟨_,rfl,CoP.raw_sl hcap⟩,trivial⟩,trivial⟩
   refine sx7 ?_;refine av true rfl rfl rfl rfl rfl trivial ?_;refine av true rfl rfl rfl rfl rfl h0 ?_;refine bm ?_;refine ai false rfl (fun hc=>by cases hc) (fun hc=>?_);refine c4 ?_;exact ⟨c,trivial,tt,trivial⟩
 refine sx7 ?_;refine ne 0 rfl rfl rfl rfl rfl rfl trivial ?_;refine av true rfl rfl rfl rfl rfl trivial ?_;refine qa 0 true rfl rfl rfl rfl rfl rfl ⟨trivial,rfl,rfl,rfl, .inl rfl,by show 0 + n <= 9223372036854775807;omega,by show (0 + n) * 8 <= 140737488355328;omega,fun _=>.inl rfl⟩ ?_;refine av true rfl rfl rfl rfl rfl trivial ?_;refine bm ?_;refine hrr ?_;refine ⟨_,_,rfl,trivial,CoR.of_eq (by show HR.v (.one (.ref 0 (0 + n))) = _;rw [b3b]),⟨⟨_,rfl, ?_⟩,trivial⟩⟩;exact ⟨fun h=>h,rfl,rfl,(b3b n).symm,fun i j _ _=>CoP.of_eq (by simp [cq])⟩
def aee (n:Nat) (c:Bool) (f:Nat -> Nat -> PV) (hn:n <= 17592186044416):a8 b6e 19 [.one (.sl n 2 c f)] (.v (.one (.sl n 2 false f))) :=
 c8.pure (args:=[.one (.sl n 2 c f)]) (l:=[.one (.ref 0 n)]) (au6 n c f hn) rfl ⟨rfl,trivial⟩
end
section
open Go.Proofs
def is4 (n:Int) (l m:List Fd):Bool:=if ck4 n l m 0 = 0 then !(azy n l m (ax n)).2 else false
end
section
structure Mx where
 d:Dps
 m:List Dp
deriving Inhabited
def Mx.mv (x:Mx):List Fd:=x.m.map (Dp.fd x.d.num)
def Mx.c (x:Mx):Nat -> PV
 | 0=>x.d.c 0
 | 1=>x.d.c 1
 | 2=>dpl x.m
 | _=>.any
abbrev Mx.pc (x:Mx):PC:=.agg [x.c 0,x.c 1,x.c 2]
def Mx.ok (x:Mx):Bool:=decide (x.d.l.length <= 6) && decide (x.m.length <= 4)
def b2j (n:Int) (l m:List Fd) (ps:List AS):Int:=if ck4 n l m 0 = 0 then lsC n ps l m else ck4 n l m 0
def b2o (n:Int) (l m:List Fd) (ps:List AS):Bool:=if ck4 n l m 0 = 0 then (if lsC n ps l m = 0 then lsB n ps l m && ps.all (fun p=>!vBo (amb n l m) p) else false) else false
end
section
open Go.Proofs Go.Proofs.YteklilhbjjofbaaGreatDoor
open Go.RowKit Go.ChangeShapes Go.WideShapes Go.ChangeAt
def ayp:RdB b6e 56 3 Mx.c fun b x=>x.d.l.length <= b /\ x.m.length <= b:=by
 intro H enc w sp held fuel cs x h;obtain ⟨hl,n,hf⟩:=y8 Tryz.underlying56 h;obtain ⟨y0,e0⟩:=hf 0 _ rfl;obtain ⟨y1,e1⟩:=hf 1 _ rfl;obtain ⟨a0,b0,h0⟩:=gl (B:=fun b (d:Dps)=>d.l.length <= b) (fun _ _ _ h k=>b3r k h) azg e0;obtain ⟨a1,b1,h1⟩:=gl (B:=fun b (l:List Dp)=>l.length <= b) (fun _ _ _ h k=>b3r k h) aow e1;refine ⟨hl.trans b62,(⟨a0,a1⟩:Mx),⟨b0,b1⟩,fun j hj=>?_⟩
 match j,hj with
 | 0,_=>exact h0 0 b5o
 | 1,_=>exact h0 1 b5o
 | 2,_=>exact h1 0 b5o
def s2C (x:AS × AS):Nat -> PV
 | 0=>asC x.1
 | 1=>asC x.2
 | _=>.any
def ayo:Rd b6e 4 1 aom:=as0 Tryz.underlying4
def ayr:b6e.readableRec 4 = true /\ 4 < b6e.types.size:=⟨by kernel_rfl,of_decide_eq_true b62⟩
def awz:b6e.readableRec 56 = true /\ 56 < b6e.types.size:=⟨by kernel_rfl,of_decide_eq_true b62⟩
end
section
structure Rcp where
 n:BitVec 8
 f:List Dp
 m:List Dp
 p:List (BitVec 8)
deriving Inhabited
def Rcp.num (d:Rcp) (k:Nat):Int:=1 + ((d.n.toNat % k:Nat):Int)
abbrev Rcp.pc (d:Rcp):PC:=.agg [.raw (.int .u8 (d.n.toNat:Int)),dpl d.f,dpl d.m,psl 1 u8C d.p]
def u8S (n:Int) (b:BitVec 8):AS:=b.setWidth 32 &&& ax n
def ahu {a b c:Nat}:(bif bif decide ((a:Int) <= 4) then decide ((b:Int) <= 4) else false then decide ((c:Int) <= 3) else false) = decide (a <= 4 /\ b <= 4 /\ c <= 3):=by
 rw [b5d,decide_eq_true_iff];by_cases h1:(a:Int) <= 4
 · by_cases h2:(b:Int) <= 4
   · rw [decide_eq_true h1,decide_eq_true h2,cond_true,cond_true,decide_eq_true_iff];omega
   rw [decide_eq_true h1,decide_eq_false h2,cond_true,cond_false];exact ⟨(fun h=>by cases h),(fun h=>by omega)⟩
 rw [decide_eq_false h1,cond_false,cond_false];exact ⟨(fun h=>by cases h),(fun h=>by omega)⟩
end
section
open Go.Proofs
def av8 (d:Rcp) (hf:d.f.length <= 16777216) (hm:d.m.length <= 16777216) (hp:d.p.length <= 16777216):a8 b6e 15 [d.pc,pI 5] (aa [pI (d.num 5),pP (fdl (d.f.map (Dp.fd (d.num 5)))),pP (fdl (d.m.map (Dp.fd (d.num 5)))),pP (asl (d.p.map (u8S (d.num 5)))),pB (decide (d.f.length <= 4 /\ d.m.length <= 4 /\ d.p.length <= 3))]):=by
 refine hpx (nt:=118) Tryz.func15 ?_;refine sx7 ?_;refine m9 0 ?_;refine a6i ?_;refine qcx lr (lv (d.num 5)) ?_;refine jh ?_;refine dn 11 900 true 2 43 (lf Fd.c []) b5t rfl (CoP.sl rfl (.inr rfl) (fun h=>h) (fun i j hi _=>absurd hi (b2y i))) (.inr rfl) rfl ?_;refine bw (ka 2 (ka 9 (ka 10 kn))) (kb 0 km) (fun i=>⟨[(11,some (.v (.one (.ref 900 ((d.f.take i).map (Dp.fd (d.num 5))).length)))),(12,some (vI i))],[(900,some (.arr true 2 43 ((d.f.take i).map (Dp.fd (d.num 5))).length (lf Fd.c ((d.f.take i).map (Dp.fd (d.num 5))))))]⟩) d.f.length kk ?_;rintro i hi;have hlen:((d.f.take i).map (Dp.fd (d.num 5))).length <= i:=by rw [b3l,b3h];omega
 refine w_9 ?_;refine hcd (fun h0=>?_) (fun h0=>?_)
 · refine anc ?_;refine m9 1 ?_;refine r9 2 true ?_;refine w_8 ?_;exact lpx (i + 1) ⟨⟨⟨_,rfl,(i6 (zg b5o))⟩,tt⟩,⟨⟨_,rfl,(tc (zg b5o) (CoP.of_eq (congrArg (fun z=>PV.raw (.int .u32 z)) (sg _ _))) (CoP.of_eq (congrArg (fun z=>PV.raw (.int .u32 z)) (sg _ _))))⟩,uu⟩⟩
 obtain rfl:i = d.f.length:=by omega
 refine w_2 ?_;refine bf 11 rfl rfl rfl ?_;refine w_9 ?_;refine dn 13 901 true 2 45 (lf Fd.c []) b5t rfl (CoP.sl rfl (.inr rfl) (fun h=>h) (fun i j hi _=>absurd hi (b2y i))) (.inr rfl) rfl ?_;refine bw (ka 2 (ka 9 (ka 10 (ka 11 kn)))) (kb 0 km) (fun i=>⟨[(13,some (.v (.one (.ref 901 ((d.m.take i).map (Dp.fd (d.num 5))).length)))),(14,some (vI i))],[(901,some (.arr true 2 45 ((d.m.take i).map (Dp.fd (d.num 5))).length (lf Fd.c ((d.m.take i).map (Dp.fd (d.num 5))))))]⟩) d.m.length kk ?_;rintro i hi;have hlen:((d.m.take i).map (Dp.fd (d.num 5))).length <= i:=by rw [b3l,b3h];omega
 refine w_9 ?_;refine hcd (fun h1=>?_) (fun h1=>?_)
 · refine anc ?_;refine m9 3 ?_;refine r9 4 true ?_;refine w_8 ?_;exact lpx (i + 1) ⟨⟨⟨_,rfl,(i6 (zg b5o))⟩,tt⟩,⟨⟨_,rfl,(tc (zg b5o) (CoP.of_eq (congrArg (fun z=>PV.raw (.int .u32 z)) (sg _ _))) (CoP.of_eq (congrArg (fun z=>PV.raw (.int .u32 z)) (sg _ _))))⟩,uu⟩⟩
 obtain rfl:i = d.m.length:=by omega
 refine w_2 ?_;refine bf 13 rfl rfl rfl ?_;refine w_9 ?_;refine dn 15 902 true 1 28 (lf sC []) b5t rfl (CoP.sl rfl (.inr rfl) (fun h=>h) (fun i j hi _=>absurd hi (b2y i))) (.inr rfl) rfl ?_;refine bw (ka 2 (ka 9 (ka 10 (ka 11 (ka 13 kn))))) (kb 0 km) (fun i=>⟨[(15,some (.v (.one (.ref 902 ((d.p.take i).map (u8S (d.num 5))).length)))),(16,some (vI i))],[(902,some (.arr true 1 28 ((d.p.take i).map (u8S (d.num 5))).length (lf sC ((d.p.take i).map (u8S (d.num 5))))))]⟩) d.p.length kk ?_;rintro i hi;have hlen:((d.p.take i).map (u8S (d.num 5))).length <= i:=by rw [b3l,b3h];omega
 refine w_9 ?_;refine hcd (fun h2=>?_) (fun h2=>?_)
 · refine kj ?_;refine m9 5 ?_;refine r9 6 true ?_;refine w_7 ?_;exact lpx (i + 1) ⟨⟨⟨_,rfl,(i6 (zg b5o))⟩,tt⟩,⟨⟨_,rfl,(jn (zg b5o) (CoP.of_eq (congrArg (fun z=>PV.raw (.int .u32 z)) (sg _ _))))⟩,uu⟩⟩
 obtain rfl:i = d.p.length:=by omega
 refine w_2 ?_;refine bf 15 rfl rfl rfl ?_;refine w_9 ?_;refine ag rfl rfl (fun r3=>?_) (fun r3=>?_)
 ·
  have h3:=tz1 r3;(iterate 3 refine qy ?_ (hg:=(gtt r3)));refine w_2 ?_;refine ag rfl rfl (fun r4=>?_) (fun r4=>?_)
  ·
   have h4:=tz1 (ci r3 r4);(iterate 3 refine qy ?_ (hg:=(gtt r4)));refine w_7 ?_
   exact hx8 rfl rfl rfl (⟨CoC.refl _,(by rw [b37];exact CoC.refl _),(by rw [b37];exact CoC.refl _),(by rw [b37];exact CoC.refl _),ccb (by first | (simp only [b3l,b37];exact ahu) | exact (decide_eq_false b5o).symm),trivial⟩)
  have h4:=tz2 (ci r3 r4);(iterate 3 refine k9 (gft r4) ?_);refine w_7 ?_
  exact hx8 rfl rfl rfl (⟨CoC.refl _,(by rw [b37];exact CoC.refl _),(by rw [b37];exact CoC.refl _),(by rw [b37];exact CoC.refl _),ccb (by first | (simp only [b3l,b37];exact ahu) | exact (decide_eq_false b5o).symm),trivial⟩)
 have h3:=tz2 r3;(iterate 3 refine k9 (gft r3) ?_);refine w_2 ?_;(iterate 3 refine k9 rfl ?_);refine w_7 ?_
 exact hx8 rfl rfl rfl (⟨CoC.refl _,(by rw [b37];exact CoC.refl _),(by rw [b37];exact CoC.refl _),(by rw [b37];exact CoC.refl _),ccb (by first | (simp only [b3l,b37];exact ahu) | exact (decide_eq_false b5o).symm),trivial⟩)
end
section
section
variable {a b:Int}
def ad0 {n:Int} {l:List Rw} {p m:List Fd} {mu:Bool} {i:Int} (h:¬ ckE n l p m = 0):cn n l p m mu i a b = (0,[],ckE n l p m):=if_neg h
def j0 {n:Int} {l:List Rw} {p m:List Fd} {mu:Bool} {i:Int} (h:ckE n l p m = 0) (h3:ep l p m mu i a b):cn n l p m mu i a b = (0,[],1):=(if_pos h).trans (if_pos h3)
def a2e {n:Int} {l:List Rw} {p m:List Fd} {mu:Bool} {i:Int} (h:ckE n l p m = 0) (h3:¬ ep l p m mu i a b):cn n l p m mu i a b = bu n l p m (mu,i.toNat,a.toNat,b.toNat):=(if_pos h).trans (if_neg h3)
def jv (h:(if b < a then b else a) < 0):a < 0 \/ b < 0:=by split at h <;> omega
def jy {k:Int} (h:k <= (if a < b then b else a)):k <= a \/ k <= b:=by split at h <;> omega
def al2 (h:¬ (if b < a then b else a) < 0):0 <= a /\ 0 <= b:=by split at h <;> omega
def ajt {k:Int} (h:¬ k <= (if a < b then b else a)):a < k /\ b < k:=by split at h <;> omega
def stQ (x y:St):Bool:=(x.1 == y.1) && (decide ((x.2.1:Int) = (y.2.1:Int)) && (decide ((x.2.2.1:Int) = (y.2.2.1:Int)) && decide ((x.2.2.2:Int) = (y.2.2.2:Int))))
def afc {x y:St}:stQ x y = true <-> x = y:=by
 obtain ⟨a,b,c,d⟩:=x;obtain ⟨a',b',c',d'⟩:=y;unfold stQ;rw [b30,b30,b30,decide_eq_true_iff,decide_eq_true_iff,decide_eq_true_iff,beq_iff_eq];constructor
 · rintro ⟨h1,h2,h3,h4⟩
   have h1:a = a':=h1;have h2:(b:Int) = b':=h2;have h3:(c:Int) = c':=h3;have h4:(d:Int) = d':=h4;rw [h1,Int.ofNat.inj h2,Int.ofNat.inj h3,Int.ofNat.inj h4]
 intro h;simp only [b2w] at h;obtain ⟨rfl,rfl,rfl,rfl⟩:=h;exact ⟨rfl,rfl,rfl,rfl⟩
def ax8 {x y:St} (h:(!stQ x y) = false):x = y:=afc.1 (by rw [Bool.not_eq_false'] at h;exact h)
end
end
end Go.Hx

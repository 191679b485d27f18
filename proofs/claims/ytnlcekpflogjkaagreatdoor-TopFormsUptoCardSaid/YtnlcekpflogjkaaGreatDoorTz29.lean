/- A part of the proof: Hx27 Y1 Bz4 Y2 Y3 Bz5 Rb25 Rb34 Kw12 Sp1. -/
import Derived.Test.YtnlcekpflogjkaaGreatDoorTz28
set_option linter.all false
set_option maxRecDepth 100000
set_option maxHeartbeats 1000000
namespace Go.Hx
section
open Go.RowKit
section
variable {ro:Option Nat}{P:Program}{nt:Nat}{st:HSt}{Q:Exit->HSt->Prop}
def wh{w0:World}{cc:Ctx}{a:Act}{w:World}(hrr:ah w0 nt cc st.den a w){d:Nat}{x:HR}(hx:aq cc st.den.o x (a.tmps.getD d undef)):ah w0 nt cc (HSt.den ⟨(d,some x)::st.t,st.o⟩) a w:=by
 refine⟨hrr.defers,hrr.size,hrr.below,fun k y hy=>?_,hrr.objs,hrr.inj,hrr.imm,hrr.sep,hrr.was,hrr.frm,hrr.fsep,hrr.fixed⟩;simp only[HSt.den]at hy;rw[ay]at hy;dsimp only at hy;split at hy
 · rename_i hk
   subst hk;simp only[bsy]at hy;subst hy;exact hx
 exact hrr.tmps k y hy
section
variable {f:Nat->Nat->PV}
def b6a {c:Code} (d:Nat) {id n n' s:Nat} {wr:Bool} {e:TypeId} (hd:b5 st.t d=some (.v (.one (.ref id n)))) (ho:b5 st.o id=some (.arr wr s e n' f)) (hn:n'=n) (h:HW (ro:=ro) P nt c ⟨(d,some (.v (.one (.win id n 0 n))))::st.t,st.o⟩ Q):HW (ro:=ro) P nt c st Q:=by
 subst hn;refine tc st d _ (fun w0 m0 a w hr=>?_) h;obtain⟨cc,hold,hrr⟩:=hr;refine⟨cc,hold,hrr, ?_⟩;have hu:bh cc st.den.o (.ref id n') (a.tmps.getD d undef):=hrr.tmps d _ hd;refine⟨hu.1,hu.2.1,fun ob s2 e2 n2 ho2 hd2=>⟨(hu.2.2 _ _ _ _ ho2 hd2).1,fun hk=>?_⟩⟩;have he:=(hu.2.2 _ _ _ _ ho2 hd2).2 hk;obtain rfl:ob=.arr wr s e n' f:=Option.some.inj (ho2.symm.trans ho);simp only[aa.dim,bsy,bt7]at hd2;obtain⟨rfl,rfl,rfl⟩:=hd2;obtain⟨ad,cap,hv,hc1,hc2⟩:=a02 (hrr.objs _ _ ho2);exact⟨ad,ad,cap,hv,by rw[he,hv];rfl,by omega,hc1,hc2,fun _=>by cases ad<;>simp[pf]⟩
def baa{c:Code}(d dh:Nat){id n n' n0 k s:Nat}{e:TypeId}(hd:b5 st.t d=some (.v (.one (.ref id n))))(hh:b5 st.t dh=some (.v (.one (.win id k 0 n0))))(ho:b5 st.o id=some (.arr true s e n' f))(hn:n'=n)(hk:k=n)(hne:Nat.beq d dh=false)(hA:∀ad cap,n+1<=cap->HW (ro:=ro) P nt c ⟨(d,some (.v (.one (.pin id n ad cap))))::(dh,some (bp (.raw (.slice ad n0 cap))))::st.t,st.o⟩ Q)(hB:HW (ro:=ro) P nt c ⟨(d,some (bp (.sl n s true f)))::(dh,some (bp (.sl n0 s false f)))::st.t,(id,none)::st.o⟩ Q):HW (ro:=ro) P nt c st Q:=by
 subst hn hk;intro w0 m0 a w hr;obtain⟨cc,hold,hrr⟩:=hr;have hu:bh cc st.den.o (.ref id k) (a.tmps.getD d undef):=hrr.tmps d _ hd;have hv:bh cc st.den.o (.win id k 0 n0) (a.tmps.getD dh undef):=hrr.tmps dh _ hh;obtain⟨ad,ad',cap,q1,q2,q3,q4,q5,q6⟩:=a04 hv ho rfl;have hu1:=(hu.2.2 _ _ _ _ ho rfl).2 rfl;by_cases hc:k+1<=cap
 · obtain rfl:ad'=ad:=by
    rw[q6 bx5];cases ad<;>simp[pf]
   refine hA ad' cap hc w0 m0 a w ⟨cc,hold, ?_⟩;have h1:ah w0 nt cc (HSt.den ⟨(dh,some (bp (.raw (.slice ad' n0 cap))))::st.t,st.o⟩) a w:=wh hrr ⟨by simpa using q2,rfl⟩;refine wh (st:=⟨(dh,some (bp (.raw (.slice ad' n0 cap))))::st.t,st.o⟩) h1 ⟨hu1.trans q1,hu.2.1,hu.2.2⟩
 obtain rfl:cap=k:=by omega
 have hfr:=hrr.freeze (id:=id) ho;rw[<- ub]at hfr;refine hB w0 m0 a w ⟨{ old:=cc.old,imm:=frozenImm cc w id,tab:=zd hrr ho,own:=cc.own,blk:=cc.blk,rows:=cc.rows },hold, ?_⟩;have hfa:=vf hrr ho;have h1:=wh (st:=⟨st.t,(id,none)::st.o⟩) (d:=dh) (x:=bp (.sl n0 s false fun a b=>f (0+a) b)) hfr (afx hrr ho hv);have e0:(fun a b=>f (0+a) b)=f:=by funext a b;rw[bu1]
 rw[e0]at h1;refine wh (st:=⟨(dh,some (bp (.sl n0 s false f)))::st.t,(id,none)::st.o⟩) h1 ?_;rw[hu1];obtain⟨A,C,r1,r2,r3,r4,r5⟩:=hfa;refine⟨A,C,r1,r2,r3,fun _=>?_,r5⟩;rw[q1]at r1;simp only[Value.slice.injEq,true_and]at r1;exact r1.2.symm
def b3i {c:Code} (d dh:Nat) {id n n' n0 s cap:Nat} {ad:Option Addr} {e:TypeId} (hd:b5 st.t d=some (.v (.one (.pin id n ad cap)))) (hh:b5 st.t dh=some (bp (.raw (.slice ad n0 cap)))) (ho:b5 st.o id=some (.arr true s e n' f)) (hn:n'=n) (hle:n0<=n) (hne:Nat.beq d dh=false) (h:HW (ro:=ro) P nt c ⟨(d,some (.v (.one (.ref id n))))::(dh,some (.v (.one (.win id n 0 n0))))::st.t,st.o⟩ Q):HW (ro:=ro) P nt c st Q:=by
 subst hn;intro w0 m0 a w hr;obtain⟨cc,hold,hrr⟩:=hr;have hu:bh cc st.den.o (.pin id n' ad cap) (a.tmps.getD d undef):=hrr.tmps d _ hd;have hv:bh cc st.den.o (.p (.raw (.slice ad n0 cap))) (a.tmps.getD dh undef):=hrr.tmps dh _ hh;obtain⟨hv1,_⟩:=hv;have hu1:=(hu.2.2 _ _ _ _ ho rfl).2 rfl;refine h w0 m0 a w ⟨cc,hold, ?_⟩
 have h1:ah w0 nt cc (HSt.den ⟨(dh,some (.v (.one (.win id n' 0 n0))))::st.t,st.o⟩) a w:=by
  refine wh hrr ⟨by rw[hv1];rfl,hu.2.1,fun ob s2 e2 n2 ho2 hd2=>⟨(hu.2.2 _ _ _ _ ho2 hd2).1,fun hk=>?_⟩⟩;obtain rfl:ob=.arr true s e n' f:=Option.some.inj (ho2.symm.trans ho);simp only[aa.dim,bsy,bt7]at hd2;obtain⟨rfl,rfl,rfl⟩:=hd2;obtain⟨ad2,cap2,g1,g2,g3⟩:=a02 (hrr.objs _ _ ho2);have hown:cc.own id=.slice ad n' cap:=hu1.symm.trans hu.1;rw[hown]at g1;simp only[Value.slice.injEq,true_and]at g1;obtain⟨rfl,rfl⟩:=g1;exact⟨ad,ad,cap,hown,hv1,by omega,g2,g3,fun _=>by cases ad<;>simp[pf]⟩
 exact wh (st:=⟨(dh,some (.v (.one (.win id n' 0 n0))))::st.t,st.o⟩) h1 ⟨by rw[hu.1];rfl,hu.2.1,hu.2.2⟩
end
end
end
section
open Go.Proofs
def a9u{a b:AS}(h:bu .and .u32 (asI a) (asI b)=0):a&&&b=0:=cb.1 ((it a b).symm.trans h)
def a3q{a b:AS}(h:¬bu .and .u32 (asI a) (asI b)=0):¬a&&&b=0:=fun e=>h ((it a b).trans (congrArg asI e))
def b8g{a b:AS}(h:bu .andNot .u32 (asI a) (asI b)=0):a&&&~~~b=0:=cb.1 ((mc a b).symm.trans h)
def ayi{a b:AS}(h:¬bu .andNot .u32 (asI a) (asI b)=0):¬a&&&~~~b=0:=fun e=>h ((mc a b).trans (congrArg asI e))
def aa0{m:Fd}{x:AS}(h:¬x&&&m.lhs=0):dz m x=false:=by unfold dz;rw[decide_eq_false h];rfl
def a9b{m:Fd}{x:AS}(h:x&&&m.rhs=0):dz m x=false:=by simp[dz,h]
def aou (a b:AS):decide (bu .and .u32 (asI a) (asI b)=0)=decide (a&&&b=0):=by
 by_cases h:bu .and .u32 (asI a) (asI b)=0
 · rw[decide_eq_true h,decide_eq_true (a9u h)]
 rw[decide_eq_false h,decide_eq_false (a3q h)]
def bku (a b:AS):decide (bu .andNot .u32 (asI a) (asI b)=0)=decide (a&&&~~~b=0):=by
 by_cases h:bu .andNot .u32 (asI a) (asI b)=0
 · rw[decide_eq_true h,decide_eq_true (b8g h)]
 rw[decide_eq_false h,decide_eq_false (ayi h)]
def a9t (m:Fd) (x:AS):(bif (bif decide (bu .and .u32 (asI x) (asI m.lhs)=0)then !decide (bu .and .u32 (asI x) (asI m.rhs)=0)else false)then !decide (bu .andNot .u32 (asI x) (asI m.rhs)=0)else false)=dz m x:=by
 rw[aou,aou,bku];unfold dz;by_cases h1:x&&&m.lhs=0<;>by_cases h2:x&&&m.rhs=0<;>by_cases h3:x&&&~~~m.rhs=0<;>simp only[h1,h2,h3,decide_true,decide_false,ne_eq,not_true_eq_false,not_false_eq_true,bwx,bw8,cond_true,cond_false,Bool.and_self,Bool.and_true,bu0,Bool.and_false,Bool.false_and]
def yl {m:Fd} {l:List AS} {i:Nat} (c:Bool) (h:i<l.length) (hs:dz m (l.getD i default)=true):true=(c||(l.take (i+1)).any (dz m)):=by
 rw[aj h,List.any_append];simp only[List.any_cons,List.any_nil,hs,Bool.or_true,Bool.or_false]
def a7r {m:Fd} {l:List AS} {i:Nat} (c:Bool) (h:i<l.length) (hs:dz m (l.getD i default)=false):(c||(l.take i).any (dz m))=(c||(l.take (i+1)).any (dz m)):=by
 rw[aj h,List.any_append];simp only[List.any_cons,List.any_nil,hs,Bool.or_true,Bool.or_false]
def awi(x:Nat×List AS×Bool):Nat:=x.1+(bif x.2.2 then 1 else 0)
def bfa {f:Nat} {l l':List AS} {c:Bool} (h:0<f):awi (f-1,l',c)<awi (f,l,true):=by
 cases c<;>simp only[awi,cond_true,cond_false]<;>omega
def as4(n:Int)(ms:List Fd)(x:AS)(h0:0<=n)(h1:n<=16):a7 bxr 117 [pI n,pP (fdl ms),pA x] (ae [pP (asl (ord (blks ms (a6 n&&&~~~x))))]):=by
 refine hpx (nt:=76) Tryz.func117 ?_;refine e9 1 rfl fun hn=>?_;have hrest:bu .andNot .u32 (IntKind.wrap .u32 (1*2^(min n.toNat 32))-1) (asI x)=asI (a6 n&&&~~~x):=by rw[og h0 h1,mc]
 refine w_8 ?_;refine d8 7 900 true 1 50 (lf sC []) bxc rfl (CoP.sl rfl (.inr rfl) (fun h=>h) (fun i j hi _=>absurd hi (bt9 i))) (.inr rfl) rfl ?_;refine a1y (ka 1 kn) km ⟨[(7,some (.v (.one (.ref 900 (l7 (a6 n&&&~~~x)).length))))],[(900,some (.arr true 1 50 (l7 (a6 n&&&~~~x)).length (lf sC (l7 (a6 n&&&~~~x)))))]⟩ ?_ ?_
 ·
  refine w_4 ?_;refine rq rfl rfl rfl rfl rfl ?_ (hp:=⟨om h0 h1,nf h0 h1⟩);refine w_9 ?_;refine hcn ?_ ?_<;>intro h0
  · have hne:¬(a6 n&&&~~~x)=0:=fun e=>h0 (hrest.trans (congrArg asI e));refine w_3 ?_;refine m9 0 ?_;refine r9 1 true ?_;refine w_2 ?_;exact⟨⟨⟨_,rfl,(by first|exact bo (a9v hne)|exact be (a8z hz))⟩,tt⟩,⟨⟨_,rfl,(by first|exact bq (a9v hne) (CoP.of_eq (congrArg (fun z=>PV.raw (.int .u32 z)) hrest))|exact az (a8z hz))⟩,trivial⟩⟩
  have hz:(a6 n&&&~~~x)=0:=cb.1 (hrest.symm.trans h0);refine fk ?_;exact⟨⟨⟨_,rfl,(by first|exact bo (a9v hne)|exact be (a8z hz))⟩,tt⟩,⟨⟨_,rfl,(by first|exact bq (a9v hne) (CoP.of_eq (congrArg (fun z=>PV.raw (.int .u32 z)) hrest))|exact az (a8z hz))⟩,trivial⟩⟩
 refine w_6 ?_;refine am (ι:=(Nat×List AS×Bool)) (ka 1 kn) km (fun y=>⟨[(7,some (.v (.one (.ref 900 y.2.1.length)))),(9,some (vB y.2.2))],[(900,some (.arr true 1 50 y.2.1.length (lf sC y.2.1)))]⟩) (fun y=>BkI ms (blks ms (a6 n&&&~~~x)) y) (fun y=>awi y) ((18446744073709551616,l7 (a6 n&&&~~~x),true)) (b5a ms (a6 n&&&~~~x)) kk ?_;rintro⟨f,l,ag⟩ hI;refine w_5 ?_;refine ax _ rfl ?_ ?_<;>intro r1
 ·
  have h1:=r1;obtain rfl:ag=true:=r1;obtain⟨hI2,hf⟩:=bdi hI;have hok:=hI.ok;refine mq ?_;refine bw (ka 1 (ka 26 (ka 27 kn))) km (fun j=>⟨[(7,some (.v (.one (.ref 900 (cg (ms.take j) l).length)))),(9,some (vB (ns (ms.take j) l))),(28,some (vI j))],[(900,some (.arr true 1 50 (cg (ms.take j) l).length (lf sC (cg (ms.take j) l))))]⟩) ms.length ⟨⟨zy,⟨_,rfl,(CoR.refl _)⟩,tt⟩,uu⟩ ?_;rintro j hj;have hokj:OkB (cg (ms.take j) l):=a9p hok;have hlj:=agp (b0a (m:=(ms.getD j default)) hokj);refine w_5 ?_;refine hcd ?_ ?_<;>intro h2
  ·
   refine w_7 ?_;refine m9 2 ?_;refine w_9 ?_;refine b6a 32 rfl rfl rfl ?_;refine am (ι:=(Nat×Bool)) (ka 1 (ka 11 (ka 26 (ka 27 (ka 28 (ka 33 kn)))))) (kb 2 km) (fun y=>⟨[(7,some (.v (.one (.ref (bif y.2 then 900 else 951) (stB (ms.getD j default) (cg (ms.take j) l) y.1).length)))),(9,some (vB (ns (ms.take j) l||((cg (ms.take j) l).take y.1).any (dz (ms.getD j default))))),(34,some (vI y.1)),(32,some (bif y.2 then .v (.one (.win 900 (stB (ms.getD j default) (cg (ms.take j) l) y.1).length 0 (cg (ms.take j) l).length))else bp (.sl (cg (ms.take j) l).length 1 false (a6h (cg (ms.take j) l) y.1))))],[(bif y.2 then 900 else 951,some (.arr true 1 50 (stB (ms.getD j default) (cg (ms.take j) l) y.1).length (lf sC (stB (ms.getD j default) (cg (ms.take j) l) y.1))))]⟩) (fun y=>y.1<=(cg (ms.take j) l).length) (fun y=>(cg (ms.take j) l).length-y.1) ((0,true)) (bt6 _) ⟨⟨⟨_,rfl,(be (acx _ _))⟩,⟨_,rfl,(cob bx8)⟩,⟨_,rfl,(CoR.refl _)⟩,⟨_,rfl,(CoR.of_eq (by rw[acx];rfl))⟩,trivial⟩,⟨⟨_,rfl,(az (acx _ _))⟩,trivial⟩⟩ ?_;rintro⟨i,b⟩ hi;have hi:i<=(cg (ms.take j) l).length:=hi;have hsl:=bg0 (ms.getD j default) (cg (ms.take j) l) i;have hsl2:=as1 (ms.getD j default) (cg (ms.take j) l) i
   rcases b with _|_
   ·
    show HW _ _ _ ⟨_::_,_⟩ _;refine w_5 ?_;refine hcd ?_ ?_<;>intro h3
    ·
     have hil:i<(cg (ms.take j) l).length:=by omega
     refine w_7 ?_;refine rq (out:=⟨_, .v (.one (.p (asC ((cg (ms.take j) l).getD i default))))⟩) rfl rfl rfl (congrArg (fun z=>some (Out.mk _ (HR.v (HC.one (HV.p z))))) (bc8 (cg (ms.take j) l) i)) rfl ?_;refine w_3 ?_;refine a1y (ka 1 (ka 7 (ka 9 (ka 11 (ka 12 (ka 13 (ka 26 (ka 27 (ka 28 (ka 32 (ka 33 (ka 34 kn)))))))))))) (kb 2 km) ⟨[(57,some (vB (dz (ms.getD j default) ((cg (ms.take j) l).getD i default))))],[(951,some (.arr true 1 50 (stB (ms.getD j default) (cg (ms.take j) l) i).length (lf sC (stB (ms.getD j default) (cg (ms.take j) l) i))))]⟩ ?_ ?_
     ·
      refine w_7 ?_;refine al rfl rfl ?_ ?_<;>intro r4
      ·
       have h4:=tz1 r4;have g1:((cg (ms.take j) l).getD i default)&&&(ms.getD j default).lhs=0:=a9u h4;(iterate 5 refine qy ?_ (hg:=(gtt r4)));refine w_2 ?_;refine al rfl rfl ?_ ?_<;>intro r5
       ·
        have h5:=tz2 (cj (br r4 r5));have g2:¬((cg (ms.take j) l).getD i default)&&&(ms.getD j default).rhs=0:=a3q h5;(iterate 5 refine qy ?_ (hg:=(gtt r5)));refine w_2 ?_
        exact⟨⟨⟨_,rfl,(cob (by first|exact a9t _ _|exact(aa0 g1).symm|exact(a9b g2).symm))⟩,tt⟩,uu⟩
       have h5:=tz1 (cn (br r4 r5));have g2:((cg (ms.take j) l).getD i default)&&&(ms.getD j default).rhs=0:=a9u h5;(iterate 5 refine k9 (gft r5) ?_);refine w_2 ?_
       exact⟨⟨⟨_,rfl,(cob (by first|exact a9t _ _|exact(aa0 g1).symm|exact(a9b g2).symm))⟩,tt⟩,uu⟩
      have h4:=tz2 r4;have g1:¬((cg (ms.take j) l).getD i default)&&&(ms.getD j default).lhs=0:=a3q h4;(iterate 5 refine k9 (gft r4) ?_);refine w_2 ?_;(iterate 5 refine k9 rfl ?_);refine w_2 ?_
      exact⟨⟨⟨_,rfl,(cob (by first|exact a9t _ _|exact(aa0 g1).symm|exact(a9b g2).symm))⟩,tt⟩,uu⟩
     refine ax _ rfl ?_ ?_<;>intro r6
     ·
      have h6:=r6;have hs:dz (ms.getD j default) ((cg (ms.take j) l).getD i default)=true:=r6;have hl2:(stB (ms.getD j default) (cg (ms.take j) l) (i+1)).length=(stB (ms.getD j default) (cg (ms.take j) l) i).length+1:=by rw[alb hil hs,bt8,buv];rfl
      refine abw ?_;refine m9 3 ?_;refine r9 4 true ?_;refine w_9 ?_
      first | (refine lpz (i+1, false) ⟨⟨⟨_, rfl, (CoR.of_eq (congrArg (fun z => HR.v (.one (.ref 951 z))) hl2.symm))⟩, ⟨_, rfl, (cob (yl _ hil hs))⟩, ⟨_, rfl, (CoR.refl _)⟩, ⟨_, rfl, (CoC.one (aad rfl))⟩, tt⟩, ⟨⟨_, rfl, (y8 hil hs rfl (it _ _) (CoP.of_eq (congrArg (fun z => PV.raw (.int .u32 z)) (mc _ _))))⟩, uu⟩⟩ ?_; show i+1<=_; omega)
            |(refine lpz (i+1,false) ⟨⟨⟨_,rfl,(be (qe hil hs))⟩,⟨_,rfl,(cob (a7r _ hil hs))⟩,⟨_,rfl,(CoR.refl _)⟩,⟨_,rfl,(CoC.one (aad rfl))⟩,tt⟩,⟨⟨_,rfl,(az (qe hil hs))⟩,uu⟩⟩ ?_;show i+1<=_;omega)
     have h6:=r6;have hs:dz (ms.getD j default) ((cg (ms.take j) l).getD i default)=false:=r6;refine w_5 ?_
     first | (refine lpz (i+1, false) ⟨⟨⟨_, rfl, (CoR.of_eq (congrArg (fun z => HR.v (.one (.ref 951 z))) hl2.symm))⟩, ⟨_, rfl, (cob (yl _ hil hs))⟩, ⟨_, rfl, (CoR.refl _)⟩, ⟨_, rfl, (CoC.one (aad rfl))⟩, tt⟩, ⟨⟨_, rfl, (y8 hil hs rfl (it _ _) (CoP.of_eq (congrArg (fun z => PV.raw (.int .u32 z)) (mc _ _))))⟩, uu⟩⟩ ?_; show i+1<=_; omega)
           |(refine lpz (i+1,false) ⟨⟨⟨_,rfl,(be (qe hil hs))⟩,⟨_,rfl,(cob (a7r _ hil hs))⟩,⟨_,rfl,(CoR.refl _)⟩,⟨_,rfl,(CoC.one (aad rfl))⟩,tt⟩,⟨⟨_,rfl,(az (qe hil hs))⟩,uu⟩⟩ ?_;show i+1<=_;omega)
    obtain rfl:i=(cg (ms.take j) l).length:=by omega
    refine a8j 7 900 rfl rfl rfl rfl ?_;refine w_5 ?_;exact lpx (j+1) ⟨⟨⟨_,rfl,(be (by rw[a5v bx5,a4f]))⟩,⟨_,rfl,(cob (by rw[alo bx5,btb]))⟩,tt⟩,⟨⟨_,rfl,(az (by rw[a5v bx5,a4f]))⟩,trivial⟩⟩
   show HW _ _ _ ⟨_::_,_⟩ _;refine w_5 ?_;refine hcd ?_ ?_<;>intro h7
   ·
    have hil:i<(cg (ms.take j) l).length:=by omega
    refine w_7 ?_;refine rq (out:=⟨_, .v (.one (.p (asC ((cg (ms.take j) l).getD i default))))⟩) rfl rfl rfl (congrArg (fun z=>some (Out.mk _ (HR.v (HC.one (HV.p z))))) ((show lf sC (stB (ms.getD j default) (cg (ms.take j) l) i) (0+i) 0=_ by rw[bu1];exact congrArg asC (bf7 hil)))) rfl ?_;refine w_3 ?_;refine a1y (ka 1 (ka 7 (ka 9 (ka 11 (ka 12 (ka 13 (ka 26 (ka 27 (ka 28 (ka 32 (ka 33 (ka 34 kn)))))))))))) (kb 2 km) ⟨[(57,some (vB (dz (ms.getD j default) ((cg (ms.take j) l).getD i default))))],[(900,some (.arr true 1 50 (stB (ms.getD j default) (cg (ms.take j) l) i).length (lf sC (stB (ms.getD j default) (cg (ms.take j) l) i))))]⟩ ?_ ?_
    ·
     refine w_7 ?_;refine al rfl rfl ?_ ?_<;>intro r8
     ·
      have h8:=tz1 r8;have g1:((cg (ms.take j) l).getD i default)&&&(ms.getD j default).lhs=0:=a9u h8;(iterate 5 refine qy ?_ (hg:=(gtt r8)));refine w_2 ?_;refine al rfl rfl ?_ ?_<;>intro r9
      ·
       have h9:=tz2 (cj (br r8 r9));have g2:¬((cg (ms.take j) l).getD i default)&&&(ms.getD j default).rhs=0:=a3q h9;(iterate 5 refine qy ?_ (hg:=(gtt r9)));refine w_2 ?_
       exact⟨⟨⟨_,rfl,(cob (by first|exact a9t _ _|exact(aa0 g1).symm|exact(a9b g2).symm))⟩,tt⟩,uu⟩
      have h9:=tz1 (cn (br r8 r9));have g2:((cg (ms.take j) l).getD i default)&&&(ms.getD j default).rhs=0:=a9u h9;(iterate 5 refine k9 (gft r9) ?_);refine w_2 ?_
      exact⟨⟨⟨_,rfl,(cob (by first|exact a9t _ _|exact(aa0 g1).symm|exact(a9b g2).symm))⟩,tt⟩,uu⟩
     have h8:=tz2 r8;have g1:¬((cg (ms.take j) l).getD i default)&&&(ms.getD j default).lhs=0:=a3q h8;(iterate 5 refine k9 (gft r8) ?_);refine w_2 ?_;(iterate 5 refine k9 rfl ?_);refine w_2 ?_
     exact⟨⟨⟨_,rfl,(cob (by first|exact a9t _ _|exact(aa0 g1).symm|exact(a9b g2).symm))⟩,tt⟩,uu⟩
    refine ax _ rfl ?_ ?_<;>intro r10
    ·
     have h10:=r10;have hs:dz (ms.getD j default) ((cg (ms.take j) l).getD i default)=true:=r10;have hl2:(stB (ms.getD j default) (cg (ms.take j) l) (i+1)).length=(stB (ms.getD j default) (cg (ms.take j) l) i).length+1:=by rw[alb hil hs,bt8,buv];rfl
     refine gh ?_;refine baa 7 32 rfl rfl rfl rfl rfl rfl (fun ad cap hcap=>?_) ?_
     ·
      refine w_6 ?_;refine m9 5 ?_;refine r9 6 true ?_;refine w_2 ?_;refine b3i 7 32 rfl rfl rfl rfl (by dsimp only at *;omega) rfl ?_;refine w_7 ?_
      first | (refine lpz (i+1, true) ⟨⟨⟨_, rfl, (CoR.of_eq (congrArg (fun z => HR.v (.one (.ref 900 z))) hl2.symm))⟩, ⟨_, rfl, (cob (yl _ hil hs))⟩, ⟨_, rfl, (CoR.refl _)⟩, ⟨_, rfl, (CoR.of_eq (congrArg (fun z => HR.v (.one (.win 900 z 0 _))) hl2.symm))⟩, tt⟩, ⟨⟨_, rfl, (y8 hil hs rfl (it _ _) (CoP.of_eq (congrArg (fun z => PV.raw (.int .u32 z)) (mc _ _))))⟩, uu⟩⟩ ?_; show i+1<=_; omega)
            |(refine lpz (i+1,false) ⟨⟨⟨_,rfl,(CoR.of_eq (congrArg (fun z=>HR.v (.one (.ref 951 z))) hl2.symm))⟩,⟨_,rfl,(cob (yl _ hil hs))⟩,⟨_,rfl,(CoR.refl _)⟩,⟨_,rfl,(CoC.one (ap8 hil))⟩,tt⟩,⟨⟨_,rfl,(y8 hil hs rfl (it _ _) (CoP.of_eq (congrArg (fun z=>PV.raw (.int .u32 z)) (mc _ _))))⟩,uu⟩⟩ ?_;show i+1<=_;omega)
            |(refine lpz (i+1,true) ⟨⟨⟨_,rfl,(be (qe hil hs))⟩,⟨_,rfl,(cob (a7r _ hil hs))⟩,⟨_,rfl,(CoR.refl _)⟩,⟨_,rfl,(CoR.of_eq (congrArg (fun z=>HR.v (.one (.win 900 z 0 _))) (congrArg List.length (qe hil hs)).symm))⟩,tt⟩,⟨⟨_,rfl,(az (qe hil hs))⟩,uu⟩⟩ ?_;show i+1<=_;omega)
     refine w_6 ?_;refine m9 950 ?_;refine r9 951 true ?_;refine w_9 ?_
     first | (refine lpz (i+1, true) ⟨⟨⟨_, rfl, (CoR.of_eq (congrArg (fun z => HR.v (.one (.ref 900 z))) hl2.symm))⟩, ⟨_, rfl, (cob (yl _ hil hs))⟩, ⟨_, rfl, (CoR.refl _)⟩, ⟨_, rfl, (CoR.of_eq (congrArg (fun z => HR.v (.one (.win 900 z 0 _))) hl2.symm))⟩, tt⟩, ⟨⟨_, rfl, (y8 hil hs rfl (it _ _) (CoP.of_eq (congrArg (fun z => PV.raw (.int .u32 z)) (mc _ _))))⟩, uu⟩⟩ ?_; show i+1<=_; omega)
           |(refine lpz (i+1,false) ⟨⟨⟨_,rfl,(CoR.of_eq (congrArg (fun z=>HR.v (.one (.ref 951 z))) hl2.symm))⟩,⟨_,rfl,(cob (yl _ hil hs))⟩,⟨_,rfl,(CoR.refl _)⟩,⟨_,rfl,(CoC.one (ap8 hil))⟩,tt⟩,⟨⟨_,rfl,(y8 hil hs rfl (it _ _) (CoP.of_eq (congrArg (fun z=>PV.raw (.int .u32 z)) (mc _ _))))⟩,uu⟩⟩ ?_;show i+1<=_;omega)
           |(refine lpz (i+1,true) ⟨⟨⟨_,rfl,(be (qe hil hs))⟩,⟨_,rfl,(cob (a7r _ hil hs))⟩,⟨_,rfl,(CoR.refl _)⟩,⟨_,rfl,(CoR.of_eq (congrArg (fun z=>HR.v (.one (.win 900 z 0 _))) (congrArg List.length (qe hil hs)).symm))⟩,tt⟩,⟨⟨_,rfl,(az (qe hil hs))⟩,uu⟩⟩ ?_;show i+1<=_;omega)
    have h10:=r10;have hs:dz (ms.getD j default) ((cg (ms.take j) l).getD i default)=false:=r10;refine w_5 ?_
    first | (refine lpz (i+1, true) ⟨⟨⟨_, rfl, (CoR.of_eq (congrArg (fun z => HR.v (.one (.ref 900 z))) hl2.symm))⟩, ⟨_, rfl, (cob (yl _ hil hs))⟩, ⟨_, rfl, (CoR.refl _)⟩, ⟨_, rfl, (CoR.of_eq (congrArg (fun z => HR.v (.one (.win 900 z 0 _))) hl2.symm))⟩, tt⟩, ⟨⟨_, rfl, (y8 hil hs rfl (it _ _) (CoP.of_eq (congrArg (fun z => PV.raw (.int .u32 z)) (mc _ _))))⟩, uu⟩⟩ ?_; show i+1<=_; omega)
          |(refine lpz (i+1,false) ⟨⟨⟨_,rfl,(CoR.of_eq (congrArg (fun z=>HR.v (.one (.ref 951 z))) hl2.symm))⟩,⟨_,rfl,(cob (yl _ hil hs))⟩,⟨_,rfl,(CoR.refl _)⟩,⟨_,rfl,(CoC.one (ap8 hil))⟩,tt⟩,⟨⟨_,rfl,(y8 hil hs rfl (it _ _) (CoP.of_eq (congrArg (fun z=>PV.raw (.int .u32 z)) (mc _ _))))⟩,uu⟩⟩ ?_;show i+1<=_;omega)
          |(refine lpz (i+1,true) ⟨⟨⟨_,rfl,(be (qe hil hs))⟩,⟨_,rfl,(cob (a7r _ hil hs))⟩,⟨_,rfl,(CoR.refl _)⟩,⟨_,rfl,(CoR.of_eq (congrArg (fun z=>HR.v (.one (.win 900 z 0 _))) (congrArg List.length (qe hil hs)).symm))⟩,tt⟩,⟨⟨_,rfl,(az (qe hil hs))⟩,uu⟩⟩ ?_;show i+1<=_;omega)
   obtain rfl:i=(cg (ms.take j) l).length:=by omega
   refine w_5 ?_;exact lpx (j+1) ⟨⟨⟨_,rfl,(be (by rw[a5v bx5,a4f]))⟩,⟨_,rfl,(cob (by rw[alo bx5,btb]))⟩,tt⟩,⟨⟨_,rfl,(az (by rw[a5v bx5,a4f]))⟩,trivial⟩⟩
  obtain rfl:j=ms.length:=by omega
  rw[show ms.take ms.length=ms from btb];refine ek ?_;refine⟨(f-1,cg ms l,ns ms l), ?_, ?_, ?_⟩
  · exact hI2
  · exact bfa hf
  exact kk
 have h1:=r1;obtain rfl:ag=false:=r1;have hl:l=(blks ms (a6 n&&&~~~x)):=hI.f rfl;subst hl;refine w_2 ?_;refine bj 7 rfl rfl rfl ?_;refine w_2 ?_;refine qcx uo (a40 (blks ms (a6 n&&&~~~x)) (bth (agp hI.ok) bxc)) ?_;refine v_2 ?_;exact CoL.refl _
end
section
def bc6 {f:Fd} {k:Nat} (h:k<(ak f.rhs).length):(sgl f).getD k default=⟨f.lhs,lb ((ak f.rhs).getD k default)⟩:=by
 unfold sgl;simp[bt1,bt0 h]
def ads(f:Fd):(sgl f).length=(ak f.rhs).length:=by unfold sgl;rw[btw]
def auf {fs ms:List Fd} {i k:Nat} (h:k<(ak (fs.getD i default).rhs).length):mo fs ms i (k+1)=mo fs ms i k++[⟨(fs.getD i default).lhs,lb ((ak (fs.getD i default).rhs).getD k default)⟩]:=by
 rw[b2a (by rw[ads];exact h),bc6 h]
def ate{fs ms:List Fd}{i:Nat}(h:i<fs.length):mo fs ms (i+1) 0=mo fs ms i (ak (fs.getD i default).rhs).length:=by rw[b1k h,ads]
def bcd {a b:AS} {k:Nat} (h:sub a b) (hb:b>>>k=0):a>>>k=0:=by
 apply t8;intro i hi;have:=congrArg (fun z:AS=>z.getLsbD i) hb;simp only[bwk]at this ⊢
 cases ha:a.getLsbD (k+i) with
 |false=>simp
 |true=>rw[ai.1 h _ (a7t ha) ha]at this;simp at this
def a12(b:AS)(f:Fd):Bool:=!decide ((f.rhs&&&~~~f.lhs)&&&b=0)
def w9(l:List Fd)(o b:AS):AS:=if bsz b=1 then(if l.any (a12 b)=true then o|||b else o)else o
def vn(l:List Fd)(o:AS)(bs:List AS):AS:=bs.foldl (w9 l) o
def a6f {l:List Fd} {o:AS} {bs:List AS} {i:Nat} (h:i<bs.length):vn l o (bs.take (i+1))=w9 l (vn l o (bs.take i)) (bs.getD i default):=by
 unfold vn;rw[aj h,btr];rfl
section
variable {l:List Fd}{o:AS}{bs:List AS}{i:Nat}
def alq(h:i<bs.length)(hq:¬bsz (bs.getD i default)=1):vn l o (bs.take i)=vn l o (bs.take (i+1)):=by rw[a6f h,w9,if_neg hq]
def apk(h:i<bs.length)(hq:bsz (bs.getD i default)=1)(ha:l.any (a12 (bs.getD i default))=false):vn l o (bs.take i)=vn l o (bs.take (i+1)):=by rw[a6f h,w9,if_pos hq,if_neg (by rw[ha];decide)]
def amy(h:i<bs.length)(hq:bsz (bs.getD i default)=1)(ha:l.any (a12 (bs.getD i default))=true):vn l o (bs.take i)|||bs.getD i default=vn l o (bs.take (i+1)):=by rw[a6f h,w9,if_pos hq,if_pos ha]
end
def ge(n:Int)(l m:List Fd)(x:AS):List AS:=ord (blks (ll l m) (a6 n&&&~~~x))
def b30(n:Int)(l m:List Fd)(x:AS):List AS:=if ckB n l m x=0 then ge n l m x else[]
def w6(n:Int)(l m:List Fd)(x:AS):AS:=vn l x (ge n l m x)
def aw4(n:Int)(l m:List Fd)(x:AS):AS:=if ckB n l m x=0 then w6 n l m x else 0
def b67(ms:List Fd)(rest:AS):OkB (blks ms rest):=by
 have:∀(f:Nat) (l:List AS),OkB l->OkB (yu ms f l):=by
  intro f
  induction f with
  |zero=>intro l h;exact h
  | succ f ih =>
   intro l h;unfold yu;split
   · exact ih _ (a9p h)
   exact a9p h
 exact this _ _ (ak7 rest)
def acj(n:Int)(l m:List Fd)(x:AS):(ge n l m x).length<=4294967296:=bth (pn _) (agp (b67 _ _))
def sy(p:AS)(bs:List AS):List AS:=(bs.filter fun b=>!decide (b&&&p=0)).map fun b=>b&&&p
section
variable {i:Nat}{p:AS}
def ag2 {bs:List AS} (h:i<bs.length) (hq:¬bs.getD i default&&&p=0):sy p (bs.take (i+1))=sy p (bs.take i)++[bs.getD i default&&&p]:=by
 unfold sy;rw[aj h,bu6,bux,buf,if_pos (by rw[decide_eq_false hq];rfl)];rfl
def aea {bs:List AS} (h:i<bs.length) (hq:bs.getD i default&&&p=0):sy p (bs.take (i+1))=sy p (bs.take i):=by
 unfold sy;rw[aj h,bu6,bux,buf,if_neg (by rw[decide_eq_true hq];decide)];simp
def apd (p:AS) (bs:List AS):(sy p bs).length<=bs.length:=by
 unfold sy;rw[btw];exact buo _ _
def qr(n:Int)(l m:List Fd)(x p:AS):List AS:=ord (sy p (ge n l m x))
def as6(n:Int)(l m:List Fd)(x p:AS):(sy p (ge n l m x)).length<=8589934592:=bth (apd _ _) (bth (acj _ _ _ _) bxc)
def ck4(n:Int)(l m:List Fd)(s:AS):Int:=if n<0\/8<n then 7 else ckB n l m s
variable {l m:List Fd}{n:Int}{s:AS}
def b87(h:n<0\/8<n):ck4 n l m s=7:=if_pos h
def a5g(h:¬(n<0\/8<n)):ck4 n l m s=ckB n l m s:=if_neg h
def af9 (h:ck4 n l m s=0):0<=n/\n<=8/\ckB n l m s=0:=by
 unfold ck4 at h;split at h
 · cases h
 exact⟨by omega,by omega,h⟩
def ahp{t:AS}(h:ckB n l m s=0)(ht:sub t s):ckB n l m t=0:=aag (a8v h).1 (bcd ht (a8v h).2)
def beb {t:AS} (h:ck4 n l m s=0) (ht:sub t s):ck4 n l m t=0:=by
 obtain⟨h1,h2,h3⟩:=af9 h;rw[a5g bx5];exact ahp h3 ht
def b3l(n:Int)(l m:List Fd)(x p:AS):List AS:=if ck4 n l m (x|||p)=0 then qr n l m x p else[]
def a5s(n:Int)(l m:List Fd)(p x:AS):Option Fd:=if p&&&~~~(w6 n l m x)=0 then none else if 1<(qr n l m x p).length then some ⟨x,(qr n l m x p).getD 0 default⟩else none
def vt(n:Int)(l m:List Fd)(p:AS):Option Fd:=(b6 p).findSome? (a5s n l m p)
def ave:Option Fd->Fd×Bool
 |some v=>(v,true)
 |none=>(⟨0,0⟩,false)
def abu(n:Int)(l m:List Fd)(p:AS):Fd×Bool:=if ck4 n l m p=0 then ave (vt n l m p) else(⟨0,0⟩,false)
def bh1(h:¬ck4 n l m p=0):abu n l m p=(⟨0,0⟩,false):=if_neg h
def a6m(h:ck4 n l m p=0):abu n l m p=ave (vt n l m p):=if_pos h
def a74 {α β:Type} [Inhabited α] {f:α->Option β} {l:List α} (h:i<l.length) (hn:(l.take i).findSome? f=none):(l.take (i+1)).findSome? f=f (l.getD i default):=by
 rw[aj h,List.findSome?_append,hn];simp only[List.findSome?_cons,List.findSome?_nil,Option.none_or];cases f (l.getD i default)<;>rfl
def b1a {α β:Type} [Inhabited α] {f:α->Option β} {l:List α} {v:β} (h:i<l.length) (hn:(l.take i).findSome? f=none) (hv:f (l.getD i default)=some v):l.findSome? f=some v:=by
 have h1:=a74 h hn;rw[hv]at h1;rw[<- List.take_append_drop (i+1) l,List.findSome?_append,h1];rfl
def ajc {z:AS} (h:z∈b6 s):sub z s:=by
 unfold b6 at h;split at h
 · cases h
 exact qn.1 h
def b0x {α:Type} [Inhabited α] {l:List α} (h:i<l.length):l.getD i default∈l:=by
 rw[bt1,bt0 h];exact bti h
def a5a{x c:AS}:c∈qr n l m x p<->∃b∈blks (ll l m) (a6 n&&&~~~x),b&&&p≠0/\c=b&&&p:=by
 unfold qr sy ge;rw[ly,bto];constructor
 · rintro ⟨b,hb,rfl⟩
   rw[buw,ly]at hb;exact⟨b,hb.1,by simpa using hb.2,rfl⟩
 rintro⟨b,hb,h,rfl⟩;exact⟨b,buw.2 ⟨ly.2 hb,by simpa using h⟩,rfl⟩
def br1(V:AS->Option Fd):Prop:=∀p v,V p=some v->sub (v.lhs|||v.rhs) p/\v.lhs|||v.rhs≠p/\p&&&~~~v.rhs≠p
end
section
variable {V:AS->Option Fd}
def vF(V:AS->Option Fd)(s:AS):Fd:=(ave (V s)).1
def vBo(V:AS->Option Fd)(s:AS):Bool:=(ave (V s)).2
def bj7(V:AS->Option Fd)(s:AS):AS:=(vF V s).lhs|||(vF V s).rhs
def biz(V:AS->Option Fd)(s:AS):AS:=s&&&~~~(vF V s).rhs
def apc (V:AS->Option Fd):Nat->List AS->List AS->List AS
 |0,_,out=>out
 | n+1,todo,out =>
  if todo.length=0 then out
  else if vBo V (todo.getD (todo.length-1) default)=true then apc V n (todo.take (todo.length-1)++[bj7 V (todo.getD (todo.length-1) default),biz V (todo.getD (todo.length-1) default)]) out
  else apc V n (todo.take (todo.length-1)) (out++[todo.getD (todo.length-1) default])
def bs5(V:AS->Option Fd)(p0:AS)(x:Nat×List AS×List AS):Prop:=apc V x.1 x.2.1 x.2.2=apc V 6562 [p0] []/\bg9 x.2.1<x.1/\x.2.2.length+x.1<=6562
def lvG (V:AS->Option Fd):Nat->AS->List AS
 |0,s=>[s]
 |n+1,s=>if vBo V s=true then lvG V n (bj7 V s)++lvG V n (biz V s) else[s]
end
def bpp(n:Int)(l m:List Fd):List AS:=apc (vt n l m) 6562 [a6 n] []
def brt(n:Int)(l m:List Fd):List AS:=if ck4 n l m 0=0 then dl (bpp n l m) else[]
end
section
open Go.Proofs
def bil(n:Nat)(c:Bool)(f:Nat->Nat->PV)(hn:n<=17592186044416) :
 dv bxr 172 [.one (.p (.sl n 2 c f))] [] (.v (.one (.ref 0 n))) [(0, .arr true 2 52 n f)] []:=by
 refine hfx (nt:=8) Tryz.func172 ?_;refine sx7 ?_;refine du true rfl rfl rfl rfl rfl trivial ?_;refine dq ?_;refine a9n (ι:=Bool) (fun c=>⟨[(0,some (bp (.sl n 2 c f)))],[]⟩) (fun _=>True) ?_ fun c _=>?_
 · rcases buz n with hz|h0
   · subst hz
     refine hw_exact' 0 rfl fun ad cap hcap=>?_;refine sx7 ?_;(iterate 2 refine du true rfl rfl rfl rfl rfl trivial ?_);refine dq ?_;refine ax ad.isNone rfl ?_ ?_<;>intro hc
     · refine sx7 ?_
       refine du true rfl rfl rfl rfl rfl trivial ?_;refine dq ?_;refine d8 2 0 true 2 52 f bxc rfl (CoP.sl rfl (.inr rfl) (fun h=>h) fun i j hi _=>absurd hi (bt9 i)) (.inr rfl) rfl ?_;refine hrr ?_;exact⟨_,_,rfl,trivial,CoR.refl _,uu⟩
     refine fk ?_;exact⟨false,trivial,⟨⟨_,rfl,CoP.raw_sl hcap⟩,trivial⟩,trivial⟩
   refine sx7 ?_;refine du true rfl rfl rfl rfl rfl trivial ?_;refine du true rfl rfl rfl rfl rfl h0 ?_;refine dq ?_;refine ax false rfl (fun hc=>by cases hc) (fun hc=>?_);refine fk ?_;exact⟨c,trivial,tt,trivial⟩
 refine sx7 ?_;refine a36 0 rfl rfl rfl rfl rfl rfl trivial ?_;refine du true rfl rfl rfl rfl rfl trivial ?_;refine a7e 0 true rfl rfl rfl rfl rfl rfl ⟨trivial,rfl,rfl,rfl, .inl rfl,by show 0+n<=9223372036854775807;omega,by show(0+n)*8<=140737488355328;omega,fun _=>.inl rfl⟩ ?_;refine du true rfl rfl rfl rfl rfl trivial ?_;refine dq ?_;refine hrr ?_;refine⟨_,_,rfl,trivial,CoR.of_eq (by show HR.v (.one (.ref 0 (0+n)))=_;rw[bu1]),⟨⟨_,rfl, ?_⟩,trivial⟩⟩;exact⟨fun h=>h,rfl,rfl,(bu1 n).symm,fun i j _ _=>CoP.of_eq (by simp[iw])⟩
def aui (n:Int) (l m:List Fd) (x:AS):a7 bxr 116 [pI n,pP (fdl l),pP (fdl m),pA x] (ae [pI (ckB n l m x)]):=by
 refine hpx (nt:=21) Tryz.func116 ?_;refine cr ?_;refine qcx af0 (a9l n l m) ?_;refine w_7 ?_;refine hcn ?_ ?_<;>intro h0
 · refine v_5 ?_;exact⟨cci (b8z bx6).symm,trivial⟩
 have hb:eo n l m=0:=h0;obtain⟨hn0,hn1,_⟩:=wq hb;refine w_6 ?_;refine rq rfl rfl rfl rfl rfl ?_ (hp:=hn0);refine w_2 ?_;refine hcn ?_ ?_<;>intro h1
 · refine v_4 ?_;exact⟨cci (b8a hb (fun e=>(by assumption:¬_=_) ((a0o x n.toNat).trans (congrArg asI e)))).symm,trivial⟩
 refine v_5 ?_;exact⟨cci (aag hb (cb.1 ((a0o x n.toNat).symm.trans bx6))).symm,trivial⟩
def b7x (l m:List Fd) (hl:l.length<=64) (hm:m.length<=64):a7 bxr 118 [pP (fdl l),pP (fdl m)] (ae [pP (fdl (ll l m))]):=by
 refine hpx (nt:=37) Tryz.func118 ?_;refine w_7 ?_;refine fc9 (wgx Tryz.func172) ((bil m.length false (lf Fd.c m) bx5).swap 0 900) trivial ?_;refine cr ?_;refine bw (ka 12 (ka 13 kn)) km (fun i=>⟨[(5,some (.v (.one (.ref 900 (mo l m i 0).length)))),(14,some (vI i))],[(900,some (.arr true 2 52 (mo l m i 0).length (lf Fd.c (mo l m i 0))))]⟩) l.length ⟨⟨⟨_,rfl,(be (aj9 l m))⟩,⟨_,rfl,(CoR.refl _)⟩,trivial⟩,⟨⟨_,rfl,(az (aj9 l m))⟩,trivial⟩⟩ ?_;rintro i hi;have hmb:=wd (l.getD i default).rhs;refine w_5 ?_;refine hcd ?_ ?_<;>intro h0
 ·
  refine w_7 ?_;refine m9 0 ?_;refine w_6 ?_;refine qcx a3z (amf (l.getD i default).rhs) ?_;refine w_4 ?_;refine bw (ka 7 (ka 12 (ka 13 (ka 14 (ka 20 (ka 21 kn)))))) (kb 0 km) (fun k=>⟨[(5,some (.v (.one (.ref 900 (mo l m i k).length)))),(22,some (vI k))],[(900,some (.arr true 2 52 (mo l m i k).length (lf Fd.c (mo l m i k))))]⟩) ((ak (l.getD i default).rhs).length) ⟨⟨zy,⟨_,rfl,(CoR.refl _)⟩,trivial⟩,uu⟩ ?_;rintro k hk;have hal:=b2g (fs:=l) (ms:=m) (i:=i) (k:=k);refine w_5 ?_;refine hcd ?_ ?_<;>intro h1
  · refine ss ?_;refine m9 1 ?_;refine r9 2 true ?_;refine w_7 ?_;exact lpx (k+1) ⟨⟨⟨_,rfl,(bo (auf bx5))⟩,tt⟩,⟨⟨_,rfl,(l5 (auf bx5) (CoP.refl _) (CoP.of_eq (congrArg (fun z=>PV.raw (.int .u32 z)) (a0j 1 _))))⟩,uu⟩⟩
  obtain rfl:k=(ak (l.getD i default).rhs).length:=by omega
  refine w_5 ?_;exact lpx (i+1) ⟨⟨⟨_,rfl,(be (ate bx5))⟩,tt⟩,⟨⟨_,rfl,(az (ate bx5))⟩,trivial⟩⟩
 obtain rfl:i=l.length:=by omega
 refine w_6 ?_;refine bj 4 rfl rfl rfl ?_;exact hx8 rfl rfl rfl (⟨CoC.one (CoP.of_eq (by rw[b4e];rfl)),trivial⟩)
def bav (n:Int) (l m:List Fd) (x:AS):a7 bxr 120 [pI n,pP (fdl l),pP (fdl m),pA x] (ae [pP (asl (b30 n l m x)),pI (ckB n l m x)]):=by
 refine hpx (nt:=25) Tryz.func120 ?_;refine gh ?_;refine qcx (wgx Tryz.func116) (aui n l m x) ?_;refine w_7 ?_;refine hcn ?_ ?_<;>intro h0
 · refine v_6 ?_;exact⟨CoC.one (a7k (if_neg bx6)),CoC.refl _,trivial⟩
 have hz:ckB n l m x=0:=h0;have hb:=a8v hz;obtain⟨hn0,hn1,hl64,_,hm64,_⟩:=wq hb.1;refine w_6 ?_;refine qcx (wgx Tryz.func118) (b7x l m hl64 hm64) ?_;refine qy ?_;refine qcx (wgx Tryz.func117) (as4 n (ll l m) x hn0 hn1) ?_;refine v_3 ?_;exact⟨CoC.one (CoP.of_eq (by rw[show b30 n l m x=ge n l m x from if_pos hz];rfl)),cci hz.symm,trivial⟩
def bhn (f:Fd) (b:AS):a7 bxr 119 [f.pc,pP (bx (asC b))] (ae [pB (a12 b f)]):=by
 refine hpx (nt:=12) Tryz.func119 ?_;refine sx7 ?_;refine m9 0 ?_;refine qb ?_;exact hx8 rfl rfl rfl (⟨ccb (by unfold a12;rw[mc,aou]),trivial⟩)
def baz (n:Int) (l m:List Fd) (x:AS):a7 bxr 56 [pI n,pP (fdl l),pP (fdl m),pA x] (ae [pA (aw4 n l m x),pI (ckB n l m x)]):=by
 refine hpx (nt:=45) Tryz.func56 ?_;refine gh ?_;refine qcx (wgx Tryz.func116) (aui n l m x) ?_;refine w_7 ?_;refine hcn ?_ ?_<;>intro h0
 · refine v_6 ?_;exact⟨cci (congrArg asI (show(0:AS)=aw4 n l m x from (if_neg bx6).symm)),CoC.refl _,trivial⟩
 have hz:ckB n l m x=0:=h0;have hb:=a8v hz;obtain⟨hn0,hn1,hl64,_,hm64,_⟩:=wq hb.1;refine gh ?_;refine qcx (wgx Tryz.func118) (b7x l m hl64 hm64) ?_;refine qy ?_;refine qcx (wgx Tryz.func117) (as4 n (ll l m) x hn0 hn1) ?_;refine w_4 ?_;have hbl:=acj n l m x;refine bw (ka 1 (ka 28 (ka 29 kn))) km (fun i=>⟨[(11,some (vA (vn l x ((ge n l m x).take i)))),(30,some (vI i))],[]⟩) ((ge n l m x).length) ⟨⟨⟨_,rfl,(CoR.refl _)⟩,⟨_,rfl,(CoR.refl _)⟩,trivial⟩,trivial⟩ ?_;rintro i hi;refine w_5 ?_;refine hcd ?_ ?_<;>intro h1
 ·
  have hil:i<(ge n l m x).length:=Int.ofNat_lt.1 h1;refine w_7 ?_;refine m9 0 ?_;refine w_6 ?_;refine qcx a08 (a9j ((ge n l m x).getD i default)) ?_;refine w_2 ?_;refine hcn ?_ ?_<;>intro h2
  · have hq:¬bsz ((ge n l m x).getD i default)=1:=fun e=>h2 (by rw[e];rfl);refine w_5 ?_;exact lpx (i+1) ⟨⟨⟨_,rfl,(by first|exact df (congrArg asI (alq hil hq))|exact df (congrArg asI (apk hil hq ha))|exact df ((bOr _ _).trans (congrArg asI (amy hil hq ha))))⟩,tt⟩,trivial⟩
  have hq:bsz ((ge n l m x).getD i default)=1:=Int.ofNat_inj.1 h2;refine w_2 ?_;refine ci 13 rfl rfl rfl ?_;refine w_3 ?_;refine qcx (wgx Tryz.func77) (b91 l 119 1 (fun j=>[bx (asC ((ge n l m x).getD i default))].getD j .any) (a12 ((ge n l m x).getD i default)) (wgx Tryz.func119) (fun f=>bhn f ((ge n l m x).getD i default))) ?_;refine dq ?_;refine ax _ rfl ?_ ?_<;>intro r3
  · have h3:=r3;have ha:l.any (a12 ((ge n l m x).getD i default))=true:=r3;refine cr ?_;exact lpx (i+1) ⟨⟨⟨_,rfl,(by first|exact df (congrArg asI (alq hil hq))|exact df (congrArg asI (apk hil hq ha))|exact df ((bOr _ _).trans (congrArg asI (amy hil hq ha))))⟩,tt⟩,trivial⟩
  have h3:=r3;have ha:l.any (a12 ((ge n l m x).getD i default))=false:=r3;refine w_5 ?_;exact lpx (i+1) ⟨⟨⟨_,rfl,(by first|exact df (congrArg asI (alq hil hq))|exact df (congrArg asI (apk hil hq ha))|exact df ((bOr _ _).trans (congrArg asI (amy hil hq ha))))⟩,tt⟩,trivial⟩
 obtain rfl:i=(ge n l m x).length:=bx0 hi (bws fun q=>h1 (Int.ofNat_lt.2 q));rw[show(ge n l m x).take (ge n l m x).length=(ge n l m x) from btb];refine v_7 ?_;exact⟨cci (congrArg asI (show w6 n l m x=aw4 n l m x from (if_pos hz).symm)),cci hz.symm,trivial⟩
def apr:goodFn bxr 54:=wgx Tryz.func54
def ahm (n:Int) (l m:List Fd) (s:AS):a7 bxr 54 [pI n,pP (fdl l),pP (fdl m),pA s] (ae [pI (ck4 n l m s)]):=by
 refine hpx (nt:=27) Tryz.func54 ?_;refine cr ?_;refine al rfl rfl ?_ ?_<;>intro r0
 ·
  have h0:=tz1 r0;(iterate 2 refine k9 (gtf r0) ?_);refine w_7 ?_
  exact hx8 rfl rfl rfl (⟨cci (b87 bx5).symm,trivial⟩)
 have h0:=tz2 r0;(iterate 2 refine qy ?_ (hg:=(gff r0)));refine w_2 ?_;refine ax _ rfl ?_ ?_<;>intro r1
 · have h1:=tz1 (bn r0 r1);refine v_4 ?_;exact⟨cci (b87 bx5).symm,trivial⟩
 have h1:=tz2 (bn r0 r1);refine w_7 ?_;refine qcx af0 (a9l n l m) ?_;refine w_7 ?_;refine hcn ?_ ?_<;>intro h2
 ·
  have hc:¬(n<0\/8<n):=by omega
  refine v_5 ?_;exact⟨cci ((a5g hc).trans (b8z bx6)).symm,trivial⟩
 have hb:eo n l m=0:=h2;obtain⟨hn0,hn1,_⟩:=wq hb;have hc:¬(n<0\/8<n):=by omega
 refine w_6 ?_;refine rq rfl rfl rfl rfl rfl ?_ (hp:=hn0);refine w_2 ?_;refine hcn ?_ ?_<;>intro h3
 · refine v_4 ?_;exact⟨cci ((a5g hc).trans (b8a hb (fun e=>(by assumption:¬_=_) ((a0o s n.toNat).trans (congrArg asI e))))).symm,trivial⟩
 refine v_5 ?_;exact⟨cci ((a5g hc).trans (aag hb (cb.1 ((a0o s n.toNat).symm.trans bx6)))).symm,trivial⟩
end
section
open Go.Proofs
section
variable {n:Int}
def b6c (h:n<=16):a6 n>>>n.toNat=0:=by
 unfold a6;rw[show min n.toNat 32=n.toNat by omega];exact(s8 bx5).1 (dw _)
variable {l m:List Fd}{x:AS}
def b7e (h:ckB n l m x=0):a7 bxr 120 [pI n,pP (fdl l),pP (fdl m),pA x] (ae [pP (asl (ge n l m x)),pI 0]):=by
 have:=bav n l m x;rw[h,show b30 n l m x=ge n l m x from if_pos h]at this;exact this
def b6m (h:ckB n l m x=0):a7 bxr 56 [pI n,pP (fdl l),pP (fdl m),pA x] (ae [pA (w6 n l m x),pI 0]):=by
 have:=baz n l m x;rw[h,show aw4 n l m x=w6 n l m x from if_pos h]at this;exact this
variable {p:AS}
def azd(h:p&&&~~~(w6 n l m x)=0):a5s n l m p x=none:=if_pos h
def b24(h:¬p&&&~~~(w6 n l m x)=0)(h2:¬1<(qr n l m x p).length):a5s n l m p x=none:=by unfold a5s;rw[if_neg h,if_neg h2]
def bkg(h:¬p&&&~~~(w6 n l m x)=0)(h2:1<(qr n l m x p).length):a5s n l m p x=some ⟨x,(qr n l m x p).getD 0 default⟩:=by unfold a5s;rw[if_neg h,if_pos h2]
def is4(n:Int)(l m:List Fd):Bool:=if ck4 n l m 0=0 then !(abu n l m (a6 n)).2 else false
def bn5(n:Int)(l m:List Fd)(x p:AS):a7 bxr 57 [pI n,pP (fdl l),pP (fdl m),pA x,pA p] (ae [pP (asl (b3l n l m x p)),pI (ck4 n l m (x|||p))]):=by
 refine hpx (nt:=58) Tryz.func57 ?_;refine qb ?_;refine rc rfl rfl rfl rfl rfl rfl apr (ahm n l m (x|||p)) (⟨CoC.refl _,CoC.refl _,CoC.refl _,cci (bOr _ _),trivial⟩) rfl rfl ?_;refine w_7 ?_;refine hcn ?_ ?_<;>intro h0
 · refine v_6 ?_;exact⟨CoC.one (a7k (if_neg bx6)),CoC.refl _,trivial⟩
 have hz:ck4 n l m (x|||p)=0:=h0;have hx:=ahp (af9 hz).2.2 (wo (a:=x) (b:=p));refine w_7 ?_;refine qcx (wgx Tryz.func120) (b7e hx) ?_;refine bhl ?_;refine d8 15 900 true 1 50 (lf sC []) bxc rfl (CoP.sl rfl (.inr rfl) (fun h=>h) (fun i j hi _=>absurd hi (bt9 i))) (.inr rfl) rfl ?_;have hbl:=acj n l m x;refine bw (ka 4 (ka 39 (ka 40 kn))) km (fun i=>⟨[(15,some (.v (.one (.ref 900 (sy p ((ge n l m x).take i)).length)))),(41,some (vI i))],[(900,some (.arr true 1 50 (sy p ((ge n l m x).take i)).length (lf sC (sy p ((ge n l m x).take i)))))]⟩) ((ge n l m x).length) ⟨⟨⟨_,rfl,(CoR.refl _)⟩,⟨_,rfl,(CoR.refl _)⟩,trivial⟩,uu⟩ ?_;rintro i hi;have hcl:(sy p ((ge n l m x).take i)).length<=i:=bth (apd _ _) (by rw[btp];omega);refine w_5 ?_;refine hcd ?_ ?_<;>intro h1
 ·
  refine ss ?_;refine hcn ?_ ?_<;>intro h2
  ·
   have hq:¬(ge n l m x).getD i default&&&p=0:=a3q h2;refine w_5 ?_;refine m9 0 ?_;refine r9 1 true ?_;refine w_6 ?_
   first | (refine lpz (i+1) ⟨⟨⟨_, rfl, (bo (ag2 bx5 hq))⟩, ⟨_, rfl, (CoR.refl _)⟩, tt⟩, ⟨⟨_, rfl, (bq (ag2 bx5 hq) (CoP.of_eq (congrArg (fun z => PV.raw (.int .u32 z)) (it _ _))))⟩, trivial⟩⟩ ?_; show i+1<=_; omega)
         |(refine lpz (i+1) ⟨⟨⟨_,rfl,(be (aea bx5 hq))⟩,⟨_,rfl,(CoR.refl _)⟩,tt⟩,⟨⟨_,rfl,(az (aea bx5 hq))⟩,trivial⟩⟩ ?_;show i+1<=_;omega)
  have hq:(ge n l m x).getD i default&&&p=0:=a9u h2;refine w_5 ?_
  first | (refine lpz (i+1) ⟨⟨⟨_, rfl, (bo (ag2 bx5 hq))⟩, ⟨_, rfl, (CoR.refl _)⟩, tt⟩, ⟨⟨_, rfl, (bq (ag2 bx5 hq) (CoP.of_eq (congrArg (fun z => PV.raw (.int .u32 z)) (it _ _))))⟩, trivial⟩⟩ ?_; show i+1<=_; omega)
        |(refine lpz (i+1) ⟨⟨⟨_,rfl,(be (aea bx5 hq))⟩,⟨_,rfl,(CoR.refl _)⟩,tt⟩,⟨⟨_,rfl,(az (aea bx5 hq))⟩,trivial⟩⟩ ?_;show i+1<=_;omega)
 obtain rfl:i=(ge n l m x).length:=by omega
 rw[show(ge n l m x).take (ge n l m x).length=(ge n l m x) from btb];refine w_2 ?_;refine bj 15 rfl rfl rfl ?_;refine w_2 ?_;refine qcx uo (a40 (sy p (ge n l m x)) (as6 n l m x p)) ?_;refine v_3 ?_;exact⟨CoC.one (CoP.of_eq (by rw[show b3l n l m x p=qr n l m x p from if_pos hz];rfl)),cci hz.symm,trivial⟩
def bl7 (h:ck4 n l m (x|||p)=0):a7 bxr 57 [pI n,pP (fdl l),pP (fdl m),pA x,pA p] (ae [pP (asl (qr n l m x p)),pI 0]):=by
 have:=bn5 n l m x p;rw[h,show b3l n l m x p=qr n l m x p from if_pos h]at this;exact this
def bne(n:Int)(l m:List Fd)(p:AS):a7 bxr 16 [pI n,pP (fdl l),pP (fdl m),pA p] (ae [(abu n l m p).1.pc,pB (abu n l m p).2,pI (ck4 n l m p)]):=by
 refine hpx (nt:=72) Tryz.func16 ?_;refine sx7 ?_;refine m9 0 ?_;refine cr ?_;refine qcx apr (ahm n l m p) ?_;refine w_7 ?_;refine hcn ?_ ?_<;>intro h0
 · refine v_8 ?_;exact by rw[bh1 bx6];exact⟨CoC.agg ⟨CoP.of_eq rfl,CoP.of_eq rfl,trivial⟩,CoC.refl _,CoC.refl _,trivial⟩
 have hz:ck4 n l m p=0:=h0;have hsl:=rj p;refine w_5 ?_;refine qcx a6n (al7 p) ?_;refine w_4 ?_;refine am (ι:=Nat) (ka 0 (ka 1 (ka 2 (ka 3 (ka 8 (ka 27 (ka 28 kn))))))) (kb 0 km) (fun i=>⟨[(29,some (vI i))],[]⟩) (fun i=>i<=(b6 p).length/\((b6 p).take i).findSome? (a5s n l m p)=none) (fun i=>(b6 p).length-i) (0) (⟨bt6 _,rfl⟩) ⟨⟨⟨_,rfl,(CoR.refl _)⟩,trivial⟩,trivial⟩ ?_;rintro i ⟨hi,hI⟩;refine w_5 ?_;refine hcd ?_ ?_<;>intro h1
 ·
  have hil:i<(b6 p).length:=by omega
  have hxs:sub ((b6 p).getD i default) p:=ajc (b0x hil);have hX:ckB n l m ((b6 p).getD i default)=0:=ahp (af9 hz).2.2 hxs;have hXp:ck4 n l m (((b6 p).getD i default)|||p)=0:=beb hz (a1h hxs (dw p));refine jk ?_;refine qcx (wgx Tryz.func56) (b6m hX) ?_;refine amk ?_;refine hcd ?_ ?_<;>intro h2
  · have hq:p&&&~~~(w6 n l m ((b6 p).getD i default))=0:=b8g h2;refine w_5 ?_;refine lpz (i+1) ⟨⟨⟨_,rfl,(CoR.refl _)⟩,tt⟩,uu⟩ ?_;exact⟨by omega,(a74 hil hI).trans (by first|exact azd hq|exact b24 hq hc)⟩
  have hq:¬p&&&~~~(w6 n l m ((b6 p).getD i default))=0:=ayi h2;refine w_8 ?_;refine qcx (wgx Tryz.func57) (bl7 hXp) ?_;refine awe ?_;refine hcd ?_ ?_<;>intro h3
  ·
   have hc:1<(qr n l m ((b6 p).getD i default) p).length:=by omega
   have hcl:(qr n l m ((b6 p).getD i default) p).length<=8589934592:=bth (pn _) (as6 n l m ((b6 p).getD i default) p);refine gv ?_;refine hrr ?_
   have he:abu n l m p=(⟨((b6 p).getD i default),(qr n l m ((b6 p).getD i default) p).getD 0 default⟩,true):=by
    rw[a6m hz,show vt n l m p=some _ from b1a hil hI (bkg hq hc)];rfl
   exact f9 rfl rfl (by rw[he];exact⟨CoC.agg ⟨CoP.refl _,CoP.refl _,trivial⟩,CoC.refl _,cci hz.symm,trivial⟩)
  have hc:¬1<(qr n l m ((b6 p).getD i default) p).length:=by omega
  refine w_5 ?_;refine lpz (i+1) ⟨⟨⟨_,rfl,(CoR.refl _)⟩,tt⟩,uu⟩ ?_;exact⟨by omega,(a74 hil hI).trans (by first|exact azd hq|exact b24 hq hc)⟩
 obtain rfl:i=(b6 p).length:=by omega
 rw[show(b6 p).take (b6 p).length=(b6 p) from btb]at hI;refine w_8 ?_;refine hrr ?_
 have he:abu n l m p=(⟨0,0⟩,false):=by
  rw[a6m hz,show vt n l m p=none from hI];rfl
 exact f9 rfl rfl (by rw[he];exact⟨CoC.agg ⟨CoP.of_eq rfl,CoP.of_eq rfl,trivial⟩,CoC.refl _,cci hz.symm,trivial⟩)
def bk4 (h:ck4 n l m p=0):a7 bxr 16 [pI n,pP (fdl l),pP (fdl m),pA p] (ae [(vF (vt n l m) p).pc,pB (vBo (vt n l m) p),pI 0]):=by
 have:=bne n l m p;rw[h,a6m h]at this;exact this
end
end
section
structure Mx where
 d:Dps
 m:List Dp
deriving Inhabited
def Mx.mv(x:Mx):List Fd:=x.m.map (Dp.fd x.d.num)
def Mx.c (x:Mx):Nat->PV
 |0=>x.d.c 0
 |1=>x.d.c 1
 |2=>dpl x.m
 |_=>.any
abbrev Mx.pc(x:Mx):PC:=.agg [x.c 0,x.c 1,x.c 2]
def Mx.ok(x:Mx):Bool:=decide (x.d.l.length<=6)&&decide (x.m.length<=4)
def bsc(n:Int)(l m:List Fd)(ps:List AS):Int:=if ck4 n l m 0=0 then lsC n ps l m else ck4 n l m 0
def bs2(n:Int)(l m:List Fd)(ps:List AS):Bool:=if ck4 n l m 0=0 then(if lsC n ps l m=0 then lsB n ps l m&&ps.all (fun p=>!vBo (vt n l m) p)else false)else false
end
section
open Go.Proofs Go.Proofs.YtnlcekpflogjkaaGreatDoor
open Go.RowKit Go.ChangeShapes Go.WideShapes Go.ChangeAt
def s2C (x:AS×AS):Nat->PV
 |0=>asC x.1
 |1=>asC x.2
 |_=>.any
end
section
open Go.Proofs Go.Proofs.YtnlcekpflogjkaaGreatDoor
open Go.RowKit Go.ChangeShapes Go.WideShapes Go.ChangeAt
def bp2:Rd bxr 131 2 Dp.c:=by
 intro H enc w sp held fuel cs x h;obtain⟨hl,n,hf⟩:=ay6 Tryz.underlying131 h;obtain⟨y0,e0⟩:=hf 0 _ rfl;obtain⟨y1,e1⟩:=hf 1 _ rfl;obtain⟨a0,h0⟩:=ao9 rd5 e0;obtain⟨a1,h1⟩:=ao9 rd5 e1;refine⟨hl.trans (by kernel_rfl),(⟨a0,a1⟩:Dp),fun j hj=>?_⟩
 match j,hj with
 |0,_=>exact h0 0 bx5
 |1,_=>exact h1 0 bx5
def blw:RdB bxr 25 1 (bkx 2 Dp.c) fun b l=>l.length<=b :=
 (b14 (B:=fun _ _=>True) (fun _ _ _ _ _=>trivial) Tryz.underlying25 (by kernel_rfl) bx5 bp2.toB).co id (fun b a h=>h.1) fun a j hj=>CoP.refl _
def boe:RdB bxr 27 2 Dps.c fun b d=>d.l.length<=b:=by
 intro H enc w sp held fuel cs x h;obtain⟨hl,n,hf⟩:=aw3 Tryz.underlying27 h;obtain⟨y0,e0⟩:=hf 0 _ rfl;obtain⟨y1,e1⟩:=hf 1 _ rfl;obtain⟨a0,_,h0⟩:=aj4 (fun _ _ _ _ _=>trivial) rd5.toB e0;obtain⟨a1,hb,h1⟩:=aj4 (B:=fun b (l:List Dp)=>l.length<=b) (fun _ _ _ h k=>bth k h) blw e1;refine⟨hl.trans (by kernel_rfl),(⟨a0,a1⟩:Dps),hb,fun j hj=>?_⟩
 match j,hj with
 |0,_=>exact h0 0 bx5
 |1,_=>exact h1 0 bx5
def bkn:bxr.readableRec 27=true/\27<bxr.types.size:=⟨by kernel_rfl,of_decide_eq_true (by kernel_rfl)⟩
end
section
open Go.Proofs
def bom (n:Int) (l:List Dp) (hl:l.length<=16777216):a7 bxr 29 [pI n,pP (dpl l)] (ae [pP (fdl (l.map (Dp.fd n)))]):=by
 refine hpx (nt:=37) Tryz.func29 ?_;refine w_7 ?_;refine qcx (wgx Tryz.func81) (bjz n) ?_;refine gh ?_;refine d8 6 900 true 2 61 (lf Fd.c []) bxc rfl (CoP.sl rfl (.inr rfl) (fun h=>h) (fun i j hi _=>absurd hi (bt9 i))) (.inr rfl) rfl ?_;refine bw (ka 1 (ka 5 kn)) km (fun i=>⟨[(6,some (.v (.one (.ref 900 ((l.take i).map (Dp.fd n)).length)))),(7,some (vI i))],[(900,some (.arr true 2 61 ((l.take i).map (Dp.fd n)).length (lf Fd.c ((l.take i).map (Dp.fd n)))))]⟩) l.length kk ?_;rintro i hi;have hlen:((l.take i).map (Dp.fd n)).length<=i:=by rw[btw,btp];omega
 refine w_8 ?_;refine hcd ?_ ?_<;>intro h0
 · refine amk ?_;refine m9 0 ?_;refine r9 1 true ?_;refine w_8 ?_;exact lpx (i+1) ⟨⟨⟨_,rfl,(bo (a2m bx5))⟩,tt⟩,⟨⟨_,rfl,(l5 (a2m bx5) (CoP.of_eq (congrArg (fun z=>PV.raw (.int .u32 z)) (b0h _ _))) (CoP.of_eq (congrArg (fun z=>PV.raw (.int .u32 z)) (b0h _ _))))⟩,trivial⟩⟩
 obtain rfl:i=l.length:=by omega
 refine w_6 ?_;refine bj 4 rfl rfl rfl ?_;exact hx8 rfl rfl rfl (⟨CoC.one (CoP.of_eq (by rw[btb];rfl)),trivial⟩)
def cOf (d:Dps) (hl:d.l.length<=16777216):a7 bxr 6 [d.pc] (ae [pI d.num,pP (fdl d.fds),pB (decide (d.l.length<=6))]):=by
 refine hpx (nt:=19) Tryz.func6 ?_;refine sx7 ?_;refine m9 0 ?_;refine abw ?_;refine qcx (wgx Tryz.func29) (bom d.num d.l hl) ?_;refine v_9 ?_;exact⟨cci (show(d.n.toNat:Int)%7=d.num by unfold Dps.num;omega),CoC.refl _,ccb (decide_eq_decide.2 bx5),trivial⟩
end
section
def sgn(a b:Int):Int:=if a<b then -1 else if b<a then 1 else 0
def bAt(s:ByteArray)(i:Nat):Int:=cw s i
def av2:List UInt8->List UInt8->Int
 | [],[]=>0
 | [],_::_=>-1
 |_::_,[]=>1
 |x::xs,y::ys=>if x=y then av2 xs ys else sgn x.toNat y.toNat
abbrev bl(s:ByteArray):List UInt8:=s.data.toList
def a4b(a b:ByteArray):Int:=av2 (bl a) (bl b)
def a1b(s:ByteArray):(bl s).length=s.size:=bu8
def a2t (a b:Val):Int :=
 if sgn a.kind b.kind≠0 then sgn a.kind b.kind else if sgn a.num b.num≠0 then sgn a.num b.num else a4b a.str b.str
def bn9:List Val->List Val->Int
 | [],[]=>0
 | [],_::_=>-1
 |_::_,[]=>1
 |x::xs,y::ys=>if a2t x y≠0 then a2t x y else bn9 xs ys
end
end Go.Hx

/- A part of the proof: Y1 Bz4 Y2 Y3 Bz5 Bz6 Ch15 Y4 Bz7 Bz8 Bz9 Bz11 Fq1 Da3 Da4 Jp6 Jp7 Jp8 Jp10 Da5 Hx28 Hx29. -/
import Derived.Laws.IdiomRangeMap
import Derived.Test.YtcepfnkhagkdeaaGreatDoorUx17
set_option linter.all false
open Go.Proofs.Tryz
set_option maxRecDepth 100000
set_option maxHeartbeats 1000000
namespace Go.Hx
section
open Go.Proofs
def Nw{a b:AS}(h:bq .and .u32 (Hb a) (Hb b)=0):a&&&b=0:=dm.1 ((jh a b).symm.trans h)
def Tx{a b:AS}(h:¬bq .and .u32 (Hb a) (Hb b)=0):¬a&&&b=0:=λe=>h ((jh a b).trans (Da Hb e))
def yN{a b:AS}(h:bq .andNot .u32 (Hb a) (Hb b)=0):a&&&~~~b=0:=dm.1 ((k8 a b).symm.trans h)
def kP{a b:AS}(h:¬bq .andNot .u32 (Hb a) (Hb b)=0):¬a&&&~~~b=0:=λe=>h ((k8 a b).trans (Da Hb e))
def Vw{m:Fd}{x:AS}(h:¬x&&&m.lhs=0):fc m x=false:=by unfold fc;rw[Ha h];rfl
def Pw{m:Fd}{x:AS}(h:x&&&m.rhs=0):fc m x=false:=by simp[fc,h]
def RH (a b:AS):decide (bq .and .u32 (Hb a) (Hb b)=0)=decide (a&&&b=0):=by
 by_cases h:bq .and .u32 (Hb a) (Hb b)=0
 .rw[Fa h,Fa (Nw h)]
 rw[Ha h,Ha (Tx h)]
def O6 (a b:AS):decide (bq .andNot .u32 (Hb a) (Hb b)=0)=decide (a&&&~~~b=0):=by
 by_cases h:bq .andNot .u32 (Hb a) (Hb b)=0
 .rw[Fa h,Fa (yN h)]
 rw[Ha h,Ha (kP h)]
def Ow (m:Fd) (x:AS):(bif (bif decide (bq .and .u32 (Hb x) (Hb m.lhs)=0)then !decide (bq .and .u32 (Hb x) (Hb m.rhs)=0)else false)then !decide (bq .andNot .u32 (Hb x) (Hb m.rhs)=0)else false)=fc m x:=by
 rw[RH,RH,O6];unfold fc;by_cases h1:x&&&m.lhs=0<;>by_cases h2:x&&&m.rhs=0<;>by_cases h3:x&&&~~~m.rhs=0<;>simp only[h1,h2,h3,decide_true,decide_false,ne_eq,not_true_eq_false,not_false_eq_true,Ks,Ls,cond_true,cond_false,Bool.and_self,Bool.and_true,Aj,Bool.and_false,Bool.false_and]
def yb {m:Fd} {l:List AS} {i:Nat} (c:Bool) (h:i<l.length) (hs:fc m (l.getD i default)=true):true=(c||(l.take (i+1)).any (fc m)):=by
 rw[au h,List.any_append];simp only[List.any_cons,List.any_nil,hs,Bool.or_true,Bool.or_false]
def QA {m:Fd} {l:List AS} {i:Nat} (c:Bool) (h:i<l.length) (hs:fc m (l.getD i default)=false):(c||(l.take i).any (fc m))=(c||(l.take (i+1)).any (fc m)):=by
 rw[au h,List.any_append];simp only[List.any_cons,List.any_nil,hs,Bool.or_true,Bool.or_false]
def yC(x:Nat×List AS×Bool):Nat:=x.1+(bif x.2.2 then 1 else 0)
def bdf {f:Nat} {l l':List AS} {c:Bool} (h:0<f):yC (f-1,l',c)<yC (f,l,true):=by
 cases c<;>simp only[yC,cond_true,cond_false]<;>omega
def vR(n:Int)(ms:List Fd)(x:AS)(h0:0<=n)(h1:n<=16):a6 Ab 189 [pI n,pP (Ub ms),pA x] (a7 [pP (Cd (ord (blks ms (ak n&&&~~~x))))]):=by
 refine Nb (nt:=76) func189 ?_;refine cj 1 rfl λhn=>?_;have hrest:bq .andNot .u32 (IntKind.wrap .u32 (1*2^(min n.toNat 32))-1) (Hb x)=Hb (ak n&&&~~~x):=by rw[vd h0 h1,k8]
 refine Wb ?_;refine d9 7 900 true 1 48 (lf sC []) Zc rfl Ya (.inr rfl) rfl ?_;refine m7 (ka 1 kn) km ⟨[(7,some (.v (.one (.ref 900 (kg (ak n&&&~~~x)).length))))],[(900,some (.arr true 1 48 (kg (ak n&&&~~~x)).length (lf sC (kg (ak n&&&~~~x)))))]⟩ ?_ ?_
 ·
  refine Mc ?_;refine rq rfl rfl rfl rfl rfl ?_ (hp:=⟨MB h0 h1,y8 h0 h1⟩);refine Cc ?_;refine Sc ?_ ?_<;>intro h0
  .have hne:¬(ak n&&&~~~x)=0:=λe=>h0 (hrest.trans (Da Hb e));refine Tb ?_;refine m9 0 ?_;refine Ed 1 true ?_;refine Cb ?_;exact⟨⟨⟨_,rfl,(by first|exact d6 (lE hne)|exact dy (eE hz))⟩,tt⟩,⟨⟨_,rfl,(by first|exact cr (lE hne) (Va (Da (λz=>PV.raw (.int .u32 z)) hrest))|exact be (eE hz))⟩,Aa⟩⟩
  have hz:(ak n&&&~~~x)=0:=dm.1 (hrest.symm.trans h0);refine dj ?_;exact⟨⟨⟨_,rfl,(by first|exact d6 (lE hne)|exact dy (eE hz))⟩,tt⟩,⟨⟨_,rfl,(by first|exact cr (lE hne) (Va (Da (λz=>PV.raw (.int .u32 z)) hrest))|exact be (eE hz))⟩,Aa⟩⟩
 refine Mb ?_;refine aa (ι:=(Nat×List AS×Bool)) (ka 1 kn) km (λy=>⟨[(7,some (.v (.one (.ref 900 y.2.1.length)))),(9,some (vB y.2.2))],[(900,some (.arr true 1 48 y.2.1.length (lf sC y.2.1)))]⟩) (λy=>JF ms (blks ms (ak n&&&~~~x)) y) (λy=>yC y) ((18446744073709551616,kg (ak n&&&~~~x),true)) (b70 ms (ak n&&&~~~x)) kk ?_;rintro⟨f,l,ag⟩ hI;refine Eb ?_;refine aj _ rfl ?_ ?_<;>intro r1
 ·
  have h1:=r1;obtain rfl:ag=true:=r1;obtain⟨hI2,hf⟩:=bff hI;have hok:=hI.ok;refine jq ?_;refine bz (ka 1 (ka 26 (ka 27 kn))) km (λj=>⟨[(7,some (.v (.one (.ref 900 (df (ms.take j) l).length)))),(9,some (vB (qe (ms.take j) l))),(28,some (vI j))],[(900,some (.arr true 1 48 (df (ms.take j) l).length (lf sC (df (ms.take j) l))))]⟩) ms.length ⟨⟨zy,⟨_,rfl,Ua⟩,tt⟩,uu⟩ ?_;rintro j hj;have hokj:Xm (df (ms.take j) l):=iE hok;have hlj:=qJ (AP (m:=(ms.getD j default)) hokj);refine Eb ?_;refine Kb ?_ ?_<;>intro h2
  ·
   refine Jb ?_;refine m9 2 ?_;refine Cc ?_;refine b6m 32 rfl rfl rfl ?_;refine aa (ι:=(Nat×Bool)) (ka 1 (ka 11 (ka 26 (ka 27 (ka 28 (ka 33 kn)))))) (kb 2 km) (λy=>⟨[(7,some (.v (.one (.ref (bif y.2 then 900 else 951) (Xe (ms.getD j default) (df (ms.take j) l) y.1).length)))),(9,some (vB (qe (ms.take j) l||((df (ms.take j) l).take y.1).any (fc (ms.getD j default))))),(34,some (vI y.1)),(32,some (bif y.2 then .v (.one (.win 900 (Xe (ms.getD j default) (df (ms.take j) l) y.1).length 0 (df (ms.take j) l).length))else bu (.sl (df (ms.take j) l).length 1 false (Lq (df (ms.take j) l) y.1))))],[(bif y.2 then 900 else 951,some (.arr true 1 48 (Xe (ms.getD j default) (df (ms.take j) l) y.1).length (lf sC (Xe (ms.getD j default) (df (ms.take j) l) y.1))))]⟩) (λy=>y.1<=(df (ms.take j) l).length) (λy=>(df (ms.take j) l).length-y.1) ((0,true)) (Zb _) ⟨⟨⟨_,rfl,(dy (ZJ _ _))⟩,⟨_,rfl,(Jf Ec)⟩,⟨_,rfl,Ua⟩,⟨_,rfl,(Xa (by rw[ZJ];rfl))⟩,Aa⟩,⟨⟨_,rfl,(be (ZJ _ _))⟩,Aa⟩⟩ ?_;rintro⟨i,b⟩ hi;have hi:i<=(df (ms.take j) l).length:=hi;have hsl:=A4 (ms.getD j default) (df (ms.take j) l) i;have hsl2:=TQ (ms.getD j default) (df (ms.take j) l) i
   rcases b with _|_
   ·
    show HW _ _ _ ⟨_::_,_⟩ _;refine Eb ?_;refine Kb ?_ ?_<;>intro h3
    ·
     have hil:i<(df (ms.take j) l).length:=by omega
     refine Jb ?_;refine rq (out:=⟨_, .v (.one (.p (Ag ((df (ms.take j) l).getD i default))))⟩) rfl rfl rfl (Da (λz=>some (Ge.mk _ (HR.v (HC.one (HV.p z))))) (bbp (df (ms.take j) l) i)) rfl ?_;refine Tb ?_;refine m7 (ka 1 (ka 7 (ka 9 (ka 11 (ka 12 (ka 13 (ka 26 (ka 27 (ka 28 (ka 32 (ka 33 (ka 34 kn)))))))))))) (kb 2 km) ⟨[(57,some (vB (fc (ms.getD j default) ((df (ms.take j) l).getD i default))))],[(951,some (.arr true 1 48 (Xe (ms.getD j default) (df (ms.take j) l) i).length (lf sC (Xe (ms.getD j default) (df (ms.take j) l) i))))]⟩ ?_ ?_
     ·
      refine Jb ?_;refine af rfl rfl ?_ ?_<;>intro r4
      ·
       have h4:=Bc r4;have g1:((df (ms.take j) l).getD i default)&&&(ms.getD j default).lhs=0:=Nw h4;(iterate 5 refine qy ?_ (hg:=(Lc r4)));refine Cb ?_;refine af rfl rfl ?_ ?_<;>intro r5
       ·
        have h5:=Ac (ct (bp r4 r5));have g2:¬((df (ms.take j) l).getD i default)&&&(ms.getD j default).rhs=0:=Tx h5;(iterate 5 refine qy ?_ (hg:=(Lc r5)));refine Cb ?_
        exact⟨⟨⟨_,rfl,(Jf (by first|exact Ow _ _|exact(Vw g1).symm|exact(Pw g2).symm))⟩,tt⟩,uu⟩
       have h5:=Bc (cu (bp r4 r5));have g2:((df (ms.take j) l).getD i default)&&&(ms.getD j default).rhs=0:=Nw h5;(iterate 5 refine k9 (Vd r5) ?_);refine Cb ?_
       exact⟨⟨⟨_,rfl,(Jf (by first|exact Ow _ _|exact(Vw g1).symm|exact(Pw g2).symm))⟩,tt⟩,uu⟩
      have h4:=Ac r4;have g1:¬((df (ms.take j) l).getD i default)&&&(ms.getD j default).lhs=0:=Tx h4;(iterate 5 refine k9 (Vd r4) ?_);refine Cb ?_;(iterate 5 refine k9 rfl ?_);refine Cb ?_
      exact⟨⟨⟨_,rfl,(Jf (by first|exact Ow _ _|exact(Vw g1).symm|exact(Pw g2).symm))⟩,tt⟩,uu⟩
     refine aj _ rfl ?_ ?_<;>intro r6
     ·
      have h6:=r6;have hs:fc (ms.getD j default) ((df (ms.take j) l).getD i default)=true:=r6;have hl2:(Xe (ms.getD j default) (df (ms.take j) l) (i+1)).length=(Xe (ms.getD j default) (df (ms.take j) l) i).length+1:=by rw[RC hil hs,Uc,Ni];rfl
      refine Tz ?_;refine m9 3 ?_;refine Ed 4 true ?_;refine Cc ?_
      first | (refine Rb (i+1, false) ⟨⟨⟨_, rfl, (Xa (Da (λz => HR.v (.one (.ref 951 z))) hl2.symm))⟩, ⟨_, rfl, (Jf (yb _ hil hs))⟩, ⟨_, rfl, Ua⟩, ⟨_, rfl, (Ob.one (zE rfl))⟩, tt⟩, ⟨⟨_, rfl, (y7 hil hs rfl (jh _ _) (Va (Da (λz => PV.raw (.int .u32 z)) (k8 _ _))))⟩, uu⟩⟩ ?_; show i+1<=_; omega)
            |(refine Rb (i+1,false) ⟨⟨⟨_,rfl,(dy (qk hil hs))⟩,⟨_,rfl,(Jf (QA _ hil hs))⟩,⟨_,rfl,Ua⟩,⟨_,rfl,(Ob.one (zE rfl))⟩,tt⟩,⟨⟨_,rfl,(be (qk hil hs))⟩,uu⟩⟩ ?_;show i+1<=_;omega)
     have h6:=r6;have hs:fc (ms.getD j default) ((df (ms.take j) l).getD i default)=false:=r6;refine Eb ?_
     first | (refine Rb (i+1, false) ⟨⟨⟨_, rfl, (Xa (Da (λz => HR.v (.one (.ref 951 z))) hl2.symm))⟩, ⟨_, rfl, (Jf (yb _ hil hs))⟩, ⟨_, rfl, Ua⟩, ⟨_, rfl, (Ob.one (zE rfl))⟩, tt⟩, ⟨⟨_, rfl, (y7 hil hs rfl (jh _ _) (Va (Da (λz => PV.raw (.int .u32 z)) (k8 _ _))))⟩, uu⟩⟩ ?_; show i+1<=_; omega)
           |(refine Rb (i+1,false) ⟨⟨⟨_,rfl,(dy (qk hil hs))⟩,⟨_,rfl,(Jf (QA _ hil hs))⟩,⟨_,rfl,Ua⟩,⟨_,rfl,(Ob.one (zE rfl))⟩,tt⟩,⟨⟨_,rfl,(be (qk hil hs))⟩,uu⟩⟩ ?_;show i+1<=_;omega)
    obtain rfl:i=(df (ms.take j) l).length:=by omega
    refine yc 7 900 rfl rfl rfl rfl ?_;refine Eb ?_;exact Ld (j+1) ⟨⟨⟨_,rfl,(dy (by rw[VE Za,fB]))⟩,⟨_,rfl,(Jf (by rw[KT Za,Id]))⟩,tt⟩,⟨⟨_,rfl,(be (by rw[VE Za,fB]))⟩,Aa⟩⟩
   show HW _ _ _ ⟨_::_,_⟩ _;refine Eb ?_;refine Kb ?_ ?_<;>intro h7
   ·
    have hil:i<(df (ms.take j) l).length:=by omega
    refine Jb ?_;refine rq (out:=⟨_, .v (.one (.p (Ag ((df (ms.take j) l).getD i default))))⟩) rfl rfl rfl (Da (λz=>some (Ge.mk _ (HR.v (HC.one (HV.p z))))) ((show lf sC (Xe (ms.getD j default) (df (ms.take j) l) i) (0+i) 0=_ by rw[Oe];exact Da Ag (bd0 hil)))) rfl ?_;refine Tb ?_;refine m7 (ka 1 (ka 7 (ka 9 (ka 11 (ka 12 (ka 13 (ka 26 (ka 27 (ka 28 (ka 32 (ka 33 (ka 34 kn)))))))))))) (kb 2 km) ⟨[(57,some (vB (fc (ms.getD j default) ((df (ms.take j) l).getD i default))))],[(900,some (.arr true 1 48 (Xe (ms.getD j default) (df (ms.take j) l) i).length (lf sC (Xe (ms.getD j default) (df (ms.take j) l) i))))]⟩ ?_ ?_
    ·
     refine Jb ?_;refine af rfl rfl ?_ ?_<;>intro r8
     ·
      have h8:=Bc r8;have g1:((df (ms.take j) l).getD i default)&&&(ms.getD j default).lhs=0:=Nw h8;(iterate 5 refine qy ?_ (hg:=(Lc r8)));refine Cb ?_;refine af rfl rfl ?_ ?_<;>intro r9
      ·
       have h9:=Ac (ct (bp r8 r9));have g2:¬((df (ms.take j) l).getD i default)&&&(ms.getD j default).rhs=0:=Tx h9;(iterate 5 refine qy ?_ (hg:=(Lc r9)));refine Cb ?_
       exact⟨⟨⟨_,rfl,(Jf (by first|exact Ow _ _|exact(Vw g1).symm|exact(Pw g2).symm))⟩,tt⟩,uu⟩
      have h9:=Bc (cu (bp r8 r9));have g2:((df (ms.take j) l).getD i default)&&&(ms.getD j default).rhs=0:=Nw h9;(iterate 5 refine k9 (Vd r9) ?_);refine Cb ?_
      exact⟨⟨⟨_,rfl,(Jf (by first|exact Ow _ _|exact(Vw g1).symm|exact(Pw g2).symm))⟩,tt⟩,uu⟩
     have h8:=Ac r8;have g1:¬((df (ms.take j) l).getD i default)&&&(ms.getD j default).lhs=0:=Tx h8;(iterate 5 refine k9 (Vd r8) ?_);refine Cb ?_;(iterate 5 refine k9 rfl ?_);refine Cb ?_
     exact⟨⟨⟨_,rfl,(Jf (by first|exact Ow _ _|exact(Vw g1).symm|exact(Pw g2).symm))⟩,tt⟩,uu⟩
    refine aj _ rfl ?_ ?_<;>intro r10
    ·
     have h10:=r10;have hs:fc (ms.getD j default) ((df (ms.take j) l).getD i default)=true:=r10;have hl2:(Xe (ms.getD j default) (df (ms.take j) l) (i+1)).length=(Xe (ms.getD j default) (df (ms.take j) l) i).length+1:=by rw[RC hil hs,Uc,Ni];rfl
     refine fy ?_;refine Y8 7 32 rfl rfl rfl rfl rfl rfl (λad cap hcap=>?_) ?_
     ·
      refine Mb ?_;refine m9 5 ?_;refine Ed 6 true ?_;refine Cb ?_;refine b3l 7 32 rfl rfl rfl rfl (by dsimp only at *;omega) rfl ?_;refine Jb ?_
      first | (refine Rb (i+1, true) ⟨⟨⟨_, rfl, (Xa (Da (λz => HR.v (.one (.ref 900 z))) hl2.symm))⟩, ⟨_, rfl, (Jf (yb _ hil hs))⟩, ⟨_, rfl, Ua⟩, ⟨_, rfl, (Xa (Da (λz => HR.v (.one (.win 900 z 0 _))) hl2.symm))⟩, tt⟩, ⟨⟨_, rfl, (y7 hil hs rfl (jh _ _) (Va (Da (λz => PV.raw (.int .u32 z)) (k8 _ _))))⟩, uu⟩⟩ ?_; show i+1<=_; omega)
            |(refine Rb (i+1,false) ⟨⟨⟨_,rfl,(Xa (Da (λz=>HR.v (.one (.ref 951 z))) hl2.symm))⟩,⟨_,rfl,(Jf (yb _ hil hs))⟩,⟨_,rfl,Ua⟩,⟨_,rfl,(Ob.one (YH hil))⟩,tt⟩,⟨⟨_,rfl,(y7 hil hs rfl (jh _ _) (Va (Da (λz=>PV.raw (.int .u32 z)) (k8 _ _))))⟩,uu⟩⟩ ?_;show i+1<=_;omega)
            |(refine Rb (i+1,true) ⟨⟨⟨_,rfl,(dy (qk hil hs))⟩,⟨_,rfl,(Jf (QA _ hil hs))⟩,⟨_,rfl,Ua⟩,⟨_,rfl,(Xa (Da (λz=>HR.v (.one (.win 900 z 0 _))) (Da List.length (qk hil hs)).symm))⟩,tt⟩,⟨⟨_,rfl,(be (qk hil hs))⟩,uu⟩⟩ ?_;show i+1<=_;omega)
     refine Mb ?_;refine m9 950 ?_;refine Ed 951 true ?_;refine Cc ?_
     first | (refine Rb (i+1, true) ⟨⟨⟨_, rfl, (Xa (Da (λz => HR.v (.one (.ref 900 z))) hl2.symm))⟩, ⟨_, rfl, (Jf (yb _ hil hs))⟩, ⟨_, rfl, Ua⟩, ⟨_, rfl, (Xa (Da (λz => HR.v (.one (.win 900 z 0 _))) hl2.symm))⟩, tt⟩, ⟨⟨_, rfl, (y7 hil hs rfl (jh _ _) (Va (Da (λz => PV.raw (.int .u32 z)) (k8 _ _))))⟩, uu⟩⟩ ?_; show i+1<=_; omega)
           |(refine Rb (i+1,false) ⟨⟨⟨_,rfl,(Xa (Da (λz=>HR.v (.one (.ref 951 z))) hl2.symm))⟩,⟨_,rfl,(Jf (yb _ hil hs))⟩,⟨_,rfl,Ua⟩,⟨_,rfl,(Ob.one (YH hil))⟩,tt⟩,⟨⟨_,rfl,(y7 hil hs rfl (jh _ _) (Va (Da (λz=>PV.raw (.int .u32 z)) (k8 _ _))))⟩,uu⟩⟩ ?_;show i+1<=_;omega)
           |(refine Rb (i+1,true) ⟨⟨⟨_,rfl,(dy (qk hil hs))⟩,⟨_,rfl,(Jf (QA _ hil hs))⟩,⟨_,rfl,Ua⟩,⟨_,rfl,(Xa (Da (λz=>HR.v (.one (.win 900 z 0 _))) (Da List.length (qk hil hs)).symm))⟩,tt⟩,⟨⟨_,rfl,(be (qk hil hs))⟩,uu⟩⟩ ?_;show i+1<=_;omega)
    have h10:=r10;have hs:fc (ms.getD j default) ((df (ms.take j) l).getD i default)=false:=r10;refine Eb ?_
    first | (refine Rb (i+1, true) ⟨⟨⟨_, rfl, (Xa (Da (λz => HR.v (.one (.ref 900 z))) hl2.symm))⟩, ⟨_, rfl, (Jf (yb _ hil hs))⟩, ⟨_, rfl, Ua⟩, ⟨_, rfl, (Xa (Da (λz => HR.v (.one (.win 900 z 0 _))) hl2.symm))⟩, tt⟩, ⟨⟨_, rfl, (y7 hil hs rfl (jh _ _) (Va (Da (λz => PV.raw (.int .u32 z)) (k8 _ _))))⟩, uu⟩⟩ ?_; show i+1<=_; omega)
          |(refine Rb (i+1,false) ⟨⟨⟨_,rfl,(Xa (Da (λz=>HR.v (.one (.ref 951 z))) hl2.symm))⟩,⟨_,rfl,(Jf (yb _ hil hs))⟩,⟨_,rfl,Ua⟩,⟨_,rfl,(Ob.one (YH hil))⟩,tt⟩,⟨⟨_,rfl,(y7 hil hs rfl (jh _ _) (Va (Da (λz=>PV.raw (.int .u32 z)) (k8 _ _))))⟩,uu⟩⟩ ?_;show i+1<=_;omega)
          |(refine Rb (i+1,true) ⟨⟨⟨_,rfl,(dy (qk hil hs))⟩,⟨_,rfl,(Jf (QA _ hil hs))⟩,⟨_,rfl,Ua⟩,⟨_,rfl,(Xa (Da (λz=>HR.v (.one (.win 900 z 0 _))) (Da List.length (qk hil hs)).symm))⟩,tt⟩,⟨⟨_,rfl,(be (qk hil hs))⟩,uu⟩⟩ ?_;show i+1<=_;omega)
   obtain rfl:i=(df (ms.take j) l).length:=by omega
   refine Eb ?_;exact Ld (j+1) ⟨⟨⟨_,rfl,(dy (by rw[VE Za,fB]))⟩,⟨_,rfl,(Jf (by rw[KT Za,Id]))⟩,tt⟩,⟨⟨_,rfl,(be (by rw[VE Za,fB]))⟩,Aa⟩⟩
  obtain rfl:j=ms.length:=by omega
  rw[show ms.take ms.length=ms from Id];refine cg ?_;refine⟨(f-1,df ms l,qe ms l), ?_, ?_, ?_⟩
  .exact hI2
  .exact bdf hf
  exact kk
 have h1:=r1;obtain rfl:ag=false:=r1;have hl:l=(blks ms (ak n&&&~~~x)):=hI.f rfl;subst hl;refine Cb ?_;refine b5 7 rfl rfl rfl ?_;refine Cb ?_;refine Fb Ty (WA (blks ms (ak n&&&~~~x)) (Nd (qJ hI.ok) Zc)) ?_;refine Tf ?_;exact Ta
end
section
def b97 {f:Fd} {k:Nat} (h:k<(am f.rhs).length):(Dl f).getD k default=⟨f.lhs,Uz ((am f.rhs).getD k default)⟩:=by
 unfold Dl;simp[Oc,Hc h]
def gW(f:Fd):(Dl f).length=(am f.rhs).length:=by unfold Dl;rw[Yd]
def TR {fs ms:List Fd} {i k:Nat} (h:k<(am (fs.getD i default).rhs).length):md fs ms i (k+1)=md fs ms i k++[⟨(fs.getD i default).lhs,Uz ((am (fs.getD i default).rhs).getD k default)⟩]:=by
 rw[b00 (by rw[gW];exact h),b97 h]
def uR{fs ms:List Fd}{i:Nat}(h:i<fs.length):md fs ms (i+1) 0=md fs ms i (am (fs.getD i default).rhs).length:=by rw[b0g h,gW]
def ba1 {a b:AS} {k:Nat} (h:sub a b) (hb:b>>>k=0):a>>>k=0:=by
 apply Nx;intro i hi;have:=Da (λz:AS=>z.getLsbD i) hb;simp only[Jv]at this ⊢
 cases ha:a.getLsbD (k+i) with
 |false=>simp
 |true=>rw[ci.1 h _ (gP ha) ha]at this;simp at this
def Kq(b:AS)(f:Fd):Bool:=!decide ((f.rhs&&&~~~f.lhs)&&&b=0)
def uB(l:List Fd)(o b:AS):AS:=if Kd b=1 then(if l.any (Kq b)=true then o|||b else o)else o
def Tm(l:List Fd)(o:AS)(bs:List AS):AS:=bs.foldl (uB l) o
def PK {l:List Fd} {o:AS} {bs:List AS} {i:Nat} (h:i<bs.length):Tm l o (bs.take (i+1))=uB l (Tm l o (bs.take i)) (bs.getD i default):=by
 unfold Tm;rw[au h,Oi];rfl
section
variable {l:List Fd}{o:AS}{bs:List AS}{i:Nat}
def OH(h:i<bs.length)(hq:¬Kd (bs.getD i default)=1):Tm l o (bs.take i)=Tm l o (bs.take (i+1)):=by rw[PK h,uB,Ca hq]
def LH(h:i<bs.length)(hq:Kd (bs.getD i default)=1)(ha:l.any (Kq (bs.getD i default))=false):Tm l o (bs.take i)=Tm l o (bs.take (i+1)):=by rw[PK h,uB,Ba hq,Ca (by rw[ha];decide)]
def CH(h:i<bs.length)(hq:Kd (bs.getD i default)=1)(ha:l.any (Kq (bs.getD i default))=true):Tm l o (bs.take i)|||bs.getD i default=Tm l o (bs.take (i+1)):=by rw[PK h,uB,Ba hq,Ba ha]
end
def gj(n:Int)(l m:List Fd)(x:AS):List AS:=ord (blks (Zw l m) (ak n&&&~~~x))
def AG(n:Int)(l m:List Fd)(x:AS):List AS:=if Th n l m x=0 then gj n l m x else[]
def Rn(n:Int)(l m:List Fd)(x:AS):AS:=Tm l x (gj n l m x)
def IC(n:Int)(l m:List Fd)(x:AS):AS:=if Th n l m x=0 then Rn n l m x else 0
def b2q(ms:List Fd)(rest:AS):Xm (blks ms rest):=by
 have:∀(f:Nat) (l:List AS),Xm l->Xm (Ep ms f l):=by
  intro f
  induction f with
  |zero=>intro l h;exact h
  | succ f ih =>
   intro l h;unfold Ep;split
   .exact ih _ (iE h)
   exact iE h
 exact this _ _ (UU rest)
def QJ(n:Int)(l m:List Fd)(x:AS):(gj n l m x).length<=4294967296:=Nd (ui _) (qJ (b2q _ _))
def tk(p:AS)(bs:List AS):List AS:=(bs.filter λb=>!decide (b&&&p=0)).map λb=>b&&&p
section
variable {i:Nat}
def ED {p:AS} {bs:List AS} (h:i<bs.length) (hq:¬bs.getD i default&&&p=0):tk p (bs.take (i+1))=tk p (bs.take i)++[bs.getD i default&&&p]:=by
 unfold tk;rw[au h,Ek,Mi,Bk,Ba (by rw[Ha hq];rfl)];rfl
def yD {p:AS} {bs:List AS} (h:i<bs.length) (hq:bs.getD i default&&&p=0):tk p (bs.take (i+1))=tk p (bs.take i):=by
 unfold tk;rw[au h,Ek,Mi,Bk,Ca (by rw[Fa hq];decide)];simp
def iU (p:AS) (bs:List AS):(tk p bs).length<=bs.length:=by
 unfold tk;rw[Yd];exact So _ _
def x5(n:Int)(l m:List Fd)(x p:AS):List AS:=ord (tk p (gj n l m x))
def yR(n:Int)(l m:List Fd)(x p:AS):(tk p (gj n l m x)).length<=8589934592:=Nd (iU _ _) (Nd (QJ _ _ _ _) Zc)
def Gh(n:Int)(l m:List Fd)(s:AS):Int:=if n<0\/8<n then 7 else Th n l m s
variable {l m:List Fd}{n:Int}{s:AS}
def HO(h:n<0\/8<n):Gh n l m s=7:=Ba h
def SC(h:¬(n<0\/8<n)):Gh n l m s=Th n l m s:=Ca h
def wH (h:Gh n l m s=0):0<=n/\n<=8/\Th n l m s=0:=by
 unfold Gh at h;split at h
 .cases h
 exact⟨by omega,by omega,h⟩
def UI{t:AS}(h:Th n l m s=0)(ht:sub t s):Th n l m t=0:=TG (vD h).1 (ba1 ht (vD h).2)
def bb8 {t:AS} (h:Gh n l m s=0) (ht:sub t s):Gh n l m t=0:=by
 obtain⟨h1,h2,h3⟩:=wH h;rw[SC Za];exact UI h3 ht
def fG(n:Int)(l m:List Fd)(x p:AS):List AS:=if Gh n l m (x|||p)=0 then x5 n l m x p else[]
def Kt(n:Int)(l m:List Fd)(p x:AS):Option Fd:=if p&&&~~~(Rn n l m x)=0 then none else if 1<(x5 n l m x p).length then some ⟨x,(x5 n l m x p).getD 0 default⟩else none
def Xo(n:Int)(l m:List Fd)(p:AS):Option Fd:=(c7 p).findSome? (Kt n l m p)
def EC:Option Fd->Fd×Bool
 |some v=>(v,true)
 |none=>(⟨0,0⟩,false)
def Rq(n:Int)(l m:List Fd)(p:AS):Fd×Bool:=if Gh n l m p=0 then EC (Xo n l m p) else(⟨0,0⟩,false)
def A6{p:AS}(h:¬Gh n l m p=0):Rq n l m p=(⟨0,0⟩,false):=Ca h
def WP{p:AS}(h:Gh n l m p=0):Rq n l m p=EC (Xo n l m p):=Ba h
def UK {α β:Type} [Inhabited α] {f:α->Option β} {l:List α} (h:i<l.length) (hn:(l.take i).findSome? f=none):(l.take (i+1)).findSome? f=f (l.getD i default):=by
 rw[au h,nC,hn];simp only[List.findSome?_cons,List.findSome?_nil,Option.none_or];cases f (l.getD i default)<;>rfl
def azl {α β:Type} [Inhabited α] {f:α->Option β} {l:List α} {v:β} (h:i<l.length) (hn:(l.take i).findSome? f=none) (hv:f (l.getD i default)=some v):l.findSome? f=some v:=by
 have h1:=UK h hn;rw[hv]at h1;rw[<- Lz (i+1) l,nC,h1];rfl
def b2f {z:AS} (h:z∈c7 s):sub z s:=by
 unfold c7 at h;split at h
 .cases h
 exact AF.1 h
def ZK {α:Type} [Inhabited α] {l:List α} (h:i<l.length):l.getD i default∈l:=by
 rw[Oc,Hc h];exact De h
def bsp(V:AS->Option Fd):Prop:=∀p v,V p=some v->sub (v.lhs|||v.rhs) p/\v.lhs|||v.rhs≠p/\p&&&~~~v.rhs≠p
end
section
variable {V:AS->Option Fd}
def vF(V:AS->Option Fd)(s:AS):Fd:=(EC (V s)).1
def Nu(V:AS->Option Fd)(s:AS):Bool:=(EC (V s)).2
def gN(V:AS->Option Fd)(s:AS):AS:=(vF V s).lhs|||(vF V s).rhs
def vM(V:AS->Option Fd)(s:AS):AS:=s&&&~~~(vF V s).rhs
def aA (V:AS->Option Fd):Nat->List AS->List AS->List AS
 |0,_,out=>out
 | n+1,todo,out =>
  if todo.length=0 then out
  else if Nu V (todo.getD (todo.length-1) default)=true then aA V n (todo.take (todo.length-1)++[gN V (todo.getD (todo.length-1) default),vM V (todo.getD (todo.length-1) default)]) out
  else aA V n (todo.take (todo.length-1)) (out++[todo.getD (todo.length-1) default])
def bul(V:AS->Option Fd)(p0:AS)(x:Nat×List AS×List AS):Prop:=aA V x.1 x.2.1 x.2.2=aA V 6562 [p0] []/\sg x.2.1<x.1/\x.2.2.length+x.1<=6562
def gM (V:AS->Option Fd):Nat->AS->List AS
 |0,s=>[s]
 |n+1,s=>if Nu V s=true then gM V n (gN V s)++gM V n (vM V s) else[s]
end
def uY(n:Int)(l m:List Fd):List AS:=aA (Xo n l m) 6562 [ak n] []
def kZ(n:Int)(l m:List Fd):List AS:=if Gh n l m 0=0 then Ts (uY n l m) else[]
end
section
open Go.Proofs
def N8(n:Nat)(c:Bool)(f:Nat->Nat->PV)(hn:n<=17592186044416) :
 dn Ab 225 [.one (.p (.sl n 2 c f))] [] (.v (.one (.ref 0 n))) [(0, .arr true 2 54 n f)] []:=by
 refine Eg (nt:=8) func225 ?_;refine Rc ?_;refine db true rfl rfl rfl rfl rfl trivial ?_;refine cn ?_;refine iB (ι:=Bool) (λc=>⟨[(0,some (bu (.sl n 2 c f)))],[]⟩) (λ_=>True) ?_ λc _=>?_
 .rcases Mj n with hz|h0
  .subst hz
   refine Qf 0 rfl λad cap hcap=>?_;refine Rc ?_;(iterate 2 refine db true rfl rfl rfl rfl rfl trivial ?_);refine cn ?_;refine aj ad.isNone rfl ?_ ?_<;>intro hc
   .refine Rc ?_
    refine db true rfl rfl rfl rfl rfl trivial ?_;refine cn ?_;refine d9 2 0 true 2 54 f Zc rfl (Wa rfl (.inr rfl) (λh=>h) λi j hi _=>Ea hi (Ud i)) (.inr rfl) rfl ?_;refine Db ?_;exact⟨_,_,rfl,Aa,Ua,uu⟩
   refine dj ?_;exact⟨false,Aa,⟨⟨_,rfl,Fc.raw_sl hcap⟩,Aa⟩,Aa⟩
  refine Rc ?_;refine db true rfl rfl rfl rfl rfl trivial ?_;refine db true rfl rfl rfl rfl rfl h0 ?_;refine cn ?_;refine aj false rfl (λhc=>by cases hc) (λhc=>?_);refine dj ?_;exact⟨c,Aa,tt,Aa⟩
 refine Rc ?_;refine zw 0 rfl rfl rfl rfl rfl rfl trivial ?_;refine db true rfl rfl rfl rfl rfl trivial ?_;refine Yx 0 true rfl rfl rfl rfl rfl rfl ⟨Aa,rfl,rfl,rfl, .inl rfl,by show 0+n<=9223372036854775807;omega,by show(0+n)*8<=140737488355328;omega,λ_=>.inl rfl⟩ ?_;refine db true rfl rfl rfl rfl rfl trivial ?_;refine cn ?_;refine Db ?_;refine⟨_,_,rfl,Aa,Xa (by show HR.v (.one (.ref 0 (0+n)))=_;rw[Oe]),⟨⟨_,rfl, ?_⟩,Aa⟩⟩;exact⟨λh=>h,rfl,rfl,(Oe n).symm,λi j _ _=>Va (by simp[ek])⟩
def NR (n:Int) (l m:List Fd) (x:AS):a6 Ab 188 [pI n,pP (Ub l),pP (Ub m),pA x] (a7 [pI (Th n l m x)]):=by
 refine Nb (nt:=21) func188 ?_;refine ce ?_;refine Fb Ux (zt n l m) ?_;refine Jb ?_;refine Sc ?_ ?_<;>intro h0
 .refine Dd ?_;exact⟨Sb (HN Gb).symm,Aa⟩
 have hb:c8 n l m=0:=h0;obtain⟨hn0,hn1,_⟩:=l8 hb;refine Mb ?_;refine rq rfl rfl rfl rfl rfl ?_ (hp:=hn0);refine Cb ?_;refine Sc ?_ ?_<;>intro h1
 .refine Kc ?_;exact⟨Sb (TN hb (λe=>(by assumption:¬_=_) ((yu x n.toNat).trans (Da Hb e)))).symm,Aa⟩
 refine Dd ?_;exact⟨Sb (TG hb (dm.1 ((yu x n.toNat).symm.trans Gb))).symm,Aa⟩
def CO (l m:List Fd) (hl:l.length<=64) (hm:m.length<=64):a6 Ab 190 [pP (Ub l),pP (Ub m)] (a7 [pP (Ub (Zw l m))]):=by
 refine Nb (nt:=37) func190 ?_;refine Jb ?_;refine Ke (Ib func225) ((N8 m.length false (lf Fd.c m) Za).swap 0 900) trivial ?_;refine ce ?_;refine bz (ka 12 (ka 13 kn)) km (λi=>⟨[(5,some (.v (.one (.ref 900 (md l m i 0).length)))),(14,some (vI i))],[(900,some (.arr true 2 54 (md l m i 0).length (lf Fd.c (md l m i 0))))]⟩) l.length ⟨⟨⟨_,rfl,(dy (IU l m))⟩,⟨_,rfl,Ua⟩,Aa⟩,⟨⟨_,rfl,(be (IU l m))⟩,Aa⟩⟩ ?_;rintro i hi;have hmb:=ot (l.getD i default).rhs;refine Eb ?_;refine Kb ?_ ?_<;>intro h0
 ·
  refine Jb ?_;refine m9 0 ?_;refine Mb ?_;refine Fb Kx (Bw (l.getD i default).rhs) ?_;refine Mc ?_;refine bz (ka 7 (ka 12 (ka 13 (ka 14 (ka 20 (ka 21 kn)))))) (kb 0 km) (λk=>⟨[(5,some (.v (.one (.ref 900 (md l m i k).length)))),(22,some (vI k))],[(900,some (.arr true 2 54 (md l m i k).length (lf Fd.c (md l m i k))))]⟩) ((am (l.getD i default).rhs).length) ⟨⟨zy,⟨_,rfl,Ua⟩,Aa⟩,uu⟩ ?_;rintro k hk;have hal:=b6a (fs:=l) (ms:=m) (i:=i) (k:=k);refine Eb ?_;refine Kb ?_ ?_<;>intro h1
  .refine qd ?_;refine m9 1 ?_;refine Ed 2 true ?_;refine Jb ?_;exact Ld (k+1) ⟨⟨⟨_,rfl,(d6 (TR Za))⟩,tt⟩,⟨⟨_,rfl,(j7 (TR Za) Ra (Va (Da (λz=>PV.raw (.int .u32 z)) (Sz 1 _))))⟩,uu⟩⟩
  obtain rfl:k=(am (l.getD i default).rhs).length:=by omega
  refine Eb ?_;exact Ld (i+1) ⟨⟨⟨_,rfl,(dy (uR Za))⟩,tt⟩,⟨⟨_,rfl,(be (uR Za))⟩,Aa⟩⟩
 obtain rfl:i=l.length:=by omega
 refine Mb ?_;refine b5 4 rfl rfl rfl ?_;exact Nc rfl rfl rfl (⟨Ob.one (Va (by rw[b47];rfl)),Aa⟩)
def G9 (n:Int) (l m:List Fd) (x:AS):a6 Ab 193 [pI n,pP (Ub l),pP (Ub m),pA x] (a7 [pP (Cd (AG n l m x)),pI (Th n l m x)]):=by
 refine Nb (nt:=25) func193 ?_;refine fy ?_;refine Fb (Ib func188) (NR n l m x) ?_;refine Jb ?_;refine Sc ?_ ?_<;>intro h0
 .refine Eh ?_;exact⟨Ob.one (Rv (Ca Gb)),Sa,Aa⟩
 have hz:Th n l m x=0:=h0;have hb:=vD hz;obtain⟨hn0,hn1,hl64,_,hm64,_⟩:=l8 hb.1;refine Mb ?_;refine Fb (Ib func190) (CO l m hl64 hm64) ?_;refine qy ?_;refine Fb (Ib func189) (vR n (Zw l m) x hn0 hn1) ?_;refine Ef ?_;exact⟨Ob.one (Va (by rw[show AG n l m x=gj n l m x from Ba hz];rfl)),Sb hz.symm,Aa⟩
def C5 (f:Fd) (b:AS):a6 Ab 192 [f.pc,pP (bx (Ag b))] (a7 [pB (Kq b f)]):=by
 refine Nb (nt:=12) func192 ?_;refine Rc ?_;refine m9 0 ?_;refine rp ?_;exact Nc rfl rfl rfl (⟨Vb (by unfold Kq;rw[k8,RH]),Aa⟩)
def bbd (n:Int) (l m:List Fd) (x:AS):a6 Ab 143 [pI n,pP (Ub l),pP (Ub m),pA x] (a7 [pA (IC n l m x),pI (Th n l m x)]):=by
 refine Nb (nt:=45) func143 ?_;refine fy ?_;refine Fb (Ib func188) (NR n l m x) ?_;refine Jb ?_;refine Sc ?_ ?_<;>intro h0
 .refine Eh ?_;exact⟨Sb (Da Hb (show(0:AS)=IC n l m x from (Ca Gb).symm)),Sa,Aa⟩
 have hz:Th n l m x=0:=h0;have hb:=vD hz;obtain⟨hn0,hn1,hl64,_,hm64,_⟩:=l8 hb.1;refine fy ?_;refine Fb (Ib func190) (CO l m hl64 hm64) ?_;refine qy ?_;refine Fb (Ib func189) (vR n (Zw l m) x hn0 hn1) ?_;refine Mc ?_;have hbl:=QJ n l m x;refine bz (ka 1 (ka 28 (ka 29 kn))) km (λi=>⟨[(11,some (vA (Tm l x ((gj n l m x).take i)))),(30,some (vI i))],[]⟩) ((gj n l m x).length) ⟨⟨⟨_,rfl,Ua⟩,⟨_,rfl,Ua⟩,Aa⟩,Aa⟩ ?_;rintro i hi;refine Eb ?_;refine Kb ?_ ?_<;>intro h1
 ·
  have hil:i<(gj n l m x).length:=Is.1 h1;refine Jb ?_;refine m9 0 ?_;refine Mb ?_;refine Fb Hy (Qw ((gj n l m x).getD i default)) ?_;refine Cb ?_;refine Sc ?_ ?_<;>intro h2
  .have hq:¬Kd ((gj n l m x).getD i default)=1:=λe=>h2 (by rw[e];rfl);refine Eb ?_;exact Ld (i+1) ⟨⟨⟨_,rfl,(by first|exact ed (Da Hb (OH hil hq))|exact ed (Da Hb (LH hil hq ha))|exact ed ((Dh _ _).trans (Da Hb (CH hil hq ha))))⟩,tt⟩,Aa⟩
  have hq:Kd ((gj n l m x).getD i default)=1:=Int.ofNat_inj.1 h2;refine Cb ?_;refine eg 13 rfl rfl rfl ?_;refine Tb ?_;refine Fb (Ib func191) (FZ l 192 1 (λj=>[bx (Ag ((gj n l m x).getD i default))].getD j .any) (Kq ((gj n l m x).getD i default)) (Ib func192) (λf=>C5 f ((gj n l m x).getD i default))) ?_;refine cn ?_;refine aj _ rfl ?_ ?_<;>intro r3
  .have h3:=r3;have ha:l.any (Kq ((gj n l m x).getD i default))=true:=r3;refine ce ?_;exact Ld (i+1) ⟨⟨⟨_,rfl,(by first|exact ed (Da Hb (OH hil hq))|exact ed (Da Hb (LH hil hq ha))|exact ed ((Dh _ _).trans (Da Hb (CH hil hq ha))))⟩,tt⟩,Aa⟩
  have h3:=r3;have ha:l.any (Kq ((gj n l m x).getD i default))=false:=r3;refine Eb ?_;exact Ld (i+1) ⟨⟨⟨_,rfl,(by first|exact ed (Da Hb (OH hil hq))|exact ed (Da Hb (LH hil hq ha))|exact ed ((Dh _ _).trans (Da Hb (CH hil hq ha))))⟩,tt⟩,Aa⟩
 obtain rfl:i=(gj n l m x).length:=Nat.le_antisymm hi (Fz λq=>h1 (Is.2 q));rw[show(gj n l m x).take (gj n l m x).length=(gj n l m x) from Id];refine Up ?_;exact⟨Sb (Da Hb (show Rn n l m x=IC n l m x from (Ba hz).symm)),Sb hz.symm,Aa⟩
def rR (n:Int) (l m:List Fd) (s:AS):a6 Ab 92 [pI n,pP (Ub l),pP (Ub m),pA s] (a7 [pI (Gh n l m s)]):=by
 refine Nb (nt:=27) func92 ?_;refine ce ?_;refine af rfl rfl ?_ ?_<;>intro r0
 ·
  have h0:=Bc r0;(iterate 2 refine k9 (Yc r0) ?_);refine Jb ?_
  exact Nc rfl rfl rfl (⟨Sb (HO Za).symm,Aa⟩)
 have h0:=Ac r0;(iterate 2 refine qy ?_ (hg:=(Jc r0)));refine Cb ?_;refine aj _ rfl ?_ ?_<;>intro r1
 .have h1:=Bc (ai r0 r1);refine Kc ?_;exact⟨Sb (HO Za).symm,Aa⟩
 have h1:=Ac (ai r0 r1);refine Jb ?_;refine Fb Ux (zt n l m) ?_;refine Jb ?_;refine Sc ?_ ?_<;>intro h2
 ·
  have hc:¬(n<0\/8<n):=by omega
  refine Dd ?_;exact⟨Sb ((SC hc).trans (HN Gb)).symm,Aa⟩
 have hb:c8 n l m=0:=h2;obtain⟨hn0,hn1,_⟩:=l8 hb;have hc:¬(n<0\/8<n):=by omega
 refine Mb ?_;refine rq rfl rfl rfl rfl rfl ?_ (hp:=hn0);refine Cb ?_;refine Sc ?_ ?_<;>intro h3
 .refine Kc ?_;exact⟨Sb ((SC hc).trans (TN hb (λe=>(by assumption:¬_=_) ((yu s n.toNat).trans (Da Hb e))))).symm,Aa⟩
 refine Dd ?_;exact⟨Sb ((SC hc).trans (TG hb (dm.1 ((yu s n.toNat).symm.trans Gb)))).symm,Aa⟩
end
section
open Go.Proofs
section
variable {l m:List Fd}{n:Int}{x:AS}
def b4k (h:Th n l m x=0):a6 Ab 193 [pI n,pP (Ub l),pP (Ub m),pA x] (a7 [pP (Cd (gj n l m x)),pI 0]):=by
 have:=G9 n l m x;rw[h,show AG n l m x=gj n l m x from Ba h]at this;exact this
def b57 (h:Th n l m x=0):a6 Ab 143 [pI n,pP (Ub l),pP (Ub m),pA x] (a7 [pA (Rn n l m x),pI 0]):=by
 have:=bbd n l m x;rw[h,show IC n l m x=Rn n l m x from Ba h]at this;exact this
def FP{p:AS}(h:p&&&~~~(Rn n l m x)=0):Kt n l m p x=none:=Ba h
def wP{p:AS}(h:¬p&&&~~~(Rn n l m x)=0)(h2:¬1<(x5 n l m x p).length):Kt n l m p x=none:=by unfold Kt;rw[Ca h,Ca h2]
def A5{p:AS}(h:¬p&&&~~~(Rn n l m x)=0)(h2:1<(x5 n l m x p).length):Kt n l m p x=some ⟨x,(x5 n l m x p).getD 0 default⟩:=by unfold Kt;rw[Ca h,Ba h2]
def is4(n:Int)(l m:List Fd):Bool:=if Gh n l m 0=0 then !(Rq n l m (ak n)).2 else false
def A1(n:Int)(l m:List Fd)(x p:AS):a6 Ab 144 [pI n,pP (Ub l),pP (Ub m),pA x,pA p] (a7 [pP (Cd (fG n l m x p)),pI (Gh n l m (x|||p))]):=by
 refine Nb (nt:=58) func144 ?_;refine rp ?_;refine rc rfl rfl rfl rfl rfl rfl (Ib func92) (rR n l m (x|||p)) (⟨Sa,Sa,Sa,Sb (Dh _ _),Aa⟩) rfl rfl ?_;refine Jb ?_;refine Sc ?_ ?_<;>intro h0
 .refine Eh ?_;exact⟨Ob.one (Rv (Ca Gb)),Sa,Aa⟩
 have hz:Gh n l m (x|||p)=0:=h0;have hx:=UI (wH hz).2.2 (EB (a:=x) (b:=p));refine Jb ?_;refine Fb (Ib func193) (b4k hx) ?_;refine xM ?_;refine d9 15 900 true 1 48 (lf sC []) Zc rfl Ya (.inr rfl) rfl ?_;have hbl:=QJ n l m x;refine bz (ka 4 (ka 39 (ka 40 kn))) km (λi=>⟨[(15,some (.v (.one (.ref 900 (tk p ((gj n l m x).take i)).length)))),(41,some (vI i))],[(900,some (.arr true 1 48 (tk p ((gj n l m x).take i)).length (lf sC (tk p ((gj n l m x).take i)))))]⟩) ((gj n l m x).length) ⟨⟨⟨_,rfl,Ua⟩,⟨_,rfl,Ua⟩,Aa⟩,uu⟩ ?_;rintro i hi;have hcl:(tk p ((gj n l m x).take i)).length<=i:=Nd (iU _ _) (by rw[Ae];omega);refine Eb ?_;refine Kb ?_ ?_<;>intro h1
 ·
  refine qd ?_;refine Sc ?_ ?_<;>intro h2
  ·
   have hq:¬(gj n l m x).getD i default&&&p=0:=Tx h2;refine Eb ?_;refine m9 0 ?_;refine Ed 1 true ?_;refine Mb ?_
   first | (refine Rb (i+1) ⟨⟨⟨_, rfl, (d6 (ED Za hq))⟩, ⟨_, rfl, Ua⟩, tt⟩, ⟨⟨_, rfl, (cr (ED Za hq) (Va (Da (λz => PV.raw (.int .u32 z)) (jh _ _))))⟩, trivial⟩⟩ ?_; show i+1<=_; omega)
         |(refine Rb (i+1) ⟨⟨⟨_,rfl,(dy (yD Za hq))⟩,⟨_,rfl,Ua⟩,tt⟩,⟨⟨_,rfl,(be (yD Za hq))⟩,Aa⟩⟩ ?_;show i+1<=_;omega)
  have hq:(gj n l m x).getD i default&&&p=0:=Nw h2;refine Eb ?_
  first | (refine Rb (i+1) ⟨⟨⟨_, rfl, (d6 (ED Za hq))⟩, ⟨_, rfl, Ua⟩, tt⟩, ⟨⟨_, rfl, (cr (ED Za hq) (Va (Da (λz => PV.raw (.int .u32 z)) (jh _ _))))⟩, trivial⟩⟩ ?_; show i+1<=_; omega)
        |(refine Rb (i+1) ⟨⟨⟨_,rfl,(dy (yD Za hq))⟩,⟨_,rfl,Ua⟩,tt⟩,⟨⟨_,rfl,(be (yD Za hq))⟩,Aa⟩⟩ ?_;show i+1<=_;omega)
 obtain rfl:i=(gj n l m x).length:=by omega
 rw[show(gj n l m x).take (gj n l m x).length=(gj n l m x) from Id];refine Cb ?_;refine b5 15 rfl rfl rfl ?_;refine Cb ?_;refine Fb Ty (WA (tk p (gj n l m x)) (yR n l m x p)) ?_;refine Ef ?_;exact⟨Ob.one (Va (by rw[show fG n l m x p=x5 n l m x p from Ba hz];rfl)),Sb hz.symm,Aa⟩
def E7 {p:AS} (h:Gh n l m (x|||p)=0):a6 Ab 144 [pI n,pP (Ub l),pP (Ub m),pA x,pA p] (a7 [pP (Cd (x5 n l m x p)),pI 0]):=by
 have:=A1 n l m x p;rw[h,show fG n l m x p=x5 n l m x p from Ba h]at this;exact this
def R1(n:Int)(l m:List Fd)(p:AS):a6 Ab 93 [pI n,pP (Ub l),pP (Ub m),pA p] (a7 [(Rq n l m p).1.pc,pB (Rq n l m p).2,pI (Gh n l m p)]):=by
 refine Nb (nt:=72) func93 ?_;refine Rc ?_;refine m9 0 ?_;refine ce ?_;refine Fb (Ib func92) (rR n l m p) ?_;refine Jb ?_;refine Sc ?_ ?_<;>intro h0
 .refine MF ?_;exact by rw[A6 Gb];exact⟨Ob.agg ⟨Va rfl,Va rfl,Aa⟩,Sa,Sa,Aa⟩
 have hz:Gh n l m p=0:=h0;have hsl:=DF p;refine Eb ?_;refine Fb DE (DN p) ?_;refine Mc ?_;refine aa (ι:=Nat) (ka 0 (ka 1 (ka 2 (ka 3 (ka 8 (ka 27 (ka 28 kn))))))) (kb 0 km) (λi=>⟨[(29,some (vI i))],[]⟩) (λi=>i<=(c7 p).length/\((c7 p).take i).findSome? (Kt n l m p)=none) (λi=>(c7 p).length-i) (0) (⟨Zb _,rfl⟩) ⟨⟨⟨_,rfl,Ua⟩,Aa⟩,Aa⟩ ?_;rintro i ⟨hi,hI⟩;refine Eb ?_;refine Kb ?_ ?_<;>intro h1
 ·
  have hil:i<(c7 p).length:=by omega
  have hxs:sub ((c7 p).getD i default) p:=b2f (ZK hil);have hX:Th n l m ((c7 p).getD i default)=0:=UI (wH hz).2.2 hxs;have hXp:Gh n l m (((c7 p).getD i default)|||p)=0:=bb8 hz (Cy hxs (lz p));refine jz ?_;refine Fb (Ib func143) (b57 hX) ?_;refine iA ?_;refine Kb ?_ ?_<;>intro h2
  .have hq:p&&&~~~(Rn n l m ((c7 p).getD i default))=0:=yN h2;refine Eb ?_;refine Rb (i+1) ⟨⟨⟨_,rfl,Ua⟩,tt⟩,uu⟩ ?_;exact⟨by omega,(UK hil hI).trans (by first|exact FP hq|exact wP hq hc)⟩
  have hq:¬p&&&~~~(Rn n l m ((c7 p).getD i default))=0:=kP h2;refine Wb ?_;refine Fb (Ib func144) (E7 hXp) ?_;refine oA ?_;refine Kb ?_ ?_<;>intro h3
  ·
   have hc:1<(x5 n l m ((c7 p).getD i default) p).length:=by omega
   have hcl:(x5 n l m ((c7 p).getD i default) p).length<=8589934592:=Nd (ui _) (yR n l m ((c7 p).getD i default) p);refine dg ?_;refine Db ?_
   have he:Rq n l m p=(⟨((c7 p).getD i default),(x5 n l m ((c7 p).getD i default) p).getD 0 default⟩,true):=by
    rw[WP hz,show Xo n l m p=some _ from azl hil hI (A5 hq hc)];rfl
   exact f9 rfl rfl (by rw[he];exact⟨Ob.agg ⟨Ra,Ra,Aa⟩,Sa,Sb hz.symm,Aa⟩)
  have hc:¬1<(x5 n l m ((c7 p).getD i default) p).length:=by omega
  refine Eb ?_;refine Rb (i+1) ⟨⟨⟨_,rfl,Ua⟩,tt⟩,uu⟩ ?_;exact⟨by omega,(UK hil hI).trans (by first|exact FP hq|exact wP hq hc)⟩
 obtain rfl:i=(c7 p).length:=by omega
 rw[show(c7 p).take (c7 p).length=(c7 p) from Id]at hI;refine Wb ?_;refine Db ?_
 have he:Rq n l m p=(⟨0,0⟩,false):=by
  rw[WP hz,show Xo n l m p=none from hI];rfl
 exact f9 rfl rfl (by rw[he];exact⟨Ob.agg ⟨Va rfl,Va rfl,Aa⟩,Sa,Sb hz.symm,Aa⟩)
end
end
structure Mx where
 d:Zn
 m:List Dp
deriving Inhabited
def Mx.mv(x:Mx):List Fd:=x.m.map (Dp.fd x.d.num)
def Mx.c (x:Mx):Nat->PV
 |0=>x.d.c 0
 |1=>x.d.c 1
 |2=>Tu x.m
 |_=>.any
abbrev Mx.pc(x:Mx):PC:=.agg [x.c 0,x.c 1,x.c 2]
def Mx.ok(x:Mx):Bool:=decide (x.d.l.length<=6)&&decide (x.m.length<=4)
def R5 {a b:List AS} (hl:a.length=b.length) (h:∀j,j<a.length->a.getD j default=b.getD j default):a=b:=by
 apply Ez hl;intro i h1 h2;have:=h i h1;rw[Oc,Oc,Hc h1,Hc h2]at this;simpa using this
def btz(n:Int)(l m:List Fd)(ps:List AS):Int:=if Gh n l m 0=0 then Zd n ps l m else Gh n l m 0
def bu8(n:Int)(l m:List Fd)(ps:List AS):Bool:=if Gh n l m 0=0 then(if Zd n ps l m=0 then Te n ps l m&&ps.all (λp=>!Nu (Xo n l m) p)else false)else false
section
def mM(d:Fd)(r k:AS):Option AS:=if(r ^^^ k)&&&d.lhs=0 then(if(r ^^^ k)&&&d.rhs=0 then none else some ((r ^^^ k)&&&d.rhs))else none
def lM(d:Fd)(T:List AS)(r:AS):Option AS:=T.findSome? (mM d r)
def Yi(d:Fd)(T:List AS):Option AS:=T.findSome? (lM d T)
section
variable {T:List AS}{d:Fd}
def b6z{s:AS}(h:Yi d T=some s):∃r∈T,∃k∈T,Wo d r k=true/\s=(r ^^^ k)&&&d.rhs/\s≠0:=by
 unfold Yi at h;obtain⟨r,hr,h⟩:=XF h;unfold lM at h;obtain⟨k,hk,h⟩:=XF h;unfold mM at h;split at h
 .rename_i h1
  split at h
  .cases h
  rename_i h2;cases h;exact⟨r,hr,k,hk,Fa h1,rfl,h2⟩
 cases h
def yF(h:T.Nodup):T.length<=4294967296:=by
 have h1:(T.map BitVec.toNat).Nodup:=List.Pairwise.map _ (λa b hab e=>hab (Qi e)) h
 have h2:∀x∈T.map BitVec.toNat,x<4294967296:=by
  intro x hx;obtain⟨a,_,rfl⟩:=Ad.1 hx;exact a.isLt
 have hlen:(T.map BitVec.toNat).length=T.length:=Yd _;rw[<- hlen]
 have key:∀(N:Nat) (l:List Nat),l.Nodup->(∀x∈l,x<N)->l.length<=N:=by
  intro N
  induction N with
  | zero =>
   intro l _ hl
   cases l with
   |nil=>exact Yb _
   |cons a l=>exact Ea (hl a Ec) (Ud _)
  | succ N ih =>
   intro l hn hl
   have h3:=ih (l.filter λx=>!decide (x=N)) (hn.filter _) λx hx=>by
    rw[Jo]at hx;have:=hl x hx.1;have hx2:¬x=N:=by simpa using hx.2
    omega
   have h4:l.length<=(l.filter λx=>!decide (x=N)).length+1:=by
    have h5:∀l:List Nat,l.length=(l.filter λx=>!decide (x=N)).length+l.countP λx=>decide (x=N):=by
     intro l
     induction l with
     |nil=>rfl
     | cons a l ih =>
      by_cases e:a=N
      .simp[Bk,Lo,e,ih];omega
      simp[Bk,Lo,e,ih];omega
    have h6:=h5 l
    have h7:(l.countP λx=>decide (x=N))<=1:=by
     have:=hn.count (a:=N)
     have e:(l.countP λx=>decide (x=N))=l.count N:=by
      unfold List.count;congr 1
     rw[e]
     first|exact List.nodup_iff_count.1 hn N|(rw[this];split<;>omega)
    omega
   omega
 exact key _ _ h1 h2
def ue {i:Nat} (hi:i<32):(Qd T).getLsbD i=T.any λr=>r.getLsbD i:=by
 unfold Qd
 have:∀(T:List AS) (o:AS),(T.foldl (·|||·) o).getLsbD i=(o.getLsbD i||T.any λr=>r.getLsbD i):=by
  intro T
  induction T with
  |nil=>intro o;simp
  |cons a T ih=>intro o;rw[Im,ih,Rl,List.any_cons,Bool.or_assoc]
 rw[this];simp
def A9{s:AS}:Qd (tw T s)=Qd T&&&~~~s:=by
 apply Nx;intro i hi;rw[ue hi,ow hi,ue hi]
 cases hs:s.getLsbD i with
 | true =>
  simp only[Ks,Bool.and_false];rw[Dk];intro z hz;obtain⟨r,hr,rfl⟩:=HJ.1 hz;rw[ow hi,hs];simp
 | false =>
  simp only[Ls,Bool.and_true];rw[Ko,Yf,Yf];constructor
  .rintro ⟨z,hz,hb⟩
   obtain⟨r,hr,rfl⟩:=HJ.1 hz;rw[ow hi,Od]at hb;exact⟨r,hr,hb.1⟩
  rintro⟨r,hr,hb⟩;exact⟨r&&&~~~s,HJ.2 ⟨r,hr,rfl⟩,by rw[ow hi,hb,hs];rfl⟩
def YI {s:AS} (h:Yi d T=some s):(Qd (tw T s)).toNat<(Qd T).toNat:=by
 obtain⟨r,hr,k,hk,_,rfl,hz⟩:=b6z h;rw[A9];refine Dy y6 λe=>?_;obtain⟨i,hi,hb⟩:=U6 hz;have h1:=Da (λz:AS=>z.getLsbD i) e;simp only[ow hi,hb,Ks,Bool.and_false]at h1;have h1:(Qd T).getLsbD i=false:=h1.symm;rw[ue hi,Dk]at h1;rw[Hg,BitVec.getLsbD_xor,Od]at hb;have h2:r.getLsbD i=false:=by simpa using h1 r hr
 have h3:k.getLsbD i=false:=by simpa using h1 k hk
 rw[h2,h3]at hb;simp at hb
def sm (d:Fd):Nat->List AS->List AS
 |0,T=>T
 | f+1,T=>match Yi d T with
  |none=>T
  |some s=>sm d f (tw T s)
def Cs(d:Fd)(T:List AS)(i k:Nat):List AS:=if Wo d (T.getD i default) (T.getD k default)=true then sh T (Xn d (T.getD i default) (T.getD k default))else T
def Wi (d:Fd):Nat->List AS->Nat->Nat->List AS
 |0,T,_,_=>T
 |f+1,T,i,k=>if k<T.length then Wi d f (Cs d T i k) i (k+1)else T
def Ti (d:Fd):Nat->List AS->Nat->List AS
 |0,T,_=>T
 |f+1,T,i=>if i<T.length then Ti d f (Wi d 8589934592 T i 0) (i+1)else T
def CE(d:Fd)(T:List AS)(i k:Nat):T <+: Cs d T i k:=by
 unfold Cs sh;split
 .split
  .exact Gq _
  exact List.prefix_append _ _
 exact Gq _
def KE (d:Fd):∀(f:Nat) (T:List AS) (i k:Nat),T <+: Wi d f T i k
 |0,T,_,_=>Gq _
 | f+1,T,i,k=>by
  unfold Wi;split
  .exact(CE d T i k).trans (KE d f _ i (k+1))
  exact Gq _
def uQ (d:Fd):∀(f:Nat) (T:List AS) (i:Nat),T <+: Ti d f T i
 |0,T,_=>Gq _
 | f+1,T,i=>by
  unfold Ti;split
  .exact(KE d _ T i 0).trans (uQ d f _ (i+1))
  exact Gq _
def nP {i k:Nat} (h:T.Nodup):(Cs d T i k).Nodup:=by
 unfold Cs;split
 .exact zj h
 exact h
def ZH:∀{f:Nat} {T:List AS} {i k:Nat},T.Nodup->(Wi d f T i k).Nodup
 |0,T,_,_,h=>h
 | f+1,T,i,k,h=>by
  unfold Wi;split
  .exact ZH (nP h)
  exact h
def xH:∀{f:Nat} {T:List AS} {i:Nat},T.Nodup->(Ti d f T i).Nodup
 |0,T,_,h=>h
 | f+1,T,i,h=>by
  unfold Ti;split
  .exact xH (ZH h)
  exact h
abbrev TC:=List AS×Bool
def Ph:Nat:=8589934592
def Zi(x:TC)(d:Fd):TC:=(sm d Ph x.1,x.2||(Yi d x.1).isSome)
def Gl(x:TC)(d:Fd):TC:=(Ti d Ph x.1 0,x.2||decide (x.1.length<(Ti d Ph x.1 0).length))
def yr(fs ms:List Fd)(T:List AS):TC:=ms.foldl Gl (fs.foldl Zi (T,false))
def Bz (fs ms:List Fd):Nat->List AS->List AS
 |0,T=>T
 |f+1,T=>if(yr fs ms T).2=true then Bz fs ms f (yr fs ms T).1 else(yr fs ms T).1
def Gf(T:List AS):Nat:=(Qd T).toNat*Ph+(4294967296-T.length)
def CF {f:Nat} {s:AS} (h:Yi d T=some s):sm d (f+1) T=sm d f (tw T s):=by
 show(match Yi d T with|none=>T|some s=>sm d f (tw T s))=_;rw[h]
def iL {f:Nat} (h:Yi d T=none):sm d f T=T:=by
 cases f with
 |zero=>rfl
 | succ f =>
  show(match Yi d T with|none=>T|some s=>sm d f (tw T s))=_;rw[h]
variable {P:List AS->Prop}
def WT (hP:∀T s,P T->Yi d T=some s->P (tw T s)):∀(f:Nat) (T:List AS),P T->P (sm d f T)
 |0,T,h=>h
 | f+1,T,h=>by
  cases hq:Yi d T with
  |none=>rw[iL hq];exact h
  |some s=>rw[CF hq];exact WT hP f _ (hP T s h hq)
def WQ(hP:∀T r k,P T->r∈T->k∈T->Wo d r k=true->P (sh T (Xn d r k))):∀(f:Nat) (T:List AS) (i k:Nat),i<T.length->P T->P (Wi d f T i k)
 |0,T,_,_,_,h=>h
 | f + 1,T,i,k,hi,h=>by
  unfold Wi;split
  .rename_i hk
   refine WQ hP f _ i (k+1) (Ln hi (CE d T i k).length_le) ?_;unfold Cs;split
   .rename_i ha
    exact hP T _ _ h (ZK hi) (ZK hk) ha
   exact h
  exact h
def mI(hP:∀T r k,P T->r∈T->k∈T->Wo d r k=true->P (sh T (Xn d r k))):∀(f:Nat) (T:List AS) (i:Nat),P T->P (Ti d f T i)
 |0,T,_,h=>h
 | f + 1,T,i,h=>by
  unfold Ti;split
  .rename_i hi
   exact mI hP f _ (i+1) (WQ hP _ T i 0 hi h)
  exact h
variable {fs:List Fd}
def zI (hP:∀d∈fs,∀T s,P T->Yi d T=some s->P (tw T s)):∀(ds:List Fd) (x:TC),(∀d∈ds,d∈fs)->P x.1->P (ds.foldl Zi x).1
 | [],x,_,h=>h
 |d::ds,x,hd,h=>zI hP ds (Zi x d) (λe he=>hd e (by simp[he])) (WT (hP d (hd d Ec)) _ _ h)
variable {ms:List Fd}
def mR (hP:∀d∈ms,∀T r k,P T->r∈T->k∈T->Wo d r k=true->P (sh T (Xn d r k))):∀(ds:List Fd) (x:TC),(∀d∈ds,d∈ms)->P x.1->P (ds.foldl Gl x).1
 | [],x,_,h=>h
 |d::ds,x,hd,h=>mR hP ds (Gl x d) (λe he=>hd e (by simp[he])) (mI (hP d (hd d Ec)) _ _ _ h)
def bez (h1:∀d∈fs,∀T s,P T->Yi d T=some s->P (tw T s)) (h2:∀d∈ms,∀T r k,P T->r∈T->k∈T->Wo d r k=true->P (sh T (Xn d r k))) (h:P T):P (yr fs ms T).1 :=
 mR h2 ms _ (λ_ h=>h) (zI h1 fs (T,false) (λ_ h=>h) h)
def LN:∀d∈fs,∀(T:List AS) (s:AS),T.Nodup->Yi d T=some s->(tw T s).Nodup:=λ_ _ T s _ _=>NV T s
def A0:∀d∈ms,∀(T:List AS) (r k:AS),T.Nodup->r∈T->k∈T->Wo d r k=true->(sh T (Xn d r k)).Nodup:=λ_ _ _ _ _ h _ _ _=>zj h
def mP {A B:List AS} (h:(Qd B).toNat<(Qd A).toNat):Gf B<Gf A:=by
 unfold Gf;have h1:((Qd B).toNat+1)*Ph<=(Qd A).toNat*Ph:=Ve _ h;rw[Mf]at h1;have:Ph=8589934592:=rfl;omega
def C9 {A B:List AS} (hp:A <+: B) (ho:(Qd B).toNat=(Qd A).toNat) (hB:B.length<=4294967296):Gf B<=Gf A/\(A.length<B.length->Gf B<Gf A):=by
 unfold Gf;rw[ho];have:=hp.length_le;omega
def L9{r k:AS}(hr:r∈T)(hk:k∈T):Qd (sh T (Xn d r k))=Qd T:=by
 apply Nx;intro i hi;rw[ue hi,ue hi,Ko,Yf,Yf];constructor
 .rintro ⟨z,hz,hb⟩
  rcases gK.1 hz with hz|rfl
  .exact⟨z,hz,hb⟩
  rw[b42 hi]at hb;split at hb
  .exact⟨r,hr,hb⟩
  exact⟨k,hk,hb⟩
 rintro⟨z,hz,hb⟩;exact⟨z,gK.2 (.inl hz),hb⟩
def beb {f:Nat} {i:Nat}:Qd (Ti d f T i)=Qd T :=
 mI (P:=λX=>Qd X=Qd T) (λX r k h hr hk _=>(L9 hr hk).trans h) f T i rfl
def sR{T0:List AS}(f:Nat):∀(T:List AS),Gf T<=Gf T0->Gf (sm d f T)<=Gf T0:=by
 induction f with
 |zero=>intro T h;exact h
 | succ f ih =>
  intro T h
  cases hq:Yi d T with
  |none=>rw[iL hq];exact h
  | some s =>
   rw[CF hq];have h1:=mP (YI hq);exact ih _ Za
def Q8 (x:TC) (d:Fd):Gf (Zi x d).1<=Gf x.1/\(x.2=false->(Zi x d).2=true->Gf (Zi x d).1<Gf x.1):=by
 refine⟨sR _ _ (Yb _),λh1 h2=>?_⟩;unfold Zi at h2 ⊢;rw[h1,Bool.false_or,Option.isSome_iff_exists]at h2;obtain⟨s,hs⟩:=h2;show Gf (sm d Ph x.1)<_;rw[show Ph=8589934591+1 from rfl,CF hs];exact Nat.lt_of_le_of_lt (sR _ _ (Yb _)) (mP (YI hs))
def R8 {x:TC} (hn:x.1.Nodup) (d:Fd):Gf (Gl x d).1<=Gf x.1/\(x.2=false->(Gl x d).2=true->Gf (Gl x d).1<Gf x.1):=by
 have h:=C9 (uQ d Ph x.1 0) (Da BitVec.toNat beb) (yF (xH hn));refine⟨h.1,λh1 h2=>h.2 ?_⟩;unfold Gl at h2;rw[h1,Bool.false_or]at h2;exact Ga h2
def zR:∀(ds:List Fd) (x:TC),Gf (ds.foldl Zi x).1<=Gf x.1/\(x.2=false->(ds.foldl Zi x).2=true->Gf (ds.foldl Zi x).1<Gf x.1)
 | [],x=>⟨Yb _,λh k=>by simp only[Wu]at k;rw[h]at k;cases k⟩
 | d::ds,x=>by
  obtain⟨a1,a2⟩:=Q8 x d;obtain⟨b1,b2⟩:=zR ds (Zi x d);refine⟨Nd b1 a1,λh k=>?_⟩
  cases hq:(Zi x d).2 with
  |true=>exact Nat.lt_of_le_of_lt b1 (a2 h hq)
  |false=>exact Ln (b2 hq k) a1
def gR:∀(ds:List Fd) (x:TC),x.1.Nodup->Gf (ds.foldl Gl x).1<=Gf x.1/\(x.2=false->(ds.foldl Gl x).2=true->Gf (ds.foldl Gl x).1<Gf x.1)
 | [],x,_=>⟨Yb _,λh k=>by simp only[Wu]at k;rw[h]at k;cases k⟩
 | d::ds,x,hn=>by
  obtain⟨a1,a2⟩:=R8 hn d;obtain⟨b1,b2⟩:=gR ds (Gl x d) (xH hn);refine⟨Nd b1 a1,λh k=>?_⟩
  cases hq:(Gl x d).2 with
  |true=>exact Nat.lt_of_le_of_lt b1 (a2 h hq)
  |false=>exact Ln (b2 hq k) a1
def R4 (hn:T.Nodup) (h:(yr fs ms T).2=true):Gf (yr fs ms T).1<Gf T:=by
 unfold yr at h ⊢;obtain⟨a1,a2⟩:=zR fs (T,false);have hn2:(fs.foldl Zi (T,false)).1.Nodup:=zI LN fs (T,false) (λ_ h=>h) hn;obtain⟨b1,b2⟩:=gR ms (fs.foldl Zi (T,false)) hn2
 cases hq:(fs.foldl Zi (T,false)).2 with
 |true=>exact Nat.lt_of_le_of_lt b1 (a2 rfl hq)
 |false=>exact Ln (b2 hq h) a1
def MU:Nat:=73786976294838206464
def N4 (T:List AS):Gf T<MU:=by
 unfold Gf;have h:=(Qd T).isLt;have h1:((Qd T).toNat+1)*Ph<=4294967296*Ph:=Ve _ h;rw[Mf]at h1;have e:Ph=8589934592:=rfl;have e2:MU=73786976294838206464:=rfl;omega
def eG(rest:AS):List AS:=sh [0] rest
def FX(fs ms:List Fd)(rest:AS):List AS:=Bz fs ms MU (eG rest)
def P0(rest:AS):(eG rest).Nodup:=zj Ec
end
end
section
open Go.Proofs
def sT:List Rw:=[[0,1,5],[0,7,2]]
def fdX:List Fd:=[⟨1,2⟩]
def eZ (a b:List AS):a6 Ab 23 [pP (Cd a),pP (Cd b)] (a7 [pB (decide (a=b))]):=by
 refine Nb (nt:=26) func23 ?_;refine Mb ?_;refine cj 0 rfl λhn0=>?_;refine cj 1 rfl λhn1=>?_;refine Jb ?_;refine Sc ?_ ?_<;>intro h0
 .refine Kc ?_;exact⟨Vb (Ha λe=>by subst e;omega).symm,Aa⟩
 refine Cc ?_;refine aa (ι:=Nat) (ka 0 (ka 1 (ka 12 kn))) km (λi=>⟨[(13,some (vI i))],[]⟩) (λi=>i<=a.length/\∀j,j<i->a.getD j default=b.getD j default) (λi=>a.length-i) (0) (⟨Zb _,λj hj=>Ea hj (Ud j)⟩) ⟨⟨⟨_,rfl,Ua⟩,Aa⟩,Aa⟩ ?_;rintro i ⟨hi,hI⟩;refine Eb ?_;refine Kb ?_ ?_<;>intro h1
 ·
  refine Nv ?_;refine Sc ?_ ?_<;>intro h2
  .refine Kc ?_;exact⟨Vb (Ha λe=>by subst e;exact Ea rfl (by assumption:¬Hb _=Hb _)).symm,Aa⟩
  refine Eb ?_;refine Rb (i+1) ⟨⟨⟨_,rfl,Ua⟩,tt⟩,Aa⟩ ?_;refine⟨by omega,λj hj=>?_⟩;by_cases e:j=i
  .subst e;exact dm.1 Gb
  exact hI j Za
 obtain rfl:i=a.length:=by omega
 refine Dd ?_;exact⟨Vb (Fa (R5 Za hI)).symm,Aa⟩
end
section
structure Mp (d:Fd) (T0:List AS) (x:Nat×List AS×Nat):Prop where
 nd:x.2.1.Nodup
 pre:T0 <+: x.2.1
 res:Ti d x.1 x.2.1 x.2.2=Ti d Ph T0 0
 le:x.2.2<=x.2.1.length
 fuel:4294967296<x.1+x.2.2
structure Np (d:Fd) (T:List AS) (i:Nat) (x:Nat×List AS×Nat):Prop where
 nd:x.2.1.Nodup
 pre:T <+: x.2.1
 res:Wi d x.1 x.2.1 i x.2.2=Wi d 8589934592 T i 0
 le:x.2.2<=x.2.1.length
 fuel:4294967296<x.1+x.2.2
section
variable {d:Fd}{T0 T:List AS}{i f k:Nat}
theorem Mp.start(h:T.Nodup):Mp d T (Ph,T,0):=⟨h,Gq _,rfl,Zb _,by show 4294967296<8589934592+0;omega⟩
theorem Np.start(h:T.Nodup):Np d T i (8589934592,T,0):=⟨h,Gq _,rfl,Zb _,by show 4294967296<8589934592+0;omega⟩
theorem Mp.pos (h:Mp d T0 (f,T,i)):0<f/\T.length<=4294967296:=by
 have h1:=yF h.nd;have h2:=h.le;have h3:=h.fuel;dsimp only at h1 h2 h3;omega
section
variable {U:List AS}
theorem Np.pos (h:Np d T i (f,U,k)):0<f/\U.length<=4294967296:=by
 have h1:=yF h.nd;have h2:=h.le;have h3:=h.fuel;dsimp only at h1 h2 h3;omega
theorem Mp.done (h:Mp d T0 (f,T,i)) (hi:¬i<T.length):T=Ti d Ph T0 0:=by
 have hp:=h.pos.1;have hr:Ti d f T i=Ti d Ph T0 0:=h.res;obtain⟨g,rfl⟩:∃g,f=g+1:=⟨f-1,by omega⟩;unfold Ti at hr;rw[Ca hi]at hr;exact hr
theorem Np.done (h:Np d T i (f,U,k)) (hk:¬k<U.length):U=Wi d 8589934592 T i 0:=by
 have hp:=h.pos.1;have hr:Wi d f U i k=Wi d 8589934592 T i 0:=h.res;obtain⟨g,rfl⟩:∃g,f=g+1:=⟨f-1,by omega⟩;unfold Wi at hr;rw[Ca hk]at hr;exact hr
theorem Np.next (h:Np d T i (f,U,k)) (hk:k<U.length):Np d T i (f-1,Cs d U i k,k+1):=by
 have hp:=h.pos.1;have hr:Wi d f U i k=Wi d 8589934592 T i 0:=h.res;obtain⟨g,rfl⟩:∃g,f=g+1:=⟨f-1,by omega⟩;unfold Wi at hr;rw[Ba hk]at hr;have hf:4294967296<g+1+k:=h.fuel;exact⟨nP h.nd,h.pre.trans (CE d U i k),hr,Nd hk (CE d U i k).length_le,by show 4294967296<g+(k+1);omega⟩
theorem Mp.next (h:Mp d T0 (f,T,i)) (hi:i<T.length) (hU:U=Wi d 8589934592 T i 0):Mp d T0 (f-1,U,i+1):=by
 subst hU;have hp:=h.pos.1;have hr:Ti d f T i=Ti d Ph T0 0:=h.res;obtain⟨g,rfl⟩:∃g,f=g+1:=⟨f-1,by omega⟩;unfold Ti at hr;rw[Ba hi]at hr;have hf:4294967296<g+1+i:=h.fuel;exact⟨ZH h.nd,h.pre.trans (KE d _ T i 0),hr,Nd hi (KE d _ T i 0).length_le,by show 4294967296<g+(i+1);omega⟩
end
end
end
section
structure RB (l m:List Fd) (R:List AS) (x:Nat×List AS×Bool):Prop where
 nd:x.2.1.Nodup
 t:x.2.2=true->Bz l m x.1 x.2.1=R/\Gf x.2.1<x.1
 f:x.2.2=false->x.2.1=R
def bts(x:Nat×List AS×Bool):Nat:=x.1+(bif x.2.2 then 1 else 0)
theorem RB.start(l m:List Fd)(rest:AS):RB l m (FX l m rest) (MU,eG rest,true):=⟨P0 rest,λ_=>⟨rfl,N4 _⟩,λh=>by cases h⟩
theorem RB.next {l m:List Fd} {R T:List AS} {f:Nat} (h:RB l m R (f,T,true)):RB l m R (f-1,(yr l m T).1,(yr l m T).2)/\0<f:=by
 obtain⟨h1,h2⟩:=h.t rfl;have h2:Gf T<f:=h2;have h1:Bz l m f T=R:=h1;have hn:T.Nodup:=h.nd;obtain⟨g,rfl⟩:∃g,f=g+1:=⟨f-1,by omega⟩;unfold Bz at h1;refine⟨⟨bez LN A0 hn,λhc=>?_,λhc=>?_⟩,by omega⟩
 .have hc:(yr l m T).2=true:=hc
  rw[Ba hc]at h1;have:=R4 hn hc;exact⟨h1,by show Gf (yr l m T).1<g;omega⟩
 have hc:(yr l m T).2=false:=hc;rw[Ca (by rw[hc];decide)]at h1;exact h1
def bt9(l:List Fd)(T:List AS)(i:Nat):TC:=(l.take i).foldl Zi (T,false)
def mvX(m:List Fd)(x:TC)(i:Nat):TC:=(m.take i).foldl Gl x
structure Qp (d:Fd) (U0:List AS) (x:Nat×List AS×Bool):Prop where
 nd:x.2.1.Nodup
 res:sm d x.1 x.2.1=sm d Ph U0
 fuel:(Qd x.2.1).toNat<x.1
 f:x.2.2=false->x.2.1=U0
 t:x.2.2=true->(Yi d U0).isSome=true
section
variable {d:Fd}{U0 U:List AS}{g:Nat}{b c:Bool}{s:AS}
theorem Qp.start(h:U0.Nodup):Qp d U0 (Ph,U0,false):=⟨h,rfl,Ln (Qd U0).isLt (show 2^32<=Ph by decide),λ_=>rfl,λh=>by cases h⟩
theorem Qp.len(h:Qp d U0 (g,U,b)):U.length<=8589934592:=Nd (yF (show U.Nodup from h.nd)) Zc
theorem Qp.next (h:Qp d U0 (g,U,b)) (hq:Yi d U=some s):Qp d U0 (g-1,tw U s,true)/\0<g:=by
 have h3:(Qd U).toNat<g:=h.fuel;have h2:sm d g U=sm d Ph U0:=h.res;obtain⟨k,rfl⟩:∃k,g=k+1:=⟨g-1,by omega⟩;rw[CF hq]at h2;have h4:=YI hq;refine⟨⟨NV U s,h2,(by show(Qd (tw U s)).toNat<k;omega),(λhc=>by cases hc),λ_=>?_⟩,by omega⟩
 cases hb:b with
 |true=>exact h.t hb
 | false =>
  have e:U=U0:=h.f hb;rw[<- e,hq];rfl
theorem Qp.done (h:Qp d U0 (g,U,b)) (hq:Yi d U=none):(U,c||b)=Zi (U0,c) d:=by
 have h2:sm d g U=sm d Ph U0:=h.res;rw[iL hq]at h2;unfold Zi;rw[<- h2]
 cases hb:b with
 |true=>rw[h.t hb]
 | false =>
  have e:U=U0:=h.f hb;rw[<- e,hq];rfl
end
end
section
def dA(a b:AS):Bool:=Pq b a
def nA(l:List AS):List AS:=WC dA l
def okM(l:List AS)(i k:Nat):Bool:=(List.range k).all λj=>decide (j=i)||!Pq (l.getD j default) (l.getD i default)
def bso(l:List AS)(i:Nat):List AS:=((ord l).take i).filter λx=>!Sx dA (ord l) x
def b4o{l:List AS}{z:AS}:z∈nA l<->z∈l/\∀b∈l,sub b z->b=z:=by
 unfold nA WC;rw[Jo,zz,Nh,Ie];refine and_congr Oa ?_;unfold Sx dA Pq;rw[Ne,Yf];constructor
 .intro h b hb hs
  apply La;intro hne;exact h ⟨b,zz.2 hb,by rw[Od,Ja,Ja];exact⟨λe=>hne e.symm,hs⟩⟩
 rintro h ⟨b,hb,hc⟩;rw[Od,Ja,Ja]at hc;exact hc.1 (h b (zz.1 hb) hc.2).symm
def b6y(l:List AS):(nA l).length<=l.length:=Nd (So _ _) (ui l)
def yq(rest L x:AS)(T:List AS)(y:AS):Bool:=!decide (y=0)&&(decide (y&&&~~~rest=0)&&decide ((L&&&~~~(x|||y))∈T))
def yL(rest L x:AS)(T:List AS)(k:Nat):List AS:=((List.range k).map (BitVec.ofNat 32)).filter (yq rest L x T)
section
variable {rest L x:AS}{T:List AS}{k:Nat}
end
end
section
section
variable {n:Int}{p m:List Fd}{E:Int->Int->Prop}{R:Rw->Prop}
def bt2(E:Int->Int->Prop)(R:Rw->Prop)(x b:AS):Prop:=∀a c,R a->R c->SB E a c x->R (dz a c b)
end
section
variable {n:Int}{p m:List Fd}
end
end
section
def Uj(s:AS)(n:Nat):List Nat:=(List.range n).filter λi=>bw s (i:Int)
section
variable {s part q:AS}{n:Nat}
def oO (h:bw s (n:Int)=true):Uj s (n+1)=Uj s n++[n]:=by
 unfold Uj;rw[Ak,Ek];simp[h]
def dO (h:bw s (n:Int)=false):Uj s (n+1)=Uj s n:=by
 unfold Uj;rw[Ak,Ek];simp[h]
def dB{i:Nat}:i∈Uj s n<->i<n/\bw s (i:Int)=true:=by simp[Uj]
def zQ:(Uj s n).length<=n:=by
 have:=So (λi:Nat=>bw s (i:Int)) (List.range n);rw[Jm]at this;exact this
def xD{l:List Lb}:Wc l s=(Uj s l.length).map λi=>l.getD i default:=by
 have key:∀i,i<=l.length->Wc (l.take i) s=(Uj s i).map λk=>l.getD k default:=by
  intro i
  induction i with
  |zero=>intro _;rfl
  | succ i ih =>
   intro hi
   cases h:bw s (i:Int) with
   |true=>rw[zh Za h,oO h,Mi,ih Za];rfl
   |false=>rw[zd Za h,dO h,ih Za]
 have:=key l.length (Yb _);rwa [Id]at this
end
def OM (part s:AS):Nat->AS
 |0=>0
 |a+1=>if(bw part (a:Int)&&bw s (a:Int))=true then OM part s a|||Uz (Uj part a).length else OM part s a
section
variable {part s:AS}
end
def Se(s:AS)(R:List Xb)(i:Nat):List Xb:=(R.take i).foldl (λo r=>if ni o (Wc r.vals s)=true then o else o++[⟨r.id,Wc r.vals s⟩]) []
def gk(s:AS)(l:List ByteArray)(i:Nat):List ByteArray:=(Uj s i).map λk=>l.getD k default
def Tw(t:ac)(s:AS):ac:=⟨t.name,gk s t.attrs t.attrs.length,Se s t.rows t.rows.length⟩
section
variable {s:AS}{R:List Xb}{i:Nat}
def kH (hi:i<R.length) (h:ni (Se s R i) (Wc (R.getD i default).vals s)=true):Se s R (i+1)=Se s R i:=by
 unfold Se at h ⊢;rw[au hi,Oi];simp only[Im,Wu];rw[Ba h]
def eH (hi:i<R.length) (h:ni (Se s R i) (Wc (R.getD i default).vals s)=false):Se s R (i+1)=Se s R i++[⟨(R.getD i default).id,Wc (R.getD i default).vals s⟩]:=by
 unfold Se at h ⊢;rw[au hi,Oi];simp only[Im,Wu];rw[Ca (by rw[h];decide)]
def qr(hS:mz R):∀i,i<=R.length->(∀r∈Se s R i,∃k,k<i/\r.id=(R.getD k default).id/\r.vals=Wc (R.getD k default).vals s)/\(∀k,k<i->∃r∈Se s R i,r.vals=Wc (R.getD k default).vals s)/\mz (Se s R i)/\(Se s R i).length<=i
 |0,_=>⟨λr hr=>(by cases hr),λk hk=>Ea hk (Ud k),List.Pairwise.nil,Yb _⟩
 | i + 1,hi=>by
  obtain⟨h1,h2,h3,h4⟩:=qr hS i Za
  cases h:ni (Se s R i) (Wc (R.getD i default).vals s) with
  | true =>
   rw[kH Za h];refine⟨λr hr=>?_,λk hk=>?_,h3,by omega⟩
   .obtain ⟨k,hk,e⟩:=h1 r hr
    exact⟨k,by omega,e⟩
   rcases Io k i with hk2|hk2
   .exact h2 k hk2
   obtain rfl:k=i:=by omega
   obtain⟨r,hr,e⟩:=Yf.1 h;exact⟨r,hr,Ga e⟩
  | false =>
   rw[eH Za h];refine⟨λr hr=>?_,λk hk=>?_, ?_,by simp;omega⟩
   .rcases Af.1 hr with hr|hr
    .obtain ⟨k,hk,e⟩:=h1 r hr
     exact⟨k,by omega,e⟩
    obtain rfl:=Bf.1 hr;exact⟨i,by omega,rfl,rfl⟩
   .rcases Io k i with hk2|hk2
    .obtain ⟨r,hr,e⟩:=h2 k hk2
     exact⟨r,Ig _ hr,e⟩
    obtain rfl:k=i:=by omega
    exact⟨_,Bh _ (Bf.2 rfl),rfl⟩
   refine Jz.2 ⟨h3,List.pairwise_singleton _ _,λa ha b hb=>?_⟩;obtain rfl:=Bf.1 hb;obtain⟨k,hk,e,_⟩:=h1 a ha;show a.id<(R.getD i default).id;rw[e,cq _ _ (by omega:k<R.length),cq _ _ (by omega:i<R.length)];exact Zk.1 hS k i Za Za hk
end
section
variable {l:List ByteArray}
def wF(h:xl l=true):l.Nodup/\∀a∈l,gq a=true:=by
 have key:=λi (hi:i<l.length)=>Ze.1 h i (Fe.2 hi);constructor
 .refine Zk.2 λj i hj hi hij e=>?_
  have h1:=key i hi;unfold nk at h1;rw[Od,Ia]at h1;have h2:=h1.2;unfold j0 at h2;have h3:=Qy (p:=λx=>decide (x=l.getD i default)) (l:=l.take i);rw[Ha Za]at h3
  have h4:=Dk.1 h3.symm l[j] (by
   have hj2:j<(l.take i).length:=by rw[Ae];omega
   have e2:(l.take i)[j]=l[j]:=by rw[List.getElem_take]
   rw[<- e2]
   exact De hj2)
  refine h4 (Fa ?_);rw[e,cq _ _ hi]
 intro a ha;obtain⟨i,hi,rfl⟩:=Fg ha;have h1:=key i hi;unfold nk at h1;rw[Od,cq _ _ hi]at h1;exact h1.1
def fP (h:l.Nodup) (h2:∀a∈l,gq a=true):xl l=true:=by
 refine Ze.2 λi hi=>?_;have hi:=Fe.1 hi;unfold nk;rw[cq _ _ hi,h2 _ (De hi),Aj,Ia];apply La;intro hn;have h3:=Qy (p:=λx=>decide (x=l[i])) (l:=l.take i);unfold j0 at hn;rw[Fa Za]at h3;obtain⟨x,hx,e⟩:=Yf.1 h3.symm;obtain⟨j,hj,e2⟩:=Fg hx;rw[Ae]at hj;rw[List.getElem_take]at e2;have e:=Ga e;exact Zk.1 h j i Za hi Za (e2.trans e)
def vJ {s:AS}:(gk s l l.length).Sublist l:=by
 have h:((Uj s l.length).map λk=>l.getD k default).Sublist ((List.range l.length).map λk=>l.getD k default):=(List.filter_sublist).map _
 have e:(List.range l.length).map (λk=>l.getD k default)=l:=by
  refine Ez Ec λi h1 h2=>?_;rw[List.getElem_map,List.getElem_range,cq _ _ h2]
 rw[e]at h;exact h
def mK{s:AS}{n:Nat}:(gk s l n).length=(Uj s n).length:=Yd ..
def baw{t:ac}{s:AS}(h:Ri t):Ri (Tw t s) where
 nm:=h.nm
 na:=by show(gk s t.attrs _).length<=16;have:=(vJ (s:=s) (l:=t.attrs)).length_le;have:=h.na;omega
 nr:=by show(Se s t.rows _).length<=1000;have:=(qr (s:=s) (f7 h.rs) t.rows.length (Yb _)).2.2.2;have:=h.nr;omega
 nms:=by
  obtain⟨h1,h2⟩:=wF h.nms;exact fP (vJ.nodup h1) λa ha=>h2 a (vJ.subset ha)
 rs:=by
  obtain⟨h1,_,h3,_⟩:=qr (s:=s) (f7 h.rs) t.rows.length (Yb _);refine ov (λr hr=>?_) h3;obtain⟨k,hk,e1,e2⟩:=h1 r hr;obtain⟨g1,g2,g3⟩:=jw h.rs (t.rows.getD k default) (by rw[cq _ _ hk];exact De hk);refine⟨by rw[e1];exact g1, ?_, ?_⟩
  .rw [e2,xD,g2,Yd]
   exact mK.symm
  rw[e2,Ze];intro v hv;exact Ze.1 g3 v (u6 hv)
end
section
variable {t:ac}{p m:List Fd}
end
end
section
abbrev Fs(l:List ByteArray)(x:ByteArray):Nat:=@List.idxOf _ instBEqOfDecidableEq x l
section
variable {T:List ByteArray}
def tI {g:ByteArray->Lb} {s:AS}:Wc (T.map g) s=(gk s T T.length).map g:=by
 rw[xD];unfold gk;rw[Js,Yd];exact Mn λi hi=>o9 (dB.1 hi).1
def JV {s:AS} (h:T.Nodup):(gk s T T.length).Nodup:=by
 unfold gk;have hm:(Uj s T.length).Nodup:=List.Nodup.sublist List.filter_sublist List.nodup_range;refine Av.2 (hm.imp_of_mem λ{a b} ha hb hne e=>hne ?_);rw[<- qu h (dB.1 ha).1,<- qu h (dB.1 hb).1,e]
def TT {s:AS} {x:ByteArray} (h:x∈gk s T T.length):x∈T:=by
 obtain⟨i,hi,rfl⟩:=Ad.1 h;rw[gD (dB.1 hi).1];exact De _
def GQ (hT:T.Nodup) {r:List Lb} (h:r.length=T.length):∃g:ByteArray->Lb,r=T.map g :=
 ⟨λx=>r.getD (Fs T x) default,xA (by simpa using h) λi hi=>by
  rw[o9 Za]
  exact(Da (λk=>r.getD k default) (qu hT Za)).symm⟩
end
section
variable {t:ac}{s:AS}{w:List Lb}
def oR(hT:t.attrs.Nodup)(hw:∀r∈t.rows,r.vals.length=t.attrs.length):Lp t.attrs (t.rows.map Xb.vals) (gk s t.attrs t.attrs.length) w<->∃r∈t.rows,w=Wc r.vals s:=by
 constructor
 .rintro ⟨v,hv,g,e,rfl⟩
  obtain⟨r,hr,rfl⟩:=Ad.1 hv;exact⟨r,hr,by rw[e,tI]⟩
 rintro⟨r,hr,rfl⟩;obtain⟨g,e⟩:=GQ hT (hw r hr);exact⟨r.vals,Ad.2 ⟨r,hr,rfl⟩,g,e,by rw[e,tI]⟩
def awp(hS:mz t.rows):w∈(Tw t s).rows.map Xb.vals<->∃r∈t.rows,w=Wc r.vals s:=by
 obtain⟨h1,h2,_,_⟩:=qr (s:=s) hS t.rows.length (Yb _);constructor
 .intro h
  obtain⟨r,hr,rfl⟩:=Ad.1 h;obtain⟨k,hk,_,e⟩:=h1 r hr;exact⟨t.rows.getD k default,by rw[cq _ _ hk];exact De hk,e⟩
 rintro⟨r,hr,rfl⟩;obtain⟨i,hi,rfl⟩:=zr hr;obtain⟨x,hx,e⟩:=h2 i hi;exact Ad.2 ⟨x,hx,e⟩
def b36 {ps:List AS} {p m:List Fd} (hn:t.attrs.length<=16) (hT:t.attrs.Nodup) (hw:∀r∈t.rows,r.vals.length=t.attrs.length) (hc:Zd t.attrs.length ps p m=0) (hl:Te t.attrs.length ps p m=true)
 (hF:∀d∈p,En t d=true) (hM:∀d∈m,Cn t d=true) {f:ByteArray->Lb} (h:∀P∈ps.map (λs=>gk s t.attrs t.attrs.length),Lp t.attrs (t.rows.map Xb.vals) P (P.map f)):t.attrs.map f∈t.rows.map Xb.vals:=by
 obtain ⟨r,hr,e⟩:=b6q hn hw hc hl hF hM (w:=t.attrs.map f) Ec λs hs=>by
  obtain⟨r,hr,e⟩:=(oR hT hw).1 (h _ (Ad.2 ⟨s,hs,rfl⟩));exact⟨r,hr,by rw[tI,e]⟩
 exact Ad.2 ⟨r,hr,e⟩
end
end
def Md:List Lb->ByteArray
 | []=>Ye
 |v::l=>py v++Md l
def Ex (a b:ByteArray):bl (a++b)=bl a++bl b:=by
 show(a++b).data.toList=_;rw[ByteArray.data_append,Array.toList_append]
def T9 {v:Lb} (h:cz v=true):bl (py v)=b8 (kp v):=by
 unfold py;rw[Ba h];rfl
def JD:∀{l:List Lb},(∀v∈l,cz v=true)->bl (Md l)=b8 (l.flatMap kp)
 | [],_=>rfl
 | v::l,h=>by
  unfold Md;rw[Ex,T9 (h v (Yh ..)),JD λx hx=>h x (Jh _ hx),Lj];unfold b8;rw[Mi]
def wI:∀{l:List Lb},Ms (l.flatMap kp)
 | []=>λx hx=>by cases hx
 | v::l=>by
  rw[Lj];exact bei (b9l v) wI
def ST:∀{l m:List Lb},l.length=m.length->(∀v∈l,pe v)->(∀v∈m,pe v)->l.flatMap kp=m.flatMap kp->l=m
 | [],[],_,_,_,_=>rfl
 | [],_::_,h,_,_,_=>by simp at h
 |_::_,[],h,_,_,_=>by simp at h
 | v::l,w::m,h,h1,h2,e=>by
  rw[Lj,Lj]at e;obtain⟨hv,e2⟩:=b2y (h1 v (Yh ..)) (h2 w (Yh ..)) e;subst hv;rw[ST (by simpa using h) (λx hx=>h1 x (Jh _ hx)) (λx hx=>h2 x (Jh _ hx)) e2]
def HI {l m:List Lb} (hl:l.length=m.length) (h1:∀v∈l,pe v) (h2:∀v∈m,pe v) (e:Md l=Md m):l=m :=
 ST hl h1 h2 (dQ wI wI (by rw[<- JD λv hv=>(h1 v hv).1,<- JD λv hv=>(h2 v hv).1,e]))
def Gg(a b:ac):List (List Lb):=a.rows.flatMap λr=>b.rows.filterMap λs=>Je r.vals s.vals (Pd a.attrs b.attrs) (Qc a.attrs b.attrs).length b.attrs.length
def AQ{a b:ac}{w:List Lb}:w∈Gg a b<->∃va∈a.rows.map Xb.vals,∃vb∈b.rows.map Xb.vals,Je va vb (Pd a.attrs b.attrs) (Qc a.attrs b.attrs).length b.attrs.length=some w:=by
 unfold Gg;simp only[List.mem_flatMap,List.mem_filterMap,Ad];constructor
 .rintro ⟨r,hr,s,hs,e⟩
  exact⟨r.vals,⟨r,hr,rfl⟩,s.vals,⟨s,hs,rfl⟩,e⟩
 rintro⟨_,⟨r,hr,rfl⟩,_,⟨s,hs,rfl⟩,e⟩;exact⟨r,hr,s,hs,e⟩
def Gj(L:List (List Lb))(K:List ByteArray):List (List Lb):=K.map λk=>(L.find? λl=>decide (Md l=k)).getD []
def bbr{L:List (List Lb)}{K:List ByteArray}{n:Nat}(hK:∀k,k∈K<->∃l∈L,Md l=k)(hn:∀l∈L,l.length=n)(he:∀l∈L,∀v∈l,pe v){w:List Lb}:w∈Gj L K<->w∈L:=by
 unfold Gj;constructor
 .intro h
  obtain⟨k,hk,e⟩:=Ad.1 h;obtain⟨l,hl,hlk⟩:=(hK k).1 hk
  cases hf:L.find? λl=>decide (Md l=k) with
  |none=>exact Ea hlk (by simpa using Oo.1 hf l hl)
  | some x =>
   rw[hf]at e;have e:x=w:=e;exact e▸Pz hf
 intro h;refine Ad.2 ⟨Md w,(hK _).2 ⟨w,h,rfl⟩, ?_⟩
 cases hf:L.find? λl=>decide (Md l=Md w) with
 |none=>exact Ea (Fa rfl) (Oo.1 hf w h)
 | some x =>
  have hx:=Pz hf;have e:Md x=Md w:=by simpa using Xu hf
  exact HI ((hn x hx).trans (hn w h).symm) (he x hx) (he w h) e
section
def yX(t:ac)(ps:List AS)(a:Nat)(acc:List (List Lb))(w:List Lb):Bool:=!acc.contains w&&ps.all λs=>LO t s ⟨0,w⟩ ((a:Int)+1)
def FY(t:ac)(ps:List AS)(a:Nat)(acc:List (List Lb))(w:List Lb):List (List Lb):=if yX t ps a acc w=true then acc++[w]else acc
def vY(t:ac)(ps:List AS)(a:Nat)(l:List Lb)(acc:List (List Lb))(k:Nat):List (List Lb):=(t.rows.take k).foldl (λacc r=>FY t ps a acc (l.set a (r.vals.getD a default))) acc
def YX(t:ac)(ps:List AS)(a:Nat)(L:List (List Lb))(i:Nat):List (List Lb):=(L.take i).foldl (λacc l=>vY t ps a l acc t.rows.length) []
def wM (t:ac) (ps:List AS) (n:Nat):Nat->List (List Lb)
 |0=>if t.rows.length=0 then[] else[List.replicate n default]
 |a+1=>YX t ps a (wM t ps n a) (wM t ps n a).length
section
variable {t:ac}{ps:List AS}{a n:Nat}
structure LvM (t:ac) (ps:List AS) (n a:Nat) (w:List Lb):Prop where
 len:w.length=n
 rest:∀j,a<=j->j<n->w.getD j default=default
 col:∀j,j<a->∃r∈t.rows,r.vals.getD j default=w.getD j default
 agr:∀s∈ps,∃r∈t.rows,∀j:Nat,j<a->bw s (j:Int)=true->r.vals.getD j default=w.getD j default
end
end
section
def Ur{α:Type}[Inhabited α](L:List α)(k:Nat):List α:=(L.set k (L.getD (k-1) default)).set (k-1) (L.getD k default)
section
variable {α:Type}[Inhabited α]{c:α->α->Int}{L M:List α}{i k:Nat}
def cJ:(Ur L k).length=L.length:=by unfold Ur;rw[Ni,Ni]
def n8 (hk:0<k) (hl:k<L.length) {j:Nat}:(Ur L k).getD j default=if j=k-1 then L.getD k default else if j=k then L.getD (k-1) default else L.getD j default:=by
 unfold Ur;by_cases h:j=k-1
 .rw[Ba h,h,j2 (by rw[Ni];omega)]
 rw[Ca h,Gc h];by_cases h2:j=k
 .rw[Ba h2,h2,j2 hl]
 rw[Ca h2,Gc h2]
def PW{z:α}:z∈L<->∃j,j<L.length/\L.getD j default=z:=by
 constructor
 .intro h
  obtain⟨j,hj,e⟩:=Fg h;exact⟨j,hj,by rw[cq _ _ hj,e]⟩
 rintro⟨j,hj,rfl⟩;rw[cq _ _ hj];exact De hj
def baj(hk:0<k)(hl:k<L.length){z:α}:z∈Ur L k<->z∈L:=by
 rw[PW,PW,cJ];constructor
 .rintro ⟨j,hj,e⟩
  rw[n8 hk hl]at e;split at e
  .exact⟨k,hl,e⟩
  split at e
  .exact⟨k-1,by omega,e⟩
  exact⟨j,hj,e⟩
 rintro⟨j,hj,e⟩;by_cases h1:j=k
 .exact⟨k-1,by omega,by rw[n8 hk hl,Ba rfl,<- h1];exact e⟩
 by_cases h2:j=k-1
 .exact⟨k,hl,by rw[n8 hk hl,Ca Za,Ba rfl,<- h2];exact e⟩
 exact⟨j,hj,by rw[n8 hk hl,Ca h2,Ca h1];exact e⟩
def QB(L:List α):Prop:=∀a b,a<b->b<L.length->L.getD a default≠L.getD b default
def b0h:L.Nodup->QB L:=λh a b hab hb e=>by
 rw[cq _ _ Za,cq _ _ hb]at e;exact(Zk.1 h a b Za hb hab) e
def bf2 (hk:0<k) (hl:k<L.length) (h:QB L):QB (Ur L k):=λa b hab hb e=>by
 rw[cJ]at hb
 have h':∀a b,a<L.length->b<L.length->a≠b->L.getD a default≠L.getD b default:=λa b ha hb hne e=>by
  rcases Nat.lt_or_gt_of_ne hne with h1|h1
  .exact h a b h1 hb e
  exact h b a h1 ha e.symm
 rw[n8 hk hl,n8 hk hl]at e;split at e<;>split at e<;>(try split at e)<;>(try split at e)<;>first|omega|exact h' _ _ Za Za Za e
structure eA (c:α->α->Int) (L0:List α) (i k:Nat) (L:List α):Prop where
 len:L.length=L0.length
 mem:∀z,z∈L<->z∈L0
 dif:QB L
 ki:k<=i
 il:i<L0.length
 ord:∀a b,a<b->b<=i->a≠k->b≠k->c (L.getD a default) (L.getD b default)<0
 low:∀b,k<b->b<=i->c (L.getD k default) (L.getD b default)<0
structure Qz (c:α->α->Int) (L0:List α) (i:Nat) (L:List α):Prop where
 len:L.length=L0.length
 mem:∀z,z∈L<->z∈L0
 dif:QB L
 ile:i<=L0.length
 ord:∀a b,a<b->b<i->c (L.getD a default) (L.getD b default)<0
variable {L0:List α}
def Qz.start(h:L0.Nodup):Qz c L0 0 L0:=⟨rfl,λ_=>Oa,b0h h,Zb _,λa b _ hb=>Ea hb (Ud b)⟩
def eA.step(hc:Lk c)(h:eA c L0 i k L)(hk:0<k)(hlt:c (L.getD k default) (L.getD (k-1) default)<0):eA c L0 i (k-1) (Ur L k):=by
 have hl:k<L.length:=by rw[h.len];have:=h.ki;have:=h.il;omega
 refine⟨cJ.trans h.len,λz=>(baj hk hl).trans (h.mem z),bf2 hk hl h.dif,by have:=h.ki;omega,h.il,λa b h1 h2 h3 h4=>?_,λb h1 h2=>?_⟩
 .rw [n8 hk hl,n8 hk hl,Ca h3,Ca h4]
  by_cases ea:a=k
  .rw [Ba ea,Ca Za]
   exact h.ord (k-1) b Za h2 Za Za
  rw[Ca ea];by_cases eb:b=k
  .rw [Ba eb]
   exact h.ord a (k-1) Za Za ea Za
  rw[Ca eb];exact h.ord a b h1 h2 ea eb
 rw[n8 hk hl,n8 hk hl,Ba rfl,Ca Za];by_cases eb:b=k
 .rw [Ba eb]
  exact hlt
 rw[Ca eb];exact h.low b Za h2
def eA.done(hc:Lk c)(h:eA c L0 i k L)(hx:k=0\/¬c (L.getD k default) (L.getD (k-1) default)<0):Qz c L0 (i+1) L:=by
 refine⟨h.len,h.mem,h.dif,h.il,λa b h1 h2=>?_⟩;have hki:=h.ki;have hil:=h.il;have hlen:=h.len;by_cases ea:a=k
 .subst ea
  exact h.low b h1 Za
 by_cases eb:b=k
 .subst eb
  have hb0:0<b:=by omega
  have hno:¬c (L.getD b default) (L.getD (b-1) default)<0:=by
   rcases hx with hx|hx
   .omega
   exact hx
  have hne:L.getD (b-1) default≠L.getD b default:=h.dif (b-1) b Za Za
  have h3:c (L.getD (b-1) default) (L.getD b default)<0:=by
   rcases hc.tri hne with h4|h4
   .exact h4
   exact Ea h4 hno
  by_cases e2:a=b-1
  .rw[e2];exact h3
  exact hc.tr _ _ _ (h.ord a (b-1) Za Za ea Za) h3
 exact h.ord a b h1 Za ea eb
def Qz.fin (h:Qz c L0 i L) (hi:¬i<L.length):KF c L:=by
 refine Zk.2 λa b ha hb hab=>?_;have:=h.ord a b hab Za;rw[cq _ _ ha,cq _ _ hb]at this;exact this
end
def mkR(L:List (List Lb)):List Xb:=L.map λw=>⟨0,w⟩
def idR(L:List (List Lb))(i:Nat):List Xb:=(List.range L.length).map λ(j:Nat)=>⟨if j<i then(j:Int)+1 else 0,L.getD j default⟩
end
section
section
variable {t:ac}{ps:List AS}{a n:Nat}
def UL(n:Nat)(w:List Lb):Prop:=w.length=n/\pj w
theorem UL.set {w:List Lb} {v:Lb} (h:UL n w) (hv:v.ok):UL n (w.set a v):=⟨by rw[Ni];exact h.1,v7.2 λx hx=>by
 rcases List.mem_or_eq_of_mem_set hx with h1|h1
 .exact v7.1 h.2 x h1
 rw[h1];exact hv⟩
def okQ(t:ac)(ps:List AS)(a:Nat)(acc:List (List Lb))(w:List Lb)(p:Nat):Bool:=!acc.contains w&&(ps.take p).all λs=>LO t s ⟨0,w⟩ ((a:Int)+1)
end
end
def uL{L:List (List Lb)}{w:List Lb}:w∈L<->∃r∈ir L,r.vals=w:=by
 unfold ir;constructor
 .intro h
  obtain⟨i,hi,e⟩:=Fg h;exact⟨_,Ad.2 ⟨i,Fe.2 hi,rfl⟩,by show L.getD i default=w;rw[cq _ _ hi,e]⟩
 rintro⟨r,hr,rfl⟩;obtain⟨i,hi,rfl⟩:=Ad.1 hr;have hi:=Fe.1 hi;show L.getD i default∈L;rw[cq _ _ hi];exact De hi
section
abbrev Vj:List UInt8->List UInt8->Bool:=λx y=>decide (x<=y)
def aye {l l':List (List UInt8)} (h:l.Perm l'):l.mergeSort Vj=l'.mergeSort Vj:=by
 have tr:∀a b c:List UInt8,Vj a b=true->Vj b c=true->Vj a c=true:=λa b c h1 h2=>by
  simp only[Vj,Ja]at *;exact List.le_trans h1 h2
 have to:∀a b:List UInt8,(Vj a b||Vj b a)=true:=λa b=>by
  simp only[Vj,Kj,Ja];exact List.le_total a b
 refine List.Perm.eq_of_pairwise (le:=λa b=>Vj a b=true) (λa b _ _ h1 h2=>?_) (Iv tr to l) (Iv tr to l') (((List.mergeSort_perm l Vj).trans h).trans (List.mergeSort_perm l' Vj).symm);simp only[Vj,Ja]at h1 h2;exact List.le_antisymm h1 h2
def qf(K:List ByteArray):List ByteArray:=((K.map bl).mergeSort Vj).map λx=>⟨x.toArray⟩
section
variable {K V:List ByteArray}{k:ByteArray}
def nF:(qf K).length=K.length:=by simp[qf]
def eD (b:ByteArray):(⟨(bl b).toArray⟩:ByteArray)=b:=by
 cases b;simp[bl]
def b3s:k∈qf K<->k∈K:=by
 unfold qf;simp only[Ad,List.mem_mergeSort];constructor
 .rintro ⟨x,⟨y,hy,rfl⟩,rfl⟩
  rw[eD];exact hy
 exactλh=>⟨bl k,⟨k,h,rfl⟩,eD k⟩
def ay8 (h:K.Perm V):qf K=qf V:=by
 unfold qf;rw[aye (h.map bl)]
end
def Wl:List ByteArray->List ByteArray
 | []=>[]
 |k::K=>if(Wl K).any (λy=>decide (y=k))=true then Wl K else k::Wl K
section
variable {k:ByteArray}
def tQ{l:List ByteArray}:l.any (λy=>decide (y=k))=true<->k∈l:=by simp
def jK:∀{K:List ByteArray},k∈Wl K<->k∈K
 | []=>Oa
 | x :: K=>by
  have ih:k∈Wl K<->k∈K:=jK;unfold Wl;split
  .rename_i h
   rw[ih,Jd];constructor
   .exact .inr
   rintro(rfl|h2)
   .exact ih.1 (tQ.1 h)
   exact h2
  rw[Jd,Jd,ih]
def vL:∀{K:List ByteArray},(Wl K).Nodup
 | []=>List.nodup_nil
 | x::K=>by
  unfold Wl;split
  .exact vL
  rename_i h;exact List.nodup_cons.2 ⟨λhm=>h (tQ.2 hm),vL⟩
def JS:∀{K:List ByteArray},(Wl K).length<=K.length
 | []=>Yb _
 | x::K=>by
  have:=JS (K:=K);unfold Wl;split
  .simp;omega
  simp;omega
def b56{K V:List ByteArray}(hV:V.Nodup)(h:∀k,k∈V<->k∈K):qf V=qf (Wl K):=ay8 ((List.perm_ext_iff_of_nodup hV vL).2 λk=>(h k).trans jK.symm)
def Hf(a b:ac):List ByteArray:=qf (Wl ((Gg a b).map Md))
def Xp(a b:ac):ac:=⟨a.name,Qc a.attrs b.attrs,ir (Gj (Gg a b) (Hf a b))⟩
def wR {a b:ac}:k∈Hf a b<->∃l∈Gg a b,Md l=k:=by
 unfold Hf;rw[b3s,jK,Ad]
structure TE (t:ac):Prop where
 ok:Ri t
 en:∀r∈t.rows,∀v∈r.vals,pe v
theorem Ri.wid {t:ac} (h:Ri t) {r:Xb} (hr:r∈t.rows):r.vals.length=t.attrs.length:=by
 obtain⟨i,hi,rfl⟩:=zr hr;exact h.width hi
theorem Ri.nod{t:ac}(h:Ri t):t.attrs.Nodup:=(wF h.nms).1
end
section
variable {a b:ac}(ha:TE a)(hb:TE b){w:List Lb}
include ha hb
theorem yh (hw:w∈Gg a b):w.length=(Qc a.attrs b.attrs).length/\∀v∈w,pe v:=by
 obtain⟨va,hva,vb,hvb,e⟩:=AQ.1 hw;obtain⟨r,hr,rfl⟩:=Ad.1 hva;obtain⟨s,hs,rfl⟩:=Ad.1 hvb;obtain⟨f,e1,e2,rfl⟩:=(VI ha.ok.nod hb.ok.nod (ha.ok.wid hr) (hb.ok.wid hs)).1 e;refine⟨by simp,λv hv=>?_⟩;obtain⟨x,hx,rfl⟩:=Ad.1 hv
 rcases sc.1 hx with h|h
 .exact ha.en r hr _ (by rw[e1];exact Ad.2 ⟨x,h,rfl⟩)
 exact hb.en s hs _ (by rw[e2];exact Ad.2 ⟨x,h,rfl⟩)
theorem yI:w∈Gj (Gg a b) (Hf a b)<->w∈Gg a b :=
 bbr (n:=(Qc a.attrs b.attrs).length) (λk=>wR) (λl hl=>(yh ha hb hl).1) (λl hl=>(yh ha hb hl).2)
theorem b3w:w∈(Xp a b).rows.map Xb.vals<->∃va∈a.rows.map Xb.vals,∃vb∈b.rows.map Xb.vals,Je va vb (Pd a.attrs b.attrs) (Qc a.attrs b.attrs).length b.attrs.length=some w:=by
 rw[<- AQ,<- yI ha hb,Ad];exact uL.symm
end
def jP {α β γ:Type} {m:Nat} (f:α->β->Option γ) (B:List β) (hB:B.length<=m):∀(A:List α),(A.flatMap λx=>B.filterMap λy=>f x y).length<=A.length*m
 | []=>by simp
 | x::A=>by
  have h1:=jP f B hB A;have h2:(B.filterMap λy=>f x y).length<=B.length:=List.length_filterMap_le _ _;rw[Lj,Uc,Zf,Mf];omega
def sJ{a b:ac}:(Gg a b).length<=a.rows.length*b.rows.length:=jP _ _ (Yb _) _
def uJ {a b:ac}:(Hf a b).length<=a.rows.length*b.rows.length:=by
 unfold Hf;rw[nF];refine Nd JS ?_;rw[Yd];exact sJ
def PE{L:List (List Lb)}{K:List ByteArray}:(Gj L K).length=K.length:=by simp[Gj]
def F5{a b:ac}(ha:TE a)(hb:TE b)(h16:(Qc a.attrs b.attrs).length<=16)(hr:a.rows.length*b.rows.length<=1000):TE (Xp a b) where
 ok:={
  nm:=ha.ok.nm
  na:=h16
  nr:=by
   show(ir _).length<=1000;rw[tL,PE];exact Nd uJ hr
  nms:=fP (uk ha.ok.nod) λx hx=>by
   rcases sc.1 hx with h|h
   .exact(wF ha.ok.nms).2 x h
   exact(wF hb.ok.nms).2 x h
  rs:=by
   refine ov (λx hx=>?_) ?_
   .have hx2:x∈ir (Gj (Gg a b) (Hf a b)):=hx
    have hin:=uL.2 ⟨x,hx2,rfl⟩;obtain⟨i,hi,e0⟩:=Ad.1 hx2;obtain⟨h1,h2⟩:=yh ha hb ((yI ha hb).1 hin);refine⟨by rw[<- e0];show(0:Int)<(i:Int)+1;omega,h1, ?_⟩;rw[Ze];exactλv hv=>(h2 v hv).1
   show mz (ir _);unfold ir;refine Av.2 (List.pairwise_lt_range.imp λ{i j} hij=>?_);show(i:Int)+1<(j:Int)+1
   omega }
 en:=λr hr v hv=>by
  have hx2:r∈ir (Gj (Gg a b) (Hf a b)):=hr;exact(yh ha hb ((yI ha hb).1 (uL.2 ⟨r,hx2,rfl⟩))).2 v hv
end
section
open Go.RowKit
structure ExF (kk:KK) (n:Nat) (f:MK->Option PV) (es:Array MapEntry) (clock:Nat):Prop where
 st:Go.MapKept.Stamped es clock
 le:es.size<=n
 mx:es.size<=maxLen
 to:∀x∈es.toList,∃key v,x.key=key.val/\f key=some (.raw v)/\x.val=v/\v.oneCell'=true
 of:∀key y,f key=some y->MK.ok kk key/\∃x∈es.toList,x.key=key.val
structure Vis (es:Array MapEntry) (seen:Array Nat) (vs:List MK):Prop where
 nod:vs.Nodup
 inn:∀k∈vs,∃x∈es.toList,x.key=k.val/\seen.contains x.born=true
 all:∀x∈es.toList,seen.contains x.born=true->∃k∈vs,x.key=k.val
section
variable {kk:KK}{n:Nat}{f:MK->Option PV}{es:Array MapEntry}{clock:Nat}{seen:Array Nat}{vs:List MK}{e:MapEntry}{key:MK}
end
section
variable {nt:Nat}{st:Qb}
end
def arw{P:Program}(w:World)(ty:TypeId)(bi b clock:Nat)(seen:Array Nat)(es:Array MapEntry)(hit:w.heap[bi]? = some (.mapIter (some b) clock seen clock))(hb:w.heap[b]? = some (.map es clock))(hold:∀x∈es.toList,x.born<clock) :
 ((leftOf es seen).size=0/\(Instr.next (.pointer (some ⟨bi,0,none⟩)) false ty).run P w=.ok (.tuple #[.bool false]) w) \/
 ∃e∈(leftOf es seen).toList,∃w1:World,(w1=w\/w1=w.drew)/\(Instr.next (.pointer (some ⟨bi,0,none⟩)) false ty).run P w=.ok (.tuple #[.bool true,e.key,e.val]) { w1 with heap:=w.heap.setIfInBounds bi (.mapIter (some b) clock (seen.push e.born) clock) }:=by
 have hbi:bi<w.heap.size:=(Le.1 hit).1;simp only[Instr.next,getObj,Nf,Sem.run,hit,hb,Result.andThen,next_test_false seen es clock clock hold (Yb _),Nj,Na];unfold leftOf;have hmem:∀x∈(Array.filter (λe=>!seen.contains e.born) es).toList,x.born<clock:=λx hx=>hold x (by simp at hx ⊢;exact hx.1);generalize Array.filter (λe=>!seen.contains e.born) es=L at hmem ⊢;have e1:L.filter (λx=>decide (x.born<clock))=L:=Array.filter_eq_self.2 (λx hx=>by simpa using hmem x (by simpa using hx))
 have e2:L.filter (λx=>decide (x.born ≥ clock))=#[]:=by
  rw[Array.filter_eq_empty_iff];intro x hx;have:=hmem x (by simpa using hx);simp;omega
 simp only[e1,e2,Array.append_empty];by_cases h0:L.size=0
 .left
  have:L=#[]:=Array.eq_empty_of_size_eq_zero h0;subst this;refine⟨rfl, ?_⟩;simp[choose,Sem.run,Question.forced]
 right
 have hne:L.isEmpty=false:=by
  rw[Ie];intro h;exact h0 (by simpa [Array.isEmpty]using h)
 have hsz:(Array.map some L).size=L.size:=by simp
 simp only[hne,Nj,Na,Array.empty_append,hsz];by_cases h1:L.size<=1
 .have hp:0<L.size:=by omega
  refine⟨L[0],by simp,w, .inl rfl, ?_⟩;have hq:(Question.mapNext L.size).forced=true:=by simpa [Question.forced]using h1
  have hg:(Array.map some L)[0]? = some (some L[0]):=by simp[hp]
  simp[choose,Sem.run,hq,hg,setObj,hit,Result.andThen]
 have hq:(Question.mapNext L.size).forced=false:=by simpa [Question.forced]using h1
 have hlt:(Question.mapNext L.size).cut (w.tape w.drawn (.mapNext L.size))<L.size:=Gm _ Za;generalize hk:(Question.mapNext L.size).cut (w.tape w.drawn (.mapNext L.size))=k at hlt;refine⟨L[k],by simp,w.drew, .inr rfl, ?_⟩;have hg:(Array.map some L)[k]? = some (some L[k]):=by simp[hlt]
 simp only[choose,Sem.run,hq,hk,hg,setObj,Nf,hit,Result.andThen,Nj,Na];rfl
def b3r (w w1:World) (h:w1=w\/w1=w.drew) (bi:Nat) (o:Obj):Wf w { w1 with heap:=w.heap.setIfInBounds bi o } (some bi):=by
 have hb:∀k,some k≠some bi->(w.heap.setIfInBounds bi o)[k]? = w.heap[k]?:=λk hk=>Array.getElem?_setIfInBounds_ne (λe=>hk (by rw[e]))
 rcases h with rfl|rfl
 .exact⟨⟨rfl,rfl,rfl,by simp,λk _ hk=>hb k hk⟩,Yb _⟩
 exact⟨⟨rfl,rfl,rfl,by simp,λk _ hk=>hb k hk⟩,Hm _⟩
def anj {P:Program} (w:World) (bi bm clock:Nat) (seen:Array Nat) (es:Array MapEntry) (e:MapEntry) (hit:w.heap[bi]? = some (.mapIter (some bm) clock (seen.push e.born) clock)) (hb:w.heap[bm]? = some (.map es clock)) (he:e∈es.toList) (hn:(es.toList.map (·.born)).Nodup) :
 (Instr.entry (.pointer (some ⟨bi,0,none⟩))).run P w=.ok (.tuple #[e.key,e.val]) w:=by
 have hf:es.find? (·.born==e.born)=some e:=by rw[<- Array.find?_toList];exact find_born e es.toList hn he
 simp only[Instr.entry,getObj,Nf,Sem.run,hit,hb,Result.andThen,Array.back?_push,bne_self_eq_false,Nj,Na,hf];rfl
abbrev Yp(bi b clock:Nat)(seen:Array Nat):a8:=.ex 2 (.pointer (some ⟨bi,0,none⟩)) bi (.mapIter (some b) clock seen clock)
abbrev Hk(b:Nat)(es:Array MapEntry)(clock:Nat):a8:=.ex 0 (.map (some b)) b (.map es clock)
section
variable {P:Program}{nt:Nat}{ops:Array Oper}{st:Qb}
def ba7 (st:Qb) (d:Nat) (x:HR):Qb.den ⟨(d,some x)::st.t,st.o⟩=st.den.putD (some d) (some x):=by
 unfold Qb.den S.putD S.put;simp[b9]
def Vx {k d:Nat} {o:Oper} {L:List Nat} {Q:Qb->Prop} (hi:ops[k]? = some o) (hg:o.guard=none) (hd:o.dst=some d) (hdn:dc nt (some d)=true) (hnd:∀c,o.op≠.defer c)
 (h:∀w0 a w c,ah w0 nt c st.den a w->∃v w' o' x c',c'.old=c.old/\(execOp a.eval o).run P w=.ok (.value v) w'/\ah w0 nt c' (Qb.den ⟨st.t,o'⟩) a w'/\ap c' (Qb.den ⟨st.t,o'⟩).o x v/\RN P nt ops L ⟨(d,some x)::st.t,o'⟩ Q):RN P nt ops (k::L) st Q:=λro n w0 m0 a w QQ ⟨c,hold,hr⟩ hQ=>by
 obtain⟨v,w',o',x,c',h1,h2,h3,h4,h5⟩:=h w0 a w c hr;rw[wpOpsIn_cons];unfold wpOpIn;simp only[hi];have hw:Region.wanted o (yielded ops a.tmps)=true:=by unfold Region.wanted;rw[hg]
 rw[Ba hw];refine JL hnd ?_;unfold Oper.wp;rw[h2];refine h5 ro n w0 m0 _ w' QQ ⟨c',h1.trans hold, ?_⟩ hQ;rw[hd,ba7 ⟨st.t,o'⟩ d x];exact h3.putD (some d) (λk hk=>by cases hk;exact Ga hdn) (some x) v λy hy=>by cases hy;exact h4
variable {k:Nat}{o:Oper}{L:List Nat}{Q:Qb->Prop}{x:Operand}{mid j b clock d bi id n:Nat}{es:Array MapEntry}{seen:Array Nat}{kk:KK}{f:MK->Option PV}
def Wx {w0:World} {c:Pc} {s:S} {a:Act} {w:World} (h:ah w0 nt c s a w) {v:Value} {y:Obj} {dd:Nat} (hx:ev s x=some (.v (.one (.ref mid j)))) (hm:s.o mid=some (.ex dd v b y)):a.eval x=v/\w.heap[b]? = some y:=by
 obtain⟨h1,h2,h3,h4,h5⟩:=h.objs mid _ hm;have hu:bc c s.o (.ref mid j) (a.eval x):=ae h hx;obtain⟨_,_,hu⟩:=hu;have h6:=hu _ _ _ _ hm rfl;exact⟨(h6.2 Za).trans h1,h4⟩
def b5d(id:Nat){t kt et:TypeId}(hi:ops[k]? = some o)(ht:P.underlying t=some (.map kt et))(h:∀bi,RN P nt ops L ⟨(d,some (.v (.one (.ref id 0))))::st.t,(id,some (Yp bi b clock #[]))::st.o⟩ Q)
 (hg:o.guard=none:=by exact rfl) (ho:o.op=.range t x:=by exact rfl) (hd:o.dst=some d:=by exact rfl) (hdn:dc nt (some d)=true:=by exact rfl)
 (hx:ev st.den x=some (.v (.one (.ref mid j))):=by exact rfl) (hm:st.den.o mid=some (Hk b es clock):=by exact rfl) (hn:qb id st=true:=by exact rfl):RN P nt ops (k::L) st Q :=
 Vx hi hg hd hdn (λc hc=>by rw[hc]at ho;cases ho) λw0 a w c Db=>by
  obtain⟨e1,e2⟩:=Wx Db hx hm;obtain⟨hnm,hno⟩:=jd hn
  have hf:=Db.fresh id hnm hno (Yp w.heap.size b clock #[]) (w.alloc (.mapIter (some b) clock #[] clock)) (.pointer (some ⟨w.heap.size,0,none⟩)) (yn w.heap.size) (Wf.alloc w _ none) (λb hb=>Hn (Eq.symm hb))
   ⟨by simp,by simp,Zb _,Go.heap_alloc_new w _,rfl⟩
  rw[<- ip]at hf;refine⟨.pointer (some ⟨w.heap.size,0,none⟩),_,_, .v (.one (.ref id 0)),_,(by exact rfl), ?_,hf,⟨rfl,λl=>by simp[ip,S.setO],λob2 s2 e2 n2 ho2 hd2=>?_⟩,h w.heap.size⟩
  .simp[execOp,ho,e1,run_range_map w t kt et b es clock ht e2]
  rw[ip]at ho2;simp only[S.setO,Ma,Bb]at ho2;subst ho2;simp only[a8.dim,Bb,Tc]at hd2;obtain⟨rfl,rfl,rfl⟩:=hd2;exact⟨Yb _,λ_=>by simp⟩
end
end
section
open Go.RowKit
def bt5(f:MK->Option PV)(m:MK):MK->Option PV:=λk=>bif k.same m then none else f k
section
variable {P:Program}{E:Xc}{nt:Nat}{ops:Array Oper}{st:Qb}
def CP{k:Nat}{o:Oper}{L:List Nat}{Q:Qb->Prop}(hi:ops[k]? = some o)(hg:o.guard=none)(hdn:dc nt o.dst=true)(hnd:∀c,o.op≠.defer c)
 (h:∀w0 a w c,ah w0 nt c st.den a w->∃y w' o' c',c'.old=c.old/\(execOp a.eval o).run P w=.ok y w'/\(y=.skip\/∃v,y=.value v)/\ah w0 nt c' (Qb.den ⟨st.t,o'⟩) a w'/\RN P nt ops L ⟨(match o.dst with|some d=>[(d,none)]|none=>[])++st.t,o'⟩ Q):RN P nt ops (k::L) st Q:=λro n w0 m0 a w QQ ⟨c,hold,hr⟩ hQ=>by
 obtain⟨y,w',o',c',h1,h2,hy,h3,h5⟩:=h w0 a w c hr;rw[wpOpsIn_cons];unfold wpOpIn;simp only[hi];have hw:Region.wanted o (yielded ops a.tmps)=true:=by unfold Region.wanted;rw[hg]
 rw[Ba hw];refine JL hnd ?_;unfold Oper.wp;rw[h2]
 rcases hy with rfl|⟨v,rfl⟩
 .refine h5 ro n w0 m0 _ w' QQ ⟨c',h1.trans hold, ?_⟩ hQ
  cases hdd:o.dst with
  |none=>exact h3
  | some d =>
   have e:Qb.den ⟨[(d,none)]++st.t,o'⟩=(Qb.den ⟨st.t,o'⟩).putD (some d) none:=by
    unfold Qb.den S.putD S.put;simp[b9]
   rw[e];exact h3.putD (some d) (λk hk=>by cases hk;rw[hdd]at hdn;exact Ga hdn) none undef (λy hy=>by cases hy)
 refine h5 ro n w0 m0 _ w' QQ ⟨c',h1.trans hold, ?_⟩ hQ
 cases hdd:o.dst with
 |none=>exact h3
 | some d =>
  have e:Qb.den ⟨[(d,none)]++st.t,o'⟩=(Qb.den ⟨st.t,o'⟩).putD (some d) none:=by
   unfold Qb.den S.putD S.put;simp[b9]
  rw[e];exact h3.putD (some d) (λk hk=>by cases hk;rw[hdd]at hdn;exact Ga hdn) none v (λy hy=>by cases hy)
end
def IG {P:Program} {nt:Nat} {st:Qb} {ro:Option Nat} {c:Code} {Q:Exit->Qb->Prop} (h:HE nt st λst'=>HW (ro:=ro) P nt c st' Q):HW (ro:=ro) P nt c st Q:=λw0 m0 a w hr=>by
 obtain⟨st',h1,h2⟩:=h w0 m0 a w hr;exact h1 w0 m0 a w h2
section
variable {P:Program}{E:Xc}{nt:Nat}{ops:Array Oper}{st:Qb}{k:Nat}{o:Oper}{L:List Nat}{Q:Qb->Prop}
end
end
end Go.Hx

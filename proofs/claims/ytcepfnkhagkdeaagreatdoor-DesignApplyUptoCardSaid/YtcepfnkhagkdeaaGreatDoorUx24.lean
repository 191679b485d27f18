/- A part of the proof: Ew3 Ew4 Ew6 Ds2 Ls8 Ds3 Ds4 Ds5 Ds11 Ds14 Cs43 Ls9 Ds15 Ds7 Ds8 Y12 Ds10 Ds16 Jp4 Da9 Dw5 Cs44 V39 Dw6 Dw1 Dw2 Dw3 Dw4 Ds6 Aw1 Ds9 Dw7 Dw10. -/
import Derived.Test.YtcepfnkhagkdeaaGreatDoorUx23
set_option linter.all false
open Go.Proofs.Tryz
set_option maxRecDepth 100000
set_option maxHeartbeats 1000000
namespace Go.Hx
section
open Go.Proofs
def b4g{l m:List Lb}{s:AS}(h:l.length=m.length):(Wc l s).length=(Wc m s).length:=by rw[xD,xD,Yd,Yd,h]
def b3b{n:Nat}{s:AS}(hs:sub s (ak n))(hn:n<=16):s>>>n=0:=by
 refine Tl λi hi=>?_;rw[Jv];show s.getLsbD (n+i)=(0:AS).getLsbD i;rw[show(0:AS).getLsbD i=false from BitVec.getLsbD_zero]
 cases h:s.getLsbD (n+i) with
 |false=>rfl
 | true =>
  by_cases h3:n+i<32
  .have h2:=ci.1 hs (n+i) h3 h
   rw[aU Za Za h3]at h2;have:=NC h2;omega
  rw[BitVec.getLsbD_of_ge _ _ Za]at h;cases h
def W4(t:ac)(s:AS)(hT:TE t)(hs:sub s (ak t.attrs.length)):a6 Ab 27 [t.pc,pA s] (a7 [(Tw t s).pc,pI 0]):=by
 refine Nb (nt:=101) func27 ?_;have hok:=hT.ok.ok;have htz:=k6.2 hT.ok;have hna:=hT.ok.na;have hnr:=hT.ok.nr;have hso:=f7 hT.ok.rs;refine Rc ?_;refine m9 0 ?_;refine m9 1 ?_;refine Mb ?_;refine Fb CD (aC t) ?_;refine Jb ?_;refine Sc ?_ ?_<;>intro h0
 .exfalso;omega
 refine dg ?_;refine Sc ?_ ?_<;>intro h1
 .exfalso;exact h1 (qK.2 (b3b hs hna))
 refine Mb ?_;refine m9 2 ?_;refine dg ?_;refine ej 2 1 100 true 1 9 (lf ku (gk s t.attrs 0)) Zc rfl rfl Ya (.inr rfl) rfl rfl ?_;refine bz (ka 1 (ka 2 (ka 4 (ka 7 (ka 34 (ka 35 kn)))))) (kb 0 (kb 1 km)) (λa=>⟨[(36,some (vI a))],[(2,some (.box [.p (.raw (.string t.name)), .ref 100 (gk s t.attrs a).length, .p (io (.slice none 0 0))])),(100,some (.arr true 1 9 (gk s t.attrs a).length (lf ku (gk s t.attrs a))))]⟩) t.attrs.length kk ?_;rintro a ha;have hlen:(gk s t.attrs a).length<=a:=by rw[mK];exact zQ
 refine Eb ?_;refine Kb ?_ ?_<;>intro h2
 ·
  refine Sq ?_;refine Kb ?_ ?_<;>intro h3
  ·
   have hh:bw s (a:Int)=true:=(oq Za).1 h3;refine Mc ?_;refine m9 3 ?_;refine Ed 4 true ?_;refine Jb ?_
   first | (refine Rb (a+1) ⟨tt, ⟨⟨_, rfl, ⟨Ra, Da (HV.ref 100) (by rw[y4 hh, Uc]; rfl), Ra, trivial⟩⟩, ⟨_, rfl, (cr (y4 hh) Ra)⟩, uu⟩⟩ ?_; show a+1<=_; omega)
         |(refine Rb (a+1) ⟨tt,⟨⟨_,rfl,⟨Ra,Da (HV.ref 100) (by rw[xw hh]),Ra,Aa⟩⟩,⟨_,rfl,(be (xw hh))⟩,uu⟩⟩ ?_;show a+1<=_;omega)
  have hh:bw s (a:Int)=false:=Ie.2 λe=>h3 ((oq Za).2 e);refine Eb ?_
  first | (refine Rb (a+1) ⟨tt, ⟨⟨_, rfl, ⟨Ra, Da (HV.ref 100) (by rw[y4 hh, Uc]; rfl), Ra, trivial⟩⟩, ⟨_, rfl, (cr (y4 hh) Ra)⟩, uu⟩⟩ ?_; show a+1<=_; omega)
        |(refine Rb (a+1) ⟨tt,⟨⟨_,rfl,⟨Ra,Da (HV.ref 100) (by rw[xw hh]),Ra,Aa⟩⟩,⟨_,rfl,(be (xw hh))⟩,uu⟩⟩ ?_;show a+1<=_;omega)
 obtain rfl:a=t.attrs.length:=by omega
 refine Cb ?_;refine f8 2 1 rfl rfl rfl rfl rfl ?_;refine i9 [] [0,1] rfl ?_;refine VT (k:=0) (L:=[1]) 901 rfl (λbg=>?_);refine jy (E:=ig) (L1:=[1]) (L2:=[]) gi ?_;refine Cb ?_;refine nu ?_;refine Cc ?_;refine ej 2 2 102 true 2 82 (lf Xb.c (Se s t.rows 0)) Zc rfl rfl Ya (.inr rfl) rfl rfl ?_;refine aa (ι:=Nat×Array MapEntry×Nat) (ka 1 (ka 4 (ka 7 (ka 10 (ka 55 (ka 56 kn)))))) (kb 1 km) (λx=>⟨[(57,some (vI x.1))],[(2,some (.box [.p (.raw (.string t.name)), .p (qv (gk s t.attrs t.attrs.length)), .ref 102 (Se s t.rows x.1).length])),(102,some (.arr true 2 82 (Se s t.rows x.1).length (lf Xb.c (Se s t.rows x.1)))),(901,some (Hk bg x.2.1 x.2.2))]⟩) (λx=>x.1<=t.rows.length/\nn Ab 9 ((Se s t.rows x.1).map Xb.vals) (λ_ v=>v=.bool true) x.2.1 x.2.2) (λx=>t.rows.length-x.1) ((0,#[],0)) (⟨Zb _,nn.nil⟩) kk ?_;rintro x ⟨hi,hM⟩;have hlen:=(PH (s:=s) hso hi hok.2.2).2;refine Eb ?_;refine Kb ?_ ?_<;>intro h4
 ·
  have hir:x.1<t.rows.length:=by omega
  have hwi:(t.rows.getD x.1 default).vals.length=t.attrs.length:=hT.ok.width hir;have hwl:(Wc (t.rows.getD x.1 default).vals s).length<=(t.rows.getD x.1 default).vals.length:=mE;have hky:=AB (l:=(Wc (t.rows.getD x.1 default).vals s));have hrm:(t.rows.getD x.1 default)∈t.rows:=by rw[cq _ _ hir];exact De hir
  have hen:∀v∈(Wc (t.rows.getD x.1 default).vals s),pe v:=λv hv=>hT.en _ hrm v (u6 hv);obtain⟨hpr,_,_,hpl⟩:=qr (s:=s) hso x.1 hi
  have hp1:∀r∈(Se s t.rows x.1),r.vals.length=(Wc (t.rows.getD x.1 default).vals s).length:=λr hr=>by
   obtain⟨k,hk,_,e⟩:=hpr r hr;rw[e];exact b4g ((hT.ok.width Za).trans hwi.symm)
  have hp2:∀r∈(Se s t.rows x.1),∀v∈r.vals,pe v:=λr hr v hv=>by
   obtain⟨k,hk,_,e⟩:=hpr r hr;rw[e]at hv;exact hT.en _ (by rw[cq _ _ (show k<t.rows.length by omega)];exact De _) v (u6 hv)
  refine Jb ?_;refine m9 5 ?_;refine Jb ?_;refine m9 6 ?_;refine dg ?_;refine ej 6 1 101 true 3 100 (lf Lb.c (Wc ((t.rows.getD x.1 default).vals.take 0) s)) Zc rfl rfl Ya (.inr rfl) rfl rfl ?_;refine bz (ka 1 (ka 4 (ka 7 (ka 10 (ka 13 (ka 55 (ka 56 (ka 57 (ka 65 (ka 66 kn)))))))))) (kb 2 (kb 102 (kb 901 (kb 1 km)))) (λk=>⟨[(67,some (vI k))],[(6,some (.box [.p (.raw (.int .i64 (t.rows.getD x.1 default).id)), .ref 101 (Wc ((t.rows.getD x.1 default).vals.take k) s).length])),(101,some (.arr true 3 100 (Wc ((t.rows.getD x.1 default).vals.take k) s).length (lf Lb.c (Wc ((t.rows.getD x.1 default).vals.take k) s))))]⟩) ((t.rows.getD x.1 default).vals.length) kk ?_;rintro k hk;have hlk:(Wc ((t.rows.getD x.1 default).vals.take k) s).length<=((t.rows.getD x.1 default).vals.take k).length:=mE;rw[Ae]at hlk;refine Eb ?_;refine Kb ?_ ?_<;>intro h5
  ·
   refine Wb ?_;refine m9 7 ?_;refine dg ?_;refine Kb ?_ ?_<;>intro h6
   ·
    have hh:bw s (k:Int)=true:=(oq Za).1 h6;refine Mc ?_;refine m9 8 ?_;refine Ed 9 true ?_;refine Jb ?_
    first | (refine Rb (k+1) ⟨tt, ⟨⟨_, rfl, ⟨Ra, Da (HV.ref 101) (by rw[zh Za hh, Uc]; rfl), trivial⟩⟩, ⟨_, rfl, (o7 (zh Za hh) (Kp Ra Ra Ra))⟩, uu⟩⟩ ?_; show k+1<=_; omega)
          |(refine Rb (k+1) ⟨tt,⟨⟨_,rfl,⟨Ra,Da (HV.ref 101) (by rw[zd Za hh]),Aa⟩⟩,⟨_,rfl,(be (zd Za hh))⟩,uu⟩⟩ ?_;show k+1<=_;omega)
   have hh:bw s (k:Int)=false:=Ie.2 λe=>h6 ((oq Za).2 e);refine Eb ?_
   first | (refine Rb (k+1) ⟨tt, ⟨⟨_, rfl, ⟨Ra, Da (HV.ref 101) (by rw[zh Za hh, Uc]; rfl), trivial⟩⟩, ⟨_, rfl, (o7 (zh Za hh) (Kp Ra Ra Ra))⟩, uu⟩⟩ ?_; show k+1<=_; omega)
         |(refine Rb (k+1) ⟨tt,⟨⟨_,rfl,⟨Ra,Da (HV.ref 101) (by rw[zd Za hh]),Aa⟩⟩,⟨_,rfl,(be (zd Za hh))⟩,uu⟩⟩ ?_;show k+1<=_;omega)
  obtain rfl:k=(t.rows.getD x.1 default).vals.length:=by omega
  refine Cb ?_;refine Ju 101 (.arr true 3 100 (Wc (t.rows.getD x.1 default).vals s).length (lf Lb.c (Wc (t.rows.getD x.1 default).vals s))) rfl (be (by rw[Id])) ?_;refine Ju 6 (.box [.p (.raw (.int .i64 (t.rows.getD x.1 default).id)), .ref 101 (Wc (t.rows.getD x.1 default).vals s).length]) rfl ⟨Ra,Da (HV.ref 101) (by rw[Id]),Aa⟩ ?_;refine Tb ?_;refine Ke (Ib func42) ((xO (Wc (t.rows.getD x.1 default).vals s) Za λv hv=>(hen v hv).1).swap 1000 101) uu ?_;refine Tb ?_;refine f8 6 1 rfl rfl rfl rfl rfl ?_;refine i9 [] [0,1,2,3] rfl ?_;refine jy (E:=ig) (L1:=[0,1]) (L2:=[2,3]) gi ?_;refine Tb ?_;refine QS (mid:=901) (k:=2) (L:=[3]) rfl underlying126 (Go.Maps.string_keyed underlying9) zeroValue4 rfl hM.mx (Go.WideMaps.keyOf_string_mk underlying9 (by show(Md (Wc (t.rows.getD x.1 default).vals s)).size<=maxLen;unfold maxLen;omega)) rfl (λok v hy hn1=>?_)
  obtain ⟨bv,rfl,hbv⟩:∃bv,v=.bool bv/\bv=ok:=by
   cases ok with
   | true =>
    obtain⟨e,he,hk,rfl⟩:=hy rfl;obtain⟨_,_,_,h3⟩:=hM.found he hk;exact⟨true,h3,rfl⟩
   |false=>exact⟨false,(hn1 rfl).1,rfl⟩
  subst hbv;refine jy (E:=ig) (L1:=[3]) (L2:=[]) gi ?_;refine Cb ?_;refine nu ?_;refine aj _ rfl ?_ ?_<;>intro r7
  ·
   have h7:=ct r7;have hok1:bv=false:=by simpa using r7
   subst hok1;refine cw ?_;refine i9 [] [0,1,2] rfl ?_;refine jy (E:=ig) (L1:=[0,1]) (L2:=[2]) gi ?_;refine Tb ?_;refine xQ (mid:=901) (k:=2) (L:=[]) rfl underlying126 (Go.Maps.string_keyed underlying9) hM.mx (by have:=hM.size;rw[Yd]at this;unfold maxLen;omega) (Go.WideMaps.keyOf_string_mk underlying9 (by show(Md (Wc (t.rows.getD x.1 default).vals s)).size<=maxLen;unfold maxLen;omega)) rfl rfl (λes3 clock3 hX3 hP=>?_);refine nu ?_;have hq:ni (Se s t.rows x.1) (Wc (t.rows.getD x.1 default).vals s)=false:=b5g (hM.absent (hn1 rfl).2);have hnx:(Se s t.rows (x.1+1))=(Se s t.rows x.1)++[⟨(t.rows.getD x.1 default).id,(Wc (t.rows.getD x.1 default).vals s)⟩]:=eH hir hq
   have hM3:nn Ab 9 ((Se s t.rows (x.1+1)).map Xb.vals) (λ_ v=>v=.bool true) es3 clock3:=by
    rw[hnx,Mi];exact hM.put hX3 hP (λ_ _ h=>h) rfl
   refine Mc ?_;refine m9 10 ?_;refine Ed 11 true ?_;refine Jb ?_
   first | (refine Rb (x.1+1, es3, clock3) ⟨tt, ⟨⟨_, rfl, ⟨Ra, Ra, Da (HV.ref 102) (by rw[hnx, Uc]; rfl), trivial⟩⟩, ⟨_, rfl, (j7 hnx Ra Ra)⟩, uu⟩⟩ ?_; exact⟨by show x.1+1<=_; omega, hM3⟩)
         |(refine Rb (x.1+1,x.2.1,x.2.2) ⟨tt,⟨⟨_,rfl,⟨Ra,Ra,Da (HV.ref 102) (by rw[hnx]),Aa⟩⟩,⟨_,rfl,(be hnx)⟩,uu⟩⟩ ?_;exact⟨by show x.1+1<=_;omega,by rw[hnx];exact hM⟩)
  have h7:=cu r7;have hok1:bv=true:=by simpa using r7
  obtain⟨e0,he0,hk0,hv0⟩:=hy hok1;obtain⟨u,hu,hku,_⟩:=hM.found he0 hk0;have hq:ni (Se s t.rows x.1) (Wc (t.rows.getD x.1 default).vals s)=true:=b4p (n:=(Wc (t.rows.getD x.1 default).vals s).length) hp1 rfl hp2 hen hu hku;have hnx:(Se s t.rows (x.1+1))=(Se s t.rows x.1):=kH hir hq;refine Eb ?_
  first | (refine Rb (x.1+1, es3, clock3) ⟨tt, ⟨⟨_, rfl, ⟨Ra, Ra, Da (HV.ref 102) (by rw[hnx, Uc]; rfl), trivial⟩⟩, ⟨_, rfl, (j7 hnx Ra Ra)⟩, uu⟩⟩ ?_; exact⟨by show x.1+1<=_; omega, hM3⟩)
        |(refine Rb (x.1+1,x.2.1,x.2.2) ⟨tt,⟨⟨_,rfl,⟨Ra,Ra,Da (HV.ref 102) (by rw[hnx]),Aa⟩⟩,⟨_,rfl,(be hnx)⟩,uu⟩⟩ ?_;exact⟨by show x.1+1<=_;omega,by rw[hnx];exact hM⟩)
 obtain he:x.1=t.rows.length:=by omega
 refine Cb ?_;refine f8 2 2 rfl rfl rfl rfl rfl ?_;refine Dd ?_;exact⟨Ob.agg ⟨Ra,Ra,(by rw[he];exact Ra),Aa⟩,Sa,Aa⟩
end
section
open Go.Proofs
section
variable {t:ac}{ps:List AS}
def oS {s:ByteArray} (h:gq s=true):s.size<=24:=by
 unfold gq at h;simp only[Od,Ja]at h;exact h.1.1.1.2
def sP {s:ByteArray} {i:Nat} (h:s.size<=24):(s++(⟨#[95]⟩:ByteArray)).size+(Yo i).size<=9223372036854775807:=by
 have e1:(s++(⟨#[95]⟩:ByteArray)).size=s.size+1:=by
  rw[ByteArray.size_append];rfl
 have e2:(Yo i).size=1:=rfl;omega
def wO(h:¬Sd t.attrs.length ps=0):Oj t ps=Sd t.attrs.length ps:=Ba h
def DO (h:Sd t.attrs.length ps=0) (h2:24<t.name.size+2):Oj t ps=3:=by
 unfold Oj;rw[Ca (by simp[h]),Ba h2]
def YN (h:Sd t.attrs.length ps=0) (h2:¬24<t.name.size+2):Oj t ps=0:=by
 unfold Oj;rw[Ca (by simp[h]),Ca h2]
def MA(h:¬Oj t ps=0):Ng t ps=[]:=Ca h
def bQ (h:Sd t.attrs.length ps=0) (i:Nat) (hi:i<ps.length):sub (ps.getD i default) (ak t.attrs.length):=by
 have hf:=(jl h).2.2.2.2;have hn:=(jl h).2.1;rw[<- hf];refine ci.2 λz h32 hz=>?_;rw[ue h32];exact Yf.2 ⟨_,by rw[cq _ _ hi];exact De hi,hz⟩
def FE {α:Type} (f:Nat->α) (i:Nat):(List.range (i+1)).map f=(List.range i).map f++[f i]:=by
 rw[Ak,Mi];rfl
end
def N0 (t:ac) (ps:List AS) (hT:TE t) (h3:ps.length<=3):a6 Ab 8 [t.pc,pP (Cd ps)] (a7 [pP (jA (Ng t ps)),pI (Oj t ps)]):=by
 refine Nb (nt:=60) func8 ?_;have htz:=k6.2 hT.ok;have hna:=hT.ok.na;have hnm:=oS hT.ok.nm;refine Rc ?_;refine m9 0 ?_;refine Jb ?_;refine Fb CD (aC t) ?_;refine Jb ?_;refine Sc ?_ ?_<;>intro h0
 .exfalso;omega
 refine Wb ?_;refine Fb VH (qI t.attrs.length ps) ?_;refine Jb ?_;refine Sc ?_ ?_<;>intro h1
 .have hx:=wO (t:=t) (ps:=ps) (by have hz:=h1;omega);have hxl:=MA (t:=t) (ps:=ps) (by rw[hx];have hz:=h1;omega);refine Eh ?_;exact⟨Ob.one (by rw[hxl];exact Au),Sb hx.symm,Aa⟩
 have hv:Sd t.attrs.length ps=0:=by have hz:=h1;omega
 have hsub:=bQ hv;refine jq ?_;refine d9 8 100 true 3 32 (lf ac.c []) Zc rfl Ya (.inr rfl) rfl ?_;refine aa (ι:=Nat) (ka 2 (ka 26 (ka 27 kn))) (kb 0 km) (λi=>⟨[(8,some (.v (.one (.ref 100 ((List.range i).map (Vg t ps)).length)))),(28,some (vI i))],[(100,some (.arr true 3 32 ((List.range i).map (Vg t ps)).length (lf ac.c ((List.range i).map (Vg t ps)))))]⟩) (λi=>i<=ps.length/\(0<i->¬24<t.name.size+2)) (λi=>ps.length-i) (0) (⟨Zb _,λh=>Ea h (Ud _)⟩) kk ?_;rintro i ⟨hi,hsz0⟩;have hlen:((List.range i).map (Vg t ps)).length=i:=by simp
 refine Eb ?_;refine Kb ?_ ?_<;>intro h2
 ·
  have hil:i<ps.length:=by omega
  have hns:=TJ t.name i;unfold Kk at hns;refine jz ?_;refine Fb (Ib func27) (W4 t (ps.getD i default) hT (hsub i hil)) ?_;refine Tb ?_;refine m9 1 ?_;refine jz ?_;refine qy ?_ (hp:=(by show t.name.size+1<=9223372036854775807;omega));refine Cb ?_;refine Fb (Ib func28) (S2 (i+1) Za Za) ?_;refine rq rfl rfl rfl rfl rfl ?_ (hp:=(sP hnm));refine fy ?_;refine Kb ?_ ?_<;>intro h3
  .have hx:=DO hv Za;have hxl:=MA (t:=t) (ps:=ps) (by rw[hx];decide);refine Dd ?_;exact⟨Ob.one (by rw[hxl];exact Au),Sb hx.symm,Aa⟩
  have hsz:¬24<t.name.size+2:=by omega
  refine Mc ?_;refine m9 2 ?_;refine Ed 3 true ?_;refine Mb ?_;refine Rb (i+1) ⟨⟨⟨_,rfl,(d6 (FE _ _))⟩,tt⟩,⟨⟨_,rfl,(o7 (FE _ _) (Kp Ra Ra Ra))⟩,uu⟩⟩ ?_;exact⟨by show i+1<=_;omega,λ_=>hsz⟩
 obtain rfl:i=ps.length:=by omega
 have hp0:=(jl hv).2.2.2.1;have hx:=YN hv (hsz0 hp0);have hxl:=(Bu hx).1;refine Cb ?_;refine b5 8 rfl rfl rfl ?_;refine Dd ?_;exact⟨Ob.one (by rw[hxl];exact Ra),Sb hx.symm,Aa⟩
def G6 (t:ac) (ps:List AS) (hT:TE t) (h3:ps.length<=3):a6 Ab 10 [t.pc,pP (Cd ps)] (a7 [pP (jA (Ng t ps)),pI (Oj t ps)]):=by
 refine Nb (nt:=57) func10 ?_;have htz:=k6.2 hT.ok;have hna:=hT.ok.na;have hnm:=oS hT.ok.nm;refine Rc ?_;refine m9 0 ?_;refine Jb ?_;refine Fb rD (cC t) ?_;refine Jb ?_;refine Sc ?_ ?_<;>intro h0
 .exfalso;omega
 refine Wb ?_;refine Fb (Ib func30) (gT t.attrs.length ps) ?_;refine Jb ?_;refine Sc ?_ ?_<;>intro h1
 .have hx:=wO (t:=t) (ps:=ps) (by have hz:=h1;omega);have hxl:=MA (t:=t) (ps:=ps) (by rw[hx];have hz:=h1;omega);refine Eh ?_;exact⟨Ob.one (by rw[hxl];exact Au),Sb hx.symm,Aa⟩
 have hv:Sd t.attrs.length ps=0:=by have hz:=h1;omega
 have hsub:=bQ hv;refine dg ?_;refine d9 8 100 true 3 32 (lf ac.c []) Zc rfl Ya (.inr rfl) rfl ?_;refine aa (ι:=Nat) (ka 1 (ka 2 kn)) (kb 0 km) (λi=>⟨[(8,some (.v (.one (.ref 100 ((List.range i).map (Vg t ps)).length)))),(9,some (vI i))],[(100,some (.arr true 3 32 ((List.range i).map (Vg t ps)).length (lf ac.c ((List.range i).map (Vg t ps)))))]⟩) (λi=>i<=ps.length/\(0<i->¬24<t.name.size+2)) (λi=>ps.length-i) (0) (⟨Zb _,λh=>Ea h (Ud _)⟩) kk ?_;rintro i ⟨hi,hsz0⟩;have hlen:((List.range i).map (Vg t ps)).length=i:=by simp
 refine Wb ?_;refine Kb ?_ ?_<;>intro h2
 ·
  have hil:i<ps.length:=by omega
  have hns:=TJ t.name i;unfold Kk at hns;refine ce ?_;refine Fb (Ib func31) (b77 t (ps.getD i default) hT.ok (hsub i hil)) ?_;refine Tb ?_;refine m9 1 ?_;refine Wb ?_;refine qy ?_ (hp:=(by show t.name.size+1<=9223372036854775807;omega));refine Cb ?_;refine Fb (Ib func32) (bab (i+1) Za Za) ?_;refine rq rfl rfl rfl rfl rfl ?_ (hp:=(sP hnm));refine fy ?_;refine Kb ?_ ?_<;>intro h3
  .have hx:=DO hv Za;have hxl:=MA (t:=t) (ps:=ps) (by rw[hx];decide);refine Dd ?_;exact⟨Ob.one (by rw[hxl];exact Au),Sb hx.symm,Aa⟩
  have hsz:¬24<t.name.size+2:=by omega
  refine Mc ?_;refine m9 2 ?_;refine Ed 3 true ?_;refine Jb ?_;refine Rb (i+1) ⟨⟨⟨_,rfl,(d6 (FE _ _))⟩,tt⟩,⟨⟨_,rfl,(o7 (FE _ _) (Kp Ra Ra Ra))⟩,uu⟩⟩ ?_;exact⟨by show i+1<=_;omega,λ_=>hsz⟩
 obtain rfl:i=ps.length:=by omega
 have hp0:=(jl hv).2.2.2.1;have hx:=YN hv (hsz0 hp0);have hxl:=(Bu hx).1;refine Cb ?_;refine b5 8 rfl rfl rfl ?_;refine Dd ?_;exact⟨Ob.one (by rw[hxl];exact Ra),Sb hx.symm,Aa⟩
def K0 (l:List ac) (caps:Nat->PV) (hl:∀j,j<l.length->(l.getD j default).ok):a6 Ab 11 [pP (jA l),pP (jA l),pP (.fn 12 0 caps)] (a7 [pB true]):=by
 refine Nb (nt:=32) func11 ?_;refine jq ?_;refine Sc ?_ ?_<;>intro h0
 ·
  exfalso
  first|exact h0 trivial|exact h0 rfl
 refine Tb ?_;refine cj 0 rfl λhn=>?_;refine Mb ?_;refine bz (ka 1 (ka 2 (ka 15 (ka 16 kn)))) km (λi=>⟨[(17,some (vI i))],[]⟩) l.length kk ?_;rintro i hi;refine Eb ?_;refine Kb ?_ ?_<;>intro h1
 ·
  refine Wb ?_;refine m9 0 ?_;refine Cc ?_;refine m9 1 ?_;refine Jb ?_;refine Fb (Ib func12) (PX (l.getD i default) (l.getD i default) (hl i Za) (hl i Za)) ?_;refine Cb ?_;refine Xd ?_ ?_<;>intro h2
  .exfalso;simp_all
  refine Eb ?_;exact Ld (i+1) kk
 obtain rfl:i=l.length:=by omega
 refine Dd ?_;exact Ta
end
section
open Go.Proofs
def O0(t:ac)(d:Fd)(ht:t.ok):a6 Ab 13 [t.pc,d.pc] (a7 [pB (En t d)]):=by
 refine Nb (nt:=48) func13 ?_;have hrl:=ht.2.1;refine Rc ?_;refine m9 0 ?_;refine m9 1 ?_;refine Wb ?_;refine aa (ι:=Nat) (ka 2 (ka 3 kn)) (kb 0 (kb 1 km)) (λi=>⟨[(5,some (vI i))],[]⟩) (λi=>i<=t.rows.length/\(∀j,j<i->((List.range j).all λk=>Qn t d j k)=true)) (λi=>t.rows.length-i) (0) (⟨Zb _,aw⟩) kk ?_;rintro i ⟨hi,hIi⟩;refine Cc ?_;refine Kb ?_ ?_<;>intro h0
 ·
  refine Wb ?_;refine aa (ι:=Nat) (ka 2 (ka 3 (ka 5 kn))) (kb 0 (kb 1 km)) (λk=>⟨[(6,some (vI k))],[]⟩) (λk=>k<=i/\(∀j,j<k->Qn t d i j=true)) (λk=>i-k) (0) (⟨Zb _,aw⟩) kk ?_;rintro k ⟨hk,hIk⟩;refine Jb ?_;refine Kb ?_ ?_<;>intro h1
  ·
   refine qh ?_;refine Fb YA (uA (t.rows.getD i default) (t.rows.getD k default) d.lhs (ht.2.2 i Za) (ht.2.2 k Za)) ?_;refine qy ?_;refine af rfl rfl ?_ ?_<;>intro r2
   ·
    have h2:=r2;(iterate 12 refine qy ?_ (hg:=(Lc r2)));refine Fb YA (uA (t.rows.getD i default) (t.rows.getD k default) d.rhs (ht.2.2 i Za) (ht.2.2 k Za)) ?_ (hg:=(Lc r2));refine qy ?_ (hg:=(Lc r2))
    refine Tb ?_;refine aj _ rfl ?_ ?_<;>intro r3
    .have h3:=ct (bp r2 r3);refine Kc ?_;exact⟨Vb (jx (p:=λi=>(List.range i).all λk=>Qn t d i k) (i:=i) Za (jx (p:=λk=>Qn t d i k) (i:=k) Za (by unfold Qn;simp_all))).symm,Aa⟩
    have h3:=cu (bp r2 r3);refine Mb ?_;refine Rb (k+1) kk ?_;exact⟨by show k+1<=_;omega,al hIk (by unfold Qn;simp_all)⟩
   have h2:=r2;(iterate 14 refine k9 (Vd r2) ?_);refine ce ?_;refine Rb (k+1) kk ?_
   exact⟨by show k+1<=_;omega,al hIk (by unfold Qn;simp_all)⟩
  have hki:k=i:=by omega
  refine Mb ?_;refine Rb (i+1) kk ?_;exact⟨by show i+1<=_;omega,al hIi (n9 λq hq=>hIk q Za)⟩
 obtain rfl:i=t.rows.length:=by omega
 refine Dd ?_;exact⟨Vb (n9 (p:=λi=>(List.range i).all λk=>Qn t d i k) hIi).symm,Aa⟩
def E3(l:List ByteArray)(g k:Nat)(caps:Nat->PV)(V:ByteArray->Bool)(hg:goodFn Ab g)(hV:∀x,a6 Ab g (pS x::gu caps k 0) (a7 [pB (V x)])):a6 Ab 82 [pP (qv l),pP (.fn g k caps)] (a7 [pI (Ee V l)]):=by
 refine Nb (nt:=19) func82 ?_;refine cw ?_;refine cj 0 rfl λhn=>?_;refine Tb ?_;refine c6 (ι:=Unit) kn km (λ_i=>⟨[],[]⟩) (λ_i=>Ee V l=-1) ?_ ?_
 ·
  refine Jb ?_;refine aa (ι:=Nat) (ka 0 (ka 1 (ka 7 kn))) km (λi=>⟨[(8,some (vI i))],[]⟩) (λi=>i<=l.length/\(∀j,j<i->V (l.getD j default)=false)) (λi=>l.length-i) (0) (⟨Zb _,aw⟩) kk ?_;rintro i ⟨hi,hIi⟩;refine Eb ?_;refine Kb ?_ ?_<;>intro h0
  ·
   refine jz ?_;refine rc rfl rfl rfl rfl rfl rfl hg (hV (l.getD i default)) Ta rfl rfl ?_;refine cn ?_;refine We ?_ ?_<;>intro h1
   .refine Dd ?_;exact⟨Sb (oi (i:=i) Za hIi Gb).symm,Aa⟩
   refine Eb ?_;refine Rb (i+1) kk ?_;exact⟨by show i+1<=_;omega,al hIi Gb⟩
  refine cg ?_;refine⟨(), ?_, ?_⟩
  .exact p8 λj hj=>hIi j Za
  exact⟨Aa,Aa⟩
 rintro _ hj;refine Kc ?_;exact⟨Sb hj.symm,Aa⟩
def Y0 (l:List ByteArray) (g k:Nat) (caps:Nat->PV) (V:ByteArray->Bool) (hg:goodFn Ab g) (hV:∀x,a6 Ab g (pS x::gu caps k 0) (a7 [pB (V x)])):a6 Ab 44 [pP (qv l),pP (.fn g k caps)] (a7 [pB (l.any V)]):=by
 refine Nb (nt:=9) func44 ?_;refine Wb ?_;refine Fb (Ib func82) (E3 l g k caps V hg hV) ?_;refine Ef ?_;exact⟨Vb w4,Aa⟩
def zY (x:ByteArray) (t:ac):a6 Ab 45 [pS x,pP (XL [t.c 0,t.c 1,t.c 2])] (a7 [pB (!decide (0<=j0 t.attrs x))]):=by
 refine Nb (nt:=9) func45 ?_;refine Cc ?_;refine Fb (Ib func46) (FM t.attrs x) ?_;refine Ef ?_;exact Ta
theorem TE.names {a b:ac} (h:∀x∈b.attrs,x∈a.attrs) (ha:TE a):(b.attrs.any λx=>!decide (0<=j0 a.attrs x))=false:=by
 rw[Dk];intro x hx;simp[(XE ha.ok.nod (h x hx)).2]
def kR {f:Xb->Xb} {l:List Xb} {i:Nat} (hi:i<l.length):(l.take (i+1)).map f=(l.take i).map f++[f (l.getD i default)]:=by
 rw[au hi,Mi];rfl
def Dm(A T:List ByteArray)(r:Xb)(k:Nat):List Lb:=(T.take k).map λx=>r.vals.getD (j0 A x).toNat default
section
variable {A T:List ByteArray}
def GS {r:Xb} {k:Nat} (hk:k<T.length):Dm A T r (k+1)=Dm A T r k++[r.vals.getD (j0 A (T.getD k default)).toNat default]:=by
 unfold Dm;rw[au hk,Mi];rfl
def bed {r:Xb} {k:Nat}:(Dm A T r k).length<=k:=by
 unfold Dm;rw[Yd,Ae];omega
def bbc {r:Xb}:Dm A T r T.length=(Fl A T r).vals:=by
 unfold Dm Fl;rw[Id]
def U4 {a b:ac} (ha:TE a) (hb:TE b):(Yr a b).ok:=by
 have hna:=hb.ok.na;have hra:=ha.ok.nr;refine⟨by show b.attrs.length<=_;omega,by show(a.rows.map _).length<=_;rw[Yd];omega,λj hj=>?_⟩
 have hj:j<a.rows.length:=by
  have hj2:j<(a.rows.map (Fl a.attrs b.attrs)).length:=hj;rwa [Yd]at hj2
 have e:(Yr a b).rows.getD j default=Fl a.attrs b.attrs (a.rows.getD j default):=o9 hj;rw[e];refine⟨by show(b.attrs.map _).length<=_;rw[Yd];omega,v7.2 λv hv=>?_⟩;obtain⟨x,hx,rfl⟩:=Ad.1 hv;have hro:=(ha.ok.ok.2.2 j hj).2;by_cases hi:(j0 a.attrs x).toNat<(a.rows.getD j default).vals.length
 .exact hro _ hi
 rw[Oc,Nz Za];exact Zb _
def H6(a b:ac)(ha:TE a)(hb:TE b)(hm:∀x∈b.attrs,x∈a.attrs):a6 Ab 17 [a.pc,b.pc] (a7 [pB (Rt (Yr a b) b)]):=by
 refine Nb (nt:=66) func17 ?_;have hta:=k6.2 ha.ok;have hnb:=hb.ok.na;have hra:=ha.ok.nr;have hnm:=TE.names hm ha;refine Rc ?_;refine m9 0 ?_;refine m9 1 ?_;refine Mc ?_;refine eg 2 rfl rfl rfl ?_;refine Cb ?_;refine Fb rD (cC a) ?_;refine Cb ?_;refine af rfl rfl ?_ ?_<;>intro r0
 .have h0:=Ac (ct r0);exfalso;simp_all
 have h0:=Bc (cu r0);(iterate 3 refine qy ?_ (hg:=(Jc r0)));refine Fb (Ib func44) (Y0 b.attrs 45 1 (λi=>[XL [a.c 0,a.c 1,a.c 2]].getD i .any) (λx=>!decide (0<=j0 a.attrs x)) (Ib func45) (λx=>zY x a)) ?_ (hg:=(Jc r0))
 refine Cb ?_;refine aj _ rfl ?_ ?_<;>intro r1
 .have h1:=ai r0 r1;exfalso;simp_all
 have h1:=ai r0 r1;refine Wb ?_;refine m9 2 ?_;refine dg ?_;refine ej 2 2 100 true 2 82 (lf Xb.c []) Zc rfl rfl Ya (.inr rfl) rfl rfl ?_;refine bz (ka 2 (ka 3 (ka 5 (ka 26 (ka 27 kn))))) (kb 1 km) (λi=>⟨[(28,some (vI i))],[(2,some (.box [.p (.raw (.string b.name)), .p (qv b.attrs), .ref 100 ((a.rows.take i).map (Fl a.attrs b.attrs)).length])),(100,some (.arr true 2 82 ((a.rows.take i).map (Fl a.attrs b.attrs)).length (lf Xb.c ((a.rows.take i).map (Fl a.attrs b.attrs)))))]⟩) a.rows.length kk ?_;rintro i hi;have hlen:((a.rows.take i).map (Fl a.attrs b.attrs)).length<=i:=by rw[Yd,Ae];omega
 refine Eb ?_;refine Kb ?_ ?_<;>intro h2
 ·
  have hia:i<a.rows.length:=by omega
  have hwi:=ha.ok.width hia;refine Jb ?_;refine m9 3 ?_;refine Jb ?_;refine m9 4 ?_;refine dg ?_;refine ej 4 1 101 true 3 100 (lf Lb.c (Dm a.attrs b.attrs (a.rows.getD i default) 0)) Zc rfl rfl Ya (.inr rfl) rfl rfl ?_;refine bz (ka 2 (ka 3 (ka 5 (ka 7 (ka 8 (ka 26 (ka 27 (ka 28 (ka 36 (ka 37 kn)))))))))) (kb 2 (kb 100 (kb 1 (kb 3 km)))) (λk=>⟨[(38,some (vI k))],[(4,some (.box [.p (.raw (.int .i64 (a.rows.getD i default).id)), .ref 101 (Dm a.attrs b.attrs (a.rows.getD i default) k).length])),(101,some (.arr true 3 100 (Dm a.attrs b.attrs (a.rows.getD i default) k).length (lf Lb.c (Dm a.attrs b.attrs (a.rows.getD i default) k))))]⟩) b.attrs.length kk ?_;rintro k hk;have hlk:=bed (A:=a.attrs) (T:=b.attrs) (r:=(a.rows.getD i default)) (k:=k);refine Eb ?_;refine Kb ?_ ?_<;>intro h3
  ·
   have hkb:k<b.attrs.length:=by omega
   have hkm:(b.attrs.getD k default)∈a.attrs:=hm _ (by rw[cq _ _ hkb];exact De hkb);obtain⟨hx1,hx0⟩:=XE ha.ok.nod hkm;have hx2:Fs a.attrs (b.attrs.getD k default)<a.attrs.length:=SR hkm;refine qh ?_;refine Fb vH (EM a.attrs (b.attrs.getD k default)) ?_;refine rq rfl rfl rfl rfl rfl ?_ (hp:=⟨rfl,hx0,by show j0 _ _<((a.rows.getD i default).vals.length:Int);omega⟩);refine qy ?_;refine m9 5 ?_;refine Ed 6 true ?_;refine Wb ?_;exact Ld (k+1) ⟨tt,⟨⟨_,rfl,⟨Ra,Da (HV.ref 101) (by rw[GS hkb,Uc];rfl),Aa⟩⟩,⟨_,rfl,(o7 (GS hkb) (Kp Ra Ra Ra))⟩,uu⟩⟩
  obtain rfl:k=b.attrs.length:=by omega
  refine cg ?_;refine f8 4 1 rfl rfl rfl rfl rfl ?_;refine Mc ?_;refine m9 7 ?_;refine Ed 8 true ?_;refine Jb ?_;exact Ld (i+1) ⟨tt,⟨⟨_,rfl,⟨Ra,Ra,Da (HV.ref 100) (by rw[kR hia,Uc];rfl),Aa⟩⟩,⟨_,rfl,(j7 (kR hia) Ra (by rw[bbc];exact Ra))⟩,uu⟩⟩
 obtain rfl:i=a.rows.length:=by omega
 refine Cb ?_;refine f8 2 2 rfl rfl rfl rfl rfl ?_;have hrt:((a.rows.take a.rows.length).map (Fl a.attrs b.attrs))=(Yr a b).rows:=by rw[Id];rfl
 refine Ju 2 (.box [.p (.raw (.string b.name)), .p (qv b.attrs), .p (rows (Yr a b).rows)]) rfl ⟨Ra,Ra,(by rw[<- hrt];exact Ra),Aa⟩ ?_;refine Tb ?_;refine Fb (Ib func47) (O7 (Yr a b) b (U4 ha hb) hb.ok.ok) ?_;refine Tf ?_;exact Ta
end
end
section
section
variable {l:List Bs}
def lT {i:Nat} (hi:i<l.length):Cf (l.take (i+1))=Cf (l.take i)+(l.getD i default).size:=by
 unfold Cf;rw[List.take_succ,Hc hi,Mi,List.sum_append,Oc,Hc hi];simp
def b2i (l:List Bs) (i:Nat):Cf l=Cf (l.take i)+Cf (l.drop i):=by
 unfold Cf;rw[<- List.sum_append,<- Mi,Lz]
def DL(l:List Bs)(i:Nat):Cf (l.take i)<=Cf l:=by have:=b2i l i;omega
def AV {i:Nat} (hi:i<l.length):(l.getD i default).size<=Cf l:=by
 have h1:=lT hi;have h2:=DL l (i+1);omega
def ua(l:List Bs)(sep:Bs)(i:Nat):List UInt8:=bL (l.getD 0 default)++Lib.joinTail (bL sep) (((l.drop 1).take i).map bL)
def Q6(l:List Bs)(sep:Bs):ua l sep 0=[]++bL (l.getD 0 default):=by simp[ua,Lib.joinTail]
def NU {sep:Bs} {i:Nat} (hi:1+i<l.length):ua l sep (i+1)=(ua l sep i++bL sep)++bL (l.getD (1+i) default):=by
 unfold ua
 have h:((l.drop 1).map bL)[i]? = some (bL (l.getD (1+i) default)):=by
  rw[Pe,Qo,Oc,Hc hi];rfl
 have h2:=Lib.joinTail_take_succ (bL sep) ((l.drop 1).map bL) i _ h;rw[List.map_take,List.map_take,h2];simp only[Ug]
def b45 (sep:Bs) (h:l≠[]):(⟨(ua l sep (l.length-1)).toArray⟩:Bs)=Wt l sep:=by
 obtain⟨x,r,rfl⟩:=List.exists_cons_of_ne_nil h;unfold ua Wt Pn;rw[Wh,Lib.join_cons];simp
def bdq(l:List Bs)(sep:Bs)(i:Nat):(ua l sep i).length<=Cf l+sep.size*l.length:=by
 unfold ua;rw[Uc,Lib.joinTail_length,Yd]
 have h1:Lib.lens (((l.drop 1).take i).map bL)<=Cf (l.drop 1):=by
  have:Lib.lens (((l.drop 1).take i).map bL)=Cf ((l.drop 1).take i):=by
   unfold Lib.lens Cf;rw[Js];rfl
  rw[this];exact DL _ _
 have h2:((l.drop 1).take i).length<=l.length:=by
  rw[Ae,Ck];omega
 have h3:(bL (l.getD 0 default)).length+Cf (l.drop 1)<=Cf l:=by
  cases l with
  |nil=>exact Yb 0
  | cons x r =>
   have e:Cf (x::r)=x.size+Cf r:=by simp[Cf]
   rw[e];show x.size+Cf r<=_;omega
 have h4:=Nat.mul_le_mul_left sep.size h2;show _+(sep.size*_+_)<=_;omega
def ays (sep:Bs) (h:(l.length:Int)=1):Wt l sep=l.getD 0 default:=by
 match l,h with
 | [x],_ =>
  show Pn (Lib.join [bL x] (bL sep))=x;rw[Lib.join_one,H0]
def kY{α:Type}{l:List α}(h:(l.length:Int)=0):l=[]:=Vl Za
def be1{n:Int}(h1:1<=n)(h2:n<=1000):(2:Int)<=9223372036854775807/n:=Int.le_ediv_of_mul_le Za Za
end
end
section
def jZ(l:List Fd)(p:AS)(k:Nat):List Fd:=(((List.range k).map (BitVec.ofNat 32)).filter λs=>decide (sub s p)).map λs=>⟨s,clo l s&&&p⟩
def buo(l:List Fd)(ps:List AS)(i:Nat):List Fd:=(ps.take i).flatMap λp=>jZ l p (p.toNat+1)
def btr(a b:List Fd):Bool:=b.any λf=>!imp a f
def bui(n:Int)(l:List Fd)(ps:List AS):Int:=if br n l=0 then Zd n ps l []else br n l
def btd(n:Int)(l:List Fd)(ps:List AS):Bool:=decide (br n l=0)&&(Te n ps l []&&tz l ps&&ps.all (yd l))
section
variable {n:Int}{l:List Fd}{ps:List AS}
def E9 (h0:0<=n) (h8:n<=8) {q:AS} (hq:sub q (ak n)):q.toNat<65536:=by
 have h1:=BP hq;have h2:∀k,k<=8->(l4 k).toNat<65536:=by decide +kernel
 have h3:(ak n).toNat<65536:=h2 (min n.toNat 32) Za;omega
def oD(h:Sd n ps=0){q:AS}(hq:q∈ps):q.toNat<65536:=E9 (jl h).1 (jl h).2.1 (DH h hq)
end
end
section
def UD(a b:Bs):bL (a++b)=bL a++bL b:=by simp[ByteArray.data_append]
def Yy(l:List Fd)(p s:AS):Bool:=!decide (p&&&~~~(clo l s)=0)
def Yg(l:List Fd)(p:AS):List AS:=nA ((c7 p).filter λs=>!Yy l p s)
def iH(ns:List Bs)(k:AS):List UInt8:=32::bL (Si ns k)
def pf(ns:List Bs)(ks:List AS)(i:Nat):List UInt8:=(ks.take i).flatMap (iH ns)
def w3(ns:List Bs)(p:AS):List UInt8:=[112,97,114,116,32]++bL (Si ns p)++[32,107,101,121,115]
def VA(ns:List Bs)(l:List Fd)(p:AS):List UInt8:=w3 ns p++pf ns (Yg l p) (Yg l p).length++[10]
def gr(ns:List Bs)(l:List Fd)(ps:List AS)(i:Nat):List UInt8:=(ps.take i).flatMap (VA ns l)
def UA(ns:List Bs)(f:Fd):List UInt8:=[108,111,115,116,32]++bL (Si ns f.lhs)++[32,45,62,32]++bL (Si ns f.rhs)++[10]
def jo(ns:List Bs)(l:List Fd)(ls:List Nat)(i:Nat):List UInt8:=(ls.take i).flatMap λj=>UA ns (l.getD j default)
def k7:List Bs:=[⟨#[108,111,115,115,108,101,115,115]⟩,⟨#[112,114,101,115,101,114,118,105,110,103]⟩,⟨#[116,104,105,114,100]⟩,⟨#[98,111,121,99,101]⟩,⟨#[102,111,117,114,116,104]⟩]
def rA(c:Int)(i:Nat):Bool:=decide (bq .and .i64 (c.fdiv (2^(min i 64))) 1=1)
def KA(c:Int)(i:Nat):List UInt8:=if rA c i=true then 32::bL (k7.getD i default) else[]
def j5(c:Int)(i:Nat):List UInt8:=(List.range i).flatMap (KA c)
def fA (ns:List Bs) (l:List Fd) (ps:List AS) (c:Int):List UInt8 :=
 gr ns l ps ps.length++jo ns l (da l ps l.length) (da l ps l.length).length++[99,108,97,105,109,115]++j5 c 5++[10]
section
variable {ns:List Bs}{l:List Fd}{ps:List AS}{c:Int}{i:Nat}
def sL {α:Type} [Inhabited α] {f:α->List UInt8} {q:List α} (h:i<q.length):(q.take (i+1)).flatMap f=(q.take i).flatMap f++f (q.getD i default):=by
 rw[List.take_succ,Hc h,Ro,Oc,Hc h];simp
def arc{ks:List AS}(h:i<ks.length):pf ns ks (i+1)=pf ns ks i++iH ns (ks.getD i default):=sL h
def anc(h:i<ps.length):gr ns l ps (i+1)=gr ns l ps i++VA ns l (ps.getD i default):=sL h
def alx{ls:List Nat}(h:i<ls.length):jo ns l ls (i+1)=jo ns l ls i++UA ns (l.getD (ls.getD i default) default):=sL h
def YW:j5 c (i+1)=j5 c i++KA c i:=by
 unfold j5;rw[Ak,Ro];simp
def y9 {α:Type} {f:α->List UInt8} {K:Nat}:∀{q:List α},(∀x∈q,(f x).length<=K)->(q.flatMap f).length<=K*q.length
 | [],_=>by simp
 | x::q,h=>by
  have h1:=h x Ec;have h2:=y9 (q:=q) λy hy=>h y (by simp[hy]);rw[Lj,Uc,Zf,Nat.mul_succ];omega
def TA (h:∀b∈ns,b.size<=1000) (s:AS):(bL (Si ns s)).length<=32033:=by
 have:=bf1 (s:=s) h;rw[KD];omega
def OK (h:∀b∈ns,b.size<=1000) {ks:List AS}:(pf ns ks i).length<=32034*ks.length:=by
 refine Nd (y9 (K:=32034) λx _=>?_) (Nat.mul_le_mul_left _ (by rw[Ae];omega));have:=TA h x;show(bL _).length+1<=_;omega
def EK (h:∀b∈ns,b.size<=1000) (p:AS):(w3 ns p).length<=32043:=by
 have:=TA h p;unfold w3;simp only[Uc,Zf,Nn];omega
def TD {p:AS} (hp:p.toNat<65536):(Yg l p).length<=65537:=by
 unfold Yg;refine Nd (b6y _) (Nd (So _ _) ?_);unfold c7 Fr;have h1:=tK (s:=p) (p.toNat+1) p;have h2:=ui (Kr p (p.toNat+1) p);split
 .simp
 omega
def b10 (h:∀b∈ns,b.size<=1000) {p:AS} (hp:p.toNat<65536):(VA ns l p).length<=2100000000:=by
 have h1:=OK (i:=(Yg l p).length) (ks:=Yg l p) h;have h2:=EK h p;have h3:=TD (l:=l) hp;unfold VA;simp only[Uc,Zf,Nn];omega
def axf (h:∀b∈ns,b.size<=1000) (hp:∀p∈ps,p.toNat<65536) (h64:ps.length<=64):(gr ns l ps i).length<=134400000000:=by
 have h1:(gr ns l ps i).length<=2100000000*(ps.take i).length:=y9 (K:=2100000000) λx hx=>b10 h (hp x (List.mem_of_mem_take hx));rw[Ae]at h1;omega
def az4 (h:∀b∈ns,b.size<=1000) (f:Fd):(UA ns f).length<=64100:=by
 have h1:=TA h f.lhs;have h2:=TA h f.rhs;unfold UA;simp only[Uc,Zf,Nn];omega
def av9 (h:∀b∈ns,b.size<=1000) {ls:List Nat} (hl:ls.length<=64):(jo ns l ls i).length<=4102400:=by
 have h1:(jo ns l ls i).length<=64100*(ls.take i).length:=y9 (K:=64100) λx _=>az4 h _;rw[Ae]at h1;omega
def uW(h:i<=5):(j5 c i).length<=100:=by
 have h1:(j5 c i).length<=20*(List.range i).length:=y9 (K:=20) λx hx=>by
  unfold KA;split
  .have hx:=Fe.1 hx
   have:(bL (k7.getD x default)).length<=10:=by
    match x,hx with
    |0,_=>decide
    |1,_=>decide
    |2,_=>decide
    |3,_=>decide
    |4,_=>decide
    |n+5,hx=>omega
   show _+1<=_;omega
  exact Zb _
 rw[Jm]at h1;omega
def bal {s:AS} {n:Nat} (h8:n<=16) (h:sub s (ak n)) {i:Nat} (hi:i∈am s):i<n:=by
 obtain⟨h32,hb⟩:=od.1 hi;have:=ci.1 h i h32 hb
 have hn:¬n<=i:=λhle=>by
  have h2:=(AA (s:=ak n) (n:=(n:Int)) Za Za).1 (sub_self _);have h3:=Da (λx:AS=>x.getLsbD (i-n)) h2;simp only[Qe,Jv,show n+(i-n)=i by omega,this]at h3;simp at h3
 omega
def ba5 {j:Nat} (h:j<(da l ps l.length).length):(da l ps l.length).getD j default<l.length:=by
 have hm:(da l ps l.length).getD j default∈da l ps l.length:=dw h;exact Fe.1 (Jo.1 hm).1
def oT:(da l ps l.length).length<=l.length:=by
 refine Nd (So _ _) ?_;rw[Jm];exact Yb _
end
end
section
def vv(ns:List Bs)(l m:List Fd)(ps:List AS):Int:=if nj ns=0 then(if Sd ns.length ps=0 then c8 ns.length l m else Sd ns.length ps)else nj ns
def Lv(ns:List Bs)(l m:List Fd)(ps:List AS)(c:Int):Bs:=if vv ns l m ps=0 then Pn (fA ns l ps c) else⟨#[]⟩
section
variable {ns:List Bs}{l m:List Fd}{ps:List AS}{c:Int}{X:List UInt8}
def U5 (h:¬nj ns=0):vv ns l m ps=nj ns/\Lv ns l m ps c=⟨#[]⟩:=by
 have e:vv ns l m ps=nj ns:=Ca h;exact⟨e,Ca (by rw[e];exact h)⟩
def D7 (h:nj ns=0) (h2:¬Sd ns.length ps=0):vv ns l m ps=Sd ns.length ps/\Lv ns l m ps c=⟨#[]⟩:=by
 have e:vv ns l m ps=Sd ns.length ps:=by unfold vv;rw[Ba h,Ca h2]
 exact⟨e,Ca (by rw[e];exact h2)⟩
def M6 (h:nj ns=0) (h2:Sd ns.length ps=0) (h3:¬c8 ns.length l m=0):vv ns l m ps=c8 ns.length l m/\Lv ns l m ps c=⟨#[]⟩:=by
 have e:vv ns l m ps=c8 ns.length l m:=by unfold vv;rw[Ba h,Ba h2]
 exact⟨e,Ca (by rw[e];exact h3)⟩
def W6 (h:nj ns=0) (h2:Sd ns.length ps=0) (h3:c8 ns.length l m=0):vv ns l m ps=0/\Lv ns l m ps c=Pn (fA ns l ps c):=by
 have e:vv ns l m ps=0:=by unfold vv;rw[Ba h,Ba h2,h3]
 exact⟨e,Ba e⟩
def R6 {p k:AS} (h:k∈Yg l p):sub k p:=by
 have h1:=(b4o.1 h).1;have h2:=(Jo.1 h1).1;unfold c7 at h2;split at h2
 .cases h2
 exact AF.1 h2
def Gk(a b:Bs):(a++b).size=a.size+b.size:=ByteArray.size_append
def F0(h:∀b∈ns,b.size<=1000)(s:AS):(Si ns s).size<=32033:=TA h s
def N9 {p:AS} {ks:List AS}:X++bL ((⟨#[112,97,114,116,32]⟩++Si ns p)++⟨#[32,107,101,121,115]⟩)=X++w3 ns p++pf ns ks 0:=by
 simp[UD,w3,pf]
def T3 {ks:List AS} {k:Nat} (h:k<ks.length):(X++pf ns ks k)++bL (⟨#[32]⟩++Si ns (ks.getD k default))=X++pf ns ks (k+1):=by
 rw[arc h];simp[UD,iH]
section
variable {i:Nat}
def bbn (h:i<ps.length):(gr ns l ps i++w3 ns (ps.getD i default)++pf ns (Yg l (ps.getD i default)) (Yg l (ps.getD i default)).length)++bL ⟨#[10]⟩=gr ns l ps (i+1):=by
 rw[anc h];simp[VA]
def bcg {ls:List Nat} {j:Nat} (h:j<ls.length) (f:Fd) (hf:f=l.getD (ls.getD j default) default) :
 (X++jo ns l ls j)++bL ((((⟨#[108,111,115,116,32]⟩++Si ns f.lhs)++⟨#[32,45,62,32]⟩)++Si ns f.rhs)++⟨#[10]⟩)=X++jo ns l ls (j+1):=by
 subst hf;rw[alx h];simp[UD,UA]
def XO (h:rA c i=true):(X++j5 c i)++bL (⟨#[32]⟩++k7.getD i default)=X++j5 c (i+1):=by
 rw[YW];unfold KA;rw[Ba h];simp[UD]
def RP (h:rA c i=false):X++j5 c i=X++j5 c (i+1):=by
 rw[YW];unfold KA;rw[Ca (by rw[h];exact Iz),Mg]
def b35 {f:Nat->Nat->PV} (hi:i<5) (h0:f 0 0=Vo (k7.getD 0 default) 0) (h1:f 1 0=Vo (k7.getD 1 default) 0) (h2:f 2 0=Vo (k7.getD 2 default) 0) (h3:f 3 0=Vo (k7.getD 3 default) 0) (h4:f 4 0=Vo (k7.getD 4 default) 0):f i 0=Vo (k7.getD i default) 0:=by
 match i,hi with
 |0,_=>exact h0
 |1,_=>exact h1
 |2,_=>exact h2
 |3,_=>exact h3
 |4,_=>exact h4
def CT (hi:i<5):(k7.getD i default).size<=10:=by
 match i,hi with
 |0,_=>decide
 |1,_=>decide
 |2,_=>decide
 |3,_=>decide
 |4,_=>decide
end
end
end
section
section
variable {n:Int}{ps:List AS}{p m l:List Fd}
abbrev OF(n:Int)(ps:List AS):List Rw:=ax (bf n ps)
abbrev Pj(n:Int)(ps:List AS)(p m:List Fd):List St:=(Ce n ps p m).1
abbrev Rk(n:Int)(ps:List AS)(p m:List Fd)(i:Nat):List Rw:=(Wg n p m (OF n ps) (Pj n ps p m)).getD i default
def G8 (h:¬Zd n ps p m=0):Sj n ps p m=[]/\Ci n ps p m=Zd n ps p m:=by
 have hc:(Xf n ps p m).2.2=Zd n ps p m:=HB;unfold Sj Ci;rw[hc,Ca h,Ca h];exact⟨rfl,rfl⟩
def NJ(hls:Zd n ps p m=0){i:Nat}(hi:i<=(Pj n ps p m).length)(hI:∀j,j<i->kz n (Rk n ps p m j)=false)(h:kz n (Rk n ps p m i)=true):Sj n ps p m=(Pj n ps p m).take i/\Ci n ps p m=0:=by
 have hq:=Jw hls;have hi':i<=(Ce n ps p m).1.length:=hi;have hc:(Xf n ps p m).2.2=0:=by rw[hq]
 have hx:Uk n ps p m=(i:Int):=by
  unfold Uk;rw[hq];refine oi (p:=λa:Int×List Rw=>kz n a.2) (i:=i) (by show i<(ji n p m _ _).length;rw[yB];omega) (λj hj=>?_) ?_
  .show kz n ((ji n p m _ _).getD j default).2=false
   rw[cE Za];exact hI j hj
  show kz n ((ji n p m _ _).getD i default).2=true;rw[cE Za];exact h
 unfold Sj Ci;rw[Ba hc,Ba hc,hx,Ca Za,Ca Za,hq];exact⟨rfl,rfl⟩
def bah (hls:Zd n ps p m=0) (hI:∀j,j<(Pj n ps p m).length+1->kz n (Rk n ps p m j)=false):Sj n ps p m=[]/\Ci n ps p m=11:=by
 have hq:=Jw hls;have hc:(Xf n ps p m).2.2=0:=by rw[hq]
 have hx:Uk n ps p m=-1:=by
  unfold Uk;rw[hq];refine p8 (p:=λa:Int×List Rw=>kz n a.2) λj hj=>?_;have hj:j<(ji n p m (ax (bf n ps)) (Ce n ps p m).1).length:=hj;rw[yB]at hj;show kz n ((ji n p m _ _).getD j default).2=false;rw[cE Za];exact hI j hj
 unfold Sj Ci;rw[Ba hc,Ba hc,hx,Ba Za,Ba Za];exact⟨rfl,rfl⟩
def VZ(hls:Zd n ps p m=0)(hb:Te n ps p m=true):Ci n ps p m=0:=by
 obtain⟨hv,hbe⟩:=yg hls;have hc:(Ce n ps p m).2.2=0:=(Uw hv hbe).symm.trans hls;obtain⟨sts,lend,e,htr,_,hif⟩:=FH hv hbe hc
 have hin:dp n∈lend:=by
  unfold Te at hb;rw[Od,e]at hb;obtain⟨r,hr,he⟩:=Yf.1 hb.2;rw[<- Ga he];exact hr
 obtain⟨t,ht,hf⟩:=hif.2 hin;apply La;intro hne;have hs:Pj n ps p m=sts:=by show(Ce n ps p m).1=sts;rw[e]
 have hall:∀j,j<(Pj n ps p m).length+1->kz n (Rk n ps p m j)=false:=by
  apply La;intro hno
  have:∃j,j<(Pj n ps p m).length+1/\kz n (Rk n ps p m j)=true:=by
   apply La;intro hno2;exact hno λj hj=>Ie.2 λh=>hno2 ⟨j,hj,h⟩
  obtain⟨j,hj,hjt⟩:=this
  have key:∀k,k<=j->(∀i,i<k->kz n (Rk n ps p m i)=false)\/Ci n ps p m=0:=by
   intro k
   induction k with
   |zero=>exactλ_=>.inl λi hi=>Ea hi (Ud i)
   | succ k ih =>
    intro hk
    rcases ih Za with h|h
    .rcases Bool.eq_false_or_eq_true (kz n (Rk n ps p m k))with hb2|hb2
     .exact .inr (NJ hls (i:=k) Za h hb2).2
     refine .inl λi hi=>?_;by_cases hik:i=k
     .rw[hik];exact hb2
     exact h i Za
    exact .inr h
  rcases key j (Yb j)with h|h
  .exact hne (NJ hls (i:=j) Za h hjt).2
  exact hne h
 obtain⟨k,hk,he⟩:=Fg ht;rw[sB]at hk;have h1:=hall k (by rw[hs];exact hk)
 have h2:Rk n ps p m k=t:=by
  show(Wg n p m (OF n ps) (Pj n ps p m)).getD k default=t;rw[hs,Oc,Hc (by rw[sB];exact hk),<- he];rfl
 rw[h2]at h1;have:kz n t=true:=Yf.2 ⟨dp n,hf,Fa rfl⟩;rw[this]at h1;cases h1
def An(n:Int)(l:List Fd)(p:AS):Bool:=Um n l p&&decide (Nm n l p=0)
def Fo(l:List Fd)(p:AS):Bool:=!xq l p&&decide (tu l p=0)
def Aq(n:Int)(l m:List Fd)(p:AS):Bool:=!(Rq n l m p).2&&decide (Gh n l m p=0)
def ub(a b c d:Bool):Int:=(bif a then 2 else 0)+((bif b then 4 else 0)+((bif c then 8 else 0)+(bif d then 16 else 0)))
def Pt(n:Int)(l m:List Fd)(ps:List AS):Int:=ub (tz l ps) (ps.all (An n l)) (ps.all (Fo l)) (ps.all (Aq n l m))
def yp(n:Int)(l m:List Fd)(ps:List AS):Int:=if Zd n ps l m=0 then Pt n l m ps+(bif Te n ps l m then 1 else 0)else 0
def XZ(h:¬Zd n ps l m=0):yp n l m ps=0:=Ca h
def RZ (h:Zd n ps l m=0) (hb:Te n ps l m=true):yp n l m ps=bq .or .i64 (Pt n l m ps) 1:=by
 unfold yp;rw[Ba h,hb];unfold Pt;generalize tz l ps=a;generalize ps.all (An n l)=b;generalize ps.all (Fo l)=c;generalize ps.all (Aq n l m)=d;cases a<;>cases b<;>cases c<;>cases d<;>decide
def V0 (h:Zd n ps l m=0) (hb:Te n ps l m=false):yp n l m ps=Pt n l m ps:=by
 unfold yp;rw[Ba h,hb];exact Int.add_zero _
def bca (h:Zd n ps l m=0):decide (bq .and .i64 (yp n l m ps) 1=0)=!Te n ps l m:=by
 unfold yp;rw[Ba h];unfold Pt;generalize tz l ps=a;generalize ps.all (An n l)=b;generalize ps.all (Fo l)=c;generalize ps.all (Aq n l m)=d;generalize Te n ps l m=e;cases a<;>cases b<;>cases c<;>cases d<;>cases e<;>decide
def tP{a:Bool}(h:a=true):bq .or .i64 0 2=ub a false false false:=by rw[h];decide
def yP{a b:Bool}(h:b=true):bq .or .i64 (ub a false false false) 4=ub a b false false:=by rw[h];cases a<;>decide
def GP{a b c:Bool}(h:c=true):bq .or .i64 (ub a b false false) 8=ub a b c false:=by rw[h];cases a<;>cases b<;>decide
def VP{a b c d:Bool}(h:d=true):bq .or .i64 (ub a b c false) 16=ub a b c d:=by rw[h];cases a<;>cases b<;>cases c<;>decide
abbrev IF:=List AS×Int×List St
abbrev Do(d:IF):PC:=.agg [Cd d.1, .raw (.int .i64 d.2.1),Am d.2.2]
def Zp(n:Int)(l m:List Fd)(ps:List AS):IF:=if Zd n ps l m=0 then(ps,yp n l m ps,if Te n ps l m=true then Sj n ps l m else[]) else([],0,[])
def UX(h:¬Zd n ps l m=0):Zp n l m ps=([],0,[]):=Ca h
def BZ(h:Zd n ps l m=0)(hb:Te n ps l m=true):Zp n l m ps=(ps,yp n l m ps,Sj n ps l m):=by unfold Zp;rw[Ba h,Ba hb]
def HY(h:Zd n ps l m=0)(hb:Te n ps l m=false):Zp n l m ps=(ps,yp n l m ps,[]):=by unfold Zp;rw[Ba h,Ca (by rw[hb];exact Iz)]
def yy(n:Int)(l m:List Fd):Int:=if n<0\/8<n then 7 else c8 n l m
def o8(n:Int)(l m:List Fd)(f:Int):List AS×Int:=if f=3 then(Yq n l,br n l)else if f=4 then(gA n l,jg n l 8)else if f=5 then(kZ n l m,Gh n l m 0) else([],1)
def dZ{f:Int}(h:f=3):o8 n l m f=(Yq n l,br n l):=Ba h
def QY{f:Int}(h:¬f=3)(h2:f=4):o8 n l m f=(gA n l,jg n l 8):=by unfold o8;rw[Ca h,Ba h2]
def Hl(n:Int)(l m:List Fd)(q:List AS×Int):IF:=if yy n l m=0 then(if q.2=0 then Zp n l m q.1 else([],0,[])) else([],0,[])
def Hs(n:Int)(l m:List Fd)(q:List AS×Int):Int:=if yy n l m=0 then(if q.2=0 then Zd n q.1 l m else q.2)else yy n l m
def CM {q:List AS×Int} (h:yy n l m=0) (h2:q.2=0):Hl n l m q=Zp n l m q.1/\Hs n l m q=Zd n q.1 l m:=by
 unfold Hl Hs;rw[Ba h,Ba h2,Ba h,Ba h2];exact⟨rfl,rfl⟩
def vn(n:Int)(l:List Fd):List AS×Int:=if jg n l 8=0 then(if ZC n l=true then(aH n l,0) else(Yq n l,br n l)) else(aH n l,jg n l 8)
def iY(h:jg n l 8=0)(h2:ZC n l=false):vn n l=(Yq n l,br n l):=by unfold vn;rw[Ba h,Ca (by rw[h2];exact Iz)]
def zO(h:n<0\/8<n):yy n l m=7:=Ba h
def M1(h:¬(n<0\/8<n)):yy n l m=c8 n l m:=Ca h
end
end
section
section
variable {n:Int}{l m:List Fd}{ps:List AS}{p x:AS}
def TF(n:Int)(l m:List Fd)(q:List AS):Int:=ub false (q.all (Um n l)) (q.all λp=>!gv l p) (q.all λp=>!Nu (Xo n l m) p)
def fm1(n:Int)(l m:List Fd)(q:List AS)(i:Nat):Int:=ub false ((q.take (i+1)).all (Um n l)) ((q.take i).all λp=>!gv l p) ((q.take i).all λp=>!Nu (Xo n l m) p)
def fm2(n:Int)(l m:List Fd)(q:List AS)(i:Nat):Int:=ub false ((q.take (i+1)).all (Um n l)) ((q.take (i+1)).all λp=>!gv l p) ((q.take i).all λp=>!Nu (Xo n l m) p)
def fmL(n:Int)(l m:List Fd)(q:List AS):Int:=TF n l m q+(bif Te n q l m then 1 else 0)
end
end
section
abbrev SI:=Bool×Int×Int×Int
abbrev SI.c(s:SI):Nat->PV:=λj=>[.raw (.bool s.1), .raw (.int .i64 s.2.1), .raw (.int .i64 s.2.2.1), .raw (.int .i64 s.2.2.2)].getD j .any
abbrev vX(l:List SI):PV:=Ff 4 SI.c l
def mY(s:St):SI:=(s.1,(s.2.1:Int),(s.2.2.1:Int),(s.2.2.2:Int))
abbrev bum(ps:List AS)(c:Int)(l:List SI):PC:=.agg [Cd ps, .raw (.int .i64 c),vX l]
section
variable {n c:Int}{l m:List Fd}{ps:List AS}{q:List SI}{i:Nat}
def wX(l m:List Fd)(t:Int×List Rw×Int)(s:SI):Int×List Rw×Int:=if t.2.2=0 then ec t.1 t.2.1 l m s.1 s.2.1 s.2.2.1 s.2.2.2 else t
def cM(n:Int)(ps:List AS)(l m:List Fd)(q:List SI):Int×List Rw×Int:=q.foldl (wX l m) (n,OF n ps,0)
def uM(n:Int)(ps:List AS)(l m:List Fd)(q:List SI):Bool:=if Sd n ps=0/\c8 n l m=0 then decide ((cM n ps l m q).2.2=0)&&kz n (cM n ps l m q).2.1 else false
def zZ (n:Int) (l m:List Fd) (ps:List AS) (c:Int) (q:List SI):Bool :=
 if Sd n ps=0/\c8 n l m=0/\0<=c/\c<=31 then(if bq .andNot .i64 (bq .andNot .i64 c 1) (Pt n l m ps)=0 then(bif decide (bq .and .i64 c 1=0)then true else uM n ps l m q)else false)else false
def pN(n:Int)(l m:List Fd)(ps:List AS):Int:=if tz l ps=true then bq .or .i64 (TF n l m ps) 2 else TF n l m ps
def btj(n:Int)(l m:List Fd)(ps:List AS)(c:Int)(q:List SI):Int:=if ¬bq .and .i64 c 1=0/\uM n ps l m q=true then bq .or .i64 (pN n l m ps) 1 else pN n l m ps
end
end
section
open Go.Proofs
def bt7(n:Int)(l:List Fd)(i:Nat):Bool:=((Yq n l).take i).any (p9 n l)
section
variable {n:Int}{l:List Fd}
end
section
variable {d:Zn}
end
end
section
def bsr(l0:List Fd)(x:Fd)(a:Nat):Prop:=x.lhs.getLsbD a=true->imp l0 (AC x a)=false
def bty(l:List Fd):Prop:=∀f∈l,∃k:Nat,f.rhs=(1:AS)<<<k
section
variable {n:Int}{l:List Fd}
end
end
section
section
variable {n:Int}{l m:List Fd}{ps:List AS}{q:List AS×Int}{lend:List Rw}
def stp(n:Int)(ps:List AS)(l m:List Fd):List St:=if Te n ps l m=true then Sj n ps l m else[]
def buc(n:Int)(l m:List Fd)(want:Int)(d:IF)(e:Int):Prop:=e=3\/(e=0/\bq .and .i64 d.2.1 want=want/\zZ n l m d.1 d.2.1 (d.2.2.map mY)=true)
end
end
section
section
variable {ns:List Bs}{i k:Nat}{s:AS}{c:Int}
def nmP(ns:List Bs)(s:AS)(i:Nat):Bs:=Wt ((gm s i).map λk=>ns.getD k default) ⟨#[44]⟩
def bsf(c b:Int)(w:Bs):Bs:=if bq .and .i64 c b=0 then⟨#[]⟩ else⟨#[32]⟩++w
end
end
section
section
variable {ns:List Bs}{l m:List Fd}{ps:List AS}{c:Int}
def btp(t:Bs)(ns:List Bs):Bool:=decide ((t.size:Int)+(Cf ns:Int)<=400)&&decide ((ns.length:Int)<=40)
end
end
section
open Go.Proofs
def eu(n:Int)(ps:List AS):List AS:=if ps.length=0 then[ak n]else ps.set (ps.length-1) (ps.getD (ps.length-1) default|||(ak n&&&~~~(Qd ps)))
section
variable {ps:List AS}
def fR{n:Int}(h:ps.length=0):eu n ps=[ak n]:=Ba h
def yQ{n:Int}(h:¬ps.length=0):eu n ps=ps.set (ps.length-1) (ps.getD (ps.length-1) default|||(ak n&&&~~~(Qd ps))):=Ca h
def bc6 {e:TypeId} {l:List AS} {f:Nat->Nat->PV} {m:Nat} (hm:m=l.length):Ic (.arr true 1 e (0+m) (ek 0 f (lf sC l))) (.arr true 1 e l.length (lf sC l)):=by
 subst hm;exact⟨λh=>h,rfl,rfl,(Oe _).symm,λi j _ _=>Va (by simp[ek])⟩
def aY {n:Int} {j k:Nat} (h:k=j):bq .or .u32 (Hb (ps.getD k default)) (bq .andNot .u32 (Hb (ak n)) (Hb (Qd ps)))=Hb (ps.getD j default|||(ak n&&&~~~(Qd ps))):=by
 subst h;rw[k8,Dh]
def bdr {x:AS} {cl:Bool} {f:Nat->Nat->PV} (h:Fc (f 0 0) (Ag x)):Fc (.sl 1 1 cl f) (Cd [x]):=Wa rfl (.inl rfl) (λh=>by cases h) λi j hi hj=>by
 obtain rfl:i=0:=by omega
 obtain rfl:j=0:=by omega
 exact h
def S4 (n:Int) (ps:List AS) (hps:ps.length<=8589934592):a6 Ab 7 [pI n,pP (Cd ps)] (a7 [pP (Cd (eu n ps))]):=by
 refine Nb (nt:=42) func7 ?_;refine cj 1 rfl λhb=>?_;refine rp ?_;refine bz (ka 0 (ka 1 kn)) km (λi=>⟨[(5,some (vA (Qd (ps.take i)))),(6,some (vI i))],[]⟩) ps.length ⟨⟨⟨_,rfl,Ua⟩,⟨_,rfl,Ua⟩,Aa⟩,Aa⟩ ?_;rintro i hi;refine Wb ?_;refine Kb ?_ ?_<;>intro h0
 .refine qh ?_;exact Ld (i+1) ⟨⟨⟨_,rfl,(ed ((Dh _ _).trans (Da Hb (kK Za).symm)))⟩,⟨_,rfl,Ua⟩,tt⟩,Aa⟩
 obtain rfl:i=ps.length:=by omega
 rw[show ps.take ps.length=ps from Id];refine Tb ?_;refine m9 900 ?_;refine qy ?_;refine Ed 901 true ?_;refine Cb ?_;refine pF ⟨[(0,some _),(5,some _),(7,some (.v (.one (.ref 900 ps.length))))],[(900,some (.arr true 1 48 ps.length (lf sC ps)))]⟩ (by exact⟨⟨c9,c9,⟨_,rfl,Xa (Da (λz=>HR.v (.one (.ref 900 z))) (Oe _))⟩,Aa⟩,⟨⟨_,rfl,bc6 rfl⟩,Aa⟩⟩) ?_;refine Jb ?_;refine Kb ?_ ?_<;>intro h1
 ·
  have h0:ps.length=0:=by omega
  refine Tb ?_;refine Fb vq (ve n) ?_;refine m9 902 ?_;refine Cb ?_;refine b5 4 rfl rfl rfl ?_;exact Nc rfl rfl rfl (⟨Ob.one (by rw[fR h0];exact bdr Ra),Aa⟩)
 have h0:¬ps.length=0:=by omega
 refine ce ?_;refine Fb vq (ve n) ?_;refine Jb ?_;refine pF ⟨[(7,some _)],[(900,some (.arr true 1 48 ps.length (lf sC (ps.set (ps.length-1) (ps.getD (ps.length-1) default|||(ak n&&&~~~(Qd ps)))))))]⟩ (by exact⟨tt,⟨⟨_,rfl,(QI (λh=>h) rfl Za Za (Da (λz=>PV.raw (.int .u32 z)) (aY Za)))⟩,Aa⟩⟩) ?_;refine Eb ?_;refine b5 4 rfl rfl rfl ?_;exact Nc rfl rfl rfl (⟨Ob.one (Va (by rw[yQ h0];exact(Da (λz=>PV.sl z 1 false (lf sC (ps.set (ps.length-1) (ps.getD (ps.length-1) default|||(ak n&&&~~~(Qd ps)))))) List.length_set.symm))),Aa⟩)
end
end
def Zr(d:Bg):Bool:=decide (d.f.length<=4/\d.m.length<=4/\d.p.length<=3)&&decide ((d.m.length:Int)<=2)
def XN {d:Bg} (h:Zr d=true):d.f.length<=4/\d.m.length<=2/\d.p.length<=3:=by
 unfold Zr at h;rw[Od,Ja,Ja]at h;omega
def nsL(d:Bg)(ns:List Bs):List Bs:=if d.num 4<(ns.length:Int)/\(ns.length:Int)%2=0 then ns.take (d.num 4).toNat else ns
def GM (d:Bg):1<=d.num 4/\d.num 4<=4:=by
 have:d.n.toNat%4<4:=Gm _ Za;unfold Bg.num;omega
abbrev frM:MK->Option PV:=qq (qq (qq (λ_=>none) (.i .i64 3) (.raw (.int .i64 7))) (.i .i64 4) (.raw (.int .i64 9))) (.i .i64 5) (.raw (.int .i64 17))
section
def b5f:∀k,k<9->xl (og.take k)=true:=by decide
def OQ (c:UInt8):pe (As c):=by
 unfold As;have h:∀k:Fin 12,cz (Kg (k.val:Int))=true/\-1<=(Kg (k.val:Int)).num/\(Kg (k.val:Int)).num<=7:=by decide
 have:=h ⟨c.toNat%12,by omega⟩;rw[show((c.toNat%12:Nat):Int)=(c.toNat:Int)%12 by omega]at this;exact⟨this.1,by omega,by omega⟩
def YJ {x:jm} {n:Nat} (hn:n<=8):(d4 x n).attrs.length=n:=by
 show(og.take n).length=n;rw[Ae];have:og.length=8:=rfl;omega
def bc0{x:jm}{n:Nat}(hn:n<=8)(hx:x.rows.length<=8):Ri (d4 x n) where
 nm:=by show gq ⟨#[114]⟩=true;decide
 na:=by rw[YJ hn];omega
 nr:=by show(lm x n).length<=1000;rw[NH];omega
 nms:=b5f n Za
 rs:=by
  rw[YJ hn];refine ov (λw hw=>?_) ?_
  .obtain ⟨i,hi,e⟩:=Ad.1 hw
   subst e;refine⟨?_,lQ, ?_⟩
   .show (0:Int)<1+(i:Int)*(1+(x.gap.toNat:Int)%3)
    have:(0:Int)<=(i:Int)*(1+(x.gap.toNat:Int)%3):=Int.mul_nonneg Za Za;omega
   rw[Ze];intro v hv;obtain⟨k,_,e⟩:=Ad.1 hv;rw[<- e];exact(OQ _).1
  show mz (lm x n);unfold lm;refine Av.2 ((List.pairwise_lt_range (n:=x.rows.length)).imp λ{i j} hij=>?_);show 1+(i:Int)*(1+(x.gap.toNat:Int)%3)<1+(j:Int)*(1+(x.gap.toNat:Int)%3);have:(i:Int)*(1+(x.gap.toNat:Int)%3)<(j:Int)*(1+(x.gap.toNat:Int)%3):=Int.mul_lt_mul_of_pos_right Za Za;omega
def b3n {x:jm} {n:Nat}:∀r∈(d4 x n).rows,∀v∈r.vals,pe v:=λr hr v hv=>by
 obtain⟨i,hi,rfl⟩:=Ad.1 hr;obtain⟨k,_,rfl⟩:=Ad.1 hv;exact OQ _
def H1(n:Int)(d:Fd):Fd:=⟨d.lhs&&&ak n,d.rhs&&&ak n⟩
def btq(q:Fd->Bool)(n:Int)(l:List Fd)(i:Nat):List Fd:=((l.take i).map (H1 n)).filter q
section
variable {q:Fd->Bool}{n:Int}{l:List Fd}{i:Nat}
end
def bub(s:AS)(l:List AS)(i:Nat):List AS:=(l.take i).map (·&&&s)++l.drop i
section
variable {s:AS}{l:List AS}{i:Nat}
end
def b74{n:Int}{ps:List AS}{k:Nat}(h:ps.length<=k)(hk:1<=k):(eu n ps).length<=k/\0<(eu n ps).length:=by
 by_cases h0:ps.length=0
 .rw [fR h0]
  exact⟨hk,Nat.succ_pos _⟩
 rw[yQ h0,Ni];omega
end
section
abbrev jM:ByteArray:=⟨#[97,95,110,97,109,101,95,111,102,95,50,51,95,98,121,116,101,115,95,49,50,51,52,53]⟩
def SF(b:Bool)(s:ByteArray):ByteArray:=if b=true then jM else s
def we(b:Bool)(t:ac):ac:={ t with name:=SF b t.name }
def F7:gq jM=true:=by decide
section
variable {t:ac}
def H7 {b:Bool} (h:TE t):TE (we b t) :=
 ⟨⟨by
  show gq (SF b t.name)=true;unfold SF;split
  .exact F7
  exact h.ok.nm,h.ok.na,h.ok.nr,h.ok.nms,h.ok.rs⟩,h.en⟩
def bd2{x:jm}{n:Nat}(hn:n<=8)(hx:x.rows.length<=8):TE (d4 x n):=⟨bc0 hn hx,b3n⟩
def b0q {x:jm} {n:Nat} (hx:x.rows.length<=8):(d4 x n).rows.length<=8:=by
 show(lm x n).length<=8;rw[NH];exact hx
def dN(d:Bg)(n:Nat):Bg:={ d with n:=BitVec.ofNat 8 (max 1 n-1) }
def yM {m n:Nat} (hm:m=n) (h:n<=5):(if(1:Int)<(m:Int) then(m:Int)else 1)-1=(((BitVec.ofNat 8 (max 1 n-1)).toNat:Nat):Int):=by
 subst hm;obtain rfl|rfl|rfl|rfl|rfl|rfl:m=0\/m=1\/m=2\/m=3\/m=4\/m=5:=by omega
 all_goals decide
def A3 {d:Bg} (h:Zr d=true):∀j,j<(d.ms 4).length->sub (((d.ms 4).getD j default).lhs|||((d.ms 4).getD j default).rhs) (ak (d.num 4)):=λj hj=>by
 obtain⟨h1,h2,h3⟩:=XN h;obtain⟨h4,h5⟩:=GM d;obtain⟨_,_,_,_,_,hmu⟩:=l8 (bbb d (k:=4) Za h1 Za);have hq:=Ze.1 hmu ((d.ms 4).getD j default) (by rw[cq _ _ hj];exact De hj);obtain⟨h6,h7⟩:=(pw Za Za).1 hq;refine ci.2 λi hi hh=>?_;rw[Rl,Kj]at hh
 rcases hh with hh|hh
 .exact ci.1 h6 i hi hh
 exact ci.1 h7 i hi hh
variable {ps:List AS}
def beu(hT:TE t)(h3:ps.length<=3):∀j,j<(Ng t ps).length->((Ng t ps).getD j default).ok:=λj hj=>by
 by_cases h:Oj t ps=0
 .have hl:=(Bu h).1
  have hj2:j<ps.length:=by
   rw[hl,Yd,Jm]at hj;exact hj
  rw[XA h hj2];exact(zH hT h Za).ok.ok
 rw[MA h]at hj;cases hj
def J9(h:Oj t ps=0):(Ng t ps).length=ps.length:=by rw[(Bu h).1,Yd,Jm]
def dI (h:Oj t ps=0) {i:Nat} (hi:i+1<ps.length):(Ng t ps).getD (1+i) default=Vg t ps (i+1):=by
 rw[Nat.add_comm];exact XA h hi
def ZI(h:Oj t ps=0){i:Nat}(hi:i+1<ps.length):jF (Ng t ps) (i+1)=Xp (jF (Ng t ps) i) (Vg t ps (i+1)):=Da (Xp _) (XA h hi)
end
end
section
open Go.Proofs
def T8(n:Int)(ps:List AS)(p m:List Fd):a6 Ab 95 [pI n,pP (Cd ps),pP (Ub p),pP (Ub m)] (a7 [pP (Am (Sj n ps p m)),pI (Ci n ps p m)]):=by
 refine Nb (nt:=55) func95 ?_;refine dg ?_;refine Fb (Ib func147) (KQ n ps p m) ?_;refine Eb ?_;refine m9 0 ?_;refine m9 1 ?_;refine dg ?_;refine Sc ?_ ?_<;>intro h0
 ·
  have hne:¬Zd n ps p m=0:=by rw[<- qw];exact h0
  have hr:=G8 hne;refine Eh ?_;exact by rw[hr.1,hr.2,<- qw];exact⟨Ob.one Wk,Sa,Aa⟩
 have hls:Zd n ps p m=0:=by
  rw[<- qw];exact h0
 obtain⟨hv,hb⟩:=yg hls;have hc:(Ce n ps p m).2.2=0:=(Uw hv hb).symm.trans hls;have htr:=MP hv hb hc;have hR:=dH hv hb;obtain⟨hn0,hn8,_,_,_⟩:=jl hv;have hn16:n<=16:=by omega
 have hfew:(Pj n ps p m).length<=1300000:=fJ (p:=p) (m:=m) hv hb;refine Mb ?_;refine aa (ι:=Nat) (ka 0 (ka 2 (ka 3 (ka 10 kn)))) km (λi=>⟨[(14,some (vI i)),(11,some (.v (.one (.p (Am (Pj n ps p m))))))],[(0,some (.box [.p (.raw (.int .i64 n)), .p (rl (Rk n ps p m i))]))]⟩) (λi=>i<=(Pj n ps p m).length/\∀j,j<i->kz n (Rk n ps p m j)=false) (λi=>(Pj n ps p m).length-i) (0) (⟨Zb _,λj hj=>Ea hj (Ud j)⟩) ⟨⟨zy,⟨_,rfl,(by rw[hR];exact Ua)⟩,Aa⟩,⟨⟨_,rfl,(by rw[hR];unfold Rk;rw[VR];exact Ic.refl _)⟩,Aa⟩⟩ ?_;rintro i ⟨hi,hI⟩;refine Jb ?_;refine Fb (Ib func149) (PQ n hn0 hn16) ?_;refine Fb nJ (VG n (Rk n ps p m i) (dp n)) ?_;refine Cb ?_;refine We ?_ ?_<;>intro h1
 .have hr:=NJ hls (i:=i) hi hI h1;refine MF ?_;exact by rw[hr.1,hr.2];exact⟨Ob.one (iS (by rw[Ae];dsimp only [ep,bh];omega) (λa j=>by first|rfl|(simp;rfl))),Sa,Aa⟩
 refine Cc ?_;refine Kb ?_ ?_<;>intro h2
 ·
  obtain rfl:i=(Pj n ps p m).length:=by omega
  have hr:=bah hls λj hj=>by
   by_cases e:j=(Pj n ps p m).length
   .rw[e];assumption
   exact hI j Za
  refine Dd ?_;exact by rw[hr.1,hr.2];exact⟨Ob.one Wk,Sa,Aa⟩
 have hil:i<(Pj n ps p m).length:=by omega
 obtain⟨hx1,hx2,hx3⟩:=zN hil (CG htr (i:=i) hi);refine ce ?_;refine Fb (Ib func150) (ayc n (Rk n ps p m i) p m ((Pj n ps p m).getD i default) hx1 hb hx2 hx3) ?_;refine Sq ?_;refine Rb (i+1) ⟨tt,⟨⟨_,rfl,(by unfold Rk;rw[QE hil];exact Ic.refl _)⟩,Aa⟩⟩ ?_;refine⟨by omega,λj hj=>?_⟩;by_cases e:j=i
 .rw[e];assumption
 exact hI j Za
end
section
def Hr(l:List Fd)(z:Int):Option PV:=match l.find? (λf=>decide (Hb f.lhs=z)) with|some f=>some (Ag (Ej l f.lhs))|none=>none
def Xt (l:List Fd):MK->Option PV
 | .i .u32 z=>Hr l z
 |_=>none
def LF (s:AS):(Lit.int .u32 (Hb s)).wf=true:=by
 have h1:=WD s;have h2:=OA s;have e1:IntKind.min .u32=0:=by decide
 have e2:IntKind.max .u32=4294967295:=by decide
 simp only[Lit.wf,e1,e2,Od,Ja];omega
section
variable {l:List Fd}
def b5y {s:AS} (h:∀f∈l,¬f.lhs=s):Ej l s=0:=by
 unfold Ej;rw[pC.2 λf hf=>by simpa using h f hf];rfl
def QV {s:AS} {f:Fd} (h:l.find? (λf=>decide (Hb f.lhs=Hb s))=some f):f.lhs=s:=by
 have:=Xu h;exact dm.1 (Ga this)
def ZV(l:List Fd)(s:AS):Ot (Xt l) (.i .u32 (Hb s)) (.int .u32 0)=Ag (Ej l s):=by
 show(match Hr l (Hb s) with|some y=>y|none=>io (.int .u32 0))=_;unfold Hr
 cases h:l.find? (λf=>decide (Hb f.lhs=Hb s)) with
 | some f =>
  have:=QV h;subst this;rfl
 | none =>
  rw [b5y λf hf e=>by
   have:=Oo.1 h f hf;rw[e]at this
   exact this (Fa rfl)]
  rfl
def ayb (m:MK):Zl none (Xt [] m):=by
 cases m with
 |i q z=>cases q<;>exact Zl.refl _
 |s b=>exact Zl.refl _
def ay4{i:Nat}(hi:i<l.length)(z:Int):(if z=Hb (l.getD i default).lhs then some (PV.raw (.int .u32 (bq .or .u32 (Hb (Ej (l.take i) (l.getD i default).lhs)) (Hb (l.getD i default).rhs))))else Hr (l.take i) z)=Hr (l.take (i+1)) z:=by
 unfold Hr;by_cases hz:z=Hb (l.getD i default).lhs
 .subst hz
  rw[Ba rfl,lZ hi rfl]
  cases h:(l.take (i+1)).find? (λf=>decide (Hb f.lhs=Hb (l.getD i default).lhs)) with
  | some f =>
   have:=QV h;rw[<- this]
  | none =>
   have:=Oo.1 h (l.getD i default) (by rw[au hi];simp);exact Ea (Fa rfl) this
 rw[Ca hz,au hi,List.find?_append]
 have hx:[l.getD i default].find? (λf=>decide (Hb f.lhs=z))=none:=by
  rw[List.find?_cons,Ha (λe=>hz e.symm)];rfl
 rw[hx,Option.or_none]
 cases h:(l.take i).find? (λf=>decide (Hb f.lhs=z)) with
 |none=>rfl
 | some f =>
  have hf0:=Xu h;have hf:Hb f.lhs=z:=Ga hf0;dsimp only;rw[<- au hi,W2 hi (λe=>hz (by rw[e];exact hf.symm))]
def b1h{i:Nat}(hi:i<l.length)(m:MK):Zl (qq (Xt (l.take i)) (.i .u32 (Hb (l.getD i default).lhs)) (.raw (.int .u32 (bq .or .u32 (Hb (Ej (l.take i) (l.getD i default).lhs)) (Hb (l.getD i default).rhs)))) m) (Xt (l.take (i+1)) m):=by
 refine Zl.of_eq ?_;unfold qq
 cases m with
 |s b=>rfl
 | i q z =>
  by_cases hq:q=.u32
  .subst hq
   show(bif (decide True&&decide (z=_))then _ else Hr _ z)=Hr _ z;rw[<- ay4 hi z];by_cases hz:z=Hb (l.getD i default).lhs
   .rw[Ba hz,Fa hz];rfl
   rw[Ca hz,Ha hz];rfl
  have h1:MK.same (.i q z) (.i .u32 (Hb (l.getD i default).lhs))=false:=by
   show(decide _&&decide _)=false;rw[Ha hq,Bool.false_and]
  rw[h1];cases q<;>first|rfl|exact Ea rfl hq
end
end
section
open Go.Proofs
def aQ (l:List Fd) (hl:l.length<=16777216):a6 Ab 139 [pP (Ub l)] (a7 [pP (Ub (Aw l))]):=by
 refine Nb (nt:=47) func139 ?_;refine Mb ?_;refine m9 0 ?_;refine rp ?_;refine d9 4 900 true 1 48 (lf sC []) Zc rfl Ya (.inr rfl) rfl ?_;refine bz (ka 3 (ka 11 (ka 12 kn))) km (λi=>⟨[(4,some (.v (.one (.ref 900 ((l.take i).map Fd.lhs).length)))),(13,some (vI i))],[(0,some (.mp (.int .u32) i (Xt (l.take i)))),(900,some (.arr true 1 48 ((l.take i).map Fd.lhs).length (lf sC ((l.take i).map Fd.lhs))))]⟩) l.length ⟨tt,⟨⟨_,rfl,⟨rfl,Yb _,ayb⟩⟩,uu⟩⟩ ?_;rintro i hi;have hlen:((l.take i).map Fd.lhs).length<=i:=by rw[Yd,Ae];omega
 refine Eb ?_;refine Kb ?_ ?_<;>intro h0
 .refine Jb ?_;refine m9 1 ?_;refine Jb ?_;refine rq (out:=⟨_, .v (.one (.p (Ag (Ej (l.take i) (l.getD i default).lhs))))⟩) rfl rfl rfl (Da (λz=>some (Ge.mk _ (HR.v (HC.one (HV.p z))))) (ZV _ _)) rfl ?_ (hp:=⟨rfl,rfl,LF _⟩);refine Tb ?_;refine rs rfl rfl rfl rfl rfl ?_ (hp:=⟨rfl,⟨rfl,LF _⟩,by simp only[maxLen];omega⟩);refine Eb ?_;refine m9 2 ?_;refine Ed 3 true ?_;refine Mb ?_;exact Ld (i+1) ⟨⟨⟨_,rfl,(d6 (vj Za))⟩,tt⟩,⟨⟨_,rfl,⟨rfl,Yb _,b1h Za⟩⟩,⟨_,rfl,(cr (vj Za) Ra)⟩,Aa⟩⟩
 obtain rfl:i=l.length:=by omega
 rw[show(l.take l.length).map Fd.lhs=l.map Fd.lhs by rw[Id],show Xt (l.take l.length)=Xt l by rw[Id]];refine Jb ?_;refine b5 4 rfl rfl rfl ?_;have hol:=ui (l.map Fd.lhs);rw[Yd]at hol;refine Cb ?_;refine Fb Ty (WA (l.map Fd.lhs) (by rw[Yd];omega)) ?_;refine Mc ?_;refine d9 7 901 true 2 52 (lf Fd.c []) Zc rfl Ya (.inr rfl) rfl ?_;refine bz (ka 3 (ka 31 (ka 32 kn))) (kb 0 km) (λk=>⟨[(7,some (.v (.one (.ref 901 (((ord (l.map Fd.lhs)).take k).map (Zy l)).length)))),(33,some (vI k))],[(901,some (.arr true 2 52 (((ord (l.map Fd.lhs)).take k).map (Zy l)).length (lf Fd.c (((ord (l.map Fd.lhs)).take k).map (Zy l)))))]⟩) ((ord (l.map Fd.lhs)).length) kk ?_;rintro k hk;have hlen2:(((ord (l.map Fd.lhs)).take k).map (Zy l)).length<=k:=by rw[Yd,Ae];omega
 refine Eb ?_;refine Kb ?_ ?_<;>intro h1
 .refine rp ?_;refine rq (out:=⟨_, .v (.one (.p (Ag (Ej l ((ord (l.map Fd.lhs)).getD k default)))))⟩) rfl rfl rfl (Da (λz=>some (Ge.mk _ (HR.v (HC.one (HV.p z))))) (ZV _ _)) rfl ?_ (hp:=⟨rfl,rfl,LF _⟩);refine qy ?_;refine m9 4 ?_;refine Ed 5 true ?_;refine Mb ?_;exact Ld (k+1) ⟨⟨⟨_,rfl,(d6 (vj Za))⟩,tt⟩,⟨⟨_,rfl,(j7 (vj Za) Ra Ra)⟩,uu⟩⟩
 obtain rfl:k=(ord (l.map Fd.lhs)).length:=by omega
 refine Mb ?_;refine b5 2 rfl rfl rfl ?_;exact Nc rfl rfl rfl (⟨Ob.one (Va (by rw[Id];rfl)),Aa⟩)
def bag (n:Int) (l m:List Fd) (p:AS):a6 Ab 195 [.agg [.raw (.int .i64 n),Ub l,Ub m],pA p] (a7 [pB (An n l p)]):=by
 refine Nb (nt:=21) func195 ?_;refine Rc ?_;refine m9 0 ?_;refine Cc ?_;refine Fb (Ib func228) (bco n l p) ?_;refine ce ?_;refine af rfl rfl ?_ ?_<;>intro r0
 ·
  have h0:=r0;(iterate 2 refine qy ?_ (hg:=(Lc r0)));refine Tb ?_
  exact Nc rfl rfl rfl (⟨Vb (by unfold An;first|rfl|simp_all),Aa⟩)
 have h0:=r0;(iterate 2 refine k9 (Vd r0) ?_);refine Tb ?_
 exact Nc rfl rfl rfl (⟨Vb (by unfold An;first|rfl|simp_all),Aa⟩)
def ba8 (n:Int) (l m:List Fd) (p:AS):a6 Ab 196 [.agg [.raw (.int .i64 n),Ub l,Ub m],pA p] (a7 [pB (Fo l p)]):=by
 refine Nb (nt:=22) func196 ?_;refine Rc ?_;refine m9 0 ?_;refine Jb ?_;refine Fb (Ib func229) (AZ l p) ?_;refine Mc ?_;refine m9 1 ?_;refine Cc ?_;refine af rfl rfl ?_ ?_<;>intro r0
 ·
  have h0:=ct r0;(iterate 2 refine qy ?_ (hg:=(Lc r0)));refine Tb ?_
  exact Nc rfl rfl rfl (⟨Vb (by unfold Fo;first|rfl|simp_all),Aa⟩)
 have h0:=cu r0;(iterate 2 refine k9 (Vd r0) ?_);refine Tb ?_
 exact Nc rfl rfl rfl (⟨Vb (by unfold Fo;first|rfl|simp_all),Aa⟩)
def b4h (n:Int) (l m:List Fd) (p:AS):a6 Ab 197 [.agg [.raw (.int .i64 n),Ub l,Ub m],pA p] (a7 [pB (Aq n l m p)]):=by
 refine Nb (nt:=26) func197 ?_;refine Rc ?_;refine m9 0 ?_;refine dg ?_;refine Fb (Ib func93) (R1 n l m p) ?_;refine Mc ?_;refine m9 1 ?_;refine Cc ?_;refine af rfl rfl ?_ ?_<;>intro r0
 ·
  have h0:=ct r0;(iterate 2 refine qy ?_ (hg:=(Lc r0)));refine Tb ?_
  exact Nc rfl rfl rfl (⟨Vb (by unfold Aq;first|rfl|simp_all),Aa⟩)
 have h0:=cu r0;(iterate 2 refine k9 (Vd r0) ?_);refine Tb ?_
 exact Nc rfl rfl rfl (⟨Vb (by unfold Aq;first|rfl|simp_all),Aa⟩)
def baa (p:AS) (g k:Nat) (fr:Nat->PV) (V:AS->Bool) (hg:goodFn Ab g) (hV:∀p,a6 Ab g [.agg (Wy fr k 0),pA p] (a7 [pB (V p)])):a6 Ab 227 [pA p,pP (bx (.bnd g k fr))] (a7 [pB (!V p)]):=by
 refine Nb (nt:=8) func227 ?_;refine Wb ?_;refine rc rfl rfl rfl rfl rfl rfl hg (hV p) Ta rfl rfl ?_;refine Ef ?_;exact Ta
def bes{ps:List AS}{V:AS->Bool}:(!ps.any λp=>!V p)=ps.all V:=by rw[<- List.not_all_eq_any_not,Bool.not_not]
def kI:goodFn Ab 194:=Ib func194
def qH (ps:List AS) (g k:Nat) (fr:Nat->PV) (V:AS->Bool) (hg:goodFn Ab g) (hV:∀p,a6 Ab g [.agg (Wy fr k 0),pA p] (a7 [pB (V p)])):a6 Ab 194 [pP (Cd ps),pP (.bnd g k fr)] (a7 [pB (ps.all V)]):=by
 refine Nb (nt:=9) func194 ?_;refine Rc ?_;refine m9 0 ?_;refine Tb ?_;refine eg 3 rfl rfl rfl ?_;refine Tb ?_;refine Fb (Ib func162) (PN ps 227 1 (λi=>[bx (.bnd g k fr)].getD i .any) (λp=>!V p) (Ib func227) (λp=>baa p g k fr V hg hV)) ?_;refine Ef ?_;exact⟨Vb bes,Aa⟩
def X0 (n:Int) (l m:List Fd) (ps:List AS) (hl:l.length<=16777216):a6 Ab 146 [.agg [.raw (.int .i64 n),Ub l,Ub m],pP (Cd ps)] (a7 [pI (Pt n l m ps)]):=by
 refine Nb (nt:=31) func146 ?_;refine Rc ?_;refine m9 0 ?_;refine Mb ?_;refine m7 (ka 1 (ka 2 kn)) (kb 0 km) ⟨[(5,some (vI (ub (tz l ps) false false false)))],[]⟩ ?_ ?_
 ·
  refine Eb ?_;refine Fb (Ib func108) (mN l ps hl) ?_;refine cn ?_;refine We ?_ ?_<;>intro h0
  .have hA:=h0;refine Eb ?_;exact⟨⟨⟨_,rfl,(Hd (by first|exact tP hA|(rw[hA];done)|(rw[hA];rfl)))⟩,tt⟩,uu⟩
  have hA:=h0;refine dj ?_;exact⟨⟨⟨_,rfl,(Hd (by first|exact tP hA|(rw[hA];done)|(rw[hA];rfl)))⟩,tt⟩,uu⟩
 refine m7 (ka 1 (ka 2 kn)) (kb 0 km) ⟨[(5,some (vI (ub (tz l ps) (ps.all (An n l)) false false)))],[]⟩ ?_ ?_
 ·
  refine Eb ?_;refine Fb kI (qH ps 195 3 (λi=>([PV.raw (.int .i64 n),Ub l,Ub m]:List PV).getD i .any) (An n l) (Ib func195) (λp=>bag n l m p)) ?_;refine cn ?_;refine We ?_ ?_<;>intro h1
  .have hB:=h1;refine Eb ?_;exact⟨⟨⟨_,rfl,(Hd (by first|exact yP hB|(rw[hB];done)|(rw[hB];rfl)))⟩,tt⟩,uu⟩
  have hB:=h1;refine dj ?_;exact⟨⟨⟨_,rfl,(Hd (by first|exact yP hB|(rw[hB];done)|(rw[hB];rfl)))⟩,tt⟩,uu⟩
 refine m7 (ka 1 (ka 2 kn)) (kb 0 km) ⟨[(5,some (vI (ub (tz l ps) (ps.all (An n l)) (ps.all (Fo l)) false)))],[]⟩ ?_ ?_
 ·
  refine Eb ?_;refine Fb kI (qH ps 196 3 (λi=>([PV.raw (.int .i64 n),Ub l,Ub m]:List PV).getD i .any) (Fo l) (Ib func196) (λp=>ba8 n l m p)) ?_;refine cn ?_;refine We ?_ ?_<;>intro h2
  .have hC:=h2;refine Eb ?_;exact⟨⟨⟨_,rfl,(Hd (by first|exact GP hC|(rw[hC];done)|(rw[hC];rfl)))⟩,tt⟩,uu⟩
  have hC:=h2;refine dj ?_;exact⟨⟨⟨_,rfl,(Hd (by first|exact GP hC|(rw[hC];done)|(rw[hC];rfl)))⟩,tt⟩,uu⟩
 refine m7 kn km ⟨[(5,some (vI (ub (tz l ps) (ps.all (An n l)) (ps.all (Fo l)) (ps.all (Aq n l m)))))],[]⟩ ?_ ?_
 ·
  refine Eb ?_;refine Fb kI (qH ps 197 3 (λi=>([PV.raw (.int .i64 n),Ub l,Ub m]:List PV).getD i .any) (Aq n l m) (Ib func197) (λp=>b4h n l m p)) ?_;refine cn ?_;refine We ?_ ?_<;>intro h3
  .have hD:=h3;refine Eb ?_;exact⟨⟨⟨_,rfl,(Hd (by first|exact VP hD|(rw[hD];done)|(rw[hD];rfl)))⟩,Aa⟩,Aa⟩
  have hD:=h3;refine dj ?_;exact⟨⟨⟨_,rfl,(Hd (by first|exact VP hD|(rw[hD];done)|(rw[hD];rfl)))⟩,Aa⟩,Aa⟩
 refine Dd ?_;exact Ta
def bc4 (n:Int) (l m:List Fd) (ps:List AS):a6 Ab 94 [pI n,pP (Ub l),pP (Ub m),pP (Cd ps)] (a7 [pI (yp n l m ps),pI (Zd n ps l m)]):=by
 refine Nb (nt:=34) func94 ?_;refine dg ?_;refine Fb (Ib func145) (KY n ps l m) ?_;refine fy ?_;refine Sc ?_ ?_<;>intro h0
 .have hr:=XZ (l:=l) (m:=m) (ps:=ps) (n:=n) h0;refine Eh ?_;exact⟨Sb hr.symm,Sa,Aa⟩
 have hls:Zd n ps l m=0:=by assumption
 have hl:l.length<=16777216:=by have:=(l8 (yg hls).2).2.2.1;omega
 refine Wb ?_;refine Fb (Ib func146) (X0 n l m ps hl) ?_;refine Cb ?_;refine m7 kn km ⟨[(12,some (vI (yp n l m ps)))],[]⟩ ?_ ?_
 ·
  refine Mc ?_;refine We ?_ ?_<;>intro h1
  .have hr:=RZ hls h1;refine Eb ?_;exact⟨⟨⟨_,rfl,(Hd hr.symm)⟩,Aa⟩,Aa⟩
  have hr:=V0 hls h1;refine dj ?_;exact⟨⟨⟨_,rfl,(Hd hr.symm)⟩,Aa⟩,Aa⟩
 refine Eh ?_;exact⟨Sa,Sb hls.symm,Aa⟩
def ZN(n:Int)(l m:List Fd)(ps:List AS):a6 Ab 53 [pI n,pP (Ub l),pP (Ub m),pP (Cd ps)] (a7 [Do (Zp n l m ps),pI (Zd n ps l m)]):=by
 refine Nb (nt:=45) func53 ?_;refine Rc ?_;refine m9 0 ?_;refine Wb ?_;refine Fb (Ib func94) (bc4 n l m ps) ?_;refine fy ?_;refine Sc ?_ ?_<;>intro h0
 .have hr:=UX (l:=l) (m:=m) (ps:=ps) (n:=n) h0;refine Up ?_;exact by rw[hr];exact⟨Ob.agg ⟨Wk,Ra,Wk,Aa⟩,Sa,Aa⟩
 have hls:Zd n ps l m=0:=by assumption
 have hodd:=bca hls;refine Mb ?_;refine m9 1 ?_;refine Cc ?_;refine Sc ?_ ?_<;>intro h1
 ·
  have hb:Te n ps l m=true:=by
   cases hq:Te n ps l m with
   |true=>rfl
   |false=>rw[hq]at hodd;exact Ea (NC hodd) h1
  have hp0:=VZ hls hb;have hr:=BZ hls hb;refine Mb ?_;refine Fb (Ib func95) (T8 n ps l m) ?_;refine fy ?_;refine Sc ?_ ?_<;>intro h2
  .exfalso;exact h2 hp0
  refine Up ?_;exact by rw[hr,hls];first|exact Ta|exact⟨Ob.agg ⟨Ra,Ra,Wk,Aa⟩,Sa,Aa⟩
 have hb:Te n ps l m=false:=by
  cases hq:Te n ps l m with
  |false=>rfl
  |true=>rw[hq]at hodd;have hx:=dG hodd;simp_all
 have hr:=HY hls hb;refine Up ?_;exact by rw[hr,hls];first|exact Ta|exact⟨Ob.agg ⟨Ra,Ra,Wk,Aa⟩,Sa,Aa⟩
def qN (n:Int) (l m:List Fd):a6 Ab 49 [pI n,pP (Ub l),pP (Ub m)] (a7 [pI (yy n l m)]):=by
 refine Nb (nt:=17) func49 ?_;refine ce ?_;refine af rfl rfl ?_ ?_<;>intro r0
 ·
  have h0:=Bc r0;have hk:=zO (l:=l) (m:=m) (n:=n) (.inl h0);(iterate 2 refine k9 (Yc r0) ?_);refine Jb ?_
  exact Nc rfl rfl rfl (⟨Sb hk.symm,Aa⟩)
 have h0:=Ac r0;(iterate 2 refine qy ?_ (hg:=(Jc r0)));refine Cb ?_;refine aj _ rfl ?_ ?_<;>intro r1
 .have h1:=Bc (ai r0 r1);have hk:=zO (l:=l) (m:=m) (n:=n) (.inr h1);refine Kc ?_;exact⟨Sb hk.symm,Aa⟩
 have h1:=Ac (ai r0 r1);have hk:yy n l m=c8 n l m:=M1 Za;refine Mb ?_;refine Fb Ux (zt n l m) ?_;refine Tf ?_;exact⟨Sb hk.symm,Aa⟩
def BY(b:Bs)(g k:Nat)(caps:Nat->PV)(V:UInt8->Bool)(hg:goodFn Ab g)(hV:∀x,a6 Ab g (RF x::gu caps k 0) (a7 [pB (V x)])):a6 Ab 205 [pP (jN b),pP (.fn g k caps)] (a7 [pI (Ee V b.data.toList)]):=by
 refine Nb (nt:=19) func205 ?_;refine cw ?_;refine cj 0 rfl λhn=>?_;refine Tb ?_;refine c6 (ι:=Unit) kn km (λ_i=>⟨[],[]⟩) (λ_i=>Ee V b.data.toList=-1) ?_ ?_
 ·
  refine Jb ?_;refine aa (ι:=Nat) (ka 0 (ka 1 (ka 7 kn))) km (λi=>⟨[(8,some (vI i))],[]⟩) (λi=>i<=b.data.toList.length/\(∀j,j<i->V (b.data.toList.getD j default)=false)) (λi=>b.data.toList.length-i) (0) (⟨Zb _,aw⟩) kk ?_;rintro i ⟨hi,hI⟩;refine Eb ?_;refine Kb ?_ ?_<;>intro h0
  ·
   refine jz ?_;refine rc rfl rfl rfl rfl rfl rfl hg (hV (b.data.toList.getD i default)) Ta rfl rfl ?_;refine cn ?_;refine We ?_ ?_<;>intro h1
   .refine Dd ?_;exact⟨Sb (oi (i:=i) Za hI h1).symm,Aa⟩
   refine Eb ?_;refine Rb (i+1) kk ?_;exact⟨by show i+1<=_;omega,al hI (h1)⟩
  refine cg ?_;refine⟨(), ?_, ?_⟩
  .exact p8 λj hj=>hI j Za
  exact⟨Aa,Aa⟩
 rintro _ hj;refine Kc ?_;exact⟨Sb hj.symm,Aa⟩
def VX (b:Bs) (g k:Nat) (caps:Nat->PV) (V:UInt8->Bool) (hg:goodFn Ab g) (hV:∀x,a6 Ab g (RF x::gu caps k 0) (a7 [pB (V x)])):a6 Ab 151 [pP (jN b),pP (.fn g k caps)] (a7 [pB (b.data.toList.any V)]):=by
 refine Nb (nt:=9) func151 ?_;refine Wb ?_;refine Fb (Ib func205) (BY b g k caps V hg hV) ?_;refine Ef ?_;exact⟨Vb w4,Aa⟩
def bcn:goodFn Ab 40:=⟨Tryz.f40,func40,by kernel_rfl,by kernel_rfl⟩
def cY(l:List Bs)(s:Bs):a6 Ab 40 [pP (Uo l),pS s] (a7 [pI (Ee (λx=>decide (x=s)) l)]):=by
 refine Nb (nt:=19) func40 ?_;refine cw ?_;refine cj 0 rfl λhn=>?_;refine Tb ?_;refine c6 (ι:=Unit) kn km (λ_i=>⟨[],[]⟩) (λ_i=>Ee (λx=>decide (x=s)) l=-1) ?_ ?_
 ·
  refine Jb ?_;refine aa (ι:=Nat) (ka 0 (ka 1 (ka 7 kn))) km (λi=>⟨[(8,some (vI i))],[]⟩) (λi=>i<=l.length/\(∀j,j<i->decide (l.getD j default=s)=false)) (λi=>l.length-i) (0) (⟨Zb _,aw⟩) kk ?_;rintro i ⟨hi,hI⟩;refine Eb ?_;refine Kb ?_ ?_<;>intro h0
  ·
   refine qh ?_;refine Kb ?_ ?_<;>intro h1
   .refine Dd ?_;exact⟨Sb (oi (p:=λx=>decide (x=s)) (i:=i) Za hI (Fa h1.symm)).symm,Aa⟩
   refine Eb ?_;refine Rb (i+1) kk ?_;exact⟨by show i+1<=_;omega,al hI (Ha λe=>h1 e.symm)⟩
  refine cg ?_;refine⟨(), ?_, ?_⟩
  .exact p8 (p:=λx=>decide (x=s)) λj hj=>hI j Za
  exact⟨Aa,Aa⟩
 rintro _ hj;refine Kc ?_;exact⟨Sb hj.symm,Aa⟩
def U9:goodFn Ab 46:=⟨Tryz.f46,func46,by kernel_rfl,by kernel_rfl⟩
def dY (l:List Bs) (s:Bs):a6 Ab 46 [pP (Uo l),pS s] (a7 [pB (l.any λx=>decide (x=s))]):=by
 refine Nb (nt:=9) func46 ?_;refine Wb ?_;refine rc rfl rfl rfl rfl rfl rfl bcn (cY _ _) Ta rfl rfl ?_;refine Ef ?_;exact⟨Vb w4,Aa⟩
def D2 (x:UInt8):a6 Ab 152 [RF x] (a7 [pB (kA x)]):=by
 refine Nb (nt:=9) func152 ?_;refine Cc ?_;refine af rfl rfl ?_ ?_<;>intro r0
 ·
  have h0:=Bc r0;(iterate 2 refine k9 (Yc r0) ?_);refine Tb ?_
  exact Nc rfl rfl rfl (⟨Vb (by unfold kA;first|rfl|simp_all),Aa⟩)
 have h0:=Ac r0;(iterate 2 refine qy ?_ (hg:=(Jc r0)));refine Tb ?_
 exact Nc rfl rfl rfl (⟨Vb (by unfold kA;first|rfl|simp_all),Aa⟩)
def cZ(l:List Bs)(hl:∀b∈l,b.size<=maxLen):a6 Ab 96 [pP (Uo l)] (a7 [pI (nj l)]):=by
 refine Nb (nt:=30) func96 ?_;refine Mb ?_;refine cj 0 rfl λhn=>?_;refine Eb ?_;refine Kb ?_ ?_<;>intro h0
 .have he:=oZ h0;refine Kc ?_;exact⟨Sb he.symm,Aa⟩
 refine Cc ?_;refine aa (ι:=Nat) (ka 0 (ka 8 (ka 9 kn))) km (λi=>⟨[(10,some (vI i))],[]⟩) (λi=>i<=l.length/\(∀j,j<i->tc l j=false)) (λi=>l.length-i) (0) (⟨Zb _,aw⟩) kk ?_;rintro i ⟨hi,hI⟩;refine Eb ?_;refine Kb ?_ ?_<;>intro h1
 ·
  have hsz:(l.getD i default).size<=maxLen:=hl _ (by rw[Oc,Hc Za];exact De _);refine qd ?_;refine af rfl rfl ?_ ?_<;>intro r2
  ·
   have h2:=Bc r2;have hb:tc l i=true:=by unfold tc;simp_all
   (iterate 3 refine k9 (Yc r2) ?_);refine Cb ?_;(iterate 5 refine k9 rfl ?_);refine Jb ?_
   exact Nc rfl rfl rfl (⟨Sb (oG h0 Za hb).symm,Aa⟩)
  have h2:=Ac r2;refine qy ?_ (hg:=(Jc r2));refine rv rfl rfl rfl rfl rfl (Jc r2) ?_;refine Fb (Ib func151) (VX (l.getD i default) 152 0 (λ_=>.any) kA (Ib func152) D2) ?_ (hg:=(Jc r2));refine Cb ?_;refine af rfl rfl ?_ ?_<;>intro r3
  ·
   have h3:=ai r2 r3;have hb:tc l i=true:=by unfold tc;simp_all
   (iterate 5 refine k9 (Yc r3) ?_);refine Jb ?_
   exact Nc rfl rfl rfl (⟨Sb (oG h0 Za hb).symm,Aa⟩)
  have h3:=ai r2 r3;(iterate 4 refine qy ?_ (hg:=(Jc r3)));refine rc rfl rfl rfl rfl rfl rfl U9 (dY (l.take i) (l.getD i default)) (⟨Ob.one (vE (k:=i) Za),Sa,Aa⟩) rfl (Jc r3) ?_;refine Cb ?_
  refine aj _ rfl ?_ ?_<;>intro r4
  ·
   have h4:=ai r3 r4;have hb:tc l i=true:=by unfold tc;simp_all
   refine Kc ?_;exact⟨Sb (oG h0 Za hb).symm,Aa⟩
  have h4:=ai r3 r4;have hb:tc l i=false:=by unfold tc;simp_all
  refine Eb ?_;refine Rb (i+1) kk ?_;exact⟨by show i+1<=_;omega,al hI (hb)⟩
 obtain rfl:i=l.length:=by omega
 refine Dd ?_;exact⟨Sb (hY h0 hI).symm,Aa⟩
def FN(l:List Bs)(sep:Bs)(hs1:sep.size=1)(hl:l.length<=1000)(hsz:Cf l<=1000000000):a6 Ab 58 [pP (Uo l),pS sep] (a7 [pS (Wt l sep)]):=by
 refine Nb (nt:=75) func58 ?_;refine Mb ?_;refine cj 0 rfl λhn=>?_;have hA:∀i,(ua l sep i).length<=1000001000:=λi=>by have:=bdq l sep i;rw[hs1]at this;omega
 refine ce ?_;refine Kb ?_ ?_<;>intro h0
 .have hl0:=kY h0;subst hl0;refine Kc ?_;exact Ta
 refine Eb ?_;refine Kb ?_ ?_<;>intro h1
 .refine Up ?_;exact⟨Ob.one (Va (by rw[ays sep Za];rfl)),Aa⟩
 refine fy ?_;refine Kb ?_ ?_<;>intro h2
 ·
  refine Wb ?_;refine rq rfl rfl rfl rfl rfl ?_ (hp:=⟨by decide,by omega,by constructor<;>decide⟩);refine Cb ?_;refine Kb ?_ ?_<;>intro h3
  .exfalso;have:=be1 (n:=(l.length:Int)-1) Za Za;omega
  have hmul:(sep.size:Int)*((l.length:Int)-1)=(l.length:Int)-1:=by rw[hs1];simp
  refine oA ?_;refine bz (ka 0 (ka 1 (ka 39 (ka 40 kn)))) km (λi=>⟨[(5,some (vI ((l.length:Int)-1+Cf (l.take i)))),(41,some (vI i))],[]⟩) l.length ⟨⟨⟨_,rfl,(Hd (by simp[Cf];omega))⟩,tt⟩,Aa⟩ ?_;rintro i hi;refine Eb ?_;refine Kb ?_ ?_<;>intro h4
  ·
   have hil:i<l.length:=by omega
   have hst:=lT hil;have hst2:=DL l (i+1);have hst3:(l.getD (i:Int).toNat default).size=(l.getD i default).size:=rfl;refine Tz ?_;refine Kb ?_ ?_<;>intro h5
   .exfalso;omega
   refine fy ?_;exact Ld (i+1) ⟨⟨⟨_,rfl,(Hd (by rw[hst];omega))⟩,tt⟩,Aa⟩
  obtain rfl:i=l.length:=by omega
  rw[Id]at *;refine Tb ?_;refine m9 0 ?_;refine Mc ?_;refine ke rfl rfl rfl rfl rfl rfl P7 (KZ 0 (l.length-1+Cf l) Za) (⟨Zo.refl _,Va (by congr 2;omega),Aa⟩) uu rfl rfl ?_;refine Mb ?_;refine Ke qp (rh 0 false [] (l.getD 0 default) (by have:=AV (l:=l) (i:=0) Za;show 0+(l.getD 0 default).size<=_;omega)) uu ?_;refine ce ?_;refine aa (ι:=Nat) (ka 1 (ka 8 (ka 63 (ka 64 kn)))) km (λk=>⟨[(65,some (vI k))],[(0,some (bd false (ua l sep k)))]⟩) (λk=>k<=l.length-1) (λk=>l.length-k) (0) (Zb _) ⟨tt,⟨⟨_,rfl,(Ic.of_eq (by rw[Q6]))⟩,Aa⟩⟩ ?_;rintro k hk0;refine Eb ?_;refine Kb ?_ ?_<;>intro h6
  ·
   have hk:1+k<l.length:=by simp only[ep,bh]at *;omega
   refine fy ?_;refine Ke qp (rh 0 false (ua l sep k) sep (by have:=hA k;omega)) uu ?_;refine Tb ?_;refine Ke qp (rh 0 false ((ua l sep k)++bL sep) (l.getD (1+k) default) (by have:=hA k;have:=AV hk;rw[Uc,KD];omega)) uu ?_;refine Eb ?_;exact Ld (k+1) ⟨tt,⟨⟨_,rfl,(Ic.of_eq (by rw[NU hk]))⟩,Aa⟩⟩
  obtain rfl:k=l.length-1:=by simp only[ep,bh]at *;omega
  refine Tb ?_
  have hne:ua l sep (l.length-1)≠[]:=by
   obtain⟨q,hq⟩:∃q,l.length-1=q+1:=⟨l.length-2,by omega⟩;rw[hq,NU Za];intro e;have:=Da List.length e;simp only[Uc,KD,Nn]at this;omega
  refine Ke IH (KG 0 false (ua l sep (l.length-1)) hne) uu ?_;refine Tf ?_;exact⟨Ob.one (Va (by rw[<- b45 sep (by intro e;subst e;simp at *)])),Aa⟩
 exfalso;omega
def PZ:a6 Ab 57 [pA 0] (a7 [pP (il [])]):=by
 have h:=Bw 0;rw[bW]at h;exact h
def XT {ns:List Bs} {q:List Nat} {i:Nat} (h:i<q.length):(q.take (i+1)).map (λk=>ns.getD k default)=(q.take i).map (λk=>ns.getD k default)++[ns.getD (q.getD i default) default]:=by
 rw[List.take_succ,Hc h,Mi,Oc (l:=q),Hc h];rfl
def b9p (ns:List Bs) (hl:∀b∈ns,b.size<=maxLen):a6 Ab 54 [pA 0,pP (Uo ns)] (a7 [pS ⟨#[]⟩,pI (nj ns)]):=by
 refine Nb (nt:=36) func54 ?_;refine Cc ?_;refine Fb (Ib func96) (cZ ns hl) ?_;refine Jb ?_;refine Sc ?_ ?_<;>intro h0
 .refine Eh ?_;exact Ta
 refine Cc ?_;refine Fb Kx (PZ) ?_;refine Mc ?_;refine aa (ι:=Unit) (ka 1 (ka 16 (ka 17 kn))) km (λx=>⟨[(7,some (.v (.one (.p (.sl 0 0 true λ_ _=>.any))))),(18,some (vI 0))],[]⟩) (λx=>True) (λx=>0) (()) (trivial) kk ?_;rintro _ _;refine Eb ?_;refine Kb ?_ ?_<;>intro h1
 .exfalso;exact Ea h1 Ec
 refine Mc ?_;refine rc rfl rfl rfl rfl rfl rfl (Ib func58) (FN [] ⟨#[32]⟩ rfl Zc Zc) (⟨Ob.one Wk,Sa,Aa⟩) rfl rfl ?_;refine Ef ?_;exact⟨Sa,Sb Za,Aa⟩
def zD:goodFn Ab 56:=Ib func56
def nD (s:AS) (ns:List Bs) (hm:∀i∈am s,i<ns.length) (hsz:∀b∈ns,b.size<=1000):a6 Ab 56 [pA s,pP (bx (Uo ns))] (a7 [pS (Si ns s)]):=by
 refine Nb (nt:=27) func56 ?_;refine ce ?_;have h32:=ot s;refine Cb ?_;refine Fb Kx (Bw s) ?_;refine Mc ?_;refine d9 4 900 true 1 9 (lf Vo []) Zc rfl Ya (.inr rfl) rfl ?_;refine bz (ka 1 (ka 8 (ka 9 kn))) km (λi=>⟨[(4,some (.v (.one (.ref 900 (((am s).take i).map λk=>ns.getD k default).length)))),(10,some (vI i))],[(900,some (.arr true 1 9 (((am s).take i).map λk=>ns.getD k default).length (lf Vo (((am s).take i).map λk=>ns.getD k default))))]⟩) ((am s).length) kk ?_;rintro i hi;have hlen:(((am s).take i).map λk=>ns.getD k default).length<=32:=by rw[Yd,Ae];omega
 refine Eb ?_;refine Kb ?_ ?_<;>intro h0
 ·
  have hil:i<(am s).length:=by omega
  have hk:(am s).getD i default<ns.length:=hm _ (dw hil);refine jq ?_;refine rq rfl rfl rfl rfl rfl ?_ (hp:=⟨rfl,Sl _,Is.2 hk⟩);refine qy ?_;refine m9 0 ?_;refine Ed 1 true ?_;refine Mb ?_;exact Ld (i+1) ⟨⟨⟨_,rfl,(d6 (XT hil))⟩,tt⟩,⟨⟨_,rfl,(cr (XT hil) Ra)⟩,Aa⟩⟩
 obtain rfl:i=(am s).length:=by omega
 rw[Id]at hlen ⊢;refine Wb ?_;refine Kb ?_ ?_<;>intro h1
 .refine Kc ?_;exact⟨Ob.one (Va (by rw[show Si ns s=⟨#[45]⟩ from Ba (by unfold wt;omega)];rfl)),Aa⟩
 refine Mc ?_;refine Fb (Ib func58) (FN (wt ns s) ⟨#[44]⟩ rfl (by unfold wt;rw[Yd];omega) (by have:=iT (s:=s) hsz;omega)) ?_;refine Tf ?_;exact⟨Ob.one (Va (by rw[show Si ns s=Wt (wt ns s) ⟨#[44]⟩ from Ca (by unfold wt;omega)])),Aa⟩
def fZ (s p:AS) (l:List Fd):a6 Ab 103 [pA s,pP (bx (Ag p)),pP (bx (Ub l))] (a7 [pB (Yy l p s)]):=by
 refine Nb (nt:=11) func103 ?_;refine Cc ?_;refine Fb uo (xx l s) ?_;refine Dd ?_;exact⟨Vb (by unfold Yy;exact Da (!·) (decide_eq_decide.2 (by rw[k8,show(0:Int)=Hb 0 from rfl,dm]))),Aa⟩
def G1 (a b:AS):a6 Ab 158 [pA a,pA b] (a7 [pB (dA a b)]):=by
 refine Nb (nt:=9) func158 ?_;refine fy ?_;exact Nc rfl rfl rfl (⟨Vb (decide_eq_decide.2 pk),Aa⟩)
def az9 (l:List AS) (hl:l.length<=8589934592):a6 Ab 105 [pP (Cd l)] (a7 [pP (Cd (nA l))]):=by
 refine Nb (nt:=5) func105 ?_;refine Jb ?_;refine Fb (Ib func141) (BN l hl 158 0 _ dA (Ib func158) (λa b=>G1 a b)) ?_;refine Tf ?_;exact Ta
def HX (l:List Fd) (p:AS):a6 Ab 60 [pP (Ub l),pA p] (a7 [pP (Cd (Yg l p))]):=by
 refine Nb (nt:=12) func60 ?_;refine Rc ?_;refine m9 0 ?_;refine m9 1 ?_;refine Tb ?_;refine eg 3 rfl rfl rfl ?_;refine eg 2 rfl rfl rfl ?_;refine Cb ?_;refine Ke DE (OO p) trivial ?_;refine qy ?_;refine Ke gI ((PG (c7 p) 103 2 (λi=>[bx (Ag p),bx (Ub l)].getD i .any) (Yy l p) (Ib func103) (λx=>fZ x p l)).swap 900 901) uu ?_;refine Eb ?_;refine rc rfl rfl rfl rfl rfl rfl (Ib func105) (az9 ((c7 p).filter λs=>!Yy l p s) (Nd (So _ _) (Nd (DF p) Zc))) Ta rfl rfl ?_;refine Tf ?_;exact Ta
def bc3(ns:List Bs)(l m:List Fd)(ps:List AS)(c:Int)(sts:PV)(hsz:∀b∈ns,b.size<=1000):a6 Ab 21 [pP (Uo ns),pP (Ub l),pP (Ub m), .agg [Cd ps, .raw (.int .i64 c),sts]] (a7 [pS (Lv ns l m ps c),pI (vv ns l m ps)]):=by
 refine Nb (nt:=128) func21 ?_;refine Rc ?_;refine m9 0 ?_;refine m9 1 ?_;refine Jb ?_;refine Fb (Ib func54) (b9p ns (λb hb=>Nd (hsz b hb) Zc)) ?_;refine dg ?_;refine Sc ?_ ?_<;>intro h0
 .refine Mb ?_;refine Db ?_;have hr:=U5 (l:=l) (m:=m) (ps:=ps) (c:=c) h0;exact f9 rfl rfl (⟨Ob.one (Va (by rw[hr.2];rfl)),Sb hr.1.symm,Aa⟩)
 refine jq ?_;refine Fb VH (qI ns.length ps) ?_;refine Jb ?_;refine Sc ?_ ?_<;>intro h1
 .refine Mb ?_;refine Db ?_;have hr:=D7 (l:=l) (m:=m) (c:=c) h0 h1;exact f9 rfl rfl (⟨Ob.one (Va (by rw[hr.2];rfl)),Sb hr.1.symm,Aa⟩)
 refine Jb ?_;refine Fb Ux (zt ns.length l m) ?_;refine Jb ?_;refine Sc ?_ ?_<;>intro h2
 .refine Mb ?_;refine Db ?_;have hr:=M6 (c:=c) h0 h1 h2;exact f9 rfl rfl (⟨Ob.one (Va (by rw[hr.2];rfl)),Sb hr.1.symm,Aa⟩)
 refine Cb ?_;refine eg 4 rfl rfl rfl ?_;refine eg 7 rfl rfl rfl ?_;have he:nj ns=0:=h0;have hv:Sd ns.length ps=0:=h1;have hb:c8 ns.length l m=0:=h2;obtain⟨hn0,hn8,h64,_,_⟩:=jl hv;obtain⟨_,_,hl64,hall,_,_⟩:=l8 hb;have hx:=F0 hsz;have hP:∀i,(gr ns l ps i).length<=134400000000:=λi=>axf hsz (λp hp=>oD hv hp) h64
 have hin:∀f∈l,sub f.lhs (ak ns.length)/\sub f.rhs (ak ns.length):=λf hf=>by
  have:=(bf8 hn0 Za).1 (Ze.1 hall f hf);exact⟨mn EB this,mn YE this⟩
 have hmem:∀s,sub s (ak ns.length)->∀i∈am s,i<ns.length:=λs hs i hi=>bal Za hs hi;refine Mb ?_;refine m9 2 ?_;refine ce ?_;refine bz (ka 1 (ka 7 (ka 15 (ka 16 (ka 51 (ka 52 kn)))))) km (λi=>⟨[(53,some (vI i))],[(2,some (bd false (gr ns l ps i)))]⟩) ps.length ⟨tt,⟨⟨_,rfl,⟨λh=>(by cases h),rfl,rfl,rfl⟩⟩,Aa⟩⟩ ?_;rintro i hi;refine Eb ?_;refine Kb ?_ ?_<;>intro h3
 ·
  have hil:i<ps.length:=by omega
  have hmp:(ps.getD i default)∈ps:=dw hil;have hps:sub (ps.getD i default) (ak ns.length):=DH hv hmp;refine jq ?_;refine Fb zD (nD (ps.getD i default) ns (hmem _ hps) hsz) ?_;refine rq rfl rfl rfl rfl rfl ?_ (hp:=(by have h2:=hx (ps.getD i default);show 5+_<=_;omega));refine rq rfl rfl rfl rfl rfl ?_ (hp:=(by have h2:=hx (ps.getD i default);rw[Gk];show 5+_+5<=_;omega));refine Ke qp (rh 2 false (gr ns l ps i) ((⟨#[112,97,114,116,32]⟩++Si ns (ps.getD i default))++⟨#[32,107,101,121,115]⟩) (by have h1:=hP i;have h2:=hx (ps.getD i default);rw[Gk,Gk];show _+(5+_+5)<=_;omega)) uu ?_;refine Mb ?_;refine Fb (Ib func60) (HX l (ps.getD i default)) ?_;refine Mc ?_;refine bz (ka 1 (ka 7 (ka 15 (ka 16 (ka 51 (ka 52 (ka 53 (ka 65 (ka 66 kn))))))))) km (λk=>⟨[(67,some (vI k))],[(2,some (bd false (((gr ns l ps i)++w3 ns (ps.getD i default))++pf ns (Yg l (ps.getD i default)) k)))]⟩) ((Yg l (ps.getD i default)).length) ⟨tt,⟨⟨_,rfl,(Ic.of_eq (by rw[N9]))⟩,Aa⟩⟩ ?_;rintro k hk;refine Eb ?_;refine Kb ?_ ?_<;>intro h4
  ·
   have hkk:k<(Yg l (ps.getD i default)).length:=by omega
   have hkey:sub ((Yg l (ps.getD i default)).getD k default) (ak ns.length):=mn (R6 (dw hkk)) hps;have hpl:=TD (l:=l) (oD hv hmp);refine fy ?_;refine Fb zD (nD ((Yg l (ps.getD i default)).getD k default) ns (hmem _ hkey) hsz) ?_;refine rq rfl rfl rfl rfl rfl ?_ (hp:=(by have h2:=hx ((Yg l (ps.getD i default)).getD k default);show 1+_<=_;omega));refine Ke qp (rh 2 false (((gr ns l ps i)++w3 ns (ps.getD i default))++pf ns (Yg l (ps.getD i default)) k) (⟨#[32]⟩++Si ns ((Yg l (ps.getD i default)).getD k default)) (by have h1:=hP i;have h2:=hx ((Yg l (ps.getD i default)).getD k default);have h3:=EK hsz (ps.getD i default);have h4:=OK (i:=k) (ks:=(Yg l (ps.getD i default))) hsz;have h5:=TD (l:=l) (oD hv hmp);rw[Gk,Uc,Uc];show _+(1+_)<=_;omega)) uu ?_;refine Eb ?_;exact Ld (k+1) ⟨tt,⟨⟨_,rfl,(Ic.of_eq (by rw[T3 hkk]))⟩,Aa⟩⟩
  obtain rfl:k=(Yg l (ps.getD i default)).length:=by omega
  refine Cb ?_;refine Ke qp (rh 2 false (((gr ns l ps i)++w3 ns (ps.getD i default))++pf ns (Yg l (ps.getD i default)) (Yg l (ps.getD i default)).length) ⟨#[10]⟩ (by have h1:=hP i;have h3:=EK hsz (ps.getD i default);have h4:=OK (i:=(Yg l (ps.getD i default)).length) (ks:=(Yg l (ps.getD i default))) hsz;have h5:=TD (l:=l) (oD hv hmp);rw[Uc,Uc];show _+1<=_;omega)) uu ?_;refine Eb ?_;exact Ld (i+1) ⟨tt,⟨⟨_,rfl,(Ic.of_eq (by rw[bbn hil]))⟩,Aa⟩⟩
 obtain rfl:i=ps.length:=by omega
 refine Jb ?_;refine Fb (Ib func61) (rO l ps Za) ?_;refine Mc ?_;have hL:∀j,(jo ns l (da l ps l.length) j).length<=4102400:=λj=>av9 hsz (Nd oT hl64);refine bz (ka 1 (ka 7 (ka 15 (ka 16 (ka 82 (ka 83 kn)))))) km (λj=>⟨[(84,some (vI j))],[(2,some (bd false ((gr ns l ps ps.length)++jo ns l (da l ps l.length) j)))]⟩) ((da l ps l.length).length) ⟨tt,⟨⟨_,rfl,(Ic.of_eq (by rw[show jo ns l (da l ps l.length) 0=[] from rfl,Mg]))⟩,Aa⟩⟩ ?_;rintro j hj;refine Eb ?_;refine Kb ?_ ?_<;>intro h5
 ·
  have hjl:j<(da l ps l.length).length:=by omega
  have hj2:=ba5 hjl;have hls:=Nd (oT (l:=l) (ps:=ps)) hl64;have hf:=hin (l.getD ((da l ps l.length).getD j default) default) (dw hj2);refine jq ?_;refine rq rfl rfl rfl rfl rfl ?_ (hp:=⟨rfl,Sl _,Is.2 hj2⟩);refine Cb ?_;refine Fb zD (nD (l.getD ((da l ps l.length).getD j default) default).lhs ns (hmem _ hf.1) hsz) ?_;refine rq rfl rfl rfl rfl rfl ?_ (hp:=(by have h2:=hx (l.getD ((da l ps l.length).getD j default) default).lhs;show 5+_<=_;omega));refine rq rfl rfl rfl rfl rfl ?_ (hp:=(by have h2:=hx (l.getD ((da l ps l.length).getD j default) default).lhs;rw[Gk];show 5+_+4<=_;omega));refine Tb ?_;refine rq rfl rfl rfl rfl rfl ?_ (hp:=⟨rfl,Sl _,Is.2 hj2⟩);refine Cb ?_;refine Fb zD (nD (l.getD ((da l ps l.length).getD j default) default).rhs ns (hmem _ hf.2) hsz) ?_;refine rq rfl rfl rfl rfl rfl ?_ (hp:=(by have h2:=hx (l.getD ((da l ps l.length).getD j default) default).lhs;have h3:=hx (l.getD ((da l ps l.length).getD j default) default).rhs;rw[Gk,Gk];show 5+_+4+_<=_;omega));refine rq rfl rfl rfl rfl rfl ?_ (hp:=(by have h2:=hx (l.getD ((da l ps l.length).getD j default) default).lhs;have h3:=hx (l.getD ((da l ps l.length).getD j default) default).rhs;rw[Gk,Gk,Gk];show 5+_+4+_+1<=_;omega));refine Ke qp (rh 2 false ((gr ns l ps ps.length)++jo ns l (da l ps l.length) j) ((((⟨#[108,111,115,116,32]⟩++Si ns (l.getD ((da l ps l.length).getD j default) default).lhs)++⟨#[32,45,62,32]⟩)++Si ns (l.getD ((da l ps l.length).getD j default) default).rhs)++⟨#[10]⟩) (by have h1:=hP ps.length;have h2:=hx (l.getD ((da l ps l.length).getD j default) default).lhs;have h3:=hx (l.getD ((da l ps l.length).getD j default) default).rhs;have h4:=hL j;rw[Gk,Gk,Gk,Gk,Uc];show _+(5+_+4+_+1)<=_;omega)) uu ?_;refine Mb ?_;exact Ld (j+1) ⟨tt,⟨⟨_,rfl,(Ic.of_eq (by rw[bcg hjl _ rfl]))⟩,Aa⟩⟩
 obtain rfl:j=(da l ps l.length).length:=by omega
 refine Tb ?_;refine Ke qp (rh 2 false ((gr ns l ps ps.length)++jo ns l (da l ps l.length) (da l ps l.length).length) ⟨#[99,108,97,105,109,115]⟩ (by have h1:=hP ps.length;have h4:=hL (da l ps l.length).length;rw[Uc];show _+6<=_;omega)) uu ?_;refine Mc ?_;refine m9 3 ?_;refine Mc ?_;refine b5 109 rfl rfl rfl ?_;refine aa (ι:=Nat) (ka 7 (ka 16 (ka 110 kn))) km (λi=>⟨[(109,some (.v (.one (.p (Uo k7))))),(111,some (vI i))],[(2,some (bd false ((((gr ns l ps ps.length)++jo ns l (da l ps l.length) (da l ps l.length).length)++[99,108,97,105,109,115])++j5 c i)))]⟩) (λi=>i<=5) (λi=>5-i) (0) Za ⟨⟨⟨_,rfl,(show Fc _ _ from Wa rfl (.inl rfl) (λh=>by cases h) λi j hi hj=>by have hj:j<1:=hj;obtain rfl:j=0:=Za;exact Va (b35 (f:=λa b=>(k7.map λb=>io (.string b)).getD (a*1+b) .any) hi rfl rfl rfl rfl rfl))⟩,tt⟩,⟨⟨_,rfl,(Ic.of_eq (by rw[show j5 c 0=[] from rfl,Mg]))⟩,Aa⟩⟩ ?_;rintro i hi;refine Eb ?_;refine Kb ?_ ?_<;>intro h6
 ·
  have hi5:i<5:=by have:(i:Int)<5:=h6;omega
  refine oA ?_;refine Kb ?_ ?_<;>intro h7
  ·
   have hbit:rA c i=true:=Fa h7;refine Cb ?_;refine rq rfl rfl rfl rfl rfl ?_ (hp:=(by have h6:=CT hi5;show 1+(k7.getD i default).size<=_;omega));refine Ke qp (rh 2 false ((((gr ns l ps ps.length)++jo ns l (da l ps l.length) (da l ps l.length).length)++[99,108,97,105,109,115])++j5 c i) (⟨#[32]⟩++k7.getD i default) (by have h1:=hP ps.length;have h4:=hL (da l ps l.length).length;have h5:=uW (c:=c) (i:=i) Za;have h6:=CT hi5;rw[Gk,Uc,Uc,Uc];show _+6+_+(1+_)<=_;omega)) uu ?_;refine Eb ?_
   first | (refine Rb (i+1) ⟨tt, ⟨⟨_, rfl, (Ic.of_eq (by rw[XO hbit]))⟩, trivial⟩⟩ ?_; show i+1<=_; omega)
         |(refine Rb (i+1) ⟨tt,⟨⟨_,rfl,(Ic.of_eq (by rw[<- RP hbit]))⟩,Aa⟩⟩ ?_;show i+1<=_;omega)
  have hbit:rA c i=false:=Ha h7;refine Eb ?_
  first | (refine Rb (i+1) ⟨tt, ⟨⟨_, rfl, (Ic.of_eq (by rw[XO hbit]))⟩, trivial⟩⟩ ?_; show i+1<=_; omega)
        |(refine Rb (i+1) ⟨tt,⟨⟨_,rfl,(Ic.of_eq (by rw[<- RP hbit]))⟩,Aa⟩⟩ ?_;show i+1<=_;omega)
 obtain rfl:i=5:=by have:¬(i:Int)<5:=h6;omega
 refine Tb ?_;refine Ke qp (rh 2 false ((((gr ns l ps ps.length)++jo ns l (da l ps l.length) (da l ps l.length).length)++[99,108,97,105,109,115])++j5 c 5) ⟨#[10]⟩ (by have h1:=hP ps.length;have h4:=hL (da l ps l.length).length;have h5:=uW (c:=c) (i:=5) Za;rw[Uc,Uc,Uc];show _+6+_+1<=_;omega)) uu ?_;refine Tb ?_;refine Ke IH (KG 2 false (fA ns l ps c) (by unfold fA;exact List.append_ne_nil_of_right_ne_nil _ Ec)) uu ?_;refine Tb ?_;refine Db ?_;have hr:=W6 (c:=c) he hv hb;exact f9 rfl rfl (⟨Ob.one (Va (by rw[hr.2];rfl)),Sb hr.1.symm,Aa⟩)
end
section
section
variable {n:Int}{l m:List Fd}{q:List Fd}{i:Nat}
def evT(q:List Fd)(i:Nat):List Fd:=((List.range i).filter λk=>decide (((k:Nat):Int)%2=0)).map λk=>q.getD k default
def odT(q:List Fd)(i:Nat):List Fd:=((List.range i).filter λk=>!decide (((k:Nat):Int)%2=0)).map λk=>q.getD k default
end
abbrev Ij:List Fd:=[⟨1,2⟩,⟨2,4⟩]
abbrev Zg:List Fd:=[⟨3,4⟩,⟨4,1⟩]
abbrev Az:List Bs:=[⟨#[97]⟩,⟨#[98]⟩,⟨#[99]⟩]
def SZ:(Hl 3 Ij [] (o8 3 Ij [] 3)).1=[3,6]/\(Hl 3 Ij [] (o8 3 Ij [] 3)).2.1=31/\Hs 3 Ij [] (o8 3 Ij [] 3)=0:=by decide +kernel
def B3:(Hl 3 Zg [] (o8 3 Zg [] 4)).1=[5,6]/\(Hl 3 Zg [] (o8 3 Zg [] 4)).2.1=29/\Hs 3 Zg [] (o8 3 Zg [] 4)=0:=by decide +kernel
def N3:(Hl 3 Zg [] (vn 3 Zg)).1=[7]/\(Hl 3 Zg [] (vn 3 Zg)).2.1=7/\Hs 3 Zg [] (vn 3 Zg)=0:=by decide +kernel
abbrev kG:List UInt8:=[112,97,114,116,32,97,44,98,32,107,101,121,115,32,97,10,112,97,114,116,32,98,44,99,32,107,101,121,115,32,98,10,99,108,97,105,109,115,32]
abbrev cG:List UInt8:=[108,111,115,115,108,101,115,115,32,112,114,101,115,101,114,118,105,110,103,32,116,104,105,114,100,32,98,111,121,99,101,32,102,111,117,114,116,104,10]
def A2:vv Az Ij [] [3,6]=0/\fA Az Ij [3,6] 31=List.append kG cG:=by
 constructor<;>decide +kernel
end
section
open Go.Proofs
def Y7 (n:Int) (l:List Fd) (he:jg n l 8=0) (hq:zn n l=false):a6 Ab 63 [pI n,pP (Ub l)] (a7 [pP (Cd []),pB false,pI 0]):=by
 refine Nb (nt:=49) func63 ?_;refine Rc ?_;refine m9 0 ?_;refine m9 1 ?_;refine Wb ?_;refine Fb (Ib func107) (J4 n l) ?_;refine fy ?_;refine Sc ?_ ?_<;>intro h0
 .exfalso;omega
 refine Tb ?_;have hv:=iq (oE he).1;have hsl:=b48 n l;have hq2:tz l (Om n l)=false:=hq;refine Tb ?_;refine Fb (Ib func108) (mN l (Om n l) Za) ?_;refine Cb ?_;refine Xd ?_ ?_<;>intro h1
 .refine Eh ?_;exact⟨Ob.one (by first|exact Wk|exact Ra|exact Au),Sa,Sa,Aa⟩
 exfalso;simp_all
def LP (n:Int) (l m:List Fd) (f:Int) (hk:yy n l m=0) (h34:f=3\/f=4) (hq:(o8 n l m f).2=0):a6 Ab 20 [pI n,pP (Ub l),pP (Ub m),pI f] (a7 [Do (Hl n l m (o8 n l m f)),pI (Hs n l m (o8 n l m f))]):=by
 refine Nb (nt:=58) func20 ?_;refine Rc ?_;refine m9 0 ?_;refine Wb ?_;refine Fb (Ib func49) (qN n l m) ?_;refine Jb ?_;refine Sc ?_ ?_<;>intro h0
 ·
  exfalso
  first|omega|simp_all
 refine Cc ?_;refine m7 (ka 0 (ka 1 (ka 2 (ka 8 kn)))) (kb 0 km) ⟨[(11,some (.v (.one (.p (Cd (o8 n l m f).1))))),(12,some (vI (o8 n l m f).2))],[]⟩ ?_ ?_
 ·
  refine ce ?_;refine Kb ?_ ?_<;>intro h1
  .have hf3:f=3:=h1;have hpp:=dZ (n:=n) (l:=l) (m:=m) hf3;refine Tb ?_;refine Fb (Ib func50) (rQ aQ n l) ?_;refine Mb ?_;exact⟨⟨⟨_,rfl,(by rw[hpp];first|exact Ua|exact Wk)⟩,⟨_,rfl,(by rw[hpp];exact Ua)⟩,tt⟩,uu⟩
  have hf3:¬f=3:=h1;refine Eb ?_;refine Kb ?_ ?_<;>intro h2
  .have hf4:f=4:=h2;have hpp:=QY (n:=n) (l:=l) (m:=m) hf3 hf4;refine Tb ?_;refine Fb (Ib func51) (WX n l) ?_;refine Mb ?_;exact⟨⟨⟨_,rfl,(by rw[hpp];first|exact Ua|exact Wk)⟩,⟨_,rfl,(by rw[hpp];exact Ua)⟩,tt⟩,uu⟩
  exfalso
  first|omega|simp_all
 refine Mb ?_;refine Sc ?_ ?_<;>intro h3
 ·
  exfalso
  first|omega|simp_all
 have hr:=CM (q:=o8 n l m f) hk Gb;refine Jb ?_;refine Fb (Ib func53) (ZN n l m (o8 n l m f).1) ?_;refine Dd ?_;exact by rw[hr.1,hr.2];exact Ta
def E8(n:Int)(l m:List Fd)(hk:yy n l m=0)(he:jg n l 8=0)(hq:zn n l=false)(hz:(vn n l).2=0):a6 Ab 22 [pI n,pP (Ub l),pP (Ub m)] (a7 [Do (Hl n l m (vn n l)),pI (Hs n l m (vn n l))]):=by
 refine Nb (nt:=50) func22 ?_;have hpp:=iY he (T4 hq).2;refine Rc ?_;refine m9 0 ?_;refine Wb ?_;refine Fb (Ib func49) (qN n l m) ?_;refine Jb ?_;refine Sc ?_ ?_<;>intro h0
 ·
  exfalso
  first|omega|simp_all
 refine Eb ?_;refine Fb (Ib func63) (Y7 n l he hq) ?_;refine Wb ?_;refine m7 (ka 0 (ka 1 (ka 2 (ka 6 kn)))) (kb 0 km) ⟨[(9,some (.v (.one (.p (Cd (vn n l).1))))),(11,some (vI (vn n l).2))],[]⟩ ?_ ?_
 ·
  refine Eb ?_;refine af rfl rfl ?_ ?_<;>intro r1
  ·
   have h1:=Bc r1;(iterate 2 refine qy ?_ (hg:=(Lc r1)));refine Mb ?_;refine Fb (Ib func50) (rQ aQ n l) ?_;refine Mb ?_
   exact⟨⟨⟨_,rfl,(by rw[hpp];exact Ua)⟩,⟨_,rfl,(by rw[hpp];exact Ua)⟩,tt⟩,uu⟩
  have h1:=Ac r1;exfalso
  first|omega|simp_all
 refine Mb ?_;refine Sc ?_ ?_<;>intro h2
 ·
  exfalso
  first|omega|simp_all
 have hr:=CM (q:=vn n l) hk Gb;refine Jb ?_;refine Fb (Ib func53) (ZN n l m (vn n l).1) ?_;refine Dd ?_;exact by rw[hr.1,hr.2];exact Ta
def AN (a:List AS):a6 Ab 23 [pP (Cd a),pP (Cd a)] (a7 [pB true]):=by
 have h:=eZ a a;rw[Fa rfl]at h;exact h
def Cq:yy 3 Ij []=0/\yy 3 Zg []=0/\jg 3 Zg 8=0/\zn 3 Zg=false/\(vn 3 Zg).2=0/\(o8 3 Ij [] 3).2=0/\(o8 3 Zg [] 4).2=0:=by decide +kernel
def bad:a6 Ab 20 [pI 3,pP (Ub Ij),pP (Ub []),pI 3] (a7 [Do ([3,6],31,(Hl 3 Ij [] (o8 3 Ij [] 3)).2.2),pI 0]):=by
 have h:=LP 3 Ij [] 3 Cq.1 (.inl rfl) Cq.2.2.2.2.2.1;obtain⟨h1,h2,h3⟩:=SZ;rw[h3]at h;unfold Do at h ⊢;rw[h1,h2]at h;exact h
def bec:a6 Ab 20 [pI 3,pP (Ub Zg),pP (Ub []),pI 4] (a7 [Do ([5,6],29,(Hl 3 Zg [] (o8 3 Zg [] 4)).2.2),pI 0]):=by
 have h:=LP 3 Zg [] 4 Cq.2.1 (.inr rfl) Cq.2.2.2.2.2.2;obtain⟨h1,h2,h3⟩:=B3;rw[h3]at h;unfold Do at h ⊢;rw[h1,h2]at h;exact h
def bde:a6 Ab 22 [pI 3,pP (Ub Zg),pP (Ub [])] (a7 [Do ([7],7,(Hl 3 Zg [] (vn 3 Zg)).2.2),pI 0]):=by
 have h:=E8 3 Zg [] Cq.2.1 Cq.2.2.1 Cq.2.2.2.1 Cq.2.2.2.2.1;obtain⟨h1,h2,h3⟩:=N3;rw[h3]at h;unfold Do at h ⊢;rw[h1,h2]at h;exact h
def O5 (sts:PV):a6 Ab 21 [pP (Uo Az),pP (Ub Ij),pP (Ub []), .agg [Cd [3,6], .raw (.int .i64 31),sts]] (a7 [pS ⟨(List.append kG cG).toArray⟩,pI 0]):=by
 have h:=bc3 Az Ij [] [3,6] 31 sts Zc;obtain⟨h1,h2⟩:=A2;rw[h1,show Lv Az Ij [] [3,6] 31=⟨(List.append kG cG).toArray⟩ from (Ba h1).trans (Da Pn h2)]at h;exact h
def zc:goodFn Ab 6:=Ib func6
def uv  : a6 Ab 6 [] (a7 [pB true]):=by
 refine Nb (nt:=84) func6 ?_;refine Wb ?_;refine m9 0 ?_;refine Mb ?_;refine m9 1 ?_;refine Tb ?_;refine b5 1 rfl rfl rfl ?_;refine b5 2 rfl rfl rfl ?_;refine Cb ?_;refine rc rfl rfl rfl rfl rfl rfl (Ib func20) (bad) (⟨Sa,(Ob.one (Wa rfl (.inl rfl) (λh=>(by cases h)) λi j hi hj=>Va (by have hi:i<2:=hi;have hj:j<2:=hj;rcases(show i=0\/i=1 by omega)with rfl|rfl<;>rcases(show j=0\/j=1 by omega)with rfl|rfl<;>rfl))),Ob.one Wk,Sa,Aa⟩) rfl rfl ?_;refine Tb ?_;refine m9 2 ?_;refine Eb ?_;refine m9 3 ?_;refine Cb ?_;refine rc rfl rfl rfl rfl rfl rfl (Ib func21) (O5 _) (⟨(Ob.one (Wa rfl (.inl rfl) (λh=>(by cases h)) λi j hi hj=>Va (by have hi:i<3:=hi;have hj:j<1:=hj;obtain rfl:j=0:=Za;rcases(show i=0\/i=1\/i=2 by omega)with rfl|rfl|rfl<;>rfl))),(Ob.one (Wa rfl (.inl rfl) (λh=>(by cases h)) λi j hi hj=>Va (by have hi:i<2:=hi;have hj:j<2:=hj;rcases(show i=0\/i=1 by omega)with rfl|rfl<;>rcases(show j=0\/j=1 by omega)with rfl|rfl<;>rfl))),Ob.one Wk,Sa,Aa⟩) rfl rfl ?_;refine Cc ?_;refine rc rfl rfl rfl rfl rfl rfl (Ib func20) (bec) (⟨Sa,(Ob.one (Wa rfl (.inl rfl) (λh=>(by cases h)) λi j hi hj=>Va (by have hi:i<2:=hi;have hj:j<2:=hj;rcases(show i=0\/i=1 by omega)with rfl|rfl<;>rcases(show j=0\/j=1 by omega)with rfl|rfl<;>rfl))),Ob.one Wk,Sa,Aa⟩) rfl rfl ?_;refine Tb ?_;refine m9 4 ?_;refine Mb ?_;refine rc rfl rfl rfl rfl rfl rfl (Ib func22) (bde) (⟨Sa,(Ob.one (Wa rfl (.inl rfl) (λh=>(by cases h)) λi j hi hj=>Va (by have hi:i<2:=hi;have hj:j<2:=hj;rcases(show i=0\/i=1 by omega)with rfl|rfl<;>rcases(show j=0\/j=1 by omega)with rfl|rfl<;>rfl))),Ob.one Wk,Aa⟩) rfl rfl ?_
 refine Tb ?_;refine m9 5 ?_;refine fy ?_;(iterate 2 refine rq rfl rfl rfl rfl (Lc (dq rfl rfl)) ?_);refine Cb ?_;(iterate 2 refine rq rfl rfl rfl rfl (Lc (dq (dq rfl rfl) rfl)) ?_);refine Cb ?_;(iterate 3 refine rq rfl rfl rfl rfl (Lc (dq (dq (dq rfl rfl) rfl) rfl)) ?_);refine Cb ?_;(iterate 2 refine rq rfl rfl rfl rfl (Lc (dq (dq (dq (dq rfl rfl) rfl) rfl) rfl)) ?_);refine Cb ?_
 refine af rfl rfl ?_ ?_<;>intro r0
 ·
  have h0:=Bc (bp (dq (dq (dq (dq rfl rfl) rfl) rfl) rfl) r0);(iterate 2 refine qy ?_ (hg:=(Lc r0)));refine rm 6 rfl rfl rfl rfl rfl (Lc r0) ?_
  refine rc rfl rfl rfl rfl rfl rfl (Ib func23) (AN [5,6]) (⟨Sa,(Ob.one (Wa rfl (.inl rfl) (λh=>(by cases h)) λi j hi hj=>Va (by have hi:i<2:=hi;have hj:j<1:=hj;obtain rfl:j=0:=Za;rcases(show i=0\/i=1 by omega)with rfl|rfl<;>rfl))),Aa⟩) rfl (Lc r0) ?_;refine Cb ?_;(iterate 3 refine rq rfl rfl rfl rfl (Lc (dq r0 rfl)) ?_);refine Cb ?_;(iterate 2 refine rq rfl rfl rfl rfl (Lc (dq (dq r0 rfl) rfl)) ?_);refine rm 7 rfl rfl rfl rfl rfl (Lc (dq (dq r0 rfl) rfl)) ?_;refine rc rfl rfl rfl rfl rfl rfl (Ib func23) (AN [7]) (⟨Sa,(Ob.one (Wa rfl (.inl rfl) (λh=>(by cases h)) λi j hi hj=>Va (by have hi:i<1:=hi;have hj:j<1:=hj;obtain rfl:j=0:=Za;obtain rfl:i=0:=Za;rfl))),Aa⟩) rfl (Lc (dq (dq r0 rfl) rfl)) ?_;refine Cb ?_;(iterate 3 refine rq rfl rfl rfl rfl (Lc (dq (dq (dq r0 rfl) rfl) rfl)) ?_);refine Ef ?_;exact Ta
 have h0:=Ac (bp (dq (dq (dq (dq rfl rfl) rfl) rfl) rfl) r0);exfalso
 first|exact h0 rfl|exact h0 trivial|cases h0
end
def bu5(l:List Fd)(ps:List AS)(z:AS):AS:=match ps.find? (mw l z) with|none=>z|some p=>z|||xu l p z
section
open Go.Proofs
def ON (d:Bg) (hf:d.f.length<=16777216) (hm:d.m.length<=16777216) (hp:d.p.length<=16777216):a6 Ab 5 [d.pc] (a7 [pI (d.num 4),pP (Ub (d.fs 4)),pP (Ub (d.ms 4)),pP (Cd (d.ps 4)),pB (Zr d)]):=by
 refine Nb (nt:=30) func5 ?_;refine Rc ?_;refine m9 0 ?_;refine Cc ?_;refine Fb (Ib func19) (pY d hf hm hp) ?_;refine oA ?_;refine af rfl rfl ?_ ?_<;>intro r0
 ·
  have h0:=r0;(iterate 3 refine qy ?_ (hg:=(Lc r0)));refine Jb ?_
  exact Nc rfl rfl rfl (⟨Sa,Sa,Sa,Sa,Vb (by unfold Zr;first|(simp_all;done)|(rw[‹decide _=false›];rfl)|(simp_all;omega)),Aa⟩)
 have h0:=r0;(iterate 3 refine k9 (Vd r0) ?_);refine Jb ?_
 exact Nc rfl rfl rfl (⟨Sa,Sa,Sa,Sa,Vb (by unfold Zr;first|(simp_all;done)|(rw[‹decide _=false›];rfl)|(simp_all;omega)),Aa⟩)
end
end Go.Hx

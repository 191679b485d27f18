/- A part of the proof: Kx4 Kx9 Kx11 Kx10 Kx12 Kx13 Kx14 Kx7 Kx8 Kx15 Kw1. -/
import Derived.Test.YtmoggbnlhllhaaaGreatDoorTx31
set_option linter.all false
set_option maxRecDepth 100000
namespace Go.Hx
section
open Go.Proofs
def b0e (b:ByteArray) (i:Nat):inR .i64 (0+c5 b i):=by
 have h:(b.data.toList.getD i 0).toNat<256:=UInt8.toNat_lt _;unfold c5;simp only[inR,j9,jv];omega
def b5p{n k k1 k2:Nat}{e:TypeId}{L:List Int}{x y:PV}(hn:n=L.length)(hk:0<k)(hl:k<L.length)(h1:k1=k)(h2:k2=k-1)(hx:x=zC (L.getD (k-1) default) 0)(hy:y=zC (L.getD k default) 0) :
 CoO (.arr true 1 e n (k8 (k8 (lf zC L) k1 0 [x]) k2 0 [y])) (.arr true 1 e n (lf zC (swL L k))):=by
 subst h1 h2 hx hy;refine⟨fun h=>h,rfl,rfl,rfl,fun i j hi hj=>CoP.of_eq ?_⟩;obtain rfl:j=0:=by omega
 unfold k8 lf;rw[k7 hk hl];by_cases a:i=k1-1
 · simp[a]
 by_cases b:i=k1
 · subst b
   rw[if_neg bmq,if_neg a,if_pos rfl,if_pos ⟨rfl,by omega,by simp⟩];rfl
 rw[if_neg bmq,if_neg a,if_neg b,if_neg bmq]
def asy:a6 bnb 95:=wgx Tryz.func95
def ayv (x y:Int):aa bnb 95 [pI x,pI y] (ag [pB (decide (x<y))]):=by
 refine hpx (nt:=17) Tryz.func95 ?_;refine w_7 ?_;refine qcx ac1 (agy _) ?_;refine qy ?_;refine be rfl rfl ?_ ?_<;>intro r0
 · have h0:=r0;exfalso;simp_all
 have h0:=r0;(iterate 3 refine k9 (gft r0) ?_);refine w_8 ?_
 exact hx8 rfl rfl rfl (⟨ccb bmu,trivial⟩)
def azy:a6 bnb 152:=wgx Tryz.func152
def bce(l:List Int)(hn:l.Nodup)(h12:l.length<=12):dv bnb 152 [.one (.ref 1000 l.length), .one (.p (.raw (.int .i64 0))), .one (.p (.raw (.int .i64 (l.length:Int))))] [(1000, .arr true 1 2 l.length (lf zC l))] (.tup []) [(1000, .arr true 1 2 l.length (lf zC (j1 l)))] [1000]:=by
 refine hfx (nt:=49) Tryz.func152 ?_;refine w_7 ?_;refine b7 (ι:=Nat×List Int) (ka 0 (ka 1 (ka 2 kn))) km (fun x=>⟨[(6,some (vI x.1))],[(1000,some (.arr true 1 2 l.length (lf zC x.2)))]⟩) (fun x=>1<=x.1/\sy cmN l (min x.1 l.length) x.2) (fun x=>l.length+1-x.1) ((1,l)) (⟨bil _,avx hn⟩) ⟨⟨⟨_,rfl,(coi bmq)⟩,trivial⟩,uu⟩ ?_;rintro x ⟨hx1,hO⟩;refine w_7 ?_;refine hcd ?_ ?_<;>intro h0
 ·
  have hil:x.1<l.length:=by omega
  have hmi:min x.1 l.length=x.1:=by omega
  rw[hmi]at hO;have hOl:=hO.len;refine w_9 ?_;refine b7 (ι:=Nat×List Int) (ka 0 (ka 1 (ka 2 (ka 6 kn)))) km (fun y=>⟨[(7,some (vI y.1))],[(1000,some (.arr true 1 2 l.length (lf zC y.2)))]⟩) (fun y=>a8s cmN l x.1 y.1 y.2) (fun y=>y.1) ((x.1,x.2)) (hO.into bmq) kk ?_;rintro y hI;have hIl:=hI.len;have hIk:=hI.ki;have hIi:=hI.il;refine w_7 ?_;refine be rfl rfl ?_ ?_<;>intro r1
  ·
   have h1:=tz1 r1;(iterate 9 refine qy ?_ (hg:=(gtt r1)));refine qcx asy (ayv _ _) ?_ (hg:=(gtt r1));refine w_3 ?_;refine az _ rfl ?_ ?_<;>intro r2
   ·
    have h2:=dc r1 r2;have hlt:cmN (y.2.getD y.1 default) (y.2.getD (y.1-1) default)<0:=by have hq0:=r2;rw[decide_eq_true (show(0:Int)<(y.1:Int) by omega)]at hq0;have hq:=aw8 hq0;unfold cmN;simp only[bit,show((y.1:Int)-1).toNat=y.1-1 by omega]at hq;omega
    refine b6p ?_;refine lpz (y.1-1,swL y.2 y.1) ⟨⟨⟨_,rfl,(coi bmv)⟩,tt⟩,⟨⟨_,rfl,(b5p (L:=y.2) (k:=y.1) bmq bmq bmq bmq bmq (by rw[show((y.1:Int)-1).toNat=y.1-1 by omega];rfl) rfl)⟩,trivial⟩⟩ ?_;exact hI.step ac4 bmq hlt
   have h2:=dc r1 r2;have hstop:y.1=0\/¬cmN (y.2.getD y.1 default) (y.2.getD (y.1-1) default)<0:=.inr (by have hq0:=r2;rw[decide_eq_true (show(0:Int)<(y.1:Int) by omega)]at hq0;have hq:=auv hq0;unfold cmN;simp only[bit,show((y.1:Int)-1).toNat=y.1-1 by omega]at hq;omega);refine w_6 ?_;refine lpz (x.1+1,y.2) ⟨⟨⟨_,rfl,(coi bmv)⟩,tt⟩,uu⟩ ?_;exact⟨by show 1<=x.1+1;omega,by show sy cmN l (min (x.1+1) l.length) y.2;rw[show min (x.1+1) l.length=x.1+1 by omega];exact hI.done ac4 hstop⟩
  have h1:=tz2 r1;have hstop:y.1=0\/¬cmN (y.2.getD y.1 default) (y.2.getD (y.1-1) default)<0:=.inl bmq;(iterate 10 refine k9 (gft r1) ?_);refine db ?_;refine lpz (x.1+1,y.2) ⟨⟨⟨_,rfl,(coi bmv)⟩,tt⟩,uu⟩ ?_
  exact⟨by show 1<=x.1+1;omega,by show sy cmN l (min (x.1+1) l.length) y.2;rw[show min (x.1+1) l.length=x.1+1 by omega];exact hI.done ac4 hstop⟩
 have hml:min x.1 l.length=l.length:=by omega
 rw[hml]at hO;have hfin:=avq hn hO (by have:=hO.len;omega);refine eg ?_;refine⟨.inl rfl, ?_⟩;exact⟨_,_,rfl,bms,CoR.refl _,⟨⟨_,rfl,(by rw[hfin];exact CoO.refl _)⟩,trivial⟩⟩
def azu:a6 bnb 161:=wgx Tryz.func161
def b8v (n:Nat) (h:n<256):aa bnb 161 [pP (u6 n)] (ag [pP .any]):=by
 refine hpx (nt:=25) Tryz.func161 ?_;refine db ?_;refine hcd ?_ ?_<;>intro h0
 · exfalso;omega
 refine w_7 ?_;refine hcd ?_ ?_<;>intro h1
 · exfalso;omega
 refine w_7 ?_;refine hcd ?_ ?_<;>intro h2
 · exfalso;omega
 refine w_5 ?_;refine qy ?_ (hp:=(by simp only[j2,inR,j9,jv];omega));refine rq rfl rfl rfl rfl rfl ?_ (hp:=⟨by omega,by show(n:Int)<256;omega⟩);refine qy ?_;refine rq rfl rfl rfl rfl rfl ?_ (hp:=b0e _ _);refine v_2 ?_;exact⟨CoP.any_of,trivial⟩
def b4r:a6 bnb 94:=wgx Tryz.func94
def bah (n:Nat) (h:n<256):aa bnb 94 [pP (u6 n)] (ag [pP .any]):=by
 refine hpx (nt:=8) Tryz.func94 ?_;refine db ?_;refine qcx azu (b8v n h) ?_;refine v_2 ?_;exact CoL.refl _
def b7q:a6 bnb 93:=wgx Tryz.func93
def bar (l:List Int) (hn:l.Nodup) (h12:l.length<=12):dv bnb 93 [.one (.ref 1000 l.length), .one (.p (.raw (.int .i64 0))), .one (.p (.raw (.int .i64 (l.length:Int)))), .one (.p .any)] [(1000, .arr true 1 2 l.length (lf zC l))] (.tup []) [(1000, .arr true 1 2 l.length (lf zC (j1 l)))] [1000]:=by
 refine hfx (nt:=134) Tryz.func93 ?_;refine w_9 ?_;refine b7 (ι:=Nat) (ka 0 kn) km (fun i=>⟨[(1,some (vI 0)),(2,some (vI (l.length:Nat))),(3,some (.v (.one (.p .any)))),(8,some (.v (.one (.p (.raw (.bool true)))))),(9,some (.v (.one (.p (.raw (.bool true))))))],[(1000,some (.arr true 1 2 l.length (lf zC l)))]⟩) (fun i=>True) (fun i=>0) (0) (trivial) ⟨⟨⟨_,rfl,(CoR.refl _)⟩,⟨_,rfl,(CoR.refl _)⟩,⟨_,rfl,(CoR.refl _)⟩,⟨_,rfl,(CoR.refl _)⟩,⟨_,rfl,(CoR.refl _)⟩,trivial⟩,uu⟩ ?_;rintro i _;refine mf ?_;refine hcd ?_ ?_<;>intro h0
 · refine w_5 ?_;refine fc9 azy (bce l hn h12) uu ?_;refine ce ?_;refine hrr ?_;exact⟨_,_,rfl,bms,CoR.refl _,uu⟩
 exfalso;omega
def b7w:a6 bnb 37:=wgx Tryz.func37
def bcb (l:List Int) (hn:l.Nodup) (h12:l.length<=12):dv bnb 37 [.one (.ref 1000 l.length)] [(1000, .arr true 1 2 l.length (lf zC l))] (.tup []) [(1000, .arr true 1 2 l.length (lf zC (j1 l)))] [1000]:=by
 refine hfx (nt:=11) Tryz.func37 ?_;refine ip ?_;refine rc rfl rfl rfl rfl rfl rfl b4r (bah l.length bmq) (⟨CoP.of_eq rfl,trivial⟩) rfl rfl ?_;refine fc9 b7q (bar l hn h12) uu ?_;refine ce ?_;refine⟨.inl rfl, ?_⟩;exact⟨_,_,rfl,bms,CoR.refl _,uu⟩
end
section
open Go.Proofs
def bey (i j:Nat):Int.fdiv ((i:Int)+(j:Int)) (2^(min 1 64))=(((i+j)/2:Nat):Int):=by
 rw[show min 1 64=1 from rfl,bkb _ bmx];omega
def aqi:a6 bnb 96:=wgx Tryz.func96
def az7 (a:Int):aa bnb 96 [pI a] (ag [pB false]):=by
 refine hpx (nt:=6) Tryz.func96 ?_;refine ip ?_;exact hx8 rfl rfl rfl (⟨ccb bmu,trivial⟩)
def b7j:a6 bnb 38:=wgx Tryz.func38
def bcp(l:List Int)(x:Int)(hl:l.Pairwise (·<·))(hlen:l.length<=1000000):aa bnb 38 [pP (zl l),pI x] (ag [pI (ak5 l x:Nat),pB (decide (x∈l))]):=by
 refine hpx (nt:=54) Tryz.func38 ?_;refine b58 ?_;refine b7 (ι:=Nat×Nat) (ka 0 (ka 1 (ka 6 kn))) km (fun y=>⟨[(7,some (vI y.1)),(8,some (vI y.2))],[]⟩) (fun y=>BsI l x y.1 y.2) (fun y=>y.2-y.1) ((0,l.length)) (⟨bio _,bil _,fun k hk=>absurd hk (bip k),fun k hk hkl=>by omega⟩) ⟨⟨⟨_,rfl,(CoR.refl _)⟩,⟨_,rfl,(CoR.refl _)⟩,trivial⟩,trivial⟩ ?_;rintro y hB;refine w_7 ?_;refine hcd ?_ ?_<;>intro h0
 ·
  have hh:=bey y.1 y.2;have hb1:y.1<=((y.1+y.2)/2):=by omega
  have hb2:((y.1+y.2)/2)<y.2:=by omega
  have hjn:=hB.jn;refine w_9 ?_;refine rq rfl rfl rfl rfl rfl ?_ (hp:=(by show inR .i64 (Int.fdiv ((y.1:Int)+(y.2:Int)) (2^(min 1 64)));rw[hh];simp only[inR,j9,jv];omega));refine w_6 ?_;refine rq rfl rfl rfl rfl rfl ?_ (hp:=⟨rfl,by show(0:Int)<=Int.fdiv ((y.1:Int)+(y.2:Int)) (2^(min 1 64));rw[hh];omega,by show Int.fdiv ((y.1:Int)+(y.2:Int)) (2^(min 1 64))<_;rw[hh];omega⟩);refine w_2 ?_;refine rc rfl rfl rfl rfl rfl rfl asy (ayv (l.getD ((y.1+y.2)/2) default) x) (⟨CoC.of_eq (congrArg (fun z=>PC.one (lf zC l z 0)) (show(Int.fdiv ((y.1:Int)+(y.2:Int)) (2^(min 1 64))).toNat=((y.1+y.2)/2) by rw[hh];exact bit _)),CoC.refl _,trivial⟩) rfl rfl ?_;refine ce ?_;refine az _ rfl ?_ ?_<;>intro r1
  ·
   have h1:=r1;have hlt:l.getD ((y.1+y.2)/2) default<x:=by simpa using r1
   refine w_2 ?_;refine rq rfl rfl rfl rfl rfl ?_ (hp:=(by show inR .i64 (Int.fdiv ((y.1:Int)+(y.2:Int)) (2^(min 1 64))+1);rw[hh];simp only[inR,j9,jv];omega));refine w_2 ?_
   first | (refine lpz (((y.1+y.2)/2)+1, y.2) ⟨⟨⟨_, rfl, (coi (by show Int.fdiv ((y.1 : Int)+(y.2 : Int)) (2^(min 1 64))+1=_; rw[hh]; omega))⟩, ⟨_, rfl, (CoR.refl _)⟩, tt⟩, trivial⟩ ?_; exact hB.up hl hb1 hb2 hlt)
         |(refine lpz (y.1,((y.1+y.2)/2)) ⟨⟨⟨_,rfl,(CoR.refl _)⟩,⟨_,rfl,(coi hh)⟩,tt⟩,trivial⟩ ?_;exact hB.down hl hb1 hb2 hlt)
  have h1:=r1;have hlt:¬l.getD ((y.1+y.2)/2) default<x:=by simpa using r1
  refine w_4 ?_
  first | (refine lpz (((y.1+y.2)/2)+1, y.2) ⟨⟨⟨_, rfl, (coi (by show Int.fdiv ((y.1 : Int)+(y.2 : Int)) (2^(min 1 64))+1=_; rw[hh]; omega))⟩, ⟨_, rfl, (CoR.refl _)⟩, tt⟩, trivial⟩ ?_; exact hB.up hl hb1 hb2 hlt)
        |(refine lpz (y.1,((y.1+y.2)/2)) ⟨⟨⟨_,rfl,(CoR.refl _)⟩,⟨_,rfl,(coi hh)⟩,tt⟩,trivial⟩ ?_;exact hB.down hl hb1 hb2 hlt)
 have hlow:=hB.low bmq;have hfnd:=hB.found hl bmq;refine w_8 ?_;refine be rfl rfl ?_ ?_<;>intro r2
 ·
  have h2:=tz1 r2;(iterate 7 refine qy ?_ (hg:=(gtt r2)));refine be rfl rfl ?_ ?_<;>intro r3
  ·
   have h3:=tz1 r3;(iterate 6 refine k9 (gtf r3) ?_);(iterate 2 refine k9 rfl ?_);refine k9 (gtf r3) ?_;refine rq rfl rfl rfl rfl (gtt r2) ?_ (hp:=r3);refine w_4 ?_
   exact hx8 rfl rfl rfl (⟨cci (by rw[hlow]),ccb (by by_cases hm:x∈l<;>first|(exact absurd (hfnd.1 hm).2 bmr)|(simp_all;done)|(simp_all;omega)),trivial⟩)
  have h3:=tz2 r3;(iterate 4 refine qy ?_ (hg:=(gff r3)));refine qcx aqi (az7 _) ?_ (hg:=(gff r3));refine qy ?_ (hg:=(gff r3));refine be rfl rfl ?_ ?_<;>intro r4
  · have h4:=r4;refine qy ?_ (hg:=(gtt r4));refine qcx aqi (az7 _) ?_ (hg:=(gtt r4));refine qy ?_ (hg:=(gff r3));refine qy ?_ (hg:=(gtt r2));refine v_4 ?_;exact⟨cci (by rw[hlow]),ccb (by by_cases hm:x∈l<;>first|(exact absurd (hfnd.1 hm).2 bmr)|(simp_all;done)|(simp_all;omega)),trivial⟩
  have h4:=r4;(iterate 2 refine k9 (gft r4) ?_);refine rq rfl rfl rfl rfl (gff r3) ?_ (hp:=r4);refine qy ?_ (hg:=(gtt r2));refine w_4 ?_
  exact hx8 rfl rfl rfl (⟨cci (by rw[hlow]),ccb (by by_cases hm:x∈l<;>first|(exact absurd (hfnd.1 hm).2 bmr)|(simp_all;done)|(simp_all;omega)),trivial⟩)
 have h2:=tz2 r2;(iterate 7 refine k9 (gft r2) ?_);(iterate 9 refine k9 rfl ?_);refine k9 (gft r2) ?_;refine w_4 ?_
 exact hx8 rfl rfl rfl (⟨cci (by rw[hlow]),ccb (by by_cases hm:x∈l<;>first|(exact absurd (hfnd.1 hm).2 bmr)|(simp_all;done)|(simp_all;omega)),trivial⟩)
def b3t:a6 bnb 165:=wgx Tryz.func165
def bdq (r:Row) (h:r.vals.length<=68719476736):aa bnb 165 [r.pc] (ag [r.pc]):=by
 refine hpx (nt:=9) Tryz.func165 ?_;refine sx7 ?_;refine m9 0 ?_;refine m9 1 ?_;refine w_7 ?_;refine qcx b1g (c78 r.vals h) ?_;refine v_4 ?_;exact CoL.refl _
end
section
open Go.Proofs
def b3x:a6 bnb 163:=wgx Tryz.func163
def bb4(l:List Int)(x:Int):aa bnb 163 [pP (zl l),pI x] (ag [pI (idx (fun y=>decide (y=x)) l)]):=by
 refine hpx (nt:=19) Tryz.func163 ?_;refine f4 ?_;refine j4 0 rfl fun hn=>?_;refine w_3 ?_;refine dn (ι:=Unit) kn km (fun _i=>⟨[],[]⟩) (fun _i=>idx (fun y=>decide (y=x)) l=-1) ?_ ?_
 ·
  refine w_7 ?_;refine b7 (ι:=Nat) (ka 0 (ka 1 (ka 7 kn))) km (fun i=>⟨[(8,some (vI i))],[]⟩) (fun i=>i<=l.length/\(∀j,j<i->decide (l.getD j default=x)=false)) (fun i=>l.length-i) (0) (⟨bio _,gt⟩) kk ?_;rintro i ⟨hi,hIi⟩;refine w_5 ?_;refine hcd ?_ ?_<;>intro h0
  ·
   refine za ?_;refine hcd ?_ ?_<;>intro h1
   · refine v_5 ?_;exact⟨cci (vh (p:=fun y=>decide (y=x)) (i:=i) bmq hIi (decide_eq_true (by simp_all))).symm,trivial⟩
   refine w_5 ?_;refine lpz (i+1) kk ?_;exact⟨by show i+1<=_;omega,f5 hIi (decide_eq_false fun e=>by simp_all)⟩
  refine eg ?_;refine⟨(), ?_, ?_⟩
  · exact ve (p:=fun y=>decide (y=x)) fun j hj=>hIi j bmq
  exact⟨trivial,trivial⟩
 rintro _ hj;refine v_4 ?_;exact⟨cci hj.symm,trivial⟩
def ayc {l:List Int} {x:Int}:(l.any fun y=>decide (y=x))=decide (x∈l):=by
 rw[bma];simp
def b90:a6 bnb 97:=wgx Tryz.func97
def bc6 (l:List Int) (x:Int):aa bnb 97 [pP (zl l),pI x] (ag [pB (decide (x∈l))]):=by
 refine hpx (nt:=9) Tryz.func97 ?_;refine w_8 ?_;refine qcx b3x (bb4 l x) ?_;refine v_3 ?_;exact⟨ccb (a4l.trans ayc),trivial⟩
def b7y:a6 bnb 98:=wgx Tryz.func98
def b8q (t:Tbl) (L:List Row) (ha:t.attrs.length<=1000) (hr:L.length<=1000) (hv:∀i,i<L.length->(L.getD i default).vals.length<=1000):aa bnb 98 [t.pc,pP (rows L)] (ag [({ t with rows:=L }:Tbl).pc]):=by
 refine hpx (nt:=29) Tryz.func98 ?_;refine sx7 ?_;refine m9 0 ?_;refine m9 1 ?_;refine w_7 ?_;refine qcx azt (c77 t.attrs bmq) ?_;refine qy ?_;refine m9 2 ?_;refine ip ?_;refine kr 2 2 900 true 2 106 (lf Row.c L) bmx rfl rfl (CoP.sl rfl (.inr rfl) (fun h=>h) (fun i j hi _=>absurd hi (bip i))) (.inr rfl) rfl rfl ?_;refine bp (ka 4 (ka 5 (ka 14 (ka 15 kn)))) (kb 1 km) (fun i=>⟨[(16,some (vI i))],[(2,some (.box [.p (.raw (.string t.name)), .p (a3t t.attrs), .ref 900 i])),(900,some (.arr true 2 106 i (lf Row.c L)))]⟩) L.length kk ?_;rintro i hi;refine w_5 ?_;refine hcd ?_ ?_<;>intro h0
 ·
  have hir:i<L.length:=by omega
  have hvi:=hv i hir;refine w_7 ?_;refine m9 3 ?_;refine w_6 ?_;refine qcx b3t (bdq (L.getD i default) bmq) ?_;refine m9 4 ?_;refine r9 5 true ?_;refine w_8 ?_;exact lpx (i+1) ⟨tt,⟨u9,⟨_,rfl,(ad9 (fun h=>h) (by intro j hj;revert j;exact lt2 (CoP.refl _) (CoP.refl _)))⟩,uu⟩⟩
 obtain rfl:i=L.length:=by omega
 refine v_6 ?_;exact⟨CoC.agg ⟨CoP.refl _,CoP.refl _,CoP.sl rfl (.inl rfl) (fun h=>h) (fun _ _ _ _=>CoP.refl _),trivial⟩,trivial⟩
end
section
open Go.Proofs
section
variable {g:List (List Nat)}{m:Int}
def bd6(h:m=1):msr m g=(gsz g:Int)*(gsz g:Int)-(gsq g:Int):=if_pos h
def bb0(h:¬m=1)(h2:m=2)(h3:1<g.length):msr m g=(gsz g:Int):=by unfold msr;rw[if_neg h,if_pos h2,if_pos h3]
def b9c(h:¬m=1)(h2:m=2)(h3:¬1<g.length):msr m g=0:=by unfold msr;rw[if_neg h,if_pos h2,if_neg h3]
def b77(h:¬m=1)(h2:¬m=2):msr m g=(gsz g:Int)-(((g.getD (gb g) default).length:Nat):Int):=by unfold msr;rw[if_neg h,if_neg h2];rfl
def afp {a:Nat} (h:a<=1000):0<=(a:Int)*(a:Int)/\(a:Int)*(a:Int)<=1000000:=by
 have h1:a*a<=1000*1000:=bmo h h;rw[<- bks];omega
def baf {a:Nat} (h:a<=1000):inR .i64 ((a:Int)*(a:Int)):=by
 have:=afp h;simp only[inR,j9,jv];omega
def alq {t:Tbl} {d:Fd} {k:Nat} (h:k<(fj t d).length):0<((fj t d).getD k default).length:=by
 have hk:k<(a7 t d.lhs).cls.length:=by rw[<- a9c (t:=t) (d:=d)];exact h
 unfold fj;rw[se hk];have hc:(a7 t d.lhs).cls.getD k default∈(a7 t d.lhs).cls:=by rw[ah _ _ hk];exact bin _
 obtain⟨_,_,h2⟩:=gv.1 hc;exact List.length_pos_of_mem (wq (bin (show 0<((a7 t d.lhs).cls.getD k default).length by omega)))
def acq {t:Tbl} {d:Fd} (hT:TOk t):jd t d m<=1000000000:=by
 have h:=acv (d:=d) hT;have:=aar (m:=m) h (bil _);have h1:=h.1;unfold jd;omega
def atg {t:Tbl} (hT:TOk t):alN t m<=1000000:=by
 have:=hT.nr;unfold alN;split
 · exact bmo this this
 omega
def b8j:a6 bnb 43:=wgx Tryz.func43
def bdk(t:Tbl)(d:Fd)(m:Int)(hm:m=1\/m=2\/m=3)(hT:TOk t)(hl:∀z,d.lhs.getLsbD z=true->z<t.attrs.length)(hrr:∀z,d.rhs.getLsbD z=true->z<t.attrs.length)(A:List (List (List Nat)))(hA:fj t d=A):aa bnb 43 [t.pc,d.pc,pI m] (ag [pRt (j0 t d m) (jb t m d)]):=by
 refine hpx (nt:=87) Tryz.func43 ?_;have hnr:=hT.nr;have hsg:SmG A:=hA▸acv (d:=d) hT;have hee:jd t d m=msT m A A.length:=by unfold jd;rw[hA]
 have hcG:aa bnb 35 [t.pc,d.pc] (ag [pP (ax2 A)]):=hA▸azr t d hT hl hrr;have hsl:=hsg.1;have hel:=acq (d:=d) (m:=m) hT;have hal:=atg (m:=m) hT;have hen:=a5q (t:=t) (d:=d) (m:=m);rw[hee]at hel hen;refine sx7 ?_;refine m9 0 ?_;refine m9 1 ?_;refine m9 2 ?_;refine mf ?_;refine hcd ?_ ?_<;>intro h0
 ·
  have hr0:t.rows.length=0:=by omega
  refine v_5 ?_;exact⟨CoC.of_eq (by unfold j0 jb;rw[if_pos hr0,if_pos hr0];rfl),trivial⟩
 have hr0:¬t.rows.length=0:=by omega
 have hsr:=afp hnr;refine gz ?_;refine qcx atv (hcG) ?_;refine w_4 ?_;refine bp (ka 2 (ka 6 (ka 7 (ka 9 (ka 26 (ka 27 kn)))))) (kb 2 km) (fun k=>⟨[(8,some (vI (msT m A k))),(28,some (vI k))],[]⟩) A.length kk ?_;rintro k hk;refine w_5 ?_;refine hcd ?_ ?_<;>intro h1
 ·
  have hkc:k<A.length:=by omega
  have hsm:=hsg.at hkc;have hgq:=afp hsm.1;have hms:=ab0 (m:=m) (Nat.le_of_lt hkc);have hml:=aar (m:=m) hsg (Nat.le_of_lt hkc);have hst:=o3 (m:=m) hkc
  have hgp:0<(A.getD k default).length:=by
   have hz:=alq (t:=t) (d:=d) (k:=k) (by rw[hA];exact hkc);rwa [hA]at hz
  have hgl:=a2v hgp;have hgb:=a5s (a2v hgp);refine gz ?_;refine qcx b1w (bdi (A.getD k default) hsm.1 hsm.2.1) ?_;refine gz ?_;refine az _ rfl ?_ ?_<;>intro r2
  ·
   have h2:=tz1 r2;have hm1:m=1:=by simpa using r2
   rw[bd6 hm1]at hst;refine xk ?_;refine bp (ka 2 (ka 6 (ka 7 (ka 9 (ka 26 (ka 27 (ka 28 (ka 52 (ka 53 kn))))))))) (kb 2 km) (fun j=>⟨[(8,some (vI (msT m A k+(gsz (A.getD k default):Int)*(gsz (A.getD k default):Int)-(gqT (A.getD k default) j:Int)))),(54,some (vI j))],[]⟩) ((A.getD k default).length) ⟨⟨⟨_,rfl,(coi (by show _=_-((0:Nat):Int);omega))⟩,tt⟩,trivial⟩ ?_;rintro j hj;refine w_5 ?_;refine hcd ?_ ?_<;>intro h3
   ·
    have hjc:j<(A.getD k default).length:=by omega
    have hqs:=aun hjc;have hql:=au0 (g:=(A.getD k default)) (j:=j);have hql2:=au0 (g:=(A.getD k default)) (j:=j+1);have hqz:=ab1 (A.getD k default);have hpl:=a5s hjc;have hps:=afp (bj2 hpl hsm.1);have hqi:((gqT (A.getD k default) (j+1):Nat):Int)=((gqT (A.getD k default) j:Nat):Int)+((((A.getD k default).getD j default).length:Nat):Int)*((((A.getD k default).getD j default).length:Nat):Int):=by rw[hqs,Int.natCast_add,bks]
    have hqj:((gqT (A.getD k default) (j+1):Nat):Int)<=(gsz (A.getD k default):Int)*(gsz (A.getD k default):Int):=by rw[<- bks];exact Int.ofNat_le.2 (bj2 hql2 hqz)
    refine ic ?_;refine rq rfl rfl rfl rfl rfl ?_ (hp:=baf (bj2 hpl hsm.1));refine rq rfl rfl rfl rfl rfl ?_ (hp:=(by show inR .i64 (msT m A k+(gsz (A.getD k default):Int)*(gsz (A.getD k default):Int)-(gqT (A.getD k default) j:Int)-((((A.getD k default).getD j default).length:Nat):Int)*((((A.getD k default).getD j default).length:Nat):Int));simp only[inR,j9,jv];omega));refine w_6 ?_;exact lpx (j+1) ⟨⟨⟨_,rfl,(coi (by show msT m A k+(gsz (A.getD k default):Int)*(gsz (A.getD k default):Int)-(gqT (A.getD k default) j:Int)-((((A.getD k default).getD j default).length:Nat):Int)*((((A.getD k default).getD j default).length:Nat):Int)=_;omega))⟩,tt⟩,uu⟩
   obtain rfl:j=(A.getD k default).length:=by omega
   refine w_5 ?_;exact lpx (k+1) ⟨⟨⟨_,rfl,(coi (by rw[hst];first|done|omega|exact rfl|(rw[<- a6o];omega)))⟩,tt⟩,uu⟩
  have h2:=tz2 r2;have hm1:¬m=1:=by simpa using r2
  refine w_5 ?_;refine az _ rfl ?_ ?_<;>intro r4
  ·
   have h4:=tz1 r4;have hm2:m=2:=by simpa using r4
   refine w_6 ?_;refine hcd ?_ ?_<;>intro h5
   · rw[bb0 hm1 hm2 bmq]at hst;refine db ?_;exact lpx (k+1) ⟨⟨⟨_,rfl,(coi (by rw[hst];first|done|omega|exact rfl|(rw[<- a6o];omega)))⟩,tt⟩,uu⟩
   rw[b9c hm1 hm2 bmq]at hst;refine w_5 ?_;exact lpx (k+1) ⟨⟨⟨_,rfl,(coi (by rw[hst];first|done|omega|exact rfl|(rw[<- a6o];omega)))⟩,tt⟩,uu⟩
  have h4:=tz2 r4;have hm2:¬m=2:=by simpa using r4
  rw[b77 hm1 hm2]at hst;refine w_5 ?_;refine qcx atc (art (A.getD k default) hgp hsm.2.1) ?_;refine rq rfl rfl rfl rfl rfl ?_ (hp:=⟨rfl,bjp _,bkm.2 hgl⟩);refine w_2 ?_;refine rq rfl rfl rfl rfl rfl ?_ (hp:=(by show inR .i64 ((gsz (A.getD k default):Int)-((((A.getD k default).getD (gb (A.getD k default)) default).length:Nat):Int));simp only[inR,j9,jv];omega));refine rq rfl rfl rfl rfl rfl ?_ (hp:=(by show inR .i64 (msT m A k+((gsz (A.getD k default):Int)-((((A.getD k default).getD (gb (A.getD k default)) default).length:Nat):Int)));simp only[inR,j9,jv];omega));refine w_6 ?_;exact lpx (k+1) ⟨⟨⟨_,rfl,(coi (by rw[hst];first|done|omega|exact rfl|(rw[<- a6o];omega)))⟩,tt⟩,uu⟩
 obtain rfl:k=A.length:=by omega
 refine w_7 ?_;refine az _ rfl ?_ ?_<;>intro r6
 ·
  have h6:=tz1 r6;have hmm:m=1:=by simpa using r6
  have hav:((t.rows.length:Nat):Int)*((t.rows.length:Nat):Int)=((alN t m:Nat):Int):=by unfold alN;rw[if_pos hmm,bks]
  refine db ?_;refine rc rfl rfl rfl rfl rfl rfl am1 (as2 (msT m A A.length).toNat (alN t m) (abt hr0) bmq bmq) (⟨cci (bk0 hen).symm,cci hav,trivial⟩) rfl rfl ?_;refine w_3 ?_;refine m9 3 ?_;refine v_8 ?_;exact⟨CoC.of_eq (by unfold j0 jb;rw[if_neg hr0,if_neg hr0,hee]),trivial⟩
 have h6:=tz2 r6;have hmm:¬m=1:=by simpa using r6
 have hav:((t.rows.length:Nat):Int)=((alN t m:Nat):Int):=by unfold alN;rw[if_neg hmm]
 refine w_5 ?_;refine rc rfl rfl rfl rfl rfl rfl am1 (as2 (msT m A A.length).toNat (alN t m) (abt hr0) bmq bmq) (⟨cci (bk0 hen).symm,cci hav,trivial⟩) rfl rfl ?_;refine w_3 ?_;refine m9 4 ?_;refine v_8 ?_;exact⟨CoC.of_eq (by unfold j0 jb;rw[if_neg hr0,if_neg hr0,hee]),trivial⟩
end
end
section
open Go.Proofs
def b7e:a6 bnb 13:=wgx Tryz.func13
def bdx (t:Tbl) (d:Fd) (m:Int) (hm:m=1\/m=2\/m=3) (hT:TOk t) (hl:∀z,d.lhs.getLsbD z=true->z<t.attrs.length) (hrr:∀z,d.rhs.getLsbD z=true->z<t.attrs.length):aa bnb 13 [t.pc,d.pc,pI m] (ag [pRt (j0 t d m) (jb t m d),pI 0]):=by
 refine hpx (nt:=25) Tryz.func13 ?_;refine sx7 ?_;refine m9 0 ?_;refine m9 1 ?_;refine m9 2 ?_;refine w_7 ?_;refine m9 3 ?_
 refine rc rfl rfl rfl rfl rfl rfl as1 (at1 t d hT hl hrr) (⟨CoC.refl _,CoC.one (CoP.sl rfl (.inl rfl) (fun h=>h) (fun i j hi hj=>by
  obtain rfl:i=0:=by omega
  revert j
  exact lt2 (CoP.refl _) (CoP.refl _))),trivial⟩) rfl rfl ?_
 refine kg ?_;refine qcx b5e (bc5 m hm) ?_;refine w_9 ?_;refine qcx b8j (bdk t d m hm hT hl hrr _ rfl) ?_;refine v_3 ?_;exact CoL.refl _
def rmQ(g:List (List Nat))(j q:Nat):List Nat:=if j=gb g then rmJ g j else rmJ g j++(g.getD j default).take q
abbrev idT(t:Tbl)(i:Nat):Int:=(t.rows.getD i default).id
def zw(t:Tbl)(A:List (List (List Nat)))(k:Nat):List Int:=(rmT A k).map (idT t)
def xc(t:Tbl)(A:List (List (List Nat)))(k j:Nat):List Int:=(rmT A k++rmJ (A.getD k default) j).map (idT t)
def qe(t:Tbl)(A:List (List (List Nat)))(k j q:Nat):List Int:=(rmT A k++rmQ (A.getD k default) j q).map (idT t)
variable {t:Tbl}{A:List (List (List Nat))}{k j q:Nat}
def ar4:xc t A k 0=zw t A k:=by simp[xc,zw,rmJ]
def ajs:xc t A k (A.getD k default).length=zw t A (k+1):=by unfold xc zw;rw[a1v];rfl
def arl:qe t A k j 0=xc t A k j:=by unfold qe xc rmQ;split<;>simp
def ahy:qe t A k j ((A.getD k default).getD j default).length=xc t A k (j+1):=by unfold qe xc rmQ;rw[a1z,biz]
def a9w (hq:q<((A.getD k default).getD j default).length) (h:¬j=gb (A.getD k default)):qe t A k j (q+1)=qe t A k j q++[idT t (((A.getD k default).getD j default).getD q default)]:=by
 unfold qe rmQ;rw[if_neg h,if_neg h,ar hq];simp only[bju,bjy,bk4,List.map_nil]
def a9h(h:j=gb (A.getD k default)):qe t A k j (q+1)=qe t A k j q:=by unfold qe rmQ;rw[if_pos h,if_pos h]
def aya (hs:SmG A) (hk:k<A.length) (hj:j<(A.getD k default).length):(qe t A k j q).length<=1000002000:=by
 have h1:=ad6 (l:=A) (i:=k) bmq;have h2:=aar (m:=3) hs (i:=k) bmq;have h3:=ad0 (g:=A.getD k default) (i:=j) bmq;have h4:=at8 (g:=A.getD k default) (j:=j);have h5:=(hs.at hk).1;have h6:=a5s hj;have h7:=hs.1;unfold gsT at h4;unfold qe rmQ;rw[bjf,biq];split
 · omega
 rw[biq,bjc];omega
def b70 {d:Fd}:∀g∈fj t d,∀p∈g,∀i∈p,i<t.rows.length:=fun g hg p hp i hi=>by
 obtain⟨c,hc,rfl⟩:=bj3.1 hg;obtain⟨x,hx,rfl⟩:=pf hp;exact o6 hc (bix.1 hi).1
def amv {d:Fd} (hT:TOk t) (he:EOk t):(gf t d).length<=t.rows.length:=by
 have h:=(am3 (d:=d) hT he).length_le_of_subset (l₂:=List.range t.rows.length) fun i hi=>bje.2 (a1a hi);rw[blc]at h;unfold gf;rwa [bjf]
def azi:a6 bnb 9:=wgx Tryz.func9
def b6n(t:Tbl)(d:Fd)(hT:TOk t)(he:EOk t)(h12:t.rows.length<=12)(hl:∀z,d.lhs.getLsbD z=true->z<t.attrs.length)(hrr:∀z,d.rhs.getLsbD z=true->z<t.attrs.length)(A:List (List (List Nat)))(hA:fj t d=A):aa bnb 9 [t.pc,d.pc] (ag [pP (zl (j1 (gf t d))),pI 0]):=by
 refine hpx (nt:=63) Tryz.func9 ?_;have hnr:=hT.nr;have hsg:SmG A:=hA▸acv (d:=d) hT;have hcG:aa bnb 35 [t.pc,d.pc] (ag [pP (ax2 A)]):=hA▸azr t d hT hl hrr;have hal:=hsg.1;have hlt:∀g∈A,∀p∈g,∀i∈p,i<t.rows.length:=hA▸b70;have hgo:gf t d=zw t A A.length:=by unfold gf uz rmA zw;rw[hA]
 have hgn:=aha (d:=d) hT he;have hgl:=amv (d:=d) hT he;rw[hgo]at hgn hgl;refine sx7 ?_;refine m9 0 ?_;refine m9 1 ?_;refine w_8 ?_;refine m9 2 ?_
 refine rc rfl rfl rfl rfl rfl rfl as1 (at1 t d hT hl hrr) (⟨CoC.refl _,CoC.one (CoP.sl rfl (.inl rfl) (fun h=>h) (fun i j hi hj=>by
  obtain rfl:i=0:=by omega
  revert j
  exact lt2 (CoP.refl _) (CoP.refl _))),trivial⟩) rfl rfl ?_
 refine a4m ?_;refine qcx atv (hcG) ?_;refine w_4 ?_;refine d4 7 900 true 1 2 (lf zC []) bmx rfl (CoP.sl rfl (.inr rfl) (fun h=>h) (fun i j hi _=>absurd hi (bip i))) (.inr rfl) rfl ?_;refine bp (ka 2 (ka 24 (ka 25 kn))) (kb 0 km) (fun k=>⟨[(7,some (.v (.one (.ref 900 (zw t A k).length)))),(26,some (vI k))],[(900,some (.arr true 1 2 (zw t A k).length (lf zC (zw t A k))))]⟩) A.length kk ?_;rintro k hk;refine w_5 ?_;refine hcd ?_ ?_<;>intro h0
 ·
  have hkc:k<A.length:=by omega
  have hsm:=hsg.at hkc;have hgz:=hsm.1;have hgz2:=hsm.2.1
  have hgp:0<(A.getD k default).length:=by
   have hz:=alq (t:=t) (d:=d) (k:=k) (by rw[hA];exact hkc);rwa [hA]at hz
  refine gz ?_;refine qcx atc (art (A.getD k default) hgp hsm.2.1) ?_;refine w_9 ?_;refine bp (ka 2 (ka 10 (ka 24 (ka 25 (ka 26 (ka 32 (ka 33 kn))))))) (kb 0 km) (fun j=>⟨[(7,some (.v (.one (.ref 900 (xc t A k j).length)))),(34,some (vI j))],[(900,some (.arr true 1 2 (xc t A k j).length (lf zC (xc t A k j))))]⟩) ((A.getD k default).length) ⟨⟨⟨_,rfl,(by rw[ar4];exact CoR.refl _)⟩,tt⟩,⟨⟨_,rfl,(by rw[ar4];exact CoO.refl _)⟩,trivial⟩⟩ ?_;rintro j hj;refine w_5 ?_;refine hcd ?_ ?_<;>intro h1
  ·
   have hjc:j<(A.getD k default).length:=by omega
   have hpl:=a5s hjc;refine a4m ?_;refine bp (ka 2 (ka 10 (ka 11 (ka 24 (ka 25 (ka 26 (ka 32 (ka 33 (ka 34 (ka 39 (ka 40 kn))))))))))) (kb 0 km) (fun q=>⟨[(7,some (.v (.one (.ref 900 (qe t A k j q).length)))),(41,some (vI q))],[(900,some (.arr true 1 2 (qe t A k j q).length (lf zC (qe t A k j q))))]⟩) (((A.getD k default).getD j default).length) ⟨⟨⟨_,rfl,(by rw[arl];exact CoR.refl _)⟩,tt⟩,⟨⟨_,rfl,(by rw[arl];exact CoO.refl _)⟩,trivial⟩⟩ ?_;rintro q hq;refine w_5 ?_;refine hcd ?_ ?_<;>intro h2
   ·
    have hqc:q<((A.getD k default).getD j default).length:=by omega
    have hix:((A.getD k default).getD j default).getD q default<t.rows.length:=hlt (A.getD k default) (by rw[ah _ _ hkc];exact bin _) ((A.getD k default).getD j default) (by rw[ah _ _ hjc];exact bin _) _ (by rw[ah _ _ hqc];exact bin _);have hL:=aya (t:=t) (q:=q) hsg hkc hjc;refine ic ?_;refine hcn ?_ ?_<;>intro h3
    ·
     have hne:¬j=gb (A.getD k default):=by have hz:=h3;omega
     refine w_5 ?_;refine rq rfl rfl rfl rfl rfl ?_ (hp:=⟨rfl,bjp _,bkm.2 hix⟩);refine w_2 ?_;refine m9 3 ?_;refine r9 4 true ?_;refine w_6 ?_
     first | (refine lpz (q+1) ⟨⟨⟨_, rfl, (bq (a9w hqc hne))⟩, tt⟩, ⟨⟨_, rfl, (bn (a9w hqc hne) (CoP.refl _))⟩, uu⟩⟩ ?_; show q+1<=_; omega)
           |(refine lpz (q+1) ⟨⟨⟨_,rfl,(bz (a9h hne))⟩,tt⟩,⟨⟨_,rfl,(bm (a9h hne))⟩,uu⟩⟩ ?_;show q+1<=_;omega)
    have hne:j=gb (A.getD k default):=by have hz:=h3;omega
    refine w_5 ?_
    first | (refine lpz (q+1) ⟨⟨⟨_, rfl, (bq (a9w hqc hne))⟩, tt⟩, ⟨⟨_, rfl, (bn (a9w hqc hne) (CoP.refl _))⟩, uu⟩⟩ ?_; show q+1<=_; omega)
          |(refine lpz (q+1) ⟨⟨⟨_,rfl,(bz (a9h hne))⟩,tt⟩,⟨⟨_,rfl,(bm (a9h hne))⟩,uu⟩⟩ ?_;show q+1<=_;omega)
   obtain rfl:q=((A.getD k default).getD j default).length:=by omega
   refine w_5 ?_;exact lpx (j+1) ⟨⟨⟨_,rfl,(by rw[<- ahy];exact CoR.refl _)⟩,tt⟩,⟨⟨_,rfl,(by rw[<- ahy];exact CoO.refl _)⟩,uu⟩⟩
  obtain rfl:j=(A.getD k default).length:=by omega
  refine w_5 ?_;exact lpx (k+1) ⟨⟨⟨_,rfl,(by rw[<- ajs];exact CoR.refl _)⟩,tt⟩,⟨⟨_,rfl,(by rw[<- ajs];exact CoO.refl _)⟩,uu⟩⟩
 obtain rfl:k=A.length:=by omega
 refine w_4 ?_;refine fc9 b7w ((bcb (zw t A A.length) hgn bmq).swap 1000 900) uu ?_;refine w_2 ?_;refine bh 7 rfl rfl rfl ?_;refine v_5 ?_;exact⟨CoC.one (CoP.of_eq (by rw[hgo];show PV.sl _ 1 false _=PV.sl (j1 _).length 1 false _;rw[a2n])),CoC.refl _,trivial⟩
end
section
open Go.Proofs
def a1w(ids:List Int)(r:Row):Bool:=decide (r.id∈ids)
def kpI(t:Tbl)(ids:List Int):Tbl:={ t with rows:=t.rows.filter (a1w ids) }
section
variable {t:Tbl}
def bdy (hT:TOk t) {p:Row->Bool}:∀i,i<(t.rows.filter p).length->((t.rows.filter p).getD i default).vals.length<=1000:=fun i hi=>by
 have hm:(t.rows.filter p).getD i default∈t.rows.filter p:=by rw[ah _ _ hi];exact bin _
 have:=(fk hT.rs _ (bix.1 hm).1).2.1;have hna:=hT.na;omega
def a80{α:Type}{p:α->Bool}{l:List α}{i:Nat}:((l.take i).filter p).length<=i:=bj2 (bk9 _ _) (bkx _ _)
def nIn(g:List Int)(r:Row):Bool:=!decide (r.id∈g)
def qk(t:Tbl)(g:List Int)(i:Nat):List Int:=((t.rows.take i).filter (nIn g)).map (·.id)
variable {g:List Int}
def aa8 {i:Nat} (hi:i<t.rows.length) (h:nIn g (t.rows.getD i default)=true):qk t g (i+1)=qk t g i++[(t.rows.getD i default).id]:=by
 unfold qk;rw[a1x hi h,bju];rfl
def aan {i:Nat} (hi:i<t.rows.length) (h:nIn g (t.rows.getD i default)=false):qk t g (i+1)=qk t g i:=by
 unfold qk;rw[a1q hi h]
def awi{i:Nat}:(qk t g i).length<=i:=by unfold qk;rw[bjf];exact a80
def b7s:kpI t (qk t g t.rows.length)=tu t g:=by
 unfold kpI tu;congr 1;refine List.filter_congr fun r hr=>?_;unfold a1w qk nIn;rw[biz,bma,decide_eq_true_eq,bjq,decide_eq_false_iff_not];constructor
 · intro h
   obtain⟨s,hs,he⟩:=bj3.1 h;have h2:=(bix.1 hs).2;simp only[bjq,decide_eq_false_iff_not]at h2;rwa [<- he]
 intro h;exact bj3.2 ⟨r,bix.2 ⟨hr,by simpa using h⟩,rfl⟩
def b7v:a6 bnb 39:=wgx Tryz.func39
def b5z(t:Tbl)(ids:List Int)(hT:TOk t):aa bnb 39 [t.pc,pP (zl ids)] (ag [(kpI t ids).pc]):=by
 refine hpx (nt:=27) Tryz.func39 ?_;have hna:=hT.na;have hnr:=hT.nr;refine sx7 ?_;refine m9 0 ?_;refine m9 1 ?_;refine mf ?_;refine d4 5 900 true 2 106 (lf Row.c []) bmx rfl (CoP.sl rfl (.inr rfl) (fun h=>h) (fun i j hi _=>absurd hi (bip i))) (.inr rfl) rfl ?_;refine bp (ka 1 (ka 2 (ka 4 (ka 9 (ka 10 kn))))) (kb 0 (kb 1 km)) (fun i=>⟨[(5,some (.v (.one (.ref 900 ((t.rows.take i).filter (a1w ids)).length)))),(11,some (vI i))],[(900,some (.arr true 2 106 ((t.rows.take i).filter (a1w ids)).length (lf Row.c ((t.rows.take i).filter (a1w ids)))))]⟩) t.rows.length kk ?_;rintro i hi;have hlen:((t.rows.take i).filter (a1w ids)).length<=i:=a80;refine w_5 ?_;refine hcd ?_ ?_<;>intro h0
 ·
  have hir:i<t.rows.length:=by omega
  refine w_7 ?_;refine m9 2 ?_;refine w_7 ?_;refine qcx b90 (bc6 ids (t.rows.getD i default).id) ?_;refine ce ?_;refine az _ rfl ?_ ?_<;>intro r1
  ·
   have h1:=r1;have hq:a1w ids (t.rows.getD i default)=true:=r1;refine w_3 ?_;refine m9 3 ?_;refine r9 4 true ?_;refine w_6 ?_
   first | (refine lpz (i+1) ⟨⟨⟨_, rfl, (bq (a1x bmq hq))⟩, tt⟩, ⟨⟨_, rfl, (jq (a1x bmq hq) (CoP.refl _) (CoP.refl _))⟩, uu⟩⟩ ?_; show i+1<=_; omega)
         |(refine lpz (i+1) ⟨⟨⟨_,rfl,(bz (a1q bmq hq))⟩,tt⟩,⟨⟨_,rfl,(bm (a1q bmq hq))⟩,uu⟩⟩ ?_;show i+1<=_;omega)
  have h1:=r1;have hq:a1w ids (t.rows.getD i default)=false:=r1;refine w_5 ?_
  first | (refine lpz (i+1) ⟨⟨⟨_, rfl, (bq (a1x bmq hq))⟩, tt⟩, ⟨⟨_, rfl, (jq (a1x bmq hq) (CoP.refl _) (CoP.refl _))⟩, uu⟩⟩ ?_; show i+1<=_; omega)
        |(refine lpz (i+1) ⟨⟨⟨_,rfl,(bz (a1q bmq hq))⟩,tt⟩,⟨⟨_,rfl,(bm (a1q bmq hq))⟩,uu⟩⟩ ?_;show i+1<=_;omega)
 obtain rfl:i=t.rows.length:=by omega
 refine w_2 ?_;refine bh 5 rfl rfl rfl ?_;refine w_3 ?_;refine qcx b7y (b8q t ((t.rows.take t.rows.length).filter (a1w ids)) bmq (bj2 a80 bmq) (by rw[biz];exact bdy hT)) ?_;refine v_2 ?_;exact⟨CoC.of_eq (by rw[biz];rfl),trivial⟩
def b5m:a6 bnb 10:=wgx Tryz.func10
def bbp(t:Tbl)(d:Fd)(hT:TOk t)(he:EOk t)(h12:t.rows.length<=12)(hl:∀z,d.lhs.getLsbD z=true->z<t.attrs.length)(hrr:∀z,d.rhs.getLsbD z=true->z<t.attrs.length):aa bnb 10 [t.pc,d.pc] (ag [(tu t (j1 (gf t d))).pc,pI 0]):=by
 refine hpx (nt:=48) Tryz.func10 ?_;have hnr:=hT.nr;have hgn:=aio (aha (d:=d) hT he);have hgl:(j1 (gf t d)).length<=t.rows.length:=by rw[a2n];exact amv hT he
 refine sx7 ?_;refine m9 0 ?_;refine m9 1 ?_;refine m9 2 ?_;refine w_6 ?_;refine qcx azi (b6n t d hT he h12 hl hrr _ rfl) ?_;refine bec ?_;refine d4 8 900 true 1 2 (lf zC []) bmx rfl (CoP.sl rfl (.inr rfl) (fun h=>h) (fun i j hi _=>absurd hi (bip i))) (.inr rfl) rfl ?_;refine bp (ka 2 (ka 4 (ka 6 (ka 24 (ka 25 kn))))) (kb 0 (kb 2 km)) (fun i=>⟨[(8,some (.v (.one (.ref 900 (qk t (j1 (gf t d)) i).length)))),(26,some (vI i))],[(900,some (.arr true 1 2 (qk t (j1 (gf t d)) i).length (lf zC (qk t (j1 (gf t d)) i))))]⟩) t.rows.length kk ?_;rintro i hi;have hlen:(qk t (j1 (gf t d)) i).length<=i:=awi;refine w_5 ?_;refine hcd ?_ ?_<;>intro h0
 ·
  have hir:i<t.rows.length:=by omega
  refine w_7 ?_;refine m9 3 ?_;refine w_7 ?_;refine qcx b7j (bcp (j1 (gf t d)) (t.rows.getD i default).id hgn bmq) ?_;refine ip ?_;refine az _ rfl ?_ ?_<;>intro r1
  ·
   have h1:=iu r1;have hq:nIn (j1 (gf t d)) (t.rows.getD i default)=true:=by unfold nIn;simpa using r1
   refine w_4 ?_;refine m9 4 ?_;refine r9 5 true ?_;refine w_6 ?_
   first | (refine lpz (i+1) ⟨⟨⟨_, rfl, (bq (aa8 bmq hq))⟩, tt⟩, ⟨⟨_, rfl, (bn (aa8 bmq hq) (CoP.refl _))⟩, uu⟩⟩ ?_; show i+1<=_; omega)
         |(refine lpz (i+1) ⟨⟨⟨_,rfl,(bz (aan bmq hq))⟩,tt⟩,⟨⟨_,rfl,(bm (aan bmq hq))⟩,uu⟩⟩ ?_;show i+1<=_;omega)
  have h1:=iz r1;have hq:nIn (j1 (gf t d)) (t.rows.getD i default)=false:=by unfold nIn;simpa using r1
  refine w_5 ?_
  first | (refine lpz (i+1) ⟨⟨⟨_, rfl, (bq (aa8 bmq hq))⟩, tt⟩, ⟨⟨_, rfl, (bn (aa8 bmq hq) (CoP.refl _))⟩, uu⟩⟩ ?_; show i+1<=_; omega)
        |(refine lpz (i+1) ⟨⟨⟨_,rfl,(bz (aan bmq hq))⟩,tt⟩,⟨⟨_,rfl,(bm (aan bmq hq))⟩,uu⟩⟩ ?_;show i+1<=_;omega)
 obtain rfl:i=t.rows.length:=by omega
 refine w_2 ?_;refine bh 8 rfl rfl rfl ?_;refine w_3 ?_;refine qcx b7v (b5z t (qk t (j1 (gf t d)) t.rows.length) hT) ?_;refine v_3 ?_;exact⟨CoC.of_eq (by rw[b7s]),CoC.refl _,trivial⟩
end
end
section
open Go.Proofs
def ame {a b:Prt} (ha:f7 a=true):∀{k:Nat},k<=a.cls.length->0<=uy a (ap b) k/\uy a (ap b) k<=1000*k
 |0,_=>⟨Int.le_refl _,Int.le_refl _⟩
 | k+1,h=>by
  have h1:0<=uy a (ap b) k/\uy a (ap b) k<=1000*k:=ame ha bmq;have h2:=tk ha (show k<a.cls.length by omega);have h3:=a99 (l:=ap b) (c:=a.cls.getD k default) (j:=(a.cls.getD k default).length);rw[a56];omega
def b9j:a6 bnb 12:=wgx Tryz.func12
def bcq(a b:Prt)(ha:f7 a=true)(hb:f7 b=true)(hr:a.rows=b.rows):aa bnb 12 [a.pc,b.pc] (ag [pI (uy a (ap b) a.cls.length),pI 0]):=by
 refine hpx (nt:=61) Tryz.func12 ?_;have hca:=mc ha;have hcb:=mc hb;obtain⟨hr0,hr1⟩:=l7 ha;have hlb:(ap b).length=a.rows.toNat:=by rw[hr];exact gu
 refine sx7 ?_;refine m9 0 ?_;refine m9 1 ?_;refine w_8 ?_;refine qcx ahb (ak4 a b ha hb hr) ?_;refine gz ?_;refine qcx aa2 (afy b hb) ?_;refine ic ?_;refine bp (ka 7 (ka 24 (ka 25 kn))) km (fun k=>⟨[(8,some (vI (uy a (ap b) k))),(26,some (vI k))],[]⟩) a.cls.length kk ?_;rintro k hk;refine w_5 ?_;refine hcd ?_ ?_<;>intro h0
 ·
  have hkc:k<a.cls.length:=by omega
  have hrl:=tk ha hkc;have hvc:=ss ha hkc;have hst:=a56 (p:=a) (l:=(ap b)) (k:=k);have hlb1:=ame (b:=b) ha (Nat.le_of_lt hkc);have hml:=a99 (l:=(ap b)) (c:=(a.cls.getD k default)) (j:=(a.cls.getD k default).length);have hrl2:(a.cls.getD ((k:Int)).toNat default).length<=1000:=hrl;refine ip ?_;refine m9 2 ?_;refine mf ?_;refine bp (ka 7 (ka 8 (ka 10 (ka 11 (ka 24 (ka 25 (ka 26 (ka 31 (ka 32 kn))))))))) km (fun j=>⟨[(12,some (vI (tg (ap b) (a.cls.getD k default) j:Nat))),(33,some (vI j))],[(2,some (.mp (.int .i64) j (cnF (ap b) (a.cls.getD k default) j)))]⟩) ((a.cls.getD k default).length) ⟨tt,⟨⟨_,rfl,⟨rfl,bil _,b04⟩⟩,trivial⟩⟩ ?_;rintro j hj;refine w_5 ?_;refine hcd ?_ ?_<;>intro h1
  ·
   have hjc:j<(a.cls.getD k default).length:=by omega
   obtain⟨hj1,hj2,hj3⟩:=vw hvc hjc;have hjr:((a.cls.getD k default).getD j default)<(ap b).length:=by omega
   have hsm:=xa (p:=b) (m:=1000) (k:=b.cls.length) bmq hcb ((a.cls.getD k default).getD j default) (by rw[gu,<- hr];omega);have hwf:(Lit.int .i64 ((ap b).getD ((a.cls.getD k default).getD j default) default)).wf=true:=ap8 (by show _<=(gl b b.cls.length).getD ((a.cls.getD k default).getD j default) default;omega) (by show(gl b b.cls.length).getD ((a.cls.getD k default).getD j default) default<=_;omega);have hcl:=aix (l:=(ap b)) (c:=(a.cls.getD k default)) (j:=j) (z:=((ap b).getD ((a.cls.getD k default).getD j default) default));have hms:=yu (l:=(ap b)) (c:=(a.cls.getD k default)) (j:=j);refine mf ?_;refine rq rfl rfl rfl rfl rfl ?_ (hp:=⟨rfl,bjp _,bkm.2 hjr⟩);refine qy ?_;refine rq (out:=⟨_, .v (.one (.p (.raw (.int .i64 (kj (ap b) (a.cls.getD k default) j ((ap b).getD ((a.cls.getD k default).getD j default) default):Int)))))⟩) rfl rfl rfl (congrArg (fun z=>some (Out.mk _ (HR.v (HC.one (HV.p z))))) (aku _ _ _ _)) rfl ?_ (hp:=⟨rfl,rfl,hwf⟩);refine qy ?_;refine rs rfl rfl rfl rfl rfl ?_ (hp:=⟨rfl,⟨rfl,hwf⟩,by simp only[maxLen];omega⟩);refine ce ?_;refine dw ⟨[(7,some _),(8,some _),(10,some _),(11,some _),(12,some _),(14,some _),(24,some _),(25,some _),(26,some _),(31,some _),(32,some _),(33,some _)],[(2,some (.mp (.int .i64) (j+1) (cnF (ap b) (a.cls.getD k default) (j+1))))]⟩ ⟨tt,⟨⟨_,rfl,⟨rfl,bil _,b2n hjc rfl⟩⟩,trivial⟩⟩ ?_;refine w_5 ?_;refine rq rfl rfl rfl rfl rfl ?_ (hp:=⟨rfl,bjp _,bkm.2 hjr⟩);refine qy ?_;refine rq (out:=⟨_, .v (.one (.p (.raw (.int .i64 (kj (ap b) (a.cls.getD k default) (j+1) ((ap b).getD ((a.cls.getD k default).getD j default) default):Int)))))⟩) rfl rfl rfl (congrArg (fun z=>some (Out.mk _ (HR.v (HC.one (HV.p z))))) (aku _ _ _ _)) rfl ?_ (hp:=⟨rfl,rfl,hwf⟩);refine w_7 ?_;exact lpx (j+1) ⟨⟨⟨_,rfl,(coi (by rw[hms];omega))⟩,tt⟩,uu⟩
  obtain rfl:j=(a.cls.getD k default).length:=by omega
  refine mf ?_;exact lpx (k+1) ⟨⟨⟨_,rfl,(coi hst.symm)⟩,tt⟩,trivial⟩
 obtain rfl:k=a.cls.length:=by omega
 refine v_7 ?_;exact CoL.refl _
end
section
open Go.Proofs
def aos {r d:Nat} {x:Int} (h:x=(d:Int)):(.agg [.raw (.int .u64 0), .raw (.int .u64 (((r+r:Nat):Int)+x))]:PC)=pW (2*r+d):=by
 rw[h,show((r+r:Nat):Int)+(d:Int)=((2*r+d:Nat):Int) by omega]
def azc {x:Int} {k:Nat} (h:0<=x):0<=x.fdiv (2^k):=by
 rw[bkb _ (Int.le_of_lt (Int.pow_pos bmx))];exact Int.ediv_nonneg h (Int.le_of_lt (Int.pow_pos bmx))
def b85{a:Nat}(h:a<4294967296):shN a 128=0:=b4s (bl0 h bmx)
def b8e {a n:Nat} (h:a<4294967296) (hn:64<=n):a/2^n%2=0:=by
 rw[bm2 (bl0 h (bj2 (by decide:4294967296<=2^64) (bkv bmx hn)))]
def b52 {a n:Nat} (hn:n<64):((a:Int).fdiv (2^(min n 64)))%2=((a/2^n%2:Nat):Int):=by
 rw[bjw bmq,bkb _ (by exact Int.le_of_lt (Int.pow_pos bmx))];rw[show(2:Int)^n=((2^n:Nat):Int) by simp,<- bli];rfl
def ach:a6 bnb 170:=wgx Tryz.func170
def abv(a b:Nat)(hb:0<b)(ha:a<4294967296)(hb2:b<4294967296):aa bnb 170 [pW a,pW b] (ag [pW (a/b),pW (a%b)]):=by
 refine hpx (nt:=48) Tryz.func170 ?_;refine sx7 ?_;refine m9 0 ?_;refine m9 1 ?_;refine m9 2 ?_;refine m9 3 ?_;refine w_3 ?_;refine m9 4 ?_;refine m9 5 ?_;refine w_7 ?_;refine b7 (ι:=Nat) (ka 2 (ka 3 (ka 4 (ka 5 (ka 6 (ka 7 kn)))))) (kb 0 (kb 1 (kb 2 (kb 3 km)))) (fun i=>⟨[(8,some (vI ((i:Int)-1)))],[(4,some (.box [.p (.raw (.int .u64 0)), .p (u6 (shN a i/b))])),(5,some (.box [.p (.raw (.int .u64 0)), .p (u6 (shN a i%b))]))]⟩) (fun i=>i<=128) (fun i=>i) (128) (bil _) ⟨⟨⟨_,rfl,(coi rfl)⟩,trivial⟩,⟨⟨_,rfl,⟨CoP.refl _,pu (by rw[b85 ha,Nat.zero_div];rfl),trivial⟩⟩,⟨_,rfl,⟨CoP.refl _,pu (by rw[b85 ha,Nat.zero_mod];rfl),trivial⟩⟩,trivial⟩⟩ ?_;rintro i hi;refine w_6 ?_;refine hcd ?_ ?_<;>intro h0
 ·
  obtain⟨n,rfl⟩:∃n,i=n+1:=⟨i-1,by omega⟩;have hbit:=axk (a:=a) (i:=n);have hbl:a/2^n%2<2:=bl9 _ bmx;have hdb:=b0a (a:=shN a (n+1)) (y:=b) (b:=a/2^n%2) hb hbl;rw[<- hbit]at hdb;have hrl:shN a (n+1)%b<b:=bl9 _ hb;have hql:shN a (n+1)/b<=shN a (n+1):=bmg _ _;have hsl:shN a (n+1)<=a:=bmg _ _;refine ic ?_;refine hcd ?_ ?_<;>intro h1
  ·
   have hbv:Int.fdiv 0 (2^(min ((((n+1:Nat):Int)-1)%64).toNat 64))%2=((a/2^n%2:Nat):Int):=by
    rw[b8e ha bmq,Int.zero_fdiv];rfl
   refine w_9 ?_;refine qcx a63 (abe (shN a (n+1)%b) (shN a (n+1)%b) bmq) ?_;refine db ?_;refine rq rfl rfl rfl rfl rfl ?_ (hp:=⟨azc bmq,by decide⟩);refine w_9 ?_;refine qcx a63 (abe (shN a (n+1)/b) (shN a (n+1)/b) bmq) ?_;refine w_6 ?_;refine rc rfl rfl rfl rfl rfl rfl a0j (a0y (2*(shN a (n+1)%b)+a/2^n%2) b) (⟨CoC.of_eq (aos hbv),CoC.refl _,trivial⟩) rfl rfl ?_;refine w_2 ?_;refine az _ rfl ?_ ?_<;>intro r2
   ·
    have h2:=iu r2;have hge:¬2*(shN a (n+1)%b)+a/2^n%2<b:=by simpa using r2
    rw[if_neg hge,if_neg hge]at hdb;refine w_4 ?_;refine rc rfl rfl rfl rfl rfl rfl amd (ane (2*(shN a (n+1)%b)+a/2^n%2) b bmq bmq) (⟨CoC.of_eq (aos hbv),CoC.refl _,trivial⟩) rfl rfl ?_;refine mf ?_;refine lpz n ⟨⟨⟨_,rfl,(coi bmq)⟩,tt⟩,⟨⟨_,rfl,⟨CoP.refl _,pu (by rw[hdb.1];omega),trivial⟩⟩,⟨_,rfl,⟨CoP.refl _,(by rw[hdb.2];first|exact CoP.refl _|exact pu ((congrArg (fun z=>((shN a (n+1)%b+shN a (n+1)%b:Nat):Int)+z) hbv).trans bmq)),trivial⟩⟩,uu⟩⟩ ?_;show n<=128;omega
   have h2:=iz r2;have hge:2*(shN a (n+1)%b)+a/2^n%2<b:=by simpa using r2
   rw[if_pos hge,if_pos hge]at hdb;refine w_6 ?_;refine lpz n ⟨⟨⟨_,rfl,(coi bmq)⟩,tt⟩,⟨⟨_,rfl,⟨CoP.refl _,pu (by rw[hdb.1];omega),trivial⟩⟩,⟨_,rfl,⟨CoP.refl _,(by rw[hdb.2];first|exact CoP.refl _|exact pu ((congrArg (fun z=>((shN a (n+1)%b+shN a (n+1)%b:Nat):Int)+z) hbv).trans bmq)),trivial⟩⟩,uu⟩⟩ ?_;show n<=128;omega
  have hbv:Int.fdiv (a:Int) (2^(min ((((n+1:Nat):Int)-1)%64).toNat 64))%2=((a/2^n%2:Nat):Int):=by
   rw[show((((n+1:Nat):Int)-1)%64).toNat=n by omega];exact b52 bmq
  refine w_5 ?_;refine qcx a63 (abe (shN a (n+1)%b) (shN a (n+1)%b) bmq) ?_;refine db ?_;refine rq rfl rfl rfl rfl rfl ?_ (hp:=⟨azc bmq,by decide⟩);refine w_9 ?_;refine qcx a63 (abe (shN a (n+1)/b) (shN a (n+1)/b) bmq) ?_;refine w_6 ?_;refine rc rfl rfl rfl rfl rfl rfl a0j (a0y (2*(shN a (n+1)%b)+a/2^n%2) b) (⟨CoC.of_eq (aos hbv),CoC.refl _,trivial⟩) rfl rfl ?_;refine w_2 ?_;refine az _ rfl ?_ ?_<;>intro r3
  ·
   have h3:=iu r3;have hge:¬2*(shN a (n+1)%b)+a/2^n%2<b:=by simpa using r3
   rw[if_neg hge,if_neg hge]at hdb;refine w_4 ?_;refine rc rfl rfl rfl rfl rfl rfl amd (ane (2*(shN a (n+1)%b)+a/2^n%2) b bmq bmq) (⟨CoC.of_eq (aos hbv),CoC.refl _,trivial⟩) rfl rfl ?_;refine mf ?_;refine lpz n ⟨⟨⟨_,rfl,(coi bmq)⟩,tt⟩,⟨⟨_,rfl,⟨CoP.refl _,pu (by rw[hdb.1];omega),trivial⟩⟩,⟨_,rfl,⟨CoP.refl _,(by rw[hdb.2];first|exact CoP.refl _|exact pu ((congrArg (fun z=>((shN a (n+1)%b+shN a (n+1)%b:Nat):Int)+z) hbv).trans bmq)),trivial⟩⟩,uu⟩⟩ ?_;show n<=128;omega
  have h3:=iz r3;have hge:2*(shN a (n+1)%b)+a/2^n%2<b:=by simpa using r3
  rw[if_pos hge,if_pos hge]at hdb;refine w_6 ?_;refine lpz n ⟨⟨⟨_,rfl,(coi bmq)⟩,tt⟩,⟨⟨_,rfl,⟨CoP.refl _,pu (by rw[hdb.1];omega),trivial⟩⟩,⟨_,rfl,⟨CoP.refl _,(by rw[hdb.2];first|exact CoP.refl _|exact pu ((congrArg (fun z=>((shN a (n+1)%b+shN a (n+1)%b:Nat):Int)+z) hbv).trans bmq)),trivial⟩⟩,uu⟩⟩ ?_;show n<=128;omega
 obtain rfl:i=0:=by omega
 refine v_9 ?_;exact⟨CoC.of_eq (by rw[azb]),CoC.of_eq (by rw[azb]),trivial⟩
end
section
open Go.Proofs
def b4a:a6 bnb 102:=wgx Tryz.func102
def b2l (s r:Nat) (hr:0<r) (h1:s<4294967296) (h2:r<4294967296):aa bnb 102 [pB false,pW s,pW r] (ag [pRt (rtN s r) (rtD s r),pI 0]):=by
 refine hpx (nt:=60) Tryz.func102 ?_;refine sx7 ?_;refine m9 0 ?_;refine m9 1 ?_;refine m9 2 ?_;refine w_6 ?_;refine m9 3 ?_;refine m9 4 ?_;refine w_6 ?_;refine b7 (ι:=Nat×Nat) (ka 0 (ka 4 (ka 5 (ka 6 (ka 8 (ka 9 kn)))))) (kb 0 (kb 1 (kb 2 km))) (fun x=>⟨[],[(3,some (.box [.p (.raw (.int .u64 0)), .p (u6 x.1)])),(4,some (.box [.p (.raw (.int .u64 0)), .p (u6 x.2)]))]⟩) (fun x=>Nat.gcd x.1 x.2=Nat.gcd s r/\x.1<4294967296/\x.2<4294967296) (fun x=>x.2) ((s,r)) (⟨rfl,h1,h2⟩) kk ?_;rintro x ⟨hg,hb1,hb2⟩;refine w_4 ?_;refine qcx b2e (b83 x.2) ?_;refine w_2 ?_;refine az _ rfl ?_ ?_<;>intro r0
 ·
  have h0:=iu r0;have hx2:¬x.2=0:=by simpa using r0
  have hm:x.1%x.2<x.2:=bl9 _ bmq;refine w_6 ?_;refine qcx ach (abv x.1 x.2 bmq hb1 hb2) ?_;refine w_3 ?_;refine m9 5 ?_;refine m9 6 ?_;refine db ?_;refine⟨(x.2,x.1%x.2), ?_, ?_, ?_⟩
  · exact⟨aj6.trans hg,hb2,by show x.1%x.2<_;omega⟩
  · show x.1%x.2<x.2;exact hm
  exact kk
 have h0:=iz r0;have hx0:x.2=0:=by simpa using r0
 have hx1:x.1=Nat.gcd s r:=by rw[<- hg,hx0,Nat.gcd_zero_right]
 have hgp:=agk (s:=s) hr;have hq1:s/x.1<=s:=bmg _ _;have hq2:r/x.1<=r:=bmg _ _;have hq3:(0:Int)<=((s/x.1:Nat):Int):=bjp _;have hq4:(0:Int)<=((r/x.1:Nat):Int):=bjp _;refine w_5 ?_;refine qcx ach (abv s x.1 bmq h1 hb1) ?_;refine w_9 ?_;refine qcx ach (abv r x.1 bmq h2 hb1) ?_;refine w_8 ?_;refine m9 7 ?_;refine w_7 ?_;refine rc rfl rfl rfl rfl rfl rfl a0j (a0y 9223372036854775807 (s/x.1)) (⟨CoC.of_eq rfl,CoC.refl _,trivial⟩) rfl rfl ?_;refine qy ?_;refine be rfl rfl ?_ ?_<;>intro r1
 ·
  have h1:=r1;exfalso
  first|omega|(simp only[decide_eq_true_eq]at *;omega)
 have h1:=r1;(iterate 2 refine qy ?_ (hg:=(gff r1)));refine rc rfl rfl rfl rfl rfl rfl a0j (a0y 9223372036854775807 (r/x.1)) (⟨CoC.of_eq rfl,CoC.refl _,trivial⟩) rfl (gff r1) ?_;refine w_2 ?_
 refine az _ rfl ?_ ?_<;>intro r2
 ·
  have h2:=ck r1 r2;exfalso
  first|omega|(simp only[decide_eq_true_eq]at *;omega)
 have h2:=ck r1 r2;refine kg ?_;refine az _ rfl ?_ ?_<;>intro r3
 · have h3:=r3;exfalso;exact absurd r3 bmx
 have h3:=r3;refine ip ?_;exact hx8 rfl rfl rfl (⟨CoC.of_eq (by rw[hx1];rfl),CoC.refl _,trivial⟩)
def b5t:a6 bnb 44:=wgx Tryz.func44
def b6k (s r:Nat) (hr:0<r) (h1:s<4294967296) (h2:r<4294967296):aa bnb 44 [pI s,pI r] (ag [pRt (rtN s r) (rtD s r),pI 0]):=by
 refine hpx (nt:=21) Tryz.func44 ?_;refine sx7 ?_;refine m9 0 ?_;refine w_8 ?_;refine hcd ?_ ?_<;>intro h0
 ·
  exfalso
  first|omega|(simp only[decide_eq_true_eq]at *;omega)
 refine w_9 ?_;refine qcx a0w (a0e s h1) ?_;refine qy ?_;refine qcx a0w (a0e r h2) ?_;refine rc rfl rfl rfl rfl rfl rfl b4a (b2l s r hr h1 h2) (⟨ccb (by rw[decide_eq_false (show ¬(s:Int)<0 by omega),decide_eq_false (show ¬(r:Int)<0 by omega)];rfl),CoC.refl _,CoC.refl _,trivial⟩) rfl rfl ?_;refine v_5 ?_;exact CoL.refl _
def b7u:a6 bnb 14:=wgx Tryz.func14
def bdu (s r:Nat) (hr:0<r) (h1:s<4294967296) (h2:r<4294967296):aa bnb 14 [pI s,pI r] (ag [pRt (rtN s r) (rtD s r)]):=by
 refine hpx (nt:=17) Tryz.func14 ?_;refine sx7 ?_;refine m9 0 ?_;refine w_5 ?_;refine qcx b5t (b6k s r hr h1 h2) ?_;refine w_3 ?_;refine m9 1 ?_;refine xk ?_;exact hx8 rfl rfl rfl (CoL.refl _)
end
section
open Go.Proofs
def ahm {x:Nat} (h:x<4294967296):d6 .and .u64 (x:Int) 4294967295=(x:Int):=by
 have h1:(BitVec.ofInt 64 (x:Int)&&&BitVec.ofInt 64 4294967295).toNat=x:=by
  rw[blj,bei bmq bmq,show(BitVec.ofInt 64 4294967295).toNat=2^32-1 from rfl,bit,bme];omega
 have e:d6 .and .u64 (x:Int) 4294967295=IntKind.wrap .u64 ((BitVec.ofInt 64 (x:Int)&&&BitVec.ofInt 64 4294967295).toNat:Int):=rfl;rw[e,h1,b4m bmq]
def awd {x:Nat} (h:x<4294967296):Int.fdiv (x:Int) (2^(min 32 64))=0:=by
 rw[show min 32 64=32 from rfl,bkb _ bmx];exact Int.ediv_eq_zero_of_lt bmq bmq
def aq0 {x:Nat}:Int.fdiv (x:Int) (2^(min 32 64))=((x/4294967296:Nat):Int):=by
 rw[show min 32 64=32 from rfl,bkb _ bmx];omega
def b2a:a6 bnb 103:=wgx Tryz.func103
def b5y (x y:Nat) (hx:x<1073741824) (hy:y<1073741824):aa bnb 103 [pP (u6 x),pP (u6 y)] (ag [pP (u6 0),pP (u6 (x*y))]):=by
 refine hpx (nt:=51) Tryz.func103 ?_;have hxy:x*y<=1073741823*1073741823:=bmo bmq bmq;have hxi:((x*y:Nat):Int)=(x:Int)*(y:Int):=bks x y;have hw:x*y/4294967296<4294967296:=by omega
 refine gz ?_;refine dw ⟨[(0,some _),(1,some _),(6,some (.v (.one (.p (u6 x)))))],[]⟩ ⟨⟨c9,c9,⟨_,rfl,ru (ahm bmq)⟩,trivial⟩,trivial⟩ ?_;refine w_6 ?_;refine dw ⟨[(0,some _),(1,some _),(6,some _),(7,some (.v (.one (.p (u6 0)))))],[]⟩ ⟨⟨c9,c9,c9,⟨_,rfl,ru (awd bmq)⟩,trivial⟩,trivial⟩ ?_;refine w_6 ?_;refine dw ⟨[(0,some _),(1,some _),(6,some _),(7,some _),(8,some (.v (.one (.p (u6 y)))))],[]⟩ ⟨⟨c9,c9,c9,c9,⟨_,rfl,ru (ahm bmq)⟩,trivial⟩,trivial⟩ ?_;refine w_6 ?_;refine dw ⟨[(0,some _),(1,some _),(6,some _),(7,some _),(8,some _),(9,some (.v (.one (.p (u6 0)))))],[]⟩ ⟨⟨c9,c9,c9,c9,c9,⟨_,rfl,ru (awd bmq)⟩,trivial⟩,trivial⟩ ?_;refine w_3 ?_;refine rq rfl rfl rfl rfl rfl ?_ (hp:=(by show inR .u64 ((x:Int)*(y:Int));rw[<- hxi];simp only[inR,j9,jv];omega));refine w_3 ?_;refine dw ⟨[(0,some _),(1,some _),(6,some _),(7,some _),(8,some _),(9,some _),(10,some (.v (.one (.p (u6 (x*y))))))],[]⟩ ⟨⟨c9,c9,c9,c9,c9,c9,⟨_,rfl,ru (hxi.symm)⟩,trivial⟩,trivial⟩ ?_;refine w_6 ?_;refine rq rfl rfl rfl rfl rfl ?_ (hp:=(by show inR .u64 (((0:Nat):Int)*(y:Int)+Int.fdiv ((x*y:Nat):Int) (2^(min 32 64)));rw[aq0];simp only[inR,j9,jv];omega));refine w_3 ?_;refine dw ⟨[(0,some _),(1,some _),(6,some _),(7,some _),(8,some _),(9,some _),(11,some (.v (.one (.p (u6 (x*y/4294967296))))))],[]⟩ ⟨⟨c9,c9,c9,c9,c9,c9,⟨_,rfl,ru (by show((0:Nat):Int)*(y:Int)+Int.fdiv ((x*y:Nat):Int) (2^(min 32 64))=_;rw[aq0];omega)⟩,trivial⟩,trivial⟩ ?_;refine w_6 ?_;refine dw ⟨[(0,some _),(1,some _),(6,some _),(7,some _),(9,some _),(11,some _),(12,some (.v (.one (.p (u6 (x*y/4294967296))))))],[]⟩ ⟨⟨c9,c9,c9,c9,c9,c9,⟨_,rfl,ru (ahm hw)⟩,trivial⟩,trivial⟩ ?_;refine w_6 ?_;refine dw ⟨[(0,some _),(1,some _),(6,some _),(7,some _),(9,some _),(12,some _),(13,some (.v (.one (.p (u6 0)))))],[]⟩ ⟨⟨c9,c9,c9,c9,c9,c9,⟨_,rfl,ru (awd hw)⟩,trivial⟩,trivial⟩ ?_;refine w_9 ?_
 refine dw ⟨[(0,some _),(1,some _),(7,some _),(9,some _),(13,some _),(12,some (.v (.one (.p (u6 (x*y/4294967296))))))],[]⟩ ⟨⟨c9,c9,c9,c9,c9,⟨_,rfl,ru (by show((x*y/4294967296:Nat):Int)+(x:Int)*((0:Nat):Int)=_;omega)⟩,trivial⟩,trivial⟩ ?_;refine w_8 ?_;refine rq rfl rfl rfl rfl rfl ?_ (hp:=(by show inR .u64 (((0:Nat):Int)*((0:Nat):Int)+((0:Nat):Int)+Int.fdiv ((x*y/4294967296:Nat):Int) (2^(min 32 64)));rw[aq0];simp only[inR,j9,jv];omega));refine w_3 ?_;refine dw ⟨[(0,some _),(1,some _),(4,some (.v (.one (.p (u6 0)))))],[]⟩ ⟨⟨c9,c9,⟨_,rfl,ru (by show((0:Nat):Int)*((0:Nat):Int)+((0:Nat):Int)+Int.fdiv ((x*y/4294967296:Nat):Int) (2^(min 32 64))=_;rw[aq0];omega)⟩,trivial⟩,trivial⟩ ?_;refine w_3 ?_;refine rq rfl rfl rfl rfl rfl ?_ (hp:=(by show inR .u64 ((x:Int)*(y:Int));rw[<- hxi];simp only[inR,j9,jv];omega));refine v_2 ?_;exact⟨CoC.refl _,cu hxi.symm,trivial⟩
def aqk:a6 bnb 45:=wgx Tryz.func45
def anu (a b:Nat) (ha:a<1073741824) (hb:b<1073741824):aa bnb 45 [pW a,pW b] (ag [pW (a*b)]):=by
 refine hpx (nt:=18) Tryz.func45 ?_;refine sx7 ?_;refine m9 0 ?_;refine m9 1 ?_;refine m9 2 ?_;refine w_7 ?_;refine qcx b2a (b5y a b ha hb) ?_;refine kg ?_;exact hx8 rfl rfl rfl (CoL.refl _)
def akb(x y:Nat):Int:=if x<y then -1 else if y<x then 1 else 0
def aqr:a6 bnb 15:=wgx Tryz.func15
def ayt (a b c e:Nat) (ha:a<1073741824) (hb:b<1073741824) (hc:c<1073741824) (he:e<1073741824):aa bnb 15 [pRt a b,pRt c e] (ag [pI (akb (a*e) (c*b))]):=by
 refine hpx (nt:=42) Tryz.func15 ?_;refine sx7 ?_;refine m9 0 ?_;refine m9 1 ?_;refine kg ?_;refine hcb ?_ ?_<;>intro h0
 ·
  exfalso
  first|omega|(simp_all;omega)
 refine w_5 ?_;refine qcx a0w (a0e a bmq) ?_;refine w_2 ?_;refine qcx a0w (a0e e bmq) ?_;refine qcx aqk (anu a e ha he) ?_;refine w_2 ?_;refine qcx a0w (a0e c bmq) ?_;refine w_2 ?_;refine qcx a0w (a0e b bmq) ?_;refine qcx aqk (anu c b hc hb) ?_;refine m9 2 ?_;refine m9 3 ?_;refine ip ?_;refine hcd ?_ ?_<;>intro h1
 ·
  exfalso
  first|omega|(simp only[decide_eq_true_eq]at *;omega)
 refine w_6 ?_;refine qcx a0j (a0y (a*e) (c*b)) ?_;refine ce ?_;refine az _ rfl ?_ ?_<;>intro r2
 ·
  have h2:=r2;have hq1:a*e<c*b:=by simpa using r2
  refine v_4 ?_;exact⟨cci (if_pos hq1).symm,trivial⟩
 have h2:=r2;have hq1:¬a*e<c*b:=by simpa using r2
 refine w_6 ?_;refine qcx a0j (a0y (c*b) (a*e)) ?_;refine ce ?_;refine az _ rfl ?_ ?_<;>intro r3
 ·
  have h3:=r3;have hq2:c*b<a*e:=by simpa using r3
  refine v_4 ?_;exact⟨cci (by unfold akb;rw[if_neg hq1,if_pos hq2]),trivial⟩
 have h3:=r3;have hq2:¬c*b<a*e:=by simpa using r3
 refine v_5 ?_;exact⟨cci (by unfold akb;rw[if_neg hq1,if_neg hq2]),trivial⟩
end
section
open Go.Proofs
def anc {n:Int} {l:List Fd} (hv:cg n l=0):aa bnb 127 [pI n,pP (fdl l)] (ag [pI 0]):=by
 have h:=abd n l;rw[hv]at h;exact h
def b27:a6 bnb 195:=wgx Tryz.func195
def bet(l:List Fd)(s:AS):aa bnb 195 [pP (fdl l),pA s] (ag [pI (aom l s)]):=by
 refine hpx (nt:=28) Tryz.func195 ?_;refine w_6 ?_;refine j4 0 rfl fun hn=>?_;refine w_6 ?_;refine b7 (ι:=Nat) (ka 1 (ka 7 (ka 8 kn))) km (fun i=>⟨[(9,some (vI i))],[]⟩) (fun i=>i<=l.length/\(∀j,j<i->a8m s (l.getD j default)=false)) (fun i=>l.length-i) (0) (⟨bio _,gt⟩) kk ?_;rintro i ⟨hi,hIi⟩;refine w_5 ?_;refine hcd ?_ ?_<;>intro h0
 ·
  refine w_8 ?_;refine m9 0 ?_;refine ip ?_;refine be rfl rfl ?_ ?_<;>intro r1
  ·
   have h1:=tz1 r1;(iterate 5 refine qy ?_ (hg:=(gtt r1)));refine w_2 ?_;refine az _ rfl ?_ ?_<;>intro r2
   · have h2:=tz2 (iu (dc r1 r2));refine v_5 ?_;exact⟨cci (vh (p:=a8m s) (i:=i) bmq hIi (by unfold a8m;simp_all [gh])).symm,trivial⟩
   have h2:=tz1 (iz (dc r1 r2));refine w_5 ?_;refine lpz (i+1) kk ?_;exact⟨by show i+1<=_;omega,f5 hIi (by unfold a8m;simp_all [gh])⟩
  have h1:=tz2 r1;(iterate 5 refine k9 (gft r1) ?_);refine w_8 ?_;refine lpz (i+1) kk ?_
  exact⟨by show i+1<=_;omega,f5 hIi (by unfold a8m;simp_all [gh])⟩
 refine v_5 ?_;exact⟨cci (ve (p:=a8m s) fun j hj=>hIi j bmq).symm,trivial⟩
def azs:a6 bnb 133:=wgx Tryz.func133
def b22(n:Nat)(l:List Fd)(hn:n<=12)(hv:cg n l=0):aa bnb 133 [pI (n:Int),pP (fdl l)] (ag [pP (asl (dt l n)),pI 0]):=by
 refine hpx (nt:=45) Tryz.func133 ?_;have hsl:=ym (aj (n:Int));have h0z:(0:Int)<=(n:Int):=by omega
 have h1z:(n:Int)<=16:=by omega
 refine gz ?_;refine be rfl rfl ?_ ?_<;>intro r0
 ·
  have h0:=tz1 r0;(iterate 2 refine k9 (gtf r0) ?_);refine w_9 ?_;refine hrr ?_
  omega
 have h0:=tz2 r0;(iterate 2 refine qy ?_ (hg:=(gff r0)));refine w_3 ?_;refine az _ rfl ?_ ?_<;>intro r1
 · have h1:=tz1 (ck r0 r1);exfalso;simp_all;omega
 have h1:=tz2 (ck r0 r1);refine w_6 ?_;refine hcd ?_ ?_<;>intro h2
 · exfalso;omega
 refine w_6 ?_;refine qcx a15 (anc hv) ?_;refine a4m ?_;refine rq rfl rfl rfl rfl rfl ?_ (hp:=⟨x8 h0z h1z,um h0z h1z⟩);refine rc rfl rfl rfl rfl rfl rfl at2 (ayl (aj (n:Int))) (⟨cci (wt h0z h1z),trivial⟩) rfl rfl ?_;refine w_4 ?_;refine d4 7 900 true 1 35 (lf sC []) bmx rfl (CoP.sl rfl (.inr rfl) (fun h=>h) (fun i j hi _=>absurd hi (bip i))) (.inr rfl) rfl ?_;refine bp (ka 1 (ka 29 (ka 30 kn))) km (fun i=>⟨[(7,some (.v (.one (.ref 900 (ua l (n:Int) i).length)))),(31,some (vI i))],[(900,some (.arr true 1 35 (ua l (n:Int) i).length (lf sC (ua l (n:Int) i))))]⟩) ((d8 (aj (n:Int))).length) kk ?_;rintro i hi;have hcl:=ato (l:=l) (n:=(n:Int)) (i:=i);refine w_5 ?_;refine hcd ?_ ?_<;>intro h3
 ·
  refine kg ?_;refine qcx b27 (bet l ((d8 (aj (n:Int))).getD i default)) ?_;refine w_2 ?_;refine hcd ?_ ?_<;>intro h4
  ·
   refine w_3 ?_;refine m9 0 ?_;refine r9 1 true ?_;refine w_6 ?_
   first | (refine lpz (i+1) ⟨⟨⟨_, rfl, (bq (a6r bmq bmr))⟩, tt⟩, ⟨⟨_, rfl, (bn (a6r bmq bmr) (CoP.refl _))⟩, trivial⟩⟩ ?_; show i+1<=_; omega)
         |(refine lpz (i+1) ⟨⟨⟨_,rfl,(bz (a61 bmq bmr))⟩,tt⟩,⟨⟨_,rfl,(bm (a61 bmq bmr))⟩,trivial⟩⟩ ?_;show i+1<=_;omega)
  refine w_5 ?_
  first | (refine lpz (i+1) ⟨⟨⟨_, rfl, (bq (a6r bmq bmr))⟩, tt⟩, ⟨⟨_, rfl, (bn (a6r bmq bmr) (CoP.refl _))⟩, trivial⟩⟩ ?_; show i+1<=_; omega)
        |(refine lpz (i+1) ⟨⟨⟨_,rfl,(bz (a61 bmq bmr))⟩,tt⟩,⟨⟨_,rfl,(bm (a61 bmq bmr))⟩,trivial⟩⟩ ?_;show i+1<=_;omega)
 obtain rfl:i=(d8 (aj (n:Int))).length:=by omega
 refine w_2 ?_;refine bh 7 rfl rfl rfl ?_;refine v_5 ?_;exact⟨CoC.one (CoP.of_eq (by rw[at4];rfl)),CoC.refl _,trivial⟩
end
end Go.Hx

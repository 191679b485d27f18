/- A part of the proof: SrC Tb2 Tb3 Tb4 Tb5 Jw2 Jn3 Jn5 Jo2 Jr1 Jp1 Jp2 Jb1 Jp3 Bz6 Ch15 Bz7 Bz8 Bz9 Y12 Sp5 Jp4 Kl1 To1. -/
import Derived.Shelf.SlLaysF0
import Derived.Shelf.SlSortCmp.NoneTotal
import Derived.Test.YtmoggbnlhllhaaaGreatDoorProg
import Derived.Test.YtmoggbnlhllhaaaGreatDoorUx22
import Derived.Test.YtmoggbnlhllhaaaGreatDoorUx23
set_option linter.all false
set_option maxRecDepth 100000
set_option maxHeartbeats 1000000
namespace Go.Hx
section
open Go.Proofs Go.RowKit
def b9l:∀(a b:List UInt8),Lib.compareBytes a b=ip a b
 | [],[]=>rfl
 | [],_::_=>rfl
 |_::_,[]=>rfl
 | x :: xs,y::ys=>by
  unfold Lib.compareBytes ip;rw[b9l xs ys];by_cases h1:x<y
  · have h2:x.toNat<y.toNat:=h1
    rw[if_pos h1,if_neg (fun e=>by rw[e]at h2;omega)];unfold sgn;rw[if_pos bpw]
  have h2:¬x.toNat<y.toNat:=h1;rw[if_neg h1];by_cases h3:y<x
  · have h4:y.toNat<x.toNat:=h3
    rw[if_pos h3,if_neg (fun e=>by rw[e]at h4;omega)];unfold sgn;rw[if_neg bpw,if_pos bpw]
  have h4:¬y.toNat<x.toNat:=h3;rw[if_neg h3,if_pos (UInt8.toNat_inj.1 bpw)]
def b2f:a6 bqh 251:=⟨Tryz.f251,Tryz.func251,by kernel_rfl,by kernel_rfl⟩
def b5w (a b:ByteArray):a7 bqh 251 [pS a,pS b] (af [pI (n5 a b)]):=by
 intro w imm us htab him hus
 match us,hus with
 | [u,v],⟨hu,hv,_⟩ =>
  obtain⟨rfl,_⟩:=hu;obtain⟨rfl,_⟩:=hv;refine(Any.bytealg_CompareString Tryz.laysCS a b w).mono ?_;rintro e w' ⟨rfl,rfl⟩;exact⟨_,imm,rfl,⟨by rw[b9l];rfl,rfl⟩,fun _ _=>rfl,him,Below.refl _ _⟩
 | [],h=>exact h.elim
 | [_],⟨_,h⟩=>exact h.elim
 |_::_::_::_,⟨_,_,h⟩=>exact h.elim
end
section
open Go.Proofs
def aog:a6 bqh 144:=wgx Tryz.func144
def bq8{p:Prop}(h:p:=by simp[d8, *]<;>omega):p:=h
def c76(v:Val):a7 bqh 144 [v.pc] (af [pB (d8 v)]):=by
 refine hpx (nt:=41) Tryz.func144 ?_;refine sx7 ?_;refine m9 0 ?_;refine nc ?_;refine hcd ?_ ?_<;>intro h0
 ·
  refine w_6 ?_;refine am rfl rfl ?_ ?_<;>intro r1
  ·
   have h1:=tz1 r1;(iterate 3 refine qy ?_ (hg:=(gtt r1)));refine w_3 ?_
   exact hx8 rfl rfl rfl (⟨ccb bq8,trivial⟩)
  have h1:=tz2 r1;(iterate 3 refine k9 (gft r1) ?_);refine w_3 ?_
  exact hx8 rfl rfl rfl (⟨ccb bq8,trivial⟩)
 refine w_5 ?_;refine hcd ?_ ?_<;>intro h2
 · refine v_7 ?_;exact⟨ccb bq8,trivial⟩
 refine w_5 ?_;refine hcd ?_ ?_<;>intro h3
 ·
  refine w_6 ?_;refine am rfl rfl ?_ ?_<;>intro r4
  ·
   have h4:=tz1 r4;(iterate 4 refine qy ?_ (hg:=(gtt r4)));refine w_3 ?_
   exact hx8 rfl rfl rfl (⟨ccb bq8,trivial⟩)
  have h4:=tz2 r4;(iterate 4 refine k9 (gft r4) ?_);refine w_3 ?_
  exact hx8 rfl rfl rfl (⟨ccb bq8,trivial⟩)
 refine w_5 ?_;refine hcd ?_ ?_<;>intro h5
 ·
  refine w_6 ?_;refine am rfl rfl ?_ ?_<;>intro r6
  ·
   have h6:=tz1 r6;(iterate 3 refine qy ?_ (hg:=(gtt r6)));refine w_3 ?_
   exact hx8 rfl rfl rfl (⟨ccb bq8,trivial⟩)
  have h6:=tz2 r6;(iterate 3 refine k9 (gft r6) ?_);refine w_3 ?_
  exact hx8 rfl rfl rfl (⟨ccb bq8,trivial⟩)
 refine v_5 ?_;exact⟨ccb bq8,trivial⟩
end
section
open Go.Proofs
def asv:a6 bqh 81:=wgx Tryz.func81
def bqc{p:Prop}(h:p:=by assumption):p:=h
def b8g(s:ByteArray):a7 bqh 81 [pS s] (af [pB (ke s)]):=by
 refine hpx (nt:=58) Tryz.func81 ?_;refine eu ?_;refine am rfl rfl ?_ ?_<;>intro r0
 ·
  have h0:=tz1 r0;(iterate 3 refine k9 (gtf r0) ?_);refine w_2 ?_;(iterate 2 refine k9 rfl ?_);refine w_7 ?_
  exact hx8 rfl rfl rfl (⟨ccb (by first|exact(adi (yw.2 bqc)).symm|exact(aa3 bpw).symm|exact(a6f bqc).symm),trivial⟩)
 have h0:=tz2 r0;(iterate 3 refine qy ?_ (hg:=(gff r0)));refine w_2 ?_;refine am rfl rfl ?_ ?_<;>intro r1
 ·
  have h1:=tz1 (ca r0 r1);(iterate 2 refine k9 (gtf r1) ?_);refine w_7 ?_
  exact hx8 rfl rfl rfl (⟨ccb (by first|exact(adi (yw.2 bqc)).symm|exact(aa3 bpw).symm|exact(a6f bqc).symm),trivial⟩)
 have h1:=tz2 (ca r0 r1);(iterate 2 refine qy ?_ (hg:=(gff r1)));refine w_2 ?_;refine aw _ rfl ?_ ?_<;>intro r2
 · have h2:=tz1 (ca r1 r2);refine v_4 ?_;exact⟨ccb (by first|exact(adi (yw.2 bqc)).symm|exact(aa3 bpw).symm|exact(a6f bqc).symm),trivial⟩
 have h2:=tz2 (ca r1 r2);refine ej ?_;refine dn (ι:=Unit) kn km (fun _i=>⟨[],[]⟩) (fun _i=>ke s=true) ?_ ?_
 ·
  refine w_7 ?_;refine ar (ι:=Nat) (ka 0 (ka 18 kn)) km (fun i=>⟨[(19,some (vI i))],[]⟩) (fun i=>i<=s.size/\(∀j,j<i->(ltr (ce s j)||dig (ce s j))=true)/\(0<i->ltr (ce s 0)=true)) (fun i=>s.size-i) (0) (⟨bm3 _,e9,fun h=>by omega⟩) kk ?_;rintro i ⟨hi,hI,hz⟩;refine w_5 ?_;refine hcd ?_ ?_<;>intro h3
  ·
   refine jd ?_;refine yy (ka 0 (ka 3 (ka 4 (ka 18 (ka 19 kn))))) km ⟨[(5,some (vB (ltr (ce s i))))],[]⟩ ?_ ?_
   ·
    refine w_4 ?_;refine am rfl rfl ?_ ?_<;>intro r4
    ·
     have h4:=tz1 r4;(iterate 2 refine qy ?_ (hg:=(gtt r4)));refine w_2 ?_;refine am rfl rfl ?_ ?_<;>intro r5
     ·
      have h5:=tz1 (bp r4 r5);(iterate 3 refine k9 (gtf r5) ?_);(iterate 2 refine k9 rfl ?_);refine k9 (gtf r5) ?_;refine w_2 ?_;(iterate 2 refine k9 rfl ?_);refine w_3 ?_
      exact⟨⟨⟨_,rfl,(cob (by simp[ltr, *]))⟩,tt⟩,trivial⟩
     have h5:=tz2 (bp r4 r5);(iterate 3 refine qy ?_ (hg:=(gff r5)));refine am rfl rfl ?_ ?_<;>intro r6
     ·
      have h6:=tz1 r6;(iterate 2 refine qy ?_ (hg:=(gtt r6)));refine qy ?_ (hg:=(gff r5));refine w_2 ?_;refine am rfl rfl ?_ ?_<;>intro r7
      ·
       have h7:=tz1 (bp r6 (ca r5 r7));(iterate 2 refine k9 (gtf r7) ?_);refine w_3 ?_
       exact⟨⟨⟨_,rfl,(cob (by simp[ltr, *]))⟩,tt⟩,trivial⟩
      have h7:=tz2 (bp r6 (ca r5 r7));(iterate 2 refine qy ?_ (hg:=(gff r7)));refine w_3 ?_
      exact⟨⟨⟨_,rfl,(cob (by simp[ltr, *]))⟩,tt⟩,trivial⟩
     have h6:=tz2 r6;(iterate 2 refine k9 (gft r6) ?_);refine rq rfl rfl rfl rfl (gff r5) ?_ (hp:=r6);refine w_2 ?_;(iterate 2 refine rq rfl rfl rfl rfl (gff (a4q r5 rfl)) ?_);refine w_3 ?_
     exact⟨⟨⟨_,rfl,(cob (by simp[ltr, *]))⟩,tt⟩,trivial⟩
    have h4:=tz2 r4;(iterate 2 refine k9 (gft r4) ?_);refine w_5 ?_;refine am rfl rfl ?_ ?_<;>intro r8
    ·
     have h8:=tz1 r8;(iterate 2 refine qy ?_ (hg:=(gtt r8)));refine w_3 ?_;refine am rfl rfl ?_ ?_<;>intro r9
     ·
      have h9:=tz1 (bp r8 r9);(iterate 2 refine k9 (gtf r9) ?_);refine w_3 ?_
      exact⟨⟨⟨_,rfl,(cob (by simp[ltr, *]))⟩,tt⟩,trivial⟩
     have h9:=tz2 (bp r8 r9);(iterate 2 refine qy ?_ (hg:=(gff r9)));refine w_3 ?_
     exact⟨⟨⟨_,rfl,(cob (by simp[ltr, *]))⟩,tt⟩,trivial⟩
    have h8:=tz2 r8;(iterate 2 refine k9 (gft r8) ?_);refine w_3 ?_;(iterate 2 refine rq rfl rfl rfl rfl (gff (a4q rfl rfl)) ?_);refine w_3 ?_
    exact⟨⟨⟨_,rfl,(cob (by simp[ltr, *]))⟩,tt⟩,trivial⟩
   refine w_5 ?_;refine am rfl rfl ?_ ?_<;>intro r10
   ·
    have h10:=dc r10;(iterate 3 refine qy ?_ (hg:=(gtt r10)));refine am rfl rfl ?_ ?_<;>intro r11
    ·
     have h11:=tz1 r11;(iterate 2 refine k9 (gtf r11) ?_);refine rq rfl rfl rfl rfl (gtt r10) ?_ (hp:=r11);refine qy ?_ (hg:=(gtt r10));(iterate 2 refine k9 rfl ?_);refine qy ?_ (hg:=(gtt r10));refine w_2 ?_
     refine aw _ rfl (fun _=>?_) (fun e=>Bool.noConfusion ((a4j r10 rfl).symm.trans e));refine v_4 ?_;exact⟨ccb (by first|exact(a4c (i:=i) bqc bqc).symm|exact(a63 (i:=i) bpw bqc (by simp[dig, *]<;>omega)).symm),trivial⟩
    have h11:=tz2 r11;(iterate 2 refine qy ?_ (hg:=(gff r11)));(iterate 2 refine qy ?_ (hg:=(gtt r10)));refine am rfl rfl ?_ ?_<;>intro r12
    ·
     have h12:=tz1 (ca r11 r12);(iterate 2 refine k9 (gtf r12) ?_);refine rq rfl rfl rfl rfl (gtt r10) ?_ (hp:=r12);refine w_2 ?_;refine aw _ rfl (fun _=>?_) (fun e=>Bool.noConfusion ((a4j r10 rfl).symm.trans e));refine w_4 ?_
     exact hx8 rfl rfl rfl (⟨ccb (by first|exact(a4c (i:=i) bqc bqc).symm|exact(a63 (i:=i) bpw bqc (by simp[dig, *]<;>omega)).symm),trivial⟩)
    have h12:=tz2 (ca r11 r12);(iterate 2 refine qy ?_ (hg:=(gff r12)));refine qy ?_ (hg:=(gtt r10));refine w_2 ?_;refine aw _ rfl ?_ ?_<;>intro r13
    · have h13:=tz1 (ca r12 (bp r10 r13));refine v_4 ?_;exact⟨ccb (by first|exact(a4c (i:=i) bqc bqc).symm|exact(a63 (i:=i) bpw bqc (by simp[dig, *]<;>omega)).symm),trivial⟩
    have h13:=tz2 (ca r12 (bp r10 r13));refine w_5 ?_;refine lpz (i+1) kk ?_;exact⟨by omega,da hI (by simp_all [dig]<;>omega),fun _=>b80 hz (fun e=>by first|assumption|(exfalso;omega))⟩
   have h10:=df r10;(iterate 3 refine k9 (gft r10) ?_);(iterate 2 refine k9 rfl ?_);(iterate 2 refine k9 (gft r10) ?_);(iterate 2 refine k9 rfl ?_);refine k9 (gft r10) ?_;refine w_8 ?_;refine lpz (i+1) kk ?_
   exact⟨by omega,da hI (by simp_all [dig]<;>omega),fun _=>b80 hz (fun e=>by first|assumption|(exfalso;omega))⟩
  refine dz ?_;refine⟨(), ?_, ?_⟩
  · exact b8o (fun e=>absurd ((yw (s:=s)).1 e) bqc) bpw (hz (Nat.pos_of_ne_zero (fun e=>absurd ((yw (s:=s)).1 bpw) bqc))) bqc (fun j hj=>hI j bpw)
  exact⟨trivial,trivial⟩
 rintro _ hj;refine v_4 ?_;exact⟨ccb hj.symm,trivial⟩
def b3c:a6 bqh 141:=wgx Tryz.func141
def bgs(l:List ByteArray)(s:ByteArray):a7 bqh 141 [pP (aan l),pS s] (af [pI (aea l s)]):=by
 refine hpx (nt:=19) Tryz.func141 ?_;refine fp 0 rfl (fun hn=>?_);refine w_4 ?_;refine dn (ι:=Unit) kn km (fun _i=>⟨[],[]⟩) (fun _i=>aea l s=-1) ?_ ?_
 ·
  refine w_7 ?_;refine ar (ι:=Nat) (ka 0 (ka 1 (ka 7 kn))) km (fun i=>⟨[(8,some (vI i))],[]⟩) (fun i=>i<=l.length/\∀j,j<i->decide (l.getD j default=s)=false) (fun i=>l.length-i) (0) (⟨bm3 _,e9⟩) kk ?_;rintro i ⟨hi,hI⟩;refine w_5 ?_;refine hcd ?_ ?_<;>intro h0
  ·
   refine sb ?_;refine hcd ?_ ?_<;>intro h1
   · refine v_5 ?_;exact⟨cci (qx (p:=fun x=>decide (x=s)) (i:=i) bpw hI (decide_eq_true h1.symm)).symm,trivial⟩
   refine w_5 ?_;refine lpz (i+1) kk ?_;exact⟨by omega,da hI (decide_eq_false fun e=>h1 e.symm)⟩
  refine dz ?_;refine⟨(), ?_, ?_⟩
  · exact qv (p:=fun x=>decide (x=s)) fun j hj=>hI j bpw
  exact⟨trivial,trivial⟩
 rintro _ hj;refine v_4 ?_;exact⟨cci hj.symm,trivial⟩
def b8c:a6 bqh 82:=wgx Tryz.func82
def bhk (l:List ByteArray) (s:ByteArray):a7 bqh 82 [pP (aan l),pS s] (af [pB (decide (0<=aea l s))]):=by
 refine hpx (nt:=9) Tryz.func82 ?_;refine w_8 ?_;refine qcx b3c (bgs _ _) ?_;refine v_3 ?_;exact CoL.refl _
def b3p:a6 bqh 202:=wgx Tryz.func202
def bh5(l:List Val)(g k:Nat)(caps:Nat->PV)(V:Val->Bool)(hg:a6 bqh g)(hV:∀i,i<l.length->a7 bqh g ((l.getD i default).pc::er caps k 0) (af [pB (V (l.getD i default))])):a7 bqh 202 [pP (vals l),pP (.fn g k caps)] (af [pI (idx V l)]):=by
 refine hpx (nt:=19) Tryz.func202 ?_;refine fp 0 rfl (fun hn=>?_);refine w_4 ?_;refine dn (ι:=Unit) kn km (fun _i=>⟨[],[]⟩) (fun _i=>idx V l=-1) ?_ ?_
 ·
  refine w_7 ?_;refine ar (ι:=Nat) (ka 0 (ka 1 (ka 7 kn))) km (fun i=>⟨[(8,some (vI i))],[]⟩) (fun i=>i<=l.length/\∀j,j<i->V (l.getD j default)=false) (fun i=>l.length-i) (0) (⟨bm3 _,e9⟩) kk ?_;rintro i ⟨hi,hI⟩;refine w_5 ?_;refine hcd ?_ ?_<;>intro h0
  ·
   refine jd ?_;refine rc rfl rfl rfl rfl rfl rfl hg (hV i bpw) (CoL.refl _) rfl rfl ?_;refine d5 ?_;refine hcb ?_ ?_<;>intro h1
   · refine v_5 ?_;exact⟨cci (qx (i:=i) bpw hI h1).symm,trivial⟩
   refine w_5 ?_;refine lpz (i+1) kk ?_;exact⟨by omega,da hI (h1)⟩
  refine dz ?_;refine⟨(), ?_, ?_⟩
  · exact qv fun j hj=>hI j bpw
  exact⟨trivial,trivial⟩
 rintro _ hj;refine v_4 ?_;exact⟨cci hj.symm,trivial⟩
def b65:a6 bqh 142:=wgx Tryz.func142
def bhp (l:List Val) (g k:Nat) (caps:Nat->PV) (V:Val->Bool) (hg:a6 bqh g) (hV:∀i,i<l.length->a7 bqh g ((l.getD i default).pc::er caps k 0) (af [pB (V (l.getD i default))])):a7 bqh 142 [pP (vals l),pP (.fn g k caps)] (af [pB (l.any V)]):=by
 refine hpx (nt:=9) Tryz.func142 ?_;refine w_8 ?_;refine qcx b3p (bh5 l g k caps V hg hV) ?_;refine v_3 ?_;exact⟨ccb aov,trivial⟩
def b2e:a6 bqh 143:=wgx Tryz.func143
def bgu (v:Val):a7 bqh 143 [v.pc] (af [pB (!d8 v)]):=by
 refine hpx (nt:=6) Tryz.func143 ?_;refine sx7 ?_;refine m9 0 ?_;refine w_5 ?_;refine qcx aog (c76 _) ?_;refine v_3 ?_;exact CoL.refl _
def bc0:a6 bqh 83:=wgx Tryz.func83
def c93 (l:List Val):a7 bqh 83 [pP (vals l)] (af [pB (l.all d8)]):=by
 refine hpx (nt:=6) Tryz.func83 ?_;refine w_7 ?_;refine qcx b65 (bhp l 143 0 (fun _=>.any) (fun v=>!d8 v) b2e (fun i _=>bgu _)) ?_;refine v_3 ?_;exact⟨ccb amm,trivial⟩
end
section
open Go.Proofs
abbrev vpL(ps:List PV):PV:=.vp ps.length fun j=>ps.getD j .any
def rE{n:Nat}{l:List Row}{i:Nat}{b e:Int}(hi:i<l.length)(h:fm n b (l.drop i)=e):(if(l.getD i default).id<=b then 1 else if(l.getD i default).vals.length≠n then 6 else if((l.getD i default).vals.all d8)=false then 1 else fm n (l.getD i default).id (l.drop (i+1)))=e:=by rw[<- alx hi];exact h
def tE {t:Tbl} {e:Int} (h0:ke t.name=true) (h1:¬16<t.attrs.length) (h2:¬1000<t.rows.length) (h3:a7z t.attrs=true) (h:fm t.attrs.length 0 t.rows=e):du t=e:=by
 have:¬(16<t.attrs.length\/1000<t.rows.length):=by omega
 simp[du,h0,h3,h,this]
def tE1{t:Tbl}(h0:ke t.name=false):du t=1:=by simp[du,h0]
def tE3{t:Tbl}(h0:ke t.name=true)(h1:16<t.attrs.length\/1000<t.rows.length):du t=3:=by simp[du,h0,h1]
def tE2 {t:Tbl} (h0:ke t.name=true) (h1:¬16<t.attrs.length) (h2:¬1000<t.rows.length) (h3:a7z t.attrs=false):du t=1:=by
 have:¬(16<t.attrs.length\/1000<t.rows.length):=by omega
 simp[du,h0,h3,this]
def a16:a6 bqh 30:=wgx Tryz.func30
def c88(t:Tbl):a7 bqh 30 [t.pc] (af [pI (du t)]):=by
 refine hpx (nt:=70) Tryz.func30 ?_;refine sx7 ?_;refine m9 0 ?_;refine w_7 ?_;refine qcx asv (b8g _) ?_;refine w_2 ?_;refine hcv ?_ ?_<;>intro h0
 · refine v_4 ?_;exact⟨cci (tE1 bqc).symm,trivial⟩
 refine w_9 ?_;refine am rfl rfl ?_ ?_<;>intro r1
 ·
  have h1:=tz1 r1;(iterate 4 refine k9 (gtf r1) ?_);refine w_7 ?_
  exact hx8 rfl rfl rfl (⟨cci (tE3 bqc bpw).symm,trivial⟩)
 have h1:=tz2 r1;(iterate 4 refine qy ?_ (hg:=(gff r1)));refine w_2 ?_;refine aw _ rfl ?_ ?_<;>intro r2
 · have h2:=tz1 (ca r1 r2);refine v_4 ?_;exact⟨cci (tE3 bqc bpw).symm,trivial⟩
 have h2:=tz2 (ca r1 r2);refine ej ?_;refine dn (ι:=Unit) (ka 1 kn) (kb 0 km) (fun _i=>⟨[],[]⟩) (fun _i=>a7z t.attrs=true) ?_ ?_
 ·
  refine w_8 ?_;refine ar (ι:=Nat) (ka 1 (ka 23 (ka 24 kn))) (kb 0 km) (fun i=>⟨[(25,some (vI i))],[]⟩) (fun i=>i<=t.attrs.length/\∀j,j<i->a3m t.attrs j=true) (fun i=>t.attrs.length-i) (0) (⟨bm3 _,e9⟩) kk ?_;rintro i ⟨hi,hI⟩;refine w_5 ?_;refine hcd ?_ ?_<;>intro h3
  ·
   refine nc ?_;refine qcx asv (b8g _) ?_;refine w_2 ?_;refine am rfl rfl ?_ ?_<;>intro r4
   ·
    have h4:=dc r4;(iterate 6 refine k9 (gtf r4) ?_);refine w_7 ?_
    exact hx8 rfl rfl rfl (⟨cci (tE2 bqc bpw bpw (a0c (i:=i) bpw (by first|(unfold a3m;simp_all;done)|(unfold a3m;rw[bp7];right;exact decide_eq_false bpw)))).symm,trivial⟩)
   have h4:=df r4;(iterate 5 refine qy ?_ (hg:=(gff r4)));refine rc rfl rfl rfl rfl rfl rfl b8c (bhk (t.attrs.take i) (t.attrs.getD i default)) (⟨CoC.one (aow (k:=i) bpw),CoC.refl _,trivial⟩) rfl (gff r4) ?_;refine w_2 ?_
   refine aw _ rfl ?_ ?_<;>intro r5
   · have h5:=ca r4 r5;refine v_4 ?_;exact⟨cci (tE2 bqc bpw bpw (a0c (i:=i) bpw (by first|(unfold a3m;simp_all;done)|(unfold a3m;rw[bp7];right;exact decide_eq_false bpw)))).symm,trivial⟩
   have h5:=ca r4 r5;have hM:=aro h5;refine w_5 ?_;refine lpz (i+1) kk ?_;exact⟨by omega,da hI (by simp only[a3m,bm8,decide_eq_true_eq];exact⟨by assumption,by simp_all⟩)⟩
  refine dz ?_;refine⟨(), ?_, ?_⟩
  · exact a8v fun j hj=>hI j bpw
  exact kk
 rintro _ hnm;refine w_4 ?_;refine dn (ι:=Unit) kn km (fun _i=>⟨[],[]⟩) (fun _i=>fm t.attrs.length 0 t.rows=0) ?_ ?_
 ·
  refine w_8 ?_;refine ar (ι:=(Nat×Int)) (ka 1 (ka 43 (ka 44 kn))) (kb 0 km) (fun x=>⟨[(5,some (vI x.2)),(45,some (vI x.1))],[]⟩) (fun x=>x.1<=t.rows.length/\fm t.attrs.length x.2 (t.rows.drop x.1)=fm t.attrs.length 0 t.rows) (fun x=>t.rows.length-x.1) ((0,0)) (⟨bm3 _,rfl⟩) kk ?_;rintro⟨i,b⟩ ⟨hi,hI⟩;dsimp only at hi hI ⊢;refine w_5 ?_;refine hcd ?_ ?_<;>intro h6
  ·
   refine w_7 ?_;refine m9 1 ?_;refine l6 ?_;refine hcd ?_ ?_<;>intro h7
   · refine w_4 ?_;refine hrr ?_;have hs:=rE bpw hI;rw[if_pos bpw]at hs;exact f9 rfl rfl (⟨cci (tE bqc bpw bpw bqc hs.symm).symm,trivial⟩)
   refine jb ?_;refine hcn ?_ ?_<;>intro h8
   · refine w_4 ?_;refine hrr ?_;have hs:=rE bpw hI;rw[if_neg bpw,if_pos bpw]at hs;exact f9 rfl rfl (⟨cci (tE bqc bpw bpw bqc hs.symm).symm,trivial⟩)
   refine w_4 ?_;refine qcx bc0 (c93 _) ?_;refine w_3 ?_;refine hcv ?_ ?_<;>intro h9
   · refine w_4 ?_;refine hrr ?_;have hs:=rE bpw hI;rw[if_neg bpw,if_neg bpw,if_pos bqc]at hs;exact f9 rfl rfl (⟨cci (tE bqc bpw bpw bqc hs.symm).symm,trivial⟩)
   refine eu ?_;refine lpz (i+1,(t.rows.getD i default).id) kk ?_;refine⟨by dsimp only;omega, ?_⟩;have hs:=rE bpw hI;rw[if_neg bpw,if_neg bpw,if_neg (fun e=>Bool.noConfusion (e.symm.trans (show _=true by assumption)))]at hs;exact hs
  refine dz ?_;refine⟨(), ?_, ?_⟩
  · rw[<- hI,bpp bpw];rfl
  exact⟨trivial,trivial⟩
 rintro _ hj;refine v_4 ?_;exact⟨cci (tE bqc bpw bpw bqc hj).symm,trivial⟩
end
section
open Go.Proofs
def b72:a6 bqh 68:=wgx Tryz.func68
def c49 (c:Int) (hc:0<=c):a7 bqh 68 [pU8 c] (af [(ofI (c%12)).pc]):=by
 refine hpx (nt:=39) Tryz.func68 ?_;refine sx7 ?_;refine m9 0 ?_;refine l5 ?_;refine hcd ?_ ?_<;>intro h0
 · refine v_5 ?_;exact⟨CoC.of_eq (by rw[show ofI (c%12)=⟨1,0,emp⟩ from by simp[ofI, *]];rfl),trivial⟩
 refine w_5 ?_;refine hcd ?_ ?_<;>intro h1
 · refine v_5 ?_;exact⟨CoC.of_eq (by rw[show ofI (c%12)=⟨1,1,emp⟩ from by simp[ofI, *]];rfl),trivial⟩
 refine w_5 ?_;refine hcd ?_ ?_<;>intro h2
 · refine v_5 ?_;exact⟨CoC.of_eq (by rw[show ofI (c%12)=⟨1,2,emp⟩ from by simp[ofI, *]];rfl),trivial⟩
 refine w_5 ?_;refine hcd ?_ ?_<;>intro h3
 · refine v_5 ?_;exact⟨CoC.of_eq (by rw[show ofI (c%12)=⟨0,0,emp⟩ from by simp[ofI, *]];rfl),trivial⟩
 refine w_5 ?_;refine hcd ?_ ?_<;>intro h4
 · refine v_5 ?_;exact⟨CoC.of_eq (by rw[show ofI (c%12)=⟨2,0,⟨#[97]⟩⟩ from by simp[ofI, *]];rfl),trivial⟩
 refine w_5 ?_;refine hcd ?_ ?_<;>intro h5
 · refine v_5 ?_;exact⟨CoC.of_eq (by rw[show ofI (c%12)=⟨2,0,⟨#[98]⟩⟩ from by simp[ofI, *]];rfl),trivial⟩
 refine w_5 ?_;refine hcd ?_ ?_<;>intro h6
 · refine v_5 ?_;exact⟨CoC.of_eq (by rw[show ofI (c%12)=⟨2,0,emp⟩ from by simp[ofI, *]];rfl),trivial⟩
 refine w_5 ?_;refine hcd ?_ ?_<;>intro h7
 · refine v_5 ?_;exact⟨CoC.of_eq (by rw[show ofI (c%12)=⟨3,1,emp⟩ from by simp[ofI, *]];rfl),trivial⟩
 refine w_5 ?_;refine hcd ?_ ?_<;>intro h8
 · refine v_5 ?_;exact⟨CoC.of_eq (by rw[show ofI (c%12)=⟨1, -1,emp⟩ from by simp[ofI, *]];rfl),trivial⟩
 refine w_5 ?_;refine hcd ?_ ?_<;>intro h9
 · refine v_5 ?_;exact⟨CoC.of_eq (by rw[show ofI (c%12)=⟨2,0,⟨#[97,98]⟩⟩ from by simp[ofI, *]];rfl),trivial⟩
 refine w_5 ?_;refine hcd ?_ ?_<;>intro h10
 · refine v_5 ?_;exact⟨CoC.of_eq (by rw[show ofI (c%12)=⟨3,2,emp⟩ from by simp[ofI, *]];rfl),trivial⟩
 refine v_6 ?_;exact⟨CoC.of_eq (by rw[show ofI (c%12)=⟨1,7,emp⟩ from by simp[ofI, *]];rfl),trivial⟩
end
section
open Go.Proofs
def b52 {α:Type} [Inhabited α] {cl:Bool} {c:α->Nat->PV} {x y z:α} {f:Nat->Nat->PV} (h0:CoP (f 0 0) (c x 0)) (h1:CoP (f 1 0) (c y 0)) (h2:CoP (f 2 0) (c z 0)):CoP (.sl 3 1 cl f) (psl 1 c [x,y,z]) :=
 CoP.sl rfl (.inl rfl) (fun h=>by cases h) fun i j hi hj=>by
  obtain rfl:j=0:=by omega
  match i,hi with
  |0,_=>exact h0
  |1,_=>exact h1
  |2,_=>exact h2
def b2s(a b:Val):orF [i7 a.kind b.kind,i7 a.num b.num,n5 a.str b.str]=j9 a b:=by
 have e:∀x y:Int,sgn x y=i7 x y:=fun _ _=>rfl;unfold j9 orF;rw[e,e];by_cases h1:i7 a.kind b.kind=0
 · by_cases h2:i7 a.num b.num=0
   · by_cases h3:n5 a.str b.str=0
     · simp[h1,h2,h3]
     simp[h1,h2,h3]
   simp[h1,h2]
 simp[h1]
def apo:a6 bqh 162:=wgx Tryz.func162
def atx (a:Int):a7 bqh 162 [pI a] (af [pB false]):=by
 refine hpx (nt:=6) Tryz.func162 ?_;refine jb ?_;exact hx8 rfl rfl rfl (⟨ccb bpz,trivial⟩)
def b30:a6 bqh 221:=wgx Tryz.func221
def bct (a b:Int):a7 bqh 221 [pI a,pI b] (af [pI (i7 a b)]):=by
 refine hpx (nt:=20) Tryz.func221 ?_;refine w_7 ?_;refine qcx apo (atx _) ?_;refine w_5 ?_;refine qcx apo (atx _) ?_;refine aya ?_;refine hcd ?_ ?_<;>intro h0
 · refine v_4 ?_;exact⟨cci bqb,trivial⟩
 refine w_8 ?_;refine hcd ?_ ?_<;>intro h1
 · refine v_4 ?_;exact⟨cci bqb,trivial⟩
 refine v_5 ?_;exact⟨cci bqb,trivial⟩
def b6g:a6 bqh 222:=wgx Tryz.func222
def b4d (a b:ByteArray):a7 bqh 222 [pS a,pS b] (af [pI (n5 a b)]):=by
 refine hpx (nt:=8) Tryz.func222 ?_;refine w_8 ?_;refine qcx b2f (b5w _ _) ?_;refine v_2 ?_;exact CoL.refl _
def xq:a6 bqh 188:=wgx Tryz.func188
def xk (a b:Val):a7 bqh 188 [a.pc,b.pc] (af [pI (j9 a b)]):=by
 refine hpx (nt:=22) Tryz.func188 ?_;refine sx7 ?_;refine m9 0 ?_;refine m9 1 ?_;refine w_8 ?_;refine qcx aoi (b12 _ _) ?_;refine w_4 ?_;refine qcx b30 (bct _ _) ?_;refine w_4 ?_;refine qcx b6g (b4d _ _) ?_;refine m9 2 ?_;refine rc rfl rfl rfl rfl rfl rfl aoh (cOr [i7 a.kind b.kind,i7 a.num b.num,n5 a.str b.str]) (⟨CoC.one (b52 (CoP.refl _) (CoP.refl _) (CoP.refl _)),trivial⟩) rfl rfl ?_;refine v_3 ?_;exact⟨cci (b2s a b),trivial⟩
abbrev bl6(v:Val):List Value:=[.int .i64 v.kind, .int .i64 v.num, .string v.str]
end
section
abbrev bd3:PV:=.sl 0 3 true (lf Val.c [])
def blj(R:List Row)(a:Nat):Nat->Nat->PV:=fun i _=>if i<a then vals (b07 R i)else bd3
end
section
abbrev RSt:=Bool×Int×Int×Int
abbrev RSt.c(s:RSt):Nat->PV:=fun j=>[.raw (.bool s.1), .raw (.int .i64 s.2.1), .raw (.int .i64 s.2.2.1), .raw (.int .i64 s.2.2.2)].getD j .any
abbrev RSt.pc(s:RSt):PC:=.agg [.raw (.bool s.1), .raw (.int .i64 s.2.1), .raw (.int .i64 s.2.2.1), .raw (.int .i64 s.2.2.2)]
abbrev blp(l:List RSt):PV:=psl 4 RSt.c l
def St.r(s:St):RSt:=(s.1,(s.2.1:Int),(s.2.2.1:Int),(s.2.2.2:Int))
abbrev aeg(a:Int)(l:List Rw)(p m:List Fd)(s:RSt):Int×List Rw×Int:=bb1 a l p m s.1 s.2.1 s.2.2.1 s.2.2.2
def a6a (n:Int) (p m:List Fd):Int->List Rw->List RSt->Bool
 |_,l,[]=>aqf n l
 |a,l,s::r=>if(aeg a l p m s).2.2=0 then a6a n p m (aeg a l p m s).1 (aeg a l p m s).2.1 r else false
def bkm(n:Int)(ps:List AS)(p m:List Fd)(sts:List RSt):Bool:=decide (lvE n ps=0)&&(decide (a0l n p m=0)&&a6a n p m n (dv (my n ps)) sts)
structure aas (n:Int) (ps:List AS) (p m:List Fd) (sts:List RSt) (x:Nat×Int×List Rw×Int):Prop where
 le:x.1<=sts.length
 ok:x.2.2.2=0->a6a n p m n (dv (my n ps)) sts=a6a n p m x.2.1 x.2.2.1 (sts.drop x.1)
 no:¬x.2.2.2=0->a6a n p m n (dv (my n ps)) sts=false
section
variable {n:Int}{ps:List AS}{p m:List Fd}{sts:List RSt}
def aas.start:aas n ps p m sts (0,n,dv (my n ps),0):=⟨bm3 _,fun _=>rfl,fun h=>absurd rfl h⟩
section
variable {x:Nat×Int×List Rw×Int}
def aas.step (h:aas n ps p m sts x) (hi:x.1<sts.length) (h0:x.2.2.2=0):aas n ps p m sts (x.1+1,(aeg x.2.1 x.2.2.1 p m (sts.getD x.1 default)).1,(aeg x.2.1 x.2.2.1 p m (sts.getD x.1 default)).2.1,(aeg x.2.1 x.2.2.1 p m (sts.getD x.1 default)).2.2):=by
 have e:sts.drop x.1=sts.getD x.1 default::sts.drop (x.1+1):=by
  rw[boq hi,bm7,blz hi];rfl
 have h1:=h.ok h0;rw[e,a6a]at h1;refine⟨hi,fun h2=>?_,fun h2=>?_⟩
 · rw[h1,if_pos h2]
 rw[h1,if_neg h2]
def aas.fin (h:aas n ps p m sts x) (hi:¬x.1<sts.length) (h0:x.2.2.2=0):a6a n p m n (dv (my n ps)) sts=aqf n x.2.2.1:=by
 rw[h.ok h0,List.drop_of_length_le bpw,a6a]
end
end
def bgx(r:Rw):List Val:=r.map fun z=>⟨1,z,emp⟩
def bgn(l:List Rw):List Row:=(List.range l.length).map fun(i:Nat)=>⟨(i:Int)+1,bgx (l.getD i default)⟩
def bi2(n:Int)(ps:List AS)(p m:List Fd):Int:=if lsC n ps p m≠0 then lsC n ps p m else if aqf n (lsT n ps p m).2.1.2=true then 10 else 0
def blv(n:Int)(ps:List AS)(p m:List Fd):Tbl:=if bi2 n ps p m=0 then⟨⟨#[116]⟩,me.take n.toNat,bgn (lsT n ps p m).2.1.2⟩else T0
section
variable {n:Int}{ps:List AS}{p m:List Fd}
end
def bke(n:Int)(a b:AS)(l:List Fd):Bool:=decide (cn n l=0)&&(decide (a|||b=ah n)&&(decide (sub a (clo l (a&&&b)))||decide (sub b (clo l (a&&&b)))))
end
section
section
variable {α:Type}[DecidableEq α]{c:α->α->Int}
def b9e (c:α->α->Int) (x:α):List α->List α
 | []=>[x]
 |y::l=>if c x y<0 then x::y::l else if c x y=0 then y::l else y::b9e c x l
def bkz(c:α->α->Int)(l:List α):List α:=l.foldr (b9e c) []
end
def awR:List Row:=[⟨1,[⟨1,0,emp⟩,⟨1,1,emp⟩,⟨1,5,emp⟩]⟩,⟨2,[⟨1,6,emp⟩,⟨1,1,emp⟩,⟨1,2,emp⟩]⟩]
def awT:Tbl:=⟨⟨#[116]⟩,me.take 3,awR⟩
end
section
def bdq(l:List Row)(v:List Val):Bool:=l.any fun r=>decide (r.vals=v)
def awc (s:AS):Nat->List Val->List Val
 |_,[]=>[]
 |a,v::l=>if io s (a:Int)=true then v::awc s (a+1) l else awc s (a+1) l
def sel(l:List Val)(s:AS):List Val:=awc s 0 l
def ado(a b:Row)(s:AS):Bool:=decide (sel a.vals s=sel b.vals s)
def b9z(t:Tbl)(q:AS)(r:Row)(n:Int):Bool:=t.rows.any fun x=>ado x r (q&&&ah n)
def bb3(a b:List Row):Bool:=a.all fun r=>bdq b r.vals
def bj4(a b:Tbl):Bool:=decide (a.attrs=b.attrs)&&(bb3 a.rows b.rows&&bb3 b.rows a.rows)
def bd7(a b:Tbl)(r s:Row)(i:Nat):Bool:=decide (aea a.attrs (b.attrs.getD i default)<0)||decide (j9 (r.vals.getD (aea a.attrs (b.attrs.getD i default)).toNat default) (s.vals.getD i default)=0)
def bh6(a b:Tbl)(r s:Row):Bool:=(List.range b.attrs.length).all (bd7 a b r s)
def bir(a b:Tbl):Bool:=b.rows.all fun s=>a.rows.any fun r=>bh6 a b r s
def b8p(t:Tbl)(d:Fd)(i k:Nat):Bool:=!ado (t.rows.getD i default) (t.rows.getD k default) d.lhs||ado (t.rows.getD i default) (t.rows.getD k default) d.rhs
def fdB(t:Tbl)(d:Fd):Bool:=(List.range t.rows.length).all fun i=>(List.range i).all fun k=>b8p t d i k
def bfs(t:Tbl)(a b:Row)(left:AS):Bool:=t.rows.any fun x=>ado x a left&&ado x b (ah t.attrs.length&&&~~~left)
def bhh(t:Tbl)(d:Fd)(i k:Nat):Bool:=!ado (t.rows.getD i default) (t.rows.getD k default) d.lhs||bfs t (t.rows.getD i default) (t.rows.getD k default) (d.lhs|||d.rhs)
def mvB(t:Tbl)(d:Fd):Bool:=(List.range t.rows.length).all fun i=>(List.range t.rows.length).all fun k=>bhh t d i k
end
section
def bh9(n:Int):Prop:=-9223372036854775808<=n/\n<=9223372036854775807
def b8(l:List Int):List UInt8:=l.map fun n=>UInt8.ofNat n.toNat
def b13(v:Val):Prop:=d8 v=true/\bh9 v.num
def byR(l:List Int):Prop:=∀x∈l,0<=x/\x<256
def b7a (s:AS):Nat->List Val->List Int
 |_,[]=>[]
 |a,v::vs=>if s.getLsbD a=true then tk v++b7a s (a+1) vs else b7a s (a+1) vs
end
section
section
variable {R:List Row}{ps:List AS}{cols:List (List Val)}{s:AS}{n:Nat}
def okJ(R:List Row)(ps:List AS)(vs:List Val):Bool:=ps.all fun s=>as4 R s vs.length (uc vs s)
def b8r (R:List Row) (ps:List AS) (cols:List (List Val)):Nat->List Val->List (List Val)
 |0,vs=>if okJ R ps vs=true then[vs] else[]
 |d+1,vs=>if okJ R ps vs=true then(cols.getD vs.length default).flatMap fun v=>b8r R ps cols d (vs++[v]) else[]
def bjy(R:List Row)(ps:List AS)(n:Nat):List (List Val):=b8r R ps (b0m R n) n []
end
end
section
section
variable {n:Int}{ps:List AS}{p m:List Fd}
end
def sgB(n:Int)(c:AS)(z:Int):Int:=if io c (z%n)=true then z%n else z
section
variable {n:Int}{P Q:AS}{p:List Fd}
end
end
section
section
variable {t:Tbl}{d:Fd}
end
section
variable {n:Int}{ps:List AS}{p m:List Fd}
end
def sgT(n:Nat)(w:List Val)(f:Nat->Row)(z:Int):Val:=if z<(n:Int)then w.getD z.toNat default else(f (z/n-1).toNat).vals.getD (z%n).toNat default
end
section
def fdP(d:Fd)(r k:AS):Option AS:=if(r ^^^ k)&&&d.lhs=0 then(if(r ^^^ k)&&&d.rhs=0 then none else some ((r ^^^ k)&&&d.rhs))else none
def fdQ(d:Fd)(T:List AS)(r:AS):Option AS:=T.findSome? (fdP d r)
def fdT(d:Fd)(T:List AS):Option AS:=T.findSome? (fdQ d T)
theorem zg {T:List AS} (h:T.Nodup):T.length<=4294967296:=by
 have h1:(T.map BitVec.toNat).Nodup:=List.Pairwise.map _ (fun a b hab e=>hab (bn3 e)) h
 have h2:∀x∈T.map BitVec.toNat,x<4294967296:=by
  intro x hx;obtain⟨a,_,rfl⟩:=bml.1 hx;exact a.isLt
 have hlen:(T.map BitVec.toNat).length=T.length:=bn0 _;rw[<- hlen]
 have key:∀(N:Nat) (l:List Nat),l.Nodup->(∀x∈l,x<N)->l.length<=N:=by
  intro N
  induction N with
  | zero =>
   intro l _ hl
   cases l with
   |nil=>exact bm1 _
   |cons a l=>exact absurd (hl a bpz) (bm6 _)
  | succ N ih =>
   intro l hn hl
   have h3:=ih (l.filter fun x=>!decide (x=N)) (hn.filter _) fun x hx=>by
    grind
   have h4:l.length<=(l.filter fun x=>!decide (x=N)).length+1:=by
    have h5:∀l:List Nat,l.length=(l.filter fun x=>!decide (x=N)).length+l.countP fun x=>decide (x=N):=by
     intro l
     induction l with
     |nil=>rfl
     | cons a l ih =>
      grind
    have h6:=h5 l
    have h7:(l.countP fun x=>decide (x=N))<=1:=by
     have:=hn.count (a:=N)
     grind
    omega
   omega
 exact key _ _ h1 h2
def a67 (d:Fd):Nat->List AS->List AS
 |0,T=>T
 | f+1,T=>match fdT d T with
  |none=>T
  |some s=>a67 d f (ba9 T s)
def mvS(d:Fd)(T:List AS)(i k:Nat):List AS:=if agB d (T.getD i default) (T.getD k default)=true then aiz T (bcm d (T.getD i default) (T.getD k default))else T
def mvI (d:Fd):Nat->List AS->Nat->Nat->List AS
 |0,T,_,_=>T
 |f+1,T,i,k=>if k<T.length then mvI d f (mvS d T i k) i (k+1)else T
def mvO (d:Fd):Nat->List AS->Nat->List AS
 |0,T,_=>T
 |f+1,T,i=>if i<T.length then mvO d f (mvI d 8589934592 T i 0) (i+1)else T
abbrev TC:=List AS×Bool
def FU2:Nat:=8589934592
def fdR(x:TC)(d:Fd):TC:=(a67 d FU2 x.1,x.2||(fdT d x.1).isSome)
def mvR(x:TC)(d:Fd):TC:=(mvO d FU2 x.1 0,x.2||decide (x.1.length<(mvO d FU2 x.1 0).length))
def b04(fs ms:List Fd)(T:List AS):TC:=ms.foldl mvR (fs.foldl fdR (T,false))
def chF (fs ms:List Fd):Nat->List AS->List AS
 |0,T=>T
 |f+1,T=>if(b04 fs ms T).2=true then chF fs ms f (b04 fs ms T).1 else(b04 fs ms T).1
def muT(T:List AS):Nat:=(orL T).toNat*FU2+(4294967296-T.length)
def av9 {d:Fd} {f:Nat} {T:List AS} (h:fdT d T=none):a67 d f T=T:=by
 cases f with
 |zero=>rfl
 | succ f =>
  show(match fdT d T with|none=>T|some s=>a67 d f (ba9 T s))=_;rw[h]
def MU:Nat:=73786976294838206464
def bcf (T:List AS):muT T<MU:=by
 unfold muT;have h:=(orL T).isLt;have h1:((orL T).toNat+1)*FU2<=4294967296*FU2:=bmb _ h;rw[bng]at h1;have e:FU2=8589934592:=rfl;have e2:MU=73786976294838206464:=rfl;omega
def az6(rest:AS):List AS:=aiz [0] rest
def chT(fs ms:List Fd)(rest:AS):List AS:=chF fs ms MU (az6 rest)
def ben(rest:AS):(az6 rest).Nodup:=arx bpz
end
section
open Go.Proofs
def sT:List Rw:=[[0,1,5],[0,7,2]]
def fdX:List Fd:=[⟨1,2⟩]
end
section
structure MvO (d:Fd) (T0:List AS) (x:Nat×List AS×Nat):Prop where
 nd:x.2.1.Nodup
 pre:T0 <+: x.2.1
 res:mvO d x.1 x.2.1 x.2.2=mvO d FU2 T0 0
 le:x.2.2<=x.2.1.length
 fuel:4294967296<x.1+x.2.2
structure MvI (d:Fd) (T:List AS) (i:Nat) (x:Nat×List AS×Nat):Prop where
 nd:x.2.1.Nodup
 pre:T <+: x.2.1
 res:mvI d x.1 x.2.1 i x.2.2=mvI d 8589934592 T i 0
 le:x.2.2<=x.2.1.length
 fuel:4294967296<x.1+x.2.2
section
variable {d:Fd}{T0 T:List AS}{i f k:Nat}
theorem MvO.start(h:T.Nodup):MvO d T (FU2,T,0):=⟨h,List.prefix_refl _,rfl,bm3 _,by show 4294967296<8589934592+0;omega⟩
theorem MvI.start(h:T.Nodup):MvI d T i (8589934592,T,0):=⟨h,List.prefix_refl _,rfl,bm3 _,by show 4294967296<8589934592+0;omega⟩
theorem MvO.pos (h:MvO d T0 (f,T,i)):0<f/\T.length<=4294967296:=by
 have h1:=zg h.nd;have h2:=h.le;have h3:=h.fuel;dsimp only at h1 h2 h3;omega
theorem MvI.pos {U:List AS} (h:MvI d T i (f,U,k)):0<f/\U.length<=4294967296:=by
 have h1:=zg h.nd;have h2:=h.le;have h3:=h.fuel;dsimp only at h1 h2 h3;omega
theorem MvO.done (h:MvO d T0 (f,T,i)) (hi:¬i<T.length):T=mvO d FU2 T0 0:=by
 have hp:=h.pos.1;have hr:mvO d f T i=mvO d FU2 T0 0:=h.res;obtain⟨g,rfl⟩:∃g,f=g+1:=⟨f-1,by omega⟩;unfold mvO at hr;rw[if_neg hi]at hr;exact hr
theorem MvI.done {U:List AS} (h:MvI d T i (f,U,k)) (hk:¬k<U.length):U=mvI d 8589934592 T i 0:=by
 have hp:=h.pos.1;have hr:mvI d f U i k=mvI d 8589934592 T i 0:=h.res;obtain⟨g,rfl⟩:∃g,f=g+1:=⟨f-1,by omega⟩;unfold mvI at hr;rw[if_neg hk]at hr;exact hr
end
end
section
structure ChI (l m:List Fd) (R:List AS) (x:Nat×List AS×Bool):Prop where
 nd:x.2.1.Nodup
 t:x.2.2=true->chF l m x.1 x.2.1=R/\muT x.2.1<x.1
 f:x.2.2=false->x.2.1=R
def bk6(x:Nat×List AS×Bool):Nat:=x.1+(bif x.2.2 then 1 else 0)
theorem ChI.start(l m:List Fd)(rest:AS):ChI l m (chT l m rest) (MU,az6 rest,true):=⟨ben rest,fun _=>⟨rfl,bcf _⟩,fun h=>by cases h⟩
def blw(l:List Fd)(T:List AS)(i:Nat):TC:=(l.take i).foldl fdR (T,false)
def mvX(m:List Fd)(x:TC)(i:Nat):TC:=(m.take i).foldl mvR x
structure FdI (d:Fd) (U0:List AS) (x:Nat×List AS×Bool):Prop where
 nd:x.2.1.Nodup
 res:a67 d x.1 x.2.1=a67 d FU2 U0
 fuel:(orL x.2.1).toNat<x.1
 f:x.2.2=false->x.2.1=U0
 t:x.2.2=true->(fdT d U0).isSome=true
section
variable {d:Fd}{U0 U:List AS}{g:Nat}{b c:Bool}{s:AS}
theorem FdI.start(h:U0.Nodup):FdI d U0 (FU2,U0,false):=⟨h,rfl,bp4 (orL U0).isLt (show 2^32<=FU2 by decide),fun _=>rfl,fun h=>by cases h⟩
theorem FdI.len(h:FdI d U0 (g,U,b)):U.length<=8589934592:=bme (zg (show U.Nodup from h.nd)) bq4
theorem FdI.done (h:FdI d U0 (g,U,b)) (hq:fdT d U=none):(U,c||b)=fdR (U0,c) d:=by
 have h2:a67 d g U=a67 d FU2 U0:=h.res;rw[av9 hq]at h2;unfold fdR;rw[<- h2]
 cases hb:b with
 |true=>rw[h.t hb]
 | false =>
  have e:U=U0:=h.f hb;rw[<- e,hq];rfl
end
end
section
def b7l(a b:AS):Bool:=a9l b a
def bl0(l:List AS):List AS:=aq2 b7l l
def okM(l:List AS)(i k:Nat):Bool:=(List.range k).all fun j=>decide (j=i)||!a9l (l.getD j default) (l.getD i default)
def bjb(l:List AS)(i:Nat):List AS:=((ord l).take i).filter fun x=>!a5w b7l (ord l) x
def yq(rest L x:AS)(T:List AS)(y:AS):Bool:=!decide (y=0)&&(decide (y&&&~~~rest=0)&&decide ((L&&&~~~(x|||y))∈T))
def yL(rest L x:AS)(T:List AS)(k:Nat):List AS:=((List.range k).map (BitVec.ofNat 32)).filter (yq rest L x T)
section
variable {rest L x:AS}{T:List AS}{k:Nat}
end
end
section
open Go.Proofs
def bic(n:Int)(ps:List AS):List AS:=if ps.length=0 then[ah n]else ps.set (ps.length-1) (ps.getD (ps.length-1) default|||(ah n&&&~~~(orL ps)))
end
section
def a99 {r x:Row}:∀{l:List Row},x∈wt r l<->x=r\/x∈l
 | []=>by simp[wt]
 | y::l=>by
  simp only[wt];split
  · simp
  simp only[bm9,a99 (l:=l)];constructor
  · rintro(h|h|h)<;>simp[h]
  rintro(h|h|h)<;>simp[h]
def a8e{r:Row}:∀{l:List Row},qj l->(∀x∈l,x.id≠r.id)->qj (wt r l)
 | [],_,_=>by simp[wt,qj]
 | y :: l,hs,hn=>by
  have hs':=hs;unfold qj at hs';rw[bmn]at hs';simp only[wt];split
  · rename_i h
    refine List.Pairwise.cons (fun x hx=>?_) hs
    rcases bm9.1 hx with rfl|hx
    · exact h
    have:=hs'.1 x hx;omega
  rename_i h;refine List.Pairwise.cons (fun x hx=>?_) (a8e hs'.2 fun x hx=>hn x (by simp[hx]))
  rcases a99.1 hx with rfl|hx
  · have:=hn y bpz;omega
  exact hs'.1 x hx
section
variable {l:List Row}
def arn {id:Int} (h:gh l id<0):∀x∈l,x.id≠id:=by
 intro x hx e;have h2:=aov (p:=fun r:Row=>decide (r.id=id)) (l:=l);have h3:(l.any fun r=>decide (r.id=id))=true:=by rw[boh];exact⟨x,hx,by simp[e]⟩
 rw[h3]at h2;simp only[decide_eq_true_eq]at h2;unfold gh at h;omega
variable {t:Tbl}
def bcp {r:Row} (h:yg t r=0):TOk (ars t r):=by
 obtain⟨h1,h2,h3,h4,h5,h6⟩:=ayo h;have hT:=pz.1 h1;rw[b3h h];refine⟨hT.nm,hT.na,by show(wt r t.rows).length<=1000;rw[aic];omega,hT.nms, ?_⟩;refine tu (fun x hx=>?_) (a8e (mr hT.rs) (arn h5))
 rcases a99.1 hx with rfl|hx
 · exact⟨h3,h2,h4⟩
 exact j5 hT.rs x hx
def azw {i:Int} (h:a1y t i=0):du t=0/\0<=gh t.rows i:=by
 unfold a1y at h;split at h
 · omega
 split at h
 · exact⟨by omega,by assumption⟩
 omega
def bay {i:Int} (h:a1y t i=0):TOk (arm t i):=by
 have hT:=pz.1 (azw h).1;rw[b33 h];have hsub:=List.eraseIdx_sublist t.rows (gh t.rows i).toNat;refine⟨hT.nm,hT.na,by have:=hsub.length_le;have:=hT.nr;show(t.rows.eraseIdx _).length<=1000;omega,hT.nms, ?_⟩;exact tu (fun x hx=>j5 hT.rs x (hsub.subset hx)) (List.Pairwise.sublist hsub (mr hT.rs))
def b6w {i a:Int} {v:Val} (h:a3b t i a v=0):du t=0/\0<=gh t.rows i/\0<=a/\a<t.attrs.length/\d8 v=true:=by
 unfold a3b at h;split at h
 · omega
 split at h
 · omega
 split at h
 · omega
 split at h
 · omega
 rename_i h1 h2 h3 h4;exact⟨by omega,by omega,by omega,by omega,by simpa using h4⟩
def ax0{i k:Nat}{v:Val}(hi:i<l.length):(a4e l i k v).map Row.id=l.map Row.id:=by
 unfold a4e;apply bot;intro j;rw[bn1,bn1,List.getElem?_set];split
 · rename_i h
   subst h;rw[blz hi];simp[List.getD,blz hi]
 rfl
def abn:qj l<->(l.map Row.id).Pairwise (·<·):=by
 rw[List.pairwise_map]
def baj{i a:Int}{v:Val}(h:a3b t i a v=0):TOk (aqd t i a v):=by
 obtain⟨h1,h2,h3,h4,h5⟩:=b6w h;have hT:=pz.1 h1;have hix:(gh t.rows i).toNat<t.rows.length:=by have:=b9w h2;rwa [show max (gh t.rows i) 0=gh t.rows i from by omega]at this
 rw[b57 h];refine⟨hT.nm,hT.na,by show(a4e _ _ _ _).length<=1000;rw[axb];exact hT.nr,hT.nms, ?_⟩;refine tu (fun x hx=>?_) (by rw[abn,ax0 hix,<- abn];exact mr hT.rs);have hold:=j5 hT.rs _ (bma hix);have hgd:=al _ _ hix;unfold a4e at hx
 rcases List.mem_or_eq_of_mem_set hx with hx|rfl
 · exact j5 hT.rs x hx
 refine⟨by show 0<(t.rows.getD _ default).id;rw[hgd];exact hold.1,by show(List.set _ _ _).length=_;rw[bo3,hgd];exact hold.2.1, ?_⟩;rw[bms];intro y hy
 rcases List.mem_or_eq_of_mem_set hy with hy|rfl
 · rw [hgd]at hy
   exact bms.1 hold.2.2 y hy
 exact h5
def b86 {c:Chg} (h:ac4 t c=0):TOk (aa4 t c):=by
 unfold ac4 at h;unfold aa4;split at h
 · rename_i h2;rw[if_pos h2];exact bcp h
 rename_i h2;rw[if_neg h2];split at h
 · omega
 split at h
 · omega
 split at h
 · rename_i h3;rw[if_pos h3];exact bay h
 rename_i h3;rw[if_neg h3];exact baj h
def bdj{d:DB}{c:Chg}(hd:dbV d):dbV (a33 d c):=by
 by_cases he:jy d c=0
 · unfold jy at he
   split at he
   · rename_i h1
     split at he
     · omega
     obtain⟨g1,g2,g3⟩:=b5i he;have he':jy d c=0:=by rw[aE2 h1 (by simp_all)];exact he
     rw[aD1 he' h1];refine⟨by simp;omega,fun j hj=>?_⟩;by_cases h:j<d.length
     · rw [show(d++[c.table]).getD j default=d.getD j default from by simp[List.getD,bpd h]]
       exact hd.2 j h
     obtain rfl:j=d.length:=by simp at hj;omega
     rw[show(d++[c.table]).getD d.length default=c.table from by simp[List.getD]];exact g1
   rename_i h1;split at he
   · omega
   split at he
   · omega
   rename_i h2 h3;have he':jy d c=0:=by rw[aE5 bpw h3];exact he
   rw[aD2 he' h1 rfl];refine⟨by rw[bo3];exact hd.1,fun j hj=>?_⟩;rw[bo3]at hj;by_cases h:j=(lj d c.name).toNat
   · subst h
     rw[show(d.set (lj d c.name).toNat (aa4 (vo d c.name) c)).getD (lj d c.name).toNat default=aa4 (vo d c.name) c from by simp[List.getD,hj]];exact pz.2 (b86 he)
   rw[show(d.set (lj d c.name).toNat (aa4 (vo d c.name) c)).getD j default=d.getD j default from by simp only[List.getD,List.getElem?_set_ne (Ne.symm h)]];exact hd.2 j hj
 rw[b8k rfl he];exact hd
def dbV.ok{d:DB}(h:dbV d):bh2 d:=⟨by have:=h.1;omega,fun j hj=>au7 (h.2 j hj)⟩
def ao1:dbV []:=⟨by simp,fun j hj=>by simp at hj⟩
def atm:∀{l:List Chg} {d:DB},dbV d->dbV (ah7 d l)
 | [],d,h=>h
 | c::l,d,h=>by
  simp only[ah7];split
  · exact ao1
  exact atm (bdj h)
variable {n:Nat}
def bgd (hn:n<=8) {f:Nat->Nat->PV}:CoP (.sl (0+n) 1 false (f3 0 f (fun i j=>[PV.raw (.string ⟨#[97]⟩), .raw (.string ⟨#[98]⟩), .raw (.string ⟨#[99]⟩), .raw (.string ⟨#[100]⟩), .raw (.string ⟨#[101]⟩), .raw (.string ⟨#[102]⟩), .raw (.string ⟨#[103]⟩), .raw (.string ⟨#[104]⟩)].getD (i*1+j) .any))) (aan (me.take n)):=by
 refine CoP.sl (by simp[me];omega) (.inl rfl) (fun h=>h) fun i j hi hj=>CoP.of_eq ?_;obtain rfl:j=0:=by omega
 have hi8:i<n:=by omega
 simp only[f3,bm6,if_false,Nat.sub_zero,bp2,bnt,lf,List.getD,bnb,hi8,if_true];have:i<8:=by omega
 match i,this with
 |0,_=>rfl
 |1,_=>rfl
 |2,_=>rfl
 |3,_=>rfl
 |4,_=>rfl
 |5,_=>rfl
 |6,_=>rfl
 |7,_=>rfl
def aes{α:Type}[Inhabited α]{l:List α}{k:Nat}(h:l.length<=k):l.getD k default=default:=by simp[List.getD,h]
def bat {g:UInt8} {i:Nat}:0<=(i:Int)*(1+(g.toNat:Int)%3)/\(i:Int)*(1+(g.toNat:Int)%3)<=3*i:=by
 have h:(g.toNat:Int)%3=0\/(g.toNat:Int)%3=1\/(g.toNat:Int)%3=2:=by omega
 rcases h with h|h|h<;>rw[h]<;>omega
def auf{l:List UInt8}:(ol l n).length=n:=by simp[ol]
def alp{x:jw}:(mc x n).length=x.rows.length:=by simp[mc]
def aun {l:List UInt8} {k j:Nat} (h:k<n):lf Val.c (ol l n) k j=Val.c (ofV (l.getD k default)) j:=by
 unfold lf ol;rw[afn _ _ _ h]
def b85 {x:jw} {i j:Nat} (h:i<x.rows.length):lf Row.c (mc x n) i j=Row.c ⟨1+(i:Int)*(1+(x.gap.toNat:Int)%3),ol (x.rows.getD i default) n⟩ j:=by
 unfold lf mc;rw[afn _ _ _ h]
def jr(s:Stt):List Chg:=s.done.flatten++s.now
def adn(s:Stt):DB:=ah7 [] (jr s)
def bkf (s:Stt) (x:Opn):Chg :=
 let k:=x.kind.toNat%9
 if k=0 then { (default:Chg)with kind:=1,name:=aex x,table:=b1x x }
 else if lj (adn s) (aex x)<0 then default
 else
  let t:=vo (adn s) (aex x)
  if k=1 then { (default:Chg)with kind:=2,name:=t.name,row:=b1a x }
  else if ¬0<=gh t.rows x.id then default
  else if k=2 then { (default:Chg)with kind:=3,name:=t.name,row:=t.rows.getD (max (gh t.rows x.id) 0).toNat default }
  else { (default:Chg)with kind:=4,name:=t.name,row:=t.rows.getD (max (gh t.rows x.id) 0).toNat default,attr:=x.attr,value:=ofV x.value }
def bin (s:Stt) (x:Opn):Int :=
 let k:=x.kind.toNat%9
 if k=0 then abk (adn s) (b1x x)
 else if lj (adn s) (aex x)<0 then 4
 else
  let t:=vo (adn s) (aex x)
  if k=1 then yg t (b1a x)
  else if ¬0<=gh t.rows x.id then 4
  else if k=2 then 0
  else a3b t x.id x.attr (ofV x.value)
structure b9r (s:Stt):Prop where
 ld:s.done.flatten.length<=68719476736
 ln:s.now.length<=68719476736
 lt:s.done.length<=68719476736
 lu:s.undone.length<=68719476736
 ok:b71 (jr s)
structure blc (x:Opn):Prop where
 lv:x.vals.length<=68719476736
 lr:x.t.rows.length<=68719476736
def b9r.V{s:Stt}(_:b9r s):dbV (adn s):=atm ao1
end
end
section
def aw8:∀k,k<9->a7z (me.take k)=true:=by decide
def b5s (c:UInt8):b13 (ofV c):=by
 unfold ofV;have h:∀k:Fin 12,d8 (ofI (k.val:Int))=true/\-1<=(ofI (k.val:Int)).num/\(ofI (k.val:Int)).num<=7:=by decide
 have:=h ⟨c.toNat%12,by omega⟩;rw[show((c.toNat%12:Nat):Int)=(c.toNat:Int)%12 by omega]at this;exact⟨this.1,by omega,by omega⟩
def alo {x:jw} {n:Nat} (hn:n<=8):(a3l x n).attrs.length=n:=by
 show(me.take n).length=n;rw[bmw];have:me.length=8:=rfl;omega
def b2q{x:jw}{n:Nat}(hn:n<=8)(hx:x.rows.length<=8):TOk (a3l x n) where
 nm:=by show ke ⟨#[114]⟩=true;decide
 na:=by rw[alo hn];omega
 nr:=by show(mc x n).length<=1000;rw[alp];omega
 nms:=aw8 n bpw
 rs:=by
  rw[alo hn];refine tu (fun w hw=>?_) ?_
  · obtain ⟨i,hi,e⟩:=bml.1 hw
    subst e;refine⟨?_,auf, ?_⟩
    · show (0:Int)<1+(i:Int)*(1+(x.gap.toNat:Int)%3)
      have:(0:Int)<=(i:Int)*(1+(x.gap.toNat:Int)%3):=Int.mul_nonneg bpw bpw;omega
    rw[bms];intro v hv;obtain⟨k,_,e⟩:=bml.1 hv;rw[<- e];exact(b5s _).1
  show qj (mc x n);unfold mc;refine List.pairwise_map.2 ((bpq (n:=x.rows.length)).imp fun {i j} hij=>?_);show 1+(i:Int)*(1+(x.gap.toNat:Int)%3)<1+(j:Int)*(1+(x.gap.toNat:Int)%3);have:(i:Int)*(1+(x.gap.toNat:Int)%3)<(j:Int)*(1+(x.gap.toNat:Int)%3):=Int.mul_lt_mul_of_pos_right bpw bpw;omega
def be7(n:Int)(d:Fd):Fd:=⟨d.lhs&&&ah n,d.rhs&&&ah n⟩
def bks(q:Fd->Bool)(n:Int)(l:List Fd)(i:Nat):List Fd:=((l.take i).map (be7 n)).filter q
section
variable {q:Fd->Bool}{n:Int}{l:List Fd}{i:Nat}
end
def blq(s:AS)(l:List AS)(i:Nat):List AS:=(l.take i).map (·&&&s)++l.drop i
section
variable {s:AS}{l:List AS}{i:Nat}
end
end
section
def b7n(t:Tbl)(d:Fd):Bool:=(List.range t.rows.length).all fun i=>(List.range t.rows.length).all fun k=>b8p t d i k
def bk0(t:Tbl)(l:List Fd)(i:Nat):List Fd:=(l.take i).filter (b7n t)
def bkx(t:Tbl)(l:List Fd):List Fd:=l.filter (b7n t)
end
section
def cmA(a b:Row)(i:Nat):Int:=j9 (a.vals.getD i default) (b.vals.getD i default)
section
variable {a b:Row}{i:Nat}
def pk:cmA b a i=- cmA a b i:=anc.anti _ _
def alg:cmA a a i=0:=anc.self _
def aeo(a b:Int):sgn a b=-1\/sgn a b=0\/sgn a b=1:=by unfold sgn;repeat' split<;>omega
def al9:∀(a b:List UInt8),ip a b=-1\/ip a b=0\/ip a b=1
 | [],[]=>by simp[ip]
 | [],_::_=>by simp[ip]
 |_::_,[]=>by simp[ip]
 | x::xs,y::ys=>by
  have:=al9 xs ys;unfold ip
  repeat' split
  all_goals first|omega|exact aeo _ _|assumption|simp_all
def o3:cmA a b i=-1\/cmA a b i=0\/cmA a b i=1:=by
 unfold cmA j9;have h1:=aeo (a.vals.getD i default).kind (b.vals.getD i default).kind;have h2:=aeo (a.vals.getD i default).num (b.vals.getD i default).num;have h3:n5 (a.vals.getD i default).str (b.vals.getD i default).str=-1\/n5 (a.vals.getD i default).str (b.vals.getD i default).str=0\/n5 (a.vals.getD i default).str (b.vals.getD i default).str=1:=al9 _ _
 repeat' split
 all_goals first|exact h1|exact h2|exact h3|omega
def bh (a b:Row):List Nat->Int
 | []=>0
 |i::l=>if cmA a b i=0 then bh a b l else cmA a b i
def yb:∀{l m:List Nat},bh a b (l++m)=if bh a b l=0 then bh a b m else bh a b l
 | [],m=>by simp[bh]
 | i::l,m=>by
  simp only[bog,bh];split
  · exact yb
  first|rfl|rw[if_neg bpx]
def s7:∀{l:List Nat},bh a b l=-1\/bh a b l=0\/bh a b l=1
 | []=>.inr (.inl rfl)
 | i::l=>by
  simp only[bh];split
  · exact s7
  exact o3
def jo:∀{l:List Nat},bh b a l=- bh a b l
 | []=>rfl
 | i::l=>by
  simp only[bh];rw[pk (a:=a) (b:=b)];split
  · rw[if_pos bpw];exact jo
  rw[if_neg bpw]
variable {l:List Nat}
def zb:bh a a l=0:=by have:=jo (a:=a) (b:=a) (l:=l);omega
def oq:∀{l:List Nat},bh a b l=0<->∀i∈l,cmA a b i=0
 | []=>by simp[bh]
 | i :: l=>by
  simp only[bh];split
  · rename_i h
    rw[oq];constructor
    · intro h2 j hj
      rcases bm9.1 hj with rfl|hj
      · exact h
      exact h2 j hj
    exact fun h2 j hj=>h2 j (bmr _ hj)
  rename_i h;exact⟨fun h2=>absurd h2 h,fun h2=>h2 i bpz⟩
def ow {k:Nat} (hk:k<l.length):l.take (k+1)=l.take k++[l.getD k default]:=by
 rw[bow,al _ _ hk,blz hk];rfl
def ao4 {k:Nat} (hk:k<l.length):bh a b (l.take (k+1))=if bh a b (l.take k)=0 then cmA a b (l.getD k default)else bh a b (l.take k):=by
 rw[ow hk,yb];simp only[bh];split
 · split<;>simp_all
 rfl
def a1e {k:Nat} (hk:k<l.length) (h0:bh a b (l.take k)=0) (h:¬cmA a b (l.getD k default)=0):bh a b l=cmA a b (l.getD k default):=by
 have e:l=l.take (k+1)++l.drop (k+1):=(List.take_append_drop _ _).symm;rw[e,yb,ao4 hk,if_pos h0,if_neg h,<- e]
def a36(h:¬bh a b l=0):∃k,k<l.length/\bh a b (l.take k)=0/\bh a b l=cmA a b (l.getD k default):=by
 induction l with
 |nil=>exact absurd rfl h
 | cons i l ih =>
  simp only[bh]at h ⊢;split
  · rename_i h0
    rw[if_pos h0]at h;obtain⟨k,h1,h2,h3⟩:=ih h;exact⟨k+1,by simp;omega,by simp[bh,h0,h2],by rw[h3];rfl⟩
  exact⟨0,by simp,by simp[bh],rfl⟩
def ov(out:List Nat)(a:Nat):List Nat:=if a∈out then out else out++[a]
def nu(l:List Nat)(i:Nat):List Nat:=(l.take i).foldl ov []
def ai(l:List Nat):List Nat:=l.foldl ov []
def axh:nu l l.length=ai l:=by unfold nu ai;rw[bmd]
def afb (h:i<l.length):nu l (i+1)=ov (nu l i) (l.getD i default):=by
 unfold nu;rw[ow h,bmo];rfl
def abi(h:i<l.length)(hm:l.getD i default∈nu l i):nu l (i+1)=nu l i:=by rw[afb h,ov,if_pos hm]
def aci(h:i<l.length)(hm:¬l.getD i default∈nu l i):nu l (i+1)=nu l i++[l.getD i default]:=by rw[afb h,ov,if_neg hm]
def akf{x:Nat}:∀{l out:List Nat},x∈l.foldl ov out<->x∈out\/x∈l
 | [],out=>by simp
 | a :: l,out=>by
  rw[bnq,akf];unfold ov;split
  · simp only [bm9]
    constructor
    · rintro (h|h)
      · exact .inl h
      exact .inr (.inr h)
    rintro(h|rfl|h)
    · exact .inl h
    · exact .inl bpx
    exact .inr h
  simp only[bmg,bm9,bp0,or_false];constructor
  · rintro ((h|h)|h)
    · exact .inl h
    · exact .inr (.inl h)
    exact .inr (.inr h)
  rintro(h|h|h)
  · exact .inl (.inl h)
  · exact .inl (.inr h)
  exact .inr h
def po{x:Nat}:x∈ai l<->x∈l:=by unfold ai;rw[akf];simp
def a9z:∀{l out:List Nat},(l.foldl ov out).length<=out.length+l.length
 | [],out=>by simp
 | a::l,out=>by
  rw[bnq];have h:(l.foldl ov (ov out a)).length<=(ov out a).length+l.length:=a9z;have h2:(ov out a).length<=out.length+1:=by unfold ov;split<;>simp
  simp only[bna];omega
def ut:(ai l).length<=l.length:=by
 have h:=a9z (l:=l) (out:=[]);unfold ai;simpa using h
def awp:(nu l i).length<=i:=by
 have h:=a9z (l:=l.take i) (out:=[]);have h2:=bom i l;unfold nu;simp only[bor]at h;omega
def an9:∀{l out:List Nat},out.Nodup->(l.foldl ov out).Nodup
 | [],out,h=>h
 | a::l,out,h=>by
  rw[bnq];refine an9 ?_;unfold ov;split
  · exact h
  rename_i hn;exact List.nodup_append.2 ⟨h,by simp,fun x hx y hy e=>hn (by simp at hy;subst hy;subst e;exact hx)⟩
def b2b:(ai l).Nodup:=an9 bpz
def ag5:∀{l out:List Nat},bh a b (l.foldl ov out)=bh a b (out++l)
 | [],out=>by simp
 | i :: l,out=>by
  rw[bnq,ag5];unfold ov;split
  · rename_i h
    rw[yb,yb];split
    · rename_i h0
      simp only[bh];rw[if_pos (oq.1 h0 i h)]
    rfl
  rw[bn6];rfl
def azn:bh a b (ai l)=bh a b l:=by unfold ai;rw[ag5,List.nil_append]
def knd(X Y:List Nat)(a b:Row):Int:=if bh a b X=0/\¬bh a b Y=0 then 1 else if bh a b X*bh a b Y<0 then 2 else 0
def ady {x y:Int} (hx:x=-1\/x=0\/x=1) (hy:y=-1\/y=0\/y=1):x*y<0<->(x<0/\0<y)\/(0<x/\y<0):=by
 rcases hx with rfl|rfl|rfl<;>rcases hy with rfl|rfl|rfl<;>decide
def a6s {x y:Int} (hx:x=-1\/x=0\/x=1) (hy:y=-1\/y=0\/y=1):x*y=-1\/x*y=0\/x*y=1:=by
 rcases hx with rfl|rfl|rfl<;>rcases hy with rfl|rfl|rfl<;>decide
variable {X Y:List Nat}
def a95:knd X Y a b=0<->¬(bh a b X<=0/\0<bh a b Y)/\¬(0<=bh a b X/\bh a b Y<0):=by
 have h:=ady (s7 (a:=a) (b:=b) (l:=X)) (s7 (a:=a) (b:=b) (l:=Y));unfold knd;split
 · constructor
   · intro h;omega
   intro h;omega
 split
 · rename_i h1 h2
   have h3:=h.1 h2;constructor
   · intro h;omega
   intro h;omega
 rename_i h1 h2;have h3:=fun q=>h2 (h.2 q);constructor
 · intro _;omega
 intro _;rfl
def odP(t:Tbl)(X Y:List Nat):Prop:=∀i k,i<t.rows.length->k<t.rows.length->¬(bh (t.rows.getD i default) (t.rows.getD k default) X<=0/\0<bh (t.rows.getD i default) (t.rows.getD k default) Y)
variable {t:Tbl}
def au4:odP t X Y<->∀i k,i<k->k<t.rows.length->knd X Y (t.rows.getD i default) (t.rows.getD k default)=0:=by
 constructor
 · intro h i k hik hk
   rw[a95];refine⟨h i k bpw hk,fun⟨h1,h2⟩=>h k i hk bpw ?_⟩;rw[jo (a:=t.rows.getD i default),jo (a:=t.rows.getD i default)];omega
 intro h i k hi hk hc
 rcases bo9 i k with hik|rfl|hik
 · exact(a95.1 (h i k hik hk)).1 hc
 · rw[zb,zb]at hc;omega
 refine(a95.1 (h k i hik hi)).2 ?_;rw[jo (a:=t.rows.getD k default),jo (a:=t.rows.getD k default)]at hc;omega
def b0k:odP t (ai X) (ai Y)<->odP t X Y:=by unfold odP;simp only[azn]
structure Can where
 cx:AS
 a:Nat
 b:Int
deriving DecidableEq
instance:Inhabited Can:=⟨⟨0,0,0⟩⟩
def agX(n:Nat)(r s:Row)(x:AS):Prop:=∀z,z<n->x.getLsbD z=true->cmA r s z=0
def fy(r s:Row)(c:Can):Prop:=if c.b<0 then cmA r s c.a=0 else ¬cmA r s c.a*cmA r s c.b.toNat<0
def j7(t:Tbl)(c:Can):Prop:=∀i k,i<t.rows.length->k<t.rows.length->agX t.attrs.length (t.rows.getD i default) (t.rows.getD k default) c.cx->fy (t.rows.getD i default) (t.rows.getD k default) c
def ay8{n:Nat}{r s:Row}{x:AS}(h:agX n r s x):agX n s r x:=fun z hz hx=>by rw[pk (a:=r),h z hz hx];rfl
variable {c:Can}
def asz{r s:Row}(h:fy r s c):fy s r c:=by
 unfold fy at h ⊢;split
 · rename_i hb
   rw[if_pos hb]at h;rw[pk (a:=r),h];rfl
 rename_i hb;rw[if_neg hb]at h;rw[pk (a:=r),pk (a:=r),Int.neg_mul_neg];exact h
def atq {r:Row}:fy r r c:=by
 unfold fy;split
 · exact alg
 rw[alg];omega
def a2h:j7 t c<->∀i k,i<k->k<t.rows.length->agX t.attrs.length (t.rows.getD i default) (t.rows.getD k default) c.cx->fy (t.rows.getD i default) (t.rows.getD k default) c:=by
 constructor
 · exact fun h i k hik hk=>h i k bpw hk
 intro h i k hi hk ha
 rcases bo9 i k with hik|rfl|hik
 · exact h i k hik hk ha
 · exact atq
 exact asz (h k i hik hi (ay8 ha))
def dp(c:Can):Prop:=(c.a:Int)=c.b\/c.cx.getLsbD c.a=true\/(0<=c.b/\c.cx.getLsbD c.b.toNat=true)
instance {c:Can}:Decidable (dp c):=by unfold dp;infer_instance
def agh(ha:c.a<t.attrs.length)(hb:c.b<t.attrs.length)(h:dp c):j7 t c:=by
 intro i k hi hk hx;unfold fy
 rcases h with h|h|⟨h0,h⟩
 · rw [if_neg bpw,show c.b.toNat=c.a by omega]
   rcases o3 (a:=t.rows.getD i default) (b:=t.rows.getD k default) (i:=c.a)with e|e|e<;>rw[e]<;>decide
 · rw [hx _ ha h]
   split
   · rfl
   rw[Int.zero_mul];omega
 rw[if_neg bpw,hx _ bpw h,Int.mul_zero];omega
def zj{x:AS}(h:j7 t ⟨x,c.a,c.b⟩)(hx:∀z,x.getLsbD z=true->c.cx.getLsbD z=true):j7 t c:=fun i k hi hk ha=>h i k hi hk fun z hz hz2=>ha z hz (hx z hz2)
def ab0(ha:j7 t ⟨c.cx,c.a, -1⟩\/(0<=c.b/\j7 t ⟨c.cx,c.b.toNat, -1⟩))(hb:0<=c.b):j7 t c:=fun i k hi hk hx=>by
 unfold fy;rw[if_neg bpw]
 rcases ha with h|⟨_,h⟩
 · have:=h i k hi hk hx
   unfold fy at this;rw[if_pos (show(-1:Int)<0 by decide)]at this;rw[this,Int.zero_mul];omega
 have:=h i k hi hk hx;unfold fy at this;rw[if_pos (show(-1:Int)<0 by decide)]at this;rw[this,Int.mul_zero];omega
def qd(l:List Nat):AS:=l.foldl (fun s a=>s|||(1:AS)<<<a) 0
def ak7 {z:Nat} (hz:z<32):∀{l:List Nat} {s:AS},(l.foldl (fun s a=>s|||(1:AS)<<<a) s).getLsbD z=(s.getLsbD z||decide (z∈l))
 | [],s=>by simp
 | a::l,s=>by
  rw[bnq,ak7 hz,bpb,o5 _ _ hz];by_cases h:z=a<;>simp[h]
def aaa{z:Nat}(hz:z<32):(qd l).getLsbD z=decide (z∈l):=by unfold qd;rw[ak7 hz];simp
def ay0{a:Nat}:qd (l++[a])=qd l|||(1:AS)<<<a:=by unfold qd;rw[bmo];rfl
def a7n {n:Nat} {r s:Row} (hn:n<=16) (hl:∀z∈l,z<n):agX n r s (qd l)<->bh r s l=0:=by
 rw[oq];unfold agX;constructor
 · exact fun h z hz=>h z (hl z hz) (by rw[aaa (by have:=hl z hz;omega)];simpa using hz)
 exact fun h z hz hb=>h z (by rw[aaa bpw]at hb;simpa using hb)
def cnY(X:List Nat)(b:Nat):Can:=⟨qd X,b, -1⟩
def gi(X Y:List Nat)(i k:Nat):Can:=⟨qd (X.take i)|||qd (Y.take k),min (X.getD i default) (Y.getD k default),((max (X.getD i default) (Y.getD k default):Nat):Int)⟩
def b9b(hn:t.attrs.length<=16)(hX:∀z∈X,z<t.attrs.length)(hY:∀z∈Y,z<t.attrs.length):
 odP t X Y<->(∀b∈Y,j7 t (cnY X b))/\∀i k,i<X.length->k<Y.length->j7 t (gi X Y i k):=by
 have tkm:∀{l:List Nat} {i:Nat},(∀z∈l,z<t.attrs.length)->∀z∈l.take i,z<t.attrs.length:=fun h z hz=>h z (bo6 hz)
 have hag:∀{i k:Nat} {r s:Row},agX t.attrs.length r s (qd (X.take i)|||qd (Y.take k))<->bh r s (X.take i)=0/\bh r s (Y.take k)=0:=fun {i k r s}=>by
  rw[<- a7n hn (tkm hX),<- a7n hn (tkm hY)];unfold agX;simp only[bpb,bnf];exact⟨fun h=>⟨fun z hz hb=>h z hz (.inl hb),fun z hz hb=>h z hz (.inr hb)⟩,fun⟨h1,h2⟩ z hz hb=>hb.elim (h1 z hz) (h2 z hz)⟩
 have hmm:∀{r s:Row} {i k:Nat},fy r s (gi X Y i k)<->¬cmA r s (X.getD i default)*cmA r s (Y.getD k default)<0:=fun {r s i k}=>by
  unfold fy gi;dsimp only;rw[if_neg bpw,bmc]
  rcases Nat.le_total (X.getD i default) (Y.getD k default)with h|h
  · rw[bne h,Nat.max_eq_right h]
  rw[Nat.min_eq_right h,Nat.max_eq_left h,Int.mul_comm]
 constructor
 · intro h
   refine⟨fun b hb i k hi hk ha=>?_,fun p q hp hq i k hi hk ha=>?_⟩
   · have h0:=(a7n hn hX).1 ha
     unfold fy;rw[if_pos (show(cnY X b).b<0 by show(-1:Int)<0;omega)];have h1:=h i k hi hk;have h2:=h k i hk hi;rw[jo (a:=t.rows.getD i default),jo (a:=t.rows.getD i default)]at h2;have h3:bh (t.rows.getD i default) (t.rows.getD k default) Y=0:=by omega
     exact oq.1 h3 b hb
   rw[hmm];obtain⟨ha1,ha2⟩:=hag.1 ha;intro hm;have h1:=h i k hi hk;have h2:=h k i hk hi;rw[jo (a:=t.rows.getD i default),jo (a:=t.rows.getD i default)]at h2;have hm2:=(ady o3 o3).1 hm;rw[a1e hp ha1 bpw,a1e hq ha2 bpw]at h1 h2;omega
 rintro⟨h1,h2⟩ i k hi hk ⟨hc1,hc2⟩;by_cases h0:bh (t.rows.getD i default) (t.rows.getD k default) X=0
 · have:bh (t.rows.getD i default) (t.rows.getD k default) Y=0:=oq.2 fun b hb=>by
    have:=h1 b hb i k hi hk ((a7n hn hX).2 h0);unfold fy at this;rwa [if_pos (show(cnY X b).b<0 by show(-1:Int)<0;omega)]at this
   omega
 obtain⟨p,hp,hp0,hpe⟩:=a36 h0;obtain⟨q,hq,hq0,hqe⟩:=a36 (a:=t.rows.getD i default) (b:=t.rows.getD k default) (l:=Y) bpw;have:=hmm.1 (h2 p q hp hq i k hi hk (hag.2 ⟨hp0,hq0⟩));exact this ((ady o3 o3).2 bpw)
def mb(l:List Can)(c:Can):List Can:=if ¬dp c/\¬c∈l then l++[c]else l
def a3o(X S:List Nat):List Can:=S.map (cnY X)
def aqt(X Y:List Nat):List Can:=(List.range X.length).flatMap fun i=>(List.range Y.length).map fun k=>gi X Y i k
def wu(X Y S:List Nat):List Can:=(aqt X Y).foldl mb ((a3o X S).foldl mb [])
def a9y:∀{l out:List Can},c∈l.foldl mb out<->c∈out\/(c∈l/\¬dp c)
 | [],out=>by simp
 | d :: l,out=>by
  rw[bnq,a9y];unfold mb;split
  · rename_i h
    simp only[bmg,bm9,bp0,or_false];constructor
    · rintro ((h1|rfl)|⟨h1,h2⟩)
      · exact .inl h1
      · exact .inr ⟨.inl rfl,h.1⟩
      exact .inr ⟨.inr h1,h2⟩
    rintro(h1|⟨rfl|h1,h2⟩)
    · exact .inl (.inl h1)
    · exact .inl (.inr rfl)
    exact .inr ⟨h1,h2⟩
  rename_i h;simp only[bm9];constructor
  · rintro (h1|⟨h1,h2⟩)
    · exact .inl h1
    exact .inr ⟨.inr h1,h2⟩
  rintro(h1|⟨rfl|h1,h2⟩)
  · exact .inl h1
  · exact .inl (by by_cases hm:c∈out;exact hm;exact absurd ⟨h2,hm⟩ h)
  exact .inr ⟨h1,h2⟩
def a3x{S:List Nat}:c∈wu X Y S<->¬dp c/\((∃b∈S,c=cnY X b)\/∃i k,i<X.length/\k<Y.length/\c=gi X Y i k):=by
 unfold wu;rw[a9y,a9y];unfold a3o aqt;simp only[bp0,false_or,bml,bpv,bmm];constructor
 · rintro (⟨⟨b,hb,rfl⟩,h⟩|⟨⟨i,hi,k,hk,rfl⟩,h⟩)
   · exact⟨h, .inl ⟨b,hb,rfl⟩⟩
   exact⟨h, .inr ⟨i,k,hi,hk,rfl⟩⟩
 rintro⟨h,⟨b,hb,rfl⟩|⟨i,k,hi,hk,rfl⟩⟩
 · exact .inl ⟨⟨b,hb,rfl⟩,h⟩
 exact .inr ⟨⟨i,hi,k,hk,rfl⟩,h⟩
def bbu{n:Nat}{b:Nat}(hb:b<n):(cnY X b).a<n/\(cnY X b).b<n:=⟨hb,by show(-1:Int)<_;omega⟩
def ap6 {n:Nat} {k:Nat} (hX:∀z∈X,z<n) (hY:∀z∈Y,z<n) (hi:i<X.length) (hk:k<Y.length):(gi X Y i k).a<n/\(gi X Y i k).b<n:=by
 have h1:=hX (X.getD i default) (by rw[al _ _ hi];exact bma _);have h2:=hY (Y.getD k default) (by rw[al _ _ hk];exact bma _);unfold gi;dsimp only;omega
def b5b{S:List Nat}(hn:t.attrs.length<=16)(hX:∀z∈X,z<t.attrs.length)(hY:∀z∈Y,z<t.attrs.length)(hS:∀z,z∈S<->z∈Y):
 odP t X Y<->∀c∈wu X Y S,j7 t c:=by
 rw[b9b hn hX hY];constructor
 · rintro ⟨h1,h2⟩ c hc
   obtain⟨_,⟨b,hb,rfl⟩|⟨i,k,hi,hk,rfl⟩⟩:=a3x.1 hc
   · exact h1 b ((hS b).1 hb)
   exact h2 i k hi hk
 intro h;refine⟨fun b hb=>?_,fun i k hi hk=>?_⟩
 · by_cases ht:dp (cnY X b)
   · have:=bbu (X:=X) (hY b hb)
     exact agh this.1 this.2 ht
   exact h _ (a3x.2 ⟨ht, .inl ⟨b,(hS b).2 hb,rfl⟩⟩)
 by_cases ht:dp (gi X Y i k)
 · have:=ap6 hX hY hi hk
   exact agh this.1 this.2 ht
 exact h _ (a3x.2 ⟨ht, .inr ⟨i,k,hi,hk,rfl⟩⟩)
end
end
end Go.Hx

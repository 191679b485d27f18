/- A part of the proof: SrC Tb2 Tb3 Tb4 Tb5 Jw2 Jn3 Jn5 Jo2 Jr1 Ch15 Jw1 Sp5 Jrw3 Jp1 Jp2 Jb1 Jp3 Bz6. -/
import Derived.Shelf.SlLaysF0
import Derived.Shelf.SlSortCmp.NoneTotal
import Derived.Test.YtmoggbnlhllhaaaGreatDoorProg
import Derived.Test.YtmoggbnlhllhaaaGreatDoorTx22
import Derived.Test.YtmoggbnlhllhaaaGreatDoorTx23
set_option linter.all false
set_option maxRecDepth 100000
set_option maxHeartbeats 1000000
namespace Go.Hx
section
open Go.Proofs Go.RowKit
def b8l:∀(a b:List UInt8),Lib.compareBytes a b=aq5 a b
 | [],[]=>rfl
 | [],_::_=>rfl
 |_::_,[]=>rfl
 | x :: xs,y::ys=>by
  unfold Lib.compareBytes aq5;rw[b8l xs ys];by_cases h1:x<y
  · have h2:x.toNat<y.toNat:=h1
    rw[if_pos h1,if_neg (fun e=>by rw[e]at h2;omega)];unfold sgn;rw[if_pos bmq]
  have h2:¬x.toNat<y.toNat:=h1;rw[if_neg h1];by_cases h3:y<x
  · have h4:y.toNat<x.toNat:=h3
    rw[if_pos h3,if_neg (fun e=>by rw[e]at h4;omega)];unfold sgn;rw[if_neg bmq,if_pos bmq]
  have h4:¬y.toNat<x.toNat:=h3;rw[if_neg h3,if_pos (UInt8.toNat_inj.1 bmq)]
def b1j:a6 bnb 251:=⟨Tryz.f251,Tryz.func251,by kernel_rfl,by kernel_rfl⟩
def b0h (a b:ByteArray):aa bnb 251 [pS a,pS b] (ag [pI (a0z a b)]):=by
 intro w imm us htab him hus
 match us,hus with
 | [u,v],⟨hu,hv,_⟩ =>
  obtain⟨rfl,_⟩:=hu;obtain⟨rfl,_⟩:=hv;refine(Any.bytealg_CompareString Tryz.laysCS a b w).mono ?_;rintro e w' ⟨rfl,rfl⟩;exact⟨_,imm,rfl,⟨by rw[b8l];rfl,rfl⟩,fun _ _=>rfl,him,Below.refl _ _⟩
 | [],h=>exact h.elim
 | [_],⟨_,h⟩=>exact h.elim
 |_::_::_::_,⟨_,_,h⟩=>exact h.elim
end
section
open Go.Proofs
def alu:a6 bnb 144:=wgx Tryz.func144
def bn2{p:Prop}(h:p:=by simp[cj, *]<;>omega):p:=h
def c76(v:Val):aa bnb 144 [v.pc] (ag [pB (cj v)]):=by
 refine hpx (nt:=41) Tryz.func144 ?_;refine sx7 ?_;refine m9 0 ?_;refine mf ?_;refine hcd ?_ ?_<;>intro h0
 ·
  refine w_6 ?_;refine be rfl rfl ?_ ?_<;>intro r1
  ·
   have h1:=tz1 r1;(iterate 3 refine qy ?_ (hg:=(gtt r1)));refine w_3 ?_
   exact hx8 rfl rfl rfl (⟨ccb bn2,trivial⟩)
  have h1:=tz2 r1;(iterate 3 refine k9 (gft r1) ?_);refine w_3 ?_
  exact hx8 rfl rfl rfl (⟨ccb bn2,trivial⟩)
 refine w_5 ?_;refine hcd ?_ ?_<;>intro h2
 · refine v_7 ?_;exact⟨ccb bn2,trivial⟩
 refine w_5 ?_;refine hcd ?_ ?_<;>intro h3
 ·
  refine w_6 ?_;refine be rfl rfl ?_ ?_<;>intro r4
  ·
   have h4:=tz1 r4;(iterate 4 refine qy ?_ (hg:=(gtt r4)));refine w_3 ?_
   exact hx8 rfl rfl rfl (⟨ccb bn2,trivial⟩)
  have h4:=tz2 r4;(iterate 4 refine k9 (gft r4) ?_);refine w_3 ?_
  exact hx8 rfl rfl rfl (⟨ccb bn2,trivial⟩)
 refine w_5 ?_;refine hcd ?_ ?_<;>intro h5
 ·
  refine w_6 ?_;refine be rfl rfl ?_ ?_<;>intro r6
  ·
   have h6:=tz1 r6;(iterate 3 refine qy ?_ (hg:=(gtt r6)));refine w_3 ?_
   exact hx8 rfl rfl rfl (⟨ccb bn2,trivial⟩)
  have h6:=tz2 r6;(iterate 3 refine k9 (gft r6) ?_);refine w_3 ?_
  exact hx8 rfl rfl rfl (⟨ccb bn2,trivial⟩)
 refine v_5 ?_;exact⟨ccb bn2,trivial⟩
end
section
open Go.Proofs
def ark:a6 bnb 81:=wgx Tryz.func81
def bn6{p:Prop}(h:p:=by assumption):p:=h
def b93(s:ByteArray):aa bnb 81 [pS s] (ag [pB (jw s)]):=by
 refine hpx (nt:=58) Tryz.func81 ?_;refine db ?_;refine be rfl rfl ?_ ?_<;>intro r0
 ·
  have h0:=tz1 r0;(iterate 3 refine k9 (gtf r0) ?_);refine w_2 ?_;(iterate 2 refine k9 rfl ?_);refine w_7 ?_
  exact hx8 rfl rfl rfl (⟨ccb (by first|exact(abr (xw.2 bn6)).symm|exact(a8h bmq).symm|exact(a4y bn6).symm),trivial⟩)
 have h0:=tz2 r0;(iterate 3 refine qy ?_ (hg:=(gff r0)));refine w_2 ?_;refine be rfl rfl ?_ ?_<;>intro r1
 ·
  have h1:=tz1 (ck r0 r1);(iterate 2 refine k9 (gtf r1) ?_);refine w_7 ?_
  exact hx8 rfl rfl rfl (⟨ccb (by first|exact(abr (xw.2 bn6)).symm|exact(a8h bmq).symm|exact(a4y bn6).symm),trivial⟩)
 have h1:=tz2 (ck r0 r1);(iterate 2 refine qy ?_ (hg:=(gff r1)));refine w_2 ?_;refine az _ rfl ?_ ?_<;>intro r2
 · have h2:=tz1 (ck r1 r2);refine v_4 ?_;exact⟨ccb (by first|exact(abr (xw.2 bn6)).symm|exact(a8h bmq).symm|exact(a4y bn6).symm),trivial⟩
 have h2:=tz2 (ck r1 r2);refine eu ?_;refine dn (ι:=Unit) kn km (fun _i=>⟨[],[]⟩) (fun _i=>jw s=true) ?_ ?_
 ·
  refine w_7 ?_;refine b7 (ι:=Nat) (ka 0 (ka 18 kn)) km (fun i=>⟨[(19,some (vI i))],[]⟩) (fun i=>i<=s.size/\(∀j,j<i->(ltr (c5 s j)||dig (c5 s j))=true)/\(0<i->ltr (c5 s 0)=true)) (fun i=>s.size-i) (0) (⟨bio _,gt,fun h=>by omega⟩) kk ?_;rintro i ⟨hi,hI,hz⟩;refine w_5 ?_;refine hcd ?_ ?_<;>intro h3
  ·
   refine ic ?_;refine aaz (ka 0 (ka 3 (ka 4 (ka 18 (ka 19 kn))))) km ⟨[(5,some (vB (ltr (c5 s i))))],[]⟩ ?_ ?_
   ·
    refine w_4 ?_;refine be rfl rfl ?_ ?_<;>intro r4
    ·
     have h4:=tz1 r4;(iterate 2 refine qy ?_ (hg:=(gtt r4)));refine w_2 ?_;refine be rfl rfl ?_ ?_<;>intro r5
     ·
      have h5:=tz1 (dc r4 r5);(iterate 3 refine k9 (gtf r5) ?_);(iterate 2 refine k9 rfl ?_);refine k9 (gtf r5) ?_;refine w_2 ?_;(iterate 2 refine k9 rfl ?_);refine w_3 ?_
      exact⟨⟨⟨_,rfl,(cob (by simp[ltr, *]))⟩,tt⟩,trivial⟩
     have h5:=tz2 (dc r4 r5);(iterate 3 refine qy ?_ (hg:=(gff r5)));refine be rfl rfl ?_ ?_<;>intro r6
     ·
      have h6:=tz1 r6;(iterate 2 refine qy ?_ (hg:=(gtt r6)));refine qy ?_ (hg:=(gff r5));refine w_2 ?_;refine be rfl rfl ?_ ?_<;>intro r7
      ·
       have h7:=tz1 (dc r6 (ck r5 r7));(iterate 2 refine k9 (gtf r7) ?_);refine w_3 ?_
       exact⟨⟨⟨_,rfl,(cob (by simp[ltr, *]))⟩,tt⟩,trivial⟩
      have h7:=tz2 (dc r6 (ck r5 r7));(iterate 2 refine qy ?_ (hg:=(gff r7)));refine w_3 ?_
      exact⟨⟨⟨_,rfl,(cob (by simp[ltr, *]))⟩,tt⟩,trivial⟩
     have h6:=tz2 r6;(iterate 2 refine k9 (gft r6) ?_);refine rq rfl rfl rfl rfl (gff r5) ?_ (hp:=r6);refine w_2 ?_;(iterate 2 refine rq rfl rfl rfl rfl (gff (agf r5 rfl)) ?_);refine w_3 ?_
     exact⟨⟨⟨_,rfl,(cob (by simp[ltr, *]))⟩,tt⟩,trivial⟩
    have h4:=tz2 r4;(iterate 2 refine k9 (gft r4) ?_);refine w_5 ?_;refine be rfl rfl ?_ ?_<;>intro r8
    ·
     have h8:=tz1 r8;(iterate 2 refine qy ?_ (hg:=(gtt r8)));refine w_3 ?_;refine be rfl rfl ?_ ?_<;>intro r9
     ·
      have h9:=tz1 (dc r8 r9);(iterate 2 refine k9 (gtf r9) ?_);refine w_3 ?_
      exact⟨⟨⟨_,rfl,(cob (by simp[ltr, *]))⟩,tt⟩,trivial⟩
     have h9:=tz2 (dc r8 r9);(iterate 2 refine qy ?_ (hg:=(gff r9)));refine w_3 ?_
     exact⟨⟨⟨_,rfl,(cob (by simp[ltr, *]))⟩,tt⟩,trivial⟩
    have h8:=tz2 r8;(iterate 2 refine k9 (gft r8) ?_);refine w_3 ?_;(iterate 2 refine rq rfl rfl rfl rfl (gff (agf rfl rfl)) ?_);refine w_3 ?_
    exact⟨⟨⟨_,rfl,(cob (by simp[ltr, *]))⟩,tt⟩,trivial⟩
   refine w_5 ?_;refine be rfl rfl ?_ ?_<;>intro r10
   ·
    have h10:=iu r10;(iterate 3 refine qy ?_ (hg:=(gtt r10)));refine be rfl rfl ?_ ?_<;>intro r11
    ·
     have h11:=tz1 r11;(iterate 2 refine k9 (gtf r11) ?_);refine rq rfl rfl rfl rfl (gtt r10) ?_ (hp:=r11);refine qy ?_ (hg:=(gtt r10));(iterate 2 refine k9 rfl ?_);refine qy ?_ (hg:=(gtt r10));refine w_2 ?_
     refine az _ rfl (fun _=>?_) (fun e=>Bool.noConfusion ((a4v r10 rfl).symm.trans e));refine v_4 ?_;exact⟨ccb (by first|exact(a3q (i:=i) bn6 bn6).symm|exact(a5h (i:=i) bmq bn6 (by simp[dig, *]<;>omega)).symm),trivial⟩
    have h11:=tz2 r11;(iterate 2 refine qy ?_ (hg:=(gff r11)));(iterate 2 refine qy ?_ (hg:=(gtt r10)));refine be rfl rfl ?_ ?_<;>intro r12
    ·
     have h12:=tz1 (ck r11 r12);(iterate 2 refine k9 (gtf r12) ?_);refine rq rfl rfl rfl rfl (gtt r10) ?_ (hp:=r12);refine w_2 ?_;refine az _ rfl (fun _=>?_) (fun e=>Bool.noConfusion ((a4v r10 rfl).symm.trans e));refine w_4 ?_
     exact hx8 rfl rfl rfl (⟨ccb (by first|exact(a3q (i:=i) bn6 bn6).symm|exact(a5h (i:=i) bmq bn6 (by simp[dig, *]<;>omega)).symm),trivial⟩)
    have h12:=tz2 (ck r11 r12);(iterate 2 refine qy ?_ (hg:=(gff r12)));refine qy ?_ (hg:=(gtt r10));refine w_2 ?_;refine az _ rfl ?_ ?_<;>intro r13
    · have h13:=tz1 (ck r12 (dc r10 r13));refine v_4 ?_;exact⟨ccb (by first|exact(a3q (i:=i) bn6 bn6).symm|exact(a5h (i:=i) bmq bn6 (by simp[dig, *]<;>omega)).symm),trivial⟩
    have h13:=tz2 (ck r12 (dc r10 r13));refine w_5 ?_;refine lpz (i+1) kk ?_;exact⟨by omega,f5 hI (by simp_all [dig]<;>omega),fun _=>b5n hz (fun e=>by first|assumption|(exfalso;omega))⟩
   have h10:=iz r10;(iterate 3 refine k9 (gft r10) ?_);(iterate 2 refine k9 rfl ?_);(iterate 2 refine k9 (gft r10) ?_);(iterate 2 refine k9 rfl ?_);refine k9 (gft r10) ?_;refine w_8 ?_;refine lpz (i+1) kk ?_
   exact⟨by omega,f5 hI (by simp_all [dig]<;>omega),fun _=>b5n hz (fun e=>by first|assumption|(exfalso;omega))⟩
  refine eg ?_;refine⟨(), ?_, ?_⟩
  · exact b6g (fun e=>absurd ((xw (s:=s)).1 e) bn6) bmq (hz (Nat.pos_of_ne_zero (fun e=>absurd ((xw (s:=s)).1 bmq) bn6))) bn6 (fun j hj=>hI j bmq)
  exact⟨trivial,trivial⟩
 rintro _ hj;refine v_4 ?_;exact⟨ccb hj.symm,trivial⟩
def b2f:a6 bnb 141:=wgx Tryz.func141
def bdg(l:List ByteArray)(s:ByteArray):aa bnb 141 [pP (a3t l),pS s] (ag [pI (ads l s)]):=by
 refine hpx (nt:=19) Tryz.func141 ?_;refine j4 0 rfl (fun hn=>?_);refine w_4 ?_;refine dn (ι:=Unit) kn km (fun _i=>⟨[],[]⟩) (fun _i=>ads l s=-1) ?_ ?_
 ·
  refine w_7 ?_;refine b7 (ι:=Nat) (ka 0 (ka 1 (ka 7 kn))) km (fun i=>⟨[(8,some (vI i))],[]⟩) (fun i=>i<=l.length/\∀j,j<i->decide (l.getD j default=s)=false) (fun i=>l.length-i) (0) (⟨bio _,gt⟩) kk ?_;rintro i ⟨hi,hI⟩;refine w_5 ?_;refine hcd ?_ ?_<;>intro h0
  ·
   refine za ?_;refine hcd ?_ ?_<;>intro h1
   · refine v_5 ?_;exact⟨cci (vh (p:=fun x=>decide (x=s)) (i:=i) bmq hI (decide_eq_true h1.symm)).symm,trivial⟩
   refine w_5 ?_;refine lpz (i+1) kk ?_;exact⟨by omega,f5 hI (decide_eq_false fun e=>h1 e.symm)⟩
  refine eg ?_;refine⟨(), ?_, ?_⟩
  · exact ve (p:=fun x=>decide (x=s)) fun j hj=>hI j bmq
  exact⟨trivial,trivial⟩
 rintro _ hj;refine v_4 ?_;exact⟨cci hj.symm,trivial⟩
def b6w:a6 bnb 82:=wgx Tryz.func82
def bdt (l:List ByteArray) (s:ByteArray):aa bnb 82 [pP (a3t l),pS s] (ag [pB (decide (0<=ads l s))]):=by
 refine hpx (nt:=9) Tryz.func82 ?_;refine w_8 ?_;refine qcx b2f (bdg _ _) ?_;refine v_3 ?_;exact CoL.refl _
def b2m:a6 bnb 202:=wgx Tryz.func202
def be5(l:List Val)(g k:Nat)(caps:Nat->PV)(V:Val->Bool)(hg:a6 bnb g)(hV:∀i,i<l.length->aa bnb g ((l.getD i default).pc::i7 caps k 0) (ag [pB (V (l.getD i default))])):aa bnb 202 [pP (vals l),pP (.fn g k caps)] (ag [pI (idx V l)]):=by
 refine hpx (nt:=19) Tryz.func202 ?_;refine j4 0 rfl (fun hn=>?_);refine w_4 ?_;refine dn (ι:=Unit) kn km (fun _i=>⟨[],[]⟩) (fun _i=>idx V l=-1) ?_ ?_
 ·
  refine w_7 ?_;refine b7 (ι:=Nat) (ka 0 (ka 1 (ka 7 kn))) km (fun i=>⟨[(8,some (vI i))],[]⟩) (fun i=>i<=l.length/\∀j,j<i->V (l.getD j default)=false) (fun i=>l.length-i) (0) (⟨bio _,gt⟩) kk ?_;rintro i ⟨hi,hI⟩;refine w_5 ?_;refine hcd ?_ ?_<;>intro h0
  ·
   refine ic ?_;refine rc rfl rfl rfl rfl rfl rfl hg (hV i bmq) (CoL.refl _) rfl rfl ?_;refine ce ?_;refine hcb ?_ ?_<;>intro h1
   · refine v_5 ?_;exact⟨cci (vh (i:=i) bmq hI h1).symm,trivial⟩
   refine w_5 ?_;refine lpz (i+1) kk ?_;exact⟨by omega,f5 hI (h1)⟩
  refine eg ?_;refine⟨(), ?_, ?_⟩
  · exact ve fun j hj=>hI j bmq
  exact⟨trivial,trivial⟩
 rintro _ hj;refine v_4 ?_;exact⟨cci hj.symm,trivial⟩
def b4c:a6 bnb 142:=wgx Tryz.func142
def bev (l:List Val) (g k:Nat) (caps:Nat->PV) (V:Val->Bool) (hg:a6 bnb g) (hV:∀i,i<l.length->aa bnb g ((l.getD i default).pc::i7 caps k 0) (ag [pB (V (l.getD i default))])):aa bnb 142 [pP (vals l),pP (.fn g k caps)] (ag [pB (l.any V)]):=by
 refine hpx (nt:=9) Tryz.func142 ?_;refine w_8 ?_;refine qcx b2m (be5 l g k caps V hg hV) ?_;refine v_3 ?_;exact⟨ccb anq,trivial⟩
def b0k:a6 bnb 143:=wgx Tryz.func143
def bf8 (v:Val):aa bnb 143 [v.pc] (ag [pB (!cj v)]):=by
 refine hpx (nt:=6) Tryz.func143 ?_;refine sx7 ?_;refine m9 0 ?_;refine w_5 ?_;refine qcx alu (c76 _) ?_;refine v_3 ?_;exact CoL.refl _
def ba8:a6 bnb 83:=wgx Tryz.func83
def c93 (l:List Val):aa bnb 83 [pP (vals l)] (ag [pB (l.all cj)]):=by
 refine hpx (nt:=6) Tryz.func83 ?_;refine w_7 ?_;refine qcx b4c (bev l 143 0 (fun _=>.any) (fun v=>!cj v) b0k (fun i _=>bf8 _)) ?_;refine v_3 ?_;exact⟨ccb al7,trivial⟩
end
section
open Go.Proofs
abbrev vpL(ps:List PV):PV:=.vp ps.length fun j=>ps.getD j .any
def rE{n:Nat}{l:List Row}{i:Nat}{b e:Int}(hi:i<l.length)(h:ew n b (l.drop i)=e):(if(l.getD i default).id<=b then 1 else if(l.getD i default).vals.length≠n then 6 else if((l.getD i default).vals.all cj)=false then 1 else ew n (l.getD i default).id (l.drop (i+1)))=e:=by rw[<- akx hi];exact h
def tE {t:Tbl} {e:Int} (h0:jw t.name=true) (h1:¬16<t.attrs.length) (h2:¬1000<t.rows.length) (h3:a5r t.attrs=true) (h:ew t.attrs.length 0 t.rows=e):dg t=e:=by
 have:¬(16<t.attrs.length\/1000<t.rows.length):=by omega
 simp[dg,h0,h3,h,this]
def tE1{t:Tbl}(h0:jw t.name=false):dg t=1:=by simp[dg,h0]
def tE3{t:Tbl}(h0:jw t.name=true)(h1:16<t.attrs.length\/1000<t.rows.length):dg t=3:=by simp[dg,h0,h1]
def tE2 {t:Tbl} (h0:jw t.name=true) (h1:¬16<t.attrs.length) (h2:¬1000<t.rows.length) (h3:a5r t.attrs=false):dg t=1:=by
 have:¬(16<t.attrs.length\/1000<t.rows.length):=by omega
 simp[dg,h0,h3,this]
def a48:a6 bnb 30:=wgx Tryz.func30
def c88(t:Tbl):aa bnb 30 [t.pc] (ag [pI (dg t)]):=by
 refine hpx (nt:=70) Tryz.func30 ?_;refine sx7 ?_;refine m9 0 ?_;refine w_7 ?_;refine qcx ark (b93 _) ?_;refine w_2 ?_;refine hcv ?_ ?_<;>intro h0
 · refine v_4 ?_;exact⟨cci (tE1 bn6).symm,trivial⟩
 refine w_9 ?_;refine be rfl rfl ?_ ?_<;>intro r1
 ·
  have h1:=tz1 r1;(iterate 4 refine k9 (gtf r1) ?_);refine w_7 ?_
  exact hx8 rfl rfl rfl (⟨cci (tE3 bn6 bmq).symm,trivial⟩)
 have h1:=tz2 r1;(iterate 4 refine qy ?_ (hg:=(gff r1)));refine w_2 ?_;refine az _ rfl ?_ ?_<;>intro r2
 · have h2:=tz1 (ck r1 r2);refine v_4 ?_;exact⟨cci (tE3 bn6 bmq).symm,trivial⟩
 have h2:=tz2 (ck r1 r2);refine eu ?_;refine dn (ι:=Unit) (ka 1 kn) (kb 0 km) (fun _i=>⟨[],[]⟩) (fun _i=>a5r t.attrs=true) ?_ ?_
 ·
  refine w_8 ?_;refine b7 (ι:=Nat) (ka 1 (ka 23 (ka 24 kn))) (kb 0 km) (fun i=>⟨[(25,some (vI i))],[]⟩) (fun i=>i<=t.attrs.length/\∀j,j<i->a2m t.attrs j=true) (fun i=>t.attrs.length-i) (0) (⟨bio _,gt⟩) kk ?_;rintro i ⟨hi,hI⟩;refine w_5 ?_;refine hcd ?_ ?_<;>intro h3
  ·
   refine mf ?_;refine qcx ark (b93 _) ?_;refine w_2 ?_;refine be rfl rfl ?_ ?_<;>intro r4
   ·
    have h4:=iu r4;(iterate 6 refine k9 (gtf r4) ?_);refine w_7 ?_
    exact hx8 rfl rfl rfl (⟨cci (tE2 bn6 bmq bmq (zj (i:=i) bmq (by first|(unfold a2m;simp_all;done)|(unfold a2m;rw[Bool.and_eq_false_iff];right;exact decide_eq_false bmq)))).symm,trivial⟩)
   have h4:=iz r4;(iterate 5 refine qy ?_ (hg:=(gff r4)));refine rc rfl rfl rfl rfl rfl rfl b6w (bdt (t.attrs.take i) (t.attrs.getD i default)) (⟨CoC.one (anv (k:=i) bmq),CoC.refl _,trivial⟩) rfl (gff r4) ?_;refine w_2 ?_
   refine az _ rfl ?_ ?_<;>intro r5
   · have h5:=ck r4 r5;refine v_4 ?_;exact⟨cci (tE2 bn6 bmq bmq (zj (i:=i) bmq (by first|(unfold a2m;simp_all;done)|(unfold a2m;rw[Bool.and_eq_false_iff];right;exact decide_eq_false bmq)))).symm,trivial⟩
   have h5:=ck r4 r5;have hM:=auv h5;refine w_5 ?_;refine lpz (i+1) kk ?_;exact⟨by omega,f5 hI (by simp only[a2m,biw,decide_eq_true_eq];exact⟨by assumption,by simp_all⟩)⟩
  refine eg ?_;refine⟨(), ?_, ?_⟩
  · exact a7f fun j hj=>hI j bmq
  exact kk
 rintro _ hnm;refine w_4 ?_;refine dn (ι:=Unit) kn km (fun _i=>⟨[],[]⟩) (fun _i=>ew t.attrs.length 0 t.rows=0) ?_ ?_
 ·
  refine w_8 ?_;refine b7 (ι:=(Nat×Int)) (ka 1 (ka 43 (ka 44 kn))) (kb 0 km) (fun x=>⟨[(5,some (vI x.2)),(45,some (vI x.1))],[]⟩) (fun x=>x.1<=t.rows.length/\ew t.attrs.length x.2 (t.rows.drop x.1)=ew t.attrs.length 0 t.rows) (fun x=>t.rows.length-x.1) ((0,0)) (⟨bio _,rfl⟩) kk ?_;rintro⟨i,b⟩ ⟨hi,hI⟩;dsimp only at hi hI ⊢;refine w_5 ?_;refine hcd ?_ ?_<;>intro h6
  ·
   refine w_7 ?_;refine m9 1 ?_;refine gz ?_;refine hcd ?_ ?_<;>intro h7
   · refine w_4 ?_;refine hrr ?_;have hs:=rE bmq hI;rw[if_pos bmq]at hs;exact f9 rfl rfl (⟨cci (tE bn6 bmq bmq bn6 hs.symm).symm,trivial⟩)
   refine ip ?_;refine hcn ?_ ?_<;>intro h8
   · refine w_4 ?_;refine hrr ?_;have hs:=rE bmq hI;rw[if_neg bmq,if_pos bmq]at hs;exact f9 rfl rfl (⟨cci (tE bn6 bmq bmq bn6 hs.symm).symm,trivial⟩)
   refine w_4 ?_;refine qcx ba8 (c93 _) ?_;refine w_3 ?_;refine hcv ?_ ?_<;>intro h9
   · refine w_4 ?_;refine hrr ?_;have hs:=rE bmq hI;rw[if_neg bmq,if_neg bmq,if_pos bn6]at hs;exact f9 rfl rfl (⟨cci (tE bn6 bmq bmq bn6 hs.symm).symm,trivial⟩)
   refine db ?_;refine lpz (i+1,(t.rows.getD i default).id) kk ?_;refine⟨by dsimp only;omega, ?_⟩;have hs:=rE bmq hI;rw[if_neg bmq,if_neg bmq,if_neg (fun e=>Bool.noConfusion (e.symm.trans (show _=true by assumption)))]at hs;exact hs
  refine eg ?_;refine⟨(), ?_, ?_⟩
  · rw[<- hI,bmh bmq];rfl
  exact⟨trivial,trivial⟩
 rintro _ hj;refine v_4 ?_;exact⟨cci (tE bn6 bmq bmq bn6 hj).symm,trivial⟩
end
section
open Go.Proofs
def azt:a6 bnb 164:=wgx Tryz.func164
def b0o(n:Nat)(c:Bool)(f:Nat->Nat->PV)(hn:n<=8796093022208) :
 dv bnb 164 [.one (.p (.sl n 1 c f))] [] (.v (.one (.ref 0 n))) [(0, .arr true 1 9 n f)] []:=by
 refine hfx (nt:=8) Tryz.func164 ?_;refine sx7 ?_;refine d7 true rfl rfl rfl rfl rfl trivial ?_;refine ce ?_;refine a6t (ι:=Bool) (fun c=>⟨[(0,some (bo (.sl n 1 c f)))],[]⟩) (fun _=>True) ?_ fun c _=>?_
 · rcases bka n with hz|h0
   · subst hz
     refine hw_exact' 0 rfl fun ad cap hcap=>?_;refine sx7 ?_;(iterate 2 refine d7 true rfl rfl rfl rfl rfl trivial ?_);refine ce ?_;refine az ad.isNone rfl ?_ ?_<;>intro hc
     · refine sx7 ?_
       refine d7 true rfl rfl rfl rfl rfl trivial ?_;refine ce ?_;refine d4 2 0 true 1 9 f bmx rfl (CoP.sl rfl (.inr rfl) (fun h=>h) fun i j hi _=>absurd hi (bip i)) (.inr rfl) rfl ?_;refine hrr ?_;exact⟨_,_,rfl,trivial,CoR.refl _,uu⟩
     refine eu ?_;exact⟨false,trivial,⟨⟨_,rfl,CoP.raw_sl hcap⟩,trivial⟩,trivial⟩
   refine sx7 ?_;refine d7 true rfl rfl rfl rfl rfl trivial ?_;refine d7 true rfl rfl rfl rfl rfl h0 ?_;refine ce ?_;refine az false rfl (fun hc=>by cases hc) (fun hc=>?_);refine eu ?_;exact⟨c,trivial,tt,trivial⟩
 refine sx7 ?_;refine a11 0 rfl rfl rfl rfl rfl rfl trivial ?_;refine d7 true rfl rfl rfl rfl rfl trivial ?_;refine a3x 0 true rfl rfl rfl rfl rfl rfl ⟨trivial,rfl,rfl,rfl, .inl rfl,by show 0+n<=9223372036854775807;omega,by show(0+n)*16<=140737488355328;omega,fun _=>.inl rfl⟩ ?_;refine d7 true rfl rfl rfl rfl rfl trivial ?_;refine ce ?_;refine hrr ?_;refine⟨_,_,rfl,trivial,CoR.of_eq (by show HR.v (.one (.ref 0 (0+n)))=_;rw[bjo]),⟨⟨_,rfl, ?_⟩,trivial⟩⟩;exact⟨fun h=>h,rfl,rfl,(bjo n).symm,fun i j _ _=>CoP.of_eq (by simp[fg])⟩
def awe (n:Nat) (c:Bool) (f:Nat->Nat->PV) (hn:n<=8796093022208):aa bnb 164 [.one (.sl n 1 c f)] (.v (.one (.sl n 1 false f))) :=
 dv.pure (args:=[.one (.sl n 1 c f)]) (l:=[.one (.ref 0 n)]) (b0o n c f hn) rfl ⟨rfl,trivial⟩
def c77(l:List ByteArray)(h:l.length<=68719476736):aa bnb 164 [pP (psl 1 a8q l)] (ag [pP (psl 1 a8q l)]):=awe l.length false (lf a8q l) bmq
def b1g:a6 bnb 209:=wgx Tryz.func209
def b0n(n:Nat)(c:Bool)(f:Nat->Nat->PV)(hn:n<=4398046511104) :
 dv bnb 209 [.one (.p (.sl n 3 c f))] [] (.v (.one (.ref 0 n))) [(0, .arr true 3 141 n f)] []:=by
 refine hfx (nt:=8) Tryz.func209 ?_;refine sx7 ?_;refine d7 true rfl rfl rfl rfl rfl trivial ?_;refine ce ?_;refine a6t (ι:=Bool) (fun c=>⟨[(0,some (bo (.sl n 3 c f)))],[]⟩) (fun _=>True) ?_ fun c _=>?_
 · rcases bka n with hz|h0
   · subst hz
     refine hw_exact' 0 rfl fun ad cap hcap=>?_;refine sx7 ?_;(iterate 2 refine d7 true rfl rfl rfl rfl rfl trivial ?_);refine ce ?_;refine az ad.isNone rfl ?_ ?_<;>intro hc
     · refine sx7 ?_
       refine d7 true rfl rfl rfl rfl rfl trivial ?_;refine ce ?_;refine d4 2 0 true 3 141 f bmx rfl (CoP.sl rfl (.inr rfl) (fun h=>h) fun i j hi _=>absurd hi (bip i)) (.inr rfl) rfl ?_;refine hrr ?_;exact⟨_,_,rfl,trivial,CoR.refl _,uu⟩
     refine eu ?_;exact⟨false,trivial,⟨⟨_,rfl,CoP.raw_sl hcap⟩,trivial⟩,trivial⟩
   refine sx7 ?_;refine d7 true rfl rfl rfl rfl rfl trivial ?_;refine d7 true rfl rfl rfl rfl rfl h0 ?_;refine ce ?_;refine az false rfl (fun hc=>by cases hc) (fun hc=>?_);refine eu ?_;exact⟨c,trivial,tt,trivial⟩
 refine sx7 ?_;refine a11 0 rfl rfl rfl rfl rfl rfl trivial ?_;refine d7 true rfl rfl rfl rfl rfl trivial ?_;refine a3x 0 true rfl rfl rfl rfl rfl rfl ⟨trivial,rfl,rfl,rfl, .inl rfl,by show 0+n<=9223372036854775807;omega,by show(0+n)*32<=140737488355328;omega,fun _=>.inl rfl⟩ ?_;refine d7 true rfl rfl rfl rfl rfl trivial ?_;refine ce ?_;refine hrr ?_;refine⟨_,_,rfl,trivial,CoR.of_eq (by show HR.v (.one (.ref 0 (0+n)))=_;rw[bjo]),⟨⟨_,rfl, ?_⟩,trivial⟩⟩;exact⟨fun h=>h,rfl,rfl,(bjo n).symm,fun i j _ _=>CoP.of_eq (by simp[fg])⟩
def axe (n:Nat) (c:Bool) (f:Nat->Nat->PV) (hn:n<=4398046511104):aa bnb 209 [.one (.sl n 3 c f)] (.v (.one (.sl n 3 false f))) :=
 dv.pure (args:=[.one (.sl n 3 c f)]) (l:=[.one (.ref 0 n)]) (b0n n c f hn) rfl ⟨rfl,trivial⟩
def c78(l:List Val)(h:l.length<=68719476736):aa bnb 209 [pP (psl 3 Val.c l)] (ag [pP (psl 3 Val.c l)]):=axe l.length false (lf Val.c l) bmq
def b9x:a6 bnb 68:=wgx Tryz.func68
def c49 (c:Int) (hc:0<=c):aa bnb 68 [pU8 c] (ag [(ofI (c%12)).pc]):=by
 refine hpx (nt:=39) Tryz.func68 ?_;refine sx7 ?_;refine m9 0 ?_;refine kg ?_;refine hcd ?_ ?_<;>intro h0
 · refine v_5 ?_;exact⟨CoC.of_eq (by rw[show ofI (c%12)=⟨1,0,emp⟩ from by simp[ofI, *]];rfl),trivial⟩
 refine w_5 ?_;refine hcd ?_ ?_<;>intro h1
 · refine v_5 ?_;exact⟨CoC.of_eq (by rw[show ofI (c%12)=⟨1,1,emp⟩ from by simp[ofI, *]];rfl),trivial⟩
 refine w_5 ?_;refine hcd ?_ ?_<;>intro h2
 · refine v_5 ?_;exact⟨CoC.of_eq (by rw[show ofI (c%12)=⟨1,2,emp⟩ from by simp[ofI, *]];rfl),trivial⟩
 refine w_5 ?_;refine hcd ?_ ?_<;>intro h3
 · refine v_5 ?_;exact⟨CoC.of_eq (by rw[show ofI (c%12)=⟨0,0,emp⟩ from by simp[ofI, *]];rfl),trivial⟩
 refine w_5 ?_;refine hcd ?_ ?_<;>intro h4
 · refine v_5 ?_;exact⟨CoC.of_eq (by rw[show ofI (c%12)=⟨2,0,⟨#[97]⟩⟩ from by simp[ofI, *]];rfl),trivial⟩
 refine w_5 ?_;refine hcd ?_ ?_<;>intro h5
 · refine v_5 ?_;exact⟨CoC.of_eq (by rw[show ofI (c%12)=⟨2,0,⟨#[98]⟩⟩ from by simp[ofI, *]];rfl),trivial⟩
 refine w_5 ?_;refine hcd ?_ ?_<;>intro h6
 · refine v_5 ?_;exact⟨CoC.of_eq (by rw[show ofI (c%12)=⟨2,0,emp⟩ from by simp[ofI, *]];rfl),trivial⟩
 refine w_5 ?_;refine hcd ?_ ?_<;>intro h7
 · refine v_5 ?_;exact⟨CoC.of_eq (by rw[show ofI (c%12)=⟨3,1,emp⟩ from by simp[ofI, *]];rfl),trivial⟩
 refine w_5 ?_;refine hcd ?_ ?_<;>intro h8
 · refine v_5 ?_;exact⟨CoC.of_eq (by rw[show ofI (c%12)=⟨1, -1,emp⟩ from by simp[ofI, *]];rfl),trivial⟩
 refine w_5 ?_;refine hcd ?_ ?_<;>intro h9
 · refine v_5 ?_;exact⟨CoC.of_eq (by rw[show ofI (c%12)=⟨2,0,⟨#[97,98]⟩⟩ from by simp[ofI, *]];rfl),trivial⟩
 refine w_5 ?_;refine hcd ?_ ?_<;>intro h10
 · refine v_5 ?_;exact⟨CoC.of_eq (by rw[show ofI (c%12)=⟨3,2,emp⟩ from by simp[ofI, *]];rfl),trivial⟩
 refine v_6 ?_;exact⟨CoC.of_eq (by rw[show ofI (c%12)=⟨1,7,emp⟩ from by simp[ofI, *]];rfl),trivial⟩
end
section
open Go.Proofs
def b2u {α:Type} [Inhabited α] {cl:Bool} {c:α->Nat->PV} {x y z:α} {f:Nat->Nat->PV} (h0:CoP (f 0 0) (c x 0)) (h1:CoP (f 1 0) (c y 0)) (h2:CoP (f 2 0) (c z 0)):CoP (.sl 3 1 cl f) (psl 1 c [x,y,z]) :=
 CoP.sl rfl (.inl rfl) (fun h=>by cases h) fun i j hi hj=>by
  obtain rfl:j=0:=by omega
  match i,hi with
  |0,_=>exact h0
  |1,_=>exact h1
  |2,_=>exact h2
def b1e(a b:Val):orF [gj a.kind b.kind,gj a.num b.num,a0z a.str b.str]=zu a b:=by
 have e:∀x y:Int,sgn x y=gj x y:=fun _ _=>rfl;unfold zu orF;rw[e,e];by_cases h1:gj a.kind b.kind=0
 · by_cases h2:gj a.num b.num=0
   · by_cases h3:a0z a.str b.str=0
     · simp[h1,h2,h3]
     simp[h1,h2,h3]
   simp[h1,h2]
 simp[h1]
def ac1:a6 bnb 162:=wgx Tryz.func162
def agy (a:Int):aa bnb 162 [pI a] (ag [pB false]):=by
 refine hpx (nt:=6) Tryz.func162 ?_;refine ip ?_;exact hx8 rfl rfl rfl (⟨ccb bmu,trivial⟩)
def b35:a6 bnb 221:=wgx Tryz.func221
def b8g (a b:Int):aa bnb 221 [pI a,pI b] (ag [pI (gj a b)]):=by
 refine hpx (nt:=20) Tryz.func221 ?_;refine w_7 ?_;refine qcx ac1 (agy _) ?_;refine w_5 ?_;refine qcx ac1 (agy _) ?_;refine aw7 ?_;refine hcd ?_ ?_<;>intro h0
 · refine v_4 ?_;exact⟨cci bn5,trivial⟩
 refine w_8 ?_;refine hcd ?_ ?_<;>intro h1
 · refine v_4 ?_;exact⟨cci bn5,trivial⟩
 refine v_5 ?_;exact⟨cci bn5,trivial⟩
def b0d:a6 bnb 222:=wgx Tryz.func222
def b3j (a b:ByteArray):aa bnb 222 [pS a,pS b] (ag [pI (a0z a b)]):=by
 refine hpx (nt:=8) Tryz.func222 ?_;refine w_8 ?_;refine qcx b1j (b0h _ _) ?_;refine v_2 ?_;exact CoL.refl _
def b3m:a6 bnb 188:=wgx Tryz.func188
def b15 (a b:Val):aa bnb 188 [a.pc,b.pc] (ag [pI (zu a b)]):=by
 refine hpx (nt:=22) Tryz.func188 ?_;refine sx7 ?_;refine m9 0 ?_;refine m9 1 ?_;refine w_8 ?_;refine qcx alp (ayx _ _) ?_;refine w_4 ?_;refine qcx b35 (b8g _ _) ?_;refine w_4 ?_;refine qcx b0d (b3j _ _) ?_;refine m9 2 ?_;refine rc rfl rfl rfl rfl rfl rfl amj (cOr [gj a.kind b.kind,gj a.num b.num,a0z a.str b.str]) (⟨CoC.one (b2u (CoP.refl _) (CoP.refl _) (CoP.refl _)),trivial⟩) rfl rfl ?_;refine v_3 ?_;exact⟨cci (b1e a b),trivial⟩
abbrev bhl(v:Val):List Value:=[.int .i64 v.kind, .int .i64 v.num, .string v.str]
end
section
abbrev bd8:PV:=.sl 0 3 true (lf Val.c [])
def bgu(R:List Row)(a:Nat):Nat->Nat->PV:=fun i _=>if i<a then vals (axj R i)else bd8
end
section
abbrev RSt:=Bool×Int×Int×Int
abbrev RSt.c(s:RSt):Nat->PV:=fun j=>[.raw (.bool s.1), .raw (.int .i64 s.2.1), .raw (.int .i64 s.2.2.1), .raw (.int .i64 s.2.2.2)].getD j .any
abbrev RSt.pc(s:RSt):PC:=.agg [.raw (.bool s.1), .raw (.int .i64 s.2.1), .raw (.int .i64 s.2.2.1), .raw (.int .i64 s.2.2.2)]
abbrev bhj(l:List RSt):PV:=psl 4 RSt.c l
def St.r(s:St):RSt:=(s.1,(s.2.1:Int),(s.2.2.1:Int),(s.2.2.2:Int))
abbrev aci(a:Int)(l:List Rw)(p m:List Fd)(s:RSt):Int×List Rw×Int:=b66 a l p m s.1 s.2.1 s.2.2.1 s.2.2.2
def a4b (n:Int) (p m:List Fd):Int->List Rw->List RSt->Bool
 |_,l,[]=>aow n l
 |a,l,s::r=>if(aci a l p m s).2.2=0 then a4b n p m (aci a l p m s).1 (aci a l p m s).2.1 r else false
def bgz(n:Int)(ps:List AS)(p m:List Fd)(sts:List RSt):Bool:=decide (lvE n ps=0)&&(decide (zf n p m=0)&&a4b n p m n (dh (md n ps)) sts)
structure a93 (n:Int) (ps:List AS) (p m:List Fd) (sts:List RSt) (x:Nat×Int×List Rw×Int):Prop where
 le:x.1<=sts.length
 ok:x.2.2.2=0->a4b n p m n (dh (md n ps)) sts=a4b n p m x.2.1 x.2.2.1 (sts.drop x.1)
 no:¬x.2.2.2=0->a4b n p m n (dh (md n ps)) sts=false
section
variable {n:Int}{ps:List AS}{p m:List Fd}{sts:List RSt}
def a93.start:a93 n ps p m sts (0,n,dh (md n ps),0):=⟨bio _,fun _=>rfl,fun h=>absurd rfl h⟩
section
variable {x:Nat×Int×List Rw×Int}
def a93.step (h:a93 n ps p m sts x) (hi:x.1<sts.length) (h0:x.2.2.2=0):a93 n ps p m sts (x.1+1,(aci x.2.1 x.2.2.1 p m (sts.getD x.1 default)).1,(aci x.2.1 x.2.2.1 p m (sts.getD x.1 default)).2.1,(aci x.2.1 x.2.2.1 p m (sts.getD x.1 default)).2.2):=by
 have e:sts.drop x.1=sts.getD x.1 default::sts.drop (x.1+1):=by
  rw[bl8 hi,bir,bik hi];rfl
 have h1:=h.ok h0;rw[e,a4b]at h1;refine⟨hi,fun h2=>?_,fun h2=>?_⟩
 · rw[h1,if_pos h2]
 rw[h1,if_neg h2]
def a93.fin (h:a93 n ps p m sts x) (hi:¬x.1<sts.length) (h0:x.2.2.2=0):a4b n p m n (dh (md n ps)) sts=aow n x.2.2.1:=by
 rw[h.ok h0,List.drop_of_length_le bmq,a4b]
end
end
def bes(r:Rw):List Val:=r.map fun z=>⟨1,z,emp⟩
def be3(l:List Rw):List Row:=(List.range l.length).map fun(i:Nat)=>⟨(i:Int)+1,bes (l.getD i default)⟩
def bem(n:Int)(ps:List AS)(p m:List Fd):Int:=if lsC n ps p m≠0 then lsC n ps p m else if aow n (lsT n ps p m).2.1.2=true then 10 else 0
def big(n:Int)(ps:List AS)(p m:List Fd):Tbl:=if bem n ps p m=0 then⟨⟨#[116]⟩,mo.take n.toNat,be3 (lsT n ps p m).2.1.2⟩else T0
section
variable {n:Int}{ps:List AS}{p m:List Fd}
end
def bh9(n:Int)(a b:AS)(l:List Fd):Bool:=decide (cg n l=0)&&(decide (a|||b=aj n)&&(decide (sub a (clo l (a&&&b)))||decide (sub b (clo l (a&&&b)))))
end
section
section
variable {α:Type}[DecidableEq α]{c:α->α->Int}
def b6q (c:α->α->Int) (x:α):List α->List α
 | []=>[x]
 |y::l=>if c x y<0 then x::y::l else if c x y=0 then y::l else y::b6q c x l
def bh3(c:α->α->Int)(l:List α):List α:=l.foldr (b6q c) []
end
def awR:List Row:=[⟨1,[⟨1,0,emp⟩,⟨1,1,emp⟩,⟨1,5,emp⟩]⟩,⟨2,[⟨1,6,emp⟩,⟨1,1,emp⟩,⟨1,2,emp⟩]⟩]
def awT:Tbl:=⟨⟨#[116]⟩,mo.take 3,awR⟩
end
section
def bd3(l:List Row)(v:List Val):Bool:=l.any fun r=>decide (r.vals=v)
def sc (s:AS):Nat->List Val->List Val
 |_,[]=>[]
 |a,v::l=>if ir s (a:Int)=true then v::sc s (a+1) l else sc s (a+1) l
def sel(l:List Val)(s:AS):List Val:=sc s 0 l
def a8p(a b:Row)(s:AS):Bool:=decide (sel a.vals s=sel b.vals s)
def b7g(t:Tbl)(q:AS)(r:Row)(n:Int):Bool:=t.rows.any fun x=>a8p x r (q&&&aj n)
def b9t(a b:List Row):Bool:=a.all fun r=>bd3 b r.vals
def bfw(a b:Tbl):Bool:=decide (a.attrs=b.attrs)&&(b9t a.rows b.rows&&b9t b.rows a.rows)
def bbr(a b:Tbl)(r s:Row)(i:Nat):Bool:=decide (ads a.attrs (b.attrs.getD i default)<0)||decide (zu (r.vals.getD (ads a.attrs (b.attrs.getD i default)).toNat default) (s.vals.getD i default)=0)
def beb(a b:Tbl)(r s:Row):Bool:=(List.range b.attrs.length).all (bbr a b r s)
def bgg(a b:Tbl):Bool:=b.rows.all fun s=>a.rows.any fun r=>beb a b r s
def awv(t:Tbl)(d:Fd)(i k:Nat):Bool:=!a8p (t.rows.getD i default) (t.rows.getD k default) d.lhs||a8p (t.rows.getD i default) (t.rows.getD k default) d.rhs
def fdB(t:Tbl)(d:Fd):Bool:=(List.range t.rows.length).all fun i=>(List.range i).all fun k=>awv t d i k
def bbo(t:Tbl)(a b:Row)(left:AS):Bool:=t.rows.any fun x=>a8p x a left&&a8p x b (aj t.attrs.length&&&~~~left)
def bex(t:Tbl)(d:Fd)(i k:Nat):Bool:=!a8p (t.rows.getD i default) (t.rows.getD k default) d.lhs||bbo t (t.rows.getD i default) (t.rows.getD k default) (d.lhs|||d.rhs)
def mvB(t:Tbl)(d:Fd):Bool:=(List.range t.rows.length).all fun i=>(List.range t.rows.length).all fun k=>bex t d i k
end
section
open Go.Proofs
def sT:List Rw:=[[0,1,5],[0,7,2]]
def fdX:List Fd:=[⟨1,2⟩]
end
section
open Go.Proofs
def an4:a6 bnb 148:=wgx Tryz.func148
def alr (l:List Int) (n:Int) (hl:l.length<=1000000):dv bnb 148 [.one (.ref 1000 l.length), .one (.p (.raw (.int .i64 n)))] [(1000, .arr true 1 5 l.length (lf byC l))] (.v (.one (.ref 1000 (l++uv n).length))) [(1000, .arr true 1 5 (l++uv n).length (lf byC (l++uv n)))] [1000]:=by
 refine hfx (nt:=22) Tryz.func148 ?_;refine w_7 ?_;refine rqw rfl rfl rfl rfl rfl ?_;refine w_9 ?_;refine bp (ka 5 kn) km (fun i=>⟨[(0,some (.v (.one (.ref 1000 (l++tj n i).length)))),(6,some (vI (56-8*(i:Int))))],[(1000,some (.arr true 1 5 (l++tj n i).length (lf byC (l++tj n i))))]⟩) 8 ⟨⟨⟨_,rfl,(bz (by simp[tj]))⟩,⟨_,rfl,(coi (by first|rfl|omega))⟩,trivial⟩,⟨⟨_,rfl,(bm (by simp[tj]))⟩,trivial⟩⟩ ?_;rintro i hi;have hlen:(l++tj n i).length=l.length+i:=by simp[tj]
 refine w_6 ?_;refine hcd ?_ ?_<;>intro h0
 · refine w_8 ?_;refine rqw rfl rfl rfl rfl rfl ?_;refine m9 0 ?_;refine r9 1 true ?_;refine w_7 ?_;exact lpx (i+1) ⟨⟨⟨_,rfl,(bq ag4)⟩,⟨_,rfl,(coi (by first|omega|(dsimp only;omega)))⟩,tt⟩,⟨⟨_,rfl,(bn ag4 (CoP.of_eq (by dsimp only;rw[show((56:Int)-8*(i:Int)).toNat=56-8*i by omega];rfl)))⟩,trivial⟩⟩
 obtain rfl:i=8:=by omega
 refine w_6 ?_;refine hrr ?_;exact⟨_,_,rfl,bms,fe (by rw[aiq]),⟨⟨_,rfl,bm (by rw[aiq])⟩,trivial⟩⟩
def b6l:a6 bnb 89:=wgx Tryz.func89
def bn8{p:Prop}(h:p:=by first|exact .inl bmr|exact .inr bmr):p:=h
def bna{p:Prop}(h:p:=by first|exact fe (by rw[(rj bn8)])|exact fe (by rw[qu bmr,biq];rfl)|exact fe (by rw[(qz bmr bmr bmr)];rfl)):p:=h
def bej(v:Val):aa bnb 89 [v.pc] (ag [pS (s5 v),pI (av9 v)]):=by
 refine hpx (nt:=51) Tryz.func89 ?_;refine sx7 ?_;refine m9 0 ?_;refine w_7 ?_;refine qcx alu (c76 v) ?_;refine w_2 ?_;refine hcv ?_ ?_<;>intro h0
 · refine v_5 ?_;exact⟨CoC.one (by rw[b0w bmr];exact CoP.refl _),cci (b3a bmr).symm,trivial⟩
 have hs:=a2u h0;refine w_5 ?_;refine rqw rfl rfl rfl rfl rfl ?_;refine m9 1 ?_;refine w_2 ?_;refine aaz kn (kb 0 km) ⟨[(4,some (.v (.one (.ref 1 (ll v).length))))],[(1,some (.arr true 1 5 (ll v).length (lf byC (ll v))))]⟩ ?_ ?_
 ·
  refine gz ?_;refine az _ rfl ?_ ?_<;>intro r1
  · have h1:=tz1 r1;refine eu ?_;refine az _ rfl (fun _=>?_) (fun e=>Bool.noConfusion (r1.symm.trans e));refine w_4 ?_;refine fc9 an4 ((alr [kB v] v.num l9).swap 1000 1) ⟨⟨_,rfl,oj (CoP.refl _)⟩,trivial⟩ ?_;refine w_2 ?_;exact⟨⟨⟨_,rfl,bna⟩,trivial⟩,⟨⟨_,rfl,(by first|exact bm (rj bn8)|exact a2w (qu bmr) (CoP.refl _) (CoP.refl _)|(rw[(qz bmr bmr bmr)];exact oj (CoP.refl _)))⟩,uu⟩⟩
  have h1:=tz2 r1;refine w_4 ?_;refine hcd ?_ ?_<;>intro h2
  · refine w_4 ?_;refine fc9 an4 ((alr [kB v] v.num l9).swap 1000 1) ⟨⟨_,rfl,oj (CoP.refl _)⟩,trivial⟩ ?_;refine w_2 ?_;exact⟨⟨⟨_,rfl,bna⟩,trivial⟩,⟨⟨_,rfl,(by first|exact bm (rj bn8)|exact a2w (qu bmr) (CoP.refl _) (CoP.refl _)|(rw[(qz bmr bmr bmr)];exact oj (CoP.refl _)))⟩,uu⟩⟩
  refine w_5 ?_;refine hcd ?_ ?_<;>intro h3
  ·
   refine w_9 ?_;refine bp (ka 1 (ka 26 kn)) (kb 0 km) (fun i=>⟨[(4,some (.v (.one (.ref 1 (sw v i).length)))),(27,some (vI i))],[(1,some (.arr true 1 5 (sw v i).length (lf byC (sw v i))))]⟩) v.str.size ⟨⟨⟨_,rfl,(CoR.refl _)⟩,tt⟩,⟨⟨_,rfl,(oj (CoP.refl _))⟩,trivial⟩⟩ ?_;rintro i hi;have hlen:=b3o (v:=v) (i:=i);refine w_5 ?_;refine hcd ?_ ?_<;>intro h4
   ·
    refine ic ?_;refine m9 2 ?_;refine r9 3 true ?_;refine db ?_;refine hcd ?_ ?_<;>intro h5
    ·
     refine w_2 ?_;refine m9 4 ?_;refine r9 5 true ?_;refine w_6 ?_
     first | (refine lpz (i+1) ⟨⟨⟨_, rfl, (by rw[afk bmq bmr]; simp only[biq]; exact CoR.refl _)⟩, tt⟩, ⟨⟨_, rfl, (by rw[afk bmq bmr]; exact ae8 rfl (CoP.refl _) (CoP.refl _))⟩, uu⟩⟩ ?_; show i+1<=_; omega)
           |(refine lpz (i+1) ⟨⟨⟨_,rfl,(bq (aft bmq bmr))⟩,tt⟩,⟨⟨_,rfl,(bn (aft bmq bmr) (CoP.refl _))⟩,uu⟩⟩ ?_;show i+1<=_;omega)
    refine w_5 ?_
    first | (refine lpz (i+1) ⟨⟨⟨_, rfl, (by rw[afk bmq bmr]; simp only[biq]; exact CoR.refl _)⟩, tt⟩, ⟨⟨_, rfl, (by rw[afk bmq bmr]; exact ae8 rfl (CoP.refl _) (CoP.refl _))⟩, uu⟩⟩ ?_; show i+1<=_; omega)
          |(refine lpz (i+1) ⟨⟨⟨_,rfl,(bq (aft bmq bmr))⟩,tt⟩,⟨⟨_,rfl,(bn (aft bmq bmr) (CoP.refl _))⟩,uu⟩⟩ ?_;show i+1<=_;omega)
   obtain rfl:i=v.str.size:=by omega
   refine w_3 ?_;refine m9 6 ?_;refine r9 7 true ?_;refine w_2 ?_;exact⟨⟨⟨_,rfl,bna⟩,trivial⟩,⟨⟨_,rfl,(by first|exact bm (rj bn8)|exact a2w (qu bmr) (CoP.refl _) (CoP.refl _)|(rw[(qz bmr bmr bmr)];exact oj (CoP.refl _)))⟩,uu⟩⟩
  refine eu ?_;exact⟨⟨⟨_,rfl,bna⟩,trivial⟩,⟨⟨_,rfl,(by first|exact bm (rj bn8)|exact a2w (qu bmr) (CoP.refl _) (CoP.refl _)|(rw[(qz bmr bmr bmr)];exact oj (CoP.refl _)))⟩,uu⟩⟩
 refine f4 ?_;refine bh 4 rfl rfl rfl ?_;refine w_2 ?_;refine rq rfl rfl rfl rfl rfl ?_ (hp:=⟨rfl,fun i hi=>⟨_,rfl⟩⟩);refine v_3 ?_;exact⟨CoC.one (by rw[adj bmr,<- b26];exact CoP.refl _),cci (b1y bmr).symm,trivial⟩
end
section
def a84 {r x:Row}:∀{l:List Row},x∈uw r l<->x=r\/x∈l
 | []=>by simp[uw]
 | y::l=>by
  simp only[uw];split
  · simp
  simp only[biv,a84 (l:=l)];constructor
  · rintro(h|h|h)<;>simp[h]
  rintro(h|h|h)<;>simp[h]
def a7k{r:Row}:∀{l:List Row},s8 l->(∀x∈l,x.id≠r.id)->s8 (uw r l)
 | [],_,_=>by simp[uw,s8]
 | y :: l,hs,hn=>by
  have hs':=hs;unfold s8 at hs';rw[bj9]at hs';simp only[uw];split
  · rename_i h
    refine List.Pairwise.cons (fun x hx=>?_) hs
    rcases biv.1 hx with rfl|hx
    · exact h
    have:=hs'.1 x hx;omega
  rename_i h;refine List.Pairwise.cons (fun x hx=>?_) (a7k hs'.2 fun x hx=>hn x (by simp[hx]))
  rcases a84.1 hx with rfl|hx
  · have:=hn y bmu;omega
  exact hs'.1 x hx
section
variable {l:List Row}
def aod {id:Int} (h:fq l id<0):∀x∈l,x.id≠id:=by
 intro x hx e;have h2:=anq (p:=fun r:Row=>decide (r.id=id)) (l:=l);have h3:(l.any fun r=>decide (r.id=id))=true:=by rw[blh];exact⟨x,hx,by simp[e]⟩
 rw[h3]at h2;simp only[decide_eq_true_eq]at h2;unfold fq at h;omega
variable {t:Tbl}
def b9f {r:Row} (h:xy t r=0):TOk (ap0 t r):=by
 obtain⟨h1,h2,h3,h4,h5,h6⟩:=awp h;have hT:=om.1 h1;rw[b1a h];refine⟨hT.nm,hT.na,by show(uw r t.rows).length<=1000;rw[aju];omega,hT.nms, ?_⟩;refine oo (fun x hx=>?_) (a7k (ik hT.rs) (aod h5))
 rcases a84.1 hx with rfl|hx
 · exact⟨h3,h2,h4⟩
 exact fk hT.rs x hx
def awx {i:Int} (h:a19 t i=0):dg t=0/\0<=fq t.rows i:=by
 unfold a19 at h;split at h
 · omega
 split at h
 · exact⟨by omega,by assumption⟩
 omega
def b6v {i:Int} (h:a19 t i=0):TOk (ao6 t i):=by
 have hT:=om.1 (awx h).1;rw[b3g h];have hsub:=List.eraseIdx_sublist t.rows (fq t.rows i).toNat;refine⟨hT.nm,hT.na,by have:=hsub.length_le;have:=hT.nr;show(t.rows.eraseIdx _).length<=1000;omega,hT.nms, ?_⟩;exact oo (fun x hx=>fk hT.rs x (hsub.subset hx)) (List.Pairwise.sublist hsub (ik hT.rs))
def b19 {i a:Int} {v:Val} (h:a1y t i a v=0):dg t=0/\0<=fq t.rows i/\0<=a/\a<t.attrs.length/\cj v=true:=by
 unfold a1y at h;split at h
 · omega
 split at h
 · omega
 split at h
 · omega
 split at h
 · omega
 rename_i h1 h2 h3 h4;exact⟨by omega,by omega,by omega,by omega,by simpa using h4⟩
def avn{i k:Nat}{v:Val}(hi:i<l.length):(a3p l i k v).map Row.id=l.map Row.id:=by
 unfold a3p;apply bla;intro j;rw[bjl,bjl,List.getElem?_set];split
 · rename_i h
   subst h;rw[bik hi];simp[List.getD,bik hi]
 rfl
def aab:s8 l<->(l.map Row.id).Pairwise (·<·):=by
 rw[blf]
def b7t{i a:Int}{v:Val}(h:a1y t i a v=0):TOk (aq7 t i a v):=by
 obtain⟨h1,h2,h3,h4,h5⟩:=b19 h;have hT:=om.1 h1;have hix:(fq t.rows i).toNat<t.rows.length:=by have:=b6z h2;rwa [show max (fq t.rows i) 0=fq t.rows i from by omega]at this
 rw[b41 h];refine⟨hT.nm,hT.na,by show(a3p _ _ _ _).length<=1000;rw[au5];exact hT.nr,hT.nms, ?_⟩;refine oo (fun x hx=>?_) (by rw[aab,avn hix,<- aab];exact ik hT.rs);have hold:=fk hT.rs _ (bin hix);have hgd:=ah _ _ hix;unfold a3p at hx
 rcases List.mem_or_eq_of_mem_set hx with hx|rfl
 · exact fk hT.rs x hx
 refine⟨by show 0<(t.rows.getD _ default).id;rw[hgd];exact hold.1,by show(List.set _ _ _).length=_;rw[bkq,hgd];exact hold.2.1, ?_⟩;rw[bjr];intro y hy
 rcases List.mem_or_eq_of_mem_set hy with hy|rfl
 · rw [hgd]at hy
   exact bjr.1 hold.2.2 y hy
 exact h5
def b7i {c:Chg} (h:abl t c=0):TOk (a8b t c):=by
 unfold abl at h;unfold a8b;split at h
 · rename_i h2;rw[if_pos h2];exact b9f h
 rename_i h2;rw[if_neg h2];split at h
 · omega
 split at h
 · omega
 split at h
 · rename_i h3;rw[if_pos h3];exact b6v h
 rename_i h3;rw[if_neg h3];exact b7t h
def baz{d:DB}{c:Chg}(hd:dbV d):dbV (a2g d c):=by
 by_cases he:jz d c=0
 · unfold jz at he
   split at he
   · rename_i h1
     split at he
     · omega
     obtain⟨g1,g2,g3⟩:=b36 he;have he':jz d c=0:=by rw[aE2 h1 (by simp_all)];exact he
     rw[aD1 he' h1];refine⟨by simp;omega,fun j hj=>?_⟩;by_cases h:j<d.length
     · rw [show(d++[c.table]).getD j default=d.getD j default from by simp[List.getD,List.getElem?_append_left h]]
       exact hd.2 j h
     obtain rfl:j=d.length:=by simp at hj;omega
     rw[show(d++[c.table]).getD d.length default=c.table from by simp[List.getD]];exact g1
   rename_i h1;split at he
   · omega
   split at he
   · omega
   rename_i h2 h3;have he':jz d c=0:=by rw[aE5 bmq h3];exact he
   rw[aD2 he' h1 rfl];refine⟨by rw[bkq];exact hd.1,fun j hj=>?_⟩;rw[bkq]at hj;by_cases h:j=(lh d c.name).toNat
   · subst h
     rw[show(d.set (lh d c.name).toNat (a8b (tz d c.name) c)).getD (lh d c.name).toNat default=a8b (tz d c.name) c from by simp[List.getD,hj]];exact om.2 (b7i he)
   rw[show(d.set (lh d c.name).toNat (a8b (tz d c.name) c)).getD j default=d.getD j default from by simp only[List.getD,List.getElem?_set_ne (Ne.symm h)]];exact hd.2 j hj
 rw[b8f rfl he];exact hd
def dbV.ok{d:DB}(h:dbV d):beo d:=⟨by have:=h.1;omega,fun j hj=>atl (h.2 j hj)⟩
def ama:dbV []:=⟨by simp,fun j hj=>by simp at hj⟩
def ar1:∀{l:List Chg} {d:DB},dbV d->dbV (afx d l)
 | [],d,h=>h
 | c::l,d,h=>by
  simp only[afx];split
  · exact ama
  exact ar1 (baz h)
variable {n:Nat}
def bf9 (hn:n<=8) {f:Nat->Nat->PV}:CoP (.sl (0+n) 1 false (fg 0 f (fun i j=>[PV.raw (.string ⟨#[97]⟩), .raw (.string ⟨#[98]⟩), .raw (.string ⟨#[99]⟩), .raw (.string ⟨#[100]⟩), .raw (.string ⟨#[101]⟩), .raw (.string ⟨#[102]⟩), .raw (.string ⟨#[103]⟩), .raw (.string ⟨#[104]⟩)].getD (i*1+j) .any))) (a3t (mo.take n)):=by
 refine CoP.sl (by simp[mo];omega) (.inl rfl) (fun h=>h) fun i j hi hj=>CoP.of_eq ?_;obtain rfl:j=0:=by omega
 have hi8:i<n:=by omega
 simp only[fg,bip,if_false,Nat.sub_zero,bll,bkh,lf,List.getD,bjs,hi8,if_true];have:i<8:=by omega
 match i,this with
 |0,_=>rfl
 |1,_=>rfl
 |2,_=>rfl
 |3,_=>rfl
 |4,_=>rfl
 |5,_=>rfl
 |6,_=>rfl
 |7,_=>rfl
def abq{α:Type}[Inhabited α]{l:List α}{k:Nat}(h:l.length<=k):l.getD k default=default:=by simp[List.getD,h]
def b91 {g:UInt8} {i:Nat}:0<=(i:Int)*(1+(g.toNat:Int)%3)/\(i:Int)*(1+(g.toNat:Int)%3)<=3*i:=by
 have h:(g.toNat:Int)%3=0\/(g.toNat:Int)%3=1\/(g.toNat:Int)%3=2:=by omega
 rcases h with h|h|h<;>rw[h]<;>omega
def aqs{l:List UInt8}:(o7 l n).length=n:=by simp[o7]
def aiv{x:ji}:(lq x n).length=x.rows.length:=by simp[lq]
def arp {l:List UInt8} {k j:Nat} (h:k<n):lf Val.c (o7 l n) k j=Val.c (ofV (l.getD k default)) j:=by
 unfold lf o7;rw[aeb _ _ _ h]
def b9m {x:ji} {i j:Nat} (h:i<x.rows.length):lf Row.c (lq x n) i j=Row.c ⟨1+(i:Int)*(1+(x.gap.toNat:Int)%3),o7 (x.rows.getD i default) n⟩ j:=by
 unfold lf lq;rw[aeb _ _ _ h]
def jr(s:Stt):List Chg:=s.done.flatten++s.now
def acm(s:Stt):DB:=afx [] (jr s)
def bgq (s:Stt) (x:Opn):Chg :=
 let k:=x.kind.toNat%9
 if k=0 then { (default:Chg)with kind:=1,name:=acr x,table:=ayz x }
 else if lh (acm s) (acr x)<0 then default
 else
  let t:=tz (acm s) (acr x)
  if k=1 then { (default:Chg)with kind:=2,name:=t.name,row:=ayp x }
  else if ¬0<=fq t.rows x.id then default
  else if k=2 then { (default:Chg)with kind:=3,name:=t.name,row:=t.rows.getD (max (fq t.rows x.id) 0).toNat default }
  else { (default:Chg)with kind:=4,name:=t.name,row:=t.rows.getD (max (fq t.rows x.id) 0).toNat default,attr:=x.attr,value:=ofV x.value }
def bgk (s:Stt) (x:Opn):Int :=
 let k:=x.kind.toNat%9
 if k=0 then a9x (acm s) (ayz x)
 else if lh (acm s) (acr x)<0 then 4
 else
  let t:=tz (acm s) (acr x)
  if k=1 then xy t (ayp x)
  else if ¬0<=fq t.rows x.id then 4
  else if k=2 then 0
  else a1y t x.id x.attr (ofV x.value)
structure b95 (s:Stt):Prop where
 ld:s.done.flatten.length<=68719476736
 ln:s.now.length<=68719476736
 lt:s.done.length<=68719476736
 lu:s.undone.length<=68719476736
 ok:b4o (jr s)
structure bgl (x:Opn):Prop where
 lv:x.vals.length<=68719476736
 lr:x.t.rows.length<=68719476736
def b95.V{s:Stt}(_:b95 s):dbV (acm s):=ar1 ama
end
end
section
open Go.Proofs
def a87(x:ji)(n:Int):Bool:=decide (¬(x.rows.length:Int) > n)
def ah9(x:ji)(n:Nat):Tbl:=if x.rows.length > n then T0 else zq x (x.attrs.toNat%6)
def b60:a6 bnb 22:=wgx Tryz.func22
def c36(x:ji)(n:Nat)(hn:n<=8)(hx:x.rows.length<=68719476736):aa bnb 22 [x.pc,pI n] (ag [(zq x n).pc]):=by
 refine hpx (nt:=67) Tryz.func22 ?_;refine sx7 ?_;refine m9 0 ?_;refine m9 1 ?_;refine w_3 ?_;refine m9 2 ?_;refine m9 3 ?_;refine qy ?_;refine ap7 rfl rfl rfl rfl rfl ?_;refine r9 4 true ?_;refine qy ?_;refine m9 5 ?_;refine w_2 ?_;refine jl 5 1 rfl rfl rfl rfl rfl ?_;refine w_6 ?_;refine kr 5 2 100 true 2 106 (lf Row.c (lq x n)) bmx rfl rfl (CoP.sl rfl (.inr rfl) (fun h=>h) (fun i j hi _=>absurd hi (bip i))) (.inr rfl) rfl rfl ?_;refine bp (ka 1 (ka 2 (ka 4 (ka 5 kn)))) (kb 0 (kb 1 km)) (fun i=>⟨[(6,some (vI i))],[(5,some (.box [.p (.raw (.string ⟨#[114]⟩)), .p (a3t (mo.take n)), .ref 100 i])),(100,some (.arr true 2 106 i (lf Row.c (lq x n))))]⟩) x.rows.length ⟨tt,⟨⟨_,rfl,⟨CoH.refl _,bf9 hn,CoH.refl _,trivial⟩⟩,uu⟩⟩ ?_;rintro i hi;refine w_9 ?_;refine hcd ?_ ?_<;>intro h0
 ·
  refine w_4 ?_;have hgl:=b91 (g:=x.gap) (i:=i);refine db ?_;refine m9 6 ?_;refine w_8 ?_;refine kr 6 1 101 true 3 141 (lf Val.c (o7 (x.rows.getD i default) n)) bmx rfl rfl (CoP.sl rfl (.inr rfl) (fun h=>h) (fun i j hi _=>absurd hi (bip i))) (.inr rfl) rfl rfl ?_;refine bp (ka 1 (ka 2 (ka 4 (ka 5 (ka 6 (ka 7 kn)))))) (kb 5 (kb 100 (kb 0 (kb 1 km)))) (fun k=>⟨[(8,some (vI k))],[(6,some (.box [.p (.raw (.int .i64 (1+(i:Int)*(1+(x.gap.toNat:Int)%3)))), .ref 101 k])),(101,some (.arr true 3 141 k (lf Val.c (o7 (x.rows.getD i default) n))))]⟩) n kk ?_;rintro k hk;refine w_7 ?_;refine hcd ?_ ?_<;>intro h1
  ·
   refine w_7 ?_;refine aaz (ka 1 (ka 2 (ka 4 (ka 5 (ka 6 (ka 7 (ka 8 kn))))))) (kb 6 (kb 101 (kb 5 (kb 100 (kb 0 (kb 1 km)))))) ⟨[(9,some (.v (.one (.p (.raw (.int .u8 ((((x.rows.getD i default).getD k default).toNat:Nat):Int)))))))],[]⟩ ?_ ?_
   ·
    refine f4 ?_;refine bad 0 2 rfl rfl (fun hb=>?_);refine db ?_;refine hcd ?_ ?_<;>intro h2
    · refine ip ?_;exact⟨⟨⟨_,rfl,(by first|exact CoR.refl _|exact CoR.of_eq (by rw[abq bmq];rfl))⟩,tt⟩,uu⟩
    refine eu ?_;exact⟨⟨⟨_,rfl,(by first|exact CoR.refl _|exact CoR.of_eq (by rw[abq bmq];rfl))⟩,tt⟩,uu⟩
   refine w_4 ?_;refine qcx b9x (c49 ((((x.rows.getD i default).getD k default).toNat:Nat):Int) bmq) ?_;refine m9 7 ?_;refine r9 8 true ?_;refine w_9 ?_;refine lpz (k+1) ⟨tt,⟨u9,⟨_,rfl,(ad9 (fun h=>h) (by first|(intro j hj;rw[arp bmq];revert j;exact lt3 (CoP.refl _) (CoP.refl _) (CoP.refl _))|(intro j hj;rw[arp bmq,abq bmq];revert j;exact lt3 (CoP.refl _) (CoP.refl _) (CoP.refl _))))⟩,uu⟩⟩ ?_;show k+1<=_;omega
  obtain rfl:k=n:=by omega
  refine eg ?_;refine jl 6 1 rfl rfl rfl rfl rfl ?_;refine w_4 ?_;refine m9 9 ?_;refine r9 10 true ?_;refine w_8 ?_;refine lpz (i+1) ⟨tt,⟨u9,⟨_,rfl,(ad9 (fun h=>h) (by intro j hj;rw[b9m bmq];revert j;exact lt2 (CoP.refl _) (CoP.sl aqs (.inl rfl) (fun h=>h) (fun _ _ _ _=>CoP.refl _))))⟩,uu⟩⟩ ?_;show i+1<=_;omega
 obtain rfl:i=x.rows.length:=by omega
 refine v_6 ?_;exact⟨CoC.agg ⟨CoP.refl _,CoP.refl _,CoP.sl aiv (.inl rfl) (fun h=>h) (fun _ _ _ _=>CoP.refl _),trivial⟩,trivial⟩
end
section
def w64(n:Int):IntKind.wrap .u64 n=n%18446744073709551616:=by simp[IntKind.wrap,IntKind.bits,IntKind.signed]
def w8(n:Int):IntKind.wrap .u8 n=n%256:=by simp[IntKind.wrap,IntKind.bits,IntKind.signed]
def ais(n:Int):Prop:=-9223372036854775808<=n/\n<=9223372036854775807
def apg (n:Int):uN n=((BitVec.ofInt 64 (n%18446744073709551616) ^^^ BitVec.ofInt 64 9223372036854775808).toNat:Int):=by
 unfold uN d6;rw[w64,w64];show((BitVec.ofInt 64 (n%18446744073709551616) ^^^ BitVec.ofInt 64 9223372036854775808).toNat:Int)%18446744073709551616=_;omega
def az0 (n:Int):0<=uN n/\uN n<18446744073709551616:=by
 rw[apg];omega
theorem b5a {n m:Int} (hn:ais n) (hm:ais m) (h:uN n=uN m):n=m:=by
 rw[apg,apg]at h;have h1:=bk7 (Int.ofNat.inj h)
 have h2:BitVec.ofInt 64 (n%18446744073709551616)=BitVec.ofInt 64 (m%18446744073709551616):=by
  simp_all
 have h3:=congrArg BitVec.toNat h2;rw[BitVec.toNat_ofInt,BitVec.toNat_ofInt]at h3;obtain⟨a1,a2⟩:=hn;obtain⟨b1,b2⟩:=hm
 grind
theorem are (u:Int) (s:Nat) (hs:s<=64):byK u s=u/(2^s)%256:=by
 unfold byK;rw[w8,bjw hs]
 grind
theorem ajw {n m:Int} (hn:ais n) (hm:ais m) (h:uv n=uv m):n=m:=by
 refine b5a hn hm ?_;have hu:=az0 n;have hv:=az0 m;unfold uv at h;generalize uN n=u at *;generalize uN m=v at *
 have hb:∀i,i<8->u/2^(56-8*i)%256=v/2^(56-8*i)%256:=fun i hi=>by
  have h1:=congrArg (fun l=>l.getD i 0) h;simp only[List.getD,bjl,bkj hi,bjd,bkd]at h1;rw[are _ _ bmq,are _ _ bmq]at h1;exact h1
 have h0:=hb 0 bmq;have h1:=hb 1 bmq;have h2:=hb 2 bmq;have h3:=hb 3 bmq;have h4:=hb 4 bmq;have h5:=hb 5 bmq;have h6:=hb 6 bmq;have h7:=hb 7 bmq
 grind
def b8(l:List Int):List UInt8:=l.map fun n=>UInt8.ofNat n.toNat
theorem ag9:∀{a b:List UInt8} {X Y:List Int},og a++(0::1::X)=og b++(0::1::Y)->a=b/\X=Y
 | [],[],X,Y,h=>by
  simp_all
 | [],y::b,X,Y,h=>by
  exfalso;simp only[og,List.flatMap_nil,bmk,bls]at h;unfold zm at h;split at h
  · simp at h
  rename_i hy;simp at h;have:y.toNat=0:=by omega
  exact hy (UInt8.toNat_inj.1 this)
 | x::a,[],X,Y,h=>by
  exfalso;simp only[og,List.flatMap_nil,bmk,bls]at h;unfold zm at h;split at h
  · simp at h
  rename_i hy;simp at h;have:x.toNat=0:=by omega
  exact hy (UInt8.toNat_inj.1 this)
 | x :: a,y::b,X,Y,h=>by
  have e1:∀(z:UInt8) (l:List UInt8) (W:List Int),og (z::l)++W=zm z++(og l++W):=fun z l W=>by simp[og]
  rw[e1,e1]at h
  have key:x=y/\og a++(0::1::X)=og b++(0::1::Y):=by
   unfold zm at h;split at h<;>split at h
   · grind
   · rename_i h1 h2
     exfalso;simp at h;exact h2 (UInt8.toNat_inj.1 (by have:=h.1;show y.toNat=0;omega))
   · rename_i h1 h2
     exfalso;simp at h;exact h1 (UInt8.toNat_inj.1 (by have:=h.1;show x.toNat=0;omega))
   rename_i h1 h2;simp at h;exact⟨UInt8.toNat_inj.1 bmq,by simpa using h.2⟩
  obtain⟨rfl,h2⟩:=key;obtain⟨rfl,h3⟩:=ag9 h2
  grind
def vr(v:Val):Prop:=cj v=true/\ais v.num
theorem aac {v:Val} (h:cj v=true):v.kind=0\/v.kind=1\/v.kind=2\/v.kind=3:=by
 unfold cj at h
 grind
def aa3 {a b:Val} (h1:a.kind=b.kind) (h2:a.num=b.num) (h3:a.str=b.str):a=b:=by
 obtain⟨a1,a2,a3⟩:=a;simp_all
def bc9 {a b:ByteArray} (h:bl a=bl b):a=b:=by
 obtain⟨⟨a⟩⟩:=a;simp_all
def au6{v w:Val}(hv:vr v)(hw:vr w){X Y:List Int}(h:ll v++X=ll w++Y):v=w/\X=Y:=by
 obtain⟨hv,nv⟩:=hv;obtain⟨hw,nw⟩:=hw;have kv:=aac hv;have kw:=aac hw;unfold ll at h;rw[bku,bku,bm9]at h;obtain⟨h1,h2⟩:=h;rw[w8,w8]at h1;have hk:v.kind=w.kind:=by omega
 clear h1;unfold cj at hv hw;rw[<- hk]at h2 hw kw
 rcases kv with e|e|e|e<;>rw[e]at h2 hv hw<;>simp only[Int.reduceEq,if_true,if_false,or_true,true_or,or_false,false_or,or_self,bls,biw,decide_eq_true_eq,if_pos,true_and,decide_true,ite_true,ite_false]at h2 hv hw
 · exact⟨aa3 hk (hv.1.trans hw.1.symm) (hv.2.trans hw.2.symm),h2⟩
 · obtain ⟨h3,h4⟩:=List.append_inj h2 (by rw[x5,x5])
   exact⟨aa3 hk (ajw nv nw h3) (hv.trans hw.symm),h4⟩
 · rw [bjy,bjy]at h2
   obtain⟨h3,h4⟩:=ag9 h2;exact⟨aa3 hk (hv.1.trans hw.1.symm) (bc9 h3),h4⟩
 obtain⟨h3,h4⟩:=List.append_inj h2 (by rw[x5,x5]);exact⟨aa3 hk (ajw nv nw h3) (hv.2.trans hw.2.symm),h4⟩
def byR(l:List Int):Prop:=∀x∈l,0<=x/\x<256
def at3:∀{a b:List Int},byR a->byR b->b8 a=b8 b->a=b
 | [],[],_,_,_=>rfl
 | [],_::_,_,_,h=>by simp[b8]at h
 |_::_,[],_,_,h=>by simp[b8]at h
 | x::a,y::b,ha,hb,h=>by
  simp only[b8,bk4,bm9]at h;have h1:=ha x bmu;have h2:=hb y bmu;have h3:=congrArg UInt8.toNat h.1;simp only[UInt8.toNat_ofNat']at h3;have e:x=y:=by omega
  rw[e,at3 (fun z hz=>ha z (bj0 _ hz)) (fun z hz=>hb z (bj0 _ hz)) h.2]
def b2i {a b:List Int} (ha:byR a) (hb:byR b):byR (a++b):=fun x hx=>by
 rcases bj1.1 hx with h|h
 · exact ha x h
 exact hb x h
theorem b2v (v:Val):byR (ll v):=by
 have h8:∀n:Int,0<=IntKind.wrap .u8 n/\IntKind.wrap .u8 n<256:=fun n=>by rw[w8];omega
 unfold ll;intro x hx
 rcases biv.1 hx with rfl|hx
 · exact h8 _
 split at hx
 · unfold uv at hx
   obtain⟨i,_,rfl⟩:=bj3.1 hx;exact h8 _
 split at hx
 · rcases bj1.1 hx with h|h
   · unfold og at h
     obtain⟨z,_,h⟩:=List.mem_flatMap.1 h;unfold zm at h;split at h
     · grind
     simp at h;have:=z.toNat_lt;omega
   grind
 cases hx
def xb (s:AS):Nat->List Val->List Int
 |_,[]=>[]
 |a,v::vs=>if s.getLsbD a=true then ll v++xb s (a+1) vs else xb s (a+1) vs
section
variable {s:AS}
def abo:∀{l:List Val} {a:Nat},byR (xb s a l)
 | [],_=>fun x hx=>by cases hx
 | v::l,a=>by
  have h:byR (xb s (a+1) l):=abo;unfold xb;split
  · exact b2i (b2v v) h
  exact h
theorem acl:∀{l:List Val} {a:Nat},(∀v∈l,cj v=true)->bl (kc s a l)=b8 (xb s a l)
 | [],_,_=>rfl
 | v :: l,a,h=>by
  have ih:bl (kc s (a+1) l)=b8 (xb s (a+1) l):=acl fun x hx=>h x (bj0 _ hx);unfold kc xb;split
  · rw [adj (h v bmu)]
    show(strOfNums (ll v)++kc s (a+1) l).data.toList=_;rw[ByteArray.data_append,Array.toList_append];show b8 (ll v)++bl (kc s (a+1) l)=_;rw[ih];unfold b8
    grind
  exact ih
def a8j:∀{l m:List Val} {a:Nat},l.length=m.length->a+l.length<=32->(∀v∈l,vr v)->(∀v∈m,vr v)->xb s a l=xb s a m->sc s a l=sc s a m
 | [],[],_,_,_,_,_,_=>rfl
 | [],_::_,_,h,_,_,_,_=>by simp at h
 |_::_,[],_,h,_,_,_,_=>by simp at h
 | v :: l,w::m,a,hl,ha,h1,h2,h=>by
  have hl2:l.length=m.length:=by simpa using hl
  have ha2:a+(l.length+1)<=32:=ha;unfold xb at h;unfold sc;rw[tc bmq];split at h
  · rename_i hs
    rw[if_pos hs,if_pos hs];obtain⟨rfl,h3⟩:=au6 (h1 v bmu) (h2 w bmu) h;have h4:sc s (a+1) l=sc s (a+1) m:=a8j hl2 bmq (fun x hx=>h1 x (bj0 _ hx)) (fun x hx=>h2 x (bj0 _ hx)) h3;rw[h4]
  rename_i hs;rw[if_neg hs,if_neg hs];exact a8j hl2 bmq (fun x hx=>h1 x (bj0 _ hx)) (fun x hx=>h2 x (bj0 _ hx)) h
def zd:∀{l m:List Val} {a:Nat},l.length=m.length->a+l.length<=32->sc s a l=sc s a m->kc s a l=kc s a m
 | [],[],_,_,_,_=>rfl
 | [],_::_,_,h,_,_=>by simp at h
 |_::_,[],_,h,_,_=>by simp at h
 | v :: l,w::m,a,hl,ha,h=>by
  have hl:l.length=m.length:=by simpa using hl
  have ha:a+(l.length+1)<=32:=ha;unfold kc;unfold sc at h;rw[tc bmq]at h;split at h
  · rename_i hs
    rw[bm9]at h;rw[if_pos hs,if_pos hs,h.1,zd hl bmq h.2]
  rename_i hs;rw[if_neg hs,if_neg hs];exact zd hl bmq h
def auf{l m:List Val}(hl:l.length=m.length)(h32:l.length<=32)(h1:∀v∈l,vr v)(h2:∀v∈m,vr v):pe l s=pe m s<->sel l s=sel m s:=by
 constructor
 · intro h
   refine a8j hl bmq h1 h2 (at3 abo abo ?_);rw[<- acl fun v hv=>(h1 v hv).1,<- acl fun v hv=>(h2 v hv).1];exact congrArg bl h
 exact zd hl bmq
end
end
section
section
variable {R:List Row}{ps:List AS}{cols:List (List Val)}{s:AS}{n:Nat}
def ahk:∀{l m:List Val} {a:Nat},l.length=m.length->(sc s a l=sc s a m<->∀i,i<l.length->ir s ((a+i:Nat):Int)=true->l.getD i default=m.getD i default)
 | [],[],a,_=>⟨fun _ i hi _=>absurd hi (bip i),fun _=>rfl⟩
 | [],_::_,_,h=>by simp at h
 |_::_,[],_,h=>by simp at h
 | v :: l,w::m,a,hl=>by
  have hl2:l.length=m.length:=by simpa using hl
  have ih:=ahk (l:=l) (m:=m) (a:=a+1) hl2;unfold sc;by_cases hs:ir s (a:Int)=true
  · rw [if_pos hs,if_pos hs,bm9,ih]
    constructor
    · rintro ⟨h1,h2⟩ i hi hh
      cases i with
      |zero=>exact h1
      |succ i=>exact h2 i (by simpa using hi) (by rw[show a+1+i=a+(i+1) by omega];exact hh)
    intro h;refine⟨h 0 bmu hs,fun i hi hh=>?_⟩;exact h (i+1) (by simpa using hi) (by rw[show a+(i+1)=a+1+i by omega];exact hh)
  rw[if_neg hs,if_neg hs,ih];constructor
  · intro h i hi hh
    cases i with
    |zero=>exact absurd hh hs
    |succ i=>exact h i (by simpa using hi) (by rw[show a+1+i=a+(i+1) by omega];exact hh)
  intro h i hi hh;exact h (i+1) (by simpa using hi) (by rw[show a+(i+1)=a+1+i by omega];exact hh)
theorem abp {l m:List Val} (hl:l.length=m.length):sel l s=sel m s<->∀i:Nat,i<l.length->ir s (i:Int)=true->l.getD i default=m.getD i default:=by
 unfold sel;rw[ahk hl]
 grind
def okJ(R:List Row)(ps:List AS)(vs:List Val):Bool:=ps.all fun s=>aou R s vs.length (pe vs s)
def b4n (R:List Row) (ps:List AS) (cols:List (List Val)):Nat->List Val->List (List Val)
 |0,vs=>if okJ R ps vs=true then[vs] else[]
 |d+1,vs=>if okJ R ps vs=true then(cols.getD vs.length default).flatMap fun v=>b4n R ps cols d (vs++[v]) else[]
def bhk(R:List Row)(ps:List AS)(n:Nat):List (List Val):=b4n R ps (az6 R n) n []
end
end
section
section
variable {n:Int}{ps:List AS}{p m:List Fd}
end
def sgB(n:Int)(c:AS)(z:Int):Int:=if ir c (z%n)=true then z%n else z
section
variable {n:Int}{P Q:AS}{p:List Fd}
end
end
section
section
variable {t:Tbl}{d:Fd}
end
section
variable {n:Int}{ps:List AS}{p m:List Fd}
end
def sgT(n:Nat)(w:List Val)(f:Nat->Row)(z:Int):Val:=if z<(n:Int)then w.getD z.toNat default else(f (z/n-1).toNat).vals.getD (z%n).toNat default
end
section
def fdP(d:Fd)(r k:AS):Option AS:=if(r ^^^ k)&&&d.lhs=0 then(if(r ^^^ k)&&&d.rhs=0 then none else some ((r ^^^ k)&&&d.rhs))else none
def fdQ(d:Fd)(T:List AS)(r:AS):Option AS:=T.findSome? (fdP d r)
def fdT(d:Fd)(T:List AS):Option AS:=T.findSome? (fdQ d T)
theorem a3h {T:List AS} (h:T.Nodup):T.length<=4294967296:=by
 have h1:(T.map BitVec.toNat).Nodup:=List.Pairwise.map _ (fun a b hab e=>hab (bk7 e)) h
 have h2:∀x∈T.map BitVec.toNat,x<4294967296:=by
  intro x hx;obtain⟨a,_,rfl⟩:=bj3.1 hx;exact a.isLt
 have hlen:(T.map BitVec.toNat).length=T.length:=bjf _;rw[<- hlen]
 have key:∀(N:Nat) (l:List Nat),l.Nodup->(∀x∈l,x<N)->l.length<=N:=by
  intro N
  induction N with
  | zero =>
   intro l _ hl
   cases l with
   |nil=>exact bil _
   |cons a l=>exact absurd (hl a bmu) (bip _)
  | succ N ih =>
   intro l hn hl
   have h3:=ih (l.filter fun x=>!decide (x=N)) (hn.filter _) fun x hx=>by
    grind
   have h4:l.length<=(l.filter fun x=>!decide (x=N)).length+1:=by
    have h5:∀l:List Nat,l.length=(l.filter fun x=>!decide (x=N)).length+l.countP fun x=>decide (x=N):=by
     intro l
     induction l with
     |nil=>rfl
     | cons a l ih =>
      grind
    have h6:=h5 l
    have h7:(l.countP fun x=>decide (x=N))<=1:=by
     have:=hn.count (a:=N)
     grind
    omega
   omega
 exact key _ _ h1 h2
def a4t (d:Fd):Nat->List AS->List AS
 |0,T=>T
 | f+1,T=>match fdT d T with
  |none=>T
  |some s=>a4t d f (b63 T s)
def mvS(d:Fd)(T:List AS)(i k:Nat):List AS:=if agB d (T.getD i default) (T.getD k default)=true then aj7 T (b57 d (T.getD i default) (T.getD k default))else T
def mvI (d:Fd):Nat->List AS->Nat->Nat->List AS
 |0,T,_,_=>T
 |f+1,T,i,k=>if k<T.length then mvI d f (mvS d T i k) i (k+1)else T
def mvO (d:Fd):Nat->List AS->Nat->List AS
 |0,T,_=>T
 |f+1,T,i=>if i<T.length then mvO d f (mvI d 8589934592 T i 0) (i+1)else T
abbrev TC:=List AS×Bool
def FU2:Nat:=8589934592
def fdR(x:TC)(d:Fd):TC:=(a4t d FU2 x.1,x.2||(fdT d x.1).isSome)
def mvR(x:TC)(d:Fd):TC:=(mvO d FU2 x.1 0,x.2||decide (x.1.length<(mvO d FU2 x.1 0).length))
def avf(fs ms:List Fd)(T:List AS):TC:=ms.foldl mvR (fs.foldl fdR (T,false))
def chF (fs ms:List Fd):Nat->List AS->List AS
 |0,T=>T
 |f+1,T=>if(avf fs ms T).2=true then chF fs ms f (avf fs ms T).1 else(avf fs ms T).1
def muT(T:List AS):Nat:=(orL T).toNat*FU2+(4294967296-T.length)
def aqx {d:Fd} {f:Nat} {T:List AS} (h:fdT d T=none):a4t d f T=T:=by
 cases f with
 |zero=>rfl
 | succ f =>
  show(match fdT d T with|none=>T|some s=>a4t d f (b63 T s))=_;rw[h]
def MU:Nat:=73786976294838206464
def b9e (T:List AS):muT T<MU:=by
 unfold muT;have h:=(orL T).isLt;have h1:((orL T).toNat+1)*FU2<=4294967296*FU2:=biy _ h;rw[bjt]at h1;have e:FU2=8589934592:=rfl;have e2:MU=73786976294838206464:=rfl;omega
def auo(rest:AS):List AS:=aj7 [0] rest
def chT(fs ms:List Fd)(rest:AS):List AS:=chF fs ms MU (auo rest)
def bca(rest:AS):(auo rest).Nodup:=apa bmu
end
end Go.Hx

/- A part of the proof: SrC Tb1 Tb2 Tb3 Tb4 Tb5. -/
import Derived.Test.YteklilhbjjofbaaGreatDoorLc25
import Derived.Test.YteklilhbjjofbaaGreatDoorLc27
set_option linter.all false
set_option maxRecDepth 100000
set_option maxHeartbeats 1000000
namespace Go.Hx
section
open Go.Proofs Go.RowKit
def au9:∀ (a b:List UInt8),Lib.compareBytes a b = dz a b
 | [],[]=>rfl
 | [],_ :: _=>rfl
 | _ :: _,[]=>rfl
 | x :: xs,y :: ys=>by
  unfold Lib.compareBytes dz;rw [au9 xs ys];by_cases h1:x < y
  · have h2:x.toNat < y.toNat:=h1
    rw [if_pos h1,if_neg (fun e=>by rw [e] at h2;omega)];unfold sgn;rw [if_pos b5s]
  have h2:¬ x.toNat < y.toNat:=h1;rw [if_neg h1];by_cases h3:y < x
  · have h4:y.toNat < x.toNat:=h3
    rw [if_pos h3,if_neg (fun e=>by rw [e] at h4;omega)];unfold sgn;rw [if_neg b5s,if_pos b5s]
  have h4:¬ y.toNat < x.toNat:=h3;rw [if_neg h3,if_pos (UInt8.toNat_inj.1 b5s)]
def asg:goodFn b6g 154:=⟨Tryz.f154,Tryz.func154,by kernel_rfl,by kernel_rfl⟩
def as0 (a b:ByteArray):a8 b6g 154 [pS a,pS b] (ab [pI (j2 a b)]):=by
 intro w imm us htab him hus
 match us,hus with
 | [u,v],⟨hu,hv,_⟩ =>
  obtain ⟨rfl,_⟩:=hu;obtain ⟨rfl,_⟩:=hv;refine (Any.bytealg_CompareString Tryz.laysCS a b w).mono ?_;rintro e w' ⟨rfl,rfl⟩;exact ⟨_,imm,rfl,⟨by rw [au9];rfl,rfl⟩,fun _ _=>rfl,him,Below.refl _ _⟩
 | [],h=>exact h.elim
 | [_],⟨_,h⟩=>exact h.elim
 | _ :: _ :: _ :: _,⟨_,_,h⟩=>exact h.elim
end
section
open Go.Proofs
def wl:goodFn b6g 113:=wgx Tryz.func113
def a9g (a b:Int):a8 b6g 113 [pI a,pI b] (ab [pI (sgn a b)]):=by
 refine hpx (nt:=11) Tryz.func113 ?_;refine fl ?_;refine hcd (fun h0=>?_) (fun h0=>?_)
 · refine v_4 ?_;exact ⟨cci (by unfold sgn;rw [if_pos h0]),trivial⟩
 refine w_8 ?_;refine hcd (fun h1=>?_) (fun h1=>?_)
 · refine v_4 ?_;exact ⟨cci (by unfold sgn;rw [if_neg h0,if_pos h1]),trivial⟩
 refine v_5 ?_;exact ⟨cci (by unfold sgn;rw [if_neg h0,if_neg h1]),trivial⟩
def azw (a b:ByteArray) (ha:a.size <= 68719476736) (hb:b.size <= 68719476736):a8 b6g 158 [pS a,pS b] (ab [pI (j2 a b)]):=by
 refine hpx (nt:=39) Tryz.func158 ?_;refine w_4 ?_;refine c6 (ι:=Unit) (ka 0 (ka 1 kn)) km (fun _i=>⟨[],[]⟩) (fun _i=>j2 a b = sgn a.size b.size) ?_ ?_
 ·
  refine w_5 ?_;refine ah (ι:=Nat) (ka 0 (ka 1 kn)) km (fun i=>⟨[(5,some (vI i))],[]⟩) (fun i=>i <= a.size /\ i <= b.size /\ dz ((bl a).drop i) ((bl b).drop i) = j2 a b) (fun i=>a.size - i) (0) (⟨b2w _,b2w _,rfl⟩) kk ?_;rintro i ⟨hi1,hi2,hc⟩;refine w_8 ?_;refine ae rfl rfl (fun r0=>?_) (fun r0=>?_)
  ·
   have h0:=tz1 r0;(iterate 4 refine qy ?_ (hg:=(gtt r0)));refine w_2 ?_;refine am _ rfl (fun r1=>?_) (fun r1=>?_)
   ·
    have h1:=tz1 (bp r0 r1);refine up ?_;refine hcn (fun h2=>?_) (fun h2=>?_)
    · refine dq ?_;refine qcx wl (a9g _ _) ?_;refine v_3 ?_;exact ⟨cci (by rw [<- hc,a7u i _ _ (by rw [dx];omega) (by rw [dx];omega) (fun e=>h2 ((a3r _ _ _ _).2 e))];rfl),trivial⟩
    refine w_6 ?_;refine lpz (i + 1) kk ?_;exact ⟨by omega,by omega,by rw [<- hc];exact (a7j i _ _ (by rw [dx];omega) (by rw [dx];omega) ((a3r _ _ _ _).1 h2)).symm⟩
   have h1:=tz2 (bp r0 r1);refine c4 ?_;refine ⟨(), ?_, ?_⟩
   · rw [<- hc,<- dx,<- dx];exact a1x i _ _ (by rw [dx];omega) (by rw [dx];omega) (by rw [dx,dx];omega)
   exact kk
  have h0:=tz2 r0;(iterate 4 refine k9 (gft r0) ?_);refine w_4 ?_;refine ⟨(), ?_, ?_⟩
  · rw [<- hc,<- dx,<- dx];exact a1x i _ _ (by rw [dx];omega) (by rw [dx];omega) (by rw [dx,dx];omega)
  exact kk
 rintro _ hj;refine w_6 ?_;refine qcx wl (a9g _ _) ?_;refine v_2 ?_;exact ⟨cci hj.symm,trivial⟩
def azv (a b:Val) (ha:a.str.size <= 68719476736) (hb:b.str.size <= 68719476736):a8 b6g 112 [a.pc,b.pc] (ab [pI (dv a b)]):=by
 refine hpx (nt:=28) Tryz.func112 ?_;refine sx7 ?_;refine m9 0 ?_;refine m9 1 ?_;refine w_9 ?_;refine qcx wl (a9g _ _) ?_;refine w_7 ?_;refine hcn (fun h0=>?_) (fun h0=>?_)
 · refine v_5 ?_;exact ⟨cci (by unfold dv;rw [if_pos h0]),trivial⟩
 refine w_8 ?_;refine qcx wl (a9g _ _) ?_;refine w_7 ?_;refine hcn (fun h1=>?_) (fun h1=>?_)
 · refine v_5 ?_;exact ⟨cci (by unfold dv;rw [if_neg b5s,if_pos h1]),trivial⟩
 refine w_7 ?_;refine qcx (wgx Tryz.func158) (azw a.str b.str ha hb) ?_;refine v_2 ?_;exact ⟨cci (by unfold dv;rw [if_neg b5s,if_neg b5s]),trivial⟩
end
section
open Go.Proofs
def ays (a b:List Val) (ha:me a) (hb:me b):a8 b6g 73 [pP (vals a),pP (vals b)] (ab [pI (bw a b)]):=by
 refine hpx (nt:=36) Tryz.func73 ?_;refine ci 0 rfl (fun hn=>?_);refine w_4 ?_;refine c6 (ι:=Unit) (ka 0 (ka 1 kn)) km (fun _i=>⟨[],[]⟩) (fun _i=>bw a b = sgn a.length b.length) ?_ ?_
 ·
  refine w_5 ?_;refine ah (ι:=Nat) (ka 0 (ka 1 kn)) km (fun i=>⟨[(5,some (vI i))],[]⟩) (fun i=>i <= a.length /\ i <= b.length /\ bw (a.drop i) (b.drop i) = bw a b) (fun i=>a.length - i) (0) (⟨b2w _,b2w _,rfl⟩) kk ?_;rintro i ⟨hi1,hi2,hc⟩;refine w_8 ?_;refine ae rfl rfl (fun r0=>?_) (fun r0=>?_)
  ·
   have h0:=tz1 r0;(iterate 4 refine qy ?_ (hg:=(gtt r0)));refine w_2 ?_;refine am _ rfl (fun r1=>?_) (fun r1=>?_)
   ·
    have h1:=tz1 (bp r0 r1);refine ke ?_;refine qcx (wgx Tryz.func112) (azv _ _ (ha i b5s) (hb i b5s)) ?_;refine w_8 ?_;refine hcn (fun h2=>?_) (fun h2=>?_)
    · refine v_5 ?_;exact ⟨cci (by rw [<- hc];exact (a4i i _ _ b5s b5s h2).symm),trivial⟩
    refine w_6 ?_;refine lpz (i + 1) kk ?_;exact ⟨by omega,by omega,by rw [<- hc];exact (a40 i _ _ b5s b5s h2).symm⟩
   have h1:=tz2 (bp r0 r1);refine c4 ?_;refine ⟨(), ?_, ?_⟩
   · rw [<- hc];exact z6 i _ _ b5s b5s b5s
   exact kk
  have h0:=tz2 r0;(iterate 4 refine k9 (gft r0) ?_);refine w_4 ?_;refine ⟨(), ?_, ?_⟩
  · rw [<- hc];exact z6 i _ _ b5s b5s b5s
  exact kk
 rintro _ hj;refine w_6 ?_;refine qcx wl (a9g _ _) ?_;refine v_2 ?_;exact ⟨cci hj.symm,trivial⟩
def c81 (a b:List Val) (ha:me a) (hb:me b):a8 b6g 96 [pP (vals a),pP (vals b)] (ab [pB (decide (a = b))]):=by
 refine hpx (nt:=9) Tryz.func96 ?_;refine w_8 ?_;refine qcx (wgx Tryz.func73) (ays a b ha hb) ?_;refine v_3 ?_;exact ⟨ccb (decide_eq_decide.2 x9),trivial⟩
def b5z {p:Prop} (h:p:=by simp [be, *] <;> omega):p:=h
def c86 (v:Val):a8 b6g 157 [v.pc] (ab [pB (be v)]):=by
 refine hpx (nt:=44) Tryz.func157 ?_;refine sx7 ?_;refine m9 0 ?_;refine up ?_;refine hcd (fun h0=>?_) (fun h0=>?_)
 ·
  refine w_6 ?_;refine ae rfl rfl (fun r1=>?_) (fun r1=>?_)
  ·
   have h1:=tz1 r1;(iterate 3 refine qy ?_ (hg:=(gtt r1)));refine w_3 ?_
   exact hx8 rfl rfl rfl (⟨ccb b5z,trivial⟩)
  have h1:=tz2 r1;(iterate 3 refine k9 (gft r1) ?_);refine w_3 ?_
  exact hx8 rfl rfl rfl (⟨ccb b5z,trivial⟩)
 refine w_5 ?_;refine hcd (fun h2=>?_) (fun h2=>?_)
 · refine v_7 ?_;exact ⟨ccb b5z,trivial⟩
 refine w_5 ?_;refine hcd (fun h3=>?_) (fun h3=>?_)
 ·
  refine w_6 ?_;refine ae rfl rfl (fun r4=>?_) (fun r4=>?_)
  ·
   have h4:=tz1 r4;(iterate 4 refine qy ?_ (hg:=(gtt r4)));refine w_3 ?_
   exact hx8 rfl rfl rfl (⟨ccb b5z,trivial⟩)
  have h4:=tz2 r4;(iterate 4 refine k9 (gft r4) ?_);refine w_3 ?_
  exact hx8 rfl rfl rfl (⟨ccb b5z,trivial⟩)
 refine w_7 ?_;refine ae rfl rfl (fun r5=>?_) (fun r5=>?_)
 ·
  have h5:=tz1 r5;(iterate 3 refine qy ?_ (hg:=(gtt r5)));refine w_2 ?_;refine ae rfl rfl (fun r6=>?_) (fun r6=>?_)
  ·
   have h6:=tz1 (bp r5 r6);(iterate 3 refine qy ?_ (hg:=(gtt r6)));refine w_3 ?_
   exact hx8 rfl rfl rfl (⟨ccb b5z,trivial⟩)
  have h6:=tz2 (bp r5 r6);(iterate 3 refine k9 (gft r6) ?_);refine w_3 ?_
  exact hx8 rfl rfl rfl (⟨ccb b5z,trivial⟩)
 have h5:=tz2 r5;(iterate 3 refine k9 (gft r5) ?_);refine w_2 ?_;(iterate 3 refine k9 rfl ?_);refine w_3 ?_
 exact hx8 rfl rfl rfl (⟨ccb b5z,trivial⟩)
def c76 (v:Val):a8 b6g 141 [v.pc] (ab [pB (be v)]):=by
 refine hpx (nt:=41) Tryz.func141 ?_;refine sx7 ?_;refine m9 0 ?_;refine up ?_;refine hcd (fun h0=>?_) (fun h0=>?_)
 ·
  refine w_6 ?_;refine ae rfl rfl (fun r1=>?_) (fun r1=>?_)
  ·
   have h1:=tz1 r1;(iterate 3 refine qy ?_ (hg:=(gtt r1)));refine w_3 ?_
   exact hx8 rfl rfl rfl (⟨ccb b5z,trivial⟩)
  have h1:=tz2 r1;(iterate 3 refine k9 (gft r1) ?_);refine w_3 ?_
  exact hx8 rfl rfl rfl (⟨ccb b5z,trivial⟩)
 refine w_5 ?_;refine hcd (fun h2=>?_) (fun h2=>?_)
 · refine v_7 ?_;exact ⟨ccb b5z,trivial⟩
 refine w_5 ?_;refine hcd (fun h3=>?_) (fun h3=>?_)
 ·
  refine w_6 ?_;refine ae rfl rfl (fun r4=>?_) (fun r4=>?_)
  ·
   have h4:=tz1 r4;(iterate 4 refine qy ?_ (hg:=(gtt r4)));refine w_3 ?_
   exact hx8 rfl rfl rfl (⟨ccb b5z,trivial⟩)
  have h4:=tz2 r4;(iterate 4 refine k9 (gft r4) ?_);refine w_3 ?_
  exact hx8 rfl rfl rfl (⟨ccb b5z,trivial⟩)
 refine w_5 ?_;refine hcd (fun h5=>?_) (fun h5=>?_)
 ·
  refine w_6 ?_;refine ae rfl rfl (fun r6=>?_) (fun r6=>?_)
  ·
   have h6:=tz1 r6;(iterate 3 refine qy ?_ (hg:=(gtt r6)));refine w_3 ?_
   exact hx8 rfl rfl rfl (⟨ccb b5z,trivial⟩)
  have h6:=tz2 r6;(iterate 3 refine k9 (gft r6) ?_);refine w_3 ?_
  exact hx8 rfl rfl rfl (⟨ccb b5z,trivial⟩)
 refine v_5 ?_;exact ⟨ccb b5z,trivial⟩
def c83 (l:List Val):a8 b6g 111 [pP (vals l)] (ab [pB (l.all be)]):=by
 refine hpx (nt:=16) Tryz.func111 ?_;refine ci 0 rfl (fun hn=>?_);refine w_4 ?_;refine c6 (ι:=Unit) kn km (fun _i=>⟨[],[]⟩) (fun _i=>l.all be = true) ?_ ?_
 ·
  refine w_5 ?_;refine ah (ι:=Nat) (ka 0 kn) km (fun i=>⟨[(3,some (vI i))],[]⟩) (fun i=>i <= l.length /\ ∀ j,j < i -> be (l.getD j default) = true) (fun i=>l.length - i) (0) (⟨b2w _,b7⟩) kk ?_;rintro i ⟨hi,hI⟩;refine w_8 ?_;refine hcd (fun h0=>?_) (fun h0=>?_)
  ·
   refine w_9 ?_;refine qcx (wgx Tryz.func157) (c86 _) ?_;refine w_2 ?_;refine hcv (fun h1=>?_) (fun h1=>?_)
   · refine v_4 ?_;exact ⟨ccb (ue b5s h1).symm,trivial⟩
   refine w_6 ?_;refine lpz (i + 1) kk ?_;exact ⟨by omega,av hI (h1)⟩
  refine c4 ?_;refine ⟨(), ?_, ?_⟩
  · exact x8 fun j hj=>hI j b5s
  exact ⟨trivial,trivial⟩
 rintro _ hj;refine v_4 ?_;exact ⟨ccb hj.symm,trivial⟩
def c75 (a b:List ByteArray):a8 b6g 59 [pP (un a),pP (un b)] (ab [pB (decide (a = b))]):=by
 refine hpx (nt:=26) Tryz.func59 ?_;refine ci 0 rfl (fun hn=>?_);refine ke ?_;refine hcn (fun h0=>?_) (fun h0=>?_)
 · refine v_4 ?_;exact ⟨ccb (decide_eq_false (fun e=>h0 (by rw [e]))).symm,trivial⟩
 refine f4 ?_;refine c6 (ι:=Unit) kn km (fun _i=>⟨[],[]⟩) (fun _i=>a = b) ?_ ?_
 ·
  refine w_5 ?_;refine ah (ι:=Nat) (ka 0 (ka 1 kn)) km (fun i=>⟨[(5,some (vI i))],[]⟩) (fun i=>i <= a.length /\ ∀ j,j < i -> a.getD j default = b.getD j default) (fun i=>a.length - i) (0) (⟨b2w _,b7⟩) kk ?_;rintro i ⟨hi,hI⟩;refine w_8 ?_;refine hcd (fun h1=>?_) (fun h1=>?_)
  ·
   refine tk ?_;refine hcn (fun h2=>?_) (fun h2=>?_)
   · refine v_4 ?_;exact ⟨ccb (decide_eq_false (fun e=>h2 (by subst e;rfl))).symm,trivial⟩
   refine w_6 ?_;refine lpz (i + 1) kk ?_;exact ⟨by omega,av hI (h2)⟩
  refine c4 ?_;refine ⟨(), ?_, ?_⟩
  · exact k6 b5s fun j hj=>hI j b5s
  exact ⟨trivial,trivial⟩
 rintro _ hj;refine v_4 ?_;exact ⟨ccb (decide_eq_true hj).symm,trivial⟩
end
section
open Go.Proofs
def atg (c:Int):a8 b6g 156 [pU8 c] (ab [pB (ltr c)]):=by
 refine hpx (nt:=21) Tryz.func156 ?_;refine w_9 ?_;refine ae rfl rfl (fun r0=>?_) (fun r0=>?_)
 ·
  have h0:=tz1 r0;(iterate 2 refine qy ?_ (hg:=(gtt r0)));refine w_2 ?_;refine ae rfl rfl (fun r1=>?_) (fun r1=>?_)
  ·
   have h1:=tz1 (bp r0 r1);(iterate 3 refine k9 (gtf r1) ?_);(iterate 2 refine k9 rfl ?_);refine k9 (gtf r1) ?_;refine w_2 ?_;(iterate 2 refine k9 rfl ?_);refine w_3 ?_
   exact hx8 rfl rfl rfl (⟨ccb (by simp [ltr, *]),trivial⟩)
  have h1:=tz2 (bp r0 r1);(iterate 3 refine qy ?_ (hg:=(gff r1)));refine ae rfl rfl (fun r2=>?_) (fun r2=>?_)
  ·
   have h2:=tz1 r2;(iterate 2 refine qy ?_ (hg:=(gtt r2)));refine qy ?_ (hg:=(gff r1));refine w_2 ?_;refine ae rfl rfl (fun r3=>?_) (fun r3=>?_)
   ·
    have h3:=tz1 (bp r2 (ar r1 r3));(iterate 2 refine k9 (gtf r3) ?_);refine w_3 ?_
    exact hx8 rfl rfl rfl (⟨ccb (by simp [ltr, *]),trivial⟩)
   have h3:=tz2 (bp r2 (ar r1 r3));(iterate 2 refine qy ?_ (hg:=(gff r3)));refine w_3 ?_
   exact hx8 rfl rfl rfl (⟨ccb (by simp [ltr, *]),trivial⟩)
  have h2:=tz2 r2;(iterate 2 refine k9 (gft r2) ?_);refine rq rfl rfl rfl rfl (gff r1) ?_ (hp:=r2);refine w_2 ?_;(iterate 2 refine rq rfl rfl rfl rfl (gff (o8 r1 rfl)) ?_);refine w_3 ?_
  exact hx8 rfl rfl rfl (⟨ccb (by simp [ltr, *]),trivial⟩)
 have h0:=tz2 r0;(iterate 2 refine k9 (gft r0) ?_);refine w_5 ?_;refine ae rfl rfl (fun r4=>?_) (fun r4=>?_)
 ·
  have h4:=tz1 r4;(iterate 2 refine qy ?_ (hg:=(gtt r4)));refine w_3 ?_;refine ae rfl rfl (fun r5=>?_) (fun r5=>?_)
  ·
   have h5:=tz1 (bp r4 r5);(iterate 2 refine k9 (gtf r5) ?_);refine w_3 ?_
   exact hx8 rfl rfl rfl (⟨ccb (by simp [ltr, *]),trivial⟩)
  have h5:=tz2 (bp r4 r5);(iterate 2 refine qy ?_ (hg:=(gff r5)));refine w_3 ?_
  exact hx8 rfl rfl rfl (⟨ccb (by simp [ltr, *]),trivial⟩)
 have h4:=tz2 r4;(iterate 2 refine k9 (gft r4) ?_);refine w_3 ?_;(iterate 2 refine rq rfl rfl rfl rfl (gff (o8 rfl rfl)) ?_);refine w_3 ?_
 exact hx8 rfl rfl rfl (⟨ccb (by simp [ltr, *]),trivial⟩)
def b69 {p:Prop} (h:p:=by assumption):p:=h
def avk (s:ByteArray):a8 b6g 109 [pS s] (ab [pB (fv s)]):=by
 refine hpx (nt:=45) Tryz.func109 ?_;refine fl ?_;refine ae rfl rfl (fun r0=>?_) (fun r0=>?_)
 ·
  have h0:=tz1 r0;(iterate 3 refine k9 (gtf r0) ?_);refine w_2 ?_;(iterate 4 refine k9 rfl ?_);refine w_2 ?_;(iterate 2 refine k9 rfl ?_);refine w_7 ?_
  exact hx8 rfl rfl rfl (⟨ccb (by first | exact (oj b5s).symm | exact (mt b5s).symm | exact (sh b69).symm | exact (l3 b69).symm),trivial⟩)
 have h0:=tz2 r0;(iterate 3 refine qy ?_ (hg:=(gff r0)));refine w_2 ?_;refine ae rfl rfl (fun r1=>?_) (fun r1=>?_)
 ·
  have h1:=tz1 (ar r0 r1);(iterate 4 refine k9 (gtf r1) ?_);refine w_2 ?_;(iterate 2 refine k9 rfl ?_);refine w_7 ?_
  exact hx8 rfl rfl rfl (⟨ccb (by first | exact (oj b5s).symm | exact (mt b5s).symm | exact (sh b69).symm | exact (l3 b69).symm),trivial⟩)
 have h1:=tz2 (ar r0 r1);(iterate 2 refine qy ?_ (hg:=(gff r1)));refine qcx (wgx Tryz.func156) (atg _) ?_ (hg:=(gff r1));refine qy ?_ (hg:=(gff r1));refine w_2 ?_;refine ae rfl rfl (fun r2=>?_) (fun r2=>?_)
 ·
  have h2:=ez (ar r1 r2);(iterate 2 refine k9 (gtf r2) ?_);refine w_7 ?_
  exact hx8 rfl rfl rfl (⟨ccb (by first | exact (oj b5s).symm | exact (mt b5s).symm | exact (sh b69).symm | exact (l3 b69).symm),trivial⟩)
 have h2:=f0 (ar r1 r2);(iterate 2 refine qy ?_ (hg:=(gff r2)));refine w_2 ?_;refine am _ rfl (fun r3=>?_) (fun r3=>?_)
 · have h3:=tz1 (ar r2 r3);refine v_4 ?_;exact ⟨ccb (by first | exact (oj b5s).symm | exact (mt b5s).symm | exact (sh b69).symm | exact (l3 b69).symm),trivial⟩
 have h3:=tz2 (ar r2 r3);refine f4 ?_;refine c6 (ι:=Unit) kn km (fun _i=>⟨[],[]⟩) (fun _i=>fv s = true) ?_ ?_
 ·
  refine w_5 ?_;refine ah (ι:=Nat) (ka 0 kn) km (fun i=>⟨[(3,some (vI i))],[]⟩) (fun i=>i <= s.size /\ ∀ j,j < i -> (ltr (bf s j) || dig (bf s j)) = true) (fun i=>s.size - i) (0) (⟨b2w _,b7⟩) kk ?_;rintro i ⟨hi,hI⟩;refine w_8 ?_;refine hcd (fun h4=>?_) (fun h4=>?_)
  ·
   refine w_8 ?_;refine qcx (wgx Tryz.func156) (atg _) ?_;refine w_2 ?_;refine ae rfl rfl (fun r5=>?_) (fun r5=>?_)
   ·
    have h5:=ez r5;(iterate 5 refine qy ?_ (hg:=(gtt r5)));refine ae rfl rfl (fun r6=>?_) (fun r6=>?_)
    ·
     have h6:=tz1 r6;(iterate 4 refine k9 (gtf r6) ?_);refine rq rfl rfl rfl rfl (gtt r5) ?_ (hp:=r6);refine w_2 ?_;refine am _ rfl (fun _=>?_) (fun e=>Bool.noConfusion ((vw r5 rfl).symm.trans e));refine w_4 ?_
     exact hx8 rfl rfl rfl (⟨ccb (qb (i:=i) b5s b69 (by simp_all [dig] <;> omega)).symm,trivial⟩)
    have h6:=tz2 r6;(iterate 4 refine qy ?_ (hg:=(gff r6)));refine qy ?_ (hg:=(gtt r5));refine w_2 ?_;refine am _ rfl (fun r7=>?_) (fun r7=>?_)
    · have h7:=tz1 (ar r6 (bp r5 r7));refine v_4 ?_;exact ⟨ccb (qb (i:=i) b5s b69 (by simp_all [dig] <;> omega)).symm,trivial⟩
    have h7:=tz2 (ar r6 (bp r5 r7));refine w_6 ?_;refine lpz (i + 1) kk ?_;exact ⟨by omega,av hI (by simp_all [dig] <;> omega)⟩
   have h5:=f0 r5;(iterate 5 refine k9 (gft r5) ?_);(iterate 4 refine k9 rfl ?_);refine k9 (gft r5) ?_;refine w_9 ?_;refine lpz (i + 1) kk ?_
   exact ⟨by omega,av hI (by simp_all [dig] <;> omega)⟩
  refine c4 ?_;refine ⟨(), ?_, ?_⟩
  · exact aj3 b5s b5s b69 b69 (fun j hj=>hI j b5s)
  exact ⟨trivial,trivial⟩
 rintro _ hj;refine v_4 ?_;exact ⟨ccb hj.symm,trivial⟩
def azz (l:List ByteArray) (s:ByteArray):a8 b6g 115 [pP (un l),pS s] (ab [pI (zn l s)]):=by
 refine hpx (nt:=19) Tryz.func115 ?_;refine ci 0 rfl (fun hn=>?_);refine w_4 ?_;refine c6 (ι:=Unit) kn km (fun _i=>⟨[],[]⟩) (fun _i=>zn l s = -1) ?_ ?_
 ·
  refine w_5 ?_;refine ah (ι:=Nat) (ka 0 (ka 1 kn)) km (fun i=>⟨[(5,some (vI i))],[]⟩) (fun i=>i <= l.length /\ ∀ j,j < i -> decide (l.getD j default = s) = false) (fun i=>l.length - i) (0) (⟨b2w _,b7⟩) kk ?_;rintro i ⟨hi,hI⟩;refine w_8 ?_;refine hcd (fun h0=>?_) (fun h0=>?_)
  ·
   refine sv ?_;refine hcd (fun h1=>?_) (fun h1=>?_)
   · refine v_5 ?_;exact ⟨cci (a0l (p:=fun x=>decide (x = s)) (i:=i) b5s hI (decide_eq_true h1)).symm,trivial⟩
   refine w_6 ?_;refine lpz (i + 1) kk ?_;exact ⟨by omega,av hI (decide_eq_false h1)⟩
  refine c4 ?_;refine ⟨(), ?_, ?_⟩
  · exact a0x (p:=fun x=>decide (x = s)) fun j hj=>hI j b5s
  exact ⟨trivial,trivial⟩
 rintro _ hj;refine v_4 ?_;exact ⟨cci hj.symm,trivial⟩
def azn (l:List ByteArray):a8 b6g 110 [pP (un l)] (ab [pB (um l)]):=by
 refine hpx (nt:=27) Tryz.func110 ?_;refine ci 0 rfl (fun hn=>?_);refine w_4 ?_;refine c6 (ι:=Unit) kn km (fun _i=>⟨[],[]⟩) (fun _i=>um l = true) ?_ ?_
 ·
  refine w_5 ?_;refine ah (ι:=Nat) (ka 0 kn) km (fun i=>⟨[(3,some (vI i))],[]⟩) (fun i=>i <= l.length /\ ∀ j,j < i -> lg l j = true) (fun i=>l.length - i) (0) (⟨b2w _,b7⟩) kk ?_;rintro i ⟨hi,hI⟩;refine w_8 ?_;refine hcd (fun h0=>?_) (fun h0=>?_)
  ·
   refine w_9 ?_;refine qcx (wgx Tryz.func109) (avk _) ?_;refine w_2 ?_;refine ae rfl rfl (fun r1=>?_) (fun r1=>?_)
   ·
    have h1:=ez r1;(iterate 9 refine k9 (gtf r1) ?_);refine w_8 ?_
    exact hx8 rfl rfl rfl (⟨ccb (fj (i:=i) b5s (by first | (unfold lg;simp_all;done) | (unfold lg;rw [b58];right;exact decide_eq_false b5s))).symm,trivial⟩)
   have h1:=f0 r1;(iterate 7 refine qy ?_ (hg:=(gff r1)));refine rc rfl rfl rfl rfl rfl rfl (wgx Tryz.func115) (azz (l.take i) (l.getD i default)) (⟨CoC.one (a0k (k:=i) b5s),CoC.refl _,trivial⟩) rfl (gff r1) ?_
   refine qy ?_ (hg:=(gff r1));refine w_3 ?_;refine am _ rfl (fun r2=>?_) (fun r2=>?_)
   · have h2:=tz1 (ar r1 r2);refine v_4 ?_;exact ⟨ccb (fj (i:=i) b5s (by first | (unfold lg;simp_all;done) | (unfold lg;rw [b58];right;exact decide_eq_false b5s))).symm,trivial⟩
   have h2:=tz2 (ar r1 r2);refine w_6 ?_;refine lpz (i + 1) kk ?_;exact ⟨by omega,av hI (by simp only [lg,b2x,decide_eq_true_eq];exact ⟨by assumption,by omega⟩)⟩
  refine c4 ?_;refine ⟨(), ?_, ?_⟩
  · exact iu fun j hj=>hI j b5s
  exact ⟨trivial,trivial⟩
 rintro _ hj;refine v_4 ?_;exact ⟨ccb hj.symm,trivial⟩
def au4 (s:ByteArray):a8 b6g 97 [pS s] (ab [pB (fv s)]):=by
 refine hpx (nt:=58) Tryz.func97 ?_;refine dq ?_;refine ae rfl rfl (fun r0=>?_) (fun r0=>?_)
 ·
  have h0:=tz1 r0;(iterate 3 refine k9 (gtf r0) ?_);refine w_2 ?_;(iterate 2 refine k9 rfl ?_);refine w_7 ?_
  exact hx8 rfl rfl rfl (⟨ccb (by first | exact (oj (sg.2 b69)).symm | exact (mt b5s).symm | exact (l3 b69).symm),trivial⟩)
 have h0:=tz2 r0;(iterate 3 refine qy ?_ (hg:=(gff r0)));refine w_2 ?_;refine ae rfl rfl (fun r1=>?_) (fun r1=>?_)
 ·
  have h1:=tz1 (ar r0 r1);(iterate 2 refine k9 (gtf r1) ?_);refine w_7 ?_
  exact hx8 rfl rfl rfl (⟨ccb (by first | exact (oj (sg.2 b69)).symm | exact (mt b5s).symm | exact (l3 b69).symm),trivial⟩)
 have h1:=tz2 (ar r0 r1);(iterate 2 refine qy ?_ (hg:=(gff r1)));refine w_2 ?_;refine am _ rfl (fun r2=>?_) (fun r2=>?_)
 · have h2:=tz1 (ar r1 r2);refine v_4 ?_;exact ⟨ccb (by first | exact (oj (sg.2 b69)).symm | exact (mt b5s).symm | exact (l3 b69).symm),trivial⟩
 have h2:=tz2 (ar r1 r2);refine f4 ?_;refine c6 (ι:=Unit) kn km (fun _i=>⟨[],[]⟩) (fun _i=>fv s = true) ?_ ?_
 ·
  refine w_7 ?_;refine ah (ι:=Nat) (ka 0 (ka 18 kn)) km (fun i=>⟨[(19,some (vI i))],[]⟩) (fun i=>i <= s.size /\ (∀ j,j < i -> (ltr (bf s j) || dig (bf s j)) = true) /\ (0 < i -> ltr (bf s 0) = true)) (fun i=>s.size - i) (0) (⟨b2w _,b7,fun h=>by omega⟩) kk ?_;rintro i ⟨hi,hI,hz⟩;refine w_5 ?_;refine hcd (fun h3=>?_) (fun h3=>?_)
  ·
   refine qk ?_;refine ags (ka 0 (ka 3 (ka 4 (ka 18 (ka 19 kn))))) km ⟨[(5,some (vB (ltr (bf s i))))],[]⟩ ?_ ?_
   ·
    refine w_4 ?_;refine ae rfl rfl (fun r4=>?_) (fun r4=>?_)
    ·
     have h4:=tz1 r4;(iterate 2 refine qy ?_ (hg:=(gtt r4)));refine w_2 ?_;refine ae rfl rfl (fun r5=>?_) (fun r5=>?_)
     ·
      have h5:=tz1 (bp r4 r5);(iterate 3 refine k9 (gtf r5) ?_);(iterate 2 refine k9 rfl ?_);refine k9 (gtf r5) ?_;refine w_2 ?_;(iterate 2 refine k9 rfl ?_);refine w_3 ?_
      exact ⟨⟨⟨_,rfl,(cob (by simp [ltr, *]))⟩,tt⟩,trivial⟩
     have h5:=tz2 (bp r4 r5);(iterate 3 refine qy ?_ (hg:=(gff r5)));refine ae rfl rfl (fun r6=>?_) (fun r6=>?_)
     ·
      have h6:=tz1 r6;(iterate 2 refine qy ?_ (hg:=(gtt r6)));refine qy ?_ (hg:=(gff r5));refine w_2 ?_;refine ae rfl rfl (fun r7=>?_) (fun r7=>?_)
      ·
       have h7:=tz1 (bp r6 (ar r5 r7));(iterate 2 refine k9 (gtf r7) ?_);refine w_3 ?_
       exact ⟨⟨⟨_,rfl,(cob (by simp [ltr, *]))⟩,tt⟩,trivial⟩
      have h7:=tz2 (bp r6 (ar r5 r7));(iterate 2 refine qy ?_ (hg:=(gff r7)));refine w_3 ?_
      exact ⟨⟨⟨_,rfl,(cob (by simp [ltr, *]))⟩,tt⟩,trivial⟩
     have h6:=tz2 r6;(iterate 2 refine k9 (gft r6) ?_);refine rq rfl rfl rfl rfl (gff r5) ?_ (hp:=r6);refine w_2 ?_;(iterate 2 refine rq rfl rfl rfl rfl (gff (o8 r5 rfl)) ?_);refine w_3 ?_
     exact ⟨⟨⟨_,rfl,(cob (by simp [ltr, *]))⟩,tt⟩,trivial⟩
    have h4:=tz2 r4;(iterate 2 refine k9 (gft r4) ?_);refine w_5 ?_;refine ae rfl rfl (fun r8=>?_) (fun r8=>?_)
    ·
     have h8:=tz1 r8;(iterate 2 refine qy ?_ (hg:=(gtt r8)));refine w_3 ?_;refine ae rfl rfl (fun r9=>?_) (fun r9=>?_)
     ·
      have h9:=tz1 (bp r8 r9);(iterate 2 refine k9 (gtf r9) ?_);refine w_3 ?_
      exact ⟨⟨⟨_,rfl,(cob (by simp [ltr, *]))⟩,tt⟩,trivial⟩
     have h9:=tz2 (bp r8 r9);(iterate 2 refine qy ?_ (hg:=(gff r9)));refine w_3 ?_
     exact ⟨⟨⟨_,rfl,(cob (by simp [ltr, *]))⟩,tt⟩,trivial⟩
    have h8:=tz2 r8;(iterate 2 refine k9 (gft r8) ?_);refine w_3 ?_;(iterate 2 refine rq rfl rfl rfl rfl (gff (o8 rfl rfl)) ?_);refine w_3 ?_
    exact ⟨⟨⟨_,rfl,(cob (by simp [ltr, *]))⟩,tt⟩,trivial⟩
   refine w_5 ?_;refine ae rfl rfl (fun r10=>?_) (fun r10=>?_)
   ·
    have h10:=ez r10;(iterate 3 refine qy ?_ (hg:=(gtt r10)));refine ae rfl rfl (fun r11=>?_) (fun r11=>?_)
    ·
     have h11:=tz1 r11;(iterate 2 refine k9 (gtf r11) ?_);refine rq rfl rfl rfl rfl (gtt r10) ?_ (hp:=r11);refine qy ?_ (hg:=(gtt r10));(iterate 2 refine k9 rfl ?_);refine qy ?_ (hg:=(gtt r10));refine w_2 ?_
     refine am _ rfl (fun _=>?_) (fun e=>Bool.noConfusion ((vw r10 rfl).symm.trans e));refine v_4 ?_;exact ⟨ccb (by first | exact (z1 (i:=i) b69 b69).symm | exact (qb (i:=i) b5s b69 (by simp [dig, *] <;> omega)).symm),trivial⟩
    have h11:=tz2 r11;(iterate 2 refine qy ?_ (hg:=(gff r11)));(iterate 2 refine qy ?_ (hg:=(gtt r10)));refine ae rfl rfl (fun r12=>?_) (fun r12=>?_)
    ·
     have h12:=tz1 (ar r11 r12);(iterate 2 refine k9 (gtf r12) ?_);refine rq rfl rfl rfl rfl (gtt r10) ?_ (hp:=r12);refine w_2 ?_;refine am _ rfl (fun _=>?_) (fun e=>Bool.noConfusion ((vw r10 rfl).symm.trans e));refine w_4 ?_
     exact hx8 rfl rfl rfl (⟨ccb (by first | exact (z1 (i:=i) b69 b69).symm | exact (qb (i:=i) b5s b69 (by simp [dig, *] <;> omega)).symm),trivial⟩)
    have h12:=tz2 (ar r11 r12);(iterate 2 refine qy ?_ (hg:=(gff r12)));refine qy ?_ (hg:=(gtt r10));refine w_2 ?_;refine am _ rfl (fun r13=>?_) (fun r13=>?_)
    · have h13:=tz1 (ar r12 (bp r10 r13));refine v_4 ?_;exact ⟨ccb (by first | exact (z1 (i:=i) b69 b69).symm | exact (qb (i:=i) b5s b69 (by simp [dig, *] <;> omega)).symm),trivial⟩
    have h13:=tz2 (ar r12 (bp r10 r13));refine w_5 ?_;refine lpz (i + 1) kk ?_;exact ⟨by omega,av hI (by simp_all [dig] <;> omega),fun _=>atk hz (fun e=>by first | assumption | (exfalso;omega))⟩
   have h10:=f0 r10;(iterate 3 refine k9 (gft r10) ?_);(iterate 2 refine k9 rfl ?_);(iterate 2 refine k9 (gft r10) ?_);(iterate 2 refine k9 rfl ?_);refine k9 (gft r10) ?_;refine w_8 ?_;refine lpz (i + 1) kk ?_
   exact ⟨by omega,av hI (by simp_all [dig] <;> omega),fun _=>atk hz (fun e=>by first | assumption | (exfalso;omega))⟩
  refine c4 ?_;refine ⟨(), ?_, ?_⟩
  · exact aj3 (fun e=>absurd ((sg (s:=s)).1 e) b69) b5s (hz (Nat.pos_of_ne_zero (fun e=>absurd ((sg (s:=s)).1 b5s) b69))) b69 (fun j hj=>hI j b5s)
  exact ⟨trivial,trivial⟩
 rintro _ hj;refine v_4 ?_;exact ⟨ccb hj.symm,trivial⟩
def azo (l:List ByteArray) (s:ByteArray):a8 b6g 138 [pP (un l),pS s] (ab [pI (zn l s)]):=by
 refine hpx (nt:=19) Tryz.func138 ?_;refine ci 0 rfl (fun hn=>?_);refine w_4 ?_;refine c6 (ι:=Unit) kn km (fun _i=>⟨[],[]⟩) (fun _i=>zn l s = -1) ?_ ?_
 ·
  refine w_7 ?_;refine ah (ι:=Nat) (ka 0 (ka 1 (ka 7 kn))) km (fun i=>⟨[(8,some (vI i))],[]⟩) (fun i=>i <= l.length /\ ∀ j,j < i -> decide (l.getD j default = s) = false) (fun i=>l.length - i) (0) (⟨b2w _,b7⟩) kk ?_;rintro i ⟨hi,hI⟩;refine w_5 ?_;refine hcd (fun h0=>?_) (fun h0=>?_)
  ·
   refine uw ?_;refine hcd (fun h1=>?_) (fun h1=>?_)
   · refine v_5 ?_;exact ⟨cci (a0l (p:=fun x=>decide (x = s)) (i:=i) b5s hI (decide_eq_true h1.symm)).symm,trivial⟩
   refine w_5 ?_;refine lpz (i + 1) kk ?_;exact ⟨by omega,av hI (decide_eq_false fun e=>h1 e.symm)⟩
  refine c4 ?_;refine ⟨(), ?_, ?_⟩
  · exact a0x (p:=fun x=>decide (x = s)) fun j hj=>hI j b5s
  exact ⟨trivial,trivial⟩
 rintro _ hj;refine v_4 ?_;exact ⟨cci hj.symm,trivial⟩
def ayo (l:List ByteArray) (s:ByteArray):a8 b6g 98 [pP (un l),pS s] (ab [pB (decide (0 <= zn l s))]):=by
 refine hpx (nt:=9) Tryz.func98 ?_;refine w_8 ?_;refine qcx (wgx Tryz.func138) (azo _ _) ?_;refine v_3 ?_;exact CoL.refl _
def az9 (l:List Val) (g k:Nat) (caps:Nat -> PV) (V:Val -> Bool) (hg:goodFn b6g g) (hV:∀ i,i < l.length -> a8 b6g g ((l.getD i default).pc :: mi caps k 0) (ab [pB (V (l.getD i default))])):a8 b6g 167 [pP (vals l),pP (.fn g k caps)] (ab [pI (idx V l)]):=by
 refine hpx (nt:=19) Tryz.func167 ?_;refine ci 0 rfl (fun hn=>?_);refine w_4 ?_;refine c6 (ι:=Unit) kn km (fun _i=>⟨[],[]⟩) (fun _i=>idx V l = -1) ?_ ?_
 ·
  refine w_7 ?_;refine ah (ι:=Nat) (ka 0 (ka 1 (ka 7 kn))) km (fun i=>⟨[(8,some (vI i))],[]⟩) (fun i=>i <= l.length /\ ∀ j,j < i -> V (l.getD j default) = false) (fun i=>l.length - i) (0) (⟨b2w _,b7⟩) kk ?_;rintro i ⟨hi,hI⟩;refine w_5 ?_;refine hcd (fun h0=>?_) (fun h0=>?_)
  ·
   refine qk ?_;refine rc rfl rfl rfl rfl rfl rfl hg (hV i b5s) (CoL.refl _) rfl rfl ?_;refine da ?_;refine hcb (fun h1=>?_) (fun h1=>?_)
   · refine v_5 ?_;exact ⟨cci (a0l (i:=i) b5s hI h1).symm,trivial⟩
   refine w_5 ?_;refine lpz (i + 1) kk ?_;exact ⟨by omega,av hI (h1)⟩
  refine c4 ?_;refine ⟨(), ?_, ?_⟩
  · exact a0x fun j hj=>hI j b5s
  exact ⟨trivial,trivial⟩
 rintro _ hj;refine v_4 ?_;exact ⟨cci hj.symm,trivial⟩
def ayx (l:List Val) (g k:Nat) (caps:Nat -> PV) (V:Val -> Bool) (hg:goodFn b6g g) (hV:∀ i,i < l.length -> a8 b6g g ((l.getD i default).pc :: mi caps k 0) (ab [pB (V (l.getD i default))])):a8 b6g 139 [pP (vals l),pP (.fn g k caps)] (ab [pB (l.any V)]):=by
 refine hpx (nt:=9) Tryz.func139 ?_;refine w_8 ?_;refine qcx (wgx Tryz.func167) (az9 l g k caps V hg hV) ?_;refine v_3 ?_;exact ⟨ccb ae7,trivial⟩
def az5 (v:Val):a8 b6g 140 [v.pc] (ab [pB (!be v)]):=by
 refine hpx (nt:=6) Tryz.func140 ?_;refine sx7 ?_;refine m9 0 ?_;refine w_5 ?_;refine qcx (wgx Tryz.func141) (c76 _) ?_;refine v_3 ?_;exact CoL.refl _
def c93 (l:List Val):a8 b6g 99 [pP (vals l)] (ab [pB (l.all be)]):=by
 refine hpx (nt:=6) Tryz.func99 ?_;refine w_7 ?_;refine qcx (wgx Tryz.func139) (ayx l 140 0 (fun _=>.any) (fun v=>!be v) (wgx Tryz.func140) (fun i _=>az5 _)) ?_;refine v_3 ?_;exact ⟨ccb acw,trivial⟩
end
section
open Go.Proofs
abbrev vpL (ps:List PV):PV:=.vp ps.length fun j=>ps.getD j .any
def rE {n:Nat} {l:List Row} {i:Nat} {b e:Int} (hi:i < l.length) (h:ct n b (l.drop i) = e):(if (l.getD i default).id <= b then 1 else if (l.getD i default).vals.length ≠ n then 6 else if ((l.getD i default).vals.all be) = false then 1 else ct n (l.getD i default).id (l.drop (i + 1))) = e:=by rw [<- abr hi];exact h
def tE {t:Tbl} {e:Int} (h0:fv t.name = true) (h1:¬ 16 < t.attrs.length) (h2:¬ 1000 < t.rows.length) (h3:um t.attrs = true) (h:ct t.attrs.length 0 t.rows = e):bo t = e:=by
 have:¬ (16 < t.attrs.length \/ 1000 < t.rows.length):=by omega
 simp [bo,h0,h3,h,this]
def tE1 {t:Tbl} (h0:fv t.name = false):bo t = 1:=by simp [bo,h0]
def tE3 {t:Tbl} (h0:fv t.name = true) (h1:16 < t.attrs.length \/ 1000 < t.rows.length):bo t = 3:=by simp [bo,h0,h1]
def tE2 {t:Tbl} (h0:fv t.name = true) (h1:¬ 16 < t.attrs.length) (h2:¬ 1000 < t.rows.length) (h3:um t.attrs = false):bo t = 1:=by
 have:¬ (16 < t.attrs.length \/ 1000 < t.rows.length):=by omega
 simp [bo,h0,h3,this]
def c82 (t:Tbl):a8 b6g 70 [t.pc] (ab [pI (bo t)]):=by
 refine hpx (nt:=53) Tryz.func70 ?_;refine sx7 ?_;refine m9 0 ?_;refine w_7 ?_;refine qcx (wgx Tryz.func109) (avk _) ?_;refine w_2 ?_;refine hcv (fun h0=>?_) (fun h0=>?_)
 · refine v_4 ?_;exact ⟨cci (tE1 b69).symm,trivial⟩
 refine w_9 ?_;refine ae rfl rfl (fun r1=>?_) (fun r1=>?_)
 ·
  have h1:=tz1 r1;(iterate 4 refine k9 (gtf r1) ?_);refine w_7 ?_
  exact hx8 rfl rfl rfl (⟨cci (tE3 b69 b5s).symm,trivial⟩)
 have h1:=tz2 r1;(iterate 4 refine qy ?_ (hg:=(gff r1)));refine w_2 ?_;refine am _ rfl (fun r2=>?_) (fun r2=>?_)
 · have h2:=tz1 (ar r1 r2);refine v_4 ?_;exact ⟨cci (tE3 b69 b5s).symm,trivial⟩
 have h2:=tz2 (ar r1 r2);refine w_6 ?_;refine qcx (wgx Tryz.func110) (azn _) ?_;refine w_2 ?_;refine hcv (fun h3=>?_) (fun h3=>?_)
 · refine v_4 ?_;exact ⟨cci (tE2 b69 b5s b5s b69).symm,trivial⟩
 refine w_5 ?_;refine c6 (ι:=Unit) kn km (fun _i=>⟨[],[]⟩) (fun _i=>ct t.attrs.length 0 t.rows = 0) ?_ ?_
 ·
  refine w_5 ?_;refine ah (ι:=(Nat × Int)) (ka 1 kn) (kb 0 km) (fun x=>⟨[(3,some (vI x.2)),(4,some (vI x.1))],[]⟩) (fun x=>x.1 <= t.rows.length /\ ct t.attrs.length x.2 (t.rows.drop x.1) = ct t.attrs.length 0 t.rows) (fun x=>t.rows.length - x.1) ((0,0)) (⟨b2w _,rfl⟩) kk ?_;rintro ⟨i,b⟩ ⟨hi,hI⟩;dsimp only at hi hI ⊢;refine w_9 ?_;refine hcd (fun h4=>?_) (fun h4=>?_)
  ·
   refine dq ?_;refine m9 1 ?_;refine dq ?_;refine hcd (fun h5=>?_) (fun h5=>?_)
   · refine w_4 ?_;refine hrr ?_;have hs:=rE b5s hI;rw [if_pos b5s] at hs;exact f9 rfl rfl (⟨cci (tE b69 b5s b5s b69 hs.symm).symm,trivial⟩)
   refine awi ?_;refine hcn (fun h6=>?_) (fun h6=>?_)
   · refine w_4 ?_;refine hrr ?_;have hs:=rE b5s hI;rw [if_neg b5s,if_pos b5s] at hs;exact f9 rfl rfl (⟨cci (tE b69 b5s b5s b69 hs.symm).symm,trivial⟩)
   refine w_5 ?_;refine qcx (wgx Tryz.func111) (c83 _) ?_;refine w_2 ?_;refine hcv (fun h7=>?_) (fun h7=>?_)
   · refine w_4 ?_;refine hrr ?_;have hs:=rE b5s hI;rw [if_neg b5s,if_neg b5s,if_pos b69] at hs;exact f9 rfl rfl (⟨cci (tE b69 b5s b5s b69 hs.symm).symm,trivial⟩)
   refine w_6 ?_;refine lpz (i + 1,(t.rows.getD i default).id) kk ?_;refine ⟨by dsimp only;omega, ?_⟩;have hs:=rE b5s hI;rw [if_neg b5s,if_neg b5s,if_neg (fun e=>Bool.noConfusion (e.symm.trans (show _ = true by assumption)))] at hs;exact hs
  refine c4 ?_;refine ⟨(), ?_, ?_⟩
  · rw [<- hI,b53 b5s];rfl
  exact ⟨trivial,trivial⟩
 rintro _ hj;refine v_4 ?_;exact ⟨cci (tE b69 b5s b5s b69 hj).symm,trivial⟩
def c88 (t:Tbl):a8 b6g 61 [t.pc] (ab [pI (bo t)]):=by
 refine hpx (nt:=70) Tryz.func61 ?_;refine sx7 ?_;refine m9 0 ?_;refine w_7 ?_;refine qcx (wgx Tryz.func97) (au4 _) ?_;refine w_2 ?_;refine hcv (fun h0=>?_) (fun h0=>?_)
 · refine v_4 ?_;exact ⟨cci (tE1 b69).symm,trivial⟩
 refine w_9 ?_;refine ae rfl rfl (fun r1=>?_) (fun r1=>?_)
 ·
  have h1:=tz1 r1;(iterate 4 refine k9 (gtf r1) ?_);refine w_7 ?_
  exact hx8 rfl rfl rfl (⟨cci (tE3 b69 b5s).symm,trivial⟩)
 have h1:=tz2 r1;(iterate 4 refine qy ?_ (hg:=(gff r1)));refine w_2 ?_;refine am _ rfl (fun r2=>?_) (fun r2=>?_)
 · have h2:=tz1 (ar r1 r2);refine v_4 ?_;exact ⟨cci (tE3 b69 b5s).symm,trivial⟩
 have h2:=tz2 (ar r1 r2);refine f4 ?_;refine c6 (ι:=Unit) (ka 1 kn) (kb 0 km) (fun _i=>⟨[],[]⟩) (fun _i=>um t.attrs = true) ?_ ?_
 ·
  refine w_8 ?_;refine ah (ι:=Nat) (ka 1 (ka 23 (ka 24 kn))) (kb 0 km) (fun i=>⟨[(25,some (vI i))],[]⟩) (fun i=>i <= t.attrs.length /\ ∀ j,j < i -> lg t.attrs j = true) (fun i=>t.attrs.length - i) (0) (⟨b2w _,b7⟩) kk ?_;rintro i ⟨hi,hI⟩;refine w_5 ?_;refine hcd (fun h3=>?_) (fun h3=>?_)
  ·
   refine up ?_;refine qcx (wgx Tryz.func97) (au4 _) ?_;refine w_2 ?_;refine ae rfl rfl (fun r4=>?_) (fun r4=>?_)
   ·
    have h4:=ez r4;(iterate 6 refine k9 (gtf r4) ?_);refine w_7 ?_
    exact hx8 rfl rfl rfl (⟨cci (tE2 b69 b5s b5s (fj (i:=i) b5s (by first | (unfold lg;simp_all;done) | (unfold lg;rw [b58];right;exact decide_eq_false b5s)))).symm,trivial⟩)
   have h4:=f0 r4;(iterate 5 refine qy ?_ (hg:=(gff r4)));refine rc rfl rfl rfl rfl rfl rfl (wgx Tryz.func98) (ayo (t.attrs.take i) (t.attrs.getD i default)) (⟨CoC.one (a0k (k:=i) b5s),CoC.refl _,trivial⟩) rfl (gff r4) ?_;refine w_2 ?_
   refine am _ rfl (fun r5=>?_) (fun r5=>?_)
   · have h5:=ar r4 r5;refine v_4 ?_;exact ⟨cci (tE2 b69 b5s b5s (fj (i:=i) b5s (by first | (unfold lg;simp_all;done) | (unfold lg;rw [b58];right;exact decide_eq_false b5s)))).symm,trivial⟩
   have h5:=ar r4 r5;have hM:=az6 h5;refine w_5 ?_;refine lpz (i + 1) kk ?_;exact ⟨by omega,av hI (by simp only [lg,b2x,decide_eq_true_eq];exact ⟨by assumption,by simp_all⟩)⟩
  refine c4 ?_;refine ⟨(), ?_, ?_⟩
  · exact iu fun j hj=>hI j b5s
  exact kk
 rintro _ hnm;refine w_4 ?_;refine c6 (ι:=Unit) kn km (fun _i=>⟨[],[]⟩) (fun _i=>ct t.attrs.length 0 t.rows = 0) ?_ ?_
 ·
  refine w_8 ?_;refine ah (ι:=(Nat × Int)) (ka 1 (ka 43 (ka 44 kn))) (kb 0 km) (fun x=>⟨[(5,some (vI x.2)),(45,some (vI x.1))],[]⟩) (fun x=>x.1 <= t.rows.length /\ ct t.attrs.length x.2 (t.rows.drop x.1) = ct t.attrs.length 0 t.rows) (fun x=>t.rows.length - x.1) ((0,0)) (⟨b2w _,rfl⟩) kk ?_;rintro ⟨i,b⟩ ⟨hi,hI⟩;dsimp only at hi hI ⊢;refine w_5 ?_;refine hcd (fun h6=>?_) (fun h6=>?_)
  ·
   refine w_7 ?_;refine m9 1 ?_;refine sv ?_;refine hcd (fun h7=>?_) (fun h7=>?_)
   · refine w_4 ?_;refine hrr ?_;have hs:=rE b5s hI;rw [if_pos b5s] at hs;exact f9 rfl rfl (⟨cci (tE b69 b5s b5s b69 hs.symm).symm,trivial⟩)
   refine fl ?_;refine hcn (fun h8=>?_) (fun h8=>?_)
   · refine w_4 ?_;refine hrr ?_;have hs:=rE b5s hI;rw [if_neg b5s,if_pos b5s] at hs;exact f9 rfl rfl (⟨cci (tE b69 b5s b5s b69 hs.symm).symm,trivial⟩)
   refine w_4 ?_;refine qcx (wgx Tryz.func99) (c93 _) ?_;refine w_3 ?_;refine hcv (fun h9=>?_) (fun h9=>?_)
   · refine w_4 ?_;refine hrr ?_;have hs:=rE b5s hI;rw [if_neg b5s,if_neg b5s,if_pos b69] at hs;exact f9 rfl rfl (⟨cci (tE b69 b5s b5s b69 hs.symm).symm,trivial⟩)
   refine dq ?_;refine lpz (i + 1,(t.rows.getD i default).id) kk ?_;refine ⟨by dsimp only;omega, ?_⟩;have hs:=rE b5s hI;rw [if_neg b5s,if_neg b5s,if_neg (fun e=>Bool.noConfusion (e.symm.trans (show _ = true by assumption)))] at hs;exact hs
  refine c4 ?_;refine ⟨(), ?_, ?_⟩
  · rw [<- hI,b53 b5s];rfl
  exact ⟨trivial,trivial⟩
 rintro _ hj;refine v_4 ?_;exact ⟨cci (tE b69 b5s b5s b69 hj).symm,trivial⟩
end
section
open Go.Proofs
def apu (n:Nat) (c:Bool) (f:Nat -> Nat -> PV) (hn:n <= 8796093022208) :
 cw b6g 67 [.one (.p (.sl n 1 c f))] [] (.v (.one (.ref 0 n))) [(0, .arr true 1 9 n f)] []:=by
 refine hfx (nt:=8) Tryz.func67 ?_;refine sx7 ?_;refine c0 true rfl rfl rfl rfl rfl trivial ?_;refine da ?_;refine a0e (ι:=Bool) (fun c=>⟨[(0,some (b4 (.sl n 1 c f)))],[]⟩) (fun _=>True) ?_ fun c _=>?_
 · rcases b46 n with hz | h0
   · subst hz
     refine hw_exact' 0 rfl fun ad cap hcap=>?_;refine sx7 ?_;(iterate 2 refine c0 true rfl rfl rfl rfl rfl trivial ?_);refine da ?_;refine am ad.isNone rfl (fun hc=>?_) (fun hc=>?_)
     · refine sx7 ?_
       refine c0 true rfl rfl rfl rfl rfl trivial ?_;refine da ?_;refine gm 2 0 true 1 9 f b5x rfl (CoP.sl rfl (.inr rfl) (fun h=>h) fun i j hi _=>absurd hi (b2y i)) (.inr rfl) rfl ?_;refine hrr ?_;exact ⟨_,_,rfl,trivial,CoR.refl _,uu⟩
     refine f4 ?_;exact ⟨false,trivial,⟨⟨_,rfl,CoP.raw_sl hcap⟩,trivial⟩,trivial⟩
   refine sx7 ?_;refine c0 true rfl rfl rfl rfl rfl trivial ?_;refine c0 true rfl rfl rfl rfl rfl h0 ?_;refine da ?_;refine am false rfl (fun hc=>by cases hc) (fun hc=>?_);refine f4 ?_;exact ⟨c,trivial,tt,trivial⟩
 refine sx7 ?_;refine vm 0 rfl rfl rfl rfl rfl rfl trivial ?_;refine c0 true rfl rfl rfl rfl rfl trivial ?_;refine yn 0 true rfl rfl rfl rfl rfl rfl ⟨trivial,rfl,rfl,rfl, .inl rfl,by show 0 + n <= 9223372036854775807;omega,by show (0 + n) * 16 <= 140737488355328;omega,fun _=>.inl rfl⟩ ?_;refine c0 true rfl rfl rfl rfl rfl trivial ?_;refine da ?_;refine hrr ?_;refine ⟨_,_,rfl,trivial,CoR.of_eq (by show HR.v (.one (.ref 0 (0 + n))) = _;rw [b3d]),⟨⟨_,rfl, ?_⟩,trivial⟩⟩;exact ⟨fun h=>h,rfl,rfl,(b3d n).symm,fun i j _ _=>CoP.of_eq (by simp [dm])⟩
def an7 (n:Nat) (c:Bool) (f:Nat -> Nat -> PV) (hn:n <= 8796093022208):a8 b6g 67 [.one (.sl n 1 c f)] (.v (.one (.sl n 1 false f))) :=
 cw.pure (args:=[.one (.sl n 1 c f)]) (l:=[.one (.ref 0 n)]) (apu n c f hn) rfl ⟨rfl,trivial⟩
def c77 (l:List ByteArray) (h:l.length <= 68719476736):a8 b6g 67 [pP (psl 1 a1z l)] (ab [pP (psl 1 a1z l)]):=an7 l.length false (lf a1z l) b5s
def aq3 (n:Nat) (c:Bool) (f:Nat -> Nat -> PV) (hn:n <= 4398046511104) :
 cw b6g 107 [.one (.p (.sl n 3 c f))] [] (.v (.one (.ref 0 n))) [(0, .arr true 3 114 n f)] []:=by
 refine hfx (nt:=8) Tryz.func107 ?_;refine sx7 ?_;refine c0 true rfl rfl rfl rfl rfl trivial ?_;refine da ?_;refine a0e (ι:=Bool) (fun c=>⟨[(0,some (b4 (.sl n 3 c f)))],[]⟩) (fun _=>True) ?_ fun c _=>?_
 · rcases b46 n with hz | h0
   · subst hz
     refine hw_exact' 0 rfl fun ad cap hcap=>?_;refine sx7 ?_;(iterate 2 refine c0 true rfl rfl rfl rfl rfl trivial ?_);refine da ?_;refine am ad.isNone rfl (fun hc=>?_) (fun hc=>?_)
     · refine sx7 ?_
       refine c0 true rfl rfl rfl rfl rfl trivial ?_;refine da ?_;refine gm 2 0 true 3 114 f b5x rfl (CoP.sl rfl (.inr rfl) (fun h=>h) fun i j hi _=>absurd hi (b2y i)) (.inr rfl) rfl ?_;refine hrr ?_;exact ⟨_,_,rfl,trivial,CoR.refl _,uu⟩
     refine f4 ?_;exact ⟨false,trivial,⟨⟨_,rfl,CoP.raw_sl hcap⟩,trivial⟩,trivial⟩
   refine sx7 ?_;refine c0 true rfl rfl rfl rfl rfl trivial ?_;refine c0 true rfl rfl rfl rfl rfl h0 ?_;refine da ?_;refine am false rfl (fun hc=>by cases hc) (fun hc=>?_);refine f4 ?_;exact ⟨c,trivial,tt,trivial⟩
 refine sx7 ?_;refine vm 0 rfl rfl rfl rfl rfl rfl trivial ?_;refine c0 true rfl rfl rfl rfl rfl trivial ?_;refine yn 0 true rfl rfl rfl rfl rfl rfl ⟨trivial,rfl,rfl,rfl, .inl rfl,by show 0 + n <= 9223372036854775807;omega,by show (0 + n) * 32 <= 140737488355328;omega,fun _=>.inl rfl⟩ ?_;refine c0 true rfl rfl rfl rfl rfl trivial ?_;refine da ?_;refine hrr ?_;refine ⟨_,_,rfl,trivial,CoR.of_eq (by show HR.v (.one (.ref 0 (0 + n))) = _;rw [b3d]),⟨⟨_,rfl, ?_⟩,trivial⟩⟩;exact ⟨fun h=>h,rfl,rfl,(b3d n).symm,fun i j _ _=>CoP.of_eq (by simp [dm])⟩
def alz (n:Nat) (c:Bool) (f:Nat -> Nat -> PV) (hn:n <= 4398046511104):a8 b6g 107 [.one (.sl n 3 c f)] (.v (.one (.sl n 3 false f))) :=
 cw.pure (args:=[.one (.sl n 3 c f)]) (l:=[.one (.ref 0 n)]) (aq3 n c f hn) rfl ⟨rfl,trivial⟩
def c78 (l:List Val) (h:l.length <= 68719476736):a8 b6g 107 [pP (psl 3 Val.c l)] (ab [pP (psl 3 Val.c l)]):=alz l.length false (lf Val.c l) b5s
def c49 (c:Int) (hc:0 <= c):a8 b6g 116 [pU8 c] (ab [(ofI (c % 12)).pc]):=by
 refine hpx (nt:=39) Tryz.func116 ?_;refine sx7 ?_;refine m9 0 ?_;refine ke ?_;refine hcd (fun h0=>?_) (fun h0=>?_)
 · refine v_5 ?_;exact ⟨CoC.of_eq (by rw [show ofI (c % 12) = ⟨1,0,emp⟩ from by simp [ofI, *]];rfl),trivial⟩
 refine w_5 ?_;refine hcd (fun h1=>?_) (fun h1=>?_)
 · refine v_5 ?_;exact ⟨CoC.of_eq (by rw [show ofI (c % 12) = ⟨1,1,emp⟩ from by simp [ofI, *]];rfl),trivial⟩
 refine w_5 ?_;refine hcd (fun h2=>?_) (fun h2=>?_)
 · refine v_5 ?_;exact ⟨CoC.of_eq (by rw [show ofI (c % 12) = ⟨1,2,emp⟩ from by simp [ofI, *]];rfl),trivial⟩
 refine w_5 ?_;refine hcd (fun h3=>?_) (fun h3=>?_)
 · refine v_5 ?_;exact ⟨CoC.of_eq (by rw [show ofI (c % 12) = ⟨0,0,emp⟩ from by simp [ofI, *]];rfl),trivial⟩
 refine w_5 ?_;refine hcd (fun h4=>?_) (fun h4=>?_)
 · refine v_5 ?_;exact ⟨CoC.of_eq (by rw [show ofI (c % 12) = ⟨2,0,⟨#[97]⟩⟩ from by simp [ofI, *]];rfl),trivial⟩
 refine w_5 ?_;refine hcd (fun h5=>?_) (fun h5=>?_)
 · refine v_5 ?_;exact ⟨CoC.of_eq (by rw [show ofI (c % 12) = ⟨2,0,⟨#[98]⟩⟩ from by simp [ofI, *]];rfl),trivial⟩
 refine w_5 ?_;refine hcd (fun h6=>?_) (fun h6=>?_)
 · refine v_5 ?_;exact ⟨CoC.of_eq (by rw [show ofI (c % 12) = ⟨2,0,emp⟩ from by simp [ofI, *]];rfl),trivial⟩
 refine w_5 ?_;refine hcd (fun h7=>?_) (fun h7=>?_)
 · refine v_5 ?_;exact ⟨CoC.of_eq (by rw [show ofI (c % 12) = ⟨3,1,emp⟩ from by simp [ofI, *]];rfl),trivial⟩
 refine w_5 ?_;refine hcd (fun h8=>?_) (fun h8=>?_)
 · refine v_5 ?_;exact ⟨CoC.of_eq (by rw [show ofI (c % 12) = ⟨1, -1,emp⟩ from by simp [ofI, *]];rfl),trivial⟩
 refine w_5 ?_;refine hcd (fun h9=>?_) (fun h9=>?_)
 · refine v_5 ?_;exact ⟨CoC.of_eq (by rw [show ofI (c % 12) = ⟨2,0,⟨#[97,98]⟩⟩ from by simp [ofI, *]];rfl),trivial⟩
 refine w_5 ?_;refine hcd (fun h10=>?_) (fun h10=>?_)
 · refine v_5 ?_;exact ⟨CoC.of_eq (by rw [show ofI (c % 12) = ⟨3,2,emp⟩ from by simp [ofI, *]];rfl),trivial⟩
 refine v_6 ?_;exact ⟨CoC.of_eq (by rw [show ofI (c % 12) = ⟨1,7,emp⟩ from by simp [ofI, *]];rfl),trivial⟩
end
end Go.Hx

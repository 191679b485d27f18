/- A part of the proof: SrC Tb1 Tb2 Tb3 Tb4 Tb5. -/
import Derived.Test.YteklilhbjjofbaaGreatDoorLe25
import Derived.Test.YteklilhbjjofbaaGreatDoorLe27
set_option linter.all false
set_option maxRecDepth 100000
set_option maxHeartbeats 1000000
namespace Go.Hx
section
open Go.Proofs Go.RowKit
def aui:∀ (a b:List UInt8),Lib.compareBytes a b = ey a b
 | [],[]=>rfl
 | [],_ :: _=>rfl
 | _ :: _,[]=>rfl
 | x :: xs,y :: ys=>by
  unfold Lib.compareBytes ey;rw [aui xs ys];by_cases h1:x < y
  · have h2:x.toNat < y.toNat:=h1
    rw [if_pos h1,if_neg (fun e=>by rw [e] at h2;omega)];unfold sgn;rw [if_pos b5h]
  have h2:¬ x.toNat < y.toNat:=h1;rw [if_neg h1];by_cases h3:y < x
  · have h4:y.toNat < x.toNat:=h3
    rw [if_pos h3,if_neg (fun e=>by rw [e] at h4;omega)];unfold sgn;rw [if_neg b5h,if_pos b5h]
  have h4:¬ y.toNat < x.toNat:=h3;rw [if_neg h3,if_pos (UInt8.toNat_inj.1 b5h)]
def apy:goodFn b65 154:=⟨Tryz.f154,Tryz.func154,by kernel_rfl,by kernel_rfl⟩
def aqo (a b:ByteArray):aa b65 154 [pS a,pS b] (af [pI (j4 a b)]):=by
 intro w imm us htab him hus
 match us,hus with
 | [u,v],⟨hu,hv,_⟩ =>
  obtain ⟨rfl,_⟩:=hu;obtain ⟨rfl,_⟩:=hv;refine (Any.bytealg_CompareString Tryz.laysCS a b w).mono ?_;rintro e w' ⟨rfl,rfl⟩;exact ⟨_,imm,rfl,⟨by rw [aui];rfl,rfl⟩,fun _ _=>rfl,him,Below.refl _ _⟩
 | [],h=>exact h.elim
 | [_],⟨_,h⟩=>exact h.elim
 | _ :: _ :: _ :: _,⟨_,_,h⟩=>exact h.elim
end
section
open Go.Proofs
def wk:goodFn b65 113:=wgx Tryz.func113
def a9k (a b:Int):aa b65 113 [pI a,pI b] (af [pI (sgn a b)]):=by
 refine hpx (nt:=11) Tryz.func113 ?_;refine j5 ?_;refine hcd (fun h0=>?_) (fun h0=>?_)
 · refine v_4 ?_;exact ⟨cci (by unfold sgn;rw [if_pos h0]),trivial⟩
 refine w_8 ?_;refine hcd (fun h1=>?_) (fun h1=>?_)
 · refine v_4 ?_;exact ⟨cci (by unfold sgn;rw [if_neg h0,if_pos h1]),trivial⟩
 refine v_5 ?_;exact ⟨cci (by unfold sgn;rw [if_neg h0,if_neg h1]),trivial⟩
def az6 (a b:ByteArray) (ha:a.size <= 68719476736) (hb:b.size <= 68719476736):aa b65 158 [pS a,pS b] (af [pI (j4 a b)]):=by
 refine hpx (nt:=39) Tryz.func158 ?_;refine w_4 ?_;refine c5 (ι:=Unit) (ka 0 (ka 1 kn)) km (fun _i=>⟨[],[]⟩) (fun _i=>j4 a b = sgn a.size b.size) ?_ ?_
 ·
  refine w_5 ?_;refine ai (ι:=Nat) (ka 0 (ka 1 kn)) km (fun i=>⟨[(5,some (vI i))],[]⟩) (fun i=>i <= a.size /\ i <= b.size /\ ey ((bl a).drop i) ((bl b).drop i) = j4 a b) (fun i=>a.size - i) (0) (⟨b2n _,b2n _,rfl⟩) kk ?_;rintro i ⟨hi1,hi2,hc⟩;refine w_8 ?_;refine ab rfl rfl (fun r0=>?_) (fun r0=>?_)
  ·
   have h0:=tz1 r0;(iterate 4 refine qy ?_ (hg:=(gtt r0)));refine w_2 ?_;refine aj _ rfl (fun r1=>?_) (fun r1=>?_)
   ·
    have h1:=tz1 (b4 r0 r1);refine z7 ?_;refine hcn (fun h2=>?_) (fun h2=>?_)
    · refine dy ?_;refine qcx wk (a9k _ _) ?_;refine v_3 ?_;exact ⟨cci (by rw [<- hc,a7t i _ _ (by rw [en];omega) (by rw [en];omega) (fun e=>h2 ((a5d _ _ _ _).2 e))];rfl),trivial⟩
    refine w_6 ?_;refine lpz (i + 1) kk ?_;exact ⟨by omega,by omega,by rw [<- hc];exact (a7f i _ _ (by rw [en];omega) (by rw [en];omega) ((a5d _ _ _ _).1 h2)).symm⟩
   have h1:=tz2 (b4 r0 r1);refine c6 ?_;refine ⟨(), ?_, ?_⟩
   · rw [<- hc,<- en,<- en];exact a2l i _ _ (by rw [en];omega) (by rw [en];omega) (by rw [en,en];omega)
   exact kk
  have h0:=tz2 r0;(iterate 4 refine k9 (gft r0) ?_);refine w_4 ?_;refine ⟨(), ?_, ?_⟩
  · rw [<- hc,<- en,<- en];exact a2l i _ _ (by rw [en];omega) (by rw [en];omega) (by rw [en,en];omega)
  exact kk
 rintro _ hj;refine w_6 ?_;refine qcx wk (a9k _ _) ?_;refine v_2 ?_;exact ⟨cci hj.symm,trivial⟩
def asn (a b:Val) (ha:a.str.size <= 68719476736) (hb:b.str.size <= 68719476736):aa b65 112 [a.pc,b.pc] (af [pI (dl a b)]):=by
 refine hpx (nt:=28) Tryz.func112 ?_;refine sx7 ?_;refine m9 0 ?_;refine m9 1 ?_;refine w_9 ?_;refine qcx wk (a9k _ _) ?_;refine w_7 ?_;refine hcn (fun h0=>?_) (fun h0=>?_)
 · refine v_5 ?_;exact ⟨cci (by unfold dl;rw [if_pos h0]),trivial⟩
 refine w_8 ?_;refine qcx wk (a9k _ _) ?_;refine w_7 ?_;refine hcn (fun h1=>?_) (fun h1=>?_)
 · refine v_5 ?_;exact ⟨cci (by unfold dl;rw [if_neg b5h,if_pos h1]),trivial⟩
 refine w_7 ?_;refine qcx (wgx Tryz.func158) (az6 a.str b.str ha hb) ?_;refine v_2 ?_;exact ⟨cci (by unfold dl;rw [if_neg b5h,if_neg b5h]),trivial⟩
end
section
open Go.Proofs
def abg:goodFn b65 73:=wgx Tryz.func73
def ald (a b:List Val) (ha:l7 a) (hb:l7 b):aa b65 73 [pP (vals a),pP (vals b)] (af [pI (br a b)]):=by
 refine hpx (nt:=36) Tryz.func73 ?_;refine df 0 rfl (fun hn=>?_);refine w_4 ?_;refine c5 (ι:=Unit) (ka 0 (ka 1 kn)) km (fun _i=>⟨[],[]⟩) (fun _i=>br a b = sgn a.length b.length) ?_ ?_
 ·
  refine w_5 ?_;refine ai (ι:=Nat) (ka 0 (ka 1 kn)) km (fun i=>⟨[(5,some (vI i))],[]⟩) (fun i=>i <= a.length /\ i <= b.length /\ br (a.drop i) (b.drop i) = br a b) (fun i=>a.length - i) (0) (⟨b2n _,b2n _,rfl⟩) kk ?_;rintro i ⟨hi1,hi2,hc⟩;refine w_8 ?_;refine ab rfl rfl (fun r0=>?_) (fun r0=>?_)
  ·
   have h0:=tz1 r0;(iterate 4 refine qy ?_ (hg:=(gtt r0)));refine w_2 ?_;refine aj _ rfl (fun r1=>?_) (fun r1=>?_)
   ·
    have h1:=tz1 (b4 r0 r1);refine j3 ?_;refine qcx (wgx Tryz.func112) (asn _ _ (ha i b5h) (hb i b5h)) ?_;refine w_8 ?_;refine hcn (fun h2=>?_) (fun h2=>?_)
    · refine v_5 ?_;exact ⟨cci (by rw [<- hc];exact (a4p i _ _ b5h b5h h2).symm),trivial⟩
    refine w_6 ?_;refine lpz (i + 1) kk ?_;exact ⟨by omega,by omega,by rw [<- hc];exact (a44 i _ _ b5h b5h h2).symm⟩
   have h1:=tz2 (b4 r0 r1);refine c6 ?_;refine ⟨(), ?_, ?_⟩
   · rw [<- hc];exact a03 i _ _ b5h b5h b5h
   exact kk
  have h0:=tz2 r0;(iterate 4 refine k9 (gft r0) ?_);refine w_4 ?_;refine ⟨(), ?_, ?_⟩
  · rw [<- hc];exact a03 i _ _ b5h b5h b5h
  exact kk
 rintro _ hj;refine w_6 ?_;refine qcx wk (a9k _ _) ?_;refine v_2 ?_;exact ⟨cci hj.symm,trivial⟩
def ac4:goodFn b65 96:=wgx Tryz.func96
def c81 (a b:List Val) (ha:l7 a) (hb:l7 b):aa b65 96 [pP (vals a),pP (vals b)] (af [pB (decide (a = b))]):=by
 refine hpx (nt:=9) Tryz.func96 ?_;refine w_8 ?_;refine qcx abg (ald a b ha hb) ?_;refine v_3 ?_;exact ⟨ccb (decide_eq_decide.2 xg),trivial⟩
def b5p {p:Prop} (h:p:=by simp [bp, *] <;> omega):p:=h
def c86 (v:Val):aa b65 157 [v.pc] (af [pB (bp v)]):=by
 refine hpx (nt:=44) Tryz.func157 ?_;refine sx7 ?_;refine m9 0 ?_;refine z7 ?_;refine hcd (fun h0=>?_) (fun h0=>?_)
 ·
  refine w_6 ?_;refine ab rfl rfl (fun r1=>?_) (fun r1=>?_)
  ·
   have h1:=tz1 r1;(iterate 3 refine qy ?_ (hg:=(gtt r1)));refine w_3 ?_
   exact hx8 rfl rfl rfl (⟨ccb b5p,trivial⟩)
  have h1:=tz2 r1;(iterate 3 refine k9 (gft r1) ?_);refine w_3 ?_
  exact hx8 rfl rfl rfl (⟨ccb b5p,trivial⟩)
 refine w_5 ?_;refine hcd (fun h2=>?_) (fun h2=>?_)
 · refine v_7 ?_;exact ⟨ccb b5p,trivial⟩
 refine w_5 ?_;refine hcd (fun h3=>?_) (fun h3=>?_)
 ·
  refine w_6 ?_;refine ab rfl rfl (fun r4=>?_) (fun r4=>?_)
  ·
   have h4:=tz1 r4;(iterate 4 refine qy ?_ (hg:=(gtt r4)));refine w_3 ?_
   exact hx8 rfl rfl rfl (⟨ccb b5p,trivial⟩)
  have h4:=tz2 r4;(iterate 4 refine k9 (gft r4) ?_);refine w_3 ?_
  exact hx8 rfl rfl rfl (⟨ccb b5p,trivial⟩)
 refine w_7 ?_;refine ab rfl rfl (fun r5=>?_) (fun r5=>?_)
 ·
  have h5:=tz1 r5;(iterate 3 refine qy ?_ (hg:=(gtt r5)));refine w_2 ?_;refine ab rfl rfl (fun r6=>?_) (fun r6=>?_)
  ·
   have h6:=tz1 (b4 r5 r6);(iterate 3 refine qy ?_ (hg:=(gtt r6)));refine w_3 ?_
   exact hx8 rfl rfl rfl (⟨ccb b5p,trivial⟩)
  have h6:=tz2 (b4 r5 r6);(iterate 3 refine k9 (gft r6) ?_);refine w_3 ?_
  exact hx8 rfl rfl rfl (⟨ccb b5p,trivial⟩)
 have h5:=tz2 r5;(iterate 3 refine k9 (gft r5) ?_);refine w_2 ?_;(iterate 3 refine k9 rfl ?_);refine w_3 ?_
 exact hx8 rfl rfl rfl (⟨ccb b5p,trivial⟩)
def c76 (v:Val):aa b65 141 [v.pc] (af [pB (bp v)]):=by
 refine hpx (nt:=41) Tryz.func141 ?_;refine sx7 ?_;refine m9 0 ?_;refine z7 ?_;refine hcd (fun h0=>?_) (fun h0=>?_)
 ·
  refine w_6 ?_;refine ab rfl rfl (fun r1=>?_) (fun r1=>?_)
  ·
   have h1:=tz1 r1;(iterate 3 refine qy ?_ (hg:=(gtt r1)));refine w_3 ?_
   exact hx8 rfl rfl rfl (⟨ccb b5p,trivial⟩)
  have h1:=tz2 r1;(iterate 3 refine k9 (gft r1) ?_);refine w_3 ?_
  exact hx8 rfl rfl rfl (⟨ccb b5p,trivial⟩)
 refine w_5 ?_;refine hcd (fun h2=>?_) (fun h2=>?_)
 · refine v_7 ?_;exact ⟨ccb b5p,trivial⟩
 refine w_5 ?_;refine hcd (fun h3=>?_) (fun h3=>?_)
 ·
  refine w_6 ?_;refine ab rfl rfl (fun r4=>?_) (fun r4=>?_)
  ·
   have h4:=tz1 r4;(iterate 4 refine qy ?_ (hg:=(gtt r4)));refine w_3 ?_
   exact hx8 rfl rfl rfl (⟨ccb b5p,trivial⟩)
  have h4:=tz2 r4;(iterate 4 refine k9 (gft r4) ?_);refine w_3 ?_
  exact hx8 rfl rfl rfl (⟨ccb b5p,trivial⟩)
 refine w_5 ?_;refine hcd (fun h5=>?_) (fun h5=>?_)
 ·
  refine w_6 ?_;refine ab rfl rfl (fun r6=>?_) (fun r6=>?_)
  ·
   have h6:=tz1 r6;(iterate 3 refine qy ?_ (hg:=(gtt r6)));refine w_3 ?_
   exact hx8 rfl rfl rfl (⟨ccb b5p,trivial⟩)
  have h6:=tz2 r6;(iterate 3 refine k9 (gft r6) ?_);refine w_3 ?_
  exact hx8 rfl rfl rfl (⟨ccb b5p,trivial⟩)
 refine v_5 ?_;exact ⟨ccb b5p,trivial⟩
def c83 (l:List Val):aa b65 111 [pP (vals l)] (af [pB (l.all bp)]):=by
 refine hpx (nt:=16) Tryz.func111 ?_;refine df 0 rfl (fun hn=>?_);refine w_4 ?_;refine c5 (ι:=Unit) kn km (fun _i=>⟨[],[]⟩) (fun _i=>l.all bp = true) ?_ ?_
 ·
  refine w_5 ?_;refine ai (ι:=Nat) (ka 0 kn) km (fun i=>⟨[(3,some (vI i))],[]⟩) (fun i=>i <= l.length /\ ∀ j,j < i -> bp (l.getD j default) = true) (fun i=>l.length - i) (0) (⟨b2n _,bh⟩) kk ?_;rintro i ⟨hi,hI⟩;refine w_8 ?_;refine hcd (fun h0=>?_) (fun h0=>?_)
  ·
   refine w_9 ?_;refine qcx (wgx Tryz.func157) (c86 _) ?_;refine w_2 ?_;refine hcv (fun h1=>?_) (fun h1=>?_)
   · refine v_4 ?_;exact ⟨ccb (a4v b5h h1).symm,trivial⟩
   refine w_6 ?_;refine lpz (i + 1) kk ?_;exact ⟨by omega,ax hI (h1)⟩
  refine c6 ?_;refine ⟨(), ?_, ?_⟩
  · exact a51 fun j hj=>hI j b5h
  exact ⟨trivial,trivial⟩
 rintro _ hj;refine v_4 ?_;exact ⟨ccb hj.symm,trivial⟩
def c54 (a b:Row) (ha:a.ok) (hb:b.ok):aa b65 60 [a.pc,b.pc] (af [pB (decide (a = b))]):=by
 refine hpx (nt:=17) Tryz.func60 ?_;refine sx7 ?_;refine m9 0 ?_;refine m9 1 ?_;refine dy ?_;refine ab rfl rfl (fun r0=>?_) (fun r0=>?_)
 ·
  have h0:=tz1 r0;(iterate 4 refine qy ?_ (hg:=(gtt r0)));refine qcx ac4 (c81 a.vals b.vals ha.2 hb.2) ?_ (hg:=(gtt r0));refine w_3 ?_
  exact hx8 rfl rfl rfl (⟨ccb (by simp [Row.eq_iff, *]),trivial⟩)
 have h0:=tz2 r0;(iterate 5 refine k9 (gft r0) ?_);refine w_3 ?_
 exact hx8 rfl rfl rfl (⟨ccb (by simp [Row.eq_iff, *]),trivial⟩)
def c75 (a b:List ByteArray):aa b65 59 [pP (ve a),pP (ve b)] (af [pB (decide (a = b))]):=by
 refine hpx (nt:=26) Tryz.func59 ?_;refine df 0 rfl (fun hn=>?_);refine j3 ?_;refine hcn (fun h0=>?_) (fun h0=>?_)
 · refine v_4 ?_;exact ⟨ccb (decide_eq_false (fun e=>h0 (by rw [e]))).symm,trivial⟩
 refine ek ?_;refine c5 (ι:=Unit) kn km (fun _i=>⟨[],[]⟩) (fun _i=>a = b) ?_ ?_
 ·
  refine w_5 ?_;refine ai (ι:=Nat) (ka 0 (ka 1 kn)) km (fun i=>⟨[(5,some (vI i))],[]⟩) (fun i=>i <= a.length /\ ∀ j,j < i -> a.getD j default = b.getD j default) (fun i=>a.length - i) (0) (⟨b2n _,bh⟩) kk ?_;rintro i ⟨hi,hI⟩;refine w_8 ?_;refine hcd (fun h1=>?_) (fun h1=>?_)
  ·
   refine vc ?_;refine hcn (fun h2=>?_) (fun h2=>?_)
   · refine v_4 ?_;exact ⟨ccb (decide_eq_false (fun e=>h2 (by subst e;rfl))).symm,trivial⟩
   refine w_6 ?_;refine lpz (i + 1) kk ?_;exact ⟨by omega,ax hI (h2)⟩
  refine c6 ?_;refine ⟨(), ?_, ?_⟩
  · exact gh b5h fun j hj=>hI j b5h
  exact ⟨trivial,trivial⟩
 rintro _ hj;refine v_4 ?_;exact ⟨ccb (decide_eq_true hj).symm,trivial⟩
def vw:goodFn b65 29:=wgx Tryz.func29
def c47 (a b:Tbl) (ha:a.ok) (hb:b.ok):aa b65 29 [a.pc,b.pc] (af [pB (decide (a = b))]):=by
 refine hpx (nt:=47) Tryz.func29 ?_;refine sx7 ?_;refine m9 0 ?_;refine m9 1 ?_;refine w_4 ?_;refine awr 0 2 rfl rfl (fun hn=>?_);refine w_7 ?_;refine ab rfl rfl (fun r0=>?_) (fun r0=>?_)
 ·
  have h0:=tz2 (ec r0);(iterate 6 refine k9 (gtf r0) ?_);refine w_2 ?_;(iterate 7 refine k9 rfl ?_);refine w_7 ?_
  exact hx8 rfl rfl rfl (⟨ccb (decide_eq_false (fun e=>by subst e;simp_all)).symm,trivial⟩)
 have h0:=tz1 (eg r0);(iterate 4 refine qy ?_ (hg:=(gff r0)));refine qcx (wgx Tryz.func59) (c75 _ _) ?_ (hg:=(gff r0));refine qy ?_ (hg:=(gff r0));refine w_2 ?_;refine ab rfl rfl (fun r1=>?_) (fun r1=>?_)
 ·
  have h1:=ec (ao r0 r1);(iterate 7 refine k9 (gtf r1) ?_);refine w_7 ?_
  exact hx8 rfl rfl rfl (⟨ccb (decide_eq_false (fun e=>by subst e;simp_all)).symm,trivial⟩)
 have h1:=eg (ao r0 r1);(iterate 7 refine qy ?_ (hg:=(gff r1)));refine w_2 ?_;refine aj _ rfl (fun r2=>?_) (fun r2=>?_)
 · have h2:=tz2 (ec (ao r1 r2));refine v_4 ?_;exact ⟨ccb (decide_eq_false (fun e=>by subst e;simp_all)).symm,trivial⟩
 have h2:=tz1 (eg (ao r1 r2));refine ek ?_;refine c5 (ι:=Unit) kn km (fun _i=>⟨[],[]⟩) (fun _i=>a = b) ?_ ?_
 ·
  refine w_5 ?_;refine ai (ι:=Nat) (ka 2 (ka 3 kn)) (kb 0 (kb 1 km)) (fun i=>⟨[(5,some (vI i))],[]⟩) (fun i=>i <= a.rows.length /\ ∀ j,j < i -> a.rows.getD j default = b.rows.getD j default) (fun i=>a.rows.length - i) (0) (⟨b2n _,bh⟩) kk ?_;rintro i ⟨hi,hI⟩;refine w_9 ?_;refine hcd (fun h3=>?_) (fun h3=>?_)
  ·
   refine tk ?_;refine qcx (wgx Tryz.func60) (c54 _ _ (ha.2.2 i b5h) (hb.2.2 i b5h)) ?_;refine w_3 ?_;refine hcv (fun h4=>?_) (fun h4=>?_)
   · have hN:=at1 h4;refine v_4 ?_;exact ⟨ccb (decide_eq_false (fun e=>by subst e;simp_all)).symm,trivial⟩
   have hN:=az1 h4;refine w_6 ?_;refine lpz (i + 1) kk ?_;exact ⟨by omega,ax hI (hN)⟩
  refine c6 ?_;refine ⟨(), ?_, ?_⟩
  · exact Tbl.eq_iff.2 ⟨by assumption,by simp_all,gh b5h fun j hj=>hI j b5h⟩
  exact ⟨trivial,trivial⟩
 rintro _ hj;refine v_4 ?_;exact ⟨ccb (decide_eq_true hj).symm,trivial⟩
end
section
open Go.Proofs
def ata (c:Int):aa b65 156 [pU8 c] (af [pB (ltr c)]):=by
 refine hpx (nt:=21) Tryz.func156 ?_;refine w_9 ?_;refine ab rfl rfl (fun r0=>?_) (fun r0=>?_)
 ·
  have h0:=tz1 r0;(iterate 2 refine qy ?_ (hg:=(gtt r0)));refine w_2 ?_;refine ab rfl rfl (fun r1=>?_) (fun r1=>?_)
  ·
   have h1:=tz1 (b4 r0 r1);(iterate 3 refine k9 (gtf r1) ?_);(iterate 2 refine k9 rfl ?_);refine k9 (gtf r1) ?_;refine w_2 ?_;(iterate 2 refine k9 rfl ?_);refine w_3 ?_
   exact hx8 rfl rfl rfl (⟨ccb (by simp [ltr, *]),trivial⟩)
  have h1:=tz2 (b4 r0 r1);(iterate 3 refine qy ?_ (hg:=(gff r1)));refine ab rfl rfl (fun r2=>?_) (fun r2=>?_)
  ·
   have h2:=tz1 r2;(iterate 2 refine qy ?_ (hg:=(gtt r2)));refine qy ?_ (hg:=(gff r1));refine w_2 ?_;refine ab rfl rfl (fun r3=>?_) (fun r3=>?_)
   ·
    have h3:=tz1 (b4 r2 (ao r1 r3));(iterate 2 refine k9 (gtf r3) ?_);refine w_3 ?_
    exact hx8 rfl rfl rfl (⟨ccb (by simp [ltr, *]),trivial⟩)
   have h3:=tz2 (b4 r2 (ao r1 r3));(iterate 2 refine qy ?_ (hg:=(gff r3)));refine w_3 ?_
   exact hx8 rfl rfl rfl (⟨ccb (by simp [ltr, *]),trivial⟩)
  have h2:=tz2 r2;(iterate 2 refine k9 (gft r2) ?_);refine rq rfl rfl rfl rfl (gff r1) ?_ (hp:=r2);refine w_2 ?_;(iterate 2 refine rq rfl rfl rfl rfl (gff (ta r1 rfl)) ?_);refine w_3 ?_
  exact hx8 rfl rfl rfl (⟨ccb (by simp [ltr, *]),trivial⟩)
 have h0:=tz2 r0;(iterate 2 refine k9 (gft r0) ?_);refine w_5 ?_;refine ab rfl rfl (fun r4=>?_) (fun r4=>?_)
 ·
  have h4:=tz1 r4;(iterate 2 refine qy ?_ (hg:=(gtt r4)));refine w_3 ?_;refine ab rfl rfl (fun r5=>?_) (fun r5=>?_)
  ·
   have h5:=tz1 (b4 r4 r5);(iterate 2 refine k9 (gtf r5) ?_);refine w_3 ?_
   exact hx8 rfl rfl rfl (⟨ccb (by simp [ltr, *]),trivial⟩)
  have h5:=tz2 (b4 r4 r5);(iterate 2 refine qy ?_ (hg:=(gff r5)));refine w_3 ?_
  exact hx8 rfl rfl rfl (⟨ccb (by simp [ltr, *]),trivial⟩)
 have h4:=tz2 r4;(iterate 2 refine k9 (gft r4) ?_);refine w_3 ?_;(iterate 2 refine rq rfl rfl rfl rfl (gff (ta rfl rfl)) ?_);refine w_3 ?_
 exact hx8 rfl rfl rfl (⟨ccb (by simp [ltr, *]),trivial⟩)
def b5y {p:Prop} (h:p:=by assumption):p:=h
def avr (s:ByteArray):aa b65 109 [pS s] (af [pB (fz s)]):=by
 refine hpx (nt:=45) Tryz.func109 ?_;refine j5 ?_;refine ab rfl rfl (fun r0=>?_) (fun r0=>?_)
 ·
  have h0:=tz1 r0;(iterate 3 refine k9 (gtf r0) ?_);refine w_2 ?_;(iterate 4 refine k9 rfl ?_);refine w_2 ?_;(iterate 2 refine k9 rfl ?_);refine w_7 ?_
  exact hx8 rfl rfl rfl (⟨ccb (by first | exact (ot b5h).symm | exact (mz b5h).symm | exact (tj b5y).symm | exact (l4 b5y).symm),trivial⟩)
 have h0:=tz2 r0;(iterate 3 refine qy ?_ (hg:=(gff r0)));refine w_2 ?_;refine ab rfl rfl (fun r1=>?_) (fun r1=>?_)
 ·
  have h1:=tz1 (ao r0 r1);(iterate 4 refine k9 (gtf r1) ?_);refine w_2 ?_;(iterate 2 refine k9 rfl ?_);refine w_7 ?_
  exact hx8 rfl rfl rfl (⟨ccb (by first | exact (ot b5h).symm | exact (mz b5h).symm | exact (tj b5y).symm | exact (l4 b5y).symm),trivial⟩)
 have h1:=tz2 (ao r0 r1);(iterate 2 refine qy ?_ (hg:=(gff r1)));refine qcx (wgx Tryz.func156) (ata _) ?_ (hg:=(gff r1));refine qy ?_ (hg:=(gff r1));refine w_2 ?_;refine ab rfl rfl (fun r2=>?_) (fun r2=>?_)
 ·
  have h2:=ec (ao r1 r2);(iterate 2 refine k9 (gtf r2) ?_);refine w_7 ?_
  exact hx8 rfl rfl rfl (⟨ccb (by first | exact (ot b5h).symm | exact (mz b5h).symm | exact (tj b5y).symm | exact (l4 b5y).symm),trivial⟩)
 have h2:=eg (ao r1 r2);(iterate 2 refine qy ?_ (hg:=(gff r2)));refine w_2 ?_;refine aj _ rfl (fun r3=>?_) (fun r3=>?_)
 · have h3:=tz1 (ao r2 r3);refine v_4 ?_;exact ⟨ccb (by first | exact (ot b5h).symm | exact (mz b5h).symm | exact (tj b5y).symm | exact (l4 b5y).symm),trivial⟩
 have h3:=tz2 (ao r2 r3);refine ek ?_;refine c5 (ι:=Unit) kn km (fun _i=>⟨[],[]⟩) (fun _i=>fz s = true) ?_ ?_
 ·
  refine w_5 ?_;refine ai (ι:=Nat) (ka 0 kn) km (fun i=>⟨[(3,some (vI i))],[]⟩) (fun i=>i <= s.size /\ ∀ j,j < i -> (ltr (bn s j) || dig (bn s j)) = true) (fun i=>s.size - i) (0) (⟨b2n _,bh⟩) kk ?_;rintro i ⟨hi,hI⟩;refine w_8 ?_;refine hcd (fun h4=>?_) (fun h4=>?_)
  ·
   refine w_8 ?_;refine qcx (wgx Tryz.func156) (ata _) ?_;refine w_2 ?_;refine ab rfl rfl (fun r5=>?_) (fun r5=>?_)
   ·
    have h5:=ec r5;(iterate 5 refine qy ?_ (hg:=(gtt r5)));refine ab rfl rfl (fun r6=>?_) (fun r6=>?_)
    ·
     have h6:=tz1 r6;(iterate 4 refine k9 (gtf r6) ?_);refine rq rfl rfl rfl rfl (gtt r5) ?_ (hp:=r6);refine w_2 ?_;refine aj _ rfl (fun _=>?_) (fun e=>Bool.noConfusion ((wv r5 rfl).symm.trans e));refine w_4 ?_
     exact hx8 rfl rfl rfl (⟨ccb (qk (i:=i) b5h b5y (by simp_all [dig] <;> omega)).symm,trivial⟩)
    have h6:=tz2 r6;(iterate 4 refine qy ?_ (hg:=(gff r6)));refine qy ?_ (hg:=(gtt r5));refine w_2 ?_;refine aj _ rfl (fun r7=>?_) (fun r7=>?_)
    · have h7:=tz1 (ao r6 (b4 r5 r7));refine v_4 ?_;exact ⟨ccb (qk (i:=i) b5h b5y (by simp_all [dig] <;> omega)).symm,trivial⟩
    have h7:=tz2 (ao r6 (b4 r5 r7));refine w_6 ?_;refine lpz (i + 1) kk ?_;exact ⟨by omega,ax hI (by simp_all [dig] <;> omega)⟩
   have h5:=eg r5;(iterate 5 refine k9 (gft r5) ?_);(iterate 4 refine k9 rfl ?_);refine k9 (gft r5) ?_;refine w_9 ?_;refine lpz (i + 1) kk ?_
   exact ⟨by omega,ax hI (by simp_all [dig] <;> omega)⟩
  refine c6 ?_;refine ⟨(), ?_, ?_⟩
  · exact ajh b5h b5h b5y b5y (fun j hj=>hI j b5h)
  exact ⟨trivial,trivial⟩
 rintro _ hj;refine v_4 ?_;exact ⟨ccb hj.symm,trivial⟩
def auc (l:List ByteArray) (s:ByteArray):aa b65 115 [pP (ve l),pS s] (af [pI (lq l s)]):=by
 refine hpx (nt:=19) Tryz.func115 ?_;refine df 0 rfl (fun hn=>?_);refine w_4 ?_;refine c5 (ι:=Unit) kn km (fun _i=>⟨[],[]⟩) (fun _i=>lq l s = -1) ?_ ?_
 ·
  refine w_5 ?_;refine ai (ι:=Nat) (ka 0 (ka 1 kn)) km (fun i=>⟨[(5,some (vI i))],[]⟩) (fun i=>i <= l.length /\ ∀ j,j < i -> decide (l.getD j default = s) = false) (fun i=>l.length - i) (0) (⟨b2n _,bh⟩) kk ?_;rintro i ⟨hi,hI⟩;refine w_8 ?_;refine hcd (fun h0=>?_) (fun h0=>?_)
  ·
   refine su ?_;refine hcd (fun h1=>?_) (fun h1=>?_)
   · refine v_5 ?_;exact ⟨cci (a0k (p:=fun x=>decide (x = s)) (i:=i) b5h hI (decide_eq_true h1)).symm,trivial⟩
   refine w_6 ?_;refine lpz (i + 1) kk ?_;exact ⟨by omega,ax hI (decide_eq_false h1)⟩
  refine c6 ?_;refine ⟨(), ?_, ?_⟩
  · exact a0w (p:=fun x=>decide (x = s)) fun j hj=>hI j b5h
  exact ⟨trivial,trivial⟩
 rintro _ hj;refine v_4 ?_;exact ⟨cci hj.symm,trivial⟩
def ay0 (l:List ByteArray):aa b65 110 [pP (ve l)] (af [pB (rz l)]):=by
 refine hpx (nt:=27) Tryz.func110 ?_;refine df 0 rfl (fun hn=>?_);refine w_4 ?_;refine c5 (ι:=Unit) kn km (fun _i=>⟨[],[]⟩) (fun _i=>rz l = true) ?_ ?_
 ·
  refine w_5 ?_;refine ai (ι:=Nat) (ka 0 kn) km (fun i=>⟨[(3,some (vI i))],[]⟩) (fun i=>i <= l.length /\ ∀ j,j < i -> kj l j = true) (fun i=>l.length - i) (0) (⟨b2n _,bh⟩) kk ?_;rintro i ⟨hi,hI⟩;refine w_8 ?_;refine hcd (fun h0=>?_) (fun h0=>?_)
  ·
   refine w_9 ?_;refine qcx (wgx Tryz.func109) (avr _) ?_;refine w_2 ?_;refine ab rfl rfl (fun r1=>?_) (fun r1=>?_)
   ·
    have h1:=ec r1;(iterate 9 refine k9 (gtf r1) ?_);refine w_8 ?_
    exact hx8 rfl rfl rfl (⟨ccb (k7 (i:=i) b5h (by first | (unfold kj;simp_all;done) | (unfold kj;rw [b4p];right;exact decide_eq_false b5h))).symm,trivial⟩)
   have h1:=eg r1;(iterate 7 refine qy ?_ (hg:=(gff r1)));refine rc rfl rfl rfl rfl rfl rfl (wgx Tryz.func115) (auc (l.take i) (l.getD i default)) (⟨CoC.one (a0t (k:=i) b5h),CoC.refl _,trivial⟩) rfl (gff r1) ?_
   refine qy ?_ (hg:=(gff r1));refine w_3 ?_;refine aj _ rfl (fun r2=>?_) (fun r2=>?_)
   · have h2:=tz1 (ao r1 r2);refine v_4 ?_;exact ⟨ccb (k7 (i:=i) b5h (by first | (unfold kj;simp_all;done) | (unfold kj;rw [b4p];right;exact decide_eq_false b5h))).symm,trivial⟩
   have h2:=tz2 (ao r1 r2);refine w_6 ?_;refine lpz (i + 1) kk ?_;exact ⟨by omega,ax hI (by simp only [kj,b2p,decide_eq_true_eq];exact ⟨by assumption,by omega⟩)⟩
  refine c6 ?_;refine ⟨(), ?_, ?_⟩
  · exact qa fun j hj=>hI j b5h
  exact ⟨trivial,trivial⟩
 rintro _ hj;refine v_4 ?_;exact ⟨ccb hj.symm,trivial⟩
def av4 (s:ByteArray):aa b65 97 [pS s] (af [pB (fz s)]):=by
 refine hpx (nt:=58) Tryz.func97 ?_;refine dy ?_;refine ab rfl rfl (fun r0=>?_) (fun r0=>?_)
 ·
  have h0:=tz1 r0;(iterate 3 refine k9 (gtf r0) ?_);refine w_2 ?_;(iterate 2 refine k9 rfl ?_);refine w_7 ?_
  exact hx8 rfl rfl rfl (⟨ccb (by first | exact (ot (tf.2 b5y)).symm | exact (mz b5h).symm | exact (l4 b5y).symm),trivial⟩)
 have h0:=tz2 r0;(iterate 3 refine qy ?_ (hg:=(gff r0)));refine w_2 ?_;refine ab rfl rfl (fun r1=>?_) (fun r1=>?_)
 ·
  have h1:=tz1 (ao r0 r1);(iterate 2 refine k9 (gtf r1) ?_);refine w_7 ?_
  exact hx8 rfl rfl rfl (⟨ccb (by first | exact (ot (tf.2 b5y)).symm | exact (mz b5h).symm | exact (l4 b5y).symm),trivial⟩)
 have h1:=tz2 (ao r0 r1);(iterate 2 refine qy ?_ (hg:=(gff r1)));refine w_2 ?_;refine aj _ rfl (fun r2=>?_) (fun r2=>?_)
 · have h2:=tz1 (ao r1 r2);refine v_4 ?_;exact ⟨ccb (by first | exact (ot (tf.2 b5y)).symm | exact (mz b5h).symm | exact (l4 b5y).symm),trivial⟩
 have h2:=tz2 (ao r1 r2);refine ek ?_;refine c5 (ι:=Unit) kn km (fun _i=>⟨[],[]⟩) (fun _i=>fz s = true) ?_ ?_
 ·
  refine w_7 ?_;refine ai (ι:=Nat) (ka 0 (ka 18 kn)) km (fun i=>⟨[(19,some (vI i))],[]⟩) (fun i=>i <= s.size /\ (∀ j,j < i -> (ltr (bn s j) || dig (bn s j)) = true) /\ (0 < i -> ltr (bn s 0) = true)) (fun i=>s.size - i) (0) (⟨b2n _,bh,fun h=>by omega⟩) kk ?_;rintro i ⟨hi,hI,hz⟩;refine w_5 ?_;refine hcd (fun h3=>?_) (fun h3=>?_)
  ·
   refine tk ?_;refine aov (ka 0 (ka 3 (ka 4 (ka 18 (ka 19 kn))))) km ⟨[(5,some (vB (ltr (bn s i))))],[]⟩ ?_ ?_
   ·
    refine w_4 ?_;refine ab rfl rfl (fun r4=>?_) (fun r4=>?_)
    ·
     have h4:=tz1 r4;(iterate 2 refine qy ?_ (hg:=(gtt r4)));refine w_2 ?_;refine ab rfl rfl (fun r5=>?_) (fun r5=>?_)
     ·
      have h5:=tz1 (b4 r4 r5);(iterate 3 refine k9 (gtf r5) ?_);(iterate 2 refine k9 rfl ?_);refine k9 (gtf r5) ?_;refine w_2 ?_;(iterate 2 refine k9 rfl ?_);refine w_3 ?_
      exact ⟨⟨⟨_,rfl,(cob (by simp [ltr, *]))⟩,tt⟩,trivial⟩
     have h5:=tz2 (b4 r4 r5);(iterate 3 refine qy ?_ (hg:=(gff r5)));refine ab rfl rfl (fun r6=>?_) (fun r6=>?_)
     ·
      have h6:=tz1 r6;(iterate 2 refine qy ?_ (hg:=(gtt r6)));refine qy ?_ (hg:=(gff r5));refine w_2 ?_;refine ab rfl rfl (fun r7=>?_) (fun r7=>?_)
      ·
       have h7:=tz1 (b4 r6 (ao r5 r7));(iterate 2 refine k9 (gtf r7) ?_);refine w_3 ?_
       exact ⟨⟨⟨_,rfl,(cob (by simp [ltr, *]))⟩,tt⟩,trivial⟩
      have h7:=tz2 (b4 r6 (ao r5 r7));(iterate 2 refine qy ?_ (hg:=(gff r7)));refine w_3 ?_
      exact ⟨⟨⟨_,rfl,(cob (by simp [ltr, *]))⟩,tt⟩,trivial⟩
     have h6:=tz2 r6;(iterate 2 refine k9 (gft r6) ?_);refine rq rfl rfl rfl rfl (gff r5) ?_ (hp:=r6);refine w_2 ?_;(iterate 2 refine rq rfl rfl rfl rfl (gff (ta r5 rfl)) ?_);refine w_3 ?_
     exact ⟨⟨⟨_,rfl,(cob (by simp [ltr, *]))⟩,tt⟩,trivial⟩
    have h4:=tz2 r4;(iterate 2 refine k9 (gft r4) ?_);refine w_5 ?_;refine ab rfl rfl (fun r8=>?_) (fun r8=>?_)
    ·
     have h8:=tz1 r8;(iterate 2 refine qy ?_ (hg:=(gtt r8)));refine w_3 ?_;refine ab rfl rfl (fun r9=>?_) (fun r9=>?_)
     ·
      have h9:=tz1 (b4 r8 r9);(iterate 2 refine k9 (gtf r9) ?_);refine w_3 ?_
      exact ⟨⟨⟨_,rfl,(cob (by simp [ltr, *]))⟩,tt⟩,trivial⟩
     have h9:=tz2 (b4 r8 r9);(iterate 2 refine qy ?_ (hg:=(gff r9)));refine w_3 ?_
     exact ⟨⟨⟨_,rfl,(cob (by simp [ltr, *]))⟩,tt⟩,trivial⟩
    have h8:=tz2 r8;(iterate 2 refine k9 (gft r8) ?_);refine w_3 ?_;(iterate 2 refine rq rfl rfl rfl rfl (gff (ta rfl rfl)) ?_);refine w_3 ?_
    exact ⟨⟨⟨_,rfl,(cob (by simp [ltr, *]))⟩,tt⟩,trivial⟩
   refine w_5 ?_;refine ab rfl rfl (fun r10=>?_) (fun r10=>?_)
   ·
    have h10:=ec r10;(iterate 3 refine qy ?_ (hg:=(gtt r10)));refine ab rfl rfl (fun r11=>?_) (fun r11=>?_)
    ·
     have h11:=tz1 r11;(iterate 2 refine k9 (gtf r11) ?_);refine rq rfl rfl rfl rfl (gtt r10) ?_ (hp:=r11);refine qy ?_ (hg:=(gtt r10));(iterate 2 refine k9 rfl ?_);refine qy ?_ (hg:=(gtt r10));refine w_2 ?_
     refine aj _ rfl (fun _=>?_) (fun e=>Bool.noConfusion ((wv r10 rfl).symm.trans e));refine v_4 ?_;exact ⟨ccb (by first | exact (yh (i:=i) b5y b5y).symm | exact (qk (i:=i) b5h b5y (by simp [dig, *] <;> omega)).symm),trivial⟩
    have h11:=tz2 r11;(iterate 2 refine qy ?_ (hg:=(gff r11)));(iterate 2 refine qy ?_ (hg:=(gtt r10)));refine ab rfl rfl (fun r12=>?_) (fun r12=>?_)
    ·
     have h12:=tz1 (ao r11 r12);(iterate 2 refine k9 (gtf r12) ?_);refine rq rfl rfl rfl rfl (gtt r10) ?_ (hp:=r12);refine w_2 ?_;refine aj _ rfl (fun _=>?_) (fun e=>Bool.noConfusion ((wv r10 rfl).symm.trans e));refine w_4 ?_
     exact hx8 rfl rfl rfl (⟨ccb (by first | exact (yh (i:=i) b5y b5y).symm | exact (qk (i:=i) b5h b5y (by simp [dig, *] <;> omega)).symm),trivial⟩)
    have h12:=tz2 (ao r11 r12);(iterate 2 refine qy ?_ (hg:=(gff r12)));refine qy ?_ (hg:=(gtt r10));refine w_2 ?_;refine aj _ rfl (fun r13=>?_) (fun r13=>?_)
    · have h13:=tz1 (ao r12 (b4 r10 r13));refine v_4 ?_;exact ⟨ccb (by first | exact (yh (i:=i) b5y b5y).symm | exact (qk (i:=i) b5h b5y (by simp [dig, *] <;> omega)).symm),trivial⟩
    have h13:=tz2 (ao r12 (b4 r10 r13));refine w_5 ?_;refine lpz (i + 1) kk ?_;exact ⟨by omega,ax hI (by simp_all [dig] <;> omega),fun _=>ast hz (fun e=>by first | assumption | (exfalso;omega))⟩
   have h10:=eg r10;(iterate 3 refine k9 (gft r10) ?_);(iterate 2 refine k9 rfl ?_);(iterate 2 refine k9 (gft r10) ?_);(iterate 2 refine k9 rfl ?_);refine k9 (gft r10) ?_;refine w_8 ?_;refine lpz (i + 1) kk ?_
   exact ⟨by omega,ax hI (by simp_all [dig] <;> omega),fun _=>ast hz (fun e=>by first | assumption | (exfalso;omega))⟩
  refine c6 ?_;refine ⟨(), ?_, ?_⟩
  · exact ajh (fun e=>absurd ((tf (s:=s)).1 e) b5y) b5h (hz (Nat.pos_of_ne_zero (fun e=>absurd ((tf (s:=s)).1 b5h) b5y))) b5y (fun j hj=>hI j b5h)
  exact ⟨trivial,trivial⟩
 rintro _ hj;refine v_4 ?_;exact ⟨ccb hj.symm,trivial⟩
def ayr (l:List ByteArray) (s:ByteArray):aa b65 138 [pP (ve l),pS s] (af [pI (lq l s)]):=by
 refine hpx (nt:=19) Tryz.func138 ?_;refine df 0 rfl (fun hn=>?_);refine w_4 ?_;refine c5 (ι:=Unit) kn km (fun _i=>⟨[],[]⟩) (fun _i=>lq l s = -1) ?_ ?_
 ·
  refine w_7 ?_;refine ai (ι:=Nat) (ka 0 (ka 1 (ka 7 kn))) km (fun i=>⟨[(8,some (vI i))],[]⟩) (fun i=>i <= l.length /\ ∀ j,j < i -> decide (l.getD j default = s) = false) (fun i=>l.length - i) (0) (⟨b2n _,bh⟩) kk ?_;rintro i ⟨hi,hI⟩;refine w_5 ?_;refine hcd (fun h0=>?_) (fun h0=>?_)
  ·
   refine v2 ?_;refine hcd (fun h1=>?_) (fun h1=>?_)
   · refine v_5 ?_;exact ⟨cci (a0k (p:=fun x=>decide (x = s)) (i:=i) b5h hI (decide_eq_true h1.symm)).symm,trivial⟩
   refine w_5 ?_;refine lpz (i + 1) kk ?_;exact ⟨by omega,ax hI (decide_eq_false fun e=>h1 e.symm)⟩
  refine c6 ?_;refine ⟨(), ?_, ?_⟩
  · exact a0w (p:=fun x=>decide (x = s)) fun j hj=>hI j b5h
  exact ⟨trivial,trivial⟩
 rintro _ hj;refine v_4 ?_;exact ⟨cci hj.symm,trivial⟩
def ayq (l:List ByteArray) (s:ByteArray):aa b65 98 [pP (ve l),pS s] (af [pB (decide (0 <= lq l s))]):=by
 refine hpx (nt:=9) Tryz.func98 ?_;refine w_8 ?_;refine qcx (wgx Tryz.func138) (ayr _ _) ?_;refine v_3 ?_;exact CoL.refl _
def ayv (l:List Val) (g k:Nat) (caps:Nat -> PV) (V:Val -> Bool) (hg:goodFn b65 g) (hV:∀ i,i < l.length -> aa b65 g ((l.getD i default).pc :: lz caps k 0) (af [pB (V (l.getD i default))])):aa b65 167 [pP (vals l),pP (.fn g k caps)] (af [pI (idx V l)]):=by
 refine hpx (nt:=19) Tryz.func167 ?_;refine df 0 rfl (fun hn=>?_);refine w_4 ?_;refine c5 (ι:=Unit) kn km (fun _i=>⟨[],[]⟩) (fun _i=>idx V l = -1) ?_ ?_
 ·
  refine w_7 ?_;refine ai (ι:=Nat) (ka 0 (ka 1 (ka 7 kn))) km (fun i=>⟨[(8,some (vI i))],[]⟩) (fun i=>i <= l.length /\ ∀ j,j < i -> V (l.getD j default) = false) (fun i=>l.length - i) (0) (⟨b2n _,bh⟩) kk ?_;rintro i ⟨hi,hI⟩;refine w_5 ?_;refine hcd (fun h0=>?_) (fun h0=>?_)
  ·
   refine tk ?_;refine rc rfl rfl rfl rfl rfl rfl hg (hV i b5h) (CoL.refl _) rfl rfl ?_;refine cg ?_;refine hcb (fun h1=>?_) (fun h1=>?_)
   · refine v_5 ?_;exact ⟨cci (a0k (i:=i) b5h hI h1).symm,trivial⟩
   refine w_5 ?_;refine lpz (i + 1) kk ?_;exact ⟨by omega,ax hI (h1)⟩
  refine c6 ?_;refine ⟨(), ?_, ?_⟩
  · exact a0w fun j hj=>hI j b5h
  exact ⟨trivial,trivial⟩
 rintro _ hj;refine v_4 ?_;exact ⟨cci hj.symm,trivial⟩
def az3 (l:List Val) (g k:Nat) (caps:Nat -> PV) (V:Val -> Bool) (hg:goodFn b65 g) (hV:∀ i,i < l.length -> aa b65 g ((l.getD i default).pc :: lz caps k 0) (af [pB (V (l.getD i default))])):aa b65 139 [pP (vals l),pP (.fn g k caps)] (af [pB (l.any V)]):=by
 refine hpx (nt:=9) Tryz.func139 ?_;refine w_8 ?_;refine qcx (wgx Tryz.func167) (ayv l g k caps V hg hV) ?_;refine v_3 ?_;exact ⟨ccb afg,trivial⟩
def azb (v:Val):aa b65 140 [v.pc] (af [pB (!bp v)]):=by
 refine hpx (nt:=6) Tryz.func140 ?_;refine sx7 ?_;refine m9 0 ?_;refine w_5 ?_;refine qcx (wgx Tryz.func141) (c76 _) ?_;refine v_3 ?_;exact CoL.refl _
def c93 (l:List Val):aa b65 99 [pP (vals l)] (af [pB (l.all bp)]):=by
 refine hpx (nt:=6) Tryz.func99 ?_;refine w_7 ?_;refine qcx (wgx Tryz.func139) (az3 l 140 0 (fun _=>.any) (fun v=>!bp v) (wgx Tryz.func140) (fun i _=>azb _)) ?_;refine v_3 ?_;exact ⟨ccb adi,trivial⟩
end
section
open Go.Proofs
abbrev vpL (ps:List PV):PV:=.vp ps.length fun j=>ps.getD j .any
def rE {n:Nat} {l:List Row} {i:Nat} {b e:Int} (hi:i < l.length) (h:d5 n b (l.drop i) = e):(if (l.getD i default).id <= b then 1 else if (l.getD i default).vals.length ≠ n then 6 else if ((l.getD i default).vals.all bp) = false then 1 else d5 n (l.getD i default).id (l.drop (i + 1))) = e:=by rw [<- ab6 hi];exact h
def tE {t:Tbl} {e:Int} (h0:fz t.name = true) (h1:¬ 16 < t.attrs.length) (h2:¬ 1000 < t.rows.length) (h3:rz t.attrs = true) (h:d5 t.attrs.length 0 t.rows = e):bd t = e:=by
 have:¬ (16 < t.attrs.length \/ 1000 < t.rows.length):=by omega
 simp [bd,h0,h3,h,this]
def tE1 {t:Tbl} (h0:fz t.name = false):bd t = 1:=by simp [bd,h0]
def tE3 {t:Tbl} (h0:fz t.name = true) (h1:16 < t.attrs.length \/ 1000 < t.rows.length):bd t = 3:=by simp [bd,h0,h1]
def tE2 {t:Tbl} (h0:fz t.name = true) (h1:¬ 16 < t.attrs.length) (h2:¬ 1000 < t.rows.length) (h3:rz t.attrs = false):bd t = 1:=by
 have:¬ (16 < t.attrs.length \/ 1000 < t.rows.length):=by omega
 simp [bd,h0,h3,this]
def a5c:goodFn b65 70:=wgx Tryz.func70
def c82 (t:Tbl):aa b65 70 [t.pc] (af [pI (bd t)]):=by
 refine hpx (nt:=53) Tryz.func70 ?_;refine sx7 ?_;refine m9 0 ?_;refine w_7 ?_;refine qcx (wgx Tryz.func109) (avr _) ?_;refine w_2 ?_;refine hcv (fun h0=>?_) (fun h0=>?_)
 · refine v_4 ?_;exact ⟨cci (tE1 b5y).symm,trivial⟩
 refine w_9 ?_;refine ab rfl rfl (fun r1=>?_) (fun r1=>?_)
 ·
  have h1:=tz1 r1;(iterate 4 refine k9 (gtf r1) ?_);refine w_7 ?_
  exact hx8 rfl rfl rfl (⟨cci (tE3 b5y b5h).symm,trivial⟩)
 have h1:=tz2 r1;(iterate 4 refine qy ?_ (hg:=(gff r1)));refine w_2 ?_;refine aj _ rfl (fun r2=>?_) (fun r2=>?_)
 · have h2:=tz1 (ao r1 r2);refine v_4 ?_;exact ⟨cci (tE3 b5y b5h).symm,trivial⟩
 have h2:=tz2 (ao r1 r2);refine w_6 ?_;refine qcx (wgx Tryz.func110) (ay0 _) ?_;refine w_2 ?_;refine hcv (fun h3=>?_) (fun h3=>?_)
 · refine v_4 ?_;exact ⟨cci (tE2 b5y b5h b5h b5y).symm,trivial⟩
 refine w_5 ?_;refine c5 (ι:=Unit) kn km (fun _i=>⟨[],[]⟩) (fun _i=>d5 t.attrs.length 0 t.rows = 0) ?_ ?_
 ·
  refine w_5 ?_;refine ai (ι:=(Nat × Int)) (ka 1 kn) (kb 0 km) (fun x=>⟨[(3,some (vI x.2)),(4,some (vI x.1))],[]⟩) (fun x=>x.1 <= t.rows.length /\ d5 t.attrs.length x.2 (t.rows.drop x.1) = d5 t.attrs.length 0 t.rows) (fun x=>t.rows.length - x.1) ((0,0)) (⟨b2n _,rfl⟩) kk ?_;rintro ⟨i,b⟩ ⟨hi,hI⟩;dsimp only at hi hI ⊢;refine w_9 ?_;refine hcd (fun h4=>?_) (fun h4=>?_)
  ·
   refine dy ?_;refine m9 1 ?_;refine dy ?_;refine hcd (fun h5=>?_) (fun h5=>?_)
   · refine w_4 ?_;refine hrr ?_;have hs:=rE b5h hI;rw [if_pos b5h] at hs;exact f9 rfl rfl (⟨cci (tE b5y b5h b5h b5y hs.symm).symm,trivial⟩)
   refine av7 ?_;refine hcn (fun h6=>?_) (fun h6=>?_)
   · refine w_4 ?_;refine hrr ?_;have hs:=rE b5h hI;rw [if_neg b5h,if_pos b5h] at hs;exact f9 rfl rfl (⟨cci (tE b5y b5h b5h b5y hs.symm).symm,trivial⟩)
   refine w_5 ?_;refine qcx (wgx Tryz.func111) (c83 _) ?_;refine w_2 ?_;refine hcv (fun h7=>?_) (fun h7=>?_)
   · refine w_4 ?_;refine hrr ?_;have hs:=rE b5h hI;rw [if_neg b5h,if_neg b5h,if_pos b5y] at hs;exact f9 rfl rfl (⟨cci (tE b5y b5h b5h b5y hs.symm).symm,trivial⟩)
   refine w_6 ?_;refine lpz (i + 1,(t.rows.getD i default).id) kk ?_;refine ⟨by dsimp only;omega, ?_⟩;have hs:=rE b5h hI;rw [if_neg b5h,if_neg b5h,if_neg (fun e=>Bool.noConfusion (e.symm.trans (show _ = true by assumption)))] at hs;exact hs
  refine c6 ?_;refine ⟨(), ?_, ?_⟩
  · rw [<- hI,b4v b5h];rfl
  exact ⟨trivial,trivial⟩
 rintro _ hj;refine v_4 ?_;exact ⟨cci (tE b5y b5h b5h b5y hj).symm,trivial⟩
def c88 (t:Tbl):aa b65 61 [t.pc] (af [pI (bd t)]):=by
 refine hpx (nt:=70) Tryz.func61 ?_;refine sx7 ?_;refine m9 0 ?_;refine w_7 ?_;refine qcx (wgx Tryz.func97) (av4 _) ?_;refine w_2 ?_;refine hcv (fun h0=>?_) (fun h0=>?_)
 · refine v_4 ?_;exact ⟨cci (tE1 b5y).symm,trivial⟩
 refine w_9 ?_;refine ab rfl rfl (fun r1=>?_) (fun r1=>?_)
 ·
  have h1:=tz1 r1;(iterate 4 refine k9 (gtf r1) ?_);refine w_7 ?_
  exact hx8 rfl rfl rfl (⟨cci (tE3 b5y b5h).symm,trivial⟩)
 have h1:=tz2 r1;(iterate 4 refine qy ?_ (hg:=(gff r1)));refine w_2 ?_;refine aj _ rfl (fun r2=>?_) (fun r2=>?_)
 · have h2:=tz1 (ao r1 r2);refine v_4 ?_;exact ⟨cci (tE3 b5y b5h).symm,trivial⟩
 have h2:=tz2 (ao r1 r2);refine ek ?_;refine c5 (ι:=Unit) (ka 1 kn) (kb 0 km) (fun _i=>⟨[],[]⟩) (fun _i=>rz t.attrs = true) ?_ ?_
 ·
  refine w_8 ?_;refine ai (ι:=Nat) (ka 1 (ka 23 (ka 24 kn))) (kb 0 km) (fun i=>⟨[(25,some (vI i))],[]⟩) (fun i=>i <= t.attrs.length /\ ∀ j,j < i -> kj t.attrs j = true) (fun i=>t.attrs.length - i) (0) (⟨b2n _,bh⟩) kk ?_;rintro i ⟨hi,hI⟩;refine w_5 ?_;refine hcd (fun h3=>?_) (fun h3=>?_)
  ·
   refine z7 ?_;refine qcx (wgx Tryz.func97) (av4 _) ?_;refine w_2 ?_;refine ab rfl rfl (fun r4=>?_) (fun r4=>?_)
   ·
    have h4:=ec r4;(iterate 6 refine k9 (gtf r4) ?_);refine w_7 ?_
    exact hx8 rfl rfl rfl (⟨cci (tE2 b5y b5h b5h (k7 (i:=i) b5h (by first | (unfold kj;simp_all;done) | (unfold kj;rw [b4p];right;exact decide_eq_false b5h)))).symm,trivial⟩)
   have h4:=eg r4;(iterate 5 refine qy ?_ (hg:=(gff r4)));refine rc rfl rfl rfl rfl rfl rfl (wgx Tryz.func98) (ayq (t.attrs.take i) (t.attrs.getD i default)) (⟨CoC.one (a0t (k:=i) b5h),CoC.refl _,trivial⟩) rfl (gff r4) ?_;refine w_2 ?_
   refine aj _ rfl (fun r5=>?_) (fun r5=>?_)
   · have h5:=ao r4 r5;refine v_4 ?_;exact ⟨cci (tE2 b5y b5h b5h (k7 (i:=i) b5h (by first | (unfold kj;simp_all;done) | (unfold kj;rw [b4p];right;exact decide_eq_false b5h)))).symm,trivial⟩
   have h5:=ao r4 r5;have hM:=at1 h5;refine w_5 ?_;refine lpz (i + 1) kk ?_;exact ⟨by omega,ax hI (by simp only [kj,b2p,decide_eq_true_eq];exact ⟨by assumption,by simp_all⟩)⟩
  refine c6 ?_;refine ⟨(), ?_, ?_⟩
  · exact qa fun j hj=>hI j b5h
  exact kk
 rintro _ hnm;refine w_4 ?_;refine c5 (ι:=Unit) kn km (fun _i=>⟨[],[]⟩) (fun _i=>d5 t.attrs.length 0 t.rows = 0) ?_ ?_
 ·
  refine w_8 ?_;refine ai (ι:=(Nat × Int)) (ka 1 (ka 43 (ka 44 kn))) (kb 0 km) (fun x=>⟨[(5,some (vI x.2)),(45,some (vI x.1))],[]⟩) (fun x=>x.1 <= t.rows.length /\ d5 t.attrs.length x.2 (t.rows.drop x.1) = d5 t.attrs.length 0 t.rows) (fun x=>t.rows.length - x.1) ((0,0)) (⟨b2n _,rfl⟩) kk ?_;rintro ⟨i,b⟩ ⟨hi,hI⟩;dsimp only at hi hI ⊢;refine w_5 ?_;refine hcd (fun h6=>?_) (fun h6=>?_)
  ·
   refine w_7 ?_;refine m9 1 ?_;refine su ?_;refine hcd (fun h7=>?_) (fun h7=>?_)
   · refine w_4 ?_;refine hrr ?_;have hs:=rE b5h hI;rw [if_pos b5h] at hs;exact f9 rfl rfl (⟨cci (tE b5y b5h b5h b5y hs.symm).symm,trivial⟩)
   refine j5 ?_;refine hcn (fun h8=>?_) (fun h8=>?_)
   · refine w_4 ?_;refine hrr ?_;have hs:=rE b5h hI;rw [if_neg b5h,if_pos b5h] at hs;exact f9 rfl rfl (⟨cci (tE b5y b5h b5h b5y hs.symm).symm,trivial⟩)
   refine w_4 ?_;refine qcx (wgx Tryz.func99) (c93 _) ?_;refine w_3 ?_;refine hcv (fun h9=>?_) (fun h9=>?_)
   · refine w_4 ?_;refine hrr ?_;have hs:=rE b5h hI;rw [if_neg b5h,if_neg b5h,if_pos b5y] at hs;exact f9 rfl rfl (⟨cci (tE b5y b5h b5h b5y hs.symm).symm,trivial⟩)
   refine dy ?_;refine lpz (i + 1,(t.rows.getD i default).id) kk ?_;refine ⟨by dsimp only;omega, ?_⟩;have hs:=rE b5h hI;rw [if_neg b5h,if_neg b5h,if_neg (fun e=>Bool.noConfusion (e.symm.trans (show _ = true by assumption)))] at hs;exact hs
  refine c6 ?_;refine ⟨(), ?_, ?_⟩
  · rw [<- hI,b4v b5h];rfl
  exact ⟨trivial,trivial⟩
 rintro _ hj;refine v_4 ?_;exact ⟨cci (tE b5y b5h b5h b5y hj).symm,trivial⟩
end
section
open Go.Proofs
def aq5 (n:Nat) (c:Bool) (f:Nat -> Nat -> PV) (hn:n <= 8796093022208) :
 ci b65 67 [.one (.p (.sl n 1 c f))] [] (.v (.one (.ref 0 n))) [(0, .arr true 1 9 n f)] []:=by
 refine hfx (nt:=8) Tryz.func67 ?_;refine sx7 ?_;refine bi true rfl rfl rfl rfl rfl trivial ?_;refine cg ?_;refine vv (ι:=Bool) (fun c=>⟨[(0,some (az (.sl n 1 c f)))],[]⟩) (fun _=>True) ?_ fun c _=>?_
 · rcases b3t n with hz | h0
   · subst hz
     refine hw_exact' 0 rfl fun ad cap hcap=>?_;refine sx7 ?_;(iterate 2 refine bi true rfl rfl rfl rfl rfl trivial ?_);refine cg ?_;refine aj ad.isNone rfl (fun hc=>?_) (fun hc=>?_)
     · refine sx7 ?_
       refine bi true rfl rfl rfl rfl rfl trivial ?_;refine cg ?_;refine gn 2 0 true 1 9 f b5n rfl (CoP.sl rfl (.inr rfl) (fun h=>h) fun i j hi _=>absurd hi (b2o i)) (.inr rfl) rfl ?_;refine hrr ?_;exact ⟨_,_,rfl,trivial,CoR.refl _,uu⟩
     refine ek ?_;exact ⟨false,trivial,⟨⟨_,rfl,CoP.raw_sl hcap⟩,trivial⟩,trivial⟩
   refine sx7 ?_;refine bi true rfl rfl rfl rfl rfl trivial ?_;refine bi true rfl rfl rfl rfl rfl h0 ?_;refine cg ?_;refine aj false rfl (fun hc=>by cases hc) (fun hc=>?_);refine ek ?_;exact ⟨c,trivial,tt,trivial⟩
 refine sx7 ?_;refine sc 0 rfl rfl rfl rfl rfl rfl trivial ?_;refine bi true rfl rfl rfl rfl rfl trivial ?_;refine w9 0 true rfl rfl rfl rfl rfl rfl ⟨trivial,rfl,rfl,rfl, .inl rfl,by show 0 + n <= 9223372036854775807;omega,by show (0 + n) * 16 <= 140737488355328;omega,fun _=>.inl rfl⟩ ?_;refine bi true rfl rfl rfl rfl rfl trivial ?_;refine cg ?_;refine hrr ?_;refine ⟨_,_,rfl,trivial,CoR.of_eq (by show HR.v (.one (.ref 0 (0 + n))) = _;rw [b30]),⟨⟨_,rfl, ?_⟩,trivial⟩⟩;exact ⟨fun h=>h,rfl,rfl,(b30 n).symm,fun i j _ _=>CoP.of_eq (by simp [d8])⟩
def anh (n:Nat) (c:Bool) (f:Nat -> Nat -> PV) (hn:n <= 8796093022208):aa b65 67 [.one (.sl n 1 c f)] (.v (.one (.sl n 1 false f))) :=
 ci.pure (args:=[.one (.sl n 1 c f)]) (l:=[.one (.ref 0 n)]) (aq5 n c f hn) rfl ⟨rfl,trivial⟩
def c77 (l:List ByteArray) (h:l.length <= 68719476736):aa b65 67 [pP (psl 1 xr l)] (af [pP (psl 1 xr l)]):=anh l.length false (lf xr l) b5h
def aqg (n:Nat) (c:Bool) (f:Nat -> Nat -> PV) (hn:n <= 4398046511104) :
 ci b65 107 [.one (.p (.sl n 3 c f))] [] (.v (.one (.ref 0 n))) [(0, .arr true 3 114 n f)] []:=by
 refine hfx (nt:=8) Tryz.func107 ?_;refine sx7 ?_;refine bi true rfl rfl rfl rfl rfl trivial ?_;refine cg ?_;refine vv (ι:=Bool) (fun c=>⟨[(0,some (az (.sl n 3 c f)))],[]⟩) (fun _=>True) ?_ fun c _=>?_
 · rcases b3t n with hz | h0
   · subst hz
     refine hw_exact' 0 rfl fun ad cap hcap=>?_;refine sx7 ?_;(iterate 2 refine bi true rfl rfl rfl rfl rfl trivial ?_);refine cg ?_;refine aj ad.isNone rfl (fun hc=>?_) (fun hc=>?_)
     · refine sx7 ?_
       refine bi true rfl rfl rfl rfl rfl trivial ?_;refine cg ?_;refine gn 2 0 true 3 114 f b5n rfl (CoP.sl rfl (.inr rfl) (fun h=>h) fun i j hi _=>absurd hi (b2o i)) (.inr rfl) rfl ?_;refine hrr ?_;exact ⟨_,_,rfl,trivial,CoR.refl _,uu⟩
     refine ek ?_;exact ⟨false,trivial,⟨⟨_,rfl,CoP.raw_sl hcap⟩,trivial⟩,trivial⟩
   refine sx7 ?_;refine bi true rfl rfl rfl rfl rfl trivial ?_;refine bi true rfl rfl rfl rfl rfl h0 ?_;refine cg ?_;refine aj false rfl (fun hc=>by cases hc) (fun hc=>?_);refine ek ?_;exact ⟨c,trivial,tt,trivial⟩
 refine sx7 ?_;refine sc 0 rfl rfl rfl rfl rfl rfl trivial ?_;refine bi true rfl rfl rfl rfl rfl trivial ?_;refine w9 0 true rfl rfl rfl rfl rfl rfl ⟨trivial,rfl,rfl,rfl, .inl rfl,by show 0 + n <= 9223372036854775807;omega,by show (0 + n) * 32 <= 140737488355328;omega,fun _=>.inl rfl⟩ ?_;refine bi true rfl rfl rfl rfl rfl trivial ?_;refine cg ?_;refine hrr ?_;refine ⟨_,_,rfl,trivial,CoR.of_eq (by show HR.v (.one (.ref 0 (0 + n))) = _;rw [b30]),⟨⟨_,rfl, ?_⟩,trivial⟩⟩;exact ⟨fun h=>h,rfl,rfl,(b30 n).symm,fun i j _ _=>CoP.of_eq (by simp [d8])⟩
def an3 (n:Nat) (c:Bool) (f:Nat -> Nat -> PV) (hn:n <= 4398046511104):aa b65 107 [.one (.sl n 3 c f)] (.v (.one (.sl n 3 false f))) :=
 ci.pure (args:=[.one (.sl n 3 c f)]) (l:=[.one (.ref 0 n)]) (aqg n c f hn) rfl ⟨rfl,trivial⟩
def c78 (l:List Val) (h:l.length <= 68719476736):aa b65 107 [pP (psl 3 Val.c l)] (af [pP (psl 3 Val.c l)]):=an3 l.length false (lf Val.c l) b5h
def c85 (r:Row) (h:r.vals.length <= 68719476736):aa b65 114 [r.pc] (af [r.pc]):=by
 refine hpx (nt:=10) Tryz.func114 ?_;refine sx7 ?_;refine m9 0 ?_;refine m9 1 ?_;refine w_5 ?_;refine m9 2 ?_;refine w_2 ?_;refine r9 3 true ?_;refine v_4 ?_;exact ⟨CoC.agg ⟨CoP.refl _,aem,trivial⟩,trivial⟩
end
end Go.Hx

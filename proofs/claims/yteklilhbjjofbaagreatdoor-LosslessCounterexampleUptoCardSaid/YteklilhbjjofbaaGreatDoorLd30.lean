/- A part of the proof: SrC Tb1 Tb2 Tb3 Tb4 Tb5. -/
import Derived.Test.YteklilhbjjofbaaGreatDoorLd27
import Derived.Test.YteklilhbjjofbaaGreatDoorLd29
set_option linter.all false
set_option maxRecDepth 100000
set_option maxHeartbeats 1000000
namespace Go.Hx
section
open Go.Proofs Go.RowKit
def avo:∀ (a b:List UInt8),Lib.compareBytes a b = fg a b
 | [],[]=>rfl
 | [],_ :: _=>rfl
 | _ :: _,[]=>rfl
 | x :: xs,y :: ys=>by
  unfold Lib.compareBytes fg;rw [avo xs ys];by_cases h1:x < y
  · have h2:x.toNat < y.toNat:=h1
    rw [if_pos h1,if_neg (fun e=>by rw [e] at h2;omega)];unfold sgn;rw [if_pos b8i]
  have h2:¬ x.toNat < y.toNat:=h1;rw [if_neg h1];by_cases h3:y < x
  · have h4:y.toNat < x.toNat:=h3
    rw [if_pos h3,if_neg (fun e=>by rw [e] at h4;omega)];unfold sgn;rw [if_neg b8i,if_pos b8i]
  have h4:¬ y.toNat < x.toNat:=h3;rw [if_neg h3,if_pos (UInt8.toNat_inj.1 b8i)]
def asa:goodFn b98 154:=⟨Tryz.f154,Tryz.func154,by kernel_rfl,by kernel_rfl⟩
def ard (a b:ByteArray):a8 b98 154 [pS a,pS b] (ae [pI (jq a b)]):=by
 intro w imm us htab him hus
 match us,hus with
 | [u,v],⟨hu,hv,_⟩ =>
  obtain ⟨rfl,_⟩:=hu;obtain ⟨rfl,_⟩:=hv;refine (Any.bytealg_CompareString Tryz.laysCS a b w).mono ?_;rintro e w' ⟨rfl,rfl⟩;exact ⟨_,imm,rfl,⟨by rw [avo];rfl,rfl⟩,fun _ _=>rfl,him,Below.refl _ _⟩
 | [],h=>exact h.elim
 | [_],⟨_,h⟩=>exact h.elim
 | _ :: _ :: _ :: _,⟨_,_,h⟩=>exact h.elim
end
section
open Go.Proofs
def xw:goodFn b98 113:=wgx Tryz.func113
def aes (a b:Int):a8 b98 113 [pI a,pI b] (ae [pI (sgn a b)]):=by
 refine hpx (nt:=11) Tryz.func113 ?_;refine ej ?_;refine hcd (fun h0=>?_) (fun h0=>?_)
 · refine v_4 ?_;exact ⟨cci (by unfold sgn;rw [if_pos h0]),trivial⟩
 refine w_8 ?_;refine hcd (fun h1=>?_) (fun h1=>?_)
 · refine v_4 ?_;exact ⟨cci (by unfold sgn;rw [if_neg h0,if_pos h1]),trivial⟩
 refine v_5 ?_;exact ⟨cci (by unfold sgn;rw [if_neg h0,if_neg h1]),trivial⟩
def b0z (a b:ByteArray) (ha:a.size <= 68719476736) (hb:b.size <= 68719476736):a8 b98 158 [pS a,pS b] (ae [pI (jq a b)]):=by
 refine hpx (nt:=39) Tryz.func158 ?_;refine w_4 ?_;refine bt (ι:=Unit) (ka 0 (ka 1 kn)) km (fun _i=>⟨[],[]⟩) (fun _i=>jq a b = sgn a.size b.size) ?_ ?_
 ·
  refine w_5 ?_;refine af (ι:=Nat) (ka 0 (ka 1 kn)) km (fun i=>⟨[(5,some (vI i))],[]⟩) (fun i=>i <= a.size /\ i <= b.size /\ fg ((bl a).drop i) ((bl b).drop i) = jq a b) (fun i=>a.size - i) (0) (⟨b5h _,b5h _,rfl⟩) kk ?_;rintro i ⟨hi1,hi2,hc⟩;refine w_8 ?_;refine aa rfl rfl (fun r0=>?_) (fun r0=>?_)
  ·
   have h0:=tz1 r0;(iterate 4 refine qy ?_ (hg:=(gtt r0)));refine w_2 ?_;refine ag _ rfl (fun r1=>?_) (fun r1=>?_)
   ·
    have h1:=tz1 (bd r0 r1);refine v6 ?_;refine hcn (fun h2=>?_) (fun h2=>?_)
    · refine df ?_;refine qcx xw (aes _ _) ?_;refine v_3 ?_;exact ⟨cci (by rw [<- hc,a9i i _ _ (by rw [fc];omega) (by rw [fc];omega) (fun e=>h2 ((a5e _ _ _ _).2 e))];rfl),trivial⟩
    refine w_6 ?_;refine lpz (i + 1) kk ?_;exact ⟨by omega,by omega,by rw [<- hc];exact (a9f i _ _ (by rw [fc];omega) (by rw [fc];omega) ((a5e _ _ _ _).1 h2)).symm⟩
   have h1:=tz2 (bd r0 r1);refine br ?_;refine ⟨(), ?_, ?_⟩
   · rw [<- hc,<- fc,<- fc];exact a3t i _ _ (by rw [fc];omega) (by rw [fc];omega) (by rw [fc,fc];omega)
   exact kk
  have h0:=tz2 r0;(iterate 4 refine k9 (gft r0) ?_);refine w_4 ?_;refine ⟨(), ?_, ?_⟩
  · rw [<- hc,<- fc,<- fc];exact a3t i _ _ (by rw [fc];omega) (by rw [fc];omega) (by rw [fc,fc];omega)
  exact kk
 rintro _ hj;refine w_6 ?_;refine qcx xw (aes _ _) ?_;refine v_2 ?_;exact ⟨cci hj.symm,trivial⟩
def b22 (a b:Val) (ha:a.str.size <= 68719476736) (hb:b.str.size <= 68719476736):a8 b98 112 [a.pc,b.pc] (ae [pI (f5 a b)]):=by
 refine hpx (nt:=28) Tryz.func112 ?_;refine sx7 ?_;refine m9 0 ?_;refine m9 1 ?_;refine w_9 ?_;refine qcx xw (aes _ _) ?_;refine w_7 ?_;refine hcn (fun h0=>?_) (fun h0=>?_)
 · refine v_5 ?_;exact ⟨cci (by unfold f5;rw [if_pos h0]),trivial⟩
 refine w_8 ?_;refine qcx xw (aes _ _) ?_;refine w_7 ?_;refine hcn (fun h1=>?_) (fun h1=>?_)
 · refine v_5 ?_;exact ⟨cci (by unfold f5;rw [if_neg b8i,if_pos h1]),trivial⟩
 refine w_7 ?_;refine qcx (wgx Tryz.func158) (b0z a.str b.str ha hb) ?_;refine v_2 ?_;exact ⟨cci (by unfold f5;rw [if_neg b8i,if_neg b8i]),trivial⟩
end
section
open Go.Proofs
def b12 (a b:List Val) (ha:n5 a) (hb:n5 b):a8 b98 73 [pP (vals a),pP (vals b)] (ae [pI (cr a b)]):=by
 refine hpx (nt:=36) Tryz.func73 ?_;refine bv 0 rfl (fun hn=>?_);refine w_4 ?_;refine bt (ι:=Unit) (ka 0 (ka 1 kn)) km (fun _i=>⟨[],[]⟩) (fun _i=>cr a b = sgn a.length b.length) ?_ ?_
 ·
  refine w_5 ?_;refine af (ι:=Nat) (ka 0 (ka 1 kn)) km (fun i=>⟨[(5,some (vI i))],[]⟩) (fun i=>i <= a.length /\ i <= b.length /\ cr (a.drop i) (b.drop i) = cr a b) (fun i=>a.length - i) (0) (⟨b5h _,b5h _,rfl⟩) kk ?_;rintro i ⟨hi1,hi2,hc⟩;refine w_8 ?_;refine aa rfl rfl (fun r0=>?_) (fun r0=>?_)
  ·
   have h0:=tz1 r0;(iterate 4 refine qy ?_ (hg:=(gtt r0)));refine w_2 ?_;refine ag _ rfl (fun r1=>?_) (fun r1=>?_)
   ·
    have h1:=tz1 (bd r0 r1);refine m7 ?_;refine qcx (wgx Tryz.func112) (b22 _ _ (ha i b8i) (hb i b8i)) ?_;refine w_8 ?_;refine hcn (fun h2=>?_) (fun h2=>?_)
    · refine v_5 ?_;exact ⟨cci (by rw [<- hc];exact (a6z i _ _ b8i b8i h2).symm),trivial⟩
    refine w_6 ?_;refine lpz (i + 1) kk ?_;exact ⟨by omega,by omega,by rw [<- hc];exact (a5m i _ _ b8i b8i h2).symm⟩
   have h1:=tz2 (bd r0 r1);refine br ?_;refine ⟨(), ?_, ?_⟩
   · rw [<- hc];exact a09 i _ _ b8i b8i b8i
   exact kk
  have h0:=tz2 r0;(iterate 4 refine k9 (gft r0) ?_);refine w_4 ?_;refine ⟨(), ?_, ?_⟩
  · rw [<- hc];exact a09 i _ _ b8i b8i b8i
  exact kk
 rintro _ hj;refine w_6 ?_;refine qcx xw (aes _ _) ?_;refine v_2 ?_;exact ⟨cci hj.symm,trivial⟩
def acy:goodFn b98 96:=wgx Tryz.func96
def c81 (a b:List Val) (ha:n5 a) (hb:n5 b):a8 b98 96 [pP (vals a),pP (vals b)] (ae [pB (decide (a = b))]):=by
 refine hpx (nt:=9) Tryz.func96 ?_;refine w_8 ?_;refine qcx (wgx Tryz.func73) (b12 a b ha hb) ?_;refine v_3 ?_;exact ⟨ccb (decide_eq_decide.2 z8),trivial⟩
def b8q {p:Prop} (h:p:=by simp [bj, *] <;> omega):p:=h
def c86 (v:Val):a8 b98 157 [v.pc] (ae [pB (bj v)]):=by
 refine hpx (nt:=44) Tryz.func157 ?_;refine sx7 ?_;refine m9 0 ?_;refine v6 ?_;refine hcd (fun h0=>?_) (fun h0=>?_)
 ·
  refine w_6 ?_;refine aa rfl rfl (fun r1=>?_) (fun r1=>?_)
  ·
   have h1:=tz1 r1;(iterate 3 refine qy ?_ (hg:=(gtt r1)));refine w_3 ?_
   exact hx8 rfl rfl rfl (⟨ccb b8q,trivial⟩)
  have h1:=tz2 r1;(iterate 3 refine k9 (gft r1) ?_);refine w_3 ?_
  exact hx8 rfl rfl rfl (⟨ccb b8q,trivial⟩)
 refine w_5 ?_;refine hcd (fun h2=>?_) (fun h2=>?_)
 · refine v_7 ?_;exact ⟨ccb b8q,trivial⟩
 refine w_5 ?_;refine hcd (fun h3=>?_) (fun h3=>?_)
 ·
  refine w_6 ?_;refine aa rfl rfl (fun r4=>?_) (fun r4=>?_)
  ·
   have h4:=tz1 r4;(iterate 4 refine qy ?_ (hg:=(gtt r4)));refine w_3 ?_
   exact hx8 rfl rfl rfl (⟨ccb b8q,trivial⟩)
  have h4:=tz2 r4;(iterate 4 refine k9 (gft r4) ?_);refine w_3 ?_
  exact hx8 rfl rfl rfl (⟨ccb b8q,trivial⟩)
 refine w_7 ?_;refine aa rfl rfl (fun r5=>?_) (fun r5=>?_)
 ·
  have h5:=tz1 r5;(iterate 3 refine qy ?_ (hg:=(gtt r5)));refine w_2 ?_;refine aa rfl rfl (fun r6=>?_) (fun r6=>?_)
  ·
   have h6:=tz1 (bd r5 r6);(iterate 3 refine qy ?_ (hg:=(gtt r6)));refine w_3 ?_
   exact hx8 rfl rfl rfl (⟨ccb b8q,trivial⟩)
  have h6:=tz2 (bd r5 r6);(iterate 3 refine k9 (gft r6) ?_);refine w_3 ?_
  exact hx8 rfl rfl rfl (⟨ccb b8q,trivial⟩)
 have h5:=tz2 r5;(iterate 3 refine k9 (gft r5) ?_);refine w_2 ?_;(iterate 3 refine k9 rfl ?_);refine w_3 ?_
 exact hx8 rfl rfl rfl (⟨ccb b8q,trivial⟩)
def c76 (v:Val):a8 b98 141 [v.pc] (ae [pB (bj v)]):=by
 refine hpx (nt:=41) Tryz.func141 ?_;refine sx7 ?_;refine m9 0 ?_;refine v6 ?_;refine hcd (fun h0=>?_) (fun h0=>?_)
 ·
  refine w_6 ?_;refine aa rfl rfl (fun r1=>?_) (fun r1=>?_)
  ·
   have h1:=tz1 r1;(iterate 3 refine qy ?_ (hg:=(gtt r1)));refine w_3 ?_
   exact hx8 rfl rfl rfl (⟨ccb b8q,trivial⟩)
  have h1:=tz2 r1;(iterate 3 refine k9 (gft r1) ?_);refine w_3 ?_
  exact hx8 rfl rfl rfl (⟨ccb b8q,trivial⟩)
 refine w_5 ?_;refine hcd (fun h2=>?_) (fun h2=>?_)
 · refine v_7 ?_;exact ⟨ccb b8q,trivial⟩
 refine w_5 ?_;refine hcd (fun h3=>?_) (fun h3=>?_)
 ·
  refine w_6 ?_;refine aa rfl rfl (fun r4=>?_) (fun r4=>?_)
  ·
   have h4:=tz1 r4;(iterate 4 refine qy ?_ (hg:=(gtt r4)));refine w_3 ?_
   exact hx8 rfl rfl rfl (⟨ccb b8q,trivial⟩)
  have h4:=tz2 r4;(iterate 4 refine k9 (gft r4) ?_);refine w_3 ?_
  exact hx8 rfl rfl rfl (⟨ccb b8q,trivial⟩)
 refine w_5 ?_;refine hcd (fun h5=>?_) (fun h5=>?_)
 ·
  refine w_6 ?_;refine aa rfl rfl (fun r6=>?_) (fun r6=>?_)
  ·
   have h6:=tz1 r6;(iterate 3 refine qy ?_ (hg:=(gtt r6)));refine w_3 ?_
   exact hx8 rfl rfl rfl (⟨ccb b8q,trivial⟩)
  have h6:=tz2 r6;(iterate 3 refine k9 (gft r6) ?_);refine w_3 ?_
  exact hx8 rfl rfl rfl (⟨ccb b8q,trivial⟩)
 refine v_5 ?_;exact ⟨ccb b8q,trivial⟩
def c83 (l:List Val):a8 b98 111 [pP (vals l)] (ae [pB (l.all bj)]):=by
 refine hpx (nt:=16) Tryz.func111 ?_;refine bv 0 rfl (fun hn=>?_);refine w_4 ?_;refine bt (ι:=Unit) kn km (fun _i=>⟨[],[]⟩) (fun _i=>l.all bj = true) ?_ ?_
 ·
  refine w_5 ?_;refine af (ι:=Nat) (ka 0 kn) km (fun i=>⟨[(3,some (vI i))],[]⟩) (fun i=>i <= l.length /\ ∀ j,j < i -> bj (l.getD j default) = true) (fun i=>l.length - i) (0) (⟨b5h _,ar⟩) kk ?_;rintro i ⟨hi,hI⟩;refine w_8 ?_;refine hcd (fun h0=>?_) (fun h0=>?_)
  ·
   refine w_9 ?_;refine qcx (wgx Tryz.func157) (c86 _) ?_;refine w_2 ?_;refine hcv (fun h1=>?_) (fun h1=>?_)
   · refine v_4 ?_;exact ⟨ccb (s4 b8i h1).symm,trivial⟩
   refine w_6 ?_;refine lpz (i + 1) kk ?_;exact ⟨by omega,aj hI (h1)⟩
  refine br ?_;refine ⟨(), ?_, ?_⟩
  · exact w5 fun j hj=>hI j b8i
  exact ⟨trivial,trivial⟩
 rintro _ hj;refine v_4 ?_;exact ⟨ccb hj.symm,trivial⟩
def c54 (a b:Row) (ha:a.ok) (hb:b.ok):a8 b98 60 [a.pc,b.pc] (ae [pB (decide (a = b))]):=by
 refine hpx (nt:=17) Tryz.func60 ?_;refine sx7 ?_;refine m9 0 ?_;refine m9 1 ?_;refine df ?_;refine aa rfl rfl (fun r0=>?_) (fun r0=>?_)
 ·
  have h0:=tz1 r0;(iterate 4 refine qy ?_ (hg:=(gtt r0)));refine qcx acy (c81 a.vals b.vals ha.2 hb.2) ?_ (hg:=(gtt r0));refine w_3 ?_
  exact hx8 rfl rfl rfl (⟨ccb (by simp [Row.eq_iff, *]),trivial⟩)
 have h0:=tz2 r0;(iterate 5 refine k9 (gft r0) ?_);refine w_3 ?_
 exact hx8 rfl rfl rfl (⟨ccb (by simp [Row.eq_iff, *]),trivial⟩)
def c75 (a b:List ByteArray):a8 b98 59 [pP (x9 a),pP (x9 b)] (ae [pB (decide (a = b))]):=by
 refine hpx (nt:=26) Tryz.func59 ?_;refine bv 0 rfl (fun hn=>?_);refine m7 ?_;refine hcn (fun h0=>?_) (fun h0=>?_)
 · refine v_4 ?_;exact ⟨ccb (decide_eq_false (fun e=>h0 (by rw [e]))).symm,trivial⟩
 refine cz ?_;refine bt (ι:=Unit) kn km (fun _i=>⟨[],[]⟩) (fun _i=>a = b) ?_ ?_
 ·
  refine w_5 ?_;refine af (ι:=Nat) (ka 0 (ka 1 kn)) km (fun i=>⟨[(5,some (vI i))],[]⟩) (fun i=>i <= a.length /\ ∀ j,j < i -> a.getD j default = b.getD j default) (fun i=>a.length - i) (0) (⟨b5h _,ar⟩) kk ?_;rintro i ⟨hi,hI⟩;refine w_8 ?_;refine hcd (fun h1=>?_) (fun h1=>?_)
  ·
   refine nk ?_;refine hcn (fun h2=>?_) (fun h2=>?_)
   · refine v_4 ?_;exact ⟨ccb (decide_eq_false (fun e=>h2 (by subst e;rfl))).symm,trivial⟩
   refine w_6 ?_;refine lpz (i + 1) kk ?_;exact ⟨by omega,aj hI (h2)⟩
  refine br ?_;refine ⟨(), ?_, ?_⟩
  · exact jw b8i fun j hj=>hI j b8i
  exact ⟨trivial,trivial⟩
 rintro _ hj;refine v_4 ?_;exact ⟨ccb (decide_eq_true hj).symm,trivial⟩
def c47 (a b:Tbl) (ha:a.ok) (hb:b.ok):a8 b98 29 [a.pc,b.pc] (ae [pB (decide (a = b))]):=by
 refine hpx (nt:=47) Tryz.func29 ?_;refine sx7 ?_;refine m9 0 ?_;refine m9 1 ?_;refine w_4 ?_;refine aqt 0 2 rfl rfl (fun hn=>?_);refine w_7 ?_;refine aa rfl rfl (fun r0=>?_) (fun r0=>?_)
 ·
  have h0:=tz2 (d6 r0);(iterate 6 refine k9 (gtf r0) ?_);refine w_2 ?_;(iterate 7 refine k9 rfl ?_);refine w_7 ?_
  exact hx8 rfl rfl rfl (⟨ccb (decide_eq_false (fun e=>by subst e;simp_all)).symm,trivial⟩)
 have h0:=tz1 (d5 r0);(iterate 4 refine qy ?_ (hg:=(gff r0)));refine qcx (wgx Tryz.func59) (c75 _ _) ?_ (hg:=(gff r0));refine qy ?_ (hg:=(gff r0));refine w_2 ?_;refine aa rfl rfl (fun r1=>?_) (fun r1=>?_)
 ·
  have h1:=d6 (ab r0 r1);(iterate 7 refine k9 (gtf r1) ?_);refine w_7 ?_
  exact hx8 rfl rfl rfl (⟨ccb (decide_eq_false (fun e=>by subst e;simp_all)).symm,trivial⟩)
 have h1:=d5 (ab r0 r1);(iterate 7 refine qy ?_ (hg:=(gff r1)));refine w_2 ?_;refine ag _ rfl (fun r2=>?_) (fun r2=>?_)
 · have h2:=tz2 (d6 (ab r1 r2));refine v_4 ?_;exact ⟨ccb (decide_eq_false (fun e=>by subst e;simp_all)).symm,trivial⟩
 have h2:=tz1 (d5 (ab r1 r2));refine cz ?_;refine bt (ι:=Unit) kn km (fun _i=>⟨[],[]⟩) (fun _i=>a = b) ?_ ?_
 ·
  refine w_5 ?_;refine af (ι:=Nat) (ka 2 (ka 3 kn)) (kb 0 (kb 1 km)) (fun i=>⟨[(5,some (vI i))],[]⟩) (fun i=>i <= a.rows.length /\ ∀ j,j < i -> a.rows.getD j default = b.rows.getD j default) (fun i=>a.rows.length - i) (0) (⟨b5h _,ar⟩) kk ?_;rintro i ⟨hi,hI⟩;refine w_9 ?_;refine hcd (fun h3=>?_) (fun h3=>?_)
  ·
   refine pl ?_;refine qcx (wgx Tryz.func60) (c54 _ _ (ha.2.2 i b8i) (hb.2.2 i b8i)) ?_;refine w_3 ?_;refine hcv (fun h4=>?_) (fun h4=>?_)
   · have hN:=avj h4;refine v_4 ?_;exact ⟨ccb (decide_eq_false (fun e=>by subst e;simp_all)).symm,trivial⟩
   have hN:=axg h4;refine w_6 ?_;refine lpz (i + 1) kk ?_;exact ⟨by omega,aj hI (hN)⟩
  refine br ?_;refine ⟨(), ?_, ?_⟩
  · exact Tbl.eq_iff.2 ⟨by assumption,by simp_all,jw b8i fun j hj=>hI j b8i⟩
  exact ⟨trivial,trivial⟩
 rintro _ hj;refine v_4 ?_;exact ⟨ccb (decide_eq_true hj).symm,trivial⟩
end
section
open Go.Proofs
def avs (c:Int):a8 b98 156 [pU8 c] (ae [pB (ltr c)]):=by
 refine hpx (nt:=21) Tryz.func156 ?_;refine w_9 ?_;refine aa rfl rfl (fun r0=>?_) (fun r0=>?_)
 ·
  have h0:=tz1 r0;(iterate 2 refine qy ?_ (hg:=(gtt r0)));refine w_2 ?_;refine aa rfl rfl (fun r1=>?_) (fun r1=>?_)
  ·
   have h1:=tz1 (bd r0 r1);(iterate 3 refine k9 (gtf r1) ?_);(iterate 2 refine k9 rfl ?_);refine k9 (gtf r1) ?_;refine w_2 ?_;(iterate 2 refine k9 rfl ?_);refine w_3 ?_
   exact hx8 rfl rfl rfl (⟨ccb (by simp [ltr, *]),trivial⟩)
  have h1:=tz2 (bd r0 r1);(iterate 3 refine qy ?_ (hg:=(gff r1)));refine aa rfl rfl (fun r2=>?_) (fun r2=>?_)
  ·
   have h2:=tz1 r2;(iterate 2 refine qy ?_ (hg:=(gtt r2)));refine qy ?_ (hg:=(gff r1));refine w_2 ?_;refine aa rfl rfl (fun r3=>?_) (fun r3=>?_)
   ·
    have h3:=tz1 (bd r2 (ab r1 r3));(iterate 2 refine k9 (gtf r3) ?_);refine w_3 ?_
    exact hx8 rfl rfl rfl (⟨ccb (by simp [ltr, *]),trivial⟩)
   have h3:=tz2 (bd r2 (ab r1 r3));(iterate 2 refine qy ?_ (hg:=(gff r3)));refine w_3 ?_
   exact hx8 rfl rfl rfl (⟨ccb (by simp [ltr, *]),trivial⟩)
  have h2:=tz2 r2;(iterate 2 refine k9 (gft r2) ?_);refine rq rfl rfl rfl rfl (gff r1) ?_ (hp:=r2);refine w_2 ?_;(iterate 2 refine rq rfl rfl rfl rfl (gff (mz r1 rfl)) ?_);refine w_3 ?_
  exact hx8 rfl rfl rfl (⟨ccb (by simp [ltr, *]),trivial⟩)
 have h0:=tz2 r0;(iterate 2 refine k9 (gft r0) ?_);refine w_5 ?_;refine aa rfl rfl (fun r4=>?_) (fun r4=>?_)
 ·
  have h4:=tz1 r4;(iterate 2 refine qy ?_ (hg:=(gtt r4)));refine w_3 ?_;refine aa rfl rfl (fun r5=>?_) (fun r5=>?_)
  ·
   have h5:=tz1 (bd r4 r5);(iterate 2 refine k9 (gtf r5) ?_);refine w_3 ?_
   exact hx8 rfl rfl rfl (⟨ccb (by simp [ltr, *]),trivial⟩)
  have h5:=tz2 (bd r4 r5);(iterate 2 refine qy ?_ (hg:=(gff r5)));refine w_3 ?_
  exact hx8 rfl rfl rfl (⟨ccb (by simp [ltr, *]),trivial⟩)
 have h4:=tz2 r4;(iterate 2 refine k9 (gft r4) ?_);refine w_3 ?_;(iterate 2 refine rq rfl rfl rfl rfl (gff (mz rfl rfl)) ?_);refine w_3 ?_
 exact hx8 rfl rfl rfl (⟨ccb (by simp [ltr, *]),trivial⟩)
def b8z {p:Prop} (h:p:=by assumption):p:=h
def aw4 (s:ByteArray):a8 b98 109 [pS s] (ae [pB (go s)]):=by
 refine hpx (nt:=45) Tryz.func109 ?_;refine ej ?_;refine aa rfl rfl (fun r0=>?_) (fun r0=>?_)
 ·
  have h0:=tz1 r0;(iterate 3 refine k9 (gtf r0) ?_);refine w_2 ?_;(iterate 4 refine k9 rfl ?_);refine w_2 ?_;(iterate 2 refine k9 rfl ?_);refine w_7 ?_
  exact hx8 rfl rfl rfl (⟨ccb (by first | exact (qo b8i).symm | exact (nn b8i).symm | exact (uj b8z).symm | exact (lq b8z).symm),trivial⟩)
 have h0:=tz2 r0;(iterate 3 refine qy ?_ (hg:=(gff r0)));refine w_2 ?_;refine aa rfl rfl (fun r1=>?_) (fun r1=>?_)
 ·
  have h1:=tz1 (ab r0 r1);(iterate 4 refine k9 (gtf r1) ?_);refine w_2 ?_;(iterate 2 refine k9 rfl ?_);refine w_7 ?_
  exact hx8 rfl rfl rfl (⟨ccb (by first | exact (qo b8i).symm | exact (nn b8i).symm | exact (uj b8z).symm | exact (lq b8z).symm),trivial⟩)
 have h1:=tz2 (ab r0 r1);(iterate 2 refine qy ?_ (hg:=(gff r1)));refine qcx (wgx Tryz.func156) (avs _) ?_ (hg:=(gff r1));refine qy ?_ (hg:=(gff r1));refine w_2 ?_;refine aa rfl rfl (fun r2=>?_) (fun r2=>?_)
 ·
  have h2:=d6 (ab r1 r2);(iterate 2 refine k9 (gtf r2) ?_);refine w_7 ?_
  exact hx8 rfl rfl rfl (⟨ccb (by first | exact (qo b8i).symm | exact (nn b8i).symm | exact (uj b8z).symm | exact (lq b8z).symm),trivial⟩)
 have h2:=d5 (ab r1 r2);(iterate 2 refine qy ?_ (hg:=(gff r2)));refine w_2 ?_;refine ag _ rfl (fun r3=>?_) (fun r3=>?_)
 · have h3:=tz1 (ab r2 r3);refine v_4 ?_;exact ⟨ccb (by first | exact (qo b8i).symm | exact (nn b8i).symm | exact (uj b8z).symm | exact (lq b8z).symm),trivial⟩
 have h3:=tz2 (ab r2 r3);refine cz ?_;refine bt (ι:=Unit) kn km (fun _i=>⟨[],[]⟩) (fun _i=>go s = true) ?_ ?_
 ·
  refine w_5 ?_;refine af (ι:=Nat) (ka 0 kn) km (fun i=>⟨[(3,some (vI i))],[]⟩) (fun i=>i <= s.size /\ ∀ j,j < i -> (ltr (bp s j) || dig (bp s j)) = true) (fun i=>s.size - i) (0) (⟨b5h _,ar⟩) kk ?_;rintro i ⟨hi,hI⟩;refine w_8 ?_;refine hcd (fun h4=>?_) (fun h4=>?_)
  ·
   refine w_8 ?_;refine qcx (wgx Tryz.func156) (avs _) ?_;refine w_2 ?_;refine aa rfl rfl (fun r5=>?_) (fun r5=>?_)
   ·
    have h5:=d6 r5;(iterate 5 refine qy ?_ (hg:=(gtt r5)));refine aa rfl rfl (fun r6=>?_) (fun r6=>?_)
    ·
     have h6:=tz1 r6;(iterate 4 refine k9 (gtf r6) ?_);refine rq rfl rfl rfl rfl (gtt r5) ?_ (hp:=r6);refine w_2 ?_;refine ag _ rfl (fun _=>?_) (fun e=>Bool.noConfusion ((xm r5 rfl).symm.trans e));refine w_4 ?_
     exact hx8 rfl rfl rfl (⟨ccb (sb (i:=i) b8i b8z (by simp_all [dig] <;> omega)).symm,trivial⟩)
    have h6:=tz2 r6;(iterate 4 refine qy ?_ (hg:=(gff r6)));refine qy ?_ (hg:=(gtt r5));refine w_2 ?_;refine ag _ rfl (fun r7=>?_) (fun r7=>?_)
    · have h7:=tz1 (ab r6 (bd r5 r7));refine v_4 ?_;exact ⟨ccb (sb (i:=i) b8i b8z (by simp_all [dig] <;> omega)).symm,trivial⟩
    have h7:=tz2 (ab r6 (bd r5 r7));refine w_6 ?_;refine lpz (i + 1) kk ?_;exact ⟨by omega,aj hI (by simp_all [dig] <;> omega)⟩
   have h5:=d5 r5;(iterate 5 refine k9 (gft r5) ?_);(iterate 4 refine k9 rfl ?_);refine k9 (gft r5) ?_;refine w_9 ?_;refine lpz (i + 1) kk ?_
   exact ⟨by omega,aj hI (by simp_all [dig] <;> omega)⟩
  refine br ?_;refine ⟨(), ?_, ?_⟩
  · exact am1 b8i b8i b8z b8z (fun j hj=>hI j b8i)
  exact ⟨trivial,trivial⟩
 rintro _ hj;refine v_4 ?_;exact ⟨ccb hj.symm,trivial⟩
def b1h (l:List ByteArray) (s:ByteArray):a8 b98 115 [pP (x9 l),pS s] (ae [pI (a0u l s)]):=by
 refine hpx (nt:=19) Tryz.func115 ?_;refine bv 0 rfl (fun hn=>?_);refine w_4 ?_;refine bt (ι:=Unit) kn km (fun _i=>⟨[],[]⟩) (fun _i=>a0u l s = -1) ?_ ?_
 ·
  refine w_5 ?_;refine af (ι:=Nat) (ka 0 (ka 1 kn)) km (fun i=>⟨[(5,some (vI i))],[]⟩) (fun i=>i <= l.length /\ ∀ j,j < i -> decide (l.getD j default = s) = false) (fun i=>l.length - i) (0) (⟨b5h _,ar⟩) kk ?_;rintro i ⟨hi,hI⟩;refine w_8 ?_;refine hcd (fun h0=>?_) (fun h0=>?_)
  ·
   refine o4 ?_;refine hcd (fun h1=>?_) (fun h1=>?_)
   · refine v_5 ?_;exact ⟨cci (a2b (p:=fun x=>decide (x = s)) (i:=i) b8i hI (decide_eq_true h1)).symm,trivial⟩
   refine w_6 ?_;refine lpz (i + 1) kk ?_;exact ⟨by omega,aj hI (decide_eq_false h1)⟩
  refine br ?_;refine ⟨(), ?_, ?_⟩
  · exact a2f (p:=fun x=>decide (x = s)) fun j hj=>hI j b8i
  exact ⟨trivial,trivial⟩
 rintro _ hj;refine v_4 ?_;exact ⟨cci hj.symm,trivial⟩
def b20 (l:List ByteArray):a8 b98 110 [pP (x9 l)] (ae [pB (wa l)]):=by
 refine hpx (nt:=27) Tryz.func110 ?_;refine bv 0 rfl (fun hn=>?_);refine w_4 ?_;refine bt (ι:=Unit) kn km (fun _i=>⟨[],[]⟩) (fun _i=>wa l = true) ?_ ?_
 ·
  refine w_5 ?_;refine af (ι:=Nat) (ka 0 kn) km (fun i=>⟨[(3,some (vI i))],[]⟩) (fun i=>i <= l.length /\ ∀ j,j < i -> mj l j = true) (fun i=>l.length - i) (0) (⟨b5h _,ar⟩) kk ?_;rintro i ⟨hi,hI⟩;refine w_8 ?_;refine hcd (fun h0=>?_) (fun h0=>?_)
  ·
   refine w_9 ?_;refine qcx (wgx Tryz.func109) (aw4 _) ?_;refine w_2 ?_;refine aa rfl rfl (fun r1=>?_) (fun r1=>?_)
   ·
    have h1:=d6 r1;(iterate 9 refine k9 (gtf r1) ?_);refine w_8 ?_
    exact hx8 rfl rfl rfl (⟨ccb (gk (i:=i) b8i (by first | (unfold mj;simp_all;done) | (unfold mj;rw [b7u];right;exact decide_eq_false b8i))).symm,trivial⟩)
   have h1:=d5 r1;(iterate 7 refine qy ?_ (hg:=(gff r1)));refine rc rfl rfl rfl rfl rfl rfl (wgx Tryz.func115) (b1h (l.take i) (l.getD i default)) (⟨CoC.one (a1v (k:=i) b8i),CoC.refl _,trivial⟩) rfl (gff r1) ?_
   refine qy ?_ (hg:=(gff r1));refine w_3 ?_;refine ag _ rfl (fun r2=>?_) (fun r2=>?_)
   · have h2:=tz1 (ab r1 r2);refine v_4 ?_;exact ⟨ccb (gk (i:=i) b8i (by first | (unfold mj;simp_all;done) | (unfold mj;rw [b7u];right;exact decide_eq_false b8i))).symm,trivial⟩
   have h2:=tz2 (ab r1 r2);refine w_6 ?_;refine lpz (i + 1) kk ?_;exact ⟨by omega,aj hI (by simp only [mj,b5j,decide_eq_true_eq];exact ⟨by assumption,by omega⟩)⟩
  refine br ?_;refine ⟨(), ?_, ?_⟩
  · exact jh fun j hj=>hI j b8i
  exact ⟨trivial,trivial⟩
 rintro _ hj;refine v_4 ?_;exact ⟨ccb hj.symm,trivial⟩
def azc (s:ByteArray):a8 b98 97 [pS s] (ae [pB (go s)]):=by
 refine hpx (nt:=58) Tryz.func97 ?_;refine df ?_;refine aa rfl rfl (fun r0=>?_) (fun r0=>?_)
 ·
  have h0:=tz1 r0;(iterate 3 refine k9 (gtf r0) ?_);refine w_2 ?_;(iterate 2 refine k9 rfl ?_);refine w_7 ?_
  exact hx8 rfl rfl rfl (⟨ccb (by first | exact (qo (ul.2 b8z)).symm | exact (nn b8i).symm | exact (lq b8z).symm),trivial⟩)
 have h0:=tz2 r0;(iterate 3 refine qy ?_ (hg:=(gff r0)));refine w_2 ?_;refine aa rfl rfl (fun r1=>?_) (fun r1=>?_)
 ·
  have h1:=tz1 (ab r0 r1);(iterate 2 refine k9 (gtf r1) ?_);refine w_7 ?_
  exact hx8 rfl rfl rfl (⟨ccb (by first | exact (qo (ul.2 b8z)).symm | exact (nn b8i).symm | exact (lq b8z).symm),trivial⟩)
 have h1:=tz2 (ab r0 r1);(iterate 2 refine qy ?_ (hg:=(gff r1)));refine w_2 ?_;refine ag _ rfl (fun r2=>?_) (fun r2=>?_)
 · have h2:=tz1 (ab r1 r2);refine v_4 ?_;exact ⟨ccb (by first | exact (qo (ul.2 b8z)).symm | exact (nn b8i).symm | exact (lq b8z).symm),trivial⟩
 have h2:=tz2 (ab r1 r2);refine cz ?_;refine bt (ι:=Unit) kn km (fun _i=>⟨[],[]⟩) (fun _i=>go s = true) ?_ ?_
 ·
  refine w_7 ?_;refine af (ι:=Nat) (ka 0 (ka 18 kn)) km (fun i=>⟨[(19,some (vI i))],[]⟩) (fun i=>i <= s.size /\ (∀ j,j < i -> (ltr (bp s j) || dig (bp s j)) = true) /\ (0 < i -> ltr (bp s 0) = true)) (fun i=>s.size - i) (0) (⟨b5h _,ar,fun h=>by omega⟩) kk ?_;rintro i ⟨hi,hI,hz⟩;refine w_5 ?_;refine hcd (fun h3=>?_) (fun h3=>?_)
  ·
   refine pl ?_;refine aas (ka 0 (ka 3 (ka 4 (ka 18 (ka 19 kn))))) km ⟨[(5,some (vB (ltr (bp s i))))],[]⟩ ?_ ?_
   ·
    refine w_4 ?_;refine aa rfl rfl (fun r4=>?_) (fun r4=>?_)
    ·
     have h4:=tz1 r4;(iterate 2 refine qy ?_ (hg:=(gtt r4)));refine w_2 ?_;refine aa rfl rfl (fun r5=>?_) (fun r5=>?_)
     ·
      have h5:=tz1 (bd r4 r5);(iterate 3 refine k9 (gtf r5) ?_);(iterate 2 refine k9 rfl ?_);refine k9 (gtf r5) ?_;refine w_2 ?_;(iterate 2 refine k9 rfl ?_);refine w_3 ?_
      exact ⟨⟨⟨_,rfl,(cob (by simp [ltr, *]))⟩,tt⟩,trivial⟩
     have h5:=tz2 (bd r4 r5);(iterate 3 refine qy ?_ (hg:=(gff r5)));refine aa rfl rfl (fun r6=>?_) (fun r6=>?_)
     ·
      have h6:=tz1 r6;(iterate 2 refine qy ?_ (hg:=(gtt r6)));refine qy ?_ (hg:=(gff r5));refine w_2 ?_;refine aa rfl rfl (fun r7=>?_) (fun r7=>?_)
      ·
       have h7:=tz1 (bd r6 (ab r5 r7));(iterate 2 refine k9 (gtf r7) ?_);refine w_3 ?_
       exact ⟨⟨⟨_,rfl,(cob (by simp [ltr, *]))⟩,tt⟩,trivial⟩
      have h7:=tz2 (bd r6 (ab r5 r7));(iterate 2 refine qy ?_ (hg:=(gff r7)));refine w_3 ?_
      exact ⟨⟨⟨_,rfl,(cob (by simp [ltr, *]))⟩,tt⟩,trivial⟩
     have h6:=tz2 r6;(iterate 2 refine k9 (gft r6) ?_);refine rq rfl rfl rfl rfl (gff r5) ?_ (hp:=r6);refine w_2 ?_;(iterate 2 refine rq rfl rfl rfl rfl (gff (mz r5 rfl)) ?_);refine w_3 ?_
     exact ⟨⟨⟨_,rfl,(cob (by simp [ltr, *]))⟩,tt⟩,trivial⟩
    have h4:=tz2 r4;(iterate 2 refine k9 (gft r4) ?_);refine w_5 ?_;refine aa rfl rfl (fun r8=>?_) (fun r8=>?_)
    ·
     have h8:=tz1 r8;(iterate 2 refine qy ?_ (hg:=(gtt r8)));refine w_3 ?_;refine aa rfl rfl (fun r9=>?_) (fun r9=>?_)
     ·
      have h9:=tz1 (bd r8 r9);(iterate 2 refine k9 (gtf r9) ?_);refine w_3 ?_
      exact ⟨⟨⟨_,rfl,(cob (by simp [ltr, *]))⟩,tt⟩,trivial⟩
     have h9:=tz2 (bd r8 r9);(iterate 2 refine qy ?_ (hg:=(gff r9)));refine w_3 ?_
     exact ⟨⟨⟨_,rfl,(cob (by simp [ltr, *]))⟩,tt⟩,trivial⟩
    have h8:=tz2 r8;(iterate 2 refine k9 (gft r8) ?_);refine w_3 ?_;(iterate 2 refine rq rfl rfl rfl rfl (gff (mz rfl rfl)) ?_);refine w_3 ?_
    exact ⟨⟨⟨_,rfl,(cob (by simp [ltr, *]))⟩,tt⟩,trivial⟩
   refine w_5 ?_;refine aa rfl rfl (fun r10=>?_) (fun r10=>?_)
   ·
    have h10:=d6 r10;(iterate 3 refine qy ?_ (hg:=(gtt r10)));refine aa rfl rfl (fun r11=>?_) (fun r11=>?_)
    ·
     have h11:=tz1 r11;(iterate 2 refine k9 (gtf r11) ?_);refine rq rfl rfl rfl rfl (gtt r10) ?_ (hp:=r11);refine qy ?_ (hg:=(gtt r10));(iterate 2 refine k9 rfl ?_);refine qy ?_ (hg:=(gtt r10));refine w_2 ?_
     refine ag _ rfl (fun _=>?_) (fun e=>Bool.noConfusion ((xm r10 rfl).symm.trans e));refine v_4 ?_;exact ⟨ccb (by first | exact (a0v (i:=i) b8z b8z).symm | exact (sb (i:=i) b8i b8z (by simp [dig, *] <;> omega)).symm),trivial⟩
    have h11:=tz2 r11;(iterate 2 refine qy ?_ (hg:=(gff r11)));(iterate 2 refine qy ?_ (hg:=(gtt r10)));refine aa rfl rfl (fun r12=>?_) (fun r12=>?_)
    ·
     have h12:=tz1 (ab r11 r12);(iterate 2 refine k9 (gtf r12) ?_);refine rq rfl rfl rfl rfl (gtt r10) ?_ (hp:=r12);refine w_2 ?_;refine ag _ rfl (fun _=>?_) (fun e=>Bool.noConfusion ((xm r10 rfl).symm.trans e));refine w_4 ?_
     exact hx8 rfl rfl rfl (⟨ccb (by first | exact (a0v (i:=i) b8z b8z).symm | exact (sb (i:=i) b8i b8z (by simp [dig, *] <;> omega)).symm),trivial⟩)
    have h12:=tz2 (ab r11 r12);(iterate 2 refine qy ?_ (hg:=(gff r12)));refine qy ?_ (hg:=(gtt r10));refine w_2 ?_;refine ag _ rfl (fun r13=>?_) (fun r13=>?_)
    · have h13:=tz1 (ab r12 (bd r10 r13));refine v_4 ?_;exact ⟨ccb (by first | exact (a0v (i:=i) b8z b8z).symm | exact (sb (i:=i) b8i b8z (by simp [dig, *] <;> omega)).symm),trivial⟩
    have h13:=tz2 (ab r12 (bd r10 r13));refine w_5 ?_;refine lpz (i + 1) kk ?_;exact ⟨by omega,aj hI (by simp_all [dig] <;> omega),fun _=>awq hz (fun e=>by first | assumption | (exfalso;omega))⟩
   have h10:=d5 r10;(iterate 3 refine k9 (gft r10) ?_);(iterate 2 refine k9 rfl ?_);(iterate 2 refine k9 (gft r10) ?_);(iterate 2 refine k9 rfl ?_);refine k9 (gft r10) ?_;refine w_8 ?_;refine lpz (i + 1) kk ?_
   exact ⟨by omega,aj hI (by simp_all [dig] <;> omega),fun _=>awq hz (fun e=>by first | assumption | (exfalso;omega))⟩
  refine br ?_;refine ⟨(), ?_, ?_⟩
  · exact am1 (fun e=>absurd ((ul (s:=s)).1 e) b8z) b8i (hz (Nat.pos_of_ne_zero (fun e=>absurd ((ul (s:=s)).1 b8i) b8z))) b8z (fun j hj=>hI j b8i)
  exact ⟨trivial,trivial⟩
 rintro _ hj;refine v_4 ?_;exact ⟨ccb hj.symm,trivial⟩
def b1u (l:List ByteArray) (s:ByteArray):a8 b98 138 [pP (x9 l),pS s] (ae [pI (a0u l s)]):=by
 refine hpx (nt:=19) Tryz.func138 ?_;refine bv 0 rfl (fun hn=>?_);refine w_4 ?_;refine bt (ι:=Unit) kn km (fun _i=>⟨[],[]⟩) (fun _i=>a0u l s = -1) ?_ ?_
 ·
  refine w_7 ?_;refine af (ι:=Nat) (ka 0 (ka 1 (ka 7 kn))) km (fun i=>⟨[(8,some (vI i))],[]⟩) (fun i=>i <= l.length /\ ∀ j,j < i -> decide (l.getD j default = s) = false) (fun i=>l.length - i) (0) (⟨b5h _,ar⟩) kk ?_;rintro i ⟨hi,hI⟩;refine w_5 ?_;refine hcd (fun h0=>?_) (fun h0=>?_)
  ·
   refine v7 ?_;refine hcd (fun h1=>?_) (fun h1=>?_)
   · refine v_5 ?_;exact ⟨cci (a2b (p:=fun x=>decide (x = s)) (i:=i) b8i hI (decide_eq_true h1.symm)).symm,trivial⟩
   refine w_5 ?_;refine lpz (i + 1) kk ?_;exact ⟨by omega,aj hI (decide_eq_false fun e=>h1 e.symm)⟩
  refine br ?_;refine ⟨(), ?_, ?_⟩
  · exact a2f (p:=fun x=>decide (x = s)) fun j hj=>hI j b8i
  exact ⟨trivial,trivial⟩
 rintro _ hj;refine v_4 ?_;exact ⟨cci hj.symm,trivial⟩
def b1i (l:List ByteArray) (s:ByteArray):a8 b98 98 [pP (x9 l),pS s] (ae [pB (decide (0 <= a0u l s))]):=by
 refine hpx (nt:=9) Tryz.func98 ?_;refine w_8 ?_;refine qcx (wgx Tryz.func138) (b1u _ _) ?_;refine v_3 ?_;exact CoL.refl _
def b1l (l:List Val) (g k:Nat) (caps:Nat -> PV) (V:Val -> Bool) (hg:goodFn b98 g) (hV:∀ i,i < l.length -> a8 b98 g ((l.getD i default).pc :: my caps k 0) (ae [pB (V (l.getD i default))])):a8 b98 167 [pP (vals l),pP (.fn g k caps)] (ae [pI (idx V l)]):=by
 refine hpx (nt:=19) Tryz.func167 ?_;refine bv 0 rfl (fun hn=>?_);refine w_4 ?_;refine bt (ι:=Unit) kn km (fun _i=>⟨[],[]⟩) (fun _i=>idx V l = -1) ?_ ?_
 ·
  refine w_7 ?_;refine af (ι:=Nat) (ka 0 (ka 1 (ka 7 kn))) km (fun i=>⟨[(8,some (vI i))],[]⟩) (fun i=>i <= l.length /\ ∀ j,j < i -> V (l.getD j default) = false) (fun i=>l.length - i) (0) (⟨b5h _,ar⟩) kk ?_;rintro i ⟨hi,hI⟩;refine w_5 ?_;refine hcd (fun h0=>?_) (fun h0=>?_)
  ·
   refine pl ?_;refine rc rfl rfl rfl rfl rfl rfl hg (hV i b8i) (CoL.refl _) rfl rfl ?_;refine bq ?_;refine hcb (fun h1=>?_) (fun h1=>?_)
   · refine v_5 ?_;exact ⟨cci (a2b (i:=i) b8i hI h1).symm,trivial⟩
   refine w_5 ?_;refine lpz (i + 1) kk ?_;exact ⟨by omega,aj hI (h1)⟩
  refine br ?_;refine ⟨(), ?_, ?_⟩
  · exact a2f fun j hj=>hI j b8i
  exact ⟨trivial,trivial⟩
 rintro _ hj;refine v_4 ?_;exact ⟨cci hj.symm,trivial⟩
def b1a (l:List Val) (g k:Nat) (caps:Nat -> PV) (V:Val -> Bool) (hg:goodFn b98 g) (hV:∀ i,i < l.length -> a8 b98 g ((l.getD i default).pc :: my caps k 0) (ae [pB (V (l.getD i default))])):a8 b98 139 [pP (vals l),pP (.fn g k caps)] (ae [pB (l.any V)]):=by
 refine hpx (nt:=9) Tryz.func139 ?_;refine w_8 ?_;refine qcx (wgx Tryz.func167) (b1l l g k caps V hg hV) ?_;refine v_3 ?_;exact ⟨ccb ahh,trivial⟩
def b2l (v:Val):a8 b98 140 [v.pc] (ae [pB (!bj v)]):=by
 refine hpx (nt:=6) Tryz.func140 ?_;refine sx7 ?_;refine m9 0 ?_;refine w_5 ?_;refine qcx (wgx Tryz.func141) (c76 _) ?_;refine v_3 ?_;exact CoL.refl _
def c93 (l:List Val):a8 b98 99 [pP (vals l)] (ae [pB (l.all bj)]):=by
 refine hpx (nt:=6) Tryz.func99 ?_;refine w_7 ?_;refine qcx (wgx Tryz.func139) (b1a l 140 0 (fun _=>.any) (fun v=>!bj v) (wgx Tryz.func140) (fun i _=>b2l _)) ?_;refine v_3 ?_;exact ⟨ccb afm,trivial⟩
end
section
open Go.Proofs
abbrev vpL (ps:List PV):PV:=.vp ps.length fun j=>ps.getD j .any
def rE {n:Nat} {l:List Row} {i:Nat} {b e:Int} (hi:i < l.length) (h:dq n b (l.drop i) = e):(if (l.getD i default).id <= b then 1 else if (l.getD i default).vals.length ≠ n then 6 else if ((l.getD i default).vals.all bj) = false then 1 else dq n (l.getD i default).id (l.drop (i + 1))) = e:=by rw [<- ae3 hi];exact h
def tE {t:Tbl} {e:Int} (h0:go t.name = true) (h1:¬ 16 < t.attrs.length) (h2:¬ 1000 < t.rows.length) (h3:wa t.attrs = true) (h:dq t.attrs.length 0 t.rows = e):cb t = e:=by
 have:¬ (16 < t.attrs.length \/ 1000 < t.rows.length):=by omega
 simp [cb,h0,h3,h,this]
def tE1 {t:Tbl} (h0:go t.name = false):cb t = 1:=by simp [cb,h0]
def tE3 {t:Tbl} (h0:go t.name = true) (h1:16 < t.attrs.length \/ 1000 < t.rows.length):cb t = 3:=by simp [cb,h0,h1]
def tE2 {t:Tbl} (h0:go t.name = true) (h1:¬ 16 < t.attrs.length) (h2:¬ 1000 < t.rows.length) (h3:wa t.attrs = false):cb t = 1:=by
 have:¬ (16 < t.attrs.length \/ 1000 < t.rows.length):=by omega
 simp [cb,h0,h3,this]
def c82 (t:Tbl):a8 b98 70 [t.pc] (ae [pI (cb t)]):=by
 refine hpx (nt:=53) Tryz.func70 ?_;refine sx7 ?_;refine m9 0 ?_;refine w_7 ?_;refine qcx (wgx Tryz.func109) (aw4 _) ?_;refine w_2 ?_;refine hcv (fun h0=>?_) (fun h0=>?_)
 · refine v_4 ?_;exact ⟨cci (tE1 b8z).symm,trivial⟩
 refine w_9 ?_;refine aa rfl rfl (fun r1=>?_) (fun r1=>?_)
 ·
  have h1:=tz1 r1;(iterate 4 refine k9 (gtf r1) ?_);refine w_7 ?_
  exact hx8 rfl rfl rfl (⟨cci (tE3 b8z b8i).symm,trivial⟩)
 have h1:=tz2 r1;(iterate 4 refine qy ?_ (hg:=(gff r1)));refine w_2 ?_;refine ag _ rfl (fun r2=>?_) (fun r2=>?_)
 · have h2:=tz1 (ab r1 r2);refine v_4 ?_;exact ⟨cci (tE3 b8z b8i).symm,trivial⟩
 have h2:=tz2 (ab r1 r2);refine w_6 ?_;refine qcx (wgx Tryz.func110) (b20 _) ?_;refine w_2 ?_;refine hcv (fun h3=>?_) (fun h3=>?_)
 · refine v_4 ?_;exact ⟨cci (tE2 b8z b8i b8i b8z).symm,trivial⟩
 refine w_5 ?_;refine bt (ι:=Unit) kn km (fun _i=>⟨[],[]⟩) (fun _i=>dq t.attrs.length 0 t.rows = 0) ?_ ?_
 ·
  refine w_5 ?_;refine af (ι:=(Nat × Int)) (ka 1 kn) (kb 0 km) (fun x=>⟨[(3,some (vI x.2)),(4,some (vI x.1))],[]⟩) (fun x=>x.1 <= t.rows.length /\ dq t.attrs.length x.2 (t.rows.drop x.1) = dq t.attrs.length 0 t.rows) (fun x=>t.rows.length - x.1) ((0,0)) (⟨b5h _,rfl⟩) kk ?_;rintro ⟨i,b⟩ ⟨hi,hI⟩;dsimp only at hi hI ⊢;refine w_9 ?_;refine hcd (fun h4=>?_) (fun h4=>?_)
  ·
   refine df ?_;refine m9 1 ?_;refine df ?_;refine hcd (fun h5=>?_) (fun h5=>?_)
   · refine w_4 ?_;refine hrr ?_;have hs:=rE b8i hI;rw [if_pos b8i] at hs;exact f9 rfl rfl (⟨cci (tE b8z b8i b8i b8z hs.symm).symm,trivial⟩)
   refine ave ?_;refine hcn (fun h6=>?_) (fun h6=>?_)
   · refine w_4 ?_;refine hrr ?_;have hs:=rE b8i hI;rw [if_neg b8i,if_pos b8i] at hs;exact f9 rfl rfl (⟨cci (tE b8z b8i b8i b8z hs.symm).symm,trivial⟩)
   refine w_5 ?_;refine qcx (wgx Tryz.func111) (c83 _) ?_;refine w_2 ?_;refine hcv (fun h7=>?_) (fun h7=>?_)
   · refine w_4 ?_;refine hrr ?_;have hs:=rE b8i hI;rw [if_neg b8i,if_neg b8i,if_pos b8z] at hs;exact f9 rfl rfl (⟨cci (tE b8z b8i b8i b8z hs.symm).symm,trivial⟩)
   refine w_6 ?_;refine lpz (i + 1,(t.rows.getD i default).id) kk ?_;refine ⟨by dsimp only;omega, ?_⟩;have hs:=rE b8i hI;rw [if_neg b8i,if_neg b8i,if_neg (fun e=>Bool.noConfusion (e.symm.trans (show _ = true by assumption)))] at hs;exact hs
  refine br ?_;refine ⟨(), ?_, ?_⟩
  · rw [<- hI,b7r b8i];rfl
  exact ⟨trivial,trivial⟩
 rintro _ hj;refine v_4 ?_;exact ⟨cci (tE b8z b8i b8i b8z hj).symm,trivial⟩
def c88 (t:Tbl):a8 b98 61 [t.pc] (ae [pI (cb t)]):=by
 refine hpx (nt:=70) Tryz.func61 ?_;refine sx7 ?_;refine m9 0 ?_;refine w_7 ?_;refine qcx (wgx Tryz.func97) (azc _) ?_;refine w_2 ?_;refine hcv (fun h0=>?_) (fun h0=>?_)
 · refine v_4 ?_;exact ⟨cci (tE1 b8z).symm,trivial⟩
 refine w_9 ?_;refine aa rfl rfl (fun r1=>?_) (fun r1=>?_)
 ·
  have h1:=tz1 r1;(iterate 4 refine k9 (gtf r1) ?_);refine w_7 ?_
  exact hx8 rfl rfl rfl (⟨cci (tE3 b8z b8i).symm,trivial⟩)
 have h1:=tz2 r1;(iterate 4 refine qy ?_ (hg:=(gff r1)));refine w_2 ?_;refine ag _ rfl (fun r2=>?_) (fun r2=>?_)
 · have h2:=tz1 (ab r1 r2);refine v_4 ?_;exact ⟨cci (tE3 b8z b8i).symm,trivial⟩
 have h2:=tz2 (ab r1 r2);refine cz ?_;refine bt (ι:=Unit) (ka 1 kn) (kb 0 km) (fun _i=>⟨[],[]⟩) (fun _i=>wa t.attrs = true) ?_ ?_
 ·
  refine w_8 ?_;refine af (ι:=Nat) (ka 1 (ka 23 (ka 24 kn))) (kb 0 km) (fun i=>⟨[(25,some (vI i))],[]⟩) (fun i=>i <= t.attrs.length /\ ∀ j,j < i -> mj t.attrs j = true) (fun i=>t.attrs.length - i) (0) (⟨b5h _,ar⟩) kk ?_;rintro i ⟨hi,hI⟩;refine w_5 ?_;refine hcd (fun h3=>?_) (fun h3=>?_)
  ·
   refine v6 ?_;refine qcx (wgx Tryz.func97) (azc _) ?_;refine w_2 ?_;refine aa rfl rfl (fun r4=>?_) (fun r4=>?_)
   ·
    have h4:=d6 r4;(iterate 6 refine k9 (gtf r4) ?_);refine w_7 ?_
    exact hx8 rfl rfl rfl (⟨cci (tE2 b8z b8i b8i (gk (i:=i) b8i (by first | (unfold mj;simp_all;done) | (unfold mj;rw [b7u];right;exact decide_eq_false b8i)))).symm,trivial⟩)
   have h4:=d5 r4;(iterate 5 refine qy ?_ (hg:=(gff r4)));refine rc rfl rfl rfl rfl rfl rfl (wgx Tryz.func98) (b1i (t.attrs.take i) (t.attrs.getD i default)) (⟨CoC.one (a1v (k:=i) b8i),CoC.refl _,trivial⟩) rfl (gff r4) ?_;refine w_2 ?_
   refine ag _ rfl (fun r5=>?_) (fun r5=>?_)
   · have h5:=ab r4 r5;refine v_4 ?_;exact ⟨cci (tE2 b8z b8i b8i (gk (i:=i) b8i (by first | (unfold mj;simp_all;done) | (unfold mj;rw [b7u];right;exact decide_eq_false b8i)))).symm,trivial⟩
   have h5:=ab r4 r5;have hM:=avj h5;refine w_5 ?_;refine lpz (i + 1) kk ?_;exact ⟨by omega,aj hI (by simp only [mj,b5j,decide_eq_true_eq];exact ⟨by assumption,by simp_all⟩)⟩
  refine br ?_;refine ⟨(), ?_, ?_⟩
  · exact jh fun j hj=>hI j b8i
  exact kk
 rintro _ hnm;refine w_4 ?_;refine bt (ι:=Unit) kn km (fun _i=>⟨[],[]⟩) (fun _i=>dq t.attrs.length 0 t.rows = 0) ?_ ?_
 ·
  refine w_8 ?_;refine af (ι:=(Nat × Int)) (ka 1 (ka 43 (ka 44 kn))) (kb 0 km) (fun x=>⟨[(5,some (vI x.2)),(45,some (vI x.1))],[]⟩) (fun x=>x.1 <= t.rows.length /\ dq t.attrs.length x.2 (t.rows.drop x.1) = dq t.attrs.length 0 t.rows) (fun x=>t.rows.length - x.1) ((0,0)) (⟨b5h _,rfl⟩) kk ?_;rintro ⟨i,b⟩ ⟨hi,hI⟩;dsimp only at hi hI ⊢;refine w_5 ?_;refine hcd (fun h6=>?_) (fun h6=>?_)
  ·
   refine w_7 ?_;refine m9 1 ?_;refine o4 ?_;refine hcd (fun h7=>?_) (fun h7=>?_)
   · refine w_4 ?_;refine hrr ?_;have hs:=rE b8i hI;rw [if_pos b8i] at hs;exact f9 rfl rfl (⟨cci (tE b8z b8i b8i b8z hs.symm).symm,trivial⟩)
   refine ej ?_;refine hcn (fun h8=>?_) (fun h8=>?_)
   · refine w_4 ?_;refine hrr ?_;have hs:=rE b8i hI;rw [if_neg b8i,if_pos b8i] at hs;exact f9 rfl rfl (⟨cci (tE b8z b8i b8i b8z hs.symm).symm,trivial⟩)
   refine w_4 ?_;refine qcx (wgx Tryz.func99) (c93 _) ?_;refine w_3 ?_;refine hcv (fun h9=>?_) (fun h9=>?_)
   · refine w_4 ?_;refine hrr ?_;have hs:=rE b8i hI;rw [if_neg b8i,if_neg b8i,if_pos b8z] at hs;exact f9 rfl rfl (⟨cci (tE b8z b8i b8i b8z hs.symm).symm,trivial⟩)
   refine df ?_;refine lpz (i + 1,(t.rows.getD i default).id) kk ?_;refine ⟨by dsimp only;omega, ?_⟩;have hs:=rE b8i hI;rw [if_neg b8i,if_neg b8i,if_neg (fun e=>Bool.noConfusion (e.symm.trans (show _ = true by assumption)))] at hs;exact hs
  refine br ?_;refine ⟨(), ?_, ?_⟩
  · rw [<- hI,b7r b8i];rfl
  exact ⟨trivial,trivial⟩
 rintro _ hj;refine v_4 ?_;exact ⟨cci (tE b8z b8i b8i b8z hj).symm,trivial⟩
end
section
open Go.Proofs
def at5 (n:Nat) (c:Bool) (f:Nat -> Nat -> PV) (hn:n <= 8796093022208) :
 cq b98 67 [.one (.p (.sl n 1 c f))] [] (.v (.one (.ref 0 n))) [(0, .arr true 1 9 n f)] []:=by
 refine hfx (nt:=8) Tryz.func67 ?_;refine sx7 ?_;refine ax true rfl rfl rfl rfl rfl trivial ?_;refine bq ?_;refine qb (ι:=Bool) (fun c=>⟨[(0,some (b4 (.sl n 1 c f)))],[]⟩) (fun _=>True) ?_ fun c _=>?_
 · rcases b6m n with hz | h0
   · subst hz
     refine hw_exact' 0 rfl fun ad cap hcap=>?_;refine sx7 ?_;(iterate 2 refine ax true rfl rfl rfl rfl rfl trivial ?_);refine bq ?_;refine ag ad.isNone rfl (fun hc=>?_) (fun hc=>?_)
     · refine sx7 ?_
       refine ax true rfl rfl rfl rfl rfl trivial ?_;refine bq ?_;refine eo 2 0 true 1 9 f b8n rfl (CoP.sl rfl (.inr rfl) (fun h=>h) fun i j hi _=>absurd hi (b5i i)) (.inr rfl) rfl ?_;refine hrr ?_;exact ⟨_,_,rfl,trivial,CoR.refl _,uu⟩
     refine cz ?_;exact ⟨false,trivial,⟨⟨_,rfl,CoP.raw_sl hcap⟩,trivial⟩,trivial⟩
   refine sx7 ?_;refine ax true rfl rfl rfl rfl rfl trivial ?_;refine ax true rfl rfl rfl rfl rfl h0 ?_;refine bq ?_;refine ag false rfl (fun hc=>by cases hc) (fun hc=>?_);refine cz ?_;exact ⟨c,trivial,tt,trivial⟩
 refine sx7 ?_;refine ou 0 rfl rfl rfl rfl rfl rfl trivial ?_;refine ax true rfl rfl rfl rfl rfl trivial ?_;refine se 0 true rfl rfl rfl rfl rfl rfl ⟨trivial,rfl,rfl,rfl, .inl rfl,by show 0 + n <= 9223372036854775807;omega,by show (0 + n) * 16 <= 140737488355328;omega,fun _=>.inl rfl⟩ ?_;refine ax true rfl rfl rfl rfl rfl trivial ?_;refine bq ?_;refine hrr ?_;refine ⟨_,_,rfl,trivial,CoR.of_eq (by show HR.v (.one (.ref 0 (0 + n))) = _;rw [b5q]),⟨⟨_,rfl, ?_⟩,trivial⟩⟩;exact ⟨fun h=>h,rfl,rfl,(b5q n).symm,fun i j _ _=>CoP.of_eq (by simp [d8])⟩
def ap1 (n:Nat) (c:Bool) (f:Nat -> Nat -> PV) (hn:n <= 8796093022208):a8 b98 67 [.one (.sl n 1 c f)] (.v (.one (.sl n 1 false f))) :=
 cq.pure (args:=[.one (.sl n 1 c f)]) (l:=[.one (.ref 0 n)]) (at5 n c f hn) rfl ⟨rfl,trivial⟩
def c77 (l:List ByteArray) (h:l.length <= 68719476736):a8 b98 67 [pP (psl 1 a4d l)] (ae [pP (psl 1 a4d l)]):=ap1 l.length false (lf a4d l) b8i
def as5 (n:Nat) (c:Bool) (f:Nat -> Nat -> PV) (hn:n <= 4398046511104) :
 cq b98 107 [.one (.p (.sl n 3 c f))] [] (.v (.one (.ref 0 n))) [(0, .arr true 3 114 n f)] []:=by
 refine hfx (nt:=8) Tryz.func107 ?_;refine sx7 ?_;refine ax true rfl rfl rfl rfl rfl trivial ?_;refine bq ?_;refine qb (ι:=Bool) (fun c=>⟨[(0,some (b4 (.sl n 3 c f)))],[]⟩) (fun _=>True) ?_ fun c _=>?_
 · rcases b6m n with hz | h0
   · subst hz
     refine hw_exact' 0 rfl fun ad cap hcap=>?_;refine sx7 ?_;(iterate 2 refine ax true rfl rfl rfl rfl rfl trivial ?_);refine bq ?_;refine ag ad.isNone rfl (fun hc=>?_) (fun hc=>?_)
     · refine sx7 ?_
       refine ax true rfl rfl rfl rfl rfl trivial ?_;refine bq ?_;refine eo 2 0 true 3 114 f b8n rfl (CoP.sl rfl (.inr rfl) (fun h=>h) fun i j hi _=>absurd hi (b5i i)) (.inr rfl) rfl ?_;refine hrr ?_;exact ⟨_,_,rfl,trivial,CoR.refl _,uu⟩
     refine cz ?_;exact ⟨false,trivial,⟨⟨_,rfl,CoP.raw_sl hcap⟩,trivial⟩,trivial⟩
   refine sx7 ?_;refine ax true rfl rfl rfl rfl rfl trivial ?_;refine ax true rfl rfl rfl rfl rfl h0 ?_;refine bq ?_;refine ag false rfl (fun hc=>by cases hc) (fun hc=>?_);refine cz ?_;exact ⟨c,trivial,tt,trivial⟩
 refine sx7 ?_;refine ou 0 rfl rfl rfl rfl rfl rfl trivial ?_;refine ax true rfl rfl rfl rfl rfl trivial ?_;refine se 0 true rfl rfl rfl rfl rfl rfl ⟨trivial,rfl,rfl,rfl, .inl rfl,by show 0 + n <= 9223372036854775807;omega,by show (0 + n) * 32 <= 140737488355328;omega,fun _=>.inl rfl⟩ ?_;refine ax true rfl rfl rfl rfl rfl trivial ?_;refine bq ?_;refine hrr ?_;refine ⟨_,_,rfl,trivial,CoR.of_eq (by show HR.v (.one (.ref 0 (0 + n))) = _;rw [b5q]),⟨⟨_,rfl, ?_⟩,trivial⟩⟩;exact ⟨fun h=>h,rfl,rfl,(b5q n).symm,fun i j _ _=>CoP.of_eq (by simp [d8])⟩
def apd (n:Nat) (c:Bool) (f:Nat -> Nat -> PV) (hn:n <= 4398046511104):a8 b98 107 [.one (.sl n 3 c f)] (.v (.one (.sl n 3 false f))) :=
 cq.pure (args:=[.one (.sl n 3 c f)]) (l:=[.one (.ref 0 n)]) (as5 n c f hn) rfl ⟨rfl,trivial⟩
def c78 (l:List Val) (h:l.length <= 68719476736):a8 b98 107 [pP (psl 3 Val.c l)] (ae [pP (psl 3 Val.c l)]):=apd l.length false (lf Val.c l) b8i
end
end Go.Hx

/- A part of the proof: SrC Tb2 Tb3 Tb4 Tb5. -/
import Derived.Test.YteklilhbjjofbaaGreatDoorLb28
import Derived.Test.YteklilhbjjofbaaGreatDoorLb30
set_option linter.all false
set_option maxRecDepth 100000
set_option maxHeartbeats 1000000
namespace Go.Hx
section
open Go.Proofs Go.RowKit
def avk:∀ (a b:List UInt8),Lib.compareBytes a b = iu a b
 | [],[]=>rfl
 | [],_ :: _=>rfl
 | _ :: _,[]=>rfl
 | x :: xs,y :: ys=>by
  unfold Lib.compareBytes iu;rw [avk xs ys];by_cases h1:x < y
  · have h2:x.toNat < y.toNat:=h1
    rw [if_pos h1,if_neg (fun e=>by rw [e] at h2;omega)];unfold sgn;rw [if_pos b5c]
  have h2:¬ x.toNat < y.toNat:=h1;rw [if_neg h1];by_cases h3:y < x
  · have h4:y.toNat < x.toNat:=h3
    rw [if_pos h3,if_neg (fun e=>by rw [e] at h4;omega)];unfold sgn;rw [if_neg b5c,if_pos b5c]
  have h4:¬ y.toNat < x.toNat:=h3;rw [if_neg h3,if_pos (UInt8.toNat_inj.1 b5c)]
def ar9:goodFn b62 154:=⟨Tryz.f154,Tryz.func154,by kernel_rfl,by kernel_rfl⟩
def aq2 (a b:ByteArray):a8 b62 154 [pS a,pS b] (ah [pI (lh a b)]):=by
 intro w imm us htab him hus
 match us,hus with
 | [u,v],⟨hu,hv,_⟩ =>
  obtain ⟨rfl,_⟩:=hu;obtain ⟨rfl,_⟩:=hv;refine (Any.bytealg_CompareString Tryz.laysCS a b w).mono ?_;rintro e w' ⟨rfl,rfl⟩;exact ⟨_,imm,rfl,⟨by rw [avk];rfl,rfl⟩,fun _ _=>rfl,him,Below.refl _ _⟩
 | [],h=>exact h.elim
 | [_],⟨_,h⟩=>exact h.elim
 | _ :: _ :: _ :: _,⟨_,_,h⟩=>exact h.elim
end
section
open Go.Proofs
def b5r {p:Prop} (h:p:=by simp [dl, *] <;> omega):p:=h
def c76 (v:Val):a8 b62 141 [v.pc] (ah [pB (dl v)]):=by
 refine hpx (nt:=41) Tryz.func141 ?_;refine sx7 ?_;refine m9 0 ?_;refine xr ?_;refine hcd (fun h0=>?_) (fun h0=>?_)
 ·
  refine w_6 ?_;refine ag rfl rfl (fun r1=>?_) (fun r1=>?_)
  ·
   have h1:=tz1 r1;(iterate 3 refine qy ?_ (hg:=(gtt r1)));refine w_3 ?_
   exact hx8 rfl rfl rfl (⟨ccb b5r,trivial⟩)
  have h1:=tz2 r1;(iterate 3 refine k9 (gft r1) ?_);refine w_3 ?_
  exact hx8 rfl rfl rfl (⟨ccb b5r,trivial⟩)
 refine w_5 ?_;refine hcd (fun h2=>?_) (fun h2=>?_)
 · refine v_7 ?_;exact ⟨ccb b5r,trivial⟩
 refine w_5 ?_;refine hcd (fun h3=>?_) (fun h3=>?_)
 ·
  refine w_6 ?_;refine ag rfl rfl (fun r4=>?_) (fun r4=>?_)
  ·
   have h4:=tz1 r4;(iterate 4 refine qy ?_ (hg:=(gtt r4)));refine w_3 ?_
   exact hx8 rfl rfl rfl (⟨ccb b5r,trivial⟩)
  have h4:=tz2 r4;(iterate 4 refine k9 (gft r4) ?_);refine w_3 ?_
  exact hx8 rfl rfl rfl (⟨ccb b5r,trivial⟩)
 refine w_5 ?_;refine hcd (fun h5=>?_) (fun h5=>?_)
 ·
  refine w_6 ?_;refine ag rfl rfl (fun r6=>?_) (fun r6=>?_)
  ·
   have h6:=tz1 r6;(iterate 3 refine qy ?_ (hg:=(gtt r6)));refine w_3 ?_
   exact hx8 rfl rfl rfl (⟨ccb b5r,trivial⟩)
  have h6:=tz2 r6;(iterate 3 refine k9 (gft r6) ?_);refine w_3 ?_
  exact hx8 rfl rfl rfl (⟨ccb b5r,trivial⟩)
 refine v_5 ?_;exact ⟨ccb b5r,trivial⟩
end
section
open Go.Proofs
def b5u {p:Prop} (h:p:=by assumption):p:=h
def aw0 (s:ByteArray):a8 b62 97 [pS s] (ah [pB (gz s)]):=by
 refine hpx (nt:=58) Tryz.func97 ?_;refine dm ?_;refine ag rfl rfl (fun r0=>?_) (fun r0=>?_)
 ·
  have h0:=tz1 r0;(iterate 3 refine k9 (gtf r0) ?_);refine w_2 ?_;(iterate 2 refine k9 rfl ?_);refine w_7 ?_
  exact hx8 rfl rfl rfl (⟨ccb (by first | exact (a5r (sx.2 b5u)).symm | exact (a32 b5c).symm | exact (zj b5u).symm),trivial⟩)
 have h0:=tz2 r0;(iterate 3 refine qy ?_ (hg:=(gff r0)));refine w_2 ?_;refine ag rfl rfl (fun r1=>?_) (fun r1=>?_)
 ·
  have h1:=tz1 (af r0 r1);(iterate 2 refine k9 (gtf r1) ?_);refine w_7 ?_
  exact hx8 rfl rfl rfl (⟨ccb (by first | exact (a5r (sx.2 b5u)).symm | exact (a32 b5c).symm | exact (zj b5u).symm),trivial⟩)
 have h1:=tz2 (af r0 r1);(iterate 2 refine qy ?_ (hg:=(gff r1)));refine w_2 ?_;refine al _ rfl (fun r2=>?_) (fun r2=>?_)
 · have h2:=tz1 (af r1 r2);refine v_4 ?_;exact ⟨ccb (by first | exact (a5r (sx.2 b5u)).symm | exact (a32 b5c).symm | exact (zj b5u).symm),trivial⟩
 have h2:=tz2 (af r1 r2);refine da ?_;refine d8 (ι:=Unit) kn km (fun _i=>⟨[],[]⟩) (fun _i=>gz s = true) ?_ ?_
 ·
  refine w_7 ?_;refine am (ι:=Nat) (ka 0 (ka 18 kn)) km (fun i=>⟨[(19,some (vI i))],[]⟩) (fun i=>i <= s.size /\ (∀ j,j < i -> (ltr (bv s j) || dig (bv s j)) = true) /\ (0 < i -> ltr (bv s 0) = true)) (fun i=>s.size - i) (0) (⟨b2b _,bc,fun h=>by omega⟩) kk ?_;rintro i ⟨hi,hI,hz⟩;refine w_5 ?_;refine hcd (fun h3=>?_) (fun h3=>?_)
  ·
   refine ml ?_;refine a4l (ka 0 (ka 3 (ka 4 (ka 18 (ka 19 kn))))) km ⟨[(5,some (vB (ltr (bv s i))))],[]⟩ ?_ ?_
   ·
    refine w_4 ?_;refine ag rfl rfl (fun r4=>?_) (fun r4=>?_)
    ·
     have h4:=tz1 r4;(iterate 2 refine qy ?_ (hg:=(gtt r4)));refine w_2 ?_;refine ag rfl rfl (fun r5=>?_) (fun r5=>?_)
     ·
      have h5:=tz1 (cn r4 r5);(iterate 3 refine k9 (gtf r5) ?_);(iterate 2 refine k9 rfl ?_);refine k9 (gtf r5) ?_;refine w_2 ?_;(iterate 2 refine k9 rfl ?_);refine w_3 ?_
      exact ⟨⟨⟨_,rfl,(cob (by simp [ltr, *]))⟩,tt⟩,trivial⟩
     have h5:=tz2 (cn r4 r5);(iterate 3 refine qy ?_ (hg:=(gff r5)));refine ag rfl rfl (fun r6=>?_) (fun r6=>?_)
     ·
      have h6:=tz1 r6;(iterate 2 refine qy ?_ (hg:=(gtt r6)));refine qy ?_ (hg:=(gff r5));refine w_2 ?_;refine ag rfl rfl (fun r7=>?_) (fun r7=>?_)
      ·
       have h7:=tz1 (cn r6 (af r5 r7));(iterate 2 refine k9 (gtf r7) ?_);refine w_3 ?_
       exact ⟨⟨⟨_,rfl,(cob (by simp [ltr, *]))⟩,tt⟩,trivial⟩
      have h7:=tz2 (cn r6 (af r5 r7));(iterate 2 refine qy ?_ (hg:=(gff r7)));refine w_3 ?_
      exact ⟨⟨⟨_,rfl,(cob (by simp [ltr, *]))⟩,tt⟩,trivial⟩
     have h6:=tz2 r6;(iterate 2 refine k9 (gft r6) ?_);refine rq rfl rfl rfl rfl (gff r5) ?_ (hp:=r6);refine w_2 ?_;(iterate 2 refine rq rfl rfl rfl rfl (gff (qg r5 rfl)) ?_);refine w_3 ?_
     exact ⟨⟨⟨_,rfl,(cob (by simp [ltr, *]))⟩,tt⟩,trivial⟩
    have h4:=tz2 r4;(iterate 2 refine k9 (gft r4) ?_);refine w_5 ?_;refine ag rfl rfl (fun r8=>?_) (fun r8=>?_)
    ·
     have h8:=tz1 r8;(iterate 2 refine qy ?_ (hg:=(gtt r8)));refine w_3 ?_;refine ag rfl rfl (fun r9=>?_) (fun r9=>?_)
     ·
      have h9:=tz1 (cn r8 r9);(iterate 2 refine k9 (gtf r9) ?_);refine w_3 ?_
      exact ⟨⟨⟨_,rfl,(cob (by simp [ltr, *]))⟩,tt⟩,trivial⟩
     have h9:=tz2 (cn r8 r9);(iterate 2 refine qy ?_ (hg:=(gff r9)));refine w_3 ?_
     exact ⟨⟨⟨_,rfl,(cob (by simp [ltr, *]))⟩,tt⟩,trivial⟩
    have h8:=tz2 r8;(iterate 2 refine k9 (gft r8) ?_);refine w_3 ?_;(iterate 2 refine rq rfl rfl rfl rfl (gff (qg rfl rfl)) ?_);refine w_3 ?_
    exact ⟨⟨⟨_,rfl,(cob (by simp [ltr, *]))⟩,tt⟩,trivial⟩
   refine w_5 ?_;refine ag rfl rfl (fun r10=>?_) (fun r10=>?_)
   ·
    have h10:=dq r10;(iterate 3 refine qy ?_ (hg:=(gtt r10)));refine ag rfl rfl (fun r11=>?_) (fun r11=>?_)
    ·
     have h11:=tz1 r11;(iterate 2 refine k9 (gtf r11) ?_);refine rq rfl rfl rfl rfl (gtt r10) ?_ (hp:=r11);refine qy ?_ (hg:=(gtt r10));(iterate 2 refine k9 rfl ?_);refine qy ?_ (hg:=(gtt r10));refine w_2 ?_
     refine al _ rfl (fun _=>?_) (fun e=>Bool.noConfusion ((zp r10 rfl).symm.trans e));refine v_4 ?_;exact ⟨ccb (by first | exact (a0e (i:=i) b5u b5u).symm | exact (zg (i:=i) b5c b5u (by simp [dig, *] <;> omega)).symm),trivial⟩
    have h11:=tz2 r11;(iterate 2 refine qy ?_ (hg:=(gff r11)));(iterate 2 refine qy ?_ (hg:=(gtt r10)));refine ag rfl rfl (fun r12=>?_) (fun r12=>?_)
    ·
     have h12:=tz1 (af r11 r12);(iterate 2 refine k9 (gtf r12) ?_);refine rq rfl rfl rfl rfl (gtt r10) ?_ (hp:=r12);refine w_2 ?_;refine al _ rfl (fun _=>?_) (fun e=>Bool.noConfusion ((zp r10 rfl).symm.trans e));refine w_4 ?_
     exact hx8 rfl rfl rfl (⟨ccb (by first | exact (a0e (i:=i) b5u b5u).symm | exact (zg (i:=i) b5c b5u (by simp [dig, *] <;> omega)).symm),trivial⟩)
    have h12:=tz2 (af r11 r12);(iterate 2 refine qy ?_ (hg:=(gff r12)));refine qy ?_ (hg:=(gtt r10));refine w_2 ?_;refine al _ rfl (fun r13=>?_) (fun r13=>?_)
    · have h13:=tz1 (af r12 (cn r10 r13));refine v_4 ?_;exact ⟨ccb (by first | exact (a0e (i:=i) b5u b5u).symm | exact (zg (i:=i) b5c b5u (by simp [dig, *] <;> omega)).symm),trivial⟩
    have h13:=tz2 (af r12 (cn r10 r13));refine w_5 ?_;refine lpz (i + 1) kk ?_;exact ⟨by omega,az hI (by simp_all [dig] <;> omega),fun _=>auj hz (fun e=>by first | assumption | (exfalso;omega))⟩
   have h10:=dt r10;(iterate 3 refine k9 (gft r10) ?_);(iterate 2 refine k9 rfl ?_);(iterate 2 refine k9 (gft r10) ?_);(iterate 2 refine k9 rfl ?_);refine k9 (gft r10) ?_;refine w_8 ?_;refine lpz (i + 1) kk ?_
   exact ⟨by omega,az hI (by simp_all [dig] <;> omega),fun _=>auj hz (fun e=>by first | assumption | (exfalso;omega))⟩
  refine cu ?_;refine ⟨(), ?_, ?_⟩
  · exact att (fun e=>absurd ((sx (s:=s)).1 e) b5u) b5c (hz (Nat.pos_of_ne_zero (fun e=>absurd ((sx (s:=s)).1 b5c) b5u))) b5u (fun j hj=>hI j b5c)
  exact ⟨trivial,trivial⟩
 rintro _ hj;refine v_4 ?_;exact ⟨ccb hj.symm,trivial⟩
def aze (l:List ByteArray) (s:ByteArray):a8 b62 138 [pP (ahd l),pS s] (ah [pI (ah8 l s)]):=by
 refine hpx (nt:=19) Tryz.func138 ?_;refine ca 0 rfl (fun hn=>?_);refine w_4 ?_;refine d8 (ι:=Unit) kn km (fun _i=>⟨[],[]⟩) (fun _i=>ah8 l s = -1) ?_ ?_
 ·
  refine w_7 ?_;refine am (ι:=Nat) (ka 0 (ka 1 (ka 7 kn))) km (fun i=>⟨[(8,some (vI i))],[]⟩) (fun i=>i <= l.length /\ ∀ j,j < i -> decide (l.getD j default = s) = false) (fun i=>l.length - i) (0) (⟨b2b _,bc⟩) kk ?_;rintro i ⟨hi,hI⟩;refine w_5 ?_;refine hcd (fun h0=>?_) (fun h0=>?_)
  ·
   refine za ?_;refine hcd (fun h1=>?_) (fun h1=>?_)
   · refine v_5 ?_;exact ⟨cci (a0n (p:=fun x=>decide (x = s)) (i:=i) b5c hI (decide_eq_true h1.symm)).symm,trivial⟩
   refine w_5 ?_;refine lpz (i + 1) kk ?_;exact ⟨by omega,az hI (decide_eq_false fun e=>h1 e.symm)⟩
  refine cu ?_;refine ⟨(), ?_, ?_⟩
  · exact a16 (p:=fun x=>decide (x = s)) fun j hj=>hI j b5c
  exact ⟨trivial,trivial⟩
 rintro _ hj;refine v_4 ?_;exact ⟨cci hj.symm,trivial⟩
def azk (l:List ByteArray) (s:ByteArray):a8 b62 98 [pP (ahd l),pS s] (ah [pB (decide (0 <= ah8 l s))]):=by
 refine hpx (nt:=9) Tryz.func98 ?_;refine w_8 ?_;refine qcx (wgx Tryz.func138) (aze _ _) ?_;refine v_3 ?_;exact CoL.refl _
def az6 (l:List Val) (g k:Nat) (caps:Nat -> PV) (V:Val -> Bool) (hg:goodFn b62 g) (hV:∀ i,i < l.length -> a8 b62 g ((l.getD i default).pc :: lg caps k 0) (ah [pB (V (l.getD i default))])):a8 b62 167 [pP (vals l),pP (.fn g k caps)] (ah [pI (idx V l)]):=by
 refine hpx (nt:=19) Tryz.func167 ?_;refine ca 0 rfl (fun hn=>?_);refine w_4 ?_;refine d8 (ι:=Unit) kn km (fun _i=>⟨[],[]⟩) (fun _i=>idx V l = -1) ?_ ?_
 ·
  refine w_7 ?_;refine am (ι:=Nat) (ka 0 (ka 1 (ka 7 kn))) km (fun i=>⟨[(8,some (vI i))],[]⟩) (fun i=>i <= l.length /\ ∀ j,j < i -> V (l.getD j default) = false) (fun i=>l.length - i) (0) (⟨b2b _,bc⟩) kk ?_;rintro i ⟨hi,hI⟩;refine w_5 ?_;refine hcd (fun h0=>?_) (fun h0=>?_)
  ·
   refine ml ?_;refine rc rfl rfl rfl rfl rfl rfl hg (hV i b5c) (CoL.refl _) rfl rfl ?_;refine ck ?_;refine hcb (fun h1=>?_) (fun h1=>?_)
   · refine v_5 ?_;exact ⟨cci (a0n (i:=i) b5c hI h1).symm,trivial⟩
   refine w_5 ?_;refine lpz (i + 1) kk ?_;exact ⟨by omega,az hI (h1)⟩
  refine cu ?_;refine ⟨(), ?_, ?_⟩
  · exact a16 fun j hj=>hI j b5c
  exact ⟨trivial,trivial⟩
 rintro _ hj;refine v_4 ?_;exact ⟨cci hj.symm,trivial⟩
def az5 (l:List Val) (g k:Nat) (caps:Nat -> PV) (V:Val -> Bool) (hg:goodFn b62 g) (hV:∀ i,i < l.length -> a8 b62 g ((l.getD i default).pc :: lg caps k 0) (ah [pB (V (l.getD i default))])):a8 b62 139 [pP (vals l),pP (.fn g k caps)] (ah [pB (l.any V)]):=by
 refine hpx (nt:=9) Tryz.func139 ?_;refine w_8 ?_;refine qcx (wgx Tryz.func167) (az6 l g k caps V hg hV) ?_;refine v_3 ?_;exact ⟨ccb aqk,trivial⟩
def az7 (v:Val):a8 b62 140 [v.pc] (ah [pB (!dl v)]):=by
 refine hpx (nt:=6) Tryz.func140 ?_;refine sx7 ?_;refine m9 0 ?_;refine w_5 ?_;refine qcx (wgx Tryz.func141) (c76 _) ?_;refine v_3 ?_;exact CoL.refl _
def c93 (l:List Val):a8 b62 99 [pP (vals l)] (ah [pB (l.all dl)]):=by
 refine hpx (nt:=6) Tryz.func99 ?_;refine w_7 ?_;refine qcx (wgx Tryz.func139) (az5 l 140 0 (fun _=>.any) (fun v=>!dl v) (wgx Tryz.func140) (fun i _=>az7 _)) ?_;refine v_3 ?_;exact ⟨ccb adf,trivial⟩
end
section
open Go.Proofs
abbrev vpL (ps:List PV):PV:=.vp ps.length fun j=>ps.getD j .any
def rE {n:Nat} {l:List Row} {i:Nat} {b e:Int} (hi:i < l.length) (h:ff n b (l.drop i) = e):(if (l.getD i default).id <= b then 1 else if (l.getD i default).vals.length ≠ n then 6 else if ((l.getD i default).vals.all dl) = false then 1 else ff n (l.getD i default).id (l.drop (i + 1))) = e:=by rw [<- ab6 hi];exact h
def tE {t:Tbl} {e:Int} (h0:gz t.name = true) (h1:¬ 16 < t.attrs.length) (h2:¬ 1000 < t.rows.length) (h3:a5j t.attrs = true) (h:ff t.attrs.length 0 t.rows = e):cg t = e:=by
 have:¬ (16 < t.attrs.length \/ 1000 < t.rows.length):=by omega
 simp [cg,h0,h3,h,this]
def tE1 {t:Tbl} (h0:gz t.name = false):cg t = 1:=by simp [cg,h0]
def tE3 {t:Tbl} (h0:gz t.name = true) (h1:16 < t.attrs.length \/ 1000 < t.rows.length):cg t = 3:=by simp [cg,h0,h1]
def tE2 {t:Tbl} (h0:gz t.name = true) (h1:¬ 16 < t.attrs.length) (h2:¬ 1000 < t.rows.length) (h3:a5j t.attrs = false):cg t = 1:=by
 have:¬ (16 < t.attrs.length \/ 1000 < t.rows.length):=by omega
 simp [cg,h0,h3,this]
def c88 (t:Tbl):a8 b62 61 [t.pc] (ah [pI (cg t)]):=by
 refine hpx (nt:=70) Tryz.func61 ?_;refine sx7 ?_;refine m9 0 ?_;refine w_7 ?_;refine qcx (wgx Tryz.func97) (aw0 _) ?_;refine w_2 ?_;refine hcv (fun h0=>?_) (fun h0=>?_)
 · refine v_4 ?_;exact ⟨cci (tE1 b5u).symm,trivial⟩
 refine w_9 ?_;refine ag rfl rfl (fun r1=>?_) (fun r1=>?_)
 ·
  have h1:=tz1 r1;(iterate 4 refine k9 (gtf r1) ?_);refine w_7 ?_
  exact hx8 rfl rfl rfl (⟨cci (tE3 b5u b5c).symm,trivial⟩)
 have h1:=tz2 r1;(iterate 4 refine qy ?_ (hg:=(gff r1)));refine w_2 ?_;refine al _ rfl (fun r2=>?_) (fun r2=>?_)
 · have h2:=tz1 (af r1 r2);refine v_4 ?_;exact ⟨cci (tE3 b5u b5c).symm,trivial⟩
 have h2:=tz2 (af r1 r2);refine da ?_;refine d8 (ι:=Unit) (ka 1 kn) (kb 0 km) (fun _i=>⟨[],[]⟩) (fun _i=>a5j t.attrs = true) ?_ ?_
 ·
  refine w_8 ?_;refine am (ι:=Nat) (ka 1 (ka 23 (ka 24 kn))) (kb 0 km) (fun i=>⟨[(25,some (vI i))],[]⟩) (fun i=>i <= t.attrs.length /\ ∀ j,j < i -> xz t.attrs j = true) (fun i=>t.attrs.length - i) (0) (⟨b2b _,bc⟩) kk ?_;rintro i ⟨hi,hI⟩;refine w_5 ?_;refine hcd (fun h3=>?_) (fun h3=>?_)
  ·
   refine xr ?_;refine qcx (wgx Tryz.func97) (aw0 _) ?_;refine w_2 ?_;refine ag rfl rfl (fun r4=>?_) (fun r4=>?_)
   ·
    have h4:=dq r4;(iterate 6 refine k9 (gtf r4) ?_);refine w_7 ?_
    exact hx8 rfl rfl rfl (⟨cci (tE2 b5u b5c b5c (ve (i:=i) b5c (by first | (unfold xz;simp_all;done) | (unfold xz;rw [Bool.and_eq_false_iff];right;exact decide_eq_false b5c)))).symm,trivial⟩)
   have h4:=dt r4;(iterate 5 refine qy ?_ (hg:=(gff r4)));refine rc rfl rfl rfl rfl rfl rfl (wgx Tryz.func98) (azk (t.attrs.take i) (t.attrs.getD i default)) (⟨CoC.one (a5t (k:=i) b5c),CoC.refl _,trivial⟩) rfl (gff r4) ?_;refine w_2 ?_
   refine al _ rfl (fun r5=>?_) (fun r5=>?_)
   · have h5:=af r4 r5;refine v_4 ?_;exact ⟨cci (tE2 b5u b5c b5c (ve (i:=i) b5c (by first | (unfold xz;simp_all;done) | (unfold xz;rw [Bool.and_eq_false_iff];right;exact decide_eq_false b5c)))).symm,trivial⟩
   have h5:=af r4 r5;have hM:=azb h5;refine w_5 ?_;refine lpz (i + 1) kk ?_;exact ⟨by omega,az hI (by simp only [xz,b2h,decide_eq_true_eq];exact ⟨by assumption,by simp_all⟩)⟩
  refine cu ?_;refine ⟨(), ?_, ?_⟩
  · exact a1q fun j hj=>hI j b5c
  exact kk
 rintro _ hnm;refine w_4 ?_;refine d8 (ι:=Unit) kn km (fun _i=>⟨[],[]⟩) (fun _i=>ff t.attrs.length 0 t.rows = 0) ?_ ?_
 ·
  refine w_8 ?_;refine am (ι:=(Nat × Int)) (ka 1 (ka 43 (ka 44 kn))) (kb 0 km) (fun x=>⟨[(5,some (vI x.2)),(45,some (vI x.1))],[]⟩) (fun x=>x.1 <= t.rows.length /\ ff t.attrs.length x.2 (t.rows.drop x.1) = ff t.attrs.length 0 t.rows) (fun x=>t.rows.length - x.1) ((0,0)) (⟨b2b _,rfl⟩) kk ?_;rintro ⟨i,b⟩ ⟨hi,hI⟩;dsimp only at hi hI ⊢;refine w_5 ?_;refine hcd (fun h6=>?_) (fun h6=>?_)
  ·
   refine w_7 ?_;refine m9 1 ?_;refine pe ?_;refine hcd (fun h7=>?_) (fun h7=>?_)
   · refine w_4 ?_;refine hrr ?_;have hs:=rE b5c hI;rw [if_pos b5c] at hs;exact f9 rfl rfl (⟨cci (tE b5u b5c b5c b5u hs.symm).symm,trivial⟩)
   refine dn ?_;refine hcn (fun h8=>?_) (fun h8=>?_)
   · refine w_4 ?_;refine hrr ?_;have hs:=rE b5c hI;rw [if_neg b5c,if_pos b5c] at hs;exact f9 rfl rfl (⟨cci (tE b5u b5c b5c b5u hs.symm).symm,trivial⟩)
   refine w_4 ?_;refine qcx (wgx Tryz.func99) (c93 _) ?_;refine w_3 ?_;refine hcv (fun h9=>?_) (fun h9=>?_)
   · refine w_4 ?_;refine hrr ?_;have hs:=rE b5c hI;rw [if_neg b5c,if_neg b5c,if_pos b5u] at hs;exact f9 rfl rfl (⟨cci (tE b5u b5c b5c b5u hs.symm).symm,trivial⟩)
   refine dm ?_;refine lpz (i + 1,(t.rows.getD i default).id) kk ?_;refine ⟨by dsimp only;omega, ?_⟩;have hs:=rE b5c hI;rw [if_neg b5c,if_neg b5c,if_neg (fun e=>Bool.noConfusion (e.symm.trans (show _ = true by assumption)))] at hs;exact hs
  refine cu ?_;refine ⟨(), ?_, ?_⟩
  · rw [<- hI,b4n b5c];rfl
  exact ⟨trivial,trivial⟩
 rintro _ hj;refine v_4 ?_;exact ⟨cci (tE b5u b5c b5c b5u hj).symm,trivial⟩
end
section
open Go.Proofs
def arq (n:Nat) (c:Bool) (f:Nat -> Nat -> PV) (hn:n <= 8796093022208) :
 c4 b62 67 [.one (.p (.sl n 1 c f))] [] (.v (.one (.ref 0 n))) [(0, .arr true 1 9 n f)] []:=by
 refine hfx (nt:=8) Tryz.func67 ?_;refine sx7 ?_;refine bg true rfl rfl rfl rfl rfl trivial ?_;refine ck ?_;refine ww (ι:=Bool) (fun c=>⟨[(0,some (b5 (.sl n 1 c f)))],[]⟩) (fun _=>True) ?_ fun c _=>?_
 · rcases b3h n with hz | h0
   · subst hz
     refine hw_exact' 0 rfl fun ad cap hcap=>?_;refine sx7 ?_;(iterate 2 refine bg true rfl rfl rfl rfl rfl trivial ?_);refine ck ?_;refine al ad.isNone rfl (fun hc=>?_) (fun hc=>?_)
     · refine sx7 ?_
       refine bg true rfl rfl rfl rfl rfl trivial ?_;refine ck ?_;refine fe 2 0 true 1 9 f b5i rfl (CoP.sl rfl (.inr rfl) (fun h=>h) fun i j hi _=>absurd hi (b2c i)) (.inr rfl) rfl ?_;refine hrr ?_;exact ⟨_,_,rfl,trivial,CoR.refl _,uu⟩
     refine da ?_;exact ⟨false,trivial,⟨⟨_,rfl,CoP.raw_sl hcap⟩,trivial⟩,trivial⟩
   refine sx7 ?_;refine bg true rfl rfl rfl rfl rfl trivial ?_;refine bg true rfl rfl rfl rfl rfl h0 ?_;refine ck ?_;refine al false rfl (fun hc=>by cases hc) (fun hc=>?_);refine da ?_;exact ⟨c,trivial,tt,trivial⟩
 refine sx7 ?_;refine se 0 rfl rfl rfl rfl rfl rfl trivial ?_;refine bg true rfl rfl rfl rfl rfl trivial ?_;refine wa 0 true rfl rfl rfl rfl rfl rfl ⟨trivial,rfl,rfl,rfl, .inl rfl,by show 0 + n <= 9223372036854775807;omega,by show (0 + n) * 16 <= 140737488355328;omega,fun _=>.inl rfl⟩ ?_;refine bg true rfl rfl rfl rfl rfl trivial ?_;refine ck ?_;refine hrr ?_;refine ⟨_,_,rfl,trivial,CoR.of_eq (by show HR.v (.one (.ref 0 (0 + n))) = _;rw [b2r]),⟨⟨_,rfl, ?_⟩,trivial⟩⟩;exact ⟨fun h=>h,rfl,rfl,(b2r n).symm,fun i j _ _=>CoP.of_eq (by simp [d6])⟩
def an7 (n:Nat) (c:Bool) (f:Nat -> Nat -> PV) (hn:n <= 8796093022208):a8 b62 67 [.one (.sl n 1 c f)] (.v (.one (.sl n 1 false f))) :=
 c4.pure (args:=[.one (.sl n 1 c f)]) (l:=[.one (.ref 0 n)]) (arq n c f hn) rfl ⟨rfl,trivial⟩
def c77 (l:List ByteArray) (h:l.length <= 68719476736):a8 b62 67 [pP (psl 1 a3b l)] (ah [pP (psl 1 a3b l)]):=an7 l.length false (lf a3b l) b5c
def ary (n:Nat) (c:Bool) (f:Nat -> Nat -> PV) (hn:n <= 4398046511104) :
 c4 b62 107 [.one (.p (.sl n 3 c f))] [] (.v (.one (.ref 0 n))) [(0, .arr true 3 114 n f)] []:=by
 refine hfx (nt:=8) Tryz.func107 ?_;refine sx7 ?_;refine bg true rfl rfl rfl rfl rfl trivial ?_;refine ck ?_;refine ww (ι:=Bool) (fun c=>⟨[(0,some (b5 (.sl n 3 c f)))],[]⟩) (fun _=>True) ?_ fun c _=>?_
 · rcases b3h n with hz | h0
   · subst hz
     refine hw_exact' 0 rfl fun ad cap hcap=>?_;refine sx7 ?_;(iterate 2 refine bg true rfl rfl rfl rfl rfl trivial ?_);refine ck ?_;refine al ad.isNone rfl (fun hc=>?_) (fun hc=>?_)
     · refine sx7 ?_
       refine bg true rfl rfl rfl rfl rfl trivial ?_;refine ck ?_;refine fe 2 0 true 3 114 f b5i rfl (CoP.sl rfl (.inr rfl) (fun h=>h) fun i j hi _=>absurd hi (b2c i)) (.inr rfl) rfl ?_;refine hrr ?_;exact ⟨_,_,rfl,trivial,CoR.refl _,uu⟩
     refine da ?_;exact ⟨false,trivial,⟨⟨_,rfl,CoP.raw_sl hcap⟩,trivial⟩,trivial⟩
   refine sx7 ?_;refine bg true rfl rfl rfl rfl rfl trivial ?_;refine bg true rfl rfl rfl rfl rfl h0 ?_;refine ck ?_;refine al false rfl (fun hc=>by cases hc) (fun hc=>?_);refine da ?_;exact ⟨c,trivial,tt,trivial⟩
 refine sx7 ?_;refine se 0 rfl rfl rfl rfl rfl rfl trivial ?_;refine bg true rfl rfl rfl rfl rfl trivial ?_;refine wa 0 true rfl rfl rfl rfl rfl rfl ⟨trivial,rfl,rfl,rfl, .inl rfl,by show 0 + n <= 9223372036854775807;omega,by show (0 + n) * 32 <= 140737488355328;omega,fun _=>.inl rfl⟩ ?_;refine bg true rfl rfl rfl rfl rfl trivial ?_;refine ck ?_;refine hrr ?_;refine ⟨_,_,rfl,trivial,CoR.of_eq (by show HR.v (.one (.ref 0 (0 + n))) = _;rw [b2r]),⟨⟨_,rfl, ?_⟩,trivial⟩⟩;exact ⟨fun h=>h,rfl,rfl,(b2r n).symm,fun i j _ _=>CoP.of_eq (by simp [d6])⟩
def ana (n:Nat) (c:Bool) (f:Nat -> Nat -> PV) (hn:n <= 4398046511104):a8 b62 107 [.one (.sl n 3 c f)] (.v (.one (.sl n 3 false f))) :=
 c4.pure (args:=[.one (.sl n 3 c f)]) (l:=[.one (.ref 0 n)]) (ary n c f hn) rfl ⟨rfl,trivial⟩
def c78 (l:List Val) (h:l.length <= 68719476736):a8 b62 107 [pP (psl 3 Val.c l)] (ah [pP (psl 3 Val.c l)]):=ana l.length false (lf Val.c l) b5c
end
end Go.Hx

/- A part of the proof: X1 X2 Ch3 X3 X4 Ch4 X5. -/
import Derived.Test.YtkkenjdfbojdlaaGreatDoorGx24
set_option linter.all false
set_option maxRecDepth 100000
set_option maxHeartbeats 1000000
namespace Go.Hx
section
open Go.Proofs
theorem b84:goodFn Tryz.prog 276:=wgx Tryz.func276
theorem bhx (l:List Int) (g k:Nat) (caps:Nat -> PV) (V:Int -> Bool) (hg:goodFn Tryz.prog g) (hV:∀ x,a7 Tryz.prog g (pI x :: gv caps k 0) (ae [pB (V x)])):a7 Tryz.prog 276 [pP (zl l),pP (.fn g k caps)] (ae [pI (idx V l)]):=by
 refine hpx (nt:=19) Tryz.func276 ?_;refine cq ?_;refine cb 0 rfl fun hn=>?_;refine w_3 ?_;refine bu (ι:=Unit) ⟨[],[]⟩ ⟨trivial,trivial⟩ (fun _i=>⟨[],[]⟩) (fun _i=>idx V l = -1) ?_ ?_
 ·
  refine w_7 ?_;refine a6 (ι:=Nat) ⟨[(0,some _),(1,some _),(7,some _)],[]⟩ ⟨⟨c9,c9,c9,trivial⟩,trivial⟩ (fun i=>⟨[(8,some (vI i))],[]⟩) (fun i=>i <= l.length /\ (∀ j,j < i -> V (l.getD j default) = false)) (fun i=>l.length - i) (0) (⟨bkl _,bq⟩) ⟨⟨zy,trivial⟩,trivial⟩ ?_;rintro i ⟨hi,hI⟩;refine w_5 ?_;refine hcd (fun h0=>?_) (fun h0=>?_)
  ·
   refine ku ?_;refine rc rfl rfl rfl rfl rfl rfl hg (hV (l.getD i default)) (CoL.refl _) rfl rfl ?_;refine aq ?_;refine hcb (fun h1=>?_) (fun h1=>?_)
   · refine w_5 ?_;exact hx8 rfl rfl rfl (⟨cci (rp (i:=i) bos hI h1).symm,trivial⟩)
   refine w_5 ?_;refine lpz (i + 1) ⟨⟨zy,c9,c9,c9,trivial⟩,trivial⟩ ?_;exact ⟨by show i + 1 <= _;omega,az hI (h1)⟩
  refine dp ?_;refine ⟨(), ?_, ?_⟩
  · exact rr fun j hj=>hI j bos
  exact ⟨trivial,trivial⟩
 rintro _ hj;refine w_4 ?_;exact hx8 rfl rfl rfl (⟨cci hj.symm,trivial⟩)
theorem b5z:goodFn Tryz.prog 202:=wgx Tryz.func202
theorem biw (l:List Rw) (g k:Nat) (caps:Nat -> PV) (V:Rw -> Bool) (hg:goodFn Tryz.prog g) (hV:∀ x,a7 Tryz.prog g (pZ x :: gv caps k 0) (ae [pB (V x)])):a7 Tryz.prog 202 [pP (rl l),pP (.fn g k caps)] (ae [pI (idx V l)]):=by
 refine hpx (nt:=19) Tryz.func202 ?_;refine cq ?_;refine cb 0 rfl fun hn=>?_;refine w_3 ?_;refine bu (ι:=Unit) ⟨[],[]⟩ ⟨trivial,trivial⟩ (fun _i=>⟨[],[]⟩) (fun _i=>idx V l = -1) ?_ ?_
 ·
  refine w_7 ?_;refine a6 (ι:=Nat) ⟨[(0,some _),(1,some _),(7,some _)],[]⟩ ⟨⟨c9,c9,c9,trivial⟩,trivial⟩ (fun i=>⟨[(8,some (vI i))],[]⟩) (fun i=>i <= l.length /\ (∀ j,j < i -> V (l.getD j default) = false)) (fun i=>l.length - i) (0) (⟨bkl _,bq⟩) ⟨⟨zy,trivial⟩,trivial⟩ ?_;rintro i ⟨hi,hI⟩;refine w_5 ?_;refine hcd (fun h0=>?_) (fun h0=>?_)
  ·
   refine ku ?_;refine rc rfl rfl rfl rfl rfl rfl hg (hV (l.getD i default)) (CoL.refl _) rfl rfl ?_;refine aq ?_;refine hcb (fun h1=>?_) (fun h1=>?_)
   · refine w_5 ?_;exact hx8 rfl rfl rfl (⟨cci (rp (i:=i) bos hI h1).symm,trivial⟩)
   refine w_5 ?_;refine lpz (i + 1) ⟨⟨zy,c9,c9,c9,trivial⟩,trivial⟩ ?_;exact ⟨by show i + 1 <= _;omega,az hI (h1)⟩
  refine dp ?_;refine ⟨(), ?_, ?_⟩
  · exact rr fun j hj=>hI j bos
  exact ⟨trivial,trivial⟩
 rintro _ hj;refine w_4 ?_;exact hx8 rfl rfl rfl (⟨cci hj.symm,trivial⟩)
theorem b40:goodFn Tryz.prog 250:=wgx Tryz.func250
theorem bit (l:List Int) (g k:Nat) (caps:Nat -> PV) (V:Int -> Bool) (hg:goodFn Tryz.prog g) (hV:∀ x,a7 Tryz.prog g (pI x :: gv caps k 0) (ae [pB (V x)])):a7 Tryz.prog 250 [pP (zl l),pP (.fn g k caps)] (ae [pB (l.any V)]):=by
 refine hpx (nt:=9) Tryz.func250 ?_;refine w_8 ?_;refine qcx b84 (bhx l g k caps V hg hV) ?_;refine w_3 ?_;exact hx8 rfl rfl rfl (⟨ccb x5,trivial⟩)
theorem b9j:goodFn Tryz.prog 152:=wgx Tryz.func152
theorem bhw (l:List Rw) (g k:Nat) (caps:Nat -> PV) (V:Rw -> Bool) (hg:goodFn Tryz.prog g) (hV:∀ x,a7 Tryz.prog g (pZ x :: gv caps k 0) (ae [pB (V x)])):a7 Tryz.prog 152 [pP (rl l),pP (.fn g k caps)] (ae [pB (l.any V)]):=by
 refine hpx (nt:=9) Tryz.func152 ?_;refine w_8 ?_;refine qcx b5z (biw l g k caps V hg hV) ?_;refine w_3 ?_;exact hx8 rfl rfl rfl (⟨ccb x5,trivial⟩)
theorem aeg:goodFn Tryz.prog 154:=wgx Tryz.func154
theorem b1n (a b:Rw):a7 Tryz.prog 154 [pZ a,pZ b] (ae [pB (decide (a = b))]):=by
 refine hpx (nt:=26) Tryz.func154 ?_;refine cq ?_;refine cb 0 rfl fun hn0=>?_;refine cb 1 rfl fun hn1=>?_;refine ef ?_;refine hcn (fun h0=>?_) (fun h0=>?_)
 · refine w_4 ?_;exact hx8 rfl rfl rfl (⟨ccb (decide_eq_false fun e=>by subst e;omega).symm,trivial⟩)
 refine d7 ?_;refine bu (ι:=Unit) ⟨[],[]⟩ ⟨trivial,trivial⟩ (fun _i=>⟨[],[]⟩) (fun _i=>a = b) ?_ ?_
 ·
  refine w_7 ?_;refine a6 (ι:=Nat) ⟨[(0,some _),(1,some _),(12,some _)],[]⟩ ⟨⟨c9,c9,c9,trivial⟩,trivial⟩ (fun i=>⟨[(13,some (vI i))],[]⟩) (fun i=>i <= a.length /\ (∀ j,j < i -> decide (a.getD j default = b.getD j default) = true)) (fun i=>a.length - i) (0) (⟨bkl _,bq⟩) ⟨⟨zy,trivial⟩,trivial⟩ ?_;rintro i ⟨hi,hI⟩;refine w_5 ?_;refine hcd (fun h1=>?_) (fun h1=>?_)
  ·
   refine a69 ?_;refine hcn (fun h2=>?_) (fun h2=>?_)
   · refine w_4 ?_;exact hx8 rfl rfl rfl (⟨ccb (decide_eq_false fun e=>by subst e;simp_all).symm,trivial⟩)
   refine w_5 ?_;refine lpz (i + 1) ⟨⟨zy,c9,c9,c9,trivial⟩,trivial⟩ ?_;exact ⟨by show i + 1 <= _;omega,az hI (decide_eq_true bp5)⟩
  refine dp ?_;refine ⟨(), ?_, ?_⟩
  · exact b39 bos fun j hj=>hI j bos
  exact ⟨trivial,trivial⟩
 rintro _ hj;refine w_4 ?_;exact hx8 rfl rfl rfl (⟨ccb (decide_eq_true hj).symm,trivial⟩)
theorem b6p:goodFn Tryz.prog 133:=wgx Tryz.func133
theorem beo (a b:Rw):a7 Tryz.prog 133 [pZ a,pZ b] (ae [pB (decide (a = b))]):=by
 refine hpx (nt:=26) Tryz.func133 ?_;refine cq ?_;refine cb 0 rfl fun hn0=>?_;refine cb 1 rfl fun hn1=>?_;refine ef ?_;refine hcn (fun h0=>?_) (fun h0=>?_)
 · refine w_4 ?_;exact hx8 rfl rfl rfl (⟨ccb (decide_eq_false fun e=>by subst e;omega).symm,trivial⟩)
 refine d7 ?_;refine bu (ι:=Unit) ⟨[],[]⟩ ⟨trivial,trivial⟩ (fun _i=>⟨[],[]⟩) (fun _i=>a = b) ?_ ?_
 ·
  refine w_5 ?_;refine a6 (ι:=Nat) ⟨[(0,some _),(1,some _)],[]⟩ ⟨⟨c9,c9,trivial⟩,trivial⟩ (fun i=>⟨[(5,some (vI i))],[]⟩) (fun i=>i <= a.length /\ (∀ j,j < i -> decide (a.getD j default = b.getD j default) = true)) (fun i=>a.length - i) (0) (⟨bkl _,bq⟩) ⟨⟨zy,trivial⟩,trivial⟩ ?_;rintro i ⟨hi,hI⟩;refine w_8 ?_;refine hcd (fun h1=>?_) (fun h1=>?_)
  ·
   refine x9 ?_;refine hcn (fun h2=>?_) (fun h2=>?_)
   · refine w_4 ?_;exact hx8 rfl rfl rfl (⟨ccb (decide_eq_false fun e=>by subst e;simp_all).symm,trivial⟩)
   refine w_6 ?_;refine lpz (i + 1) ⟨⟨zy,c9,c9,trivial⟩,trivial⟩ ?_;exact ⟨by show i + 1 <= _;omega,az hI (decide_eq_true bp5)⟩
  refine dp ?_;refine ⟨(), ?_, ?_⟩
  · exact b39 bos fun j hj=>hI j bos
  exact ⟨trivial,trivial⟩
 rintro _ hj;refine w_4 ?_;exact hx8 rfl rfl rfl (⟨ccb (decide_eq_true hj).symm,trivial⟩)
theorem b8b:goodFn Tryz.prog 220:=wgx Tryz.func220
theorem b2u (a b:Rw):a7 Tryz.prog 220 [pZ a,pZ b] (ae [pI (qg a b)]):=by
 refine hpx (nt:=36) Tryz.func220 ?_;refine cq ?_;refine cb 0 rfl fun hn0=>?_;refine cb 1 rfl fun hn1=>?_;refine w_3 ?_;refine bu (ι:=Unit) ⟨[(0,some _),(1,some _)],[]⟩ ⟨⟨c9,c9,trivial⟩,trivial⟩ (fun _i=>⟨[],[]⟩) (fun _i=>∀ j,j < a.length -> j < b.length /\ a.getD j default = b.getD j default) ?_ ?_
 ·
  refine w_7 ?_;refine a6 (ι:=Nat) ⟨[(0,some _),(1,some _),(9,some _),(10,some _)],[]⟩ ⟨⟨c9,c9,c9,c9,trivial⟩,trivial⟩ (fun i=>⟨[(11,some (vI i))],[]⟩) (fun i=>i <= a.length /\ (∀ j,j < i -> j < b.length /\ a.getD j default = b.getD j default)) (fun i=>a.length - i) (0) (⟨bkl _,bq⟩) ⟨⟨zy,trivial⟩,trivial⟩ ?_;rintro i ⟨hi,hI⟩;refine w_5 ?_;refine hcd (fun h0=>?_) (fun h0=>?_)
  ·
   refine a42 ?_;refine hcd (fun h1=>?_) (fun h1=>?_)
   · refine w_4 ?_;exact hx8 rfl rfl rfl (⟨cci (b5g (i:=i) bos bos fun j hj=>(hI j hj).2),trivial⟩)
   refine ik ?_;refine qcx aoc (b3e (a.getD i default) (b.getD i default)) ?_;refine w_7 ?_;refine hcn (fun h2=>?_) (fun h2=>?_)
   · refine w_5 ?_;exact hx8 rfl rfl rfl (⟨cci (b41 (i:=i) bos bos (fun j hj=>(hI j hj).2) bot),trivial⟩)
   refine w_5 ?_;refine lpz (i + 1) ⟨⟨zy,c9,c9,c9,c9,trivial⟩,trivial⟩ ?_;exact ⟨by show i + 1 <= _;omega,az hI (⟨by omega,bai bot⟩)⟩
  refine dp ?_;refine ⟨(), ?_, ?_⟩
  · exact fun j hj=>hI j bos
  exact ⟨⟨c9,c9,trivial⟩,trivial⟩
 rintro _ hj;refine w_9 ?_;refine hcd (fun h3=>?_) (fun h3=>?_)
 · refine w_4 ?_;exact hx8 rfl rfl rfl (⟨cci (b5s bos fun j h=>(hj j h).2),trivial⟩)
 refine w_5 ?_;exact hx8 rfl rfl rfl (⟨cci (b55 (be8 fun j h=>(hj j h).1) bos fun j h=>(hj j h).2),trivial⟩)
theorem ap2:goodFn Tryz.prog 227:=wgx Tryz.func227
theorem b2r (a b:Rw):a7 Tryz.prog 227 [pZ a,pZ b] (ae [pB (ltZ a b)]):=by
 refine hpx (nt:=41) Tryz.func227 ?_;refine cq ?_;refine cb 0 rfl fun hn0=>?_;refine cb 1 rfl fun hn1=>?_;refine w_3 ?_;refine bu (ι:=Unit) ⟨[(0,some _),(1,some _)],[]⟩ ⟨⟨c9,c9,trivial⟩,trivial⟩ (fun _i=>⟨[],[]⟩) (fun _i=>∀ j,j < a.length -> j < b.length -> a.getD j default = b.getD j default) ?_ ?_
 ·
  refine w_5 ?_;refine a6 (ι:=Nat) ⟨[(0,some _),(1,some _)],[]⟩ ⟨⟨c9,c9,trivial⟩,trivial⟩ (fun i=>⟨[(5,some (vI i))],[]⟩) (fun i=>i <= a.length /\ (∀ j,j < i -> j < b.length /\ a.getD j default = b.getD j default)) (fun i=>a.length - i) (0) (⟨bkl _,bq⟩) ⟨⟨zy,trivial⟩,trivial⟩ ?_;rintro i ⟨hi,hI⟩;refine w_8 ?_;refine am rfl rfl (fun r0=>?_) (fun r0=>?_)
  ·
   have h0:=tz1 r0;(iterate 4 refine qy ?_ (hg:=(gtt r0)));refine w_2 ?_;refine a8 _ rfl (fun r1=>?_) (fun r1=>?_)
   ·
    have h1:=tz1 (bp r0 r1);refine x9 ?_;refine hcn (fun h2=>?_) (fun h2=>?_)
    · refine oe ?_;exact hx8 rfl rfl rfl (⟨ccb (ali (i:=i) bos bos (fun j h=>(hI j h).2) bot).symm,trivial⟩)
    refine w_6 ?_;refine lpz (i + 1) ⟨⟨zy,c9,c9,trivial⟩,trivial⟩ ?_;exact ⟨by show i + 1 <= _;omega,az hI (⟨by omega,by assumption⟩)⟩
   have h1:=tz2 (bp r0 r1);refine dp ?_;refine ⟨(), ?_, ?_⟩
   · exact fun j h1 h2=>(hI j bos).2
   exact ⟨⟨c9,c9,trivial⟩,trivial⟩
  have h0:=tz2 r0;(iterate 4 refine k9 (gft r0) ?_);refine rq rfl rfl rfl rfl rfl ?_ (hp:=r0);refine aq ?_;refine a8 _ rfl (fun e=>by cases e) (fun _=>?_);refine dp ?_;refine ⟨(), ?_, ?_⟩
  · exact fun j h1 h2=>(hI j bos).2
  exact ⟨⟨c9,c9,trivial⟩,trivial⟩
 rintro _ hj;refine w_9 ?_;exact hx8 rfl rfl rfl (⟨ccb (by rw [a7p hj,decide_eq_decide];omega),trivial⟩)
end
section
open Go.Proofs
abbrev bxZ (a:PV):PV:=.vp 1 fun j=>[a].getD j .any
theorem ba5:goodFn Tryz.prog 153:=wgx Tryz.func153
theorem baf (r row:Rw):a7 Tryz.prog 153 [pZ r,pP (bxZ (zl row))] (ae [pB (decide (r = row))]):=by
 refine hpx (nt:=7) Tryz.func153 ?_;refine w_8 ?_;refine qcx aeg (b1n _ _) ?_;refine w_2 ?_;exact hx8 rfl rfl rfl (CoL.refl _)
theorem acz:goodFn Tryz.prog 101:=wgx Tryz.func101
theorem ars (n:Int) (l:List Rw) (row:Rw):a7 Tryz.prog 101 [pT n l,pZ row] (ae [pB (l.any fun r=>decide (r = row))]):=by
 refine hpx (nt:=9) Tryz.func101 ?_;refine sx7 ?_;refine m9 0 ?_;refine m9 1 ?_;refine w_3 ?_;refine d4 3 rfl rfl rfl ?_;refine w_4 ?_;refine qcx b9j (bhw l 153 1 (fun i=>[bxZ (zl row)].getD i .any) (fun r=>decide (r = row)) ba5 (fun r=>baf r row)) ?_;refine w_2 ?_;exact hx8 rfl rfl rfl (CoL.refl _)
theorem b6k:goodFn Tryz.prog 251:=wgx Tryz.func251
theorem bin (x:Int):a7 Tryz.prog 251 [pI x] (ae [pB (decide (x < 0))]):=by
 refine hpx (nt:=5) Tryz.func251 ?_;refine ce ?_;exact hx8 rfl rfl rfl (CoL.refl _)
theorem a1i:goodFn Tryz.prog 179:=wgx Tryz.func179
theorem a1p (a b:Rw) (s:AS) (h:b.length = a.length) (h16:a.length <= 16):a7 Tryz.prog 179 [pZ a,pZ b,pA s] (ae [pB (kj a b s)]):=by
 refine hpx (nt:=28) Tryz.func179 ?_;refine cq ?_;refine cb 0 rfl fun hn0=>?_;refine cb 1 rfl fun hn1=>?_;refine w_3 ?_;refine bu (ι:=Unit) ⟨[],[]⟩ ⟨trivial,trivial⟩ (fun _i=>⟨[],[]⟩) (fun _i=>kj a b s = true) ?_ ?_
 ·
  refine w_5 ?_;refine a6 (ι:=Nat) ⟨[(0,some _),(1,some _),(2,some _)],[]⟩ ⟨⟨c9,c9,c9,trivial⟩,trivial⟩ (fun i=>⟨[(7,some (vI i))],[]⟩) (fun i=>i <= a.length /\ (∀ j:Nat,j < i -> (dq s (j:Int) = true -> a.getD j default = b.getD j default))) (fun i=>a.length - i) (0) (⟨bkl _,bq⟩) ⟨⟨zy,trivial⟩,trivial⟩ ?_;rintro i ⟨hi,hI⟩;refine w_8 ?_;refine hcd (fun h0=>?_) (fun h0=>?_)
  ·
   refine w_7 ?_;refine qcx vq (a9k s (i:Int)) ?_;refine qy ?_;refine am rfl rfl (fun r1=>?_) (fun r1=>?_)
   ·
    have h1:=r1;(iterate 9 refine qy ?_ (hg:=(gtt r1)));refine w_3 ?_;refine a8 _ rfl (fun r2=>?_) (fun r2=>?_)
    · have h2:=tz2 (d6 (bp r1 r2));refine w_4 ?_;exact hx8 rfl rfl rfl (⟨ccb (av3 (i:=i) bos bp5 bp5).symm,trivial⟩)
    have h2:=tz1 (d5 (bp r1 r2));refine w_6 ?_;refine lpz (i + 1) ⟨⟨zy,c9,c9,c9,trivial⟩,trivial⟩ ?_;exact ⟨by show i + 1 <= _;omega,az hI (fun hh=>by simp_all)⟩
   have h1:=r1;(iterate 9 refine k9 (gft r1) ?_);refine rq rfl rfl rfl rfl rfl ?_ (hp:=r1);refine w_2 ?_;refine a8 _ rfl (fun e=>by cases e) (fun _=>?_);refine w_6 ?_;refine lpz (i + 1) ⟨⟨zy,c9,c9,c9,trivial⟩,trivial⟩ ?_
   exact ⟨by show i + 1 <= _;omega,az hI (fun hh=>by simp_all)⟩
  refine dp ?_;refine ⟨(), ?_, ?_⟩
  · exact a1t fun j hj=>hI j bos
  exact ⟨trivial,trivial⟩
 rintro _ hj;refine w_4 ?_;exact hx8 rfl rfl rfl (⟨ccb hj.symm,trivial⟩)
theorem a2o:goodFn Tryz.prog 223:=wgx Tryz.func223
theorem a4p (a b:Rw) (s:AS) (h:b.length = a.length) (h16:a.length <= 16):a7 Tryz.prog 223 [pZ a,pZ b,pA s] (ae [pB (kj a b s)]):=by
 refine hpx (nt:=30) Tryz.func223 ?_;refine cq ?_;refine cb 0 rfl fun hn0=>?_;refine cb 1 rfl fun hn1=>?_;refine w_3 ?_;refine bu (ι:=Unit) ⟨[],[]⟩ ⟨trivial,trivial⟩ (fun _i=>⟨[],[]⟩) (fun _i=>kj a b s = true) ?_ ?_
 ·
  refine w_7 ?_;refine a6 (ι:=Nat) ⟨[(0,some _),(1,some _),(2,some _),(9,some _)],[]⟩ ⟨⟨c9,c9,c9,c9,trivial⟩,trivial⟩ (fun i=>⟨[(10,some (vI i))],[]⟩) (fun i=>i <= a.length /\ (∀ j:Nat,j < i -> (dq s (j:Int) = true -> a.getD j default = b.getD j default))) (fun i=>a.length - i) (0) (⟨bkl _,bq⟩) ⟨⟨zy,trivial⟩,trivial⟩ ?_;rintro i ⟨hi,hI⟩;refine w_5 ?_;refine hcd (fun h0=>?_) (fun h0=>?_)
  ·
   refine x9 ?_;refine am rfl rfl (fun r1=>?_) (fun r1=>?_)
   ·
    have h1:=tz1 r1;(iterate 9 refine qy ?_ (hg:=(gtt r1)));refine w_3 ?_;refine a8 _ rfl (fun r2=>?_) (fun r2=>?_)
    · have h2:=tz2 (d6 (bp r1 r2));refine w_4 ?_;exact hx8 rfl rfl rfl (⟨ccb (av3 (i:=i) bos ((tx bos).1 bot) bot).symm,trivial⟩)
    have h2:=tz1 (d5 (bp r1 r2));refine w_5 ?_;refine lpz (i + 1) ⟨⟨zy,c9,c9,c9,c9,trivial⟩,trivial⟩ ?_;exact ⟨by show i + 1 <= _;omega,az hI (fun hh=>by first | (exact absurd ((tx bos).2 hh) bot) | assumption)⟩
   have h1:=tz2 r1;(iterate 9 refine k9 (gft r1) ?_);refine rq rfl rfl rfl rfl rfl ?_ (hp:=r1);refine w_2 ?_;refine a8 _ rfl (fun e=>by cases e) (fun _=>?_);refine w_5 ?_
   refine lpz (i + 1) ⟨⟨zy,c9,c9,c9,c9,trivial⟩,trivial⟩ ?_;exact ⟨by show i + 1 <= _;omega,az hI (fun hh=>by first | (exact absurd ((tx bos).2 hh) bot) | assumption)⟩
  refine dp ?_;refine ⟨(), ?_, ?_⟩
  · exact a1t fun j hj=>hI j bos
  exact ⟨trivial,trivial⟩
 rintro _ hj;refine w_4 ?_;exact hx8 rfl rfl rfl (⟨ccb hj.symm,trivial⟩)
end
section
def c8 (n:Int) (l m:List Fd):Int:=if bj n l = 0 then (if 64 < m.length then 3 else if m.all (inU n) = true then 0 else 1) else bj n l
section
variable {n:Int} {l m:List Fd}
theorem avw (h:¬ bj n l = 0):bj n l = c8 n l m:=by unfold c8;rw [if_neg h]
theorem avg (h:bj n l = 0) (h2:64 < m.length):3 = c8 n l m:=by unfold c8;rw [if_pos h,if_pos h2]
theorem ahz {i:Nat} (h:bj n l = 0) (h2:¬ 64 < m.length) (hi:i < m.length) (hu:¬ inU n (m.getD i default) = true):1 = c8 n l m:=by
 unfold c8;rw [if_pos h,if_neg h2,if_neg (fun e=>absurd (abq (l:=m) (p:=inU n) hi (bkv.2 hu)) (by rw [e];decide))]
theorem avu (h:bj n l = 0) (h2:¬ 64 < m.length) (hu:∀ j,j < m.length -> inU n (m.getD j default) = true):0 = c8 n l m:=by
 unfold c8;rw [if_pos h,if_neg h2,if_pos (ahe hu)]
theorem kb (h:c8 n l m = 0):0 <= n /\ n <= 16 /\ l.length <= 64 /\ l.all (inU n) = true /\ m.length <= 64 /\ m.all (inU n) = true:=by
 unfold c8 at h;by_cases h1:bj n l = 0
 · rw [if_pos h1] at h
   obtain ⟨a,b,c,d⟩:=gc h1;by_cases h2:64 < m.length
   · rw [if_pos h2] at h;omega
   rw [if_neg h2] at h;by_cases h3:m.all (inU n) = true
   · exact ⟨a,b,c,d,by omega,h3⟩
   rw [if_neg h3] at h;omega
 rw [if_neg h1] at h;exact absurd h h1
end
section
variable {l:List Rw}
theorem a5y {n:Int} {i:Nat} (h1:((l.getD i default).length:Int) = n) (h2:(l.getD i default).any (fun x=>decide (x < 0)) = false) (h3:i = 0 \/ ltZ (l.getD (i - 1) default) (l.getD i default) = true):o7 n l i = true:=by
 unfold o7;rw [decide_eq_true h1,h2]
 rcases h3 with h3 | h3
 · rw [decide_eq_true h3];rfl
 rw [h3];simp
theorem a82 {n:Int} {i:Nat} (h:¬ ((l.getD i default).length:Int) = n):o7 n l i = false:=by unfold o7;rw [decide_eq_false h];rfl
theorem y8 {n:Int} {i:Nat} (h:(l.getD i default).any (fun x=>decide (x < 0)) = true):o7 n l i = false:=by unfold o7;rw [h];simp
theorem a1v {n:Int} {i:Nat} (h0:0 < i) (h:¬ ltZ (l.getD (i - 1) default) (l.getD i default) = true):o7 n l i = false:=by
 unfold o7;rw [bkv.2 h,decide_eq_false (by omega:¬ i = 0)];simp
theorem a3x {a b:Rw}:qg a b < 0 <-> ltZ a b = true:=by
 unfold qg;by_cases e:a = b
 · subst e
   rw [if_pos rfl,vb];exact ⟨fun h=>absurd h bos,fun h=>by cases h⟩
 rw [if_neg e];by_cases h:ltZ a b = true
 · rw [if_pos h];exact ⟨fun _=>h,fun _=>by omega⟩
 rw [if_neg h];exact ⟨fun h=>absurd h bos,fun h2=>absurd h2 h⟩
end
end
section
open Go.Proofs
theorem at5:goodFn Tryz.prog 99:=wgx Tryz.func99
theorem ap0 (n:Int) (s:AS):a7 Tryz.prog 99 [pI n,pA s] (ae [pB (decide (sub s (aa n)))]):=by
 refine hpx (nt:=9) Tryz.func99 ?_;refine w_8 ?_;refine qcx ol (oq n) ?_;refine qcx ny (w3 _ _) ?_;refine w_2 ?_;exact hx8 rfl rfl rfl (CoL.refl _)
theorem a1n:goodFn Tryz.prog 53:=wgx Tryz.func53
theorem y7 (n:Int) (l m:List Fd):a7 Tryz.prog 53 [pI n,pP (fdl l),pP (fdl m)] (ae [pI (c8 n l m)]):=by
 refine hpx (nt:=34) Tryz.func53 ?_;refine cq ?_;refine cb 2 rfl fun hn2=>?_;refine w_8 ?_;refine qcx uz (zr n l) ?_;refine w_7 ?_;refine hcn (fun h0=>?_) (fun h0=>?_)
 · refine w_5 ?_;exact hx8 rfl rfl rfl (⟨cci (avw bot),trivial⟩)
 have hv0:bj n l = 0:=by assumption
 obtain ⟨hn0,hn16,_,_⟩:=gc hv0;refine w_8 ?_;refine hcd (fun h1=>?_) (fun h1=>?_)
 · refine w_4 ?_;exact hx8 rfl rfl rfl (⟨cci (avg hv0 bos),trivial⟩)
 refine d7 ?_;refine bu (ι:=Unit) ⟨[],[]⟩ ⟨trivial,trivial⟩ (fun _i=>⟨[],[]⟩) (fun _i=>∀ j,j < m.length -> inU n (m.getD j default) = true) ?_ ?_
 ·
  refine w_7 ?_;refine a6 (ι:=Nat) ⟨[(0,some _),(19,some _),(20,some _)],[]⟩ ⟨⟨c9,c9,c9,trivial⟩,trivial⟩ (fun i=>⟨[(21,some (vI i))],[]⟩) (fun i=>i <= m.length /\ (∀ j,j < i -> inU n (m.getD j default) = true)) (fun i=>m.length - i) (0) (⟨bkl _,bq⟩) ⟨⟨zy,trivial⟩,trivial⟩ ?_;rintro i ⟨hi,hI⟩;refine w_5 ?_;refine hcd (fun h2=>?_) (fun h2=>?_)
  ·
   refine w_7 ?_;refine m9 0 ?_;refine ik ?_;refine hcn (fun h3=>?_) (fun h3=>?_)
   · refine w_4 ?_;exact hx8 rfl rfl rfl (⟨cci (ahz (i:=i) hv0 bos bos (fun e=>absurd (a7k.2 e) bot)),trivial⟩)
   refine w_5 ?_;refine lpz (i + 1) ⟨⟨zy,c9,c9,c9,trivial⟩,trivial⟩ ?_;exact ⟨by show i + 1 <= _;omega,az hI (a7k.1 bot)⟩
  refine dp ?_;refine ⟨(), ?_, ?_⟩
  · exact fun j hj=>hI j bos
  exact ⟨trivial,trivial⟩
 rintro _ hj;refine w_4 ?_;exact hx8 rfl rfl rfl (⟨cci (avu hv0 bos hj),trivial⟩)
theorem aby:goodFn Tryz.prog 44:=wgx Tryz.func44
theorem a48 (n:Int) (l m:List Fd):a7 Tryz.prog 44 [pI n,pP (fdl l),pP (fdl m)] (ae [pI (c8 n l m)]):=by
 refine hpx (nt:=42) Tryz.func44 ?_;refine cq ?_;refine cb 2 rfl fun hn2=>?_;refine w_8 ?_;refine qcx avf (ape n l) ?_;refine w_7 ?_;refine hcn (fun h0=>?_) (fun h0=>?_)
 · refine w_5 ?_;exact hx8 rfl rfl rfl (⟨cci (avw bot),trivial⟩)
 have hv0:bj n l = 0:=by assumption
 obtain ⟨hn0,hn16,_,_⟩:=gc hv0;refine w_8 ?_;refine hcd (fun h1=>?_) (fun h1=>?_)
 · refine w_4 ?_;exact hx8 rfl rfl rfl (⟨cci (avg hv0 bos),trivial⟩)
 refine d7 ?_;refine bu (ι:=Unit) ⟨[],[]⟩ ⟨trivial,trivial⟩ (fun _i=>⟨[],[]⟩) (fun _i=>∀ j,j < m.length -> inU n (m.getD j default) = true) ?_ ?_
 ·
  refine w_5 ?_;refine a6 (ι:=Nat) ⟨[(0,some _),(2,some _)],[]⟩ ⟨⟨c9,c9,trivial⟩,trivial⟩ (fun i=>⟨[(8,some (vI i))],[]⟩) (fun i=>i <= m.length /\ (∀ j,j < i -> inU n (m.getD j default) = true)) (fun i=>m.length - i) (0) (⟨bkl _,bq⟩) ⟨⟨zy,trivial⟩,trivial⟩ ?_;rintro i ⟨hi,hI⟩;refine w_8 ?_;refine hcd (fun h2=>?_) (fun h2=>?_)
  ·
   refine cu ?_;refine qcx at5 (ap0 n _) ?_;refine w_2 ?_;refine am rfl rfl (fun r3=>?_) (fun r3=>?_)
   ·
    have h3:=d6 r3;(iterate 8 refine k9 (gtf r3) ?_);refine rq rfl rfl rfl rfl rfl ?_ (hp:=r3);refine aq ?_;refine a8 _ rfl (fun _=>?_) (fun e=>by cases e);refine w_4 ?_
    exact hx8 rfl rfl rfl (⟨cci (ahz (i:=i) hv0 bos bos (fun e=>by rw [pk bos bos] at e;simp_all)),trivial⟩)
   have h3:=d5 r3;(iterate 6 refine qy ?_ (hg:=(gff r3)));refine qcx at5 (ap0 n _) ?_ (hg:=(gff r3));refine qy ?_ (hg:=(gff r3));refine w_2 ?_;refine a8 _ rfl (fun r4=>?_) (fun r4=>?_)
   · have h4:=d6 (au r3 r4);refine w_4 ?_;exact hx8 rfl rfl rfl (⟨cci (ahz (i:=i) hv0 bos bos (fun e=>by rw [pk bos bos] at e;simp_all)),trivial⟩)
   have h4:=d5 (au r3 r4);refine w_6 ?_;refine lpz (i + 1) ⟨⟨zy,c9,c9,trivial⟩,trivial⟩ ?_;exact ⟨by show i + 1 <= _;omega,az hI ((pk bos bos).2 bp5)⟩
  refine dp ?_;refine ⟨(), ?_, ?_⟩
  · exact fun j hj=>hI j bos
  exact ⟨trivial,trivial⟩
 rintro _ hj;refine w_4 ?_;exact hx8 rfl rfl rfl (⟨cci (avu hv0 bos hj),trivial⟩)
end
section
open Go.Proofs
theorem uh (i:Nat):((i:Int) - 1).toNat = i - 1:=by omega
theorem b8v:goodFn Tryz.prog 222:=wgx Tryz.func222
theorem bpa {p:Prop} (h:p:=by first | exact a82 bot | exact y8 bot | exact a1v bos (by simp_all [uh])):p:=h
theorem b96 (n:Int) (l:List Rw):a7 Tryz.prog 222 [pT n l] (ae [pB (tok n l)]):=by
 refine hpx (nt:=50) Tryz.func222 ?_;refine sx7 ?_;refine m9 0 ?_;refine w_9 ?_;refine am rfl rfl (fun r0=>?_) (fun r0=>?_)
 ·
  have h0:=tz1 r0;(iterate 3 refine k9 (gtf r0) ?_);refine rq rfl rfl rfl rfl rfl ?_ (hp:=r0);refine qy ?_;(iterate 4 refine k9 rfl ?_);refine w_2 ?_;refine a8 _ rfl (fun _=>?_) (fun e=>by cases e);refine w_4 ?_
  exact hx8 rfl rfl rfl (⟨ccb (a1f bos).symm,trivial⟩)
 have h0:=tz2 r0;(iterate 3 refine qy ?_ (hg:=(gff r0)));refine w_2 ?_;refine am rfl rfl (fun r1=>?_) (fun r1=>?_)
 ·
  have h1:=tz1 (au r0 r1);(iterate 4 refine k9 (gtf r1) ?_);refine rq rfl rfl rfl rfl rfl ?_ (hp:=r1);refine aq ?_;refine a8 _ rfl (fun _=>?_) (fun e=>by cases e);refine w_4 ?_
  exact hx8 rfl rfl rfl (⟨ccb (a1f bos).symm,trivial⟩)
 have h1:=tz2 (au r0 r1);(iterate 4 refine qy ?_ (hg:=(gff r1)));refine w_2 ?_;refine a8 _ rfl (fun r2=>?_) (fun r2=>?_)
 · have h2:=tz1 (au r1 r2);refine w_4 ?_;exact hx8 rfl rfl rfl (⟨ccb (a1f bos).symm,trivial⟩)
 have h2:=tz2 (au r1 r2);refine ce ?_;refine a6 (ι:=Nat) ⟨[(1,some _),(20,some _),(21,some _)],[(0,some _)]⟩ ⟨⟨c9,c9,c9,trivial⟩,⟨u9,trivial⟩⟩ (fun i=>⟨[(22,some (vI i))],[]⟩) (fun i=>i <= l.length /\ (∀ j,j < i -> o7 n l j = true)) (fun i=>l.length - i) (0) (⟨bkl _,bq⟩) ⟨⟨zy,trivial⟩,trivial⟩ ?_;rintro i ⟨hi,hI⟩;refine w_5 ?_;refine hcd (fun h3=>?_) (fun h3=>?_)
 ·
  refine ar3 ?_;refine am rfl rfl (fun r4=>?_) (fun r4=>?_)
  ·
   have h4:=tz2 (d6 r4);(iterate 2 refine k9 (gtf r4) ?_);refine rq rfl rfl rfl rfl rfl ?_ (hp:=r4);refine aq ?_;refine a8 _ rfl (fun _=>?_) (fun e=>by cases e);refine w_4 ?_
   exact hx8 rfl rfl rfl (⟨ccb (a36 (i:=i) bos bpa).symm,trivial⟩)
  have h4:=tz1 (d5 r4);refine qy ?_ (hg:=(gff r4));refine qcx b40 (bit (l.getD i default) 251 0 (fun _=>.any) (fun x=>decide (x < 0)) b6k (fun x=>bin x)) ?_ (hg:=(gff r4));refine w_2 ?_;refine a8 _ rfl (fun r5=>?_) (fun r5=>?_)
  · have h5:=au r4 r5;refine w_4 ?_;exact hx8 rfl rfl rfl (⟨ccb (a36 (i:=i) bos bpa).symm,trivial⟩)
  have h5:=au r4 r5;refine w_6 ?_;refine am rfl rfl (fun r6=>?_) (fun r6=>?_)
  ·
   have h6:=tz1 r6;(iterate 7 refine qy ?_ (hg:=(gtt r6)));refine qcx b8b (b2u (l.getD ((i:Int) - 1).toNat default) (l.getD i default)) ?_ (hg:=(gtt r6));refine qy ?_ (hg:=(gtt r6));refine w_2 ?_
   refine a8 _ rfl (fun r7=>?_) (fun r7=>?_)
   · have h7:=tz1 (bp r6 r7);refine w_4 ?_;exact hx8 rfl rfl rfl (⟨ccb (a36 (i:=i) bos (a1v bos fun e=>absurd (a3x.2 e) (by simp only [uh] at *;omega))).symm,trivial⟩)
   have h7:=tz2 (bp r6 r7);refine w_5 ?_;refine lpz (i + 1) ⟨⟨zy,c9,c9,c9,trivial⟩,⟨u9,trivial⟩⟩ ?_;exact ⟨by show i + 1 <= _;omega,az hI (a5y bot bot (by first | (exact .inl bos) | (exact .inr (a3x.1 (by simp only [uh] at *;omega)))))⟩
  have h6:=tz2 r6;(iterate 9 refine k9 (gft r6) ?_);refine rq rfl rfl rfl rfl rfl ?_ (hp:=r6);refine aq ?_;refine a8 _ rfl (fun e=>by cases e) (fun _=>?_);refine w_5 ?_
  refine lpz (i + 1) ⟨⟨zy,c9,c9,c9,trivial⟩,⟨u9,trivial⟩⟩ ?_;exact ⟨by show i + 1 <= _;omega,az hI (a5y bot bot (by first | (exact .inl bos) | (exact .inr (a3x.1 (by simp only [uh] at *;omega)))))⟩
 refine w_5 ?_;exact hx8 rfl rfl rfl (⟨ccb (aq8 bos bos bos fun j hj=>hI j bos).symm,trivial⟩)
theorem af3:goodFn Tryz.prog 178:=wgx Tryz.func178
theorem aa1 (n:Int) (l:List Rw):a7 Tryz.prog 178 [pT n l] (ae [pB (tok n l)]):=by
 refine hpx (nt:=69) Tryz.func178 ?_;refine sx7 ?_;refine m9 0 ?_;refine w_9 ?_;refine am rfl rfl (fun r0=>?_) (fun r0=>?_)
 ·
  have h0:=tz1 r0;(iterate 3 refine k9 (gtf r0) ?_);refine rq rfl rfl rfl rfl rfl ?_ (hp:=r0);refine qy ?_;(iterate 4 refine k9 rfl ?_);refine w_2 ?_;refine a8 _ rfl (fun _=>?_) (fun e=>by cases e);refine w_4 ?_
  exact hx8 rfl rfl rfl (⟨ccb (a1f bos).symm,trivial⟩)
 have h0:=tz2 r0;(iterate 3 refine qy ?_ (hg:=(gff r0)));refine w_2 ?_;refine am rfl rfl (fun r1=>?_) (fun r1=>?_)
 ·
  have h1:=tz1 (au r0 r1);(iterate 4 refine k9 (gtf r1) ?_);refine rq rfl rfl rfl rfl rfl ?_ (hp:=r1);refine aq ?_;refine a8 _ rfl (fun _=>?_) (fun e=>by cases e);refine w_4 ?_
  exact hx8 rfl rfl rfl (⟨ccb (a1f bos).symm,trivial⟩)
 have h1:=tz2 (au r0 r1);(iterate 4 refine qy ?_ (hg:=(gff r1)));refine w_2 ?_;refine a8 _ rfl (fun r2=>?_) (fun r2=>?_)
 · have h2:=tz1 (au r1 r2);refine w_4 ?_;exact hx8 rfl rfl rfl (⟨ccb (a1f bos).symm,trivial⟩)
 have h2:=tz2 (au r1 r2);refine w_7 ?_;refine a6 (ι:=Nat) ⟨[(1,some _)],[(0,some _)]⟩ ⟨⟨c9,trivial⟩,⟨u9,trivial⟩⟩ (fun i=>⟨[(3,some (vI i))],[]⟩) (fun i=>i <= l.length /\ (∀ j,j < i -> o7 n l j = true)) (fun i=>l.length - i) (0) (⟨bkl _,bq⟩) ⟨⟨zy,trivial⟩,trivial⟩ ?_;rintro i ⟨hi,hI⟩;refine w_9 ?_;refine hcd (fun h3=>?_) (fun h3=>?_)
 ·
  refine x9 ?_;refine am rfl rfl (fun r4=>?_) (fun r4=>?_)
  ·
   have h4:=tz2 (d6 r4);(iterate 3 refine k9 (gtf r4) ?_);(iterate 13 refine k9 rfl ?_);refine k9 (gtf r4) ?_;refine rq rfl rfl rfl rfl rfl ?_ (hp:=r4);refine w_2 ?_;refine a8 _ rfl (fun _=>?_) (fun e=>by cases e);refine w_4 ?_
   exact hx8 rfl rfl rfl (⟨ccb (a36 (i:=i) bos bpa).symm,trivial⟩)
  have h4:=tz1 (d5 r4);(iterate 3 refine qy ?_ (hg:=(gff r4)));refine am rfl rfl (fun r5=>?_) (fun r5=>?_)
  ·
   have h5:=tz1 r5;(iterate 11 refine qy ?_ (hg:=(gtt r5)));refine qcx ap2 (b2r (l.getD ((i:Int) - 1).toNat default) (l.getD i default)) ?_ (hg:=(gtt r5));refine qy ?_ (hg:=(gtt r5));refine qy ?_ (hg:=(gff r4));refine w_3 ?_
   refine a8 _ rfl (fun r6=>?_) (fun r6=>?_)
   · have h6:=d6 (bp r5 (au r4 r6));refine w_4 ?_;exact hx8 rfl rfl rfl (⟨ccb (a36 (i:=i) bos bpa).symm,trivial⟩)
   have h6:=d5 (bp r5 (au r4 r6));refine w_6 ?_;refine a6 (ι:=Nat) ⟨[(1,some _),(3,some _)],[(0,some _)]⟩ ⟨⟨c9,c9,trivial⟩,⟨u9,trivial⟩⟩ (fun k=>⟨[(4,some (vI k))],[]⟩) (fun k=>k <= (l.getD i default).length /\ (∀ j,j < k -> decide ((l.getD i default).getD j default < 0) = false)) (fun k=>(l.getD i default).length - k) (0) (⟨bkl _,bq⟩) ⟨⟨zy,trivial⟩,trivial⟩ ?_;rintro k ⟨hk,hK⟩;refine w_8 ?_;refine hcd (fun h7=>?_) (fun h7=>?_)
   ·
    refine cu ?_;refine rq rfl rfl rfl rfl rfl ?_ (hp:=⟨rfl,by omega,by simp only [bkw];omega⟩);refine w_3 ?_;refine hcd (fun h8=>?_) (fun h8=>?_)
    · refine w_4 ?_;exact hx8 rfl rfl rfl (⟨ccb (a36 (i:=i) bos (y8 (ahf (i:=k) bos (decide_eq_true bot)))).symm,trivial⟩)
    refine w_6 ?_;refine lpz (k + 1) ⟨⟨zy,c9,c9,trivial⟩,⟨u9,trivial⟩⟩ ?_;exact ⟨by show k + 1 <= _;omega,az hK (decide_eq_false bot)⟩
   refine w_6 ?_;refine lpz (i + 1) ⟨⟨zy,c9,trivial⟩,⟨u9,trivial⟩⟩ ?_;exact ⟨by show i + 1 <= _;omega,az hI (a5y bot (ahc fun j hj=>hK j bos) (by first | (exact .inl bos) | (exact .inr (by simp_all [uh]))))⟩
  have h5:=tz2 r5;(iterate 13 refine k9 (gft r5) ?_);refine rq rfl rfl rfl rfl (gff r4) ?_ (hp:=r5);refine w_3 ?_;refine a8 _ rfl (fun e=>Bool.noConfusion ((zf r4 rfl).symm.trans e)) (fun _=>?_);refine w_6 ?_
  refine a6 (ι:=Nat) ⟨[(1,some _),(3,some _)],[(0,some _)]⟩ ⟨⟨c9,c9,trivial⟩,⟨u9,trivial⟩⟩ (fun k=>⟨[(4,some (vI k))],[]⟩) (fun k=>k <= (l.getD i default).length /\ (∀ j,j < k -> decide ((l.getD i default).getD j default < 0) = false)) (fun k=>(l.getD i default).length - k) (0) (⟨bkl _,bq⟩) ⟨⟨zy,trivial⟩,trivial⟩ ?_;rintro k ⟨hk,hK⟩;refine w_8 ?_;refine hcd (fun h9=>?_) (fun h9=>?_)
  ·
   refine cu ?_;refine rq rfl rfl rfl rfl rfl ?_ (hp:=⟨rfl,by omega,by simp only [bkw];omega⟩);refine w_3 ?_;refine hcd (fun h10=>?_) (fun h10=>?_)
   · refine w_4 ?_;exact hx8 rfl rfl rfl (⟨ccb (a36 (i:=i) bos (y8 (ahf (i:=k) bos (decide_eq_true bot)))).symm,trivial⟩)
   refine w_6 ?_;refine lpz (k + 1) ⟨⟨zy,c9,c9,trivial⟩,⟨u9,trivial⟩⟩ ?_;exact ⟨by show k + 1 <= _;omega,az hK (decide_eq_false bot)⟩
  refine w_6 ?_;refine lpz (i + 1) ⟨⟨zy,c9,trivial⟩,⟨u9,trivial⟩⟩ ?_;exact ⟨by show i + 1 <= _;omega,az hI (a5y bot (ahc fun j hj=>hK j bos) (by first | (exact .inl bos) | (exact .inr (by simp_all [uh]))))⟩
 refine w_5 ?_;exact hx8 rfl rfl rfl (⟨ccb (aq8 bos bos bos fun j hj=>hI j bos).symm,trivial⟩)
theorem ads:goodFn Tryz.prog 175:=wgx Tryz.func175
theorem a9g (n:Int) (l:List Rw) (p m:List Fd):a7 Tryz.prog 175 [pT n l,pP (fdl p),pP (fdl m)] (ae [pI (if tok n l = true then c8 n p m else 1)]):=by
 refine hpx (nt:=15) Tryz.func175 ?_;refine sx7 ?_;refine m9 0 ?_;refine w_6 ?_;refine qcx b8v (b96 n l) ?_;refine w_2 ?_;refine hcv (fun h0=>?_) (fun h0=>?_)
 · refine w_4 ?_;exact hx8 rfl rfl rfl (⟨cci (if_neg bp5).symm,trivial⟩)
 refine w_7 ?_;refine qcx a1n (y7 n p m) ?_;refine w_2 ?_;exact hx8 rfl rfl rfl (⟨cci (if_pos bp5).symm,trivial⟩)
theorem alp:goodFn Tryz.prog 69:=wgx Tryz.func69
theorem aj6 (n:Int) (l:List Rw) (row:Rw):a7 Tryz.prog 69 [pT n l,pZ row] (ae [pB (l.any fun r=>decide (r = row))]):=by
 refine hpx (nt:=20) Tryz.func69 ?_;refine sx7 ?_;refine m9 0 ?_;refine w_2 ?_;refine bu (ι:=Unit) ⟨[],[]⟩ ⟨trivial,trivial⟩ (fun _i=>⟨[],[]⟩) (fun _i=>(l.any fun r=>decide (r = row)) = false) ?_ ?_
 ·
  refine cq ?_;refine b3q 0 1 rfl rfl fun hn=>?_;refine w_4 ?_;refine a6 (ι:=Nat) ⟨[(1,some _),(2,some _)],[(0,some _)]⟩ ⟨⟨c9,c9,trivial⟩,⟨u9,trivial⟩⟩ (fun i=>⟨[(5,some (vI i))],[]⟩) (fun i=>i <= l.length /\ (∀ j,j < i -> decide (l.getD j default = row) = false)) (fun i=>l.length - i) (0) (⟨bkl _,bq⟩) ⟨⟨zy,trivial⟩,trivial⟩ ?_;rintro i ⟨hi,hI⟩;refine w_9 ?_;refine hcd (fun h0=>?_) (fun h0=>?_)
  ·
   refine cu ?_;refine qcx b6p (beo (l.getD i default) row) ?_;refine aq ?_;refine hcb (fun h1=>?_) (fun h1=>?_)
   · refine w_4 ?_;exact hx8 rfl rfl rfl (⟨ccb (ahf (p:=fun r=>decide (r = row)) (i:=i) bos bot).symm,trivial⟩)
   refine w_6 ?_;refine lpz (i + 1) ⟨⟨zy,c9,c9,trivial⟩,⟨u9,trivial⟩⟩ ?_;exact ⟨by show i + 1 <= _;omega,az hI bot⟩
  refine dp ?_;refine ⟨(), ?_, ?_⟩
  · exact ahc fun j hj=>hI j bos
  exact ⟨trivial,trivial⟩
 rintro _ hj;refine w_4 ?_;exact hx8 rfl rfl rfl (⟨ccb hj.symm,trivial⟩)
end
section
def md (a b:Rw) (s:AS) (i:Nat):Rw:=(List.range b.length).map fun (j:Nat)=>if j < i /\ dq s (j:Int) = true then a.getD j default else b.getD j default
theorem sd (a b:Rw) (s:AS) (i:Nat):(md a b s i).length = b.length:=by unfold md;simp
section
variable {a b:Rw} {i:Nat} {s:AS}
theorem adh {k:Nat} (hk:k < b.length):(md a b s i).getD k default = if k < i /\ dq s (k:Int) = true then a.getD k default else b.getD k default:=by
 unfold md;rw [bkk,bl6,bm5 hk];rfl
theorem afz (a b:Rw) (s:AS):b = md a b s 0:=pz (sd a b s 0).symm fun j hj=>by
 rw [adh hj,if_neg bos]
theorem ake (a b:Rw) (s:AS):md a b s b.length = dz a b s:=by
 unfold md dz;refine bn1 fun k hk=>?_;have:=bl0.1 hk;by_cases h:dq s (k:Int) = true
 · rw [if_pos ⟨this,h⟩,if_pos h]
 rw [if_neg (fun e=>h e.2),if_neg h]
theorem bdk (h:¬ dq s (i:Int) = true):md a b s i = md a b s (i + 1):=by
 unfold md;refine bn1 fun k hk=>?_;by_cases h2:k < i /\ dq s (k:Int) = true
 · rw [if_pos h2,if_pos ⟨by omega,h2.2⟩]
 rw [if_neg h2, if_neg fun e => h2 ⟨by rcases bn5 (bng e.1) with h3 | h3
                                       · exact h3
                                       subst h3;exact absurd e.2 h,e.2⟩]
theorem bb5 (hi:i < b.length) (h:dq s (i:Int) = true):(md a b s i).set i (a.getD i default) = md a b s (i + 1):=by
 refine pz (by rw [bmv,sd,sd]) fun j hj=>?_;rw [bmv,sd] at hj;rw [adh hj];by_cases e:j = i
 · subst e
   rw [nx (by rw [sd];exact hj),if_pos ⟨by omega,h⟩]
 rw [getD_set_ne' e,adh hj];by_cases h2:j < i /\ dq s (j:Int) = true
 · rw [if_pos h2,if_pos ⟨by omega,h2.2⟩]
 rw [if_neg h2,if_neg fun e2=>h2 ⟨by omega,e2.2⟩]
theorem oi (a b:Rw) (s:AS):(dz a b s).length = b.length:=by unfold dz;simp
theorem v7 {n:Nat} {k:Nat} (hi:i < b.length) (h:dq s (i:Int) = true) (hn:n = b.length:=by rfl) (hk:k = i:=by rfl):
 CoO (.arr true 1 3 n (er (lf zC (md a b s i)) k 0 [.raw (.int .i64 (a.getD i default))])) (.arr true 1 3 n (lf zC (md a b s (i + 1)))):=by
 rw [<- bb5 hi h];exact adl (fun h=>h) (hn.trans (sd a b s i).symm) hk (by rw [sd];exact hi) rfl
theorem ve {n:Nat} (h:¬ dq s (i:Int) = true):CoO (.arr true 1 3 n (lf zC (md a b s i))) (.arr true 1 3 n (lf zC (md a b s (i + 1)))):=by
 rw [<- bdk h];exact CoO.refl _
theorem aqi {n:Nat} {r:Rw} (h:r.length = n):CoC (.one (.sl n 1 false (lf zC r))) (pZ r):=by subst h;exact CoC.refl _
end
end
section
open Go.Proofs
theorem ae1:goodFn Tryz.prog 237:=wgx Tryz.func237
theorem adi (n:Nat) (c:Bool) (f:Nat -> Nat -> PV) (hn:n <= 17592186044416) :
 da Tryz.prog 237 [.one (.p (.sl n 1 c f))] [] (.v (.one (.ref 0 n))) [(0, .arr true 1 3 n f)] []:=by
 refine hfx (nt:=8) Tryz.func237 ?_;refine sx7 ?_;refine du true rfl rfl rfl rfl rfl trivial ?_;refine aq ?_;refine a7h (ι:=Bool) (fun c=>⟨[(0,some (bn (.sl n 1 c f)))],[]⟩) (fun _=>True) ?_ fun c _=>?_
 · rcases bmj n with hz | h0
   · subst hz
     refine hw_exact' 0 rfl fun ad cap hcap=>?_;refine sx7 ?_;(iterate 2 refine du true rfl rfl rfl rfl rfl trivial ?_);refine aq ?_;refine a8 ad.isNone rfl (fun hc=>?_) (fun hc=>?_)
     · refine sx7 ?_
       refine du true rfl rfl rfl rfl rfl trivial ?_;refine aq ?_;refine cj 2 0 true 1 3 f boz rfl (CoP.sl rfl (.inr rfl) (fun h=>h) fun i j hi _=>absurd hi (bkp i)) (.inr rfl) rfl ?_;refine jn ?_;refine ⟨.inr rfl, ?_⟩;exact ⟨_,_,rfl,trivial,CoR.refl _,⟨u9,trivial⟩⟩
     refine d7 ?_;exact ⟨false,trivial,⟨⟨_,rfl,CoP.raw_sl hcap⟩,trivial⟩,trivial⟩
   refine sx7 ?_;refine du true rfl rfl rfl rfl rfl trivial ?_;refine du true rfl rfl rfl rfl rfl h0 ?_;refine aq ?_;refine a8 false rfl (fun hc=>by cases hc) (fun hc=>?_);refine d7 ?_;exact ⟨c,trivial,⟨c9,trivial⟩,trivial⟩
 refine sx7 ?_;refine a1l 0 rfl rfl rfl rfl rfl rfl trivial ?_;refine du true rfl rfl rfl rfl rfl trivial ?_;refine a6g 0 true rfl rfl rfl rfl rfl rfl ⟨trivial,rfl,rfl,rfl, .inl rfl,by show 0 + n <= 9223372036854775807;omega,by show (0 + n) * 8 <= 140737488355328;omega,fun _=>.inl rfl⟩ ?_;refine du true rfl rfl rfl rfl rfl trivial ?_;refine w_2 ?_;refine ⟨.inr rfl, ?_⟩;refine ⟨_,_,rfl,trivial,CoR.of_eq (by show HR.v (.one (.ref 0 (0 + n))) = _;rw [blc]),⟨⟨_,rfl, ?_⟩,trivial⟩⟩;exact ⟨fun h=>h,rfl,rfl,(blc n).symm,fun i j _ _=>CoP.of_eq (by simp [fh])⟩
theorem b0t (n:Nat) (c:Bool) (f:Nat -> Nat -> PV) (hn:n <= 17592186044416):a7 Tryz.prog 237 [.one (.sl n 1 c f)] (.v (.one (.sl n 1 false f))) :=
 da.pure (args:=[.one (.sl n 1 c f)]) (l:=[.one (.ref 0 n)]) (adi n c f hn) rfl ⟨rfl,trivial⟩
theorem aed:goodFn Tryz.prog 200:=wgx Tryz.func200
theorem aog (n:Int) (l:List Rw) (hl:∀ i,i < l.length -> (l.getD i default).length <= 17592186044416) (hl2:l.length <= 5864062014805):da Tryz.prog 200 [.agg [.p (.raw (.int .i64 n)), .p (rl l)]] [] (.v (.agg [.p (.raw (.int .i64 n)), .ref 901 l.length])) [(901, .arr true 1 84 l.length (lf rC l))] []:=by
 refine hfx (nt:=25) Tryz.func200 ?_;refine sx7 ?_;refine m9 0 ?_;refine m9 1 ?_;refine w_6 ?_;refine m9 2 ?_;refine w_2 ?_;refine qw 2 1 901 true 1 84 (lf rC l) boz rfl rfl (CoP.sl rfl (.inr rfl) (fun h=>h) (fun i j hi _=>absurd hi (bkp i))) (.inr rfl) rfl rfl ?_;refine w_9 ?_;refine a6 (ι:=Nat) ⟨[(2,some _),(3,some _),(10,some _),(11,some _)],[(1,some _)]⟩ ⟨⟨c9,c9,c9,c9,trivial⟩,⟨u9,trivial⟩⟩ (fun i=>⟨[(12,some (vI i))],[(2,some (.box [.p (.raw (.int .i64 n)), .ref 901 i])),(901,some (.arr true 1 84 i (lf rC l)))]⟩) (fun i=>i <= l.length) (fun i=>l.length - i) (0) (bkl _) ⟨⟨zy,trivial⟩,⟨u9,u9,trivial⟩⟩ ?_;rintro i hi;refine w_5 ?_;refine hcd (fun h0=>?_) (fun h0=>?_)
 · refine ik ?_;refine qcx ae1 (b0t (l.getD i default).length false (lf zC (l.getD i default)) (hl i bos)) ?_;refine m9 3 ?_;refine r9 4 true ?_;refine w_8 ?_;exact lpx (i + 1) ⟨⟨zy,c9,c9,c9,c9,trivial⟩,⟨u9,⟨_,rfl,(po (fun h=>h) (fun j hj=>by obtain rfl:j = 0:=bos;exact CoP.refl _))⟩,u9,trivial⟩⟩
 obtain rfl:i = l.length:=by omega
 refine w_7 ?_;refine ⟨.inr rfl, ?_⟩;exact ⟨_,_,rfl,bou,CoR.refl _,⟨u9,trivial⟩⟩
theorem ayp (n:Int) (l:List Rw) (hl:∀ i,i < l.length -> (l.getD i default).length <= 17592186044416) (hl2:l.length <= 5864062014805):a7 Tryz.prog 200 [pT n l] (ae [pT n l]) :=
 da.pure (args:=[pT n l]) (l:=[.agg [.p (.raw (.int .i64 n)), .ref 901 l.length]]) (aog n l hl hl2) rfl ⟨⟨trivial,rfl,trivial⟩,trivial⟩
theorem ap4:goodFn Tryz.prog 226:=wgx Tryz.func226
theorem avx (a b:Rw) (s:AS) (h:a.length = b.length) (h16:b.length <= 16):a7 Tryz.prog 226 [pZ a,pZ b,pA s] (ae [pZ (dz a b s)]):=by
 refine hpx (nt:=30) Tryz.func226 ?_;refine w_7 ?_;refine fc9 ae1 (adi b.length false (lf zC b) bos) trivial ?_;refine ce ?_;refine a6 (ι:=Nat) ⟨[(0,some _),(2,some _),(7,some _),(12,some _)],[]⟩ ⟨⟨c9,c9,c9,c9,trivial⟩,trivial⟩ (fun i=>⟨[(13,some (vI i))],[(0,some (.arr true 1 3 b.length (lf zC (md a b s i))))]⟩) (fun i=>i <= b.length) (fun i=>b.length - i) (0) (bkl _) ⟨⟨zy,trivial⟩,⟨⟨_,rfl,(CoO.of_eq (by rw [<- afz]))⟩,trivial⟩⟩ ?_;rintro i hi;refine w_5 ?_;refine hcd (fun h0=>?_) (fun h0=>?_)
 ·
  refine x9 ?_;refine hcd (fun h1=>?_) (fun h1=>?_)
  · refine oe ?_;exact lpx (i + 1) ⟨⟨zy,c9,c9,c9,c9,trivial⟩,⟨⟨_,rfl,(by first | exact v7 bos ((tx bos).1 bot) | exact ve (fun e=>absurd ((tx bos).2 e) bot))⟩,trivial⟩⟩
  refine w_5 ?_;exact lpx (i + 1) ⟨⟨zy,c9,c9,c9,c9,trivial⟩,⟨⟨_,rfl,(by first | exact v7 bos ((tx bos).1 bot) | exact ve (fun e=>absurd ((tx bos).2 e) bot))⟩,trivial⟩⟩
 obtain rfl:i = b.length:=by omega
 refine w_2 ?_;refine av 7 rfl rfl rfl ?_;refine w_4 ?_;exact hx8 rfl rfl rfl (⟨by rw [ake];exact aqi (oi a b s),trivial⟩)
end
end Go.Hx

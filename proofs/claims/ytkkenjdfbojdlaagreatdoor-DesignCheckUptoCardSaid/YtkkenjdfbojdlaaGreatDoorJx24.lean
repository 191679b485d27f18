/- A part of the proof: X1 X2 Ch3 X3 X4 Ch4 X5. -/
import Derived.Test.YtkkenjdfbojdlaaGreatDoorJx23
set_option linter.all false
set_option maxRecDepth 100000
set_option maxHeartbeats 1000000
namespace Go.Hx
section
open Go.Proofs
def bg6 (l:List Int) (g k:Nat) (caps:Nat -> PV) (V:Int -> Bool) (hg:goodFn bo6 g) (hV:∀ x,a6 bo6 g (pI x :: gq caps k 0) (a7 [pB (V x)])):a6 bo6 276 [pP (zl l),pP (.fn g k caps)] (a7 [pI (idx V l)]):=by
 refine hpx (nt:=19) Tryz.func276 ?_;refine ce ?_;refine c6 0 rfl fun hn=>?_;refine w_3 ?_;refine dq (ι:=Unit) kn km (fun _i=>⟨[],[]⟩) (fun _i=>idx V l = -1) ?_ ?_
 ·
  refine w_7 ?_;refine ae (ι:=Nat) (ka 0 (ka 1 (ka 7 kn))) km (fun i=>⟨[(8,some (vI i))],[]⟩) (fun i=>i <= l.length /\ (∀ j,j < i -> V (l.getD j default) = false)) (fun i=>l.length - i) (0) (⟨bji _,bm⟩) kk ?_;rintro i ⟨hi,hI⟩;refine w_5 ?_;refine hcd (fun h0=>?_) (fun h0=>?_)
  ·
   refine lb ?_;refine rc rfl rfl rfl rfl rfl rfl hg (hV (l.getD i default)) (CoL.refl _) rfl rfl ?_;refine c5 ?_;refine hcb (fun h1=>?_) (fun h1=>?_)
   · refine v_5 ?_;exact ⟨cci (re (i:=i) bnl hI h1).symm,trivial⟩
   refine w_5 ?_;refine lpz (i + 1) kk ?_;exact ⟨by show i + 1 <= _;omega,ax hI (h1)⟩
  refine dj ?_;refine ⟨(), ?_, ?_⟩
  · exact qx fun j hj=>hI j bnl
  exact ⟨trivial,trivial⟩
 rintro _ hj;refine v_4 ?_;exact ⟨cci hj.symm,trivial⟩
def bhw (l:List Rw) (g k:Nat) (caps:Nat -> PV) (V:Rw -> Bool) (hg:goodFn bo6 g) (hV:∀ x,a6 bo6 g (pZ x :: gq caps k 0) (a7 [pB (V x)])):a6 bo6 202 [pP (rl l),pP (.fn g k caps)] (a7 [pI (idx V l)]):=by
 refine hpx (nt:=19) Tryz.func202 ?_;refine ce ?_;refine c6 0 rfl fun hn=>?_;refine w_3 ?_;refine dq (ι:=Unit) kn km (fun _i=>⟨[],[]⟩) (fun _i=>idx V l = -1) ?_ ?_
 ·
  refine w_7 ?_;refine ae (ι:=Nat) (ka 0 (ka 1 (ka 7 kn))) km (fun i=>⟨[(8,some (vI i))],[]⟩) (fun i=>i <= l.length /\ (∀ j,j < i -> V (l.getD j default) = false)) (fun i=>l.length - i) (0) (⟨bji _,bm⟩) kk ?_;rintro i ⟨hi,hI⟩;refine w_5 ?_;refine hcd (fun h0=>?_) (fun h0=>?_)
  ·
   refine lb ?_;refine rc rfl rfl rfl rfl rfl rfl hg (hV (l.getD i default)) (CoL.refl _) rfl rfl ?_;refine c5 ?_;refine hcb (fun h1=>?_) (fun h1=>?_)
   · refine v_5 ?_;exact ⟨cci (re (i:=i) bnl hI h1).symm,trivial⟩
   refine w_5 ?_;refine lpz (i + 1) kk ?_;exact ⟨by show i + 1 <= _;omega,ax hI (h1)⟩
  refine dj ?_;refine ⟨(), ?_, ?_⟩
  · exact qx fun j hj=>hI j bnl
  exact ⟨trivial,trivial⟩
 rintro _ hj;refine v_4 ?_;exact ⟨cci hj.symm,trivial⟩
def bh6 (l:List Int) (g k:Nat) (caps:Nat -> PV) (V:Int -> Bool) (hg:goodFn bo6 g) (hV:∀ x,a6 bo6 g (pI x :: gq caps k 0) (a7 [pB (V x)])):a6 bo6 250 [pP (zl l),pP (.fn g k caps)] (a7 [pB (l.any V)]):=by
 refine hpx (nt:=9) Tryz.func250 ?_;refine w_8 ?_;refine qcx (wgx Tryz.func276) (bg6 l g k caps V hg hV) ?_;refine v_3 ?_;exact ⟨ccb ze,trivial⟩
def bh9 (l:List Rw) (g k:Nat) (caps:Nat -> PV) (V:Rw -> Bool) (hg:goodFn bo6 g) (hV:∀ x,a6 bo6 g (pZ x :: gq caps k 0) (a7 [pB (V x)])):a6 bo6 152 [pP (rl l),pP (.fn g k caps)] (a7 [pB (l.any V)]):=by
 refine hpx (nt:=9) Tryz.func152 ?_;refine w_8 ?_;refine qcx (wgx Tryz.func202) (bhw l g k caps V hg hV) ?_;refine v_3 ?_;exact ⟨ccb ze,trivial⟩
def adc:goodFn bo6 154:=wgx Tryz.func154
def axv (a b:Rw):a6 bo6 154 [pZ a,pZ b] (a7 [pB (decide (a = b))]):=by
 refine hpx (nt:=26) Tryz.func154 ?_;refine ce ?_;refine c6 0 rfl fun hn0=>?_;refine c6 1 rfl fun hn1=>?_;refine fj ?_;refine hcn (fun h0=>?_) (fun h0=>?_)
 · refine v_4 ?_;exact ⟨ccb (decide_eq_false fun e=>by subst e;omega).symm,trivial⟩
 refine d6 ?_;refine dq (ι:=Unit) kn km (fun _i=>⟨[],[]⟩) (fun _i=>a = b) ?_ ?_
 ·
  refine w_7 ?_;refine ae (ι:=Nat) (ka 0 (ka 1 (ka 12 kn))) km (fun i=>⟨[(13,some (vI i))],[]⟩) (fun i=>i <= a.length /\ (∀ j,j < i -> decide (a.getD j default = b.getD j default) = true)) (fun i=>a.length - i) (0) (⟨bji _,bm⟩) kk ?_;rintro i ⟨hi,hI⟩;refine w_5 ?_;refine hcd (fun h1=>?_) (fun h1=>?_)
  ·
   refine aei ?_;refine hcn (fun h2=>?_) (fun h2=>?_)
   · refine v_4 ?_;exact ⟨ccb (decide_eq_false fun e=>by subst e;simp_all).symm,trivial⟩
   refine w_5 ?_;refine lpz (i + 1) kk ?_;exact ⟨by show i + 1 <= _;omega,ax hI (decide_eq_true bnx)⟩
  refine dj ?_;refine ⟨(), ?_, ?_⟩
  · exact b2j bnl fun j hj=>hI j bnl
  exact ⟨trivial,trivial⟩
 rintro _ hj;refine v_4 ?_;exact ⟨ccb (decide_eq_true hj).symm,trivial⟩
def bft (a b:Rw):a6 bo6 133 [pZ a,pZ b] (a7 [pB (decide (a = b))]):=by
 refine hpx (nt:=26) Tryz.func133 ?_;refine ce ?_;refine c6 0 rfl fun hn0=>?_;refine c6 1 rfl fun hn1=>?_;refine fj ?_;refine hcn (fun h0=>?_) (fun h0=>?_)
 · refine v_4 ?_;exact ⟨ccb (decide_eq_false fun e=>by subst e;omega).symm,trivial⟩
 refine d6 ?_;refine dq (ι:=Unit) kn km (fun _i=>⟨[],[]⟩) (fun _i=>a = b) ?_ ?_
 ·
  refine w_5 ?_;refine ae (ι:=Nat) (ka 0 (ka 1 kn)) km (fun i=>⟨[(5,some (vI i))],[]⟩) (fun i=>i <= a.length /\ (∀ j,j < i -> decide (a.getD j default = b.getD j default) = true)) (fun i=>a.length - i) (0) (⟨bji _,bm⟩) kk ?_;rintro i ⟨hi,hI⟩;refine w_8 ?_;refine hcd (fun h1=>?_) (fun h1=>?_)
  ·
   refine sh ?_;refine hcn (fun h2=>?_) (fun h2=>?_)
   · refine v_4 ?_;exact ⟨ccb (decide_eq_false fun e=>by subst e;simp_all).symm,trivial⟩
   refine w_6 ?_;refine lpz (i + 1) kk ?_;exact ⟨by show i + 1 <= _;omega,ax hI (decide_eq_true bnx)⟩
  refine dj ?_;refine ⟨(), ?_, ?_⟩
  · exact b2j bnl fun j hj=>hI j bnl
  exact ⟨trivial,trivial⟩
 rintro _ hj;refine v_4 ?_;exact ⟨ccb (decide_eq_true hj).symm,trivial⟩
def b28 (a b:Rw):a6 bo6 220 [pZ a,pZ b] (a7 [pI (qc a b)]):=by
 refine hpx (nt:=36) Tryz.func220 ?_;refine ce ?_;refine c6 0 rfl fun hn0=>?_;refine c6 1 rfl fun hn1=>?_;refine w_3 ?_;refine dq (ι:=Unit) (ka 0 (ka 1 kn)) km (fun _i=>⟨[],[]⟩) (fun _i=>∀ j,j < a.length -> j < b.length /\ a.getD j default = b.getD j default) ?_ ?_
 ·
  refine w_7 ?_;refine ae (ι:=Nat) (ka 0 (ka 1 (ka 9 (ka 10 kn)))) km (fun i=>⟨[(11,some (vI i))],[]⟩) (fun i=>i <= a.length /\ (∀ j,j < i -> j < b.length /\ a.getD j default = b.getD j default)) (fun i=>a.length - i) (0) (⟨bji _,bm⟩) kk ?_;rintro i ⟨hi,hI⟩;refine w_5 ?_;refine hcd (fun h0=>?_) (fun h0=>?_)
  ·
   refine a0w ?_;refine hcd (fun h1=>?_) (fun h1=>?_)
   · refine v_4 ?_;exact ⟨cci (b8i (i:=i) bnl bnl fun j hj=>(hI j hj).2),trivial⟩
   refine j9 ?_;refine qcx (wgx Tryz.func245) (b1j (a.getD i default) (b.getD i default)) ?_;refine w_7 ?_;refine hcn (fun h2=>?_) (fun h2=>?_)
   · refine v_5 ?_;exact ⟨cci (b4f (i:=i) bnl bnl (fun j hj=>(hI j hj).2) bnm),trivial⟩
   refine w_5 ?_;refine lpz (i + 1) kk ?_;exact ⟨by show i + 1 <= _;omega,ax hI (⟨by omega,bd6 bnm⟩)⟩
  refine dj ?_;refine ⟨(), ?_, ?_⟩
  · exact fun j hj=>hI j bnl
  exact kk
 rintro _ hj;refine w_9 ?_;refine hcd (fun h3=>?_) (fun h3=>?_)
 · refine v_4 ?_;exact ⟨cci (b48 bnl fun j h=>(hj j h).2),trivial⟩
 refine v_5 ?_;exact ⟨cci (b4a (bch fun j h=>(hj j h).1) bnl fun j h=>(hj j h).2),trivial⟩
def b2k (a b:Rw):a6 bo6 227 [pZ a,pZ b] (a7 [pB (ltZ a b)]):=by
 refine hpx (nt:=41) Tryz.func227 ?_;refine ce ?_;refine c6 0 rfl fun hn0=>?_;refine c6 1 rfl fun hn1=>?_;refine w_3 ?_;refine dq (ι:=Unit) (ka 0 (ka 1 kn)) km (fun _i=>⟨[],[]⟩) (fun _i=>∀ j,j < a.length -> j < b.length -> a.getD j default = b.getD j default) ?_ ?_
 ·
  refine w_5 ?_;refine ae (ι:=Nat) (ka 0 (ka 1 kn)) km (fun i=>⟨[(5,some (vI i))],[]⟩) (fun i=>i <= a.length /\ (∀ j,j < i -> j < b.length /\ a.getD j default = b.getD j default)) (fun i=>a.length - i) (0) (⟨bji _,bm⟩) kk ?_;rintro i ⟨hi,hI⟩;refine w_8 ?_;refine ah rfl rfl (fun r0=>?_) (fun r0=>?_)
  ·
   have h0:=tz1 r0;(iterate 4 refine qy ?_ (hg:=(gtt r0)));refine w_2 ?_;refine ak _ rfl (fun r1=>?_) (fun r1=>?_)
   ·
    have h1:=tz1 (bn r0 r1);refine sh ?_;refine hcn (fun h2=>?_) (fun h2=>?_)
    · refine nx ?_;exact hx8 rfl rfl rfl (⟨ccb (akm (i:=i) bnl bnl (fun j h=>(hI j h).2) bnm).symm,trivial⟩)
    refine w_6 ?_;refine lpz (i + 1) kk ?_;exact ⟨by show i + 1 <= _;omega,ax hI (⟨by omega,by assumption⟩)⟩
   have h1:=tz2 (bn r0 r1);refine dj ?_;refine ⟨(), ?_, ?_⟩
   · exact fun j h1 h2=>(hI j bnl).2
   exact kk
  have h0:=tz2 r0;(iterate 4 refine k9 (gft r0) ?_);refine rq rfl rfl rfl rfl rfl ?_ (hp:=r0);refine w_3 ?_;refine ⟨(), ?_, ?_⟩
  · exact fun j h1 h2=>(hI j bnl).2
  exact kk
 rintro _ hj;refine v_9 ?_;exact ⟨ccb (by rw [a7j hj,decide_eq_decide];omega),trivial⟩
end
section
open Go.Proofs
abbrev bxZ (a:PV):PV:=.vp 1 fun j=>[a].getD j .any
def b9o (r row:Rw):a6 bo6 153 [pZ r,pP (bxZ (zl row))] (a7 [pB (decide (r = row))]):=by
 refine hpx (nt:=7) Tryz.func153 ?_;refine w_8 ?_;refine qcx adc (axv _ _) ?_;refine v_2 ?_;exact CoL.refl _
def a7g:goodFn bo6 101:=wgx Tryz.func101
def ahf (n:Int) (l:List Rw) (row:Rw):a6 bo6 101 [pT n l,pZ row] (a7 [pB (l.any fun r=>decide (r = row))]):=by
 refine hpx (nt:=9) Tryz.func101 ?_;refine sx7 ?_;refine m9 0 ?_;refine m9 1 ?_;refine w_3 ?_;refine cw 3 rfl rfl rfl ?_;refine w_4 ?_;refine qcx (wgx Tryz.func152) (bh9 l 153 1 (fun i=>[bxZ (zl row)].getD i .any) (fun r=>decide (r = row)) (wgx Tryz.func153) (fun r=>b9o r row)) ?_;refine v_2 ?_;exact CoL.refl _
def bhf (x:Int):a6 bo6 251 [pI x] (a7 [pB (decide (x < 0))]):=by
 refine hpx (nt:=5) Tryz.func251 ?_;refine c7 ?_;exact hx8 rfl rfl rfl (CoL.refl _)
def a2b:goodFn bo6 179:=wgx Tryz.func179
def a1w (a b:Rw) (s:AS) (h:b.length = a.length) (h16:a.length <= 16):a6 bo6 179 [pZ a,pZ b,pA s] (a7 [pB (k8 a b s)]):=by
 refine hpx (nt:=28) Tryz.func179 ?_;refine ce ?_;refine c6 0 rfl fun hn0=>?_;refine c6 1 rfl fun hn1=>?_;refine w_3 ?_;refine dq (ι:=Unit) kn km (fun _i=>⟨[],[]⟩) (fun _i=>k8 a b s = true) ?_ ?_
 ·
  refine w_5 ?_;refine ae (ι:=Nat) (ka 0 (ka 1 (ka 2 kn))) km (fun i=>⟨[(7,some (vI i))],[]⟩) (fun i=>i <= a.length /\ (∀ j:Nat,j < i -> (dl s (j:Int) = true -> a.getD j default = b.getD j default))) (fun i=>a.length - i) (0) (⟨bji _,bm⟩) kk ?_;rintro i ⟨hi,hI⟩;refine w_8 ?_;refine hcd (fun h0=>?_) (fun h0=>?_)
  ·
   refine w_7 ?_;refine qcx v7 (aa2 s (i:Int)) ?_;refine qy ?_;refine ah rfl rfl (fun r1=>?_) (fun r1=>?_)
   ·
    have h1:=r1;(iterate 9 refine qy ?_ (hg:=(gtt r1)));refine w_3 ?_;refine ak _ rfl (fun r2=>?_) (fun r2=>?_)
    · have h2:=tz2 (cj (bn r1 r2));refine v_4 ?_;exact ⟨ccb (ax1 (i:=i) bnl bnx bnx).symm,trivial⟩
    have h2:=tz1 (ck (bn r1 r2));refine w_6 ?_;refine lpz (i + 1) kk ?_;exact ⟨by show i + 1 <= _;omega,ax hI (fun hh=>by simp_all)⟩
   have h1:=r1;(iterate 9 refine k9 (gft r1) ?_);refine rq rfl rfl rfl rfl rfl ?_ (hp:=r1);refine w_9 ?_;refine lpz (i + 1) kk ?_
   exact ⟨by show i + 1 <= _;omega,ax hI (fun hh=>by simp_all)⟩
  refine dj ?_;refine ⟨(), ?_, ?_⟩
  · exact a21 fun j hj=>hI j bnl
  exact ⟨trivial,trivial⟩
 rintro _ hj;refine v_4 ?_;exact ⟨ccb hj.symm,trivial⟩
def a1j:goodFn bo6 223:=wgx Tryz.func223
def a4o (a b:Rw) (s:AS) (h:b.length = a.length) (h16:a.length <= 16):a6 bo6 223 [pZ a,pZ b,pA s] (a7 [pB (k8 a b s)]):=by
 refine hpx (nt:=30) Tryz.func223 ?_;refine ce ?_;refine c6 0 rfl fun hn0=>?_;refine c6 1 rfl fun hn1=>?_;refine w_3 ?_;refine dq (ι:=Unit) kn km (fun _i=>⟨[],[]⟩) (fun _i=>k8 a b s = true) ?_ ?_
 ·
  refine w_7 ?_;refine ae (ι:=Nat) (ka 0 (ka 1 (ka 2 (ka 9 kn)))) km (fun i=>⟨[(10,some (vI i))],[]⟩) (fun i=>i <= a.length /\ (∀ j:Nat,j < i -> (dl s (j:Int) = true -> a.getD j default = b.getD j default))) (fun i=>a.length - i) (0) (⟨bji _,bm⟩) kk ?_;rintro i ⟨hi,hI⟩;refine w_5 ?_;refine hcd (fun h0=>?_) (fun h0=>?_)
  ·
   refine sh ?_;refine ah rfl rfl (fun r1=>?_) (fun r1=>?_)
   ·
    have h1:=tz1 r1;(iterate 9 refine qy ?_ (hg:=(gtt r1)));refine w_3 ?_;refine ak _ rfl (fun r2=>?_) (fun r2=>?_)
    · have h2:=tz2 (cj (bn r1 r2));refine v_4 ?_;exact ⟨ccb (ax1 (i:=i) bnl ((ud bnl).1 bnm) bnm).symm,trivial⟩
    have h2:=tz1 (ck (bn r1 r2));refine w_5 ?_;refine lpz (i + 1) kk ?_;exact ⟨by show i + 1 <= _;omega,ax hI (fun hh=>by first | (exact absurd ((ud bnl).2 hh) bnm) | assumption)⟩
   have h1:=tz2 r1;(iterate 9 refine k9 (gft r1) ?_);refine rq rfl rfl rfl rfl rfl ?_ (hp:=r1);refine w_8 ?_;refine lpz (i + 1) kk ?_
   exact ⟨by show i + 1 <= _;omega,ax hI (fun hh=>by first | (exact absurd ((ud bnl).2 hh) bnm) | assumption)⟩
  refine dj ?_;refine ⟨(), ?_, ?_⟩
  · exact a21 fun j hj=>hI j bnl
  exact ⟨trivial,trivial⟩
 rintro _ hj;refine v_4 ?_;exact ⟨ccb hj.symm,trivial⟩
end
section
def be (n:Int) (l m:List Fd):Int:=if bh n l = 0 then (if 64 < m.length then 3 else if m.all (inU n) = true then 0 else 1) else bh n l
section
variable {n:Int} {l m:List Fd}
def av1 (h:¬ bh n l = 0):bh n l = be n l m:=by unfold be;rw [if_neg h]
def auj (h:bh n l = 0) (h2:64 < m.length):3 = be n l m:=by unfold be;rw [if_pos h,if_pos h2]
def akp {i:Nat} (h:bh n l = 0) (h2:¬ 64 < m.length) (hi:i < m.length) (hu:¬ inU n (m.getD i default) = true):1 = be n l m:=by
 unfold be;rw [if_pos h,if_neg h2,if_neg (fun e=>absurd (aas (l:=m) (p:=inU n) hi (bjp.2 hu)) (by rw [e];decide))]
def awo (h:bh n l = 0) (h2:¬ 64 < m.length) (hu:∀ j,j < m.length -> inU n (m.getD j default) = true):0 = be n l m:=by
 unfold be;rw [if_pos h,if_neg h2,if_pos (ahj hu)]
def ji (h:be n l m = 0):0 <= n /\ n <= 16 /\ l.length <= 64 /\ l.all (inU n) = true /\ m.length <= 64 /\ m.all (inU n) = true:=by
 unfold be at h;by_cases h1:bh n l = 0
 · rw [if_pos h1] at h
   obtain ⟨a,b,c,d⟩:=fv h1;by_cases h2:64 < m.length
   · rw [if_pos h2] at h;omega
   rw [if_neg h2] at h;by_cases h3:m.all (inU n) = true
   · exact ⟨a,b,c,d,by omega,h3⟩
   rw [if_neg h3] at h;omega
 rw [if_neg h1] at h;exact absurd h h1
end
section
variable {l:List Rw}
def a5j {n:Int} {i:Nat} (h1:((l.getD i default).length:Int) = n) (h2:(l.getD i default).any (fun x=>decide (x < 0)) = false) (h3:i = 0 \/ ltZ (l.getD (i - 1) default) (l.getD i default) = true):ny n l i = true:=by
 unfold ny;rw [decide_eq_true h1,h2]
 rcases h3 with h3 | h3
 · rw [decide_eq_true h3];rfl
 rw [h3];simp
def a6s {n:Int} {i:Nat} (h:¬ ((l.getD i default).length:Int) = n):ny n l i = false:=by unfold ny;rw [decide_eq_false h];rfl
def yb {n:Int} {i:Nat} (h:(l.getD i default).any (fun x=>decide (x < 0)) = true):ny n l i = false:=by unfold ny;rw [h];simp
def a1n {n:Int} {i:Nat} (h0:0 < i) (h:¬ ltZ (l.getD (i - 1) default) (l.getD i default) = true):ny n l i = false:=by
 unfold ny;rw [bjp.2 h,decide_eq_false (by omega:¬ i = 0)];simp
def a3a {a b:Rw}:qc a b < 0 <-> ltZ a b = true:=by
 unfold qc;by_cases e:a = b
 · subst e
   rw [if_pos rfl,uo];exact ⟨fun h=>absurd h bnl,fun h=>by cases h⟩
 rw [if_neg e];by_cases h:ltZ a b = true
 · rw [if_pos h];exact ⟨fun _=>h,fun _=>by omega⟩
 rw [if_neg h];exact ⟨fun h=>absurd h bnl,fun h2=>absurd h2 h⟩
end
end
section
open Go.Proofs
def aog (n:Int) (s:AS):a6 bo6 99 [pI n,pA s] (a7 [pB (decide (sub s (a8 n)))]):=by
 refine hpx (nt:=9) Tryz.func99 ?_;refine w_8 ?_;refine qcx ov (oj n) ?_;refine qcx np (w6 _ _) ?_;refine v_2 ?_;exact CoL.refl _
def wu:goodFn bo6 53:=wgx Tryz.func53
def sv (n:Int) (l m:List Fd):a6 bo6 53 [pI n,pP (fdl l),pP (fdl m)] (a7 [pI (be n l m)]):=by
 refine hpx (nt:=34) Tryz.func53 ?_;refine ce ?_;refine c6 2 rfl fun hn2=>?_;refine w_8 ?_;refine qcx uy (z8 n l) ?_;refine w_7 ?_;refine hcn (fun h0=>?_) (fun h0=>?_)
 · refine v_5 ?_;exact ⟨cci (av1 bnm),trivial⟩
 have hv0:bh n l = 0:=by assumption
 obtain ⟨hn0,hn16,_,_⟩:=fv hv0;refine w_8 ?_;refine hcd (fun h1=>?_) (fun h1=>?_)
 · refine v_4 ?_;exact ⟨cci (auj hv0 bnl),trivial⟩
 refine d6 ?_;refine dq (ι:=Unit) kn km (fun _i=>⟨[],[]⟩) (fun _i=>∀ j,j < m.length -> inU n (m.getD j default) = true) ?_ ?_
 ·
  refine w_7 ?_;refine ae (ι:=Nat) (ka 0 (ka 19 (ka 20 kn))) km (fun i=>⟨[(21,some (vI i))],[]⟩) (fun i=>i <= m.length /\ (∀ j,j < i -> inU n (m.getD j default) = true)) (fun i=>m.length - i) (0) (⟨bji _,bm⟩) kk ?_;rintro i ⟨hi,hI⟩;refine w_5 ?_;refine hcd (fun h2=>?_) (fun h2=>?_)
  ·
   refine w_7 ?_;refine m9 0 ?_;refine j9 ?_;refine hcn (fun h3=>?_) (fun h3=>?_)
   · refine v_4 ?_;exact ⟨cci (akp (i:=i) hv0 bnl bnl (fun e=>absurd (a84.2 e) bnm)),trivial⟩
   refine w_5 ?_;refine lpz (i + 1) kk ?_;exact ⟨by show i + 1 <= _;omega,ax hI (a84.1 bnm)⟩
  refine dj ?_;refine ⟨(), ?_, ?_⟩
  · exact fun j hj=>hI j bnl
  exact ⟨trivial,trivial⟩
 rintro _ hj;refine v_4 ?_;exact ⟨cci (awo hv0 bnl hj),trivial⟩
def a2m:goodFn bo6 44:=wgx Tryz.func44
def vo (n:Int) (l m:List Fd):a6 bo6 44 [pI n,pP (fdl l),pP (fdl m)] (a7 [pI (be n l m)]):=by
 refine hpx (nt:=42) Tryz.func44 ?_;refine ce ?_;refine c6 2 rfl fun hn2=>?_;refine w_8 ?_;refine qcx (wgx Tryz.func98) (apv n l) ?_;refine w_7 ?_;refine hcn (fun h0=>?_) (fun h0=>?_)
 · refine v_5 ?_;exact ⟨cci (av1 bnm),trivial⟩
 have hv0:bh n l = 0:=by assumption
 obtain ⟨hn0,hn16,_,_⟩:=fv hv0;refine w_8 ?_;refine hcd (fun h1=>?_) (fun h1=>?_)
 · refine v_4 ?_;exact ⟨cci (auj hv0 bnl),trivial⟩
 refine d6 ?_;refine dq (ι:=Unit) kn km (fun _i=>⟨[],[]⟩) (fun _i=>∀ j,j < m.length -> inU n (m.getD j default) = true) ?_ ?_
 ·
  refine w_5 ?_;refine ae (ι:=Nat) (ka 0 (ka 2 kn)) km (fun i=>⟨[(8,some (vI i))],[]⟩) (fun i=>i <= m.length /\ (∀ j,j < i -> inU n (m.getD j default) = true)) (fun i=>m.length - i) (0) (⟨bji _,bm⟩) kk ?_;rintro i ⟨hi,hI⟩;refine w_8 ?_;refine hcd (fun h2=>?_) (fun h2=>?_)
  ·
   refine ct ?_;refine qcx (wgx Tryz.func99) (aog n _) ?_;refine w_2 ?_;refine ah rfl rfl (fun r3=>?_) (fun r3=>?_)
   ·
    have h3:=cj r3;(iterate 8 refine k9 (gtf r3) ?_);refine rq rfl rfl rfl rfl rfl ?_ (hp:=r3);refine w_6 ?_
    exact hx8 rfl rfl rfl (⟨cci (akp (i:=i) hv0 bnl bnl (fun e=>by rw [ph bnl bnl] at e;simp_all)),trivial⟩)
   have h3:=ck r3;(iterate 6 refine qy ?_ (hg:=(gff r3)));refine qcx (wgx Tryz.func99) (aog n _) ?_ (hg:=(gff r3));refine qy ?_ (hg:=(gff r3));refine w_2 ?_;refine ak _ rfl (fun r4=>?_) (fun r4=>?_)
   · have h4:=cj (am r3 r4);refine v_4 ?_;exact ⟨cci (akp (i:=i) hv0 bnl bnl (fun e=>by rw [ph bnl bnl] at e;simp_all)),trivial⟩
   have h4:=ck (am r3 r4);refine w_6 ?_;refine lpz (i + 1) kk ?_;exact ⟨by show i + 1 <= _;omega,ax hI ((ph bnl bnl).2 bnx)⟩
  refine dj ?_;refine ⟨(), ?_, ?_⟩
  · exact fun j hj=>hI j bnl
  exact ⟨trivial,trivial⟩
 rintro _ hj;refine v_4 ?_;exact ⟨cci (awo hv0 bnl hj),trivial⟩
end
section
open Go.Proofs
def tq (i:Nat):((i:Int) - 1).toNat = i - 1:=by omega
def bo3 {p:Prop} (h:p:=by first | exact a6s bnm | exact yb bnm | exact a1n bnl (by simp_all [tq])):p:=h
def b40 (n:Int) (l:List Rw):a6 bo6 222 [pT n l] (a7 [pB (tok n l)]):=by
 refine hpx (nt:=50) Tryz.func222 ?_;refine sx7 ?_;refine m9 0 ?_;refine w_9 ?_;refine ah rfl rfl (fun r0=>?_) (fun r0=>?_)
 ·
  have h0:=tz1 r0;(iterate 3 refine k9 (gtf r0) ?_);refine rq rfl rfl rfl rfl rfl ?_ (hp:=r0);refine qy ?_;(iterate 4 refine k9 rfl ?_);refine w_7 ?_
  exact hx8 rfl rfl rfl (⟨ccb (a1u bnl).symm,trivial⟩)
 have h0:=tz2 r0;(iterate 3 refine qy ?_ (hg:=(gff r0)));refine w_2 ?_;refine ah rfl rfl (fun r1=>?_) (fun r1=>?_)
 ·
  have h1:=tz1 (am r0 r1);(iterate 4 refine k9 (gtf r1) ?_);refine rq rfl rfl rfl rfl rfl ?_ (hp:=r1);refine w_6 ?_
  exact hx8 rfl rfl rfl (⟨ccb (a1u bnl).symm,trivial⟩)
 have h1:=tz2 (am r0 r1);(iterate 4 refine qy ?_ (hg:=(gff r1)));refine w_2 ?_;refine ak _ rfl (fun r2=>?_) (fun r2=>?_)
 · have h2:=tz1 (am r1 r2);refine v_4 ?_;exact ⟨ccb (a1u bnl).symm,trivial⟩
 have h2:=tz2 (am r1 r2);refine c7 ?_;refine ae (ι:=Nat) (ka 1 (ka 20 (ka 21 kn))) (kb 0 km) (fun i=>⟨[(22,some (vI i))],[]⟩) (fun i=>i <= l.length /\ (∀ j,j < i -> ny n l j = true)) (fun i=>l.length - i) (0) (⟨bji _,bm⟩) kk ?_;rintro i ⟨hi,hI⟩;refine w_5 ?_;refine hcd (fun h3=>?_) (fun h3=>?_)
 ·
  refine alx ?_;refine ah rfl rfl (fun r4=>?_) (fun r4=>?_)
  ·
   have h4:=tz2 (cj r4);(iterate 2 refine k9 (gtf r4) ?_);refine rq rfl rfl rfl rfl rfl ?_ (hp:=r4);refine w_6 ?_
   exact hx8 rfl rfl rfl (⟨ccb (a3o (i:=i) bnl bo3).symm,trivial⟩)
  have h4:=tz1 (ck r4);refine qy ?_ (hg:=(gff r4));refine qcx (wgx Tryz.func250) (bh6 (l.getD i default) 251 0 (fun _=>.any) (fun x=>decide (x < 0)) (wgx Tryz.func251) (fun x=>bhf x)) ?_ (hg:=(gff r4));refine w_2 ?_;refine ak _ rfl (fun r5=>?_) (fun r5=>?_)
  · have h5:=am r4 r5;refine v_4 ?_;exact ⟨ccb (a3o (i:=i) bnl bo3).symm,trivial⟩
  have h5:=am r4 r5;refine w_6 ?_;refine ah rfl rfl (fun r6=>?_) (fun r6=>?_)
  ·
   have h6:=tz1 r6;(iterate 7 refine qy ?_ (hg:=(gtt r6)));refine qcx (wgx Tryz.func220) (b28 (l.getD ((i:Int) - 1).toNat default) (l.getD i default)) ?_ (hg:=(gtt r6));refine qy ?_ (hg:=(gtt r6));refine w_2 ?_
   refine ak _ rfl (fun r7=>?_) (fun r7=>?_)
   · have h7:=tz1 (bn r6 r7);refine v_4 ?_;exact ⟨ccb (a3o (i:=i) bnl (a1n bnl fun e=>absurd (a3a.2 e) (by simp only [tq] at *;omega))).symm,trivial⟩
   have h7:=tz2 (bn r6 r7);refine w_5 ?_;refine lpz (i + 1) kk ?_;exact ⟨by show i + 1 <= _;omega,ax hI (a5j bnm bnm (by first | (exact .inl bnl) | (exact .inr (a3a.1 (by simp only [tq] at *;omega)))))⟩
  have h6:=tz2 r6;(iterate 9 refine k9 (gft r6) ?_);refine rq rfl rfl rfl rfl rfl ?_ (hp:=r6);refine w_7 ?_;refine lpz (i + 1) kk ?_
  exact ⟨by show i + 1 <= _;omega,ax hI (a5j bnm bnm (by first | (exact .inl bnl) | (exact .inr (a3a.1 (by simp only [tq] at *;omega)))))⟩
 refine v_5 ?_;exact ⟨ccb (as0 bnl bnl bnl fun j hj=>hI j bnl).symm,trivial⟩
def ade:goodFn bo6 178:=wgx Tryz.func178
def a9m (n:Int) (l:List Rw):a6 bo6 178 [pT n l] (a7 [pB (tok n l)]):=by
 refine hpx (nt:=69) Tryz.func178 ?_;refine sx7 ?_;refine m9 0 ?_;refine w_9 ?_;refine ah rfl rfl (fun r0=>?_) (fun r0=>?_)
 ·
  have h0:=tz1 r0;(iterate 3 refine k9 (gtf r0) ?_);refine rq rfl rfl rfl rfl rfl ?_ (hp:=r0);refine qy ?_;(iterate 4 refine k9 rfl ?_);refine w_7 ?_
  exact hx8 rfl rfl rfl (⟨ccb (a1u bnl).symm,trivial⟩)
 have h0:=tz2 r0;(iterate 3 refine qy ?_ (hg:=(gff r0)));refine w_2 ?_;refine ah rfl rfl (fun r1=>?_) (fun r1=>?_)
 ·
  have h1:=tz1 (am r0 r1);(iterate 4 refine k9 (gtf r1) ?_);refine rq rfl rfl rfl rfl rfl ?_ (hp:=r1);refine w_6 ?_
  exact hx8 rfl rfl rfl (⟨ccb (a1u bnl).symm,trivial⟩)
 have h1:=tz2 (am r0 r1);(iterate 4 refine qy ?_ (hg:=(gff r1)));refine w_2 ?_;refine ak _ rfl (fun r2=>?_) (fun r2=>?_)
 · have h2:=tz1 (am r1 r2);refine v_4 ?_;exact ⟨ccb (a1u bnl).symm,trivial⟩
 have h2:=tz2 (am r1 r2);refine w_7 ?_;refine ae (ι:=Nat) (ka 1 kn) (kb 0 km) (fun i=>⟨[(3,some (vI i))],[]⟩) (fun i=>i <= l.length /\ (∀ j,j < i -> ny n l j = true)) (fun i=>l.length - i) (0) (⟨bji _,bm⟩) kk ?_;rintro i ⟨hi,hI⟩;refine w_9 ?_;refine hcd (fun h3=>?_) (fun h3=>?_)
 ·
  refine sh ?_;refine ah rfl rfl (fun r4=>?_) (fun r4=>?_)
  ·
   have h4:=tz2 (cj r4);(iterate 3 refine k9 (gtf r4) ?_);(iterate 13 refine k9 rfl ?_);refine k9 (gtf r4) ?_;refine rq rfl rfl rfl rfl rfl ?_ (hp:=r4);refine w_7 ?_
   exact hx8 rfl rfl rfl (⟨ccb (a3o (i:=i) bnl bo3).symm,trivial⟩)
  have h4:=tz1 (ck r4);(iterate 3 refine qy ?_ (hg:=(gff r4)));refine ah rfl rfl (fun r5=>?_) (fun r5=>?_)
  ·
   have h5:=tz1 r5;(iterate 11 refine qy ?_ (hg:=(gtt r5)));refine qcx (wgx Tryz.func227) (b2k (l.getD ((i:Int) - 1).toNat default) (l.getD i default)) ?_ (hg:=(gtt r5));refine qy ?_ (hg:=(gtt r5));refine qy ?_ (hg:=(gff r4));refine w_3 ?_
   refine ak _ rfl (fun r6=>?_) (fun r6=>?_)
   · have h6:=cj (bn r5 (am r4 r6));refine v_4 ?_;exact ⟨ccb (a3o (i:=i) bnl bo3).symm,trivial⟩
   have h6:=ck (bn r5 (am r4 r6));refine w_6 ?_;refine ae (ι:=Nat) (ka 1 (ka 3 kn)) (kb 0 km) (fun k=>⟨[(4,some (vI k))],[]⟩) (fun k=>k <= (l.getD i default).length /\ (∀ j,j < k -> decide ((l.getD i default).getD j default < 0) = false)) (fun k=>(l.getD i default).length - k) (0) (⟨bji _,bm⟩) kk ?_;rintro k ⟨hk,hK⟩;refine w_8 ?_;refine hcd (fun h7=>?_) (fun h7=>?_)
   ·
    refine ct ?_;refine rq rfl rfl rfl rfl rfl ?_ (hp:=⟨rfl,by omega,by simp only [bjo];omega⟩);refine w_3 ?_;refine hcd (fun h8=>?_) (fun h8=>?_)
    · refine v_4 ?_;exact ⟨ccb (a3o (i:=i) bnl (yb (ahc (i:=k) bnl (decide_eq_true bnm)))).symm,trivial⟩
    refine w_6 ?_;refine lpz (k + 1) kk ?_;exact ⟨by show k + 1 <= _;omega,ax hK (decide_eq_false bnm)⟩
   refine w_6 ?_;refine lpz (i + 1) kk ?_;exact ⟨by show i + 1 <= _;omega,ax hI (a5j bnm (ahg fun j hj=>hK j bnl) (by first | (exact .inl bnl) | (exact .inr (by simp_all [tq]))))⟩
  have h5:=tz2 r5;(iterate 13 refine k9 (gft r5) ?_);refine rq rfl rfl rfl rfl (gff r4) ?_ (hp:=r5);refine w_3 ?_;refine ak _ rfl (fun e=>Bool.noConfusion ((a28 r4 rfl).symm.trans e)) (fun _=>?_);refine w_6 ?_
  refine ae (ι:=Nat) (ka 1 (ka 3 kn)) (kb 0 km) (fun k=>⟨[(4,some (vI k))],[]⟩) (fun k=>k <= (l.getD i default).length /\ (∀ j,j < k -> decide ((l.getD i default).getD j default < 0) = false)) (fun k=>(l.getD i default).length - k) (0) (⟨bji _,bm⟩) kk ?_;rintro k ⟨hk,hK⟩;refine w_8 ?_;refine hcd (fun h9=>?_) (fun h9=>?_)
  ·
   refine ct ?_;refine rq rfl rfl rfl rfl rfl ?_ (hp:=⟨rfl,by omega,by simp only [bjo];omega⟩);refine w_3 ?_;refine hcd (fun h10=>?_) (fun h10=>?_)
   · refine v_4 ?_;exact ⟨ccb (a3o (i:=i) bnl (yb (ahc (i:=k) bnl (decide_eq_true bnm)))).symm,trivial⟩
   refine w_6 ?_;refine lpz (k + 1) kk ?_;exact ⟨by show k + 1 <= _;omega,ax hK (decide_eq_false bnm)⟩
  refine w_6 ?_;refine lpz (i + 1) kk ?_;exact ⟨by show i + 1 <= _;omega,ax hI (a5j bnm (ahg fun j hj=>hK j bnl) (by first | (exact .inl bnl) | (exact .inr (by simp_all [tq]))))⟩
 refine v_5 ?_;exact ⟨ccb (as0 bnl bnl bnl fun j hj=>hI j bnl).symm,trivial⟩
def aed:goodFn bo6 175:=wgx Tryz.func175
def aab (n:Int) (l:List Rw) (p m:List Fd):a6 bo6 175 [pT n l,pP (fdl p),pP (fdl m)] (a7 [pI (if tok n l = true then be n p m else 1)]):=by
 refine hpx (nt:=15) Tryz.func175 ?_;refine sx7 ?_;refine m9 0 ?_;refine w_6 ?_;refine qcx (wgx Tryz.func222) (b40 n l) ?_;refine w_2 ?_;refine hcv (fun h0=>?_) (fun h0=>?_)
 · refine v_4 ?_;exact ⟨cci (if_neg bnx).symm,trivial⟩
 refine w_7 ?_;refine qcx wu (sv n p m) ?_;refine v_2 ?_;exact ⟨cci (if_pos bnx).symm,trivial⟩
def ab4:goodFn bo6 69:=wgx Tryz.func69
def ad4 (n:Int) (l:List Rw) (row:Rw):a6 bo6 69 [pT n l,pZ row] (a7 [pB (l.any fun r=>decide (r = row))]):=by
 refine hpx (nt:=20) Tryz.func69 ?_;refine sx7 ?_;refine m9 0 ?_;refine w_2 ?_;refine dq (ι:=Unit) kn km (fun _i=>⟨[],[]⟩) (fun _i=>(l.any fun r=>decide (r = row)) = false) ?_ ?_
 ·
  refine ce ?_;refine b1d 0 1 rfl rfl fun hn=>?_;refine w_4 ?_;refine ae (ι:=Nat) (ka 1 (ka 2 kn)) (kb 0 km) (fun i=>⟨[(5,some (vI i))],[]⟩) (fun i=>i <= l.length /\ (∀ j,j < i -> decide (l.getD j default = row) = false)) (fun i=>l.length - i) (0) (⟨bji _,bm⟩) kk ?_;rintro i ⟨hi,hI⟩;refine w_9 ?_;refine hcd (fun h0=>?_) (fun h0=>?_)
  ·
   refine ct ?_;refine qcx (wgx Tryz.func133) (bft (l.getD i default) row) ?_;refine c5 ?_;refine hcb (fun h1=>?_) (fun h1=>?_)
   · refine v_4 ?_;exact ⟨ccb (ahc (p:=fun r=>decide (r = row)) (i:=i) bnl bnm).symm,trivial⟩
   refine w_6 ?_;refine lpz (i + 1) kk ?_;exact ⟨by show i + 1 <= _;omega,ax hI bnm⟩
  refine dj ?_;refine ⟨(), ?_, ?_⟩
  · exact ahg fun j hj=>hI j bnl
  exact ⟨trivial,trivial⟩
 rintro _ hj;refine v_4 ?_;exact ⟨ccb hj.symm,trivial⟩
end
section
def mc (a b:Rw) (s:AS) (i:Nat):Rw:=(List.range b.length).map fun (j:Nat)=>if j < i /\ dl s (j:Int) = true then a.getD j default else b.getD j default
def s8 (a b:Rw) (s:AS) (i:Nat):(mc a b s i).length = b.length:=by unfold mc;simp
section
variable {a b:Rw} {i:Nat} {s:AS}
def ad7 {k:Nat} (hk:k < b.length):(mc a b s i).getD k default = if k < i /\ dl s (k:Int) = true then a.getD k default else b.getD k default:=by
 unfold mc;rw [bjd,bjz,bku hk];rfl
def afl (a b:Rw) (s:AS):b = mc a b s 0:=pl (s8 a b s 0).symm fun j hj=>by
 rw [ad7 hj,if_neg bnl]
def aji (a b:Rw) (s:AS):mc a b s b.length = dw a b s:=by
 unfold mc dw;refine bls fun k hk=>?_;have:=bjs.1 hk;by_cases h:dl s (k:Int) = true
 · rw [if_pos ⟨this,h⟩,if_pos h]
 rw [if_neg (fun e=>h e.2),if_neg h]
def b9n (h:¬ dl s (i:Int) = true):mc a b s i = mc a b s (i + 1):=by
 unfold mc;refine bls fun k hk=>?_;by_cases h2:k < i /\ dl s (k:Int) = true
 · rw [if_pos h2,if_pos ⟨by omega,h2.2⟩]
 rw [if_neg h2, if_neg fun e => h2 ⟨by rcases blx (bm8 e.1) with h3 | h3
                                       · exact h3
                                       subst h3;exact absurd e.2 h,e.2⟩]
def bal (hi:i < b.length) (h:dl s (i:Int) = true):(mc a b s i).set i (a.getD i default) = mc a b s (i + 1):=by
 refine pl (by rw [blo,s8,s8]) fun j hj=>?_;rw [blo,s8] at hj;rw [ad7 hj];by_cases e:j = i
 · subst e
   rw [nq (by rw [s8];exact hj),if_pos ⟨by omega,h⟩]
 rw [getD_set_ne' e,ad7 hj];by_cases h2:j < i /\ dl s (j:Int) = true
 · rw [if_pos h2,if_pos ⟨by omega,h2.2⟩]
 rw [if_neg h2,if_neg fun e2=>h2 ⟨by omega,e2.2⟩]
def p8 (a b:Rw) (s:AS):(dw a b s).length = b.length:=by unfold dw;simp
def vg {n:Nat} {k:Nat} (hi:i < b.length) (h:dl s (i:Int) = true) (hn:n = b.length:=by rfl) (hk:k = i:=by rfl):
 CoO (.arr true 1 3 n (en (lf zC (mc a b s i)) k 0 [.raw (.int .i64 (a.getD i default))])) (.arr true 1 3 n (lf zC (mc a b s (i + 1)))):=by
 rw [<- bal hi h];exact afh (fun h=>h) (hn.trans (s8 a b s i).symm) hk (by rw [s8];exact hi) rfl
def vl {n:Nat} (h:¬ dl s (i:Int) = true):CoO (.arr true 1 3 n (lf zC (mc a b s i))) (.arr true 1 3 n (lf zC (mc a b s (i + 1)))):=by
 rw [<- b9n h];exact CoO.refl _
def arh {n:Nat} {r:Rw} (h:r.length = n):CoC (.one (.sl n 1 false (lf zC r))) (pZ r):=by subst h;exact CoC.refl _
end
end
section
open Go.Proofs
def adr:goodFn bo6 237:=wgx Tryz.func237
def adf (n:Nat) (c:Bool) (f:Nat -> Nat -> PV) (hn:n <= 17592186044416) :
 d4 bo6 237 [.one (.p (.sl n 1 c f))] [] (.v (.one (.ref 0 n))) [(0, .arr true 1 3 n f)] []:=by
 refine hfx (nt:=8) Tryz.func237 ?_;refine sx7 ?_;refine dp true rfl rfl rfl rfl rfl trivial ?_;refine c5 ?_;refine a7v (ι:=Bool) (fun c=>⟨[(0,some (bi (.sl n 1 c f)))],[]⟩) (fun _=>True) ?_ fun c _=>?_
 · rcases bl7 n with hz | h0
   · subst hz
     refine hw_exact' 0 rfl fun ad cap hcap=>?_;refine sx7 ?_;(iterate 2 refine dp true rfl rfl rfl rfl rfl trivial ?_);refine c5 ?_;refine ak ad.isNone rfl (fun hc=>?_) (fun hc=>?_)
     · refine sx7 ?_
       refine dp true rfl rfl rfl rfl rfl trivial ?_;refine c5 ?_;refine cb 2 0 true 1 3 f bns rfl (CoP.sl rfl (.inr rfl) (fun h=>h) fun i j hi _=>absurd hi (bjh i)) (.inr rfl) rfl ?_;refine hrr ?_;exact ⟨_,_,rfl,trivial,CoR.refl _,uu⟩
     refine d6 ?_;exact ⟨false,trivial,⟨⟨_,rfl,CoP.raw_sl hcap⟩,trivial⟩,trivial⟩
   refine sx7 ?_;refine dp true rfl rfl rfl rfl rfl trivial ?_;refine dp true rfl rfl rfl rfl rfl h0 ?_;refine c5 ?_;refine ak false rfl (fun hc=>by cases hc) (fun hc=>?_);refine d6 ?_;exact ⟨c,trivial,tt,trivial⟩
 refine sx7 ?_;refine a1m 0 rfl rfl rfl rfl rfl rfl trivial ?_;refine dp true rfl rfl rfl rfl rfl trivial ?_;refine a62 0 true rfl rfl rfl rfl rfl rfl ⟨trivial,rfl,rfl,rfl, .inl rfl,by show 0 + n <= 9223372036854775807;omega,by show (0 + n) * 8 <= 140737488355328;omega,fun _=>.inl rfl⟩ ?_;refine dp true rfl rfl rfl rfl rfl trivial ?_;refine c5 ?_;refine hrr ?_;refine ⟨_,_,rfl,trivial,CoR.of_eq (by show HR.v (.one (.ref 0 (0 + n))) = _;rw [bk6]),⟨⟨_,rfl, ?_⟩,trivial⟩⟩;exact ⟨fun h=>h,rfl,rfl,(bk6 n).symm,fun i j _ _=>CoP.of_eq (by simp [fe])⟩
def azk (n:Nat) (c:Bool) (f:Nat -> Nat -> PV) (hn:n <= 17592186044416):a6 bo6 237 [.one (.sl n 1 c f)] (.v (.one (.sl n 1 false f))) :=
 d4.pure (args:=[.one (.sl n 1 c f)]) (l:=[.one (.ref 0 n)]) (adf n c f hn) rfl ⟨rfl,trivial⟩
def aer:goodFn bo6 200:=wgx Tryz.func200
def aou (n:Int) (l:List Rw) (hl:∀ i,i < l.length -> (l.getD i default).length <= 17592186044416) (hl2:l.length <= 5864062014805):d4 bo6 200 [.agg [.p (.raw (.int .i64 n)), .p (rl l)]] [] (.v (.agg [.p (.raw (.int .i64 n)), .ref 901 l.length])) [(901, .arr true 1 84 l.length (lf rC l))] []:=by
 refine hfx (nt:=25) Tryz.func200 ?_;refine sx7 ?_;refine m9 0 ?_;refine m9 1 ?_;refine w_6 ?_;refine m9 2 ?_;refine w_2 ?_;refine rj 2 1 901 true 1 84 (lf rC l) bns rfl rfl (CoP.sl rfl (.inr rfl) (fun h=>h) (fun i j hi _=>absurd hi (bjh i))) (.inr rfl) rfl rfl ?_;refine w_9 ?_;refine bg (ka 2 (ka 3 (ka 10 (ka 11 kn)))) (kb 1 km) (fun i=>⟨[(12,some (vI i))],[(2,some (.box [.p (.raw (.int .i64 n)), .ref 901 i])),(901,some (.arr true 1 84 i (lf rC l)))]⟩) l.length kk ?_;rintro i hi;refine w_5 ?_;refine hcd (fun h0=>?_) (fun h0=>?_)
 · refine j9 ?_;refine qcx adr (azk (l.getD i default).length false (lf zC (l.getD i default)) (hl i bnl)) ?_;refine m9 3 ?_;refine r9 4 true ?_;refine w_8 ?_;exact lpx (i + 1) ⟨tt,⟨u9,⟨_,rfl,(pw (fun h=>h) (fun j hj=>by obtain rfl:j = 0:=bnl;exact CoP.refl _))⟩,uu⟩⟩
 obtain rfl:i = l.length:=by omega
 refine w_6 ?_;refine hrr ?_;exact ⟨_,_,rfl,bnn,CoR.refl _,uu⟩
def ayz (n:Int) (l:List Rw) (hl:∀ i,i < l.length -> (l.getD i default).length <= 17592186044416) (hl2:l.length <= 5864062014805):a6 bo6 200 [pT n l] (a7 [pT n l]) :=
 d4.pure (args:=[pT n l]) (l:=[.agg [.p (.raw (.int .i64 n)), .ref 901 l.length]]) (aou n l hl hl2) rfl ⟨⟨trivial,rfl,trivial⟩,trivial⟩
def ati (a b:Rw) (s:AS) (h:a.length = b.length) (h16:b.length <= 16):a6 bo6 226 [pZ a,pZ b,pA s] (a7 [pZ (dw a b s)]):=by
 refine hpx (nt:=30) Tryz.func226 ?_;refine w_7 ?_;refine fc9 adr (adf b.length false (lf zC b) bnl) trivial ?_;refine c7 ?_;refine bg (ka 0 (ka 2 (ka 7 (ka 12 kn)))) km (fun i=>⟨[(13,some (vI i))],[(0,some (.arr true 1 3 b.length (lf zC (mc a b s i))))]⟩) b.length ⟨tt,⟨⟨_,rfl,(CoO.of_eq (by rw [<- afl]))⟩,trivial⟩⟩ ?_;rintro i hi;refine w_5 ?_;refine hcd (fun h0=>?_) (fun h0=>?_)
 ·
  refine sh ?_;refine hcd (fun h1=>?_) (fun h1=>?_)
  · refine nx ?_;exact lpx (i + 1) ⟨tt,⟨⟨_,rfl,(by first | exact vg bnl ((ud bnl).1 bnm) | exact vl (fun e=>absurd ((ud bnl).2 e) bnm))⟩,trivial⟩⟩
  refine w_5 ?_;exact lpx (i + 1) ⟨tt,⟨⟨_,rfl,(by first | exact vg bnl ((ud bnl).1 bnm) | exact vl (fun e=>absurd ((ud bnl).2 e) bnm))⟩,trivial⟩⟩
 obtain rfl:i = b.length:=by omega
 refine w_2 ?_;refine aq 7 rfl rfl rfl ?_;refine v_4 ?_;exact ⟨by rw [aji];exact arh (p8 a b s),trivial⟩
end
end Go.Hx

/- A part of the proof: X1 X2 Ch3 X3 X4 Ch4 X5. -/
import Derived.Test.YtkkenjdfbojdlaaGreatDoorMx24
set_option linter.all false
set_option maxRecDepth 100000
set_option maxHeartbeats 1000000
namespace Go.Hx
section
open Go.Proofs
def blx (l:List Int) (g k:Nat) (caps:Nat -> PV) (V:Int -> Bool) (hg:goodFn btb g) (hV:∀ x,a7 btb g (pI x :: j2 caps k 0) (aa [pB (V x)])):a7 btb 276 [pP (zl l),pP (.fn g k caps)] (aa [pI (idx V l)]):=by
 refine hpx (nt:=19) Tryz.func276 ?_;refine cw ?_;refine cq 0 rfl fun hn=>?_;refine w_3 ?_;refine ep (ι:=Unit) kn km (fun _i=>⟨[],[]⟩) (fun _i=>idx V l = -1) ?_ ?_
 ·
  refine w_7 ?_;refine ah (ι:=Nat) (ka 0 (ka 1 (ka 7 kn))) km (fun i=>⟨[(8,some (vI i))],[]⟩) (fun i=>i <= l.length /\ (∀ j,j < i -> V (l.getD j default) = false)) (fun i=>l.length - i) (0) (⟨boe _,c5⟩) kk ?_;rintro i ⟨hi,hI⟩;refine w_5 ?_;refine hcd (fun h0=>?_) (fun h0=>?_)
  ·
   refine o8 ?_;refine rc rfl rfl rfl rfl rfl rfl hg (hV (l.getD i default)) (CoL.refl _) rfl rfl ?_;refine cu ?_;refine hcb (fun h1=>?_) (fun h1=>?_)
   · refine v_5 ?_;exact ⟨cci (w9 (i:=i) bsq hI h1).symm,trivial⟩
   refine w_5 ?_;refine lpz (i + 1) kk ?_;exact ⟨by show i + 1 <= _;omega,b7 hI (h1)⟩
  refine dy ?_;refine ⟨(), ?_, ?_⟩
  · exact wl fun j hj=>hI j bsq
  exact ⟨trivial,trivial⟩
 rintro _ hj;refine v_4 ?_;exact ⟨cci hj.symm,trivial⟩
def bmw (l:List Rw) (g k:Nat) (caps:Nat -> PV) (V:Rw -> Bool) (hg:goodFn btb g) (hV:∀ x,a7 btb g (pZ x :: j2 caps k 0) (aa [pB (V x)])):a7 btb 202 [pP (rl l),pP (.fn g k caps)] (aa [pI (idx V l)]):=by
 refine hpx (nt:=19) Tryz.func202 ?_;refine cw ?_;refine cq 0 rfl fun hn=>?_;refine w_3 ?_;refine ep (ι:=Unit) kn km (fun _i=>⟨[],[]⟩) (fun _i=>idx V l = -1) ?_ ?_
 ·
  refine w_7 ?_;refine ah (ι:=Nat) (ka 0 (ka 1 (ka 7 kn))) km (fun i=>⟨[(8,some (vI i))],[]⟩) (fun i=>i <= l.length /\ (∀ j,j < i -> V (l.getD j default) = false)) (fun i=>l.length - i) (0) (⟨boe _,c5⟩) kk ?_;rintro i ⟨hi,hI⟩;refine w_5 ?_;refine hcd (fun h0=>?_) (fun h0=>?_)
  ·
   refine o8 ?_;refine rc rfl rfl rfl rfl rfl rfl hg (hV (l.getD i default)) (CoL.refl _) rfl rfl ?_;refine cu ?_;refine hcb (fun h1=>?_) (fun h1=>?_)
   · refine v_5 ?_;exact ⟨cci (w9 (i:=i) bsq hI h1).symm,trivial⟩
   refine w_5 ?_;refine lpz (i + 1) kk ?_;exact ⟨by show i + 1 <= _;omega,b7 hI (h1)⟩
  refine dy ?_;refine ⟨(), ?_, ?_⟩
  · exact wl fun j hj=>hI j bsq
  exact ⟨trivial,trivial⟩
 rintro _ hj;refine v_4 ?_;exact ⟨cci hj.symm,trivial⟩
def bmu (l:List Int) (g k:Nat) (caps:Nat -> PV) (V:Int -> Bool) (hg:goodFn btb g) (hV:∀ x,a7 btb g (pI x :: j2 caps k 0) (aa [pB (V x)])):a7 btb 250 [pP (zl l),pP (.fn g k caps)] (aa [pB (l.any V)]):=by
 refine hpx (nt:=9) Tryz.func250 ?_;refine w_8 ?_;refine qcx (wgx Tryz.func276) (blx l g k caps V hg hV) ?_;refine v_3 ?_;exact ⟨ccb yy,trivial⟩
def bm6 (l:List Rw) (g k:Nat) (caps:Nat -> PV) (V:Rw -> Bool) (hg:goodFn btb g) (hV:∀ x,a7 btb g (pZ x :: j2 caps k 0) (aa [pB (V x)])):a7 btb 152 [pP (rl l),pP (.fn g k caps)] (aa [pB (l.any V)]):=by
 refine hpx (nt:=9) Tryz.func152 ?_;refine w_8 ?_;refine qcx (wgx Tryz.func202) (bmw l g k caps V hg hV) ?_;refine v_3 ?_;exact ⟨ccb yy,trivial⟩
def ahy:goodFn btb 154:=wgx Tryz.func154
def b5s (a b:Rw):a7 btb 154 [pZ a,pZ b] (aa [pB (decide (a = b))]):=by
 refine hpx (nt:=26) Tryz.func154 ?_;refine cw ?_;refine cq 0 rfl fun hn0=>?_;refine cq 1 rfl fun hn1=>?_;refine i6 ?_;refine hcn (fun h0=>?_) (fun h0=>?_)
 · refine v_4 ?_;exact ⟨ccb (decide_eq_false fun e=>by subst e;omega).symm,trivial⟩
 refine dp ?_;refine ep (ι:=Unit) kn km (fun _i=>⟨[],[]⟩) (fun _i=>a = b) ?_ ?_
 ·
  refine w_7 ?_;refine ah (ι:=Nat) (ka 0 (ka 1 (ka 12 kn))) km (fun i=>⟨[(13,some (vI i))],[]⟩) (fun i=>i <= a.length /\ (∀ j,j < i -> decide (a.getD j default = b.getD j default) = true)) (fun i=>a.length - i) (0) (⟨boe _,c5⟩) kk ?_;rintro i ⟨hi,hI⟩;refine w_5 ?_;refine hcd (fun h1=>?_) (fun h1=>?_)
  ·
   refine ad6 ?_;refine hcn (fun h2=>?_) (fun h2=>?_)
   · refine v_4 ?_;exact ⟨ccb (decide_eq_false fun e=>by subst e;simp_all).symm,trivial⟩
   refine w_5 ?_;refine lpz (i + 1) kk ?_;exact ⟨by show i + 1 <= _;omega,b7 hI (decide_eq_true bt5)⟩
  refine dy ?_;refine ⟨(), ?_, ?_⟩
  · exact b74 bsq fun j hj=>hI j bsq
  exact ⟨trivial,trivial⟩
 rintro _ hj;refine v_4 ?_;exact ⟨ccb (decide_eq_true hj).symm,trivial⟩
def bjf (a b:Rw):a7 btb 133 [pZ a,pZ b] (aa [pB (decide (a = b))]):=by
 refine hpx (nt:=26) Tryz.func133 ?_;refine cw ?_;refine cq 0 rfl fun hn0=>?_;refine cq 1 rfl fun hn1=>?_;refine i6 ?_;refine hcn (fun h0=>?_) (fun h0=>?_)
 · refine v_4 ?_;exact ⟨ccb (decide_eq_false fun e=>by subst e;omega).symm,trivial⟩
 refine dp ?_;refine ep (ι:=Unit) kn km (fun _i=>⟨[],[]⟩) (fun _i=>a = b) ?_ ?_
 ·
  refine w_5 ?_;refine ah (ι:=Nat) (ka 0 (ka 1 kn)) km (fun i=>⟨[(5,some (vI i))],[]⟩) (fun i=>i <= a.length /\ (∀ j,j < i -> decide (a.getD j default = b.getD j default) = true)) (fun i=>a.length - i) (0) (⟨boe _,c5⟩) kk ?_;rintro i ⟨hi,hI⟩;refine w_8 ?_;refine hcd (fun h1=>?_) (fun h1=>?_)
  ·
   refine uk ?_;refine hcn (fun h2=>?_) (fun h2=>?_)
   · refine v_4 ?_;exact ⟨ccb (decide_eq_false fun e=>by subst e;simp_all).symm,trivial⟩
   refine w_6 ?_;refine lpz (i + 1) kk ?_;exact ⟨by show i + 1 <= _;omega,b7 hI (decide_eq_true bt5)⟩
  refine dy ?_;refine ⟨(), ?_, ?_⟩
  · exact b74 bsq fun j hj=>hI j bsq
  exact ⟨trivial,trivial⟩
 rintro _ hj;refine v_4 ?_;exact ⟨ccb (decide_eq_true hj).symm,trivial⟩
def b79 (a b:Rw):a7 btb 220 [pZ a,pZ b] (aa [pI (te a b)]):=by
 refine hpx (nt:=36) Tryz.func220 ?_;refine cw ?_;refine cq 0 rfl fun hn0=>?_;refine cq 1 rfl fun hn1=>?_;refine w_3 ?_;refine ep (ι:=Unit) (ka 0 (ka 1 kn)) km (fun _i=>⟨[],[]⟩) (fun _i=>∀ j,j < a.length -> j < b.length /\ a.getD j default = b.getD j default) ?_ ?_
 ·
  refine w_7 ?_;refine ah (ι:=Nat) (ka 0 (ka 1 (ka 9 (ka 10 kn)))) km (fun i=>⟨[(11,some (vI i))],[]⟩) (fun i=>i <= a.length /\ (∀ j,j < i -> j < b.length /\ a.getD j default = b.getD j default)) (fun i=>a.length - i) (0) (⟨boe _,c5⟩) kk ?_;rintro i ⟨hi,hI⟩;refine w_5 ?_;refine hcd (fun h0=>?_) (fun h0=>?_)
  ·
   refine a3d ?_;refine hcd (fun h1=>?_) (fun h1=>?_)
   · refine v_4 ?_;exact ⟨cci (bc7 (i:=i) bsq bsq fun j hj=>(hI j hj).2),trivial⟩
   refine kw ?_;refine qcx (wgx Tryz.func245) (b73 (a.getD i default) (b.getD i default)) ?_;refine w_7 ?_;refine hcn (fun h2=>?_) (fun h2=>?_)
   · refine v_5 ?_;exact ⟨cci (b82 (i:=i) bsq bsq (fun j hj=>(hI j hj).2) bsr),trivial⟩
   refine w_5 ?_;refine lpz (i + 1) kk ?_;exact ⟨by show i + 1 <= _;omega,b7 hI (⟨by omega,be8 bsr⟩)⟩
  refine dy ?_;refine ⟨(), ?_, ?_⟩
  · exact fun j hj=>hI j bsq
  exact kk
 rintro _ hj;refine w_9 ?_;refine hcd (fun h3=>?_) (fun h3=>?_)
 · refine v_4 ?_;exact ⟨cci (bd0 bsq fun j h=>(hj j h).2),trivial⟩
 refine v_5 ?_;exact ⟨cci (bdf (bgw fun j h=>(hj j h).1) bsq fun j h=>(hj j h).2),trivial⟩
def b6z (a b:Rw):a7 btb 227 [pZ a,pZ b] (aa [pB (ltZ a b)]):=by
 refine hpx (nt:=41) Tryz.func227 ?_;refine cw ?_;refine cq 0 rfl fun hn0=>?_;refine cq 1 rfl fun hn1=>?_;refine w_3 ?_;refine ep (ι:=Unit) (ka 0 (ka 1 kn)) km (fun _i=>⟨[],[]⟩) (fun _i=>∀ j,j < a.length -> j < b.length -> a.getD j default = b.getD j default) ?_ ?_
 ·
  refine w_5 ?_;refine ah (ι:=Nat) (ka 0 (ka 1 kn)) km (fun i=>⟨[(5,some (vI i))],[]⟩) (fun i=>i <= a.length /\ (∀ j,j < i -> j < b.length /\ a.getD j default = b.getD j default)) (fun i=>a.length - i) (0) (⟨boe _,c5⟩) kk ?_;rintro i ⟨hi,hI⟩;refine w_8 ?_;refine ai rfl rfl (fun r0=>?_) (fun r0=>?_)
  ·
   have h0:=tz1 r0;(iterate 4 refine qy ?_ (hg:=(gtt r0)));refine w_2 ?_;refine am _ rfl (fun r1=>?_) (fun r1=>?_)
   ·
    have h1:=tz1 (bq r0 r1);refine uk ?_;refine hcn (fun h2=>?_) (fun h2=>?_)
    · refine t7 ?_;exact hx8 rfl rfl rfl (⟨ccb (apw (i:=i) bsq bsq (fun j h=>(hI j h).2) bsr).symm,trivial⟩)
    refine w_6 ?_;refine lpz (i + 1) kk ?_;exact ⟨by show i + 1 <= _;omega,b7 hI (⟨by omega,by assumption⟩)⟩
   have h1:=tz2 (bq r0 r1);refine dy ?_;refine ⟨(), ?_, ?_⟩
   · exact fun j h1 h2=>(hI j bsq).2
   exact kk
  have h0:=tz2 r0;(iterate 4 refine k9 (gft r0) ?_);refine w_4 ?_;refine ⟨(), ?_, ?_⟩
  · exact fun j h1 h2=>(hI j bsq).2
  exact kk
 rintro _ hj;refine v_9 ?_;exact ⟨ccb (by rw [a9u hj,decide_eq_decide];omega),trivial⟩
end
section
open Go.Proofs
abbrev bxZ (a:PV):PV:=.vp 1 fun j=>[a].getD j .any
def bgm (r row:Rw):a7 btb 153 [pZ r,pP (bxZ (zl row))] (aa [pB (decide (r = row))]):=by
 refine hpx (nt:=7) Tryz.func153 ?_;refine w_8 ?_;refine qcx ahy (b5s _ _) ?_;refine v_2 ?_;exact CoL.refl _
def aaa:goodFn btb 101:=wgx Tryz.func101
def akp (n:Int) (l:List Rw) (row:Rw):a7 btb 101 [pT n l,pZ row] (aa [pB (l.any fun r=>decide (r = row))]):=by
 refine hpx (nt:=9) Tryz.func101 ?_;refine sx7 ?_;refine m9 0 ?_;refine m9 1 ?_;refine w_3 ?_;refine dc 3 rfl rfl rfl ?_;refine w_4 ?_;refine qcx (wgx Tryz.func152) (bm6 l 153 1 (fun i=>[bxZ (zl row)].getD i .any) (fun r=>decide (r = row)) (wgx Tryz.func153) (fun r=>bgm r row)) ?_;refine v_2 ?_;exact CoL.refl _
def bmh (x:Int):a7 btb 251 [pI x] (aa [pB (decide (x < 0))]):=by
 refine hpx (nt:=5) Tryz.func251 ?_;refine d5 ?_;exact hx8 rfl rfl rfl (CoL.refl _)
def ara (a b:Rw) (s:AS) (h:b.length = a.length) (h16:a.length <= 16):a7 btb 179 [pZ a,pZ b,pA s] (aa [pB (nx a b s)]):=by
 refine hpx (nt:=28) Tryz.func179 ?_;refine cw ?_;refine cq 0 rfl fun hn0=>?_;refine cq 1 rfl fun hn1=>?_;refine w_3 ?_;refine ep (ι:=Unit) kn km (fun _i=>⟨[],[]⟩) (fun _i=>nx a b s = true) ?_ ?_
 ·
  refine w_5 ?_;refine ah (ι:=Nat) (ka 0 (ka 1 (ka 2 kn))) km (fun i=>⟨[(7,some (vI i))],[]⟩) (fun i=>i <= a.length /\ (∀ j:Nat,j < i -> (bw s (j:Int) = true -> a.getD j default = b.getD j default))) (fun i=>a.length - i) (0) (⟨boe _,c5⟩) kk ?_;rintro i ⟨hi,hI⟩;refine w_8 ?_;refine hcd (fun h0=>?_) (fun h0=>?_)
  ·
   refine w_7 ?_;refine qcx a0h (agk s (i:Int)) ?_;refine qy ?_;refine ai rfl rfl (fun r1=>?_) (fun r1=>?_)
   ·
    have h1:=r1;(iterate 9 refine qy ?_ (hg:=(gtt r1)));refine w_3 ?_;refine am _ rfl (fun r2=>?_) (fun r2=>?_)
    · have h2:=tz2 (ci (bq r1 r2));refine v_4 ?_;exact ⟨ccb (b0c (i:=i) bsq bt5 bt5).symm,trivial⟩
    have h2:=tz1 (cj (bq r1 r2));refine w_6 ?_;refine lpz (i + 1) kk ?_;exact ⟨by show i + 1 <= _;omega,b7 hI (fun hh=>by simp_all)⟩
   have h1:=r1;(iterate 9 refine k9 (gft r1) ?_);refine d5 ?_;refine lpz (i + 1) kk ?_
   exact ⟨by show i + 1 <= _;omega,b7 hI (fun hh=>by simp_all)⟩
  refine dy ?_;refine ⟨(), ?_, ?_⟩
  · exact a4c fun j hj=>hI j bsq
  exact ⟨trivial,trivial⟩
 rintro _ hj;refine v_4 ?_;exact ⟨ccb hj.symm,trivial⟩
def a3u:goodFn btb 223:=wgx Tryz.func223
def a7v (a b:Rw) (s:AS) (h:b.length = a.length) (h16:a.length <= 16):a7 btb 223 [pZ a,pZ b,pA s] (aa [pB (nx a b s)]):=by
 refine hpx (nt:=30) Tryz.func223 ?_;refine cw ?_;refine cq 0 rfl fun hn0=>?_;refine cq 1 rfl fun hn1=>?_;refine w_3 ?_;refine ep (ι:=Unit) kn km (fun _i=>⟨[],[]⟩) (fun _i=>nx a b s = true) ?_ ?_
 ·
  refine w_7 ?_;refine ah (ι:=Nat) (ka 0 (ka 1 (ka 2 (ka 9 kn)))) km (fun i=>⟨[(10,some (vI i))],[]⟩) (fun i=>i <= a.length /\ (∀ j:Nat,j < i -> (bw s (j:Int) = true -> a.getD j default = b.getD j default))) (fun i=>a.length - i) (0) (⟨boe _,c5⟩) kk ?_;rintro i ⟨hi,hI⟩;refine w_5 ?_;refine hcd (fun h0=>?_) (fun h0=>?_)
  ·
   refine uk ?_;refine ai rfl rfl (fun r1=>?_) (fun r1=>?_)
   ·
    have h1:=tz1 r1;(iterate 9 refine qy ?_ (hg:=(gtt r1)));refine w_3 ?_;refine am _ rfl (fun r2=>?_) (fun r2=>?_)
    · have h2:=tz2 (ci (bq r1 r2));refine v_4 ?_;exact ⟨ccb (b0c (i:=i) bsq ((x5 bsq).1 bsr) bsr).symm,trivial⟩
    have h2:=tz1 (cj (bq r1 r2));refine w_5 ?_;refine lpz (i + 1) kk ?_;exact ⟨by show i + 1 <= _;omega,b7 hI (fun hh=>by first | (exact absurd ((x5 bsq).2 hh) bsr) | assumption)⟩
   have h1:=tz2 r1;(iterate 9 refine k9 (gft r1) ?_);refine w_9 ?_;refine lpz (i + 1) kk ?_
   exact ⟨by show i + 1 <= _;omega,b7 hI (fun hh=>by first | (exact absurd ((x5 bsq).2 hh) bsr) | assumption)⟩
  refine dy ?_;refine ⟨(), ?_, ?_⟩
  · exact a4c fun j hj=>hI j bsq
  exact ⟨trivial,trivial⟩
 rintro _ hj;refine v_4 ?_;exact ⟨ccb hj.symm,trivial⟩
end
section
def be (n:Int) (l m:List Fd):Int:=if au n l = 0 then (if 64 < m.length then 3 else if m.all (inU n) = true then 0 else 1) else au n l
section
variable {n:Int} {l m:List Fd}
def b0z (h:¬ au n l = 0):au n l = be n l m:=by unfold be;rw [if_neg h]
def ays (h:au n l = 0) (h2:64 < m.length):3 = be n l m:=by unfold be;rw [if_pos h,if_pos h2]
def aqd {i:Nat} (h:au n l = 0) (h2:¬ 64 < m.length) (hi:i < m.length) (hu:¬ inU n (m.getD i default) = true):1 = be n l m:=by
 unfold be;rw [if_pos h,if_neg h2,if_neg (fun e=>absurd (afg (l:=m) (p:=inU n) hi (bol.2 hu)) (by rw [e];decide))]
def aeu (h:au n l = 0) (h2:¬ 64 < m.length) (hu:∀ j,j < m.length -> inU n (m.getD j default) = true):0 = be n l m:=by
 unfold be;rw [if_pos h,if_neg h2,if_pos (ake hu)]
def m7 (h:be n l m = 0):0 <= n /\ n <= 16 /\ l.length <= 64 /\ l.all (inU n) = true /\ m.length <= 64 /\ m.all (inU n) = true:=by
 unfold be at h;by_cases h1:au n l = 0
 · rw [if_pos h1] at h
   obtain ⟨a,b,c,d⟩:=f8 h1;by_cases h2:64 < m.length
   · rw [if_pos h2] at h;omega
   rw [if_neg h2] at h;by_cases h3:m.all (inU n) = true
   · exact ⟨a,b,c,d,by omega,h3⟩
   rw [if_neg h3] at h;omega
 rw [if_neg h1] at h;exact absurd h h1
end
section
variable {l:List Rw}
def a8a {n:Int} {i:Nat} (h1:((l.getD i default).length:Int) = n) (h2:(l.getD i default).any (fun x=>decide (x < 0)) = false) (h3:i = 0 \/ ltZ (l.getD (i - 1) default) (l.getD i default) = true):qu n l i = true:=by
 unfold qu;rw [decide_eq_true h1,h2]
 rcases h3 with h3 | h3
 · rw [decide_eq_true h3];rfl
 rw [h3];simp
def aa4 {n:Int} {i:Nat} (h:¬ ((l.getD i default).length:Int) = n):qu n l i = false:=by unfold qu;rw [decide_eq_false h];rfl
def a0k {n:Int} {i:Nat} (h:(l.getD i default).any (fun x=>decide (x < 0)) = true):qu n l i = false:=by unfold qu;rw [h];simp
def a3o {n:Int} {i:Nat} (h0:0 < i) (h:¬ ltZ (l.getD (i - 1) default) (l.getD i default) = true):qu n l i = false:=by
 unfold qu;rw [bol.2 h,decide_eq_false (by omega:¬ i = 0)];simp
def a6h {a b:Rw}:te a b < 0 <-> ltZ a b = true:=by
 unfold te;by_cases e:a = b
 · subst e
   rw [if_pos rfl,xy];exact ⟨fun h=>absurd h bsq,fun h=>by cases h⟩
 rw [if_neg e];by_cases h:ltZ a b = true
 · rw [if_pos h];exact ⟨fun _=>h,fun _=>by omega⟩
 rw [if_neg h];exact ⟨fun h=>absurd h bsq,fun h2=>absurd h2 h⟩
end
end
section
open Go.Proofs
def atv (n:Int) (s:AS):a7 btb 99 [pI n,pA s] (aa [pB (decide (sub s (a6 n)))]):=by
 refine hpx (nt:=9) Tryz.func99 ?_;refine w_8 ?_;refine qcx x4 (w4 n) ?_;refine qcx qq (ye _ _) ?_;refine v_2 ?_;exact CoL.refl _
def zc:goodFn btb 53:=wgx Tryz.func53
def vu (n:Int) (l m:List Fd):a7 btb 53 [pI n,pP (fdl l),pP (fdl m)] (aa [pI (be n l m)]):=by
 refine hpx (nt:=34) Tryz.func53 ?_;refine cw ?_;refine cq 2 rfl fun hn2=>?_;refine w_8 ?_;refine qcx xn (a1e n l) ?_;refine w_7 ?_;refine hcn (fun h0=>?_) (fun h0=>?_)
 · refine v_5 ?_;exact ⟨cci (b0z bsr),trivial⟩
 have hv0:au n l = 0:=by assumption
 obtain ⟨hn0,hn16,_,_⟩:=f8 hv0;refine w_8 ?_;refine hcd (fun h1=>?_) (fun h1=>?_)
 · refine v_4 ?_;exact ⟨cci (ays hv0 bsq),trivial⟩
 refine dp ?_;refine ep (ι:=Unit) kn km (fun _i=>⟨[],[]⟩) (fun _i=>∀ j,j < m.length -> inU n (m.getD j default) = true) ?_ ?_
 ·
  refine w_7 ?_;refine ah (ι:=Nat) (ka 0 (ka 19 (ka 20 kn))) km (fun i=>⟨[(21,some (vI i))],[]⟩) (fun i=>i <= m.length /\ (∀ j,j < i -> inU n (m.getD j default) = true)) (fun i=>m.length - i) (0) (⟨boe _,c5⟩) kk ?_;rintro i ⟨hi,hI⟩;refine w_5 ?_;refine hcd (fun h2=>?_) (fun h2=>?_)
  ·
   refine w_7 ?_;refine m9 0 ?_;refine kw ?_;refine hcn (fun h3=>?_) (fun h3=>?_)
   · refine v_4 ?_;exact ⟨cci (aqd (i:=i) hv0 bsq bsq (fun e=>absurd (aa9.2 e) bsr)),trivial⟩
   refine w_5 ?_;refine lpz (i + 1) kk ?_;exact ⟨by show i + 1 <= _;omega,b7 hI (aa9.1 bsr)⟩
  refine dy ?_;refine ⟨(), ?_, ?_⟩
  · exact fun j hj=>hI j bsq
  exact ⟨trivial,trivial⟩
 rintro _ hj;refine v_4 ?_;exact ⟨cci (aeu hv0 bsq hj),trivial⟩
def adl:goodFn btb 44:=wgx Tryz.func44
def a6a (n:Int) (l m:List Fd):a7 btb 44 [pI n,pP (fdl l),pP (fdl m)] (aa [pI (be n l m)]):=by
 refine hpx (nt:=42) Tryz.func44 ?_;refine cw ?_;refine cq 2 rfl fun hn2=>?_;refine w_8 ?_;refine qcx (wgx Tryz.func98) (asn n l) ?_;refine w_7 ?_;refine hcn (fun h0=>?_) (fun h0=>?_)
 · refine v_5 ?_;exact ⟨cci (b0z bsr),trivial⟩
 have hv0:au n l = 0:=by assumption
 obtain ⟨hn0,hn16,_,_⟩:=f8 hv0;refine w_8 ?_;refine hcd (fun h1=>?_) (fun h1=>?_)
 · refine v_4 ?_;exact ⟨cci (ays hv0 bsq),trivial⟩
 refine dp ?_;refine ep (ι:=Unit) kn km (fun _i=>⟨[],[]⟩) (fun _i=>∀ j,j < m.length -> inU n (m.getD j default) = true) ?_ ?_
 ·
  refine w_5 ?_;refine ah (ι:=Nat) (ka 0 (ka 2 kn)) km (fun i=>⟨[(8,some (vI i))],[]⟩) (fun i=>i <= m.length /\ (∀ j,j < i -> inU n (m.getD j default) = true)) (fun i=>m.length - i) (0) (⟨boe _,c5⟩) kk ?_;rintro i ⟨hi,hI⟩;refine w_8 ?_;refine hcd (fun h2=>?_) (fun h2=>?_)
  ·
   refine dl ?_;refine qcx (wgx Tryz.func99) (atv n _) ?_;refine w_2 ?_;refine ai rfl rfl (fun r3=>?_) (fun r3=>?_)
   ·
    have h3:=ci r3;(iterate 8 refine k9 (gtf r3) ?_);refine w_7 ?_
    exact hx8 rfl rfl rfl (⟨cci (aqd (i:=i) hv0 bsq bsq (fun e=>by rw [pf bsq bsq] at e;simp_all)),trivial⟩)
   have h3:=cj r3;(iterate 6 refine qy ?_ (hg:=(gff r3)));refine qcx (wgx Tryz.func99) (atv n _) ?_ (hg:=(gff r3));refine qy ?_ (hg:=(gff r3));refine w_2 ?_;refine am _ rfl (fun r4=>?_) (fun r4=>?_)
   · have h4:=ci (aq r3 r4);refine v_4 ?_;exact ⟨cci (aqd (i:=i) hv0 bsq bsq (fun e=>by rw [pf bsq bsq] at e;simp_all)),trivial⟩
   have h4:=cj (aq r3 r4);refine w_6 ?_;refine lpz (i + 1) kk ?_;exact ⟨by show i + 1 <= _;omega,b7 hI ((pf bsq bsq).2 bt5)⟩
  refine dy ?_;refine ⟨(), ?_, ?_⟩
  · exact fun j hj=>hI j bsq
  exact ⟨trivial,trivial⟩
 rintro _ hj;refine v_4 ?_;exact ⟨cci (aeu hv0 bsq hj),trivial⟩
end
section
open Go.Proofs
def wq (i:Nat):((i:Int) - 1).toNat = i - 1:=by omega
def bt9 {p:Prop} (h:p:=by first | exact aa4 bsr | exact a0k bsr | exact a3o bsq (by simp_all [wq])):p:=h
def b7x (n:Int) (l:List Rw):a7 btb 222 [pT n l] (aa [pB (tok n l)]):=by
 refine hpx (nt:=50) Tryz.func222 ?_;refine sx7 ?_;refine m9 0 ?_;refine w_9 ?_;refine ai rfl rfl (fun r0=>?_) (fun r0=>?_)
 ·
  have h0:=tz1 r0;(iterate 3 refine k9 (gtf r0) ?_);refine w_2 ?_;(iterate 4 refine k9 rfl ?_);refine w_7 ?_
  exact hx8 rfl rfl rfl (⟨ccb (a4p bsq).symm,trivial⟩)
 have h0:=tz2 r0;(iterate 3 refine qy ?_ (hg:=(gff r0)));refine w_2 ?_;refine ai rfl rfl (fun r1=>?_) (fun r1=>?_)
 ·
  have h1:=tz1 (aq r0 r1);(iterate 4 refine k9 (gtf r1) ?_);refine w_7 ?_
  exact hx8 rfl rfl rfl (⟨ccb (a4p bsq).symm,trivial⟩)
 have h1:=tz2 (aq r0 r1);(iterate 4 refine qy ?_ (hg:=(gff r1)));refine w_2 ?_;refine am _ rfl (fun r2=>?_) (fun r2=>?_)
 · have h2:=tz1 (aq r1 r2);refine v_4 ?_;exact ⟨ccb (a4p bsq).symm,trivial⟩
 have h2:=tz2 (aq r1 r2);refine d5 ?_;refine ah (ι:=Nat) (ka 1 (ka 20 (ka 21 kn))) (kb 0 km) (fun i=>⟨[(22,some (vI i))],[]⟩) (fun i=>i <= l.length /\ (∀ j,j < i -> qu n l j = true)) (fun i=>l.length - i) (0) (⟨boe _,c5⟩) kk ?_;rintro i ⟨hi,hI⟩;refine w_5 ?_;refine hcd (fun h3=>?_) (fun h3=>?_)
 ·
  refine apf ?_;refine ai rfl rfl (fun r4=>?_) (fun r4=>?_)
  ·
   have h4:=tz2 (ci r4);(iterate 2 refine k9 (gtf r4) ?_);refine w_7 ?_
   exact hx8 rfl rfl rfl (⟨ccb (a52 (i:=i) bsq bt9).symm,trivial⟩)
  have h4:=tz1 (cj r4);refine qy ?_ (hg:=(gff r4));refine qcx (wgx Tryz.func250) (bmu (l.getD i default) 251 0 (fun _=>.any) (fun x=>decide (x < 0)) (wgx Tryz.func251) (fun x=>bmh x)) ?_ (hg:=(gff r4));refine w_2 ?_;refine am _ rfl (fun r5=>?_) (fun r5=>?_)
  · have h5:=aq r4 r5;refine v_4 ?_;exact ⟨ccb (a52 (i:=i) bsq bt9).symm,trivial⟩
  have h5:=aq r4 r5;refine w_6 ?_;refine ai rfl rfl (fun r6=>?_) (fun r6=>?_)
  ·
   have h6:=tz1 r6;(iterate 7 refine qy ?_ (hg:=(gtt r6)));refine qcx (wgx Tryz.func220) (b79 (l.getD ((i:Int) - 1).toNat default) (l.getD i default)) ?_ (hg:=(gtt r6));refine qy ?_ (hg:=(gtt r6));refine w_2 ?_
   refine am _ rfl (fun r7=>?_) (fun r7=>?_)
   · have h7:=tz1 (bq r6 r7);refine v_4 ?_;exact ⟨ccb (a52 (i:=i) bsq (a3o bsq fun e=>absurd (a6h.2 e) (by simp only [wq] at *;omega))).symm,trivial⟩
   have h7:=tz2 (bq r6 r7);refine w_5 ?_;refine lpz (i + 1) kk ?_;exact ⟨by show i + 1 <= _;omega,b7 hI (a8a bsr bsr (by first | (exact .inl bsq) | (exact .inr (a6h.1 (by simp only [wq] at *;omega)))))⟩
  have h6:=tz2 r6;(iterate 9 refine k9 (gft r6) ?_);refine w_8 ?_;refine lpz (i + 1) kk ?_
  exact ⟨by show i + 1 <= _;omega,b7 hI (a8a bsr bsr (by first | (exact .inl bsq) | (exact .inr (a6h.1 (by simp only [wq] at *;omega)))))⟩
 refine v_5 ?_;exact ⟨ccb (avs bsq bsq bsq fun j hj=>hI j bsq).symm,trivial⟩
def alu (n:Int) (l:List Rw):a7 btb 178 [pT n l] (aa [pB (tok n l)]):=by
 refine hpx (nt:=69) Tryz.func178 ?_;refine sx7 ?_;refine m9 0 ?_;refine w_9 ?_;refine ai rfl rfl (fun r0=>?_) (fun r0=>?_)
 ·
  have h0:=tz1 r0;(iterate 3 refine k9 (gtf r0) ?_);refine w_2 ?_;(iterate 4 refine k9 rfl ?_);refine w_7 ?_
  exact hx8 rfl rfl rfl (⟨ccb (a4p bsq).symm,trivial⟩)
 have h0:=tz2 r0;(iterate 3 refine qy ?_ (hg:=(gff r0)));refine w_2 ?_;refine ai rfl rfl (fun r1=>?_) (fun r1=>?_)
 ·
  have h1:=tz1 (aq r0 r1);(iterate 4 refine k9 (gtf r1) ?_);refine w_7 ?_
  exact hx8 rfl rfl rfl (⟨ccb (a4p bsq).symm,trivial⟩)
 have h1:=tz2 (aq r0 r1);(iterate 4 refine qy ?_ (hg:=(gff r1)));refine w_2 ?_;refine am _ rfl (fun r2=>?_) (fun r2=>?_)
 · have h2:=tz1 (aq r1 r2);refine v_4 ?_;exact ⟨ccb (a4p bsq).symm,trivial⟩
 have h2:=tz2 (aq r1 r2);refine w_7 ?_;refine ah (ι:=Nat) (ka 1 kn) (kb 0 km) (fun i=>⟨[(3,some (vI i))],[]⟩) (fun i=>i <= l.length /\ (∀ j,j < i -> qu n l j = true)) (fun i=>l.length - i) (0) (⟨boe _,c5⟩) kk ?_;rintro i ⟨hi,hI⟩;refine w_9 ?_;refine hcd (fun h3=>?_) (fun h3=>?_)
 ·
  refine uk ?_;refine ai rfl rfl (fun r4=>?_) (fun r4=>?_)
  ·
   have h4:=tz2 (ci r4);(iterate 3 refine k9 (gtf r4) ?_);(iterate 13 refine k9 rfl ?_);refine k9 (gtf r4) ?_;refine w_8 ?_
   exact hx8 rfl rfl rfl (⟨ccb (a52 (i:=i) bsq bt9).symm,trivial⟩)
  have h4:=tz1 (cj r4);(iterate 3 refine qy ?_ (hg:=(gff r4)));refine ai rfl rfl (fun r5=>?_) (fun r5=>?_)
  ·
   have h5:=tz1 r5;(iterate 11 refine qy ?_ (hg:=(gtt r5)));refine qcx (wgx Tryz.func227) (b6z (l.getD ((i:Int) - 1).toNat default) (l.getD i default)) ?_ (hg:=(gtt r5));refine qy ?_ (hg:=(gtt r5));refine qy ?_ (hg:=(gff r4));refine w_3 ?_
   refine am _ rfl (fun r6=>?_) (fun r6=>?_)
   · have h6:=ci (bq r5 (aq r4 r6));refine v_4 ?_;exact ⟨ccb (a52 (i:=i) bsq bt9).symm,trivial⟩
   have h6:=cj (bq r5 (aq r4 r6));refine w_6 ?_;refine ah (ι:=Nat) (ka 1 (ka 3 kn)) (kb 0 km) (fun k=>⟨[(4,some (vI k))],[]⟩) (fun k=>k <= (l.getD i default).length /\ (∀ j,j < k -> decide ((l.getD i default).getD j default < 0) = false)) (fun k=>(l.getD i default).length - k) (0) (⟨boe _,c5⟩) kk ?_;rintro k ⟨hk,hK⟩;refine w_8 ?_;refine hcd (fun h7=>?_) (fun h7=>?_)
   ·
    refine dl ?_;refine rq rfl rfl rfl rfl rfl ?_ (hp:=⟨rfl,by omega,by simp only [bop];omega⟩);refine w_3 ?_;refine hcd (fun h8=>?_) (fun h8=>?_)
    · refine v_4 ?_;exact ⟨ccb (a52 (i:=i) bsq (a0k (ak7 (i:=k) bsq (decide_eq_true bsr)))).symm,trivial⟩
    refine w_6 ?_;refine lpz (k + 1) kk ?_;exact ⟨by show k + 1 <= _;omega,b7 hK (decide_eq_false bsr)⟩
   refine w_6 ?_;refine lpz (i + 1) kk ?_;exact ⟨by show i + 1 <= _;omega,b7 hI (a8a bsr (ako fun j hj=>hK j bsq) (by first | (exact .inl bsq) | (exact .inr (by simp_all [wq]))))⟩
  have h5:=tz2 r5;(iterate 13 refine k9 (gft r5) ?_);refine rq rfl rfl rfl rfl (gff r4) ?_ (hp:=r5);refine w_3 ?_;refine am _ rfl (fun e=>Bool.noConfusion ((a4a r4 rfl).symm.trans e)) (fun _=>?_);refine w_6 ?_
  refine ah (ι:=Nat) (ka 1 (ka 3 kn)) (kb 0 km) (fun k=>⟨[(4,some (vI k))],[]⟩) (fun k=>k <= (l.getD i default).length /\ (∀ j,j < k -> decide ((l.getD i default).getD j default < 0) = false)) (fun k=>(l.getD i default).length - k) (0) (⟨boe _,c5⟩) kk ?_;rintro k ⟨hk,hK⟩;refine w_8 ?_;refine hcd (fun h9=>?_) (fun h9=>?_)
  ·
   refine dl ?_;refine rq rfl rfl rfl rfl rfl ?_ (hp:=⟨rfl,by omega,by simp only [bop];omega⟩);refine w_3 ?_;refine hcd (fun h10=>?_) (fun h10=>?_)
   · refine v_4 ?_;exact ⟨ccb (a52 (i:=i) bsq (a0k (ak7 (i:=k) bsq (decide_eq_true bsr)))).symm,trivial⟩
   refine w_6 ?_;refine lpz (k + 1) kk ?_;exact ⟨by show k + 1 <= _;omega,b7 hK (decide_eq_false bsr)⟩
  refine w_6 ?_;refine lpz (i + 1) kk ?_;exact ⟨by show i + 1 <= _;omega,b7 hI (a8a bsr (ako fun j hj=>hK j bsq) (by first | (exact .inl bsq) | (exact .inr (by simp_all [wq]))))⟩
 refine v_5 ?_;exact ⟨ccb (avs bsq bsq bsq fun j hj=>hI j bsq).symm,trivial⟩
def ah2:goodFn btb 175:=wgx Tryz.func175
def acb (n:Int) (l:List Rw) (p m:List Fd):a7 btb 175 [pT n l,pP (fdl p),pP (fdl m)] (aa [pI (if tok n l = true then be n p m else 1)]):=by
 refine hpx (nt:=15) Tryz.func175 ?_;refine sx7 ?_;refine m9 0 ?_;refine w_6 ?_;refine qcx (wgx Tryz.func222) (b7x n l) ?_;refine w_2 ?_;refine hcv (fun h0=>?_) (fun h0=>?_)
 · refine v_4 ?_;exact ⟨cci (if_neg bt5).symm,trivial⟩
 refine w_7 ?_;refine qcx zc (vu n p m) ?_;refine v_2 ?_;exact ⟨cci (if_pos bt5).symm,trivial⟩
def axz (n:Int) (l:List Rw) (row:Rw):a7 btb 69 [pT n l,pZ row] (aa [pB (l.any fun r=>decide (r = row))]):=by
 refine hpx (nt:=20) Tryz.func69 ?_;refine sx7 ?_;refine m9 0 ?_;refine w_2 ?_;refine ep (ι:=Unit) kn km (fun _i=>⟨[],[]⟩) (fun _i=>(l.any fun r=>decide (r = row)) = false) ?_ ?_
 ·
  refine cw ?_;refine b6b 0 1 rfl rfl fun hn=>?_;refine w_4 ?_;refine ah (ι:=Nat) (ka 1 (ka 2 kn)) (kb 0 km) (fun i=>⟨[(5,some (vI i))],[]⟩) (fun i=>i <= l.length /\ (∀ j,j < i -> decide (l.getD j default = row) = false)) (fun i=>l.length - i) (0) (⟨boe _,c5⟩) kk ?_;rintro i ⟨hi,hI⟩;refine w_9 ?_;refine hcd (fun h0=>?_) (fun h0=>?_)
  ·
   refine dl ?_;refine qcx (wgx Tryz.func133) (bjf (l.getD i default) row) ?_;refine cu ?_;refine hcb (fun h1=>?_) (fun h1=>?_)
   · refine v_4 ?_;exact ⟨ccb (ak7 (p:=fun r=>decide (r = row)) (i:=i) bsq bsr).symm,trivial⟩
   refine w_6 ?_;refine lpz (i + 1) kk ?_;exact ⟨by show i + 1 <= _;omega,b7 hI bsr⟩
  refine dy ?_;refine ⟨(), ?_, ?_⟩
  · exact ako fun j hj=>hI j bsq
  exact ⟨trivial,trivial⟩
 rintro _ hj;refine v_4 ?_;exact ⟨ccb hj.symm,trivial⟩
end
section
def ow (a b:Rw) (s:AS) (i:Nat):Rw:=(List.range b.length).map fun (j:Nat)=>if j < i /\ bw s (j:Int) = true then a.getD j default else b.getD j default
def ux (a b:Rw) (s:AS) (i:Nat):(ow a b s i).length = b.length:=by unfold ow;simp
section
variable {a b:Rw} {i:Nat} {s:AS}
def ago {k:Nat} (hk:k < b.length):(ow a b s i).getD k default = if k < i /\ bw s (k:Int) = true then a.getD k default else b.getD k default:=by
 unfold ow;rw [bo7,boy,bpu hk];rfl
def aif (a b:Rw) (s:AS):b = ow a b s 0:=sg (ux a b s 0).symm fun j hj=>by
 rw [ago hj,if_neg bsq]
def alo (a b:Rw) (s:AS):ow a b s b.length = er a b s:=by
 unfold ow er;refine bqx fun k hk=>?_;have:=bor.1 hk;by_cases h:bw s (k:Int) = true
 · rw [if_pos ⟨this,h⟩,if_pos h]
 rw [if_neg (fun e=>h e.2),if_neg h]
def bfr (h:¬ bw s (i:Int) = true):ow a b s i = ow a b s (i + 1):=by
 unfold ow;refine bqx fun k hk=>?_;by_cases h2:k < i /\ bw s (k:Int) = true
 · rw [if_pos h2,if_pos ⟨by omega,h2.2⟩]
 rw [if_neg h2, if_neg fun e => h2 ⟨by rcases bqp (br4 e.1) with h3 | h3
                                       · exact h3
                                       subst h3;exact absurd e.2 h,e.2⟩]
def bfw (hi:i < b.length) (h:bw s (i:Int) = true):(ow a b s i).set i (a.getD i default) = ow a b s (i + 1):=by
 refine sg (by rw [bqg,ux,ux]) fun j hj=>?_;rw [bqg,ux] at hj;rw [ago hj];by_cases e:j = i
 · subst e
   rw [qp (by rw [ux];exact hj),if_pos ⟨by omega,h⟩]
 rw [getD_set_ne' e,ago hj];by_cases h2:j < i /\ bw s (j:Int) = true
 · rw [if_pos h2,if_pos ⟨by omega,h2.2⟩]
 rw [if_neg h2,if_neg fun e2=>h2 ⟨by omega,e2.2⟩]
def nq (a b:Rw) (s:AS):(er a b s).length = b.length:=by unfold er;simp
def a5s {n:Nat} {k:Nat} (hi:i < b.length) (h:bw s (i:Int) = true) (hn:n = b.length:=by rfl) (hk:k = i:=by rfl):
 CoO (.arr true 1 3 n (fj (lf zC (ow a b s i)) k 0 [.raw (.int .i64 (a.getD i default))])) (.arr true 1 3 n (lf zC (ow a b s (i + 1)))):=by
 rw [<- bfw hi h];exact atu (fun h=>h) (hn.trans (ux a b s i).symm) hk (by rw [ux];exact hi) rfl
def a6g {n:Nat} (h:¬ bw s (i:Int) = true):CoO (.arr true 1 3 n (lf zC (ow a b s i))) (.arr true 1 3 n (lf zC (ow a b s (i + 1)))):=by
 rw [<- bfr h];exact CoO.refl _
def auw {n:Nat} {r:Rw} (h:r.length = n):CoC (.one (.sl n 1 false (lf zC r))) (pZ r):=by subst h;exact CoC.refl _
end
end
section
open Go.Proofs
def aha:goodFn btb 237:=wgx Tryz.func237
def ag2 (n:Nat) (c:Bool) (f:Nat -> Nat -> PV) (hn:n <= 17592186044416) :
 dq btb 237 [.one (.p (.sl n 1 c f))] [] (.v (.one (.ref 0 n))) [(0, .arr true 1 3 n f)] []:=by
 refine hfx (nt:=8) Tryz.func237 ?_;refine sx7 ?_;refine eo true rfl rfl rfl rfl rfl trivial ?_;refine cu ?_;refine a9c (ι:=Bool) (fun c=>⟨[(0,some (bn (.sl n 1 c f)))],[]⟩) (fun _=>True) ?_ fun c _=>?_
 · rcases bqa n with hz | h0
   · subst hz
     refine hw_exact' 0 rfl fun ad cap hcap=>?_;refine sx7 ?_;(iterate 2 refine eo true rfl rfl rfl rfl rfl trivial ?_);refine cu ?_;refine am ad.isNone rfl (fun hc=>?_) (fun hc=>?_)
     · refine sx7 ?_
       refine eo true rfl rfl rfl rfl rfl trivial ?_;refine cu ?_;refine ct 2 0 true 1 3 f bsu rfl (CoP.sl rfl (.inr rfl) (fun h=>h) fun i j hi _=>absurd hi (bod i)) (.inr rfl) rfl ?_;refine hrr ?_;exact ⟨_,_,rfl,trivial,CoR.refl _,uu⟩
     refine dp ?_;exact ⟨false,trivial,⟨⟨_,rfl,CoP.raw_sl hcap⟩,trivial⟩,trivial⟩
   refine sx7 ?_;refine eo true rfl rfl rfl rfl rfl trivial ?_;refine eo true rfl rfl rfl rfl rfl h0 ?_;refine cu ?_;refine am false rfl (fun hc=>by cases hc) (fun hc=>?_);refine dp ?_;exact ⟨c,trivial,tt,trivial⟩
 refine sx7 ?_;refine a3z 0 rfl rfl rfl rfl rfl rfl trivial ?_;refine eo true rfl rfl rfl rfl rfl trivial ?_;refine a7x 0 true rfl rfl rfl rfl rfl rfl ⟨trivial,rfl,rfl,rfl, .inl rfl,by show 0 + n <= 9223372036854775807;omega,by show (0 + n) * 8 <= 140737488355328;omega,fun _=>.inl rfl⟩ ?_;refine eo true rfl rfl rfl rfl rfl trivial ?_;refine cu ?_;refine hrr ?_;refine ⟨_,_,rfl,trivial,CoR.of_eq (by show HR.v (.one (.ref 0 (0 + n))) = _;rw [bpc]),⟨⟨_,rfl, ?_⟩,trivial⟩⟩;exact ⟨fun h=>h,rfl,rfl,(bpc n).symm,fun i j _ _=>CoP.of_eq (by simp [gv])⟩
def b2c (n:Nat) (c:Bool) (f:Nat -> Nat -> PV) (hn:n <= 17592186044416):a7 btb 237 [.one (.sl n 1 c f)] (.v (.one (.sl n 1 false f))) :=
 dq.pure (args:=[.one (.sl n 1 c f)]) (l:=[.one (.ref 0 n)]) (ag2 n c f hn) rfl ⟨rfl,trivial⟩
def ai3:goodFn btb 200:=wgx Tryz.func200
def as0 (n:Int) (l:List Rw) (hl:∀ i,i < l.length -> (l.getD i default).length <= 17592186044416) (hl2:l.length <= 5864062014805):dq btb 200 [.agg [.p (.raw (.int .i64 n)), .p (rl l)]] [] (.v (.agg [.p (.raw (.int .i64 n)), .ref 901 l.length])) [(901, .arr true 1 84 l.length (lf rC l))] []:=by
 refine hfx (nt:=25) Tryz.func200 ?_;refine sx7 ?_;refine m9 0 ?_;refine m9 1 ?_;refine w_6 ?_;refine m9 2 ?_;refine w_2 ?_;refine ui 2 1 901 true 1 84 (lf rC l) bsu rfl rfl (CoP.sl rfl (.inr rfl) (fun h=>h) (fun i j hi _=>absurd hi (bod i))) (.inr rfl) rfl rfl ?_;refine w_9 ?_;refine bp (ka 2 (ka 3 (ka 10 (ka 11 kn)))) (kb 1 km) (fun i=>⟨[(12,some (vI i))],[(2,some (.box [.p (.raw (.int .i64 n)), .ref 901 i])),(901,some (.arr true 1 84 i (lf rC l)))]⟩) l.length kk ?_;rintro i hi;refine w_5 ?_;refine hcd (fun h0=>?_) (fun h0=>?_)
 · refine kw ?_;refine qcx aha (b2c (l.getD i default).length false (lf zC (l.getD i default)) (hl i bsq)) ?_;refine m9 3 ?_;refine r9 4 true ?_;refine w_8 ?_;exact lpx (i + 1) ⟨tt,⟨u9,⟨_,rfl,(ss (fun h=>h) (fun j hj=>by obtain rfl:j = 0:=bsq;exact CoP.refl _))⟩,uu⟩⟩
 obtain rfl:i = l.length:=by omega
 refine w_6 ?_;refine hrr ?_;exact ⟨_,_,rfl,bss,CoR.refl _,uu⟩
def b3d (n:Int) (l:List Rw) (hl:∀ i,i < l.length -> (l.getD i default).length <= 17592186044416) (hl2:l.length <= 5864062014805):a7 btb 200 [pT n l] (aa [pT n l]) :=
 dq.pure (args:=[pT n l]) (l:=[.agg [.p (.raw (.int .i64 n)), .ref 901 l.length]]) (as0 n l hl hl2) rfl ⟨⟨trivial,rfl,trivial⟩,trivial⟩
def b0u (a b:Rw) (s:AS) (h:a.length = b.length) (h16:b.length <= 16):a7 btb 226 [pZ a,pZ b,pA s] (aa [pZ (er a b s)]):=by
 refine hpx (nt:=30) Tryz.func226 ?_;refine w_7 ?_;refine fc9 aha (ag2 b.length false (lf zC b) bsq) trivial ?_;refine d5 ?_;refine bp (ka 0 (ka 2 (ka 7 (ka 12 kn)))) km (fun i=>⟨[(13,some (vI i))],[(0,some (.arr true 1 3 b.length (lf zC (ow a b s i))))]⟩) b.length ⟨tt,⟨⟨_,rfl,(CoO.of_eq (by rw [<- aif]))⟩,trivial⟩⟩ ?_;rintro i hi;refine w_5 ?_;refine hcd (fun h0=>?_) (fun h0=>?_)
 ·
  refine uk ?_;refine hcd (fun h1=>?_) (fun h1=>?_)
  · refine t7 ?_;exact lpx (i + 1) ⟨tt,⟨⟨_,rfl,(by first | exact a5s bsq ((x5 bsq).1 bsr) | exact a6g (fun e=>absurd ((x5 bsq).2 e) bsr))⟩,trivial⟩⟩
  refine w_5 ?_;exact lpx (i + 1) ⟨tt,⟨⟨_,rfl,(by first | exact a5s bsq ((x5 bsq).1 bsr) | exact a6g (fun e=>absurd ((x5 bsq).2 e) bsr))⟩,trivial⟩⟩
 obtain rfl:i = b.length:=by omega
 refine w_2 ?_;refine b6 7 rfl rfl rfl ?_;refine v_4 ?_;exact ⟨by rw [alo];exact auw (nq a b s),trivial⟩
end
end Go.Hx

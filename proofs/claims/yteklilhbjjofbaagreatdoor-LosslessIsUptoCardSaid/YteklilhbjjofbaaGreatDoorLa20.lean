/- A part of the proof: X1 X2 Ch3 X3 X4 Ch4 X5. -/
import Derived.Test.YteklilhbjjofbaaGreatDoorLa19
set_option linter.all false
set_option maxRecDepth 100000
set_option maxHeartbeats 1000000
namespace Go.Hx
section
open Go.Proofs
def ayl (l:List Int) (g k:Nat) (caps:Nat -> PV) (V:Int -> Bool) (hg:goodFn b6e g) (hV:∀ x,a8 b6e g (pI x :: ln caps k 0) (aa [pB (V x)])):a8 b6e 174 [pP (zl l),pP (.fn g k caps)] (aa [pI (idx V l)]):=by
 refine hpx (nt:=19) Tryz.func174 ?_;refine c0 ?_;refine c5 0 rfl fun hn=>?_;refine w_3 ?_;refine d8 (ι:=Unit) kn km (fun _i=>⟨[],[]⟩) (fun _i=>idx V l = -1) ?_ ?_
 ·
  refine w_7 ?_;refine ak (ι:=Nat) (ka 0 (ka 1 (ka 7 kn))) km (fun i=>⟨[(8,some (vI i))],[]⟩) (fun i=>i <= l.length /\ (∀ j,j < i -> V (l.getD j default) = false)) (fun i=>l.length - i) (0) (⟨b2z _,b9⟩) kk ?_;rintro i ⟨hi,hI⟩;refine w_5 ?_;refine hcd (fun h0=>?_) (fun h0=>?_)
  ·
   refine kw ?_;refine rc rfl rfl rfl rfl rfl rfl hg (hV (l.getD i default)) (CoL.refl _) rfl rfl ?_;refine bm ?_;refine hcb (fun h1=>?_) (fun h1=>?_)
   · refine v_5 ?_;exact ⟨cci (a0s (i:=i) b5o hI h1).symm,trivial⟩
   refine w_5 ?_;refine lpz (i + 1) kk ?_;exact ⟨by show i + 1 <= _;omega,ay hI (h1)⟩
  refine cr ?_;refine ⟨(), ?_, ?_⟩
  · exact a0a fun j hj=>hI j b5o
  exact ⟨trivial,trivial⟩
 rintro _ hj;refine v_4 ?_;exact ⟨cci hj.symm,trivial⟩
def azx (l:List Rw) (g k:Nat) (caps:Nat -> PV) (V:Rw -> Bool) (hg:goodFn b6e g) (hV:∀ x,a8 b6e g (pZ x :: ln caps k 0) (aa [pB (V x)])):a8 b6e 127 [pP (rl l),pP (.fn g k caps)] (aa [pI (idx V l)]):=by
 refine hpx (nt:=19) Tryz.func127 ?_;refine c0 ?_;refine c5 0 rfl fun hn=>?_;refine w_3 ?_;refine d8 (ι:=Unit) kn km (fun _i=>⟨[],[]⟩) (fun _i=>idx V l = -1) ?_ ?_
 ·
  refine w_7 ?_;refine ak (ι:=Nat) (ka 0 (ka 1 (ka 7 kn))) km (fun i=>⟨[(8,some (vI i))],[]⟩) (fun i=>i <= l.length /\ (∀ j,j < i -> V (l.getD j default) = false)) (fun i=>l.length - i) (0) (⟨b2z _,b9⟩) kk ?_;rintro i ⟨hi,hI⟩;refine w_5 ?_;refine hcd (fun h0=>?_) (fun h0=>?_)
  ·
   refine kw ?_;refine rc rfl rfl rfl rfl rfl rfl hg (hV (l.getD i default)) (CoL.refl _) rfl rfl ?_;refine bm ?_;refine hcb (fun h1=>?_) (fun h1=>?_)
   · refine v_5 ?_;exact ⟨cci (a0s (i:=i) b5o hI h1).symm,trivial⟩
   refine w_5 ?_;refine lpz (i + 1) kk ?_;exact ⟨by show i + 1 <= _;omega,ay hI (h1)⟩
  refine cr ?_;refine ⟨(), ?_, ?_⟩
  · exact a0a fun j hj=>hI j b5o
  exact ⟨trivial,trivial⟩
 rintro _ hj;refine v_4 ?_;exact ⟨cci hj.symm,trivial⟩
def b0d (l:List Int) (g k:Nat) (caps:Nat -> PV) (V:Int -> Bool) (hg:goodFn b6e g) (hV:∀ x,a8 b6e g (pI x :: ln caps k 0) (aa [pB (V x)])):a8 b6e 162 [pP (zl l),pP (.fn g k caps)] (aa [pB (l.any V)]):=by
 refine hpx (nt:=9) Tryz.func162 ?_;refine w_8 ?_;refine qcx (wgx Tryz.func174) (ayl l g k caps V hg hV) ?_;refine v_3 ?_;exact ⟨ccb ab4,trivial⟩
def ayy (l:List Rw) (g k:Nat) (caps:Nat -> PV) (V:Rw -> Bool) (hg:goodFn b6e g) (hV:∀ x,a8 b6e g (pZ x :: ln caps k 0) (aa [pB (V x)])):a8 b6e 87 [pP (rl l),pP (.fn g k caps)] (aa [pB (l.any V)]):=by
 refine hpx (nt:=9) Tryz.func87 ?_;refine w_8 ?_;refine qcx (wgx Tryz.func127) (azx l g k caps V hg hV) ?_;refine v_3 ?_;exact ⟨ccb ab4,trivial⟩
def ac5:goodFn b6e 89:=wgx Tryz.func89
def anl (a b:Rw):a8 b6e 89 [pZ a,pZ b] (aa [pB (decide (a = b))]):=by
 refine hpx (nt:=26) Tryz.func89 ?_;refine c0 ?_;refine c5 0 rfl fun hn0=>?_;refine c5 1 rfl fun hn1=>?_;refine jh ?_;refine hcn (fun h0=>?_) (fun h0=>?_)
 · refine v_4 ?_;exact ⟨ccb (decide_eq_false fun e=>by subst e;omega).symm,trivial⟩
 refine c4 ?_;refine d8 (ι:=Unit) kn km (fun _i=>⟨[],[]⟩) (fun _i=>a = b) ?_ ?_
 ·
  refine w_7 ?_;refine ak (ι:=Nat) (ka 0 (ka 1 (ka 12 kn))) km (fun i=>⟨[(13,some (vI i))],[]⟩) (fun i=>i <= a.length /\ (∀ j,j < i -> decide (a.getD j default = b.getD j default) = true)) (fun i=>a.length - i) (0) (⟨b2z _,b9⟩) kk ?_;rintro i ⟨hi,hI⟩;refine w_5 ?_;refine hcd (fun h1=>?_) (fun h1=>?_)
  ·
   refine alo ?_;refine hcn (fun h2=>?_) (fun h2=>?_)
   · refine v_4 ?_;exact ⟨ccb (decide_eq_false fun e=>by subst e;simp_all).symm,trivial⟩
   refine w_5 ?_;refine lpz (i + 1) kk ?_;exact ⟨by show i + 1 <= _;omega,ay hI (decide_eq_true b5w)⟩
  refine cr ?_;refine ⟨(), ?_, ?_⟩
  · exact ap5 b5o fun j hj=>hI j b5o
  exact ⟨trivial,trivial⟩
 rintro _ hj;refine v_4 ?_;exact ⟨ccb (decide_eq_true hj).symm,trivial⟩
def axd (a b:Rw):a8 b6e 93 [pZ a,pZ b] (aa [pB (decide (a = b))]):=by
 refine hpx (nt:=26) Tryz.func93 ?_;refine c0 ?_;refine c5 0 rfl fun hn0=>?_;refine c5 1 rfl fun hn1=>?_;refine jh ?_;refine hcn (fun h0=>?_) (fun h0=>?_)
 · refine v_4 ?_;exact ⟨ccb (decide_eq_false fun e=>by subst e;omega).symm,trivial⟩
 refine c4 ?_;refine d8 (ι:=Unit) kn km (fun _i=>⟨[],[]⟩) (fun _i=>a = b) ?_ ?_
 ·
  refine w_5 ?_;refine ak (ι:=Nat) (ka 0 (ka 1 kn)) km (fun i=>⟨[(5,some (vI i))],[]⟩) (fun i=>i <= a.length /\ (∀ j,j < i -> decide (a.getD j default = b.getD j default) = true)) (fun i=>a.length - i) (0) (⟨b2z _,b9⟩) kk ?_;rintro i ⟨hi,hI⟩;refine w_8 ?_;refine hcd (fun h1=>?_) (fun h1=>?_)
  ·
   refine mj ?_;refine hcn (fun h2=>?_) (fun h2=>?_)
   · refine v_4 ?_;exact ⟨ccb (decide_eq_false fun e=>by subst e;simp_all).symm,trivial⟩
   refine w_6 ?_;refine lpz (i + 1) kk ?_;exact ⟨by show i + 1 <= _;omega,ay hI (decide_eq_true b5w)⟩
  refine cr ?_;refine ⟨(), ?_, ?_⟩
  · exact ap5 b5o fun j hj=>hI j b5o
  exact ⟨trivial,trivial⟩
 rintro _ hj;refine v_4 ?_;exact ⟨ccb (decide_eq_true hj).symm,trivial⟩
def ap7 (a b:Rw):a8 b6e 136 [pZ a,pZ b] (aa [pI (lg a b)]):=by
 refine hpx (nt:=36) Tryz.func136 ?_;refine c0 ?_;refine c5 0 rfl fun hn0=>?_;refine c5 1 rfl fun hn1=>?_;refine w_3 ?_;refine d8 (ι:=Unit) (ka 0 (ka 1 kn)) km (fun _i=>⟨[],[]⟩) (fun _i=>∀ j,j < a.length -> j < b.length /\ a.getD j default = b.getD j default) ?_ ?_
 ·
  refine w_7 ?_;refine ak (ι:=Nat) (ka 0 (ka 1 (ka 9 (ka 10 kn)))) km (fun i=>⟨[(11,some (vI i))],[]⟩) (fun i=>i <= a.length /\ (∀ j,j < i -> j < b.length /\ a.getD j default = b.getD j default)) (fun i=>a.length - i) (0) (⟨b2z _,b9⟩) kk ?_;rintro i ⟨hi,hI⟩;refine w_5 ?_;refine hcd (fun h0=>?_) (fun h0=>?_)
  ·
   refine a6i ?_;refine hcd (fun h1=>?_) (fun h1=>?_)
   · refine v_4 ?_;exact ⟨cci (asp (i:=i) b5o b5o fun j hj=>(hI j hj).2),trivial⟩
   refine kj ?_;refine qcx (wgx Tryz.func103) (aos (a.getD i default) (b.getD i default)) ?_;refine w_7 ?_;refine hcn (fun h2=>?_) (fun h2=>?_)
   · refine v_5 ?_;exact ⟨cci (asj (i:=i) b5o b5o (fun j hj=>(hI j hj).2) b5p),trivial⟩
   refine w_5 ?_;refine lpz (i + 1) kk ?_;exact ⟨by show i + 1 <= _;omega,ay hI (⟨by omega,aux b5p⟩)⟩
  refine cr ?_;refine ⟨(), ?_, ?_⟩
  · exact fun j hj=>hI j b5o
  exact kk
 rintro _ hj;refine w_9 ?_;refine hcd (fun h3=>?_) (fun h3=>?_)
 · refine v_4 ?_;exact ⟨cci (aqo b5o fun j h=>(hj j h).2),trivial⟩
 refine v_5 ?_;exact ⟨cci (ar8 (awc fun j h=>(hj j h).1) b5o fun j h=>(hj j h).2),trivial⟩
def aop (a b:Rw):a8 b6e 160 [pZ a,pZ b] (aa [pB (ltZ a b)]):=by
 refine hpx (nt:=41) Tryz.func160 ?_;refine c0 ?_;refine c5 0 rfl fun hn0=>?_;refine c5 1 rfl fun hn1=>?_;refine w_3 ?_;refine d8 (ι:=Unit) (ka 0 (ka 1 kn)) km (fun _i=>⟨[],[]⟩) (fun _i=>∀ j,j < a.length -> j < b.length -> a.getD j default = b.getD j default) ?_ ?_
 ·
  refine w_5 ?_;refine ak (ι:=Nat) (ka 0 (ka 1 kn)) km (fun i=>⟨[(5,some (vI i))],[]⟩) (fun i=>i <= a.length /\ (∀ j,j < i -> j < b.length /\ a.getD j default = b.getD j default)) (fun i=>a.length - i) (0) (⟨b2z _,b9⟩) kk ?_;rintro i ⟨hi,hI⟩;refine w_8 ?_;refine ag rfl rfl (fun r0=>?_) (fun r0=>?_)
  ·
   have h0:=tz1 r0;(iterate 4 refine qy ?_ (hg:=(gtt r0)));refine w_2 ?_;refine ai _ rfl (fun r1=>?_) (fun r1=>?_)
   ·
    have h1:=tz1 (ci r0 r1);refine mj ?_;refine hcn (fun h2=>?_) (fun h2=>?_)
    · refine v7 ?_;exact hx8 rfl rfl rfl (⟨ccb (aaa (i:=i) b5o b5o (fun j h=>(hI j h).2) b5p).symm,trivial⟩)
    refine w_6 ?_;refine lpz (i + 1) kk ?_;exact ⟨by show i + 1 <= _;omega,ay hI (⟨by omega,by assumption⟩)⟩
   have h1:=tz2 (ci r0 r1);refine cr ?_;refine ⟨(), ?_, ?_⟩
   · exact fun j h1 h2=>(hI j b5o).2
   exact kk
  have h0:=tz2 r0;(iterate 4 refine k9 (gft r0) ?_);refine w_4 ?_;refine ⟨(), ?_, ?_⟩
  · exact fun j h1 h2=>(hI j b5o).2
  exact kk
 rintro _ hj;refine v_9 ?_;exact ⟨ccb (by rw [a0p hj,decide_eq_decide];omega),trivial⟩
end
section
open Go.Proofs
abbrev bxZ (a:PV):PV:=.vp 1 fun j=>[a].getD j .any
def awe (r row:Rw):a8 b6e 88 [pZ r,pP (bxZ (zl row))] (aa [pB (decide (r = row))]):=by
 refine hpx (nt:=7) Tryz.func88 ?_;refine w_8 ?_;refine qcx ac5 (anl _ _) ?_;refine v_2 ?_;exact CoL.refl _
def zr:goodFn b6e 46:=wgx Tryz.func46
def a3x (n:Int) (l:List Rw) (row:Rw):a8 b6e 46 [pT n l,pZ row] (aa [pB (l.any fun r=>decide (r = row))]):=by
 refine hpx (nt:=9) Tryz.func46 ?_;refine sx7 ?_;refine m9 0 ?_;refine m9 1 ?_;refine w_3 ?_;refine a8o 3 rfl rfl rfl ?_;refine w_4 ?_;refine qcx (wgx Tryz.func87) (ayy l 88 1 (fun i=>[bxZ (zl row)].getD i .any) (fun r=>decide (r = row)) (wgx Tryz.func88) (fun r=>awe r row)) ?_;refine v_2 ?_;exact CoL.refl _
def b04 (x:Int):a8 b6e 163 [pI x] (aa [pB (decide (x < 0))]):=by
 refine hpx (nt:=5) Tryz.func163 ?_;refine dh ?_;exact hx8 rfl rfl rfl (CoL.refl _)
def w3:goodFn b6e 122:=wgx Tryz.func122
def vr (a b:Rw) (s:AS) (h:b.length = a.length) (h16:a.length <= 16):a8 b6e 122 [pZ a,pZ b,pA s] (aa [pB (gq a b s)]):=by
 refine hpx (nt:=28) Tryz.func122 ?_;refine c0 ?_;refine c5 0 rfl fun hn0=>?_;refine c5 1 rfl fun hn1=>?_;refine w_3 ?_;refine d8 (ι:=Unit) kn km (fun _i=>⟨[],[]⟩) (fun _i=>gq a b s = true) ?_ ?_
 ·
  refine w_5 ?_;refine ak (ι:=Nat) (ka 0 (ka 1 (ka 2 kn))) km (fun i=>⟨[(7,some (vI i))],[]⟩) (fun i=>i <= a.length /\ (∀ j:Nat,j < i -> (bc s (j:Int) = true -> a.getD j default = b.getD j default))) (fun i=>a.length - i) (0) (⟨b2z _,b9⟩) kk ?_;rintro i ⟨hi,hI⟩;refine w_8 ?_;refine hcd (fun h0=>?_) (fun h0=>?_)
  ·
   refine w_7 ?_;refine qcx wl (a9w s (i:Int)) ?_;refine qy ?_;refine ag rfl rfl (fun r1=>?_) (fun r1=>?_)
   ·
    have h1:=r1;(iterate 9 refine qy ?_ (hg:=(gtt r1)));refine w_3 ?_;refine ai _ rfl (fun r2=>?_) (fun r2=>?_)
    · have h2:=tz2 (cz (ci r1 r2));refine v_4 ?_;exact ⟨ccb (akv (i:=i) b5o b5w b5w).symm,trivial⟩
    have h2:=tz1 (cu (ci r1 r2));refine w_6 ?_;refine lpz (i + 1) kk ?_;exact ⟨by show i + 1 <= _;omega,ay hI (fun hh=>by simp_all)⟩
   have h1:=r1;(iterate 9 refine k9 (gft r1) ?_);refine dh ?_;refine lpz (i + 1) kk ?_
   exact ⟨by show i + 1 <= _;omega,ay hI (fun hh=>by simp_all)⟩
  refine cr ?_;refine ⟨(), ?_, ?_⟩
  · exact vw fun j hj=>hI j b5o
  exact ⟨trivial,trivial⟩
 rintro _ hj;refine v_4 ?_;exact ⟨ccb hj.symm,trivial⟩
def vq:goodFn b6e 129:=wgx Tryz.func129
def a01 (a b:Rw) (s:AS) (h:b.length = a.length) (h16:a.length <= 16):a8 b6e 129 [pZ a,pZ b,pA s] (aa [pB (gq a b s)]):=by
 refine hpx (nt:=30) Tryz.func129 ?_;refine c0 ?_;refine c5 0 rfl fun hn0=>?_;refine c5 1 rfl fun hn1=>?_;refine w_3 ?_;refine d8 (ι:=Unit) kn km (fun _i=>⟨[],[]⟩) (fun _i=>gq a b s = true) ?_ ?_
 ·
  refine w_7 ?_;refine ak (ι:=Nat) (ka 0 (ka 1 (ka 2 (ka 9 kn)))) km (fun i=>⟨[(10,some (vI i))],[]⟩) (fun i=>i <= a.length /\ (∀ j:Nat,j < i -> (bc s (j:Int) = true -> a.getD j default = b.getD j default))) (fun i=>a.length - i) (0) (⟨b2z _,b9⟩) kk ?_;rintro i ⟨hi,hI⟩;refine w_5 ?_;refine hcd (fun h0=>?_) (fun h0=>?_)
  ·
   refine mj ?_;refine ag rfl rfl (fun r1=>?_) (fun r1=>?_)
   ·
    have h1:=tz1 r1;(iterate 9 refine qy ?_ (hg:=(gtt r1)));refine w_3 ?_;refine ai _ rfl (fun r2=>?_) (fun r2=>?_)
    · have h2:=tz2 (cz (ci r1 r2));refine v_4 ?_;exact ⟨ccb (akv (i:=i) b5o ((l4 b5o).1 b5p) b5p).symm,trivial⟩
    have h2:=tz1 (cu (ci r1 r2));refine w_5 ?_;refine lpz (i + 1) kk ?_;exact ⟨by show i + 1 <= _;omega,ay hI (fun hh=>by first | (exact absurd ((l4 b5o).2 hh) b5p) | assumption)⟩
   have h1:=tz2 r1;(iterate 9 refine k9 (gft r1) ?_);refine w_9 ?_;refine lpz (i + 1) kk ?_
   exact ⟨by show i + 1 <= _;omega,ay hI (fun hh=>by first | (exact absurd ((l4 b5o).2 hh) b5p) | assumption)⟩
  refine cr ?_;refine ⟨(), ?_, ?_⟩
  · exact vw fun j hj=>hI j b5o
  exact ⟨trivial,trivial⟩
 rintro _ hj;refine v_4 ?_;exact ⟨ccb hj.symm,trivial⟩
end
section
def bi (n:Int) (l m:List Fd):Int:=if c6 n l = 0 then (if 64 < m.length then 3 else if m.all (inU n) = true then 0 else 1) else c6 n l
section
variable {n:Int} {l m:List Fd}
def acw (h:¬ c6 n l = 0):c6 n l = bi n l m:=by unfold bi;rw [if_neg h]
def akk (h:c6 n l = 0) (h2:64 < m.length):3 = bi n l m:=by unfold bi;rw [if_pos h,if_pos h2]
def abi {i:Nat} (h:c6 n l = 0) (h2:¬ 64 < m.length) (hi:i < m.length) (hu:¬ inU n (m.getD i default) = true):1 = bi n l m:=by
 unfold bi;rw [if_pos h,if_neg h2,if_neg (fun e=>absurd (a5g (l:=m) (p:=inU n) hi (b31.2 hu)) (by rw [e];decide))]
def ajz (h:c6 n l = 0) (h2:¬ 64 < m.length) (hu:∀ j,j < m.length -> inU n (m.getD j default) = true):0 = bi n l m:=by
 unfold bi;rw [if_pos h,if_neg h2,if_pos (a95 hu)]
def sd (h:bi n l m = 0):0 <= n /\ n <= 16 /\ l.length <= 64 /\ l.all (inU n) = true /\ m.length <= 64 /\ m.all (inU n) = true:=by
 unfold bi at h;by_cases h1:c6 n l = 0
 · rw [if_pos h1] at h
   obtain ⟨a,b,c,d⟩:=rz h1;by_cases h2:64 < m.length
   · rw [if_pos h2] at h;omega
   rw [if_neg h2] at h;by_cases h3:m.all (inU n) = true
   · exact ⟨a,b,c,d,by omega,h3⟩
   rw [if_neg h3] at h;omega
 rw [if_neg h1] at h;exact absurd h h1
end
section
variable {l:List Rw}
def yp {n:Int} {i:Nat} (h1:((l.getD i default).length:Int) = n) (h2:(l.getD i default).any (fun x=>decide (x < 0)) = false) (h3:i = 0 \/ ltZ (l.getD (i - 1) default) (l.getD i default) = true):k7 n l i = true:=by
 unfold k7;rw [decide_eq_true h1,h2]
 rcases h3 with h3 | h3
 · rw [decide_eq_true h3];rfl
 rw [h3];simp
def a1b {n:Int} {i:Nat} (h:¬ ((l.getD i default).length:Int) = n):k7 n l i = false:=by unfold k7;rw [decide_eq_false h];rfl
def s4 {n:Int} {i:Nat} (h:(l.getD i default).any (fun x=>decide (x < 0)) = true):k7 n l i = false:=by unfold k7;rw [h];simp
def vt {n:Int} {i:Nat} (h0:0 < i) (h:¬ ltZ (l.getD (i - 1) default) (l.getD i default) = true):k7 n l i = false:=by
 unfold k7;rw [b31.2 h,decide_eq_false (by omega:¬ i = 0)];simp
def y7 {a b:Rw}:lg a b < 0 <-> ltZ a b = true:=by
 unfold lg;by_cases e:a = b
 · subst e
   rw [if_pos rfl,ot];exact ⟨fun h=>absurd h b5o,fun h=>by cases h⟩
 rw [if_neg e];by_cases h:ltZ a b = true
 · rw [if_pos h];exact ⟨fun _=>h,fun _=>by omega⟩
 rw [if_neg h];exact ⟨fun h=>absurd h b5o,fun h2=>absurd h2 h⟩
end
end
section
open Go.Proofs
def af4 (n:Int) (s:AS):a8 b6e 57 [pI n,pA s] (aa [pB (decide (sub s (ax n)))]):=by
 refine hpx (nt:=9) Tryz.func57 ?_;refine w_8 ?_;refine qcx lr (lv n) ?_;refine qcx t7 (xb _ _) ?_;refine v_2 ?_;exact CoL.refl _
def ace:goodFn b6e 52:=wgx Tryz.func52
def a6v (n:Int) (l m:List Fd):a8 b6e 52 [pI n,pP (fdl l),pP (fdl m)] (aa [pI (bi n l m)]):=by
 refine hpx (nt:=34) Tryz.func52 ?_;refine c0 ?_;refine c5 2 rfl fun hn2=>?_;refine w_8 ?_;refine qcx (wgx Tryz.func78) (ajn n l) ?_;refine w_7 ?_;refine hcn (fun h0=>?_) (fun h0=>?_)
 · refine v_5 ?_;exact ⟨cci (acw b5p),trivial⟩
 have hv0:c6 n l = 0:=by assumption
 obtain ⟨hn0,hn16,_,_⟩:=rz hv0;refine w_8 ?_;refine hcd (fun h1=>?_) (fun h1=>?_)
 · refine v_4 ?_;exact ⟨cci (akk hv0 b5o),trivial⟩
 refine c4 ?_;refine d8 (ι:=Unit) kn km (fun _i=>⟨[],[]⟩) (fun _i=>∀ j,j < m.length -> inU n (m.getD j default) = true) ?_ ?_
 ·
  refine w_7 ?_;refine ak (ι:=Nat) (ka 0 (ka 19 (ka 20 kn))) km (fun i=>⟨[(21,some (vI i))],[]⟩) (fun i=>i <= m.length /\ (∀ j,j < i -> inU n (m.getD j default) = true)) (fun i=>m.length - i) (0) (⟨b2z _,b9⟩) kk ?_;rintro i ⟨hi,hI⟩;refine w_5 ?_;refine hcd (fun h2=>?_) (fun h2=>?_)
  ·
   refine w_7 ?_;refine m9 0 ?_;refine kj ?_;refine hcn (fun h3=>?_) (fun h3=>?_)
   · refine v_4 ?_;exact ⟨cci (abi (i:=i) hv0 b5o b5o (fun e=>absurd (a0b.2 e) b5p)),trivial⟩
   refine w_5 ?_;refine lpz (i + 1) kk ?_;exact ⟨by show i + 1 <= _;omega,ay hI (a0b.1 b5p)⟩
  refine cr ?_;refine ⟨(), ?_, ?_⟩
  · exact fun j hj=>hI j b5o
  exact ⟨trivial,trivial⟩
 rintro _ hj;refine v_4 ?_;exact ⟨cci (ajz hv0 b5o hj),trivial⟩
def z1:goodFn b6e 26:=wgx Tryz.func26
def sn (n:Int) (l m:List Fd):a8 b6e 26 [pI n,pP (fdl l),pP (fdl m)] (aa [pI (bi n l m)]):=by
 refine hpx (nt:=42) Tryz.func26 ?_;refine c0 ?_;refine c5 2 rfl fun hn2=>?_;refine w_8 ?_;refine qcx (wgx Tryz.func56) (afk n l) ?_;refine w_7 ?_;refine hcn (fun h0=>?_) (fun h0=>?_)
 · refine v_5 ?_;exact ⟨cci (acw b5p),trivial⟩
 have hv0:c6 n l = 0:=by assumption
 obtain ⟨hn0,hn16,_,_⟩:=rz hv0;refine w_8 ?_;refine hcd (fun h1=>?_) (fun h1=>?_)
 · refine v_4 ?_;exact ⟨cci (akk hv0 b5o),trivial⟩
 refine c4 ?_;refine d8 (ι:=Unit) kn km (fun _i=>⟨[],[]⟩) (fun _i=>∀ j,j < m.length -> inU n (m.getD j default) = true) ?_ ?_
 ·
  refine w_5 ?_;refine ak (ι:=Nat) (ka 0 (ka 2 kn)) km (fun i=>⟨[(8,some (vI i))],[]⟩) (fun i=>i <= m.length /\ (∀ j,j < i -> inU n (m.getD j default) = true)) (fun i=>m.length - i) (0) (⟨b2z _,b9⟩) kk ?_;rintro i ⟨hi,hI⟩;refine w_8 ?_;refine hcd (fun h2=>?_) (fun h2=>?_)
  ·
   refine dq ?_;refine qcx (wgx Tryz.func57) (af4 n _) ?_;refine w_2 ?_;refine ag rfl rfl (fun r3=>?_) (fun r3=>?_)
   ·
    have h3:=cz r3;(iterate 8 refine k9 (gtf r3) ?_);refine w_7 ?_
    exact hx8 rfl rfl rfl (⟨cci (abi (i:=i) hv0 b5o b5o (fun e=>by rw [ng b5o b5o] at e;simp_all)),trivial⟩)
   have h3:=cu r3;(iterate 6 refine qy ?_ (hg:=(gff r3)));refine qcx (wgx Tryz.func57) (af4 n _) ?_ (hg:=(gff r3));refine qy ?_ (hg:=(gff r3));refine w_2 ?_;refine ai _ rfl (fun r4=>?_) (fun r4=>?_)
   · have h4:=cz (af r3 r4);refine v_4 ?_;exact ⟨cci (abi (i:=i) hv0 b5o b5o (fun e=>by rw [ng b5o b5o] at e;simp_all)),trivial⟩
   have h4:=cu (af r3 r4);refine w_6 ?_;refine lpz (i + 1) kk ?_;exact ⟨by show i + 1 <= _;omega,ay hI ((ng b5o b5o).2 b5w)⟩
  refine cr ?_;refine ⟨(), ?_, ?_⟩
  · exact fun j hj=>hI j b5o
  exact ⟨trivial,trivial⟩
 rintro _ hj;refine v_4 ?_;exact ⟨cci (ajz hv0 b5o hj),trivial⟩
end
section
open Go.Proofs
def nx (i:Nat):((i:Int) - 1).toNat = i - 1:=by omega
def b68 {p:Prop} (h:p:=by first | exact a1b b5p | exact s4 b5p | exact vt b5o (by simp_all [nx])):p:=h
def apu (n:Int) (l:List Rw):a8 b6e 128 [pT n l] (aa [pB (tok n l)]):=by
 refine hpx (nt:=50) Tryz.func128 ?_;refine sx7 ?_;refine m9 0 ?_;refine w_9 ?_;refine ag rfl rfl (fun r0=>?_) (fun r0=>?_)
 ·
  have h0:=tz1 r0;(iterate 3 refine k9 (gtf r0) ?_);refine w_2 ?_;(iterate 4 refine k9 rfl ?_);refine w_7 ?_
  exact hx8 rfl rfl rfl (⟨ccb (wq b5o).symm,trivial⟩)
 have h0:=tz2 r0;(iterate 3 refine qy ?_ (hg:=(gff r0)));refine w_2 ?_;refine ag rfl rfl (fun r1=>?_) (fun r1=>?_)
 ·
  have h1:=tz1 (af r0 r1);(iterate 4 refine k9 (gtf r1) ?_);refine w_7 ?_
  exact hx8 rfl rfl rfl (⟨ccb (wq b5o).symm,trivial⟩)
 have h1:=tz2 (af r0 r1);(iterate 4 refine qy ?_ (hg:=(gff r1)));refine w_2 ?_;refine ai _ rfl (fun r2=>?_) (fun r2=>?_)
 · have h2:=tz1 (af r1 r2);refine v_4 ?_;exact ⟨ccb (wq b5o).symm,trivial⟩
 have h2:=tz2 (af r1 r2);refine dh ?_;refine ak (ι:=Nat) (ka 1 (ka 20 (ka 21 kn))) (kb 0 km) (fun i=>⟨[(22,some (vI i))],[]⟩) (fun i=>i <= l.length /\ (∀ j,j < i -> k7 n l j = true)) (fun i=>l.length - i) (0) (⟨b2z _,b9⟩) kk ?_;rintro i ⟨hi,hI⟩;refine w_5 ?_;refine hcd (fun h3=>?_) (fun h3=>?_)
 ·
  refine am9 ?_;refine ag rfl rfl (fun r4=>?_) (fun r4=>?_)
  ·
   have h4:=tz2 (cz r4);(iterate 2 refine k9 (gtf r4) ?_);refine w_7 ?_
   exact hx8 rfl rfl rfl (⟨ccb (x6 (i:=i) b5o b68).symm,trivial⟩)
  have h4:=tz1 (cu r4);refine qy ?_ (hg:=(gff r4));refine qcx (wgx Tryz.func162) (b0d (l.getD i default) 163 0 (fun _=>.any) (fun x=>decide (x < 0)) (wgx Tryz.func163) (fun x=>b04 x)) ?_ (hg:=(gff r4));refine w_2 ?_;refine ai _ rfl (fun r5=>?_) (fun r5=>?_)
  · have h5:=af r4 r5;refine v_4 ?_;exact ⟨ccb (x6 (i:=i) b5o b68).symm,trivial⟩
  have h5:=af r4 r5;refine w_6 ?_;refine ag rfl rfl (fun r6=>?_) (fun r6=>?_)
  ·
   have h6:=tz1 r6;(iterate 7 refine qy ?_ (hg:=(gtt r6)));refine qcx (wgx Tryz.func136) (ap7 (l.getD ((i:Int) - 1).toNat default) (l.getD i default)) ?_ (hg:=(gtt r6));refine qy ?_ (hg:=(gtt r6));refine w_2 ?_
   refine ai _ rfl (fun r7=>?_) (fun r7=>?_)
   · have h7:=tz1 (ci r6 r7);refine v_4 ?_;exact ⟨ccb (x6 (i:=i) b5o (vt b5o fun e=>absurd (y7.2 e) (by simp only [nx] at *;omega))).symm,trivial⟩
   have h7:=tz2 (ci r6 r7);refine w_5 ?_;refine lpz (i + 1) kk ?_;exact ⟨by show i + 1 <= _;omega,ay hI (yp b5p b5p (by first | (exact .inl b5o) | (exact .inr (y7.1 (by simp only [nx] at *;omega)))))⟩
  have h6:=tz2 r6;(iterate 9 refine k9 (gft r6) ?_);refine w_8 ?_;refine lpz (i + 1) kk ?_
  exact ⟨by show i + 1 <= _;omega,ay hI (yp b5p b5p (by first | (exact .inl b5o) | (exact .inr (y7.1 (by simp only [nx] at *;omega)))))⟩
 refine v_5 ?_;exact ⟨ccb (ahc b5o b5o b5o fun j hj=>hI j b5o).symm,trivial⟩
def a6n:goodFn b6e 121:=wgx Tryz.func121
def a3d (n:Int) (l:List Rw):a8 b6e 121 [pT n l] (aa [pB (tok n l)]):=by
 refine hpx (nt:=69) Tryz.func121 ?_;refine sx7 ?_;refine m9 0 ?_;refine w_9 ?_;refine ag rfl rfl (fun r0=>?_) (fun r0=>?_)
 ·
  have h0:=tz1 r0;(iterate 3 refine k9 (gtf r0) ?_);refine w_2 ?_;(iterate 4 refine k9 rfl ?_);refine w_7 ?_
  exact hx8 rfl rfl rfl (⟨ccb (wq b5o).symm,trivial⟩)
 have h0:=tz2 r0;(iterate 3 refine qy ?_ (hg:=(gff r0)));refine w_2 ?_;refine ag rfl rfl (fun r1=>?_) (fun r1=>?_)
 ·
  have h1:=tz1 (af r0 r1);(iterate 4 refine k9 (gtf r1) ?_);refine w_7 ?_
  exact hx8 rfl rfl rfl (⟨ccb (wq b5o).symm,trivial⟩)
 have h1:=tz2 (af r0 r1);(iterate 4 refine qy ?_ (hg:=(gff r1)));refine w_2 ?_;refine ai _ rfl (fun r2=>?_) (fun r2=>?_)
 · have h2:=tz1 (af r1 r2);refine v_4 ?_;exact ⟨ccb (wq b5o).symm,trivial⟩
 have h2:=tz2 (af r1 r2);refine w_7 ?_;refine ak (ι:=Nat) (ka 1 kn) (kb 0 km) (fun i=>⟨[(3,some (vI i))],[]⟩) (fun i=>i <= l.length /\ (∀ j,j < i -> k7 n l j = true)) (fun i=>l.length - i) (0) (⟨b2z _,b9⟩) kk ?_;rintro i ⟨hi,hI⟩;refine w_9 ?_;refine hcd (fun h3=>?_) (fun h3=>?_)
 ·
  refine mj ?_;refine ag rfl rfl (fun r4=>?_) (fun r4=>?_)
  ·
   have h4:=tz2 (cz r4);(iterate 3 refine k9 (gtf r4) ?_);(iterate 13 refine k9 rfl ?_);refine k9 (gtf r4) ?_;refine w_8 ?_
   exact hx8 rfl rfl rfl (⟨ccb (x6 (i:=i) b5o b68).symm,trivial⟩)
  have h4:=tz1 (cu r4);(iterate 3 refine qy ?_ (hg:=(gff r4)));refine ag rfl rfl (fun r5=>?_) (fun r5=>?_)
  ·
   have h5:=tz1 r5;(iterate 11 refine qy ?_ (hg:=(gtt r5)));refine qcx (wgx Tryz.func160) (aop (l.getD ((i:Int) - 1).toNat default) (l.getD i default)) ?_ (hg:=(gtt r5));refine qy ?_ (hg:=(gtt r5));refine qy ?_ (hg:=(gff r4));refine w_3 ?_
   refine ai _ rfl (fun r6=>?_) (fun r6=>?_)
   · have h6:=cz (ci r5 (af r4 r6));refine v_4 ?_;exact ⟨ccb (x6 (i:=i) b5o b68).symm,trivial⟩
   have h6:=cu (ci r5 (af r4 r6));refine w_6 ?_;refine ak (ι:=Nat) (ka 1 (ka 3 kn)) (kb 0 km) (fun k=>⟨[(4,some (vI k))],[]⟩) (fun k=>k <= (l.getD i default).length /\ (∀ j,j < k -> decide ((l.getD i default).getD j default < 0) = false)) (fun k=>(l.getD i default).length - k) (0) (⟨b2z _,b9⟩) kk ?_;rintro k ⟨hk,hK⟩;refine w_8 ?_;refine hcd (fun h7=>?_) (fun h7=>?_)
   ·
    refine dq ?_;refine rq rfl rfl rfl rfl rfl ?_ (hp:=⟨rfl,by omega,by simp only [b34];omega⟩);refine w_3 ?_;refine hcd (fun h8=>?_) (fun h8=>?_)
    · refine v_4 ?_;exact ⟨ccb (x6 (i:=i) b5o (s4 (ag8 (i:=k) b5o (decide_eq_true b5p)))).symm,trivial⟩
    refine w_6 ?_;refine lpz (k + 1) kk ?_;exact ⟨by show k + 1 <= _;omega,ay hK (decide_eq_false b5p)⟩
   refine w_6 ?_;refine lpz (i + 1) kk ?_;exact ⟨by show i + 1 <= _;omega,ay hI (yp b5p (ah5 fun j hj=>hK j b5o) (by first | (exact .inl b5o) | (exact .inr (by simp_all [nx]))))⟩
  have h5:=tz2 r5;(iterate 13 refine k9 (gft r5) ?_);refine rq rfl rfl rfl rfl (gff r4) ?_ (hp:=r5);refine w_3 ?_;refine ai _ rfl (fun e=>Bool.noConfusion ((qc r4 rfl).symm.trans e)) (fun _=>?_);refine w_6 ?_
  refine ak (ι:=Nat) (ka 1 (ka 3 kn)) (kb 0 km) (fun k=>⟨[(4,some (vI k))],[]⟩) (fun k=>k <= (l.getD i default).length /\ (∀ j,j < k -> decide ((l.getD i default).getD j default < 0) = false)) (fun k=>(l.getD i default).length - k) (0) (⟨b2z _,b9⟩) kk ?_;rintro k ⟨hk,hK⟩;refine w_8 ?_;refine hcd (fun h9=>?_) (fun h9=>?_)
  ·
   refine dq ?_;refine rq rfl rfl rfl rfl rfl ?_ (hp:=⟨rfl,by omega,by simp only [b34];omega⟩);refine w_3 ?_;refine hcd (fun h10=>?_) (fun h10=>?_)
   · refine v_4 ?_;exact ⟨ccb (x6 (i:=i) b5o (s4 (ag8 (i:=k) b5o (decide_eq_true b5p)))).symm,trivial⟩
   refine w_6 ?_;refine lpz (k + 1) kk ?_;exact ⟨by show k + 1 <= _;omega,ay hK (decide_eq_false b5p)⟩
  refine w_6 ?_;refine lpz (i + 1) kk ?_;exact ⟨by show i + 1 <= _;omega,ay hI (yp b5p (ah5 fun j hj=>hK j b5o) (by first | (exact .inl b5o) | (exact .inr (by simp_all [nx]))))⟩
 refine v_5 ?_;exact ⟨ccb (ahc b5o b5o b5o fun j hj=>hI j b5o).symm,trivial⟩
def a9r:goodFn b6e 90:=wgx Tryz.func90
def a2d (n:Int) (l:List Rw) (p m:List Fd):a8 b6e 90 [pT n l,pP (fdl p),pP (fdl m)] (aa [pI (if tok n l = true then bi n p m else 1)]):=by
 refine hpx (nt:=15) Tryz.func90 ?_;refine sx7 ?_;refine m9 0 ?_;refine w_6 ?_;refine qcx (wgx Tryz.func128) (apu n l) ?_;refine w_2 ?_;refine hcv (fun h0=>?_) (fun h0=>?_)
 · refine v_4 ?_;exact ⟨cci (if_neg b5w).symm,trivial⟩
 refine w_7 ?_;refine qcx ace (a6v n p m) ?_;refine v_2 ?_;exact ⟨cci (if_pos b5w).symm,trivial⟩
def aag:goodFn b6e 50:=wgx Tryz.func50
def acb (n:Int) (l:List Rw) (row:Rw):a8 b6e 50 [pT n l,pZ row] (aa [pB (l.any fun r=>decide (r = row))]):=by
 refine hpx (nt:=20) Tryz.func50 ?_;refine sx7 ?_;refine m9 0 ?_;refine w_2 ?_;refine d8 (ι:=Unit) kn km (fun _i=>⟨[],[]⟩) (fun _i=>(l.any fun r=>decide (r = row)) = false) ?_ ?_
 ·
  refine c0 ?_;refine ay9 0 1 rfl rfl fun hn=>?_;refine w_4 ?_;refine ak (ι:=Nat) (ka 1 (ka 2 kn)) (kb 0 km) (fun i=>⟨[(5,some (vI i))],[]⟩) (fun i=>i <= l.length /\ (∀ j,j < i -> decide (l.getD j default = row) = false)) (fun i=>l.length - i) (0) (⟨b2z _,b9⟩) kk ?_;rintro i ⟨hi,hI⟩;refine w_9 ?_;refine hcd (fun h0=>?_) (fun h0=>?_)
  ·
   refine dq ?_;refine qcx (wgx Tryz.func93) (axd (l.getD i default) row) ?_;refine bm ?_;refine hcb (fun h1=>?_) (fun h1=>?_)
   · refine v_4 ?_;exact ⟨ccb (ag8 (p:=fun r=>decide (r = row)) (i:=i) b5o b5p).symm,trivial⟩
   refine w_6 ?_;refine lpz (i + 1) kk ?_;exact ⟨by show i + 1 <= _;omega,ay hI b5p⟩
  refine cr ?_;refine ⟨(), ?_, ?_⟩
  · exact ah5 fun j hj=>hI j b5o
  exact ⟨trivial,trivial⟩
 rintro _ hj;refine v_4 ?_;exact ⟨ccb hj.symm,trivial⟩
end
section
def iw (a b:Rw) (s:AS) (i:Nat):Rw:=(List.range b.length).map fun (j:Nat)=>if j < i /\ bc s (j:Int) = true then a.getD j default else b.getD j default
def mi (a b:Rw) (s:AS) (i:Nat):(iw a b s i).length = b.length:=by unfold iw;simp
section
variable {a b:Rw} {i:Nat} {s:AS}
def a67 {k:Nat} (hk:k < b.length):(iw a b s i).getD k default = if k < i /\ bc s (k:Int) = true then a.getD k default else b.getD k default:=by
 unfold iw;rw [b2t,b39,b3v hk];rfl
def a8l (a b:Rw) (s:AS):b = iw a b s 0:=jw (mi a b s 0).symm fun j hj=>by
 rw [a67 hj,if_neg b5o]
def abf (a b:Rw) (s:AS):iw a b s b.length = cj a b s:=by
 unfold iw cj;refine b4g fun k hk=>?_;have:=b3i.1 hk;by_cases h:bc s (k:Int) = true
 · rw [if_pos ⟨this,h⟩,if_pos h]
 rw [if_neg (fun e=>h e.2),if_neg h]
def avj (h:¬ bc s (i:Int) = true):iw a b s i = iw a b s (i + 1):=by
 unfold iw;refine b4g fun k hk=>?_;by_cases h2:k < i /\ bc s (k:Int) = true
 · rw [if_pos h2,if_pos ⟨by omega,h2.2⟩]
 rw [if_neg h2, if_neg fun e => h2 ⟨by rcases b55 (b5j e.1) with h3 | h3
                                       · exact h3
                                       subst h3;exact absurd e.2 h,e.2⟩]
def auo (hi:i < b.length) (h:bc s (i:Int) = true):(iw a b s i).set i (a.getD i default) = iw a b s (i + 1):=by
 refine jw (by rw [List.length_set,mi,mi]) fun j hj=>?_;rw [List.length_set,mi] at hj;rw [a67 hj];by_cases e:j = i
 · subst e
   rw [ip (by rw [mi];exact hj),if_pos ⟨by omega,h⟩]
 rw [getD_set_ne' e,a67 hj];by_cases h2:j < i /\ bc s (j:Int) = true
 · rw [if_pos h2,if_pos ⟨by omega,h2.2⟩]
 rw [if_neg h2,if_neg fun e2=>h2 ⟨by omega,e2.2⟩]
def j2 (a b:Rw) (s:AS):(cj a b s).length = b.length:=by unfold cj;simp
def p9 {n:Nat} {k:Nat} (hi:i < b.length) (h:bc s (i:Int) = true) (hn:n = b.length:=by rfl) (hk:k = i:=by rfl):
 CoO (.arr true 1 3 n (dx (lf zC (iw a b s i)) k 0 [.raw (.int .i64 (a.getD i default))])) (.arr true 1 3 n (lf zC (iw a b s (i + 1)))):=by
 rw [<- auo hi h];exact a5q (fun h=>h) (hn.trans (mi a b s i).symm) hk (by rw [mi];exact hi) rfl
def og {n:Nat} (h:¬ bc s (i:Int) = true):CoO (.arr true 1 3 n (lf zC (iw a b s i))) (.arr true 1 3 n (lf zC (iw a b s (i + 1)))):=by
 rw [<- avj h];exact CoO.refl _
def agi {n:Nat} {r:Rw} (h:r.length = n):CoC (.one (.sl n 1 false (lf zC r))) (pZ r):=by subst h;exact CoC.refl _
end
end
section
open Go.Proofs
def a6b:goodFn b6e 161:=wgx Tryz.func161
def a6o (n:Nat) (c:Bool) (f:Nat -> Nat -> PV) (hn:n <= 17592186044416) :
 c8 b6e 161 [.one (.p (.sl n 1 c f))] [] (.v (.one (.ref 0 n))) [(0, .arr true 1 3 n f)] []:=by
 refine hfx (nt:=8) Tryz.func161 ?_;refine sx7 ?_;refine av true rfl rfl rfl rfl rfl trivial ?_;refine bm ?_;refine p7 (ι:=Bool) (fun c=>⟨[(0,some (b4 (.sl n 1 c f)))],[]⟩) (fun _=>True) ?_ fun c _=>?_
 · rcases b3y n with hz | h0
   · subst hz
     refine hw_exact' 0 rfl fun ad cap hcap=>?_;refine sx7 ?_;(iterate 2 refine av true rfl rfl rfl rfl rfl trivial ?_);refine bm ?_;refine ai ad.isNone rfl (fun hc=>?_) (fun hc=>?_)
     · refine sx7 ?_
       refine av true rfl rfl rfl rfl rfl trivial ?_;refine bm ?_;refine dn 2 0 true 1 3 f b5t rfl (CoP.sl rfl (.inr rfl) (fun h=>h) fun i j hi _=>absurd hi (b2y i)) (.inr rfl) rfl ?_;refine hrr ?_;exact ⟨_,_,rfl,trivial,CoR.refl _,uu⟩
     refine c4 ?_;exact ⟨false,trivial,⟨⟨_,rfl,CoP.raw_sl hcap⟩,trivial⟩,trivial⟩
   refine sx7 ?_;refine av true rfl rfl rfl rfl rfl trivial ?_;refine av true rfl rfl rfl rfl rfl h0 ?_;refine bm ?_;refine ai false rfl (fun hc=>by cases hc) (fun hc=>?_);refine c4 ?_;exact ⟨c,trivial,tt,trivial⟩
 refine sx7 ?_;refine ne 0 rfl rfl rfl rfl rfl rfl trivial ?_;refine av true rfl rfl rfl rfl rfl trivial ?_;refine qa 0 true rfl rfl rfl rfl rfl rfl ⟨trivial,rfl,rfl,rfl, .inl rfl,by show 0 + n <= 9223372036854775807;omega,by show (0 + n) * 8 <= 140737488355328;omega,fun _=>.inl rfl⟩ ?_;refine av true rfl rfl rfl rfl rfl trivial ?_;refine bm ?_;refine hrr ?_;refine ⟨_,_,rfl,trivial,CoR.of_eq (by show HR.v (.one (.ref 0 (0 + n))) = _;rw [b3b]),⟨⟨_,rfl, ?_⟩,trivial⟩⟩;exact ⟨fun h=>h,rfl,rfl,(b3b n).symm,fun i j _ _=>CoP.of_eq (by simp [cq])⟩
def anj (n:Nat) (c:Bool) (f:Nat -> Nat -> PV) (hn:n <= 17592186044416):a8 b6e 161 [.one (.sl n 1 c f)] (.v (.one (.sl n 1 false f))) :=
 c8.pure (args:=[.one (.sl n 1 c f)]) (l:=[.one (.ref 0 n)]) (a6o n c f hn) rfl ⟨rfl,trivial⟩
def a7b:goodFn b6e 125:=wgx Tryz.func125
def b5q {p:Prop} (h:p:=by (repeat' apply And.intro) <;> first | trivial | exact b2u rfl):p:=h
def afn (n:Int) (l:List Rw) (hl:∀ i,i < l.length -> (l.getD i default).length <= 17592186044416) (hl2:l.length <= 5864062014805):c8 b6e 125 [.agg [.p (.raw (.int .i64 n)), .p (rl l)]] [] (.v (.agg [.p (.raw (.int .i64 n)), .ref 901 l.length])) [(901, .arr true 1 97 l.length (lf rC l))] []:=by
 refine hfx (nt:=25) Tryz.func125 ?_;refine sx7 ?_;refine m9 0 ?_;refine m9 1 ?_;refine w_6 ?_;refine m9 2 ?_;refine w_2 ?_;refine eo 2 1 901 true 1 97 (lf rC l) b5t rfl rfl (CoP.sl rfl (.inr rfl) (fun h=>h) (fun i j hi _=>absurd hi (b2y i))) (.inr rfl) rfl rfl ?_;refine w_9 ?_;refine bw (ka 2 (ka 3 (ka 10 (ka 11 kn)))) (kb 1 km) (fun i=>⟨[(12,some (vI i))],[(2,some (.box [.p (.raw (.int .i64 n)), .ref 901 i])),(901,some (.arr true 1 97 i (lf rC l)))]⟩) l.length kk ?_;rintro i hi;refine w_5 ?_;refine hcd (fun h0=>?_) (fun h0=>?_)
 · refine kj ?_;refine qcx a6b (anj (l.getD i default).length false (lf zC (l.getD i default)) (hl i b5o)) ?_;refine m9 3 ?_;refine r9 4 true ?_;refine w_8 ?_;exact lpx (i + 1) ⟨tt,⟨u9,⟨_,rfl,(fq (fun h=>h) (fun j hj=>by obtain rfl:j = 0:=b5o;exact CoP.refl _))⟩,uu⟩⟩
 obtain rfl:i = l.length:=by omega
 refine w_6 ?_;refine hrr ?_;exact ⟨_,_,rfl,b5q,CoR.refl _,uu⟩
def alz (n:Int) (l:List Rw) (hl:∀ i,i < l.length -> (l.getD i default).length <= 17592186044416) (hl2:l.length <= 5864062014805):a8 b6e 125 [pT n l] (aa [pT n l]) :=
 c8.pure (args:=[pT n l]) (l:=[.agg [.p (.raw (.int .i64 n)), .ref 901 l.length]]) (afn n l hl hl2) rfl ⟨⟨trivial,rfl,trivial⟩,trivial⟩
def aib (a b:Rw) (s:AS) (h:a.length = b.length) (h16:b.length <= 16):a8 b6e 132 [pZ a,pZ b,pA s] (aa [pZ (cj a b s)]):=by
 refine hpx (nt:=30) Tryz.func132 ?_;refine w_7 ?_;refine fc9 a6b (a6o b.length false (lf zC b) b5o) trivial ?_;refine dh ?_;refine bw (ka 0 (ka 2 (ka 7 (ka 12 kn)))) km (fun i=>⟨[(13,some (vI i))],[(0,some (.arr true 1 3 b.length (lf zC (iw a b s i))))]⟩) b.length ⟨tt,⟨⟨_,rfl,(CoO.of_eq (by rw [<- a8l]))⟩,trivial⟩⟩ ?_;rintro i hi;refine w_5 ?_;refine hcd (fun h0=>?_) (fun h0=>?_)
 ·
  refine mj ?_;refine hcd (fun h1=>?_) (fun h1=>?_)
  · refine v7 ?_;exact lpx (i + 1) ⟨tt,⟨⟨_,rfl,(by first | exact p9 b5o ((l4 b5o).1 b5p) | exact og (fun e=>absurd ((l4 b5o).2 e) b5p))⟩,trivial⟩⟩
  refine w_5 ?_;exact lpx (i + 1) ⟨tt,⟨⟨_,rfl,(by first | exact p9 b5o ((l4 b5o).1 b5p) | exact og (fun e=>absurd ((l4 b5o).2 e) b5p))⟩,trivial⟩⟩
 obtain rfl:i = b.length:=by omega
 refine w_2 ?_;refine bf 7 rfl rfl rfl ?_;refine v_4 ?_;exact ⟨by rw [abf];exact agi (j2 a b s),trivial⟩
end
end Go.Hx

/- A part of the proof: X1 X2 Ch3 X3 X4 Ch4 X5. -/
import Derived.Test.YteklilhbjjofbaaGreatDoorLd19
set_option linter.all false
set_option maxRecDepth 100000
set_option maxHeartbeats 1000000
namespace Go.Hx
section
open Go.Proofs
def b2k (l:List Int) (g k:Nat) (caps:Nat -> PV) (V:Int -> Bool) (hg:goodFn b98 g) (hV:∀ x,a8 b98 g (pI x :: my caps k 0) (ae [pB (V x)])):a8 b98 174 [pP (zl l),pP (.fn g k caps)] (ae [pI (idx V l)]):=by
 refine hpx (nt:=19) Tryz.func174 ?_;refine cu ?_;refine bv 0 rfl fun hn=>?_;refine w_3 ?_;refine bt (ι:=Unit) kn km (fun _i=>⟨[],[]⟩) (fun _i=>idx V l = -1) ?_ ?_
 ·
  refine w_7 ?_;refine af (ι:=Nat) (ka 0 (ka 1 (ka 7 kn))) km (fun i=>⟨[(8,some (vI i))],[]⟩) (fun i=>i <= l.length /\ (∀ j,j < i -> V (l.getD j default) = false)) (fun i=>l.length - i) (0) (⟨b5h _,ar⟩) kk ?_;rintro i ⟨hi,hI⟩;refine w_5 ?_;refine hcd (fun h0=>?_) (fun h0=>?_)
  ·
   refine pl ?_;refine rc rfl rfl rfl rfl rfl rfl hg (hV (l.getD i default)) (CoL.refl _) rfl rfl ?_;refine bq ?_;refine hcb (fun h1=>?_) (fun h1=>?_)
   · refine v_5 ?_;exact ⟨cci (a2b (i:=i) b8i hI h1).symm,trivial⟩
   refine w_5 ?_;refine lpz (i + 1) kk ?_;exact ⟨by show i + 1 <= _;omega,aj hI (h1)⟩
  refine br ?_;refine ⟨(), ?_, ?_⟩
  · exact a2f fun j hj=>hI j b8i
  exact ⟨trivial,trivial⟩
 rintro _ hj;refine v_4 ?_;exact ⟨cci hj.symm,trivial⟩
def b1p (l:List Rw) (g k:Nat) (caps:Nat -> PV) (V:Rw -> Bool) (hg:goodFn b98 g) (hV:∀ x,a8 b98 g (pZ x :: my caps k 0) (ae [pB (V x)])):a8 b98 127 [pP (rl l),pP (.fn g k caps)] (ae [pI (idx V l)]):=by
 refine hpx (nt:=19) Tryz.func127 ?_;refine cu ?_;refine bv 0 rfl fun hn=>?_;refine w_3 ?_;refine bt (ι:=Unit) kn km (fun _i=>⟨[],[]⟩) (fun _i=>idx V l = -1) ?_ ?_
 ·
  refine w_7 ?_;refine af (ι:=Nat) (ka 0 (ka 1 (ka 7 kn))) km (fun i=>⟨[(8,some (vI i))],[]⟩) (fun i=>i <= l.length /\ (∀ j,j < i -> V (l.getD j default) = false)) (fun i=>l.length - i) (0) (⟨b5h _,ar⟩) kk ?_;rintro i ⟨hi,hI⟩;refine w_5 ?_;refine hcd (fun h0=>?_) (fun h0=>?_)
  ·
   refine pl ?_;refine rc rfl rfl rfl rfl rfl rfl hg (hV (l.getD i default)) (CoL.refl _) rfl rfl ?_;refine bq ?_;refine hcb (fun h1=>?_) (fun h1=>?_)
   · refine v_5 ?_;exact ⟨cci (a2b (i:=i) b8i hI h1).symm,trivial⟩
   refine w_5 ?_;refine lpz (i + 1) kk ?_;exact ⟨by show i + 1 <= _;omega,aj hI (h1)⟩
  refine br ?_;refine ⟨(), ?_, ?_⟩
  · exact a2f fun j hj=>hI j b8i
  exact ⟨trivial,trivial⟩
 rintro _ hj;refine v_4 ?_;exact ⟨cci hj.symm,trivial⟩
def b21 (l:List Int) (g k:Nat) (caps:Nat -> PV) (V:Int -> Bool) (hg:goodFn b98 g) (hV:∀ x,a8 b98 g (pI x :: my caps k 0) (ae [pB (V x)])):a8 b98 162 [pP (zl l),pP (.fn g k caps)] (ae [pB (l.any V)]):=by
 refine hpx (nt:=9) Tryz.func162 ?_;refine w_8 ?_;refine qcx (wgx Tryz.func174) (b2k l g k caps V hg hV) ?_;refine v_3 ?_;exact ⟨ccb akc,trivial⟩
def b2f (l:List Rw) (g k:Nat) (caps:Nat -> PV) (V:Rw -> Bool) (hg:goodFn b98 g) (hV:∀ x,a8 b98 g (pZ x :: my caps k 0) (ae [pB (V x)])):a8 b98 87 [pP (rl l),pP (.fn g k caps)] (ae [pB (l.any V)]):=by
 refine hpx (nt:=9) Tryz.func87 ?_;refine w_8 ?_;refine qcx (wgx Tryz.func127) (b1p l g k caps V hg hV) ?_;refine v_3 ?_;exact ⟨ccb akc,trivial⟩
def aer:goodFn b98 89:=wgx Tryz.func89
def apo (a b:Rw):a8 b98 89 [pZ a,pZ b] (ae [pB (decide (a = b))]):=by
 refine hpx (nt:=26) Tryz.func89 ?_;refine cu ?_;refine bv 0 rfl fun hn0=>?_;refine bv 1 rfl fun hn1=>?_;refine o4 ?_;refine hcn (fun h0=>?_) (fun h0=>?_)
 · refine v_4 ?_;exact ⟨ccb (decide_eq_false fun e=>by subst e;omega).symm,trivial⟩
 refine cz ?_;refine bt (ι:=Unit) kn km (fun _i=>⟨[],[]⟩) (fun _i=>a = b) ?_ ?_
 ·
  refine w_7 ?_;refine af (ι:=Nat) (ka 0 (ka 1 (ka 12 kn))) km (fun i=>⟨[(13,some (vI i))],[]⟩) (fun i=>i <= a.length /\ (∀ j,j < i -> decide (a.getD j default = b.getD j default) = true)) (fun i=>a.length - i) (0) (⟨b5h _,ar⟩) kk ?_;rintro i ⟨hi,hI⟩;refine w_5 ?_;refine hcd (fun h1=>?_) (fun h1=>?_)
  ·
   refine an7 ?_;refine hcn (fun h2=>?_) (fun h2=>?_)
   · refine v_4 ?_;exact ⟨ccb (decide_eq_false fun e=>by subst e;simp_all).symm,trivial⟩
   refine w_5 ?_;refine lpz (i + 1) kk ?_;exact ⟨by show i + 1 <= _;omega,aj hI (decide_eq_true b8p)⟩
  refine br ?_;refine ⟨(), ?_, ?_⟩
  · exact aqu b8i fun j hj=>hI j b8i
  exact ⟨trivial,trivial⟩
 rintro _ hj;refine v_4 ?_;exact ⟨ccb (decide_eq_true hj).symm,trivial⟩
def b0j (a b:Rw):a8 b98 93 [pZ a,pZ b] (ae [pB (decide (a = b))]):=by
 refine hpx (nt:=26) Tryz.func93 ?_;refine cu ?_;refine bv 0 rfl fun hn0=>?_;refine bv 1 rfl fun hn1=>?_;refine o4 ?_;refine hcn (fun h0=>?_) (fun h0=>?_)
 · refine v_4 ?_;exact ⟨ccb (decide_eq_false fun e=>by subst e;omega).symm,trivial⟩
 refine cz ?_;refine bt (ι:=Unit) kn km (fun _i=>⟨[],[]⟩) (fun _i=>a = b) ?_ ?_
 ·
  refine w_5 ?_;refine af (ι:=Nat) (ka 0 (ka 1 kn)) km (fun i=>⟨[(5,some (vI i))],[]⟩) (fun i=>i <= a.length /\ (∀ j,j < i -> decide (a.getD j default = b.getD j default) = true)) (fun i=>a.length - i) (0) (⟨b5h _,ar⟩) kk ?_;rintro i ⟨hi,hI⟩;refine w_8 ?_;refine hcd (fun h1=>?_) (fun h1=>?_)
  ·
   refine nk ?_;refine hcn (fun h2=>?_) (fun h2=>?_)
   · refine v_4 ?_;exact ⟨ccb (decide_eq_false fun e=>by subst e;simp_all).symm,trivial⟩
   refine w_6 ?_;refine lpz (i + 1) kk ?_;exact ⟨by show i + 1 <= _;omega,aj hI (decide_eq_true b8p)⟩
  refine br ?_;refine ⟨(), ?_, ?_⟩
  · exact aqu b8i fun j hj=>hI j b8i
  exact ⟨trivial,trivial⟩
 rintro _ hj;refine v_4 ?_;exact ⟨ccb (decide_eq_true hj).symm,trivial⟩
def aqj (a b:Rw):a8 b98 136 [pZ a,pZ b] (ae [pI (mq a b)]):=by
 refine hpx (nt:=36) Tryz.func136 ?_;refine cu ?_;refine bv 0 rfl fun hn0=>?_;refine bv 1 rfl fun hn1=>?_;refine w_3 ?_;refine bt (ι:=Unit) (ka 0 (ka 1 kn)) km (fun _i=>⟨[],[]⟩) (fun _i=>∀ j,j < a.length -> j < b.length /\ a.getD j default = b.getD j default) ?_ ?_
 ·
  refine w_7 ?_;refine af (ι:=Nat) (ka 0 (ka 1 (ka 9 (ka 10 kn)))) km (fun i=>⟨[(11,some (vI i))],[]⟩) (fun i=>i <= a.length /\ (∀ j,j < i -> j < b.length /\ a.getD j default = b.getD j default)) (fun i=>a.length - i) (0) (⟨b5h _,ar⟩) kk ?_;rintro i ⟨hi,hI⟩;refine w_5 ?_;refine hcd (fun h0=>?_) (fun h0=>?_)
  ·
   refine a7t ?_;refine hcd (fun h1=>?_) (fun h1=>?_)
   · refine v_4 ?_;exact ⟨cci (atn (i:=i) b8i b8i fun j hj=>(hI j hj).2),trivial⟩
   refine m7 ?_;refine qcx (wgx Tryz.func103) (aqv (a.getD i default) (b.getD i default)) ?_;refine w_7 ?_;refine hcn (fun h2=>?_) (fun h2=>?_)
   · refine v_5 ?_;exact ⟨cci (atq (i:=i) b8i b8i (fun j hj=>(hI j hj).2) b8j),trivial⟩
   refine w_5 ?_;refine lpz (i + 1) kk ?_;exact ⟨by show i + 1 <= _;omega,aj hI (⟨by omega,awy b8j⟩)⟩
  refine br ?_;refine ⟨(), ?_, ?_⟩
  · exact fun j hj=>hI j b8i
  exact kk
 rintro _ hj;refine w_9 ?_;refine hcd (fun h3=>?_) (fun h3=>?_)
 · refine v_4 ?_;exact ⟨cci (asm b8i fun j h=>(hj j h).2),trivial⟩
 refine v_5 ?_;exact ⟨cci (att (az4 fun j h=>(hj j h).1) b8i fun j h=>(hj j h).2),trivial⟩
def aqi (a b:Rw):a8 b98 160 [pZ a,pZ b] (ae [pB (ltZ a b)]):=by
 refine hpx (nt:=41) Tryz.func160 ?_;refine cu ?_;refine bv 0 rfl fun hn0=>?_;refine bv 1 rfl fun hn1=>?_;refine w_3 ?_;refine bt (ι:=Unit) (ka 0 (ka 1 kn)) km (fun _i=>⟨[],[]⟩) (fun _i=>∀ j,j < a.length -> j < b.length -> a.getD j default = b.getD j default) ?_ ?_
 ·
  refine w_5 ?_;refine af (ι:=Nat) (ka 0 (ka 1 kn)) km (fun i=>⟨[(5,some (vI i))],[]⟩) (fun i=>i <= a.length /\ (∀ j,j < i -> j < b.length /\ a.getD j default = b.getD j default)) (fun i=>a.length - i) (0) (⟨b5h _,ar⟩) kk ?_;rintro i ⟨hi,hI⟩;refine w_8 ?_;refine aa rfl rfl (fun r0=>?_) (fun r0=>?_)
  ·
   have h0:=tz1 r0;(iterate 4 refine qy ?_ (hg:=(gtt r0)));refine w_2 ?_;refine ag _ rfl (fun r1=>?_) (fun r1=>?_)
   ·
    have h1:=tz1 (bd r0 r1);refine nk ?_;refine hcn (fun h2=>?_) (fun h2=>?_)
    · refine v6 ?_;exact hx8 rfl rfl rfl (⟨ccb (aep (i:=i) b8i b8i (fun j h=>(hI j h).2) b8j).symm,trivial⟩)
    refine w_6 ?_;refine lpz (i + 1) kk ?_;exact ⟨by show i + 1 <= _;omega,aj hI (⟨by omega,by assumption⟩)⟩
   have h1:=tz2 (bd r0 r1);refine br ?_;refine ⟨(), ?_, ?_⟩
   · exact fun j h1 h2=>(hI j b8i).2
   exact kk
  have h0:=tz2 r0;(iterate 4 refine k9 (gft r0) ?_);refine w_4 ?_;refine ⟨(), ?_, ?_⟩
  · exact fun j h1 h2=>(hI j b8i).2
  exact kk
 rintro _ hj;refine v_9 ?_;exact ⟨ccb (by rw [a2k hj,decide_eq_decide];omega),trivial⟩
end
section
open Go.Proofs
abbrev bxZ (a:PV):PV:=.vp 1 fun j=>[a].getD j .any
def axx (r row:Rw):a8 b98 88 [pZ r,pP (bxZ (zl row))] (ae [pB (decide (r = row))]):=by
 refine hpx (nt:=7) Tryz.func88 ?_;refine w_8 ?_;refine qcx aer (apo _ _) ?_;refine v_2 ?_;exact CoL.refl _
def a1g:goodFn b98 46:=wgx Tryz.func46
def a6k (n:Int) (l:List Rw) (row:Rw):a8 b98 46 [pT n l,pZ row] (ae [pB (l.any fun r=>decide (r = row))]):=by
 refine hpx (nt:=9) Tryz.func46 ?_;refine sx7 ?_;refine m9 0 ?_;refine m9 1 ?_;refine w_3 ?_;refine aag 3 rfl rfl rfl ?_;refine w_4 ?_;refine qcx (wgx Tryz.func87) (b2f l 88 1 (fun i=>[bxZ (zl row)].getD i .any) (fun r=>decide (r = row)) (wgx Tryz.func88) (fun r=>axx r row)) ?_;refine v_2 ?_;exact CoL.refl _
def b1z (x:Int):a8 b98 163 [pI x] (ae [pB (decide (x < 0))]):=by
 refine hpx (nt:=5) Tryz.func163 ?_;refine df ?_;exact hx8 rfl rfl rfl (CoL.refl _)
def xr:goodFn b98 122:=wgx Tryz.func122
def xz (a b:Rw) (s:AS) (h:b.length = a.length) (h16:a.length <= 16):a8 b98 122 [pZ a,pZ b,pA s] (ae [pB (ip a b s)]):=by
 refine hpx (nt:=28) Tryz.func122 ?_;refine cu ?_;refine bv 0 rfl fun hn0=>?_;refine bv 1 rfl fun hn1=>?_;refine w_3 ?_;refine bt (ι:=Unit) kn km (fun _i=>⟨[],[]⟩) (fun _i=>ip a b s = true) ?_ ?_
 ·
  refine w_5 ?_;refine af (ι:=Nat) (ka 0 (ka 1 (ka 2 kn))) km (fun i=>⟨[(7,some (vI i))],[]⟩) (fun i=>i <= a.length /\ (∀ j:Nat,j < i -> (bi s (j:Int) = true -> a.getD j default = b.getD j default))) (fun i=>a.length - i) (0) (⟨b5h _,ar⟩) kk ?_;rintro i ⟨hi,hI⟩;refine w_8 ?_;refine hcd (fun h0=>?_) (fun h0=>?_)
  ·
   refine w_7 ?_;refine qcx tn (a7k s (i:Int)) ?_;refine qy ?_;refine aa rfl rfl (fun r1=>?_) (fun r1=>?_)
   ·
    have h1:=r1;(iterate 9 refine qy ?_ (hg:=(gtt r1)));refine w_3 ?_;refine ag _ rfl (fun r2=>?_) (fun r2=>?_)
    · have h2:=tz2 (d6 (bd r1 r2));refine v_4 ?_;exact ⟨ccb (ake (i:=i) b8i b8p b8p).symm,trivial⟩
    have h2:=tz1 (d5 (bd r1 r2));refine w_6 ?_;refine lpz (i + 1) kk ?_;exact ⟨by show i + 1 <= _;omega,aj hI (fun hh=>by simp_all)⟩
   have h1:=r1;(iterate 9 refine k9 (gft r1) ?_);refine df ?_;refine lpz (i + 1) kk ?_
   exact ⟨by show i + 1 <= _;omega,aj hI (fun hh=>by simp_all)⟩
  refine br ?_;refine ⟨(), ?_, ?_⟩
  · exact xh fun j hj=>hI j b8i
  exact ⟨trivial,trivial⟩
 rintro _ hj;refine v_4 ?_;exact ⟨ccb hj.symm,trivial⟩
def y5:goodFn b98 129:=wgx Tryz.func129
def a12 (a b:Rw) (s:AS) (h:b.length = a.length) (h16:a.length <= 16):a8 b98 129 [pZ a,pZ b,pA s] (ae [pB (ip a b s)]):=by
 refine hpx (nt:=30) Tryz.func129 ?_;refine cu ?_;refine bv 0 rfl fun hn0=>?_;refine bv 1 rfl fun hn1=>?_;refine w_3 ?_;refine bt (ι:=Unit) kn km (fun _i=>⟨[],[]⟩) (fun _i=>ip a b s = true) ?_ ?_
 ·
  refine w_7 ?_;refine af (ι:=Nat) (ka 0 (ka 1 (ka 2 (ka 9 kn)))) km (fun i=>⟨[(10,some (vI i))],[]⟩) (fun i=>i <= a.length /\ (∀ j:Nat,j < i -> (bi s (j:Int) = true -> a.getD j default = b.getD j default))) (fun i=>a.length - i) (0) (⟨b5h _,ar⟩) kk ?_;rintro i ⟨hi,hI⟩;refine w_5 ?_;refine hcd (fun h0=>?_) (fun h0=>?_)
  ·
   refine nk ?_;refine aa rfl rfl (fun r1=>?_) (fun r1=>?_)
   ·
    have h1:=tz1 r1;(iterate 9 refine qy ?_ (hg:=(gtt r1)));refine w_3 ?_;refine ag _ rfl (fun r2=>?_) (fun r2=>?_)
    · have h2:=tz2 (d6 (bd r1 r2));refine v_4 ?_;exact ⟨ccb (ake (i:=i) b8i ((mb b8i).1 b8j) b8j).symm,trivial⟩
    have h2:=tz1 (d5 (bd r1 r2));refine w_5 ?_;refine lpz (i + 1) kk ?_;exact ⟨by show i + 1 <= _;omega,aj hI (fun hh=>by first | (exact absurd ((mb b8i).2 hh) b8j) | assumption)⟩
   have h1:=tz2 r1;(iterate 9 refine k9 (gft r1) ?_);refine w_9 ?_;refine lpz (i + 1) kk ?_
   exact ⟨by show i + 1 <= _;omega,aj hI (fun hh=>by first | (exact absurd ((mb b8i).2 hh) b8j) | assumption)⟩
  refine br ?_;refine ⟨(), ?_, ?_⟩
  · exact xh fun j hj=>hI j b8i
  exact ⟨trivial,trivial⟩
 rintro _ hj;refine v_4 ?_;exact ⟨ccb hj.symm,trivial⟩
end
section
def bw (n:Int) (l m:List Fd):Int:=if db n l = 0 then (if 64 < m.length then 3 else if m.all (inU n) = true then 0 else 1) else db n l
section
variable {n:Int} {l m:List Fd}
def akn (h:¬ db n l = 0):db n l = bw n l m:=by unfold bw;rw [if_neg h]
def am3 (h:db n l = 0) (h2:64 < m.length):3 = bw n l m:=by unfold bw;rw [if_pos h,if_pos h2]
def ae7 {i:Nat} (h:db n l = 0) (h2:¬ 64 < m.length) (hi:i < m.length) (hu:¬ inU n (m.getD i default) = true):1 = bw n l m:=by
 unfold bw;rw [if_pos h,if_neg h2,if_neg (fun e=>absurd (s4 (l:=m) (p:=inU n) hi (b5m.2 hu)) (by rw [e];decide))]
def ak0 (h:db n l = 0) (h2:¬ 64 < m.length) (hu:∀ j,j < m.length -> inU n (m.getD j default) = true):0 = bw n l m:=by
 unfold bw;rw [if_pos h,if_neg h2,if_pos (w5 hu)]
def oj (h:bw n l m = 0):0 <= n /\ n <= 16 /\ l.length <= 64 /\ l.all (inU n) = true /\ m.length <= 64 /\ m.all (inU n) = true:=by
 unfold bw at h;by_cases h1:db n l = 0
 · rw [if_pos h1] at h
   obtain ⟨a,b,c,d⟩:=a8x h1;by_cases h2:64 < m.length
   · rw [if_pos h2] at h;omega
   rw [if_neg h2] at h;by_cases h3:m.all (inU n) = true
   · exact ⟨a,b,c,d,by omega,h3⟩
   rw [if_neg h3] at h;omega
 rw [if_neg h1] at h;exact absurd h h1
end
section
variable {l:List Rw}
def a1k {n:Int} {i:Nat} (h1:((l.getD i default).length:Int) = n) (h2:(l.getD i default).any (fun x=>decide (x < 0)) = false) (h3:i = 0 \/ ltZ (l.getD (i - 1) default) (l.getD i default) = true):lc n l i = true:=by
 unfold lc;rw [decide_eq_true h1,h2]
 rcases h3 with h3 | h3
 · rw [decide_eq_true h3];rfl
 rw [h3];simp
def a2e {n:Int} {i:Nat} (h:¬ ((l.getD i default).length:Int) = n):lc n l i = false:=by unfold lc;rw [decide_eq_false h];rfl
def tu {n:Int} {i:Nat} (h:(l.getD i default).any (fun x=>decide (x < 0)) = true):lc n l i = false:=by unfold lc;rw [h];simp
def y4 {n:Int} {i:Nat} (h0:0 < i) (h:¬ ltZ (l.getD (i - 1) default) (l.getD i default) = true):lc n l i = false:=by
 unfold lc;rw [b5m.2 h,decide_eq_false (by omega:¬ i = 0)];simp
def yh {a b:Rw}:mq a b < 0 <-> ltZ a b = true:=by
 unfold mq;by_cases e:a = b
 · subst e
   rw [if_pos rfl,oi];exact ⟨fun h=>absurd h b8i,fun h=>by cases h⟩
 rw [if_neg e];by_cases h:ltZ a b = true
 · rw [if_pos h];exact ⟨fun _=>h,fun _=>by omega⟩
 rw [if_neg h];exact ⟨fun h=>absurd h b8i,fun h2=>absurd h2 h⟩
end
end
section
open Go.Proofs
def aek:goodFn b98 57:=wgx Tryz.func57
def a7d (n:Int) (s:AS):a8 b98 57 [pI n,pA s] (ae [pB (decide (sub s (b6 n)))]):=by
 refine hpx (nt:=9) Tryz.func57 ?_;refine w_8 ?_;refine qcx sa (sj n) ?_;refine qcx a6f (aaq _ _) ?_;refine v_2 ?_;exact CoL.refl _
def abn:goodFn b98 52:=wgx Tryz.func52
def a8z (n:Int) (l m:List Fd):a8 b98 52 [pI n,pP (fdl l),pP (fdl m)] (ae [pI (bw n l m)]):=by
 refine hpx (nt:=34) Tryz.func52 ?_;refine cu ?_;refine bv 2 rfl fun hn2=>?_;refine w_8 ?_;refine qcx (wgx Tryz.func78) (ay7 n l) ?_;refine w_7 ?_;refine hcn (fun h0=>?_) (fun h0=>?_)
 · refine v_5 ?_;exact ⟨cci (akn b8j),trivial⟩
 have hv0:db n l = 0:=by assumption
 obtain ⟨hn0,hn16,_,_⟩:=a8x hv0;refine w_8 ?_;refine hcd (fun h1=>?_) (fun h1=>?_)
 · refine v_4 ?_;exact ⟨cci (am3 hv0 b8i),trivial⟩
 refine cz ?_;refine bt (ι:=Unit) kn km (fun _i=>⟨[],[]⟩) (fun _i=>∀ j,j < m.length -> inU n (m.getD j default) = true) ?_ ?_
 ·
  refine w_7 ?_;refine af (ι:=Nat) (ka 0 (ka 19 (ka 20 kn))) km (fun i=>⟨[(21,some (vI i))],[]⟩) (fun i=>i <= m.length /\ (∀ j,j < i -> inU n (m.getD j default) = true)) (fun i=>m.length - i) (0) (⟨b5h _,ar⟩) kk ?_;rintro i ⟨hi,hI⟩;refine w_5 ?_;refine hcd (fun h2=>?_) (fun h2=>?_)
  ·
   refine w_7 ?_;refine m9 0 ?_;refine m7 ?_;refine hcn (fun h3=>?_) (fun h3=>?_)
   · refine v_4 ?_;exact ⟨cci (ae7 (i:=i) hv0 b8i b8i (fun e=>absurd (a20.2 e) b8j)),trivial⟩
   refine w_5 ?_;refine lpz (i + 1) kk ?_;exact ⟨by show i + 1 <= _;omega,aj hI (a20.1 b8j)⟩
  refine br ?_;refine ⟨(), ?_, ?_⟩
  · exact fun j hj=>hI j b8i
  exact ⟨trivial,trivial⟩
 rintro _ hj;refine v_4 ?_;exact ⟨cci (ak0 hv0 b8i hj),trivial⟩
def a69:goodFn b98 26:=wgx Tryz.func26
def zj (n:Int) (l m:List Fd):a8 b98 26 [pI n,pP (fdl l),pP (fdl m)] (ae [pI (bw n l m)]):=by
 refine hpx (nt:=42) Tryz.func26 ?_;refine cu ?_;refine bv 2 rfl fun hn2=>?_;refine w_8 ?_;refine qcx (wgx Tryz.func56) (ati n l) ?_;refine w_7 ?_;refine hcn (fun h0=>?_) (fun h0=>?_)
 · refine v_5 ?_;exact ⟨cci (akn b8j),trivial⟩
 have hv0:db n l = 0:=by assumption
 obtain ⟨hn0,hn16,_,_⟩:=a8x hv0;refine w_8 ?_;refine hcd (fun h1=>?_) (fun h1=>?_)
 · refine v_4 ?_;exact ⟨cci (am3 hv0 b8i),trivial⟩
 refine cz ?_;refine bt (ι:=Unit) kn km (fun _i=>⟨[],[]⟩) (fun _i=>∀ j,j < m.length -> inU n (m.getD j default) = true) ?_ ?_
 ·
  refine w_5 ?_;refine af (ι:=Nat) (ka 0 (ka 2 kn)) km (fun i=>⟨[(8,some (vI i))],[]⟩) (fun i=>i <= m.length /\ (∀ j,j < i -> inU n (m.getD j default) = true)) (fun i=>m.length - i) (0) (⟨b5h _,ar⟩) kk ?_;rintro i ⟨hi,hI⟩;refine w_8 ?_;refine hcd (fun h2=>?_) (fun h2=>?_)
  ·
   refine ej ?_;refine qcx aek (a7d n _) ?_;refine w_2 ?_;refine aa rfl rfl (fun r3=>?_) (fun r3=>?_)
   ·
    have h3:=d6 r3;(iterate 8 refine k9 (gtf r3) ?_);refine w_7 ?_
    exact hx8 rfl rfl rfl (⟨cci (ae7 (i:=i) hv0 b8i b8i (fun e=>by rw [od b8i b8i] at e;simp_all)),trivial⟩)
   have h3:=d5 r3;(iterate 6 refine qy ?_ (hg:=(gff r3)));refine qcx aek (a7d n _) ?_ (hg:=(gff r3));refine qy ?_ (hg:=(gff r3));refine w_2 ?_;refine ag _ rfl (fun r4=>?_) (fun r4=>?_)
   · have h4:=d6 (ab r3 r4);refine v_4 ?_;exact ⟨cci (ae7 (i:=i) hv0 b8i b8i (fun e=>by rw [od b8i b8i] at e;simp_all)),trivial⟩
   have h4:=d5 (ab r3 r4);refine w_6 ?_;refine lpz (i + 1) kk ?_;exact ⟨by show i + 1 <= _;omega,aj hI ((od b8i b8i).2 b8p)⟩
  refine br ?_;refine ⟨(), ?_, ?_⟩
  · exact fun j hj=>hI j b8i
  exact ⟨trivial,trivial⟩
 rintro _ hj;refine v_4 ?_;exact ⟨cci (ak0 hv0 b8i hj),trivial⟩
end
section
open Go.Proofs
def pe (i:Nat):((i:Int) - 1).toNat = i - 1:=by omega
def b92 {p:Prop} (h:p:=by first | exact a2e b8j | exact tu b8j | exact y4 b8i (by simp_all [pe])):p:=h
def ats (n:Int) (l:List Rw):a8 b98 128 [pT n l] (ae [pB (tok n l)]):=by
 refine hpx (nt:=50) Tryz.func128 ?_;refine sx7 ?_;refine m9 0 ?_;refine w_9 ?_;refine aa rfl rfl (fun r0=>?_) (fun r0=>?_)
 ·
  have h0:=tz1 r0;(iterate 3 refine k9 (gtf r0) ?_);refine w_2 ?_;(iterate 4 refine k9 rfl ?_);refine w_7 ?_
  exact hx8 rfl rfl rfl (⟨ccb (xt b8i).symm,trivial⟩)
 have h0:=tz2 r0;(iterate 3 refine qy ?_ (hg:=(gff r0)));refine w_2 ?_;refine aa rfl rfl (fun r1=>?_) (fun r1=>?_)
 ·
  have h1:=tz1 (ab r0 r1);(iterate 4 refine k9 (gtf r1) ?_);refine w_7 ?_
  exact hx8 rfl rfl rfl (⟨ccb (xt b8i).symm,trivial⟩)
 have h1:=tz2 (ab r0 r1);(iterate 4 refine qy ?_ (hg:=(gff r1)));refine w_2 ?_;refine ag _ rfl (fun r2=>?_) (fun r2=>?_)
 · have h2:=tz1 (ab r1 r2);refine v_4 ?_;exact ⟨ccb (xt b8i).symm,trivial⟩
 have h2:=tz2 (ab r1 r2);refine df ?_;refine af (ι:=Nat) (ka 1 (ka 20 (ka 21 kn))) (kb 0 km) (fun i=>⟨[(22,some (vI i))],[]⟩) (fun i=>i <= l.length /\ (∀ j,j < i -> lc n l j = true)) (fun i=>l.length - i) (0) (⟨b5h _,ar⟩) kk ?_;rintro i ⟨hi,hI⟩;refine w_5 ?_;refine hcd (fun h3=>?_) (fun h3=>?_)
 ·
  refine ap8 ?_;refine aa rfl rfl (fun r4=>?_) (fun r4=>?_)
  ·
   have h4:=tz2 (d6 r4);(iterate 2 refine k9 (gtf r4) ?_);refine w_7 ?_
   exact hx8 rfl rfl rfl (⟨ccb (yz (i:=i) b8i b92).symm,trivial⟩)
  have h4:=tz1 (d5 r4);refine qy ?_ (hg:=(gff r4));refine qcx (wgx Tryz.func162) (b21 (l.getD i default) 163 0 (fun _=>.any) (fun x=>decide (x < 0)) (wgx Tryz.func163) (fun x=>b1z x)) ?_ (hg:=(gff r4));refine w_2 ?_;refine ag _ rfl (fun r5=>?_) (fun r5=>?_)
  · have h5:=ab r4 r5;refine v_4 ?_;exact ⟨ccb (yz (i:=i) b8i b92).symm,trivial⟩
  have h5:=ab r4 r5;refine w_6 ?_;refine aa rfl rfl (fun r6=>?_) (fun r6=>?_)
  ·
   have h6:=tz1 r6;(iterate 7 refine qy ?_ (hg:=(gtt r6)));refine qcx (wgx Tryz.func136) (aqj (l.getD ((i:Int) - 1).toNat default) (l.getD i default)) ?_ (hg:=(gtt r6));refine qy ?_ (hg:=(gtt r6));refine w_2 ?_
   refine ag _ rfl (fun r7=>?_) (fun r7=>?_)
   · have h7:=tz1 (bd r6 r7);refine v_4 ?_;exact ⟨ccb (yz (i:=i) b8i (y4 b8i fun e=>absurd (yh.2 e) (by simp only [pe] at *;omega))).symm,trivial⟩
   have h7:=tz2 (bd r6 r7);refine w_5 ?_;refine lpz (i + 1) kk ?_;exact ⟨by show i + 1 <= _;omega,aj hI (a1k b8j b8j (by first | (exact .inl b8i) | (exact .inr (yh.1 (by simp only [pe] at *;omega)))))⟩
  have h6:=tz2 r6;(iterate 9 refine k9 (gft r6) ?_);refine w_8 ?_;refine lpz (i + 1) kk ?_
  exact ⟨by show i + 1 <= _;omega,aj hI (a1k b8j b8j (by first | (exact .inl b8i) | (exact .inr (yh.1 (by simp only [pe] at *;omega)))))⟩
 refine v_5 ?_;exact ⟨ccb (aj7 b8i b8i b8i fun j hj=>hI j b8i).symm,trivial⟩
def a79:goodFn b98 121:=wgx Tryz.func121
def a3l (n:Int) (l:List Rw):a8 b98 121 [pT n l] (ae [pB (tok n l)]):=by
 refine hpx (nt:=69) Tryz.func121 ?_;refine sx7 ?_;refine m9 0 ?_;refine w_9 ?_;refine aa rfl rfl (fun r0=>?_) (fun r0=>?_)
 ·
  have h0:=tz1 r0;(iterate 3 refine k9 (gtf r0) ?_);refine w_2 ?_;(iterate 4 refine k9 rfl ?_);refine w_7 ?_
  exact hx8 rfl rfl rfl (⟨ccb (xt b8i).symm,trivial⟩)
 have h0:=tz2 r0;(iterate 3 refine qy ?_ (hg:=(gff r0)));refine w_2 ?_;refine aa rfl rfl (fun r1=>?_) (fun r1=>?_)
 ·
  have h1:=tz1 (ab r0 r1);(iterate 4 refine k9 (gtf r1) ?_);refine w_7 ?_
  exact hx8 rfl rfl rfl (⟨ccb (xt b8i).symm,trivial⟩)
 have h1:=tz2 (ab r0 r1);(iterate 4 refine qy ?_ (hg:=(gff r1)));refine w_2 ?_;refine ag _ rfl (fun r2=>?_) (fun r2=>?_)
 · have h2:=tz1 (ab r1 r2);refine v_4 ?_;exact ⟨ccb (xt b8i).symm,trivial⟩
 have h2:=tz2 (ab r1 r2);refine w_7 ?_;refine af (ι:=Nat) (ka 1 kn) (kb 0 km) (fun i=>⟨[(3,some (vI i))],[]⟩) (fun i=>i <= l.length /\ (∀ j,j < i -> lc n l j = true)) (fun i=>l.length - i) (0) (⟨b5h _,ar⟩) kk ?_;rintro i ⟨hi,hI⟩;refine w_9 ?_;refine hcd (fun h3=>?_) (fun h3=>?_)
 ·
  refine nk ?_;refine aa rfl rfl (fun r4=>?_) (fun r4=>?_)
  ·
   have h4:=tz2 (d6 r4);(iterate 3 refine k9 (gtf r4) ?_);(iterate 13 refine k9 rfl ?_);refine k9 (gtf r4) ?_;refine w_8 ?_
   exact hx8 rfl rfl rfl (⟨ccb (yz (i:=i) b8i b92).symm,trivial⟩)
  have h4:=tz1 (d5 r4);(iterate 3 refine qy ?_ (hg:=(gff r4)));refine aa rfl rfl (fun r5=>?_) (fun r5=>?_)
  ·
   have h5:=tz1 r5;(iterate 11 refine qy ?_ (hg:=(gtt r5)));refine qcx (wgx Tryz.func160) (aqi (l.getD ((i:Int) - 1).toNat default) (l.getD i default)) ?_ (hg:=(gtt r5));refine qy ?_ (hg:=(gtt r5));refine qy ?_ (hg:=(gff r4));refine w_3 ?_
   refine ag _ rfl (fun r6=>?_) (fun r6=>?_)
   · have h6:=d6 (bd r5 (ab r4 r6));refine v_4 ?_;exact ⟨ccb (yz (i:=i) b8i b92).symm,trivial⟩
   have h6:=d5 (bd r5 (ab r4 r6));refine w_6 ?_;refine af (ι:=Nat) (ka 1 (ka 3 kn)) (kb 0 km) (fun k=>⟨[(4,some (vI k))],[]⟩) (fun k=>k <= (l.getD i default).length /\ (∀ j,j < k -> decide ((l.getD i default).getD j default < 0) = false)) (fun k=>(l.getD i default).length - k) (0) (⟨b5h _,ar⟩) kk ?_;rintro k ⟨hk,hK⟩;refine w_8 ?_;refine hcd (fun h7=>?_) (fun h7=>?_)
   ·
    refine ej ?_;refine rq rfl rfl rfl rfl rfl ?_ (hp:=⟨rfl,by omega,by simp only [b5t];omega⟩);refine w_3 ?_;refine hcd (fun h8=>?_) (fun h8=>?_)
    · refine v_4 ?_;exact ⟨ccb (yz (i:=i) b8i (tu (a5w (i:=k) b8i (decide_eq_true b8j)))).symm,trivial⟩
    refine w_6 ?_;refine lpz (k + 1) kk ?_;exact ⟨by show k + 1 <= _;omega,aj hK (decide_eq_false b8j)⟩
   refine w_6 ?_;refine lpz (i + 1) kk ?_;exact ⟨by show i + 1 <= _;omega,aj hI (a1k b8j (a5k fun j hj=>hK j b8i) (by first | (exact .inl b8i) | (exact .inr (by simp_all [pe]))))⟩
  have h5:=tz2 r5;(iterate 13 refine k9 (gft r5) ?_);refine rq rfl rfl rfl rfl (gff r4) ?_ (hp:=r5);refine w_3 ?_;refine ag _ rfl (fun e=>Bool.noConfusion ((mz r4 rfl).symm.trans e)) (fun _=>?_);refine w_6 ?_
  refine af (ι:=Nat) (ka 1 (ka 3 kn)) (kb 0 km) (fun k=>⟨[(4,some (vI k))],[]⟩) (fun k=>k <= (l.getD i default).length /\ (∀ j,j < k -> decide ((l.getD i default).getD j default < 0) = false)) (fun k=>(l.getD i default).length - k) (0) (⟨b5h _,ar⟩) kk ?_;rintro k ⟨hk,hK⟩;refine w_8 ?_;refine hcd (fun h9=>?_) (fun h9=>?_)
  ·
   refine ej ?_;refine rq rfl rfl rfl rfl rfl ?_ (hp:=⟨rfl,by omega,by simp only [b5t];omega⟩);refine w_3 ?_;refine hcd (fun h10=>?_) (fun h10=>?_)
   · refine v_4 ?_;exact ⟨ccb (yz (i:=i) b8i (tu (a5w (i:=k) b8i (decide_eq_true b8j)))).symm,trivial⟩
   refine w_6 ?_;refine lpz (k + 1) kk ?_;exact ⟨by show k + 1 <= _;omega,aj hK (decide_eq_false b8j)⟩
  refine w_6 ?_;refine lpz (i + 1) kk ?_;exact ⟨by show i + 1 <= _;omega,aj hI (a1k b8j (a5k fun j hj=>hK j b8i) (by first | (exact .inl b8i) | (exact .inr (by simp_all [pe]))))⟩
 refine v_5 ?_;exact ⟨ccb (aj7 b8i b8i b8i fun j hj=>hI j b8i).symm,trivial⟩
def ad5:goodFn b98 90:=wgx Tryz.func90
def a3s (n:Int) (l:List Rw) (p m:List Fd):a8 b98 90 [pT n l,pP (fdl p),pP (fdl m)] (ae [pI (if tok n l = true then bw n p m else 1)]):=by
 refine hpx (nt:=15) Tryz.func90 ?_;refine sx7 ?_;refine m9 0 ?_;refine w_6 ?_;refine qcx (wgx Tryz.func128) (ats n l) ?_;refine w_2 ?_;refine hcv (fun h0=>?_) (fun h0=>?_)
 · refine v_4 ?_;exact ⟨cci (if_neg b8p).symm,trivial⟩
 refine w_7 ?_;refine qcx abn (a8z n p m) ?_;refine v_2 ?_;exact ⟨cci (if_pos b8p).symm,trivial⟩
def ac7:goodFn b98 50:=wgx Tryz.func50
def aeo (n:Int) (l:List Rw) (row:Rw):a8 b98 50 [pT n l,pZ row] (ae [pB (l.any fun r=>decide (r = row))]):=by
 refine hpx (nt:=20) Tryz.func50 ?_;refine sx7 ?_;refine m9 0 ?_;refine w_2 ?_;refine bt (ι:=Unit) kn km (fun _i=>⟨[],[]⟩) (fun _i=>(l.any fun r=>decide (r = row)) = false) ?_ ?_
 ·
  refine cu ?_;refine aqt 0 1 rfl rfl fun hn=>?_;refine w_4 ?_;refine af (ι:=Nat) (ka 1 (ka 2 kn)) (kb 0 km) (fun i=>⟨[(5,some (vI i))],[]⟩) (fun i=>i <= l.length /\ (∀ j,j < i -> decide (l.getD j default = row) = false)) (fun i=>l.length - i) (0) (⟨b5h _,ar⟩) kk ?_;rintro i ⟨hi,hI⟩;refine w_9 ?_;refine hcd (fun h0=>?_) (fun h0=>?_)
  ·
   refine ej ?_;refine qcx (wgx Tryz.func93) (b0j (l.getD i default) row) ?_;refine bq ?_;refine hcb (fun h1=>?_) (fun h1=>?_)
   · refine v_4 ?_;exact ⟨ccb (a5w (p:=fun r=>decide (r = row)) (i:=i) b8i b8j).symm,trivial⟩
   refine w_6 ?_;refine lpz (i + 1) kk ?_;exact ⟨by show i + 1 <= _;omega,aj hI b8j⟩
  refine br ?_;refine ⟨(), ?_, ?_⟩
  · exact a5k fun j hj=>hI j b8i
  exact ⟨trivial,trivial⟩
 rintro _ hj;refine v_4 ?_;exact ⟨ccb hj.symm,trivial⟩
end
section
def ja (a b:Rw) (s:AS) (i:Nat):Rw:=(List.range b.length).map fun (j:Nat)=>if j < i /\ bi s (j:Int) = true then a.getD j default else b.getD j default
def nq (a b:Rw) (s:AS) (i:Nat):(ja a b s i).length = b.length:=by unfold ja;simp
section
variable {a b:Rw} {i:Nat} {s:AS}
def a7y {k:Nat} (hk:k < b.length):(ja a b s i).getD k default = if k < i /\ bi s (k:Int) = true then a.getD k default else b.getD k default:=by
 unfold ja;rw [b5c,b5s,b6d hk];rfl
def a9s (a b:Rw) (s:AS):b = ja a b s 0:=jw (nq a b s 0).symm fun j hj=>by
 rw [a7y hj,if_neg b8i]
def acv (a b:Rw) (s:AS):ja a b s b.length = d7 a b s:=by
 unfold ja d7;refine b76 fun k hk=>?_;have:=b5r.1 hk;by_cases h:bi s (k:Int) = true
 · rw [if_pos ⟨this,h⟩,if_pos h]
 rw [if_neg (fun e=>h e.2),if_neg h]
def ayl (h:¬ bi s (i:Int) = true):ja a b s i = ja a b s (i + 1):=by
 unfold ja;refine b76 fun k hk=>?_;by_cases h2:k < i /\ bi s (k:Int) = true
 · rw [if_pos h2,if_pos ⟨by omega,h2.2⟩]
 rw [if_neg h2, if_neg fun e => h2 ⟨by rcases b7s (b8d e.1) with h3 | h3
                                       · exact h3
                                       subst h3;exact absurd e.2 h,e.2⟩]
def awh (hi:i < b.length) (h:bi s (i:Int) = true):(ja a b s i).set i (a.getD i default) = ja a b s (i + 1):=by
 refine jw (by rw [b7m,nq,nq]) fun j hj=>?_;rw [b7m,nq] at hj;rw [a7y hj];by_cases e:j = i
 · subst e
   rw [jg (by rw [nq];exact hj),if_pos ⟨by omega,h⟩]
 rw [getD_set_ne' e,a7y hj];by_cases h2:j < i /\ bi s (j:Int) = true
 · rw [if_pos h2,if_pos ⟨by omega,h2.2⟩]
 rw [if_neg h2,if_neg fun e2=>h2 ⟨by omega,e2.2⟩]
def jb (a b:Rw) (s:AS):(d7 a b s).length = b.length:=by unfold d7;simp
def qq {n:Nat} {k:Nat} (hi:i < b.length) (h:bi s (i:Int) = true) (hn:n = b.length:=by rfl) (hk:k = i:=by rfl):
 CoO (.arr true 1 3 n (ew (lf zC (ja a b s i)) k 0 [.raw (.int .i64 (a.getD i default))])) (.arr true 1 3 n (lf zC (ja a b s (i + 1)))):=by
 rw [<- awh hi h];exact a83 (fun h=>h) (hn.trans (nq a b s i).symm) hk (by rw [nq];exact hi) rfl
def qw {n:Nat} (h:¬ bi s (i:Int) = true):CoO (.arr true 1 3 n (lf zC (ja a b s i))) (.arr true 1 3 n (lf zC (ja a b s (i + 1)))):=by
 rw [<- ayl h];exact CoO.refl _
def ai9 {n:Nat} {r:Rw} (h:r.length = n):CoC (.one (.sl n 1 false (lf zC r))) (pZ r):=by subst h;exact CoC.refl _
end
end
section
open Go.Proofs
def a8n:goodFn b98 161:=wgx Tryz.func161
def a8a (n:Nat) (c:Bool) (f:Nat -> Nat -> PV) (hn:n <= 17592186044416) :
 cq b98 161 [.one (.p (.sl n 1 c f))] [] (.v (.one (.ref 0 n))) [(0, .arr true 1 3 n f)] []:=by
 refine hfx (nt:=8) Tryz.func161 ?_;refine sx7 ?_;refine ax true rfl rfl rfl rfl rfl trivial ?_;refine bq ?_;refine qb (ι:=Bool) (fun c=>⟨[(0,some (b4 (.sl n 1 c f)))],[]⟩) (fun _=>True) ?_ fun c _=>?_
 · rcases b6m n with hz | h0
   · subst hz
     refine hw_exact' 0 rfl fun ad cap hcap=>?_;refine sx7 ?_;(iterate 2 refine ax true rfl rfl rfl rfl rfl trivial ?_);refine bq ?_;refine ag ad.isNone rfl (fun hc=>?_) (fun hc=>?_)
     · refine sx7 ?_
       refine ax true rfl rfl rfl rfl rfl trivial ?_;refine bq ?_;refine eo 2 0 true 1 3 f b8n rfl (CoP.sl rfl (.inr rfl) (fun h=>h) fun i j hi _=>absurd hi (b5i i)) (.inr rfl) rfl ?_;refine hrr ?_;exact ⟨_,_,rfl,trivial,CoR.refl _,uu⟩
     refine cz ?_;exact ⟨false,trivial,⟨⟨_,rfl,CoP.raw_sl hcap⟩,trivial⟩,trivial⟩
   refine sx7 ?_;refine ax true rfl rfl rfl rfl rfl trivial ?_;refine ax true rfl rfl rfl rfl rfl h0 ?_;refine bq ?_;refine ag false rfl (fun hc=>by cases hc) (fun hc=>?_);refine cz ?_;exact ⟨c,trivial,tt,trivial⟩
 refine sx7 ?_;refine ou 0 rfl rfl rfl rfl rfl rfl trivial ?_;refine ax true rfl rfl rfl rfl rfl trivial ?_;refine se 0 true rfl rfl rfl rfl rfl rfl ⟨trivial,rfl,rfl,rfl, .inl rfl,by show 0 + n <= 9223372036854775807;omega,by show (0 + n) * 8 <= 140737488355328;omega,fun _=>.inl rfl⟩ ?_;refine ax true rfl rfl rfl rfl rfl trivial ?_;refine bq ?_;refine hrr ?_;refine ⟨_,_,rfl,trivial,CoR.of_eq (by show HR.v (.one (.ref 0 (0 + n))) = _;rw [b5q]),⟨⟨_,rfl, ?_⟩,trivial⟩⟩;exact ⟨fun h=>h,rfl,rfl,(b5q n).symm,fun i j _ _=>CoP.of_eq (by simp [d8])⟩
def ap6 (n:Nat) (c:Bool) (f:Nat -> Nat -> PV) (hn:n <= 17592186044416):a8 b98 161 [.one (.sl n 1 c f)] (.v (.one (.sl n 1 false f))) :=
 cq.pure (args:=[.one (.sl n 1 c f)]) (l:=[.one (.ref 0 n)]) (a8a n c f hn) rfl ⟨rfl,trivial⟩
def a7w:goodFn b98 125:=wgx Tryz.func125
def b8k {p:Prop} (h:p:=by (repeat' apply And.intro) <;> first | trivial | exact b5d rfl):p:=h
def ahr (n:Int) (l:List Rw) (hl:∀ i,i < l.length -> (l.getD i default).length <= 17592186044416) (hl2:l.length <= 5864062014805):cq b98 125 [.agg [.p (.raw (.int .i64 n)), .p (rl l)]] [] (.v (.agg [.p (.raw (.int .i64 n)), .ref 901 l.length])) [(901, .arr true 1 97 l.length (lf rC l))] []:=by
 refine hfx (nt:=25) Tryz.func125 ?_;refine sx7 ?_;refine m9 0 ?_;refine m9 1 ?_;refine w_6 ?_;refine m9 2 ?_;refine w_2 ?_;refine dx 2 1 901 true 1 97 (lf rC l) b8n rfl rfl (CoP.sl rfl (.inr rfl) (fun h=>h) (fun i j hi _=>absurd hi (b5i i))) (.inr rfl) rfl rfl ?_;refine w_9 ?_;refine cj (ka 2 (ka 3 (ka 10 (ka 11 kn)))) (kb 1 km) (fun i=>⟨[(12,some (vI i))],[(2,some (.box [.p (.raw (.int .i64 n)), .ref 901 i])),(901,some (.arr true 1 97 i (lf rC l)))]⟩) l.length kk ?_;rintro i hi;refine w_5 ?_;refine hcd (fun h0=>?_) (fun h0=>?_)
 · refine m7 ?_;refine qcx a8n (ap6 (l.getD i default).length false (lf zC (l.getD i default)) (hl i b8i)) ?_;refine m9 3 ?_;refine r9 4 true ?_;refine w_8 ?_;exact lpx (i + 1) ⟨tt,⟨u9,⟨_,rfl,(fj (fun h=>h) (fun j hj=>by obtain rfl:j = 0:=b8i;exact CoP.refl _))⟩,uu⟩⟩
 obtain rfl:i = l.length:=by omega
 refine w_6 ?_;refine hrr ?_;exact ⟨_,_,rfl,b8k,CoR.refl _,uu⟩
def api (n:Int) (l:List Rw) (hl:∀ i,i < l.length -> (l.getD i default).length <= 17592186044416) (hl2:l.length <= 5864062014805):a8 b98 125 [pT n l] (ae [pT n l]) :=
 cq.pure (args:=[pT n l]) (l:=[.agg [.p (.raw (.int .i64 n)), .ref 901 l.length]]) (ahr n l hl hl2) rfl ⟨⟨trivial,rfl,trivial⟩,trivial⟩
def am6 (a b:Rw) (s:AS) (h:a.length = b.length) (h16:b.length <= 16):a8 b98 132 [pZ a,pZ b,pA s] (ae [pZ (d7 a b s)]):=by
 refine hpx (nt:=30) Tryz.func132 ?_;refine w_7 ?_;refine fc9 a8n (a8a b.length false (lf zC b) b8i) trivial ?_;refine df ?_;refine cj (ka 0 (ka 2 (ka 7 (ka 12 kn)))) km (fun i=>⟨[(13,some (vI i))],[(0,some (.arr true 1 3 b.length (lf zC (ja a b s i))))]⟩) b.length ⟨tt,⟨⟨_,rfl,(CoO.of_eq (by rw [<- a9s]))⟩,trivial⟩⟩ ?_;rintro i hi;refine w_5 ?_;refine hcd (fun h0=>?_) (fun h0=>?_)
 ·
  refine nk ?_;refine hcd (fun h1=>?_) (fun h1=>?_)
  · refine v6 ?_;exact lpx (i + 1) ⟨tt,⟨⟨_,rfl,(by first | exact qq b8i ((mb b8i).1 b8j) | exact qw (fun e=>absurd ((mb b8i).2 e) b8j))⟩,trivial⟩⟩
  refine w_5 ?_;exact lpx (i + 1) ⟨tt,⟨⟨_,rfl,(by first | exact qq b8i ((mb b8i).1 b8j) | exact qw (fun e=>absurd ((mb b8i).2 e) b8j))⟩,trivial⟩⟩
 obtain rfl:i = b.length:=by omega
 refine w_2 ?_;refine bm 7 rfl rfl rfl ?_;refine v_4 ?_;exact ⟨by rw [acv];exact ai9 (jb a b s),trivial⟩
end
end Go.Hx

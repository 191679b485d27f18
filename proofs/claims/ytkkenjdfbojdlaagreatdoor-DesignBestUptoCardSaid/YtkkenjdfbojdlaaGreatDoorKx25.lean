/- A part of the proof: X1 X2 Ch3 X3 X4 Ch4 X5. -/
import Derived.Test.YtkkenjdfbojdlaaGreatDoorKx24
set_option linter.all false
set_option maxRecDepth 100000
set_option maxHeartbeats 1000000
namespace Go.Hx
section
open Go.Proofs
def bjn (l:List Int) (g k:Nat) (caps:Nat -> PV) (V:Int -> Bool) (hg:goodFn br6 g) (hV:∀ x,a6 br6 g (pI x :: ip caps k 0) (a8 [pB (V x)])):a6 br6 276 [pP (zl l),pP (.fn g k caps)] (a8 [pI (idx V l)]):=by
 refine hpx (nt:=19) Tryz.func276 ?_;refine cb ?_;refine c8 0 rfl fun hn=>?_;refine w_3 ?_;refine dm (ι:=Unit) kn km (fun _i=>⟨[],[]⟩) (fun _i=>idx V l = -1) ?_ ?_
 ·
  refine w_7 ?_;refine ae (ι:=Nat) (ka 0 (ka 1 (ka 7 kn))) km (fun i=>⟨[(8,some (vI i))],[]⟩) (fun i=>i <= l.length /\ (∀ j,j < i -> V (l.getD j default) = false)) (fun i=>l.length - i) (0) (⟨bmh _,bq⟩) kk ?_;rintro i ⟨hi,hI⟩;refine w_5 ?_;refine hcd (fun h0=>?_) (fun h0=>?_)
  ·
   refine ml ?_;refine rc rfl rfl rfl rfl rfl rfl hg (hV (l.getD i default)) (CoL.refl _) rfl rfl ?_;refine bz ?_;refine hcb (fun h1=>?_) (fun h1=>?_)
   · refine v_5 ?_;exact ⟨cci (rg (i:=i) bqi hI h1).symm,trivial⟩
   refine w_5 ?_;refine lpz (i + 1) kk ?_;exact ⟨by show i + 1 <= _;omega,aw hI (h1)⟩
  refine da ?_;refine ⟨(), ?_, ?_⟩
  · exact sx fun j hj=>hI j bqi
  exact ⟨trivial,trivial⟩
 rintro _ hj;refine v_4 ?_;exact ⟨cci hj.symm,trivial⟩
def bjz (l:List Rw) (g k:Nat) (caps:Nat -> PV) (V:Rw -> Bool) (hg:goodFn br6 g) (hV:∀ x,a6 br6 g (pZ x :: ip caps k 0) (a8 [pB (V x)])):a6 br6 202 [pP (rl l),pP (.fn g k caps)] (a8 [pI (idx V l)]):=by
 refine hpx (nt:=19) Tryz.func202 ?_;refine cb ?_;refine c8 0 rfl fun hn=>?_;refine w_3 ?_;refine dm (ι:=Unit) kn km (fun _i=>⟨[],[]⟩) (fun _i=>idx V l = -1) ?_ ?_
 ·
  refine w_7 ?_;refine ae (ι:=Nat) (ka 0 (ka 1 (ka 7 kn))) km (fun i=>⟨[(8,some (vI i))],[]⟩) (fun i=>i <= l.length /\ (∀ j,j < i -> V (l.getD j default) = false)) (fun i=>l.length - i) (0) (⟨bmh _,bq⟩) kk ?_;rintro i ⟨hi,hI⟩;refine w_5 ?_;refine hcd (fun h0=>?_) (fun h0=>?_)
  ·
   refine ml ?_;refine rc rfl rfl rfl rfl rfl rfl hg (hV (l.getD i default)) (CoL.refl _) rfl rfl ?_;refine bz ?_;refine hcb (fun h1=>?_) (fun h1=>?_)
   · refine v_5 ?_;exact ⟨cci (rg (i:=i) bqi hI h1).symm,trivial⟩
   refine w_5 ?_;refine lpz (i + 1) kk ?_;exact ⟨by show i + 1 <= _;omega,aw hI (h1)⟩
  refine da ?_;refine ⟨(), ?_, ?_⟩
  · exact sx fun j hj=>hI j bqi
  exact ⟨trivial,trivial⟩
 rintro _ hj;refine v_4 ?_;exact ⟨cci hj.symm,trivial⟩
def bjf (l:List Int) (g k:Nat) (caps:Nat -> PV) (V:Int -> Bool) (hg:goodFn br6 g) (hV:∀ x,a6 br6 g (pI x :: ip caps k 0) (a8 [pB (V x)])):a6 br6 250 [pP (zl l),pP (.fn g k caps)] (a8 [pB (l.any V)]):=by
 refine hpx (nt:=9) Tryz.func250 ?_;refine w_8 ?_;refine qcx (wgx Tryz.func276) (bjn l g k caps V hg hV) ?_;refine v_3 ?_;exact ⟨ccb xd,trivial⟩
def bka (l:List Rw) (g k:Nat) (caps:Nat -> PV) (V:Rw -> Bool) (hg:goodFn br6 g) (hV:∀ x,a6 br6 g (pZ x :: ip caps k 0) (a8 [pB (V x)])):a6 br6 152 [pP (rl l),pP (.fn g k caps)] (a8 [pB (l.any V)]):=by
 refine hpx (nt:=9) Tryz.func152 ?_;refine w_8 ?_;refine qcx (wgx Tryz.func202) (bjz l g k caps V hg hV) ?_;refine v_3 ?_;exact ⟨ccb xd,trivial⟩
def aen:goodFn br6 154:=wgx Tryz.func154
def b3f (a b:Rw):a6 br6 154 [pZ a,pZ b] (a8 [pB (decide (a = b))]):=by
 refine hpx (nt:=26) Tryz.func154 ?_;refine cb ?_;refine c8 0 rfl fun hn0=>?_;refine c8 1 rfl fun hn1=>?_;refine dy ?_;refine hcn (fun h0=>?_) (fun h0=>?_)
 · refine v_4 ?_;exact ⟨ccb (decide_eq_false fun e=>by subst e;omega).symm,trivial⟩
 refine ck ?_;refine dm (ι:=Unit) kn km (fun _i=>⟨[],[]⟩) (fun _i=>a = b) ?_ ?_
 ·
  refine w_7 ?_;refine ae (ι:=Nat) (ka 0 (ka 1 (ka 12 kn))) km (fun i=>⟨[(13,some (vI i))],[]⟩) (fun i=>i <= a.length /\ (∀ j,j < i -> decide (a.getD j default = b.getD j default) = true)) (fun i=>a.length - i) (0) (⟨bmh _,bq⟩) kk ?_;rintro i ⟨hi,hI⟩;refine w_5 ?_;refine hcd (fun h1=>?_) (fun h1=>?_)
  ·
   refine abs ?_;refine hcn (fun h2=>?_) (fun h2=>?_)
   · refine v_4 ?_;exact ⟨ccb (decide_eq_false fun e=>by subst e;simp_all).symm,trivial⟩
   refine w_5 ?_;refine lpz (i + 1) kk ?_;exact ⟨by show i + 1 <= _;omega,aw hI (decide_eq_true bqs)⟩
  refine da ?_;refine ⟨(), ?_, ?_⟩
  · exact b4t bqi fun j hj=>hI j bqi
  exact ⟨trivial,trivial⟩
 rintro _ hj;refine v_4 ?_;exact ⟨ccb (decide_eq_true hj).symm,trivial⟩
def bio (a b:Rw):a6 br6 133 [pZ a,pZ b] (a8 [pB (decide (a = b))]):=by
 refine hpx (nt:=26) Tryz.func133 ?_;refine cb ?_;refine c8 0 rfl fun hn0=>?_;refine c8 1 rfl fun hn1=>?_;refine dy ?_;refine hcn (fun h0=>?_) (fun h0=>?_)
 · refine v_4 ?_;exact ⟨ccb (decide_eq_false fun e=>by subst e;omega).symm,trivial⟩
 refine ck ?_;refine dm (ι:=Unit) kn km (fun _i=>⟨[],[]⟩) (fun _i=>a = b) ?_ ?_
 ·
  refine w_5 ?_;refine ae (ι:=Nat) (ka 0 (ka 1 kn)) km (fun i=>⟨[(5,some (vI i))],[]⟩) (fun i=>i <= a.length /\ (∀ j,j < i -> decide (a.getD j default = b.getD j default) = true)) (fun i=>a.length - i) (0) (⟨bmh _,bq⟩) kk ?_;rintro i ⟨hi,hI⟩;refine w_8 ?_;refine hcd (fun h1=>?_) (fun h1=>?_)
  ·
   refine ow ?_;refine hcn (fun h2=>?_) (fun h2=>?_)
   · refine v_4 ?_;exact ⟨ccb (decide_eq_false fun e=>by subst e;simp_all).symm,trivial⟩
   refine w_6 ?_;refine lpz (i + 1) kk ?_;exact ⟨by show i + 1 <= _;omega,aw hI (decide_eq_true bqs)⟩
  refine da ?_;refine ⟨(), ?_, ?_⟩
  · exact b4t bqi fun j hj=>hI j bqi
  exact ⟨trivial,trivial⟩
 rintro _ hj;refine v_4 ?_;exact ⟨ccb (decide_eq_true hj).symm,trivial⟩
def b4f (a b:Rw):a6 br6 220 [pZ a,pZ b] (a8 [pI (rt a b)]):=by
 refine hpx (nt:=36) Tryz.func220 ?_;refine cb ?_;refine c8 0 rfl fun hn0=>?_;refine c8 1 rfl fun hn1=>?_;refine w_3 ?_;refine dm (ι:=Unit) (ka 0 (ka 1 kn)) km (fun _i=>⟨[],[]⟩) (fun _i=>∀ j,j < a.length -> j < b.length /\ a.getD j default = b.getD j default) ?_ ?_
 ·
  refine w_7 ?_;refine ae (ι:=Nat) (ka 0 (ka 1 (ka 9 (ka 10 kn)))) km (fun i=>⟨[(11,some (vI i))],[]⟩) (fun i=>i <= a.length /\ (∀ j,j < i -> j < b.length /\ a.getD j default = b.getD j default)) (fun i=>a.length - i) (0) (⟨bmh _,bq⟩) kk ?_;rintro i ⟨hi,hI⟩;refine w_5 ?_;refine hcd (fun h0=>?_) (fun h0=>?_)
  ·
   refine a2a ?_;refine hcd (fun h1=>?_) (fun h1=>?_)
   · refine v_4 ?_;exact ⟨cci (b78 (i:=i) bqi bqi fun j hj=>(hI j hj).2),trivial⟩
   refine ja ?_;refine qcx (wgx Tryz.func245) (b4n (a.getD i default) (b.getD i default)) ?_;refine w_7 ?_;refine hcn (fun h2=>?_) (fun h2=>?_)
   · refine v_5 ?_;exact ⟨cci (b91 (i:=i) bqi bqi (fun j hj=>(hI j hj).2) bqj),trivial⟩
   refine w_5 ?_;refine lpz (i + 1) kk ?_;exact ⟨by show i + 1 <= _;omega,aw hI (⟨by omega,bfh bqj⟩)⟩
  refine da ?_;refine ⟨(), ?_, ?_⟩
  · exact fun j hj=>hI j bqi
  exact kk
 rintro _ hj;refine w_9 ?_;refine hcd (fun h3=>?_) (fun h3=>?_)
 · refine v_4 ?_;exact ⟨cci (b97 bqi fun j h=>(hj j h).2),trivial⟩
 refine v_5 ?_;exact ⟨cci (b5a (bc1 fun j h=>(hj j h).1) bqi fun j h=>(hj j h).2),trivial⟩
def b3x (a b:Rw):a6 br6 227 [pZ a,pZ b] (a8 [pB (ltZ a b)]):=by
 refine hpx (nt:=41) Tryz.func227 ?_;refine cb ?_;refine c8 0 rfl fun hn0=>?_;refine c8 1 rfl fun hn1=>?_;refine w_3 ?_;refine dm (ι:=Unit) (ka 0 (ka 1 kn)) km (fun _i=>⟨[],[]⟩) (fun _i=>∀ j,j < a.length -> j < b.length -> a.getD j default = b.getD j default) ?_ ?_
 ·
  refine w_5 ?_;refine ae (ι:=Nat) (ka 0 (ka 1 kn)) km (fun i=>⟨[(5,some (vI i))],[]⟩) (fun i=>i <= a.length /\ (∀ j,j < i -> j < b.length /\ a.getD j default = b.getD j default)) (fun i=>a.length - i) (0) (⟨bmh _,bq⟩) kk ?_;rintro i ⟨hi,hI⟩;refine w_8 ?_;refine ah rfl rfl (fun r0=>?_) (fun r0=>?_)
  ·
   have h0:=tz1 r0;(iterate 4 refine qy ?_ (hg:=(gtt r0)));refine w_2 ?_;refine ak _ rfl (fun r1=>?_) (fun r1=>?_)
   ·
    have h1:=tz1 (br r0 r1);refine ow ?_;refine hcn (fun h2=>?_) (fun h2=>?_)
    · refine p9 ?_;exact hx8 rfl rfl rfl (⟨ccb (ann (i:=i) bqi bqi (fun j h=>(hI j h).2) bqj).symm,trivial⟩)
    refine w_6 ?_;refine lpz (i + 1) kk ?_;exact ⟨by show i + 1 <= _;omega,aw hI (⟨by omega,by assumption⟩)⟩
   have h1:=tz2 (br r0 r1);refine da ?_;refine ⟨(), ?_, ?_⟩
   · exact fun j h1 h2=>(hI j bqi).2
   exact kk
  have h0:=tz2 r0;(iterate 4 refine k9 (gft r0) ?_);refine rq rfl rfl rfl rfl rfl ?_ (hp:=r0);refine w_3 ?_;refine ⟨(), ?_, ?_⟩
  · exact fun j h1 h2=>(hI j bqi).2
  exact kk
 rintro _ hj;refine v_9 ?_;exact ⟨ccb (by rw [a8n hj,decide_eq_decide];omega),trivial⟩
end
section
open Go.Proofs
abbrev bxZ (a:PV):PV:=.vp 1 fun j=>[a].getD j .any
def bgl (r row:Rw):a6 br6 153 [pZ r,pP (bxZ (zl row))] (a8 [pB (decide (r = row))]):=by
 refine hpx (nt:=7) Tryz.func153 ?_;refine w_8 ?_;refine qcx aen (b3f _ _) ?_;refine v_2 ?_;exact CoL.refl _
def ag0:goodFn br6 101:=wgx Tryz.func101
def atv (n:Int) (l:List Rw) (row:Rw):a6 br6 101 [pT n l,pZ row] (a8 [pB (l.any fun r=>decide (r = row))]):=by
 refine hpx (nt:=9) Tryz.func101 ?_;refine sx7 ?_;refine m9 0 ?_;refine m9 1 ?_;refine w_3 ?_;refine cz 3 rfl rfl rfl ?_;refine w_4 ?_;refine qcx (wgx Tryz.func152) (bka l 153 1 (fun i=>[bxZ (zl row)].getD i .any) (fun r=>decide (r = row)) (wgx Tryz.func153) (fun r=>bgl r row)) ?_;refine v_2 ?_;exact CoL.refl _
def bko (x:Int):a6 br6 251 [pI x] (a8 [pB (decide (x < 0))]):=by
 refine hpx (nt:=5) Tryz.func251 ?_;refine c5 ?_;exact hx8 rfl rfl rfl (CoL.refl _)
def a34:goodFn br6 179:=wgx Tryz.func179
def a2r (a b:Rw) (s:AS) (h:b.length = a.length) (h16:a.length <= 16):a6 br6 179 [pZ a,pZ b,pA s] (a8 [pB (lm a b s)]):=by
 refine hpx (nt:=28) Tryz.func179 ?_;refine cb ?_;refine c8 0 rfl fun hn0=>?_;refine c8 1 rfl fun hn1=>?_;refine w_3 ?_;refine dm (ι:=Unit) kn km (fun _i=>⟨[],[]⟩) (fun _i=>lm a b s = true) ?_ ?_
 ·
  refine w_5 ?_;refine ae (ι:=Nat) (ka 0 (ka 1 (ka 2 kn))) km (fun i=>⟨[(7,some (vI i))],[]⟩) (fun i=>i <= a.length /\ (∀ j:Nat,j < i -> (d6 s (j:Int) = true -> a.getD j default = b.getD j default))) (fun i=>a.length - i) (0) (⟨bmh _,bq⟩) kk ?_;rintro i ⟨hi,hI⟩;refine w_8 ?_;refine hcd (fun h0=>?_) (fun h0=>?_)
  ·
   refine w_7 ?_;refine qcx ov (a1z s (i:Int)) ?_;refine qy ?_;refine ah rfl rfl (fun r1=>?_) (fun r1=>?_)
   ·
    have h1:=r1;(iterate 9 refine qy ?_ (hg:=(gtt r1)));refine w_3 ?_;refine ak _ rfl (fun r2=>?_) (fun r2=>?_)
    · have h2:=tz2 (cu (br r1 r2));refine v_4 ?_;exact ⟨ccb (aw4 (i:=i) bqi bqs bqs).symm,trivial⟩
    have h2:=tz1 (ct (br r1 r2));refine w_6 ?_;refine lpz (i + 1) kk ?_;exact ⟨by show i + 1 <= _;omega,aw hI (fun hh=>by simp_all)⟩
   have h1:=r1;(iterate 9 refine k9 (gft r1) ?_);refine rq rfl rfl rfl rfl rfl ?_ (hp:=r1);refine w_9 ?_;refine lpz (i + 1) kk ?_
   exact ⟨by show i + 1 <= _;omega,aw hI (fun hh=>by simp_all)⟩
  refine da ?_;refine ⟨(), ?_, ?_⟩
  · exact a3c fun j hj=>hI j bqi
  exact ⟨trivial,trivial⟩
 rintro _ hj;refine v_4 ?_;exact ⟨ccb hj.symm,trivial⟩
def a2s:goodFn br6 223:=wgx Tryz.func223
def a71 (a b:Rw) (s:AS) (h:b.length = a.length) (h16:a.length <= 16):a6 br6 223 [pZ a,pZ b,pA s] (a8 [pB (lm a b s)]):=by
 refine hpx (nt:=30) Tryz.func223 ?_;refine cb ?_;refine c8 0 rfl fun hn0=>?_;refine c8 1 rfl fun hn1=>?_;refine w_3 ?_;refine dm (ι:=Unit) kn km (fun _i=>⟨[],[]⟩) (fun _i=>lm a b s = true) ?_ ?_
 ·
  refine w_7 ?_;refine ae (ι:=Nat) (ka 0 (ka 1 (ka 2 (ka 9 kn)))) km (fun i=>⟨[(10,some (vI i))],[]⟩) (fun i=>i <= a.length /\ (∀ j:Nat,j < i -> (d6 s (j:Int) = true -> a.getD j default = b.getD j default))) (fun i=>a.length - i) (0) (⟨bmh _,bq⟩) kk ?_;rintro i ⟨hi,hI⟩;refine w_5 ?_;refine hcd (fun h0=>?_) (fun h0=>?_)
  ·
   refine ow ?_;refine ah rfl rfl (fun r1=>?_) (fun r1=>?_)
   ·
    have h1:=tz1 r1;(iterate 9 refine qy ?_ (hg:=(gtt r1)));refine w_3 ?_;refine ak _ rfl (fun r2=>?_) (fun r2=>?_)
    · have h2:=tz2 (cu (br r1 r2));refine v_4 ?_;exact ⟨ccb (aw4 (i:=i) bqi ((va bqi).1 bqj) bqj).symm,trivial⟩
    have h2:=tz1 (ct (br r1 r2));refine w_5 ?_;refine lpz (i + 1) kk ?_;exact ⟨by show i + 1 <= _;omega,aw hI (fun hh=>by first | (exact absurd ((va bqi).2 hh) bqj) | assumption)⟩
   have h1:=tz2 r1;(iterate 9 refine k9 (gft r1) ?_);refine rq rfl rfl rfl rfl rfl ?_ (hp:=r1);refine w_8 ?_;refine lpz (i + 1) kk ?_
   exact ⟨by show i + 1 <= _;omega,aw hI (fun hh=>by first | (exact absurd ((va bqi).2 hh) bqj) | assumption)⟩
  refine da ?_;refine ⟨(), ?_, ?_⟩
  · exact a3c fun j hj=>hI j bqi
  exact ⟨trivial,trivial⟩
 rintro _ hj;refine v_4 ?_;exact ⟨ccb hj.symm,trivial⟩
end
section
def bt (n:Int) (l m:List Fd):Int:=if b6 n l = 0 then (if 64 < m.length then 3 else if m.all (inU n) = true then 0 else 1) else b6 n l
section
variable {n:Int} {l m:List Fd}
def auz (h:¬ b6 n l = 0):b6 n l = bt n l m:=by unfold bt;rw [if_neg h]
def ave (h:b6 n l = 0) (h2:64 < m.length):3 = bt n l m:=by unfold bt;rw [if_pos h,if_pos h2]
def amh {i:Nat} (h:b6 n l = 0) (h2:¬ 64 < m.length) (hi:i < m.length) (hu:¬ inU n (m.getD i default) = true):1 = bt n l m:=by
 unfold bt;rw [if_pos h,if_neg h2,if_neg (fun e=>absurd (ac6 (l:=m) (p:=inU n) hi (bmm.2 hu)) (by rw [e];decide))]
def av5 (h:b6 n l = 0) (h2:¬ 64 < m.length) (hu:∀ j,j < m.length -> inU n (m.getD j default) = true):0 = bt n l m:=by
 unfold bt;rw [if_pos h,if_neg h2,if_pos (aix hu)]
def kz (h:bt n l m = 0):0 <= n /\ n <= 16 /\ l.length <= 64 /\ l.all (inU n) = true /\ m.length <= 64 /\ m.all (inU n) = true:=by
 unfold bt at h;by_cases h1:b6 n l = 0
 · rw [if_pos h1] at h
   obtain ⟨a,b,c,d⟩:=ew h1;by_cases h2:64 < m.length
   · rw [if_pos h2] at h;omega
   rw [if_neg h2] at h;by_cases h3:m.all (inU n) = true
   · exact ⟨a,b,c,d,by omega,h3⟩
   rw [if_neg h3] at h;omega
 rw [if_neg h1] at h;exact absurd h h1
end
section
variable {l:List Rw}
def a65 {n:Int} {i:Nat} (h1:((l.getD i default).length:Int) = n) (h2:(l.getD i default).any (fun x=>decide (x < 0)) = false) (h3:i = 0 \/ ltZ (l.getD (i - 1) default) (l.getD i default) = true):p8 n l i = true:=by
 unfold p8;rw [decide_eq_true h1,h2]
 rcases h3 with h3 | h3
 · rw [decide_eq_true h3];rfl
 rw [h3];simp
def a8e {n:Int} {i:Nat} (h:¬ ((l.getD i default).length:Int) = n):p8 n l i = false:=by unfold p8;rw [decide_eq_false h];rfl
def yw {n:Int} {i:Nat} (h:(l.getD i default).any (fun x=>decide (x < 0)) = true):p8 n l i = false:=by unfold p8;rw [h];simp
def a2y {n:Int} {i:Nat} (h0:0 < i) (h:¬ ltZ (l.getD (i - 1) default) (l.getD i default) = true):p8 n l i = false:=by
 unfold p8;rw [bmm.2 h,decide_eq_false (by omega:¬ i = 0)];simp
def a59 {a b:Rw}:rt a b < 0 <-> ltZ a b = true:=by
 unfold rt;by_cases e:a = b
 · subst e
   rw [if_pos rfl,vo];exact ⟨fun h=>absurd h bqi,fun h=>by cases h⟩
 rw [if_neg e];by_cases h:ltZ a b = true
 · rw [if_pos h];exact ⟨fun _=>h,fun _=>by omega⟩
 rw [if_neg h];exact ⟨fun h=>absurd h bqi,fun h2=>absurd h2 h⟩
end
end
section
open Go.Proofs
def asd (n:Int) (s:AS):a6 br6 99 [pI n,pA s] (a8 [pB (decide (sub s (a7 n)))]):=by
 refine hpx (nt:=9) Tryz.func99 ?_;refine w_8 ?_;refine qcx lg (li n) ?_;refine qcx l6 (qp _ _) ?_;refine v_2 ?_;exact CoL.refl _
def a2k:goodFn br6 53:=wgx Tryz.func53
def zj (n:Int) (l m:List Fd):a6 br6 53 [pI n,pP (fdl l),pP (fdl m)] (a8 [pI (bt n l m)]):=by
 refine hpx (nt:=34) Tryz.func53 ?_;refine cb ?_;refine c8 2 rfl fun hn2=>?_;refine w_8 ?_;refine qcx vk (zz n l) ?_;refine w_7 ?_;refine hcn (fun h0=>?_) (fun h0=>?_)
 · refine v_5 ?_;exact ⟨cci (auz bqj),trivial⟩
 have hv0:b6 n l = 0:=by assumption
 obtain ⟨hn0,hn16,_,_⟩:=ew hv0;refine w_8 ?_;refine hcd (fun h1=>?_) (fun h1=>?_)
 · refine v_4 ?_;exact ⟨cci (ave hv0 bqi),trivial⟩
 refine ck ?_;refine dm (ι:=Unit) kn km (fun _i=>⟨[],[]⟩) (fun _i=>∀ j,j < m.length -> inU n (m.getD j default) = true) ?_ ?_
 ·
  refine w_7 ?_;refine ae (ι:=Nat) (ka 0 (ka 19 (ka 20 kn))) km (fun i=>⟨[(21,some (vI i))],[]⟩) (fun i=>i <= m.length /\ (∀ j,j < i -> inU n (m.getD j default) = true)) (fun i=>m.length - i) (0) (⟨bmh _,bq⟩) kk ?_;rintro i ⟨hi,hI⟩;refine w_5 ?_;refine hcd (fun h2=>?_) (fun h2=>?_)
  ·
   refine w_7 ?_;refine m9 0 ?_;refine ja ?_;refine hcn (fun h3=>?_) (fun h3=>?_)
   · refine v_4 ?_;exact ⟨cci (amh (i:=i) hv0 bqi bqi (fun e=>absurd (a89.2 e) bqj)),trivial⟩
   refine w_5 ?_;refine lpz (i + 1) kk ?_;exact ⟨by show i + 1 <= _;omega,aw hI (a89.1 bqj)⟩
  refine da ?_;refine ⟨(), ?_, ?_⟩
  · exact fun j hj=>hI j bqi
  exact ⟨trivial,trivial⟩
 rintro _ hj;refine v_4 ?_;exact ⟨cci (av5 hv0 bqi hj),trivial⟩
def a67:goodFn br6 44:=wgx Tryz.func44
def a0b (n:Int) (l m:List Fd):a6 br6 44 [pI n,pP (fdl l),pP (fdl m)] (a8 [pI (bt n l m)]):=by
 refine hpx (nt:=42) Tryz.func44 ?_;refine cb ?_;refine c8 2 rfl fun hn2=>?_;refine w_8 ?_;refine qcx a3g (yz n l) ?_;refine w_7 ?_;refine hcn (fun h0=>?_) (fun h0=>?_)
 · refine v_5 ?_;exact ⟨cci (auz bqj),trivial⟩
 have hv0:b6 n l = 0:=by assumption
 obtain ⟨hn0,hn16,_,_⟩:=ew hv0;refine w_8 ?_;refine hcd (fun h1=>?_) (fun h1=>?_)
 · refine v_4 ?_;exact ⟨cci (ave hv0 bqi),trivial⟩
 refine ck ?_;refine dm (ι:=Unit) kn km (fun _i=>⟨[],[]⟩) (fun _i=>∀ j,j < m.length -> inU n (m.getD j default) = true) ?_ ?_
 ·
  refine w_5 ?_;refine ae (ι:=Nat) (ka 0 (ka 2 kn)) km (fun i=>⟨[(8,some (vI i))],[]⟩) (fun i=>i <= m.length /\ (∀ j,j < i -> inU n (m.getD j default) = true)) (fun i=>m.length - i) (0) (⟨bmh _,bq⟩) kk ?_;rintro i ⟨hi,hI⟩;refine w_8 ?_;refine hcd (fun h2=>?_) (fun h2=>?_)
  ·
   refine cq ?_;refine qcx (wgx Tryz.func99) (asd n _) ?_;refine w_2 ?_;refine ah rfl rfl (fun r3=>?_) (fun r3=>?_)
   ·
    have h3:=cu r3;(iterate 8 refine k9 (gtf r3) ?_);refine rq rfl rfl rfl rfl rfl ?_ (hp:=r3);refine w_6 ?_
    exact hx8 rfl rfl rfl (⟨cci (amh (i:=i) hv0 bqi bqi (fun e=>by rw [om bqi bqi] at e;simp_all)),trivial⟩)
   have h3:=ct r3;(iterate 6 refine qy ?_ (hg:=(gff r3)));refine qcx (wgx Tryz.func99) (asd n _) ?_ (hg:=(gff r3));refine qy ?_ (hg:=(gff r3));refine w_2 ?_;refine ak _ rfl (fun r4=>?_) (fun r4=>?_)
   · have h4:=cu (au r3 r4);refine v_4 ?_;exact ⟨cci (amh (i:=i) hv0 bqi bqi (fun e=>by rw [om bqi bqi] at e;simp_all)),trivial⟩
   have h4:=ct (au r3 r4);refine w_6 ?_;refine lpz (i + 1) kk ?_;exact ⟨by show i + 1 <= _;omega,aw hI ((om bqi bqi).2 bqs)⟩
  refine da ?_;refine ⟨(), ?_, ?_⟩
  · exact fun j hj=>hI j bqi
  exact ⟨trivial,trivial⟩
 rintro _ hj;refine v_4 ?_;exact ⟨cci (av5 hv0 bqi hj),trivial⟩
end
section
open Go.Proofs
def uy (i:Nat):((i:Int) - 1).toNat = i - 1:=by omega
def br2 {p:Prop} (h:p:=by first | exact a8e bqj | exact yw bqj | exact a2y bqi (by simp_all [uy])):p:=h
def b6y (n:Int) (l:List Rw):a6 br6 222 [pT n l] (a8 [pB (tok n l)]):=by
 refine hpx (nt:=50) Tryz.func222 ?_;refine sx7 ?_;refine m9 0 ?_;refine w_9 ?_;refine ah rfl rfl (fun r0=>?_) (fun r0=>?_)
 ·
  have h0:=tz1 r0;(iterate 3 refine k9 (gtf r0) ?_);refine rq rfl rfl rfl rfl rfl ?_ (hp:=r0);refine qy ?_;(iterate 4 refine k9 rfl ?_);refine w_7 ?_
  exact hx8 rfl rfl rfl (⟨ccb (a2x bqi).symm,trivial⟩)
 have h0:=tz2 r0;(iterate 3 refine qy ?_ (hg:=(gff r0)));refine w_2 ?_;refine ah rfl rfl (fun r1=>?_) (fun r1=>?_)
 ·
  have h1:=tz1 (au r0 r1);(iterate 4 refine k9 (gtf r1) ?_);refine rq rfl rfl rfl rfl rfl ?_ (hp:=r1);refine w_6 ?_
  exact hx8 rfl rfl rfl (⟨ccb (a2x bqi).symm,trivial⟩)
 have h1:=tz2 (au r0 r1);(iterate 4 refine qy ?_ (hg:=(gff r1)));refine w_2 ?_;refine ak _ rfl (fun r2=>?_) (fun r2=>?_)
 · have h2:=tz1 (au r1 r2);refine v_4 ?_;exact ⟨ccb (a2x bqi).symm,trivial⟩
 have h2:=tz2 (au r1 r2);refine c5 ?_;refine ae (ι:=Nat) (ka 1 (ka 20 (ka 21 kn))) (kb 0 km) (fun i=>⟨[(22,some (vI i))],[]⟩) (fun i=>i <= l.length /\ (∀ j,j < i -> p8 n l j = true)) (fun i=>l.length - i) (0) (⟨bmh _,bq⟩) kk ?_;rintro i ⟨hi,hI⟩;refine w_5 ?_;refine hcd (fun h3=>?_) (fun h3=>?_)
 ·
  refine alb ?_;refine ah rfl rfl (fun r4=>?_) (fun r4=>?_)
  ·
   have h4:=tz2 (cu r4);(iterate 2 refine k9 (gtf r4) ?_);refine rq rfl rfl rfl rfl rfl ?_ (hp:=r4);refine w_6 ?_
   exact hx8 rfl rfl rfl (⟨ccb (a3y (i:=i) bqi br2).symm,trivial⟩)
  have h4:=tz1 (ct r4);refine qy ?_ (hg:=(gff r4));refine qcx (wgx Tryz.func250) (bjf (l.getD i default) 251 0 (fun _=>.any) (fun x=>decide (x < 0)) (wgx Tryz.func251) (fun x=>bko x)) ?_ (hg:=(gff r4));refine w_2 ?_;refine ak _ rfl (fun r5=>?_) (fun r5=>?_)
  · have h5:=au r4 r5;refine v_4 ?_;exact ⟨ccb (a3y (i:=i) bqi br2).symm,trivial⟩
  have h5:=au r4 r5;refine w_6 ?_;refine ah rfl rfl (fun r6=>?_) (fun r6=>?_)
  ·
   have h6:=tz1 r6;(iterate 7 refine qy ?_ (hg:=(gtt r6)));refine qcx (wgx Tryz.func220) (b4f (l.getD ((i:Int) - 1).toNat default) (l.getD i default)) ?_ (hg:=(gtt r6));refine qy ?_ (hg:=(gtt r6));refine w_2 ?_
   refine ak _ rfl (fun r7=>?_) (fun r7=>?_)
   · have h7:=tz1 (br r6 r7);refine v_4 ?_;exact ⟨ccb (a3y (i:=i) bqi (a2y bqi fun e=>absurd (a59.2 e) (by simp only [uy] at *;omega))).symm,trivial⟩
   have h7:=tz2 (br r6 r7);refine w_5 ?_;refine lpz (i + 1) kk ?_;exact ⟨by show i + 1 <= _;omega,aw hI (a65 bqj bqj (by first | (exact .inl bqi) | (exact .inr (a59.1 (by simp only [uy] at *;omega)))))⟩
  have h6:=tz2 r6;(iterate 9 refine k9 (gft r6) ?_);refine rq rfl rfl rfl rfl rfl ?_ (hp:=r6);refine w_7 ?_;refine lpz (i + 1) kk ?_
  exact ⟨by show i + 1 <= _;omega,aw hI (a65 bqj bqj (by first | (exact .inl bqi) | (exact .inr (a59.1 (by simp only [uy] at *;omega)))))⟩
 refine v_5 ?_;exact ⟨ccb (aub bqi bqi bqi fun j hj=>hI j bqi).symm,trivial⟩
def aef:goodFn br6 178:=wgx Tryz.func178
def abt (n:Int) (l:List Rw):a6 br6 178 [pT n l] (a8 [pB (tok n l)]):=by
 refine hpx (nt:=69) Tryz.func178 ?_;refine sx7 ?_;refine m9 0 ?_;refine w_9 ?_;refine ah rfl rfl (fun r0=>?_) (fun r0=>?_)
 ·
  have h0:=tz1 r0;(iterate 3 refine k9 (gtf r0) ?_);refine rq rfl rfl rfl rfl rfl ?_ (hp:=r0);refine qy ?_;(iterate 4 refine k9 rfl ?_);refine w_7 ?_
  exact hx8 rfl rfl rfl (⟨ccb (a2x bqi).symm,trivial⟩)
 have h0:=tz2 r0;(iterate 3 refine qy ?_ (hg:=(gff r0)));refine w_2 ?_;refine ah rfl rfl (fun r1=>?_) (fun r1=>?_)
 ·
  have h1:=tz1 (au r0 r1);(iterate 4 refine k9 (gtf r1) ?_);refine rq rfl rfl rfl rfl rfl ?_ (hp:=r1);refine w_6 ?_
  exact hx8 rfl rfl rfl (⟨ccb (a2x bqi).symm,trivial⟩)
 have h1:=tz2 (au r0 r1);(iterate 4 refine qy ?_ (hg:=(gff r1)));refine w_2 ?_;refine ak _ rfl (fun r2=>?_) (fun r2=>?_)
 · have h2:=tz1 (au r1 r2);refine v_4 ?_;exact ⟨ccb (a2x bqi).symm,trivial⟩
 have h2:=tz2 (au r1 r2);refine w_7 ?_;refine ae (ι:=Nat) (ka 1 kn) (kb 0 km) (fun i=>⟨[(3,some (vI i))],[]⟩) (fun i=>i <= l.length /\ (∀ j,j < i -> p8 n l j = true)) (fun i=>l.length - i) (0) (⟨bmh _,bq⟩) kk ?_;rintro i ⟨hi,hI⟩;refine w_9 ?_;refine hcd (fun h3=>?_) (fun h3=>?_)
 ·
  refine ow ?_;refine ah rfl rfl (fun r4=>?_) (fun r4=>?_)
  ·
   have h4:=tz2 (cu r4);(iterate 3 refine k9 (gtf r4) ?_);(iterate 13 refine k9 rfl ?_);refine k9 (gtf r4) ?_;refine rq rfl rfl rfl rfl rfl ?_ (hp:=r4);refine w_7 ?_
   exact hx8 rfl rfl rfl (⟨ccb (a3y (i:=i) bqi br2).symm,trivial⟩)
  have h4:=tz1 (ct r4);(iterate 3 refine qy ?_ (hg:=(gff r4)));refine ah rfl rfl (fun r5=>?_) (fun r5=>?_)
  ·
   have h5:=tz1 r5;(iterate 11 refine qy ?_ (hg:=(gtt r5)));refine qcx (wgx Tryz.func227) (b3x (l.getD ((i:Int) - 1).toNat default) (l.getD i default)) ?_ (hg:=(gtt r5));refine qy ?_ (hg:=(gtt r5));refine qy ?_ (hg:=(gff r4));refine w_3 ?_
   refine ak _ rfl (fun r6=>?_) (fun r6=>?_)
   · have h6:=cu (br r5 (au r4 r6));refine v_4 ?_;exact ⟨ccb (a3y (i:=i) bqi br2).symm,trivial⟩
   have h6:=ct (br r5 (au r4 r6));refine w_6 ?_;refine ae (ι:=Nat) (ka 1 (ka 3 kn)) (kb 0 km) (fun k=>⟨[(4,some (vI k))],[]⟩) (fun k=>k <= (l.getD i default).length /\ (∀ j,j < k -> decide ((l.getD i default).getD j default < 0) = false)) (fun k=>(l.getD i default).length - k) (0) (⟨bmh _,bq⟩) kk ?_;rintro k ⟨hk,hK⟩;refine w_8 ?_;refine hcd (fun h7=>?_) (fun h7=>?_)
   ·
    refine cq ?_;refine rq rfl rfl rfl rfl rfl ?_ (hp:=⟨rfl,by omega,by simp only [bmn];omega⟩);refine w_3 ?_;refine hcd (fun h8=>?_) (fun h8=>?_)
    · refine v_4 ?_;exact ⟨ccb (a3y (i:=i) bqi (yw (aj8 (i:=k) bqi (decide_eq_true bqj)))).symm,trivial⟩
    refine w_6 ?_;refine lpz (k + 1) kk ?_;exact ⟨by show k + 1 <= _;omega,aw hK (decide_eq_false bqj)⟩
   refine w_6 ?_;refine lpz (i + 1) kk ?_;exact ⟨by show i + 1 <= _;omega,aw hI (a65 bqj (ait fun j hj=>hK j bqi) (by first | (exact .inl bqi) | (exact .inr (by simp_all [uy]))))⟩
  have h5:=tz2 r5;(iterate 13 refine k9 (gft r5) ?_);refine rq rfl rfl rfl rfl (gff r4) ?_ (hp:=r5);refine w_3 ?_;refine ak _ rfl (fun e=>Bool.noConfusion ((a3b r4 rfl).symm.trans e)) (fun _=>?_);refine w_6 ?_
  refine ae (ι:=Nat) (ka 1 (ka 3 kn)) (kb 0 km) (fun k=>⟨[(4,some (vI k))],[]⟩) (fun k=>k <= (l.getD i default).length /\ (∀ j,j < k -> decide ((l.getD i default).getD j default < 0) = false)) (fun k=>(l.getD i default).length - k) (0) (⟨bmh _,bq⟩) kk ?_;rintro k ⟨hk,hK⟩;refine w_8 ?_;refine hcd (fun h9=>?_) (fun h9=>?_)
  ·
   refine cq ?_;refine rq rfl rfl rfl rfl rfl ?_ (hp:=⟨rfl,by omega,by simp only [bmn];omega⟩);refine w_3 ?_;refine hcd (fun h10=>?_) (fun h10=>?_)
   · refine v_4 ?_;exact ⟨ccb (a3y (i:=i) bqi (yw (aj8 (i:=k) bqi (decide_eq_true bqj)))).symm,trivial⟩
   refine w_6 ?_;refine lpz (k + 1) kk ?_;exact ⟨by show k + 1 <= _;omega,aw hK (decide_eq_false bqj)⟩
  refine w_6 ?_;refine lpz (i + 1) kk ?_;exact ⟨by show i + 1 <= _;omega,aw hI (a65 bqj (ait fun j hj=>hK j bqi) (by first | (exact .inl bqi) | (exact .inr (by simp_all [uy]))))⟩
 refine v_5 ?_;exact ⟨ccb (aub bqi bqi bqi fun j hj=>hI j bqi).symm,trivial⟩
def afv:goodFn br6 175:=wgx Tryz.func175
def ab6 (n:Int) (l:List Rw) (p m:List Fd):a6 br6 175 [pT n l,pP (fdl p),pP (fdl m)] (a8 [pI (if tok n l = true then bt n p m else 1)]):=by
 refine hpx (nt:=15) Tryz.func175 ?_;refine sx7 ?_;refine m9 0 ?_;refine w_6 ?_;refine qcx (wgx Tryz.func222) (b6y n l) ?_;refine w_2 ?_;refine hcv (fun h0=>?_) (fun h0=>?_)
 · refine v_4 ?_;exact ⟨cci (if_neg bqs).symm,trivial⟩
 refine w_7 ?_;refine qcx a2k (zj n p m) ?_;refine v_2 ?_;exact ⟨cci (if_pos bqs).symm,trivial⟩
def ajn:goodFn br6 69:=wgx Tryz.func69
def alx (n:Int) (l:List Rw) (row:Rw):a6 br6 69 [pT n l,pZ row] (a8 [pB (l.any fun r=>decide (r = row))]):=by
 refine hpx (nt:=20) Tryz.func69 ?_;refine sx7 ?_;refine m9 0 ?_;refine w_2 ?_;refine dm (ι:=Unit) kn km (fun _i=>⟨[],[]⟩) (fun _i=>(l.any fun r=>decide (r = row)) = false) ?_ ?_
 ·
  refine cb ?_;refine b54 0 1 rfl rfl fun hn=>?_;refine w_4 ?_;refine ae (ι:=Nat) (ka 1 (ka 2 kn)) (kb 0 km) (fun i=>⟨[(5,some (vI i))],[]⟩) (fun i=>i <= l.length /\ (∀ j,j < i -> decide (l.getD j default = row) = false)) (fun i=>l.length - i) (0) (⟨bmh _,bq⟩) kk ?_;rintro i ⟨hi,hI⟩;refine w_9 ?_;refine hcd (fun h0=>?_) (fun h0=>?_)
  ·
   refine cq ?_;refine qcx (wgx Tryz.func133) (bio (l.getD i default) row) ?_;refine bz ?_;refine hcb (fun h1=>?_) (fun h1=>?_)
   · refine v_4 ?_;exact ⟨ccb (aj8 (p:=fun r=>decide (r = row)) (i:=i) bqi bqj).symm,trivial⟩
   refine w_6 ?_;refine lpz (i + 1) kk ?_;exact ⟨by show i + 1 <= _;omega,aw hI bqj⟩
  refine da ?_;refine ⟨(), ?_, ?_⟩
  · exact ait fun j hj=>hI j bqi
  exact ⟨trivial,trivial⟩
 rintro _ hj;refine v_4 ?_;exact ⟨ccb hj.symm,trivial⟩
end
section
def mz (a b:Rw) (s:AS) (i:Nat):Rw:=(List.range b.length).map fun (j:Nat)=>if j < i /\ d6 s (j:Int) = true then a.getD j default else b.getD j default
def tf (a b:Rw) (s:AS) (i:Nat):(mz a b s i).length = b.length:=by unfold mz;simp
section
variable {a b:Rw} {i:Nat} {s:AS}
def ag1 {k:Nat} (hk:k < b.length):(mz a b s i).getD k default = if k < i /\ d6 s (k:Int) = true then a.getD k default else b.getD k default:=by
 unfold mz;rw [bmb,bn0,bny hk];rfl
def ahx (a b:Rw) (s:AS):b = mz a b s 0:=ol (tf a b s 0).symm fun j hj=>by
 rw [ag1 hj,if_neg bqi]
def akz (a b:Rw) (s:AS):mz a b s b.length = ef a b s:=by
 unfold mz ef;refine boo fun k hk=>?_;have:=bmq.1 hk;by_cases h:d6 s (k:Int) = true
 · rw [if_pos ⟨this,h⟩,if_pos h]
 rw [if_neg (fun e=>h e.2),if_neg h]
def bdc (h:¬ d6 s (i:Int) = true):mz a b s i = mz a b s (i + 1):=by
 unfold mz;refine boo fun k hk=>?_;by_cases h2:k < i /\ d6 s (k:Int) = true
 · rw [if_pos h2,if_pos ⟨by omega,h2.2⟩]
 rw [if_neg h2, if_neg fun e => h2 ⟨by rcases bot (bp4 e.1) with h3 | h3
                                       · exact h3
                                       subst h3;exact absurd e.2 h,e.2⟩]
def ber (hi:i < b.length) (h:d6 s (i:Int) = true):(mz a b s i).set i (a.getD i default) = mz a b s (i + 1):=by
 refine ol (by rw [bol,tf,tf]) fun j hj=>?_;rw [bol,tf] at hj;rw [ag1 hj];by_cases e:j = i
 · subst e
   rw [oo (by rw [tf];exact hj),if_pos ⟨by omega,h⟩]
 rw [getD_set_ne' e,ag1 hj];by_cases h2:j < i /\ d6 s (j:Int) = true
 · rw [if_pos h2,if_pos ⟨by omega,h2.2⟩]
 rw [if_neg h2,if_neg fun e2=>h2 ⟨by omega,e2.2⟩]
def qi (a b:Rw) (s:AS):(ef a b s).length = b.length:=by unfold ef;simp
def vi {n:Nat} {k:Nat} (hi:i < b.length) (h:d6 s (i:Int) = true) (hn:n = b.length:=by rfl) (hk:k = i:=by rfl):
 CoO (.arr true 1 3 n (ez (lf zC (mz a b s i)) k 0 [.raw (.int .i64 (a.getD i default))])) (.arr true 1 3 n (lf zC (mz a b s (i + 1)))):=by
 rw [<- ber hi h];exact as7 (fun h=>h) (hn.trans (tf a b s i).symm) hk (by rw [tf];exact hi) rfl
def ws {n:Nat} (h:¬ d6 s (i:Int) = true):CoO (.arr true 1 3 n (lf zC (mz a b s i))) (.arr true 1 3 n (lf zC (mz a b s (i + 1)))):=by
 rw [<- bdc h];exact CoO.refl _
def atl {n:Nat} {r:Rw} (h:r.length = n):CoC (.one (.sl n 1 false (lf zC r))) (pZ r):=by subst h;exact CoC.refl _
end
end
section
open Go.Proofs
def af9:goodFn br6 237:=wgx Tryz.func237
def aeu (n:Nat) (c:Bool) (f:Nat -> Nat -> PV) (hn:n <= 17592186044416) :
 d4 br6 237 [.one (.p (.sl n 1 c f))] [] (.v (.one (.ref 0 n))) [(0, .arr true 1 3 n f)] []:=by
 refine hfx (nt:=8) Tryz.func237 ?_;refine sx7 ?_;refine du true rfl rfl rfl rfl rfl trivial ?_;refine bz ?_;refine a99 (ι:=Bool) (fun c=>⟨[(0,some (bp (.sl n 1 c f)))],[]⟩) (fun _=>True) ?_ fun c _=>?_
 · rcases boa n with hz | h0
   · subst hz
     refine hw_exact' 0 rfl fun ad cap hcap=>?_;refine sx7 ?_;(iterate 2 refine du true rfl rfl rfl rfl rfl trivial ?_);refine bz ?_;refine ak ad.isNone rfl (fun hc=>?_) (fun hc=>?_)
     · refine sx7 ?_
       refine du true rfl rfl rfl rfl rfl trivial ?_;refine bz ?_;refine bw 2 0 true 1 3 f bqo rfl (CoP.sl rfl (.inr rfl) (fun h=>h) fun i j hi _=>absurd hi (bmf i)) (.inr rfl) rfl ?_;refine hrr ?_;exact ⟨_,_,rfl,trivial,CoR.refl _,uu⟩
     refine ck ?_;exact ⟨false,trivial,⟨⟨_,rfl,CoP.raw_sl hcap⟩,trivial⟩,trivial⟩
   refine sx7 ?_;refine du true rfl rfl rfl rfl rfl trivial ?_;refine du true rfl rfl rfl rfl rfl h0 ?_;refine bz ?_;refine ak false rfl (fun hc=>by cases hc) (fun hc=>?_);refine ck ?_;exact ⟨c,trivial,tt,trivial⟩
 refine sx7 ?_;refine a2n 0 rfl rfl rfl rfl rfl rfl trivial ?_;refine du true rfl rfl rfl rfl rfl trivial ?_;refine a63 0 true rfl rfl rfl rfl rfl rfl ⟨trivial,rfl,rfl,rfl, .inl rfl,by show 0 + n <= 9223372036854775807;omega,by show (0 + n) * 8 <= 140737488355328;omega,fun _=>.inl rfl⟩ ?_;refine du true rfl rfl rfl rfl rfl trivial ?_;refine bz ?_;refine hrr ?_;refine ⟨_,_,rfl,trivial,CoR.of_eq (by show HR.v (.one (.ref 0 (0 + n))) = _;rw [bna]),⟨⟨_,rfl, ?_⟩,trivial⟩⟩;exact ⟨fun h=>h,rfl,rfl,(bna n).symm,fun i j _ _=>CoP.of_eq (by simp [eq])⟩
def b3a (n:Nat) (c:Bool) (f:Nat -> Nat -> PV) (hn:n <= 17592186044416):a6 br6 237 [.one (.sl n 1 c f)] (.v (.one (.sl n 1 false f))) :=
 d4.pure (args:=[.one (.sl n 1 c f)]) (l:=[.one (.ref 0 n)]) (aeu n c f hn) rfl ⟨rfl,trivial⟩
def afd:goodFn br6 200:=wgx Tryz.func200
def arv (n:Int) (l:List Rw) (hl:∀ i,i < l.length -> (l.getD i default).length <= 17592186044416) (hl2:l.length <= 5864062014805):d4 br6 200 [.agg [.p (.raw (.int .i64 n)), .p (rl l)]] [] (.v (.agg [.p (.raw (.int .i64 n)), .ref 901 l.length])) [(901, .arr true 1 84 l.length (lf rC l))] []:=by
 refine hfx (nt:=25) Tryz.func200 ?_;refine sx7 ?_;refine m9 0 ?_;refine m9 1 ?_;refine w_6 ?_;refine m9 2 ?_;refine w_2 ?_;refine ss 2 1 901 true 1 84 (lf rC l) bqo rfl rfl (CoP.sl rfl (.inr rfl) (fun h=>h) (fun i j hi _=>absurd hi (bmf i))) (.inr rfl) rfl rfl ?_;refine w_9 ?_;refine b5 (ka 2 (ka 3 (ka 10 (ka 11 kn)))) (kb 1 km) (fun i=>⟨[(12,some (vI i))],[(2,some (.box [.p (.raw (.int .i64 n)), .ref 901 i])),(901,some (.arr true 1 84 i (lf rC l)))]⟩) l.length kk ?_;rintro i hi;refine w_5 ?_;refine hcd (fun h0=>?_) (fun h0=>?_)
 · refine ja ?_;refine qcx af9 (b3a (l.getD i default).length false (lf zC (l.getD i default)) (hl i bqi)) ?_;refine m9 3 ?_;refine r9 4 true ?_;refine w_8 ?_;exact lpx (i + 1) ⟨tt,⟨u9,⟨_,rfl,(qt (fun h=>h) (fun j hj=>by obtain rfl:j = 0:=bqi;exact CoP.refl _))⟩,uu⟩⟩
 obtain rfl:i = l.length:=by omega
 refine w_6 ?_;refine hrr ?_;exact ⟨_,_,rfl,bqk,CoR.refl _,uu⟩
def b2a (n:Int) (l:List Rw) (hl:∀ i,i < l.length -> (l.getD i default).length <= 17592186044416) (hl2:l.length <= 5864062014805):a6 br6 200 [pT n l] (a8 [pT n l]) :=
 d4.pure (args:=[pT n l]) (l:=[.agg [.p (.raw (.int .i64 n)), .ref 901 l.length]]) (arv n l hl hl2) rfl ⟨⟨trivial,rfl,trivial⟩,trivial⟩
def ayh (a b:Rw) (s:AS) (h:a.length = b.length) (h16:b.length <= 16):a6 br6 226 [pZ a,pZ b,pA s] (a8 [pZ (ef a b s)]):=by
 refine hpx (nt:=30) Tryz.func226 ?_;refine w_7 ?_;refine fc9 af9 (aeu b.length false (lf zC b) bqi) trivial ?_;refine c5 ?_;refine b5 (ka 0 (ka 2 (ka 7 (ka 12 kn)))) km (fun i=>⟨[(13,some (vI i))],[(0,some (.arr true 1 3 b.length (lf zC (mz a b s i))))]⟩) b.length ⟨tt,⟨⟨_,rfl,(CoO.of_eq (by rw [<- ahx]))⟩,trivial⟩⟩ ?_;rintro i hi;refine w_5 ?_;refine hcd (fun h0=>?_) (fun h0=>?_)
 ·
  refine ow ?_;refine hcd (fun h1=>?_) (fun h1=>?_)
  · refine p9 ?_;exact lpx (i + 1) ⟨tt,⟨⟨_,rfl,(by first | exact vi bqi ((va bqi).1 bqj) | exact ws (fun e=>absurd ((va bqi).2 e) bqj))⟩,trivial⟩⟩
  refine w_5 ?_;exact lpx (i + 1) ⟨tt,⟨⟨_,rfl,(by first | exact vi bqi ((va bqi).1 bqj) | exact ws (fun e=>absurd ((va bqi).2 e) bqj))⟩,trivial⟩⟩
 obtain rfl:i = b.length:=by omega
 refine w_2 ?_;refine al 7 rfl rfl rfl ?_;refine v_4 ?_;exact ⟨by rw [akz];exact atl (qi a b s),trivial⟩
end
end Go.Hx

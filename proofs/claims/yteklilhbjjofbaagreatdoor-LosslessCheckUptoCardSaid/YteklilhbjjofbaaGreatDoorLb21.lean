/- A part of the proof: X1 X2 Ch3 X3 X4 Ch4 X5. -/
import Derived.Test.YteklilhbjjofbaaGreatDoorLb20
set_option linter.all false
set_option maxRecDepth 100000
set_option maxHeartbeats 1000000
namespace Go.Hx
section
open Go.Proofs
def ayt (l:List Int) (g k:Nat) (caps:Nat -> PV) (V:Int -> Bool) (hg:goodFn b62 g) (hV:∀ x,a8 b62 g (pI x :: lg caps k 0) (ah [pB (V x)])):a8 b62 174 [pP (zl l),pP (.fn g k caps)] (ah [pI (idx V l)]):=by
 refine hpx (nt:=19) Tryz.func174 ?_;refine c7 ?_;refine ca 0 rfl fun hn=>?_;refine w_3 ?_;refine d8 (ι:=Unit) kn km (fun _i=>⟨[],[]⟩) (fun _i=>idx V l = -1) ?_ ?_
 ·
  refine w_7 ?_;refine am (ι:=Nat) (ka 0 (ka 1 (ka 7 kn))) km (fun i=>⟨[(8,some (vI i))],[]⟩) (fun i=>i <= l.length /\ (∀ j,j < i -> V (l.getD j default) = false)) (fun i=>l.length - i) (0) (⟨b2b _,bc⟩) kk ?_;rintro i ⟨hi,hI⟩;refine w_5 ?_;refine hcd (fun h0=>?_) (fun h0=>?_)
  ·
   refine ml ?_;refine rc rfl rfl rfl rfl rfl rfl hg (hV (l.getD i default)) (CoL.refl _) rfl rfl ?_;refine ck ?_;refine hcb (fun h1=>?_) (fun h1=>?_)
   · refine v_5 ?_;exact ⟨cci (a0n (i:=i) b5c hI h1).symm,trivial⟩
   refine w_5 ?_;refine lpz (i + 1) kk ?_;exact ⟨by show i + 1 <= _;omega,az hI (h1)⟩
  refine cu ?_;refine ⟨(), ?_, ?_⟩
  · exact a16 fun j hj=>hI j b5c
  exact ⟨trivial,trivial⟩
 rintro _ hj;refine v_4 ?_;exact ⟨cci hj.symm,trivial⟩
def axp (l:List Rw) (g k:Nat) (caps:Nat -> PV) (V:Rw -> Bool) (hg:goodFn b62 g) (hV:∀ x,a8 b62 g (pZ x :: lg caps k 0) (ah [pB (V x)])):a8 b62 127 [pP (rl l),pP (.fn g k caps)] (ah [pI (idx V l)]):=by
 refine hpx (nt:=19) Tryz.func127 ?_;refine c7 ?_;refine ca 0 rfl fun hn=>?_;refine w_3 ?_;refine d8 (ι:=Unit) kn km (fun _i=>⟨[],[]⟩) (fun _i=>idx V l = -1) ?_ ?_
 ·
  refine w_7 ?_;refine am (ι:=Nat) (ka 0 (ka 1 (ka 7 kn))) km (fun i=>⟨[(8,some (vI i))],[]⟩) (fun i=>i <= l.length /\ (∀ j,j < i -> V (l.getD j default) = false)) (fun i=>l.length - i) (0) (⟨b2b _,bc⟩) kk ?_;rintro i ⟨hi,hI⟩;refine w_5 ?_;refine hcd (fun h0=>?_) (fun h0=>?_)
  ·
   refine ml ?_;refine rc rfl rfl rfl rfl rfl rfl hg (hV (l.getD i default)) (CoL.refl _) rfl rfl ?_;refine ck ?_;refine hcb (fun h1=>?_) (fun h1=>?_)
   · refine v_5 ?_;exact ⟨cci (a0n (i:=i) b5c hI h1).symm,trivial⟩
   refine w_5 ?_;refine lpz (i + 1) kk ?_;exact ⟨by show i + 1 <= _;omega,az hI (h1)⟩
  refine cu ?_;refine ⟨(), ?_, ?_⟩
  · exact a16 fun j hj=>hI j b5c
  exact ⟨trivial,trivial⟩
 rintro _ hj;refine v_4 ?_;exact ⟨cci hj.symm,trivial⟩
def ayr (l:List Int) (g k:Nat) (caps:Nat -> PV) (V:Int -> Bool) (hg:goodFn b62 g) (hV:∀ x,a8 b62 g (pI x :: lg caps k 0) (ah [pB (V x)])):a8 b62 162 [pP (zl l),pP (.fn g k caps)] (ah [pB (l.any V)]):=by
 refine hpx (nt:=9) Tryz.func162 ?_;refine w_8 ?_;refine qcx (wgx Tryz.func174) (ayt l g k caps V hg hV) ?_;refine v_3 ?_;exact ⟨ccb abc,trivial⟩
def ayw (l:List Rw) (g k:Nat) (caps:Nat -> PV) (V:Rw -> Bool) (hg:goodFn b62 g) (hV:∀ x,a8 b62 g (pZ x :: lg caps k 0) (ah [pB (V x)])):a8 b62 87 [pP (rl l),pP (.fn g k caps)] (ah [pB (l.any V)]):=by
 refine hpx (nt:=9) Tryz.func87 ?_;refine w_8 ?_;refine qcx (wgx Tryz.func127) (axp l g k caps V hg hV) ?_;refine v_3 ?_;exact ⟨ccb abc,trivial⟩
def abb:goodFn b62 89:=wgx Tryz.func89
def ao1 (a b:Rw):a8 b62 89 [pZ a,pZ b] (ah [pB (decide (a = b))]):=by
 refine hpx (nt:=26) Tryz.func89 ?_;refine c7 ?_;refine ca 0 rfl fun hn0=>?_;refine ca 1 rfl fun hn1=>?_;refine pe ?_;refine hcn (fun h0=>?_) (fun h0=>?_)
 · refine v_4 ?_;exact ⟨ccb (decide_eq_false fun e=>by subst e;omega).symm,trivial⟩
 refine da ?_;refine d8 (ι:=Unit) kn km (fun _i=>⟨[],[]⟩) (fun _i=>a = b) ?_ ?_
 ·
  refine w_7 ?_;refine am (ι:=Nat) (ka 0 (ka 1 (ka 12 kn))) km (fun i=>⟨[(13,some (vI i))],[]⟩) (fun i=>i <= a.length /\ (∀ j,j < i -> decide (a.getD j default = b.getD j default) = true)) (fun i=>a.length - i) (0) (⟨b2b _,bc⟩) kk ?_;rintro i ⟨hi,hI⟩;refine w_5 ?_;refine hcd (fun h1=>?_) (fun h1=>?_)
  ·
   refine alm ?_;refine hcn (fun h2=>?_) (fun h2=>?_)
   · refine v_4 ?_;exact ⟨ccb (decide_eq_false fun e=>by subst e;simp_all).symm,trivial⟩
   refine w_5 ?_;refine lpz (i + 1) kk ?_;exact ⟨by show i + 1 <= _;omega,az hI (decide_eq_true b5h)⟩
  refine cu ?_;refine ⟨(), ?_, ?_⟩
  · exact aoc b5c fun j hj=>hI j b5c
  exact ⟨trivial,trivial⟩
 rintro _ hj;refine v_4 ?_;exact ⟨ccb (decide_eq_true hj).symm,trivial⟩
def awp (a b:Rw):a8 b62 93 [pZ a,pZ b] (ah [pB (decide (a = b))]):=by
 refine hpx (nt:=26) Tryz.func93 ?_;refine c7 ?_;refine ca 0 rfl fun hn0=>?_;refine ca 1 rfl fun hn1=>?_;refine pe ?_;refine hcn (fun h0=>?_) (fun h0=>?_)
 · refine v_4 ?_;exact ⟨ccb (decide_eq_false fun e=>by subst e;omega).symm,trivial⟩
 refine da ?_;refine d8 (ι:=Unit) kn km (fun _i=>⟨[],[]⟩) (fun _i=>a = b) ?_ ?_
 ·
  refine w_5 ?_;refine am (ι:=Nat) (ka 0 (ka 1 kn)) km (fun i=>⟨[(5,some (vI i))],[]⟩) (fun i=>i <= a.length /\ (∀ j,j < i -> decide (a.getD j default = b.getD j default) = true)) (fun i=>a.length - i) (0) (⟨b2b _,bc⟩) kk ?_;rintro i ⟨hi,hI⟩;refine w_8 ?_;refine hcd (fun h1=>?_) (fun h1=>?_)
  ·
   refine og ?_;refine hcn (fun h2=>?_) (fun h2=>?_)
   · refine v_4 ?_;exact ⟨ccb (decide_eq_false fun e=>by subst e;simp_all).symm,trivial⟩
   refine w_6 ?_;refine lpz (i + 1) kk ?_;exact ⟨by show i + 1 <= _;omega,az hI (decide_eq_true b5h)⟩
  refine cu ?_;refine ⟨(), ?_, ?_⟩
  · exact aoc b5c fun j hj=>hI j b5c
  exact ⟨trivial,trivial⟩
 rintro _ hj;refine v_4 ?_;exact ⟨ccb (decide_eq_true hj).symm,trivial⟩
def aod (a b:Rw):a8 b62 136 [pZ a,pZ b] (ah [pI (l6 a b)]):=by
 refine hpx (nt:=36) Tryz.func136 ?_;refine c7 ?_;refine ca 0 rfl fun hn0=>?_;refine ca 1 rfl fun hn1=>?_;refine w_3 ?_;refine d8 (ι:=Unit) (ka 0 (ka 1 kn)) km (fun _i=>⟨[],[]⟩) (fun _i=>∀ j,j < a.length -> j < b.length /\ a.getD j default = b.getD j default) ?_ ?_
 ·
  refine w_7 ?_;refine am (ι:=Nat) (ka 0 (ka 1 (ka 9 (ka 10 kn)))) km (fun i=>⟨[(11,some (vI i))],[]⟩) (fun i=>i <= a.length /\ (∀ j,j < i -> j < b.length /\ a.getD j default = b.getD j default)) (fun i=>a.length - i) (0) (⟨b2b _,bc⟩) kk ?_;rintro i ⟨hi,hI⟩;refine w_5 ?_;refine hcd (fun h0=>?_) (fun h0=>?_)
  ·
   refine a2k ?_;refine hcd (fun h1=>?_) (fun h1=>?_)
   · refine v_4 ?_;exact ⟨cci (ap6 (i:=i) b5c b5c fun j hj=>(hI j hj).2),trivial⟩
   refine mj ?_;refine qcx (wgx Tryz.func103) (aoj (a.getD i default) (b.getD i default)) ?_;refine w_7 ?_;refine hcn (fun h2=>?_) (fun h2=>?_)
   · refine v_5 ?_;exact ⟨cci (ap0 (i:=i) b5c b5c (fun j hj=>(hI j hj).2) b5d),trivial⟩
   refine w_5 ?_;refine lpz (i + 1) kk ?_;exact ⟨by show i + 1 <= _;omega,az hI (⟨by omega,auo b5d⟩)⟩
  refine cu ?_;refine ⟨(), ?_, ?_⟩
  · exact fun j hj=>hI j b5c
  exact kk
 rintro _ hj;refine w_9 ?_;refine hcd (fun h3=>?_) (fun h3=>?_)
 · refine v_4 ?_;exact ⟨cci (aqr b5c fun j h=>(hj j h).2),trivial⟩
 refine v_5 ?_;exact ⟨cci (art (aus fun j h=>(hj j h).1) b5c fun j h=>(hj j h).2),trivial⟩
def aoo (a b:Rw):a8 b62 160 [pZ a,pZ b] (ah [pB (ltZ a b)]):=by
 refine hpx (nt:=41) Tryz.func160 ?_;refine c7 ?_;refine ca 0 rfl fun hn0=>?_;refine ca 1 rfl fun hn1=>?_;refine w_3 ?_;refine d8 (ι:=Unit) (ka 0 (ka 1 kn)) km (fun _i=>⟨[],[]⟩) (fun _i=>∀ j,j < a.length -> j < b.length -> a.getD j default = b.getD j default) ?_ ?_
 ·
  refine w_5 ?_;refine am (ι:=Nat) (ka 0 (ka 1 kn)) km (fun i=>⟨[(5,some (vI i))],[]⟩) (fun i=>i <= a.length /\ (∀ j,j < i -> j < b.length /\ a.getD j default = b.getD j default)) (fun i=>a.length - i) (0) (⟨b2b _,bc⟩) kk ?_;rintro i ⟨hi,hI⟩;refine w_8 ?_;refine ag rfl rfl (fun r0=>?_) (fun r0=>?_)
  ·
   have h0:=tz1 r0;(iterate 4 refine qy ?_ (hg:=(gtt r0)));refine w_2 ?_;refine al _ rfl (fun r1=>?_) (fun r1=>?_)
   ·
    have h1:=tz1 (cn r0 r1);refine og ?_;refine hcn (fun h2=>?_) (fun h2=>?_)
    · refine xr ?_;exact hx8 rfl rfl rfl (⟨ccb (aax (i:=i) b5c b5c (fun j h=>(hI j h).2) b5d).symm,trivial⟩)
    refine w_6 ?_;refine lpz (i + 1) kk ?_;exact ⟨by show i + 1 <= _;omega,az hI (⟨by omega,by assumption⟩)⟩
   have h1:=tz2 (cn r0 r1);refine cu ?_;refine ⟨(), ?_, ?_⟩
   · exact fun j h1 h2=>(hI j b5c).2
   exact kk
  have h0:=tz2 r0;(iterate 4 refine k9 (gft r0) ?_);refine w_4 ?_;refine ⟨(), ?_, ?_⟩
  · exact fun j h1 h2=>(hI j b5c).2
  exact kk
 rintro _ hj;refine v_9 ?_;exact ⟨ccb (by rw [a1f hj,decide_eq_decide];omega),trivial⟩
end
section
open Go.Proofs
abbrev bxZ (a:PV):PV:=.vp 1 fun j=>[a].getD j .any
def auu (r row:Rw):a8 b62 88 [pZ r,pP (bxZ (zl row))] (ah [pB (decide (r = row))]):=by
 refine hpx (nt:=7) Tryz.func88 ?_;refine w_8 ?_;refine qcx abb (ao1 _ _) ?_;refine v_2 ?_;exact CoL.refl _
def zo:goodFn b62 46:=wgx Tryz.func46
def a4s (n:Int) (l:List Rw) (row:Rw):a8 b62 46 [pT n l,pZ row] (ah [pB (l.any fun r=>decide (r = row))]):=by
 refine hpx (nt:=9) Tryz.func46 ?_;refine sx7 ?_;refine m9 0 ?_;refine m9 1 ?_;refine w_3 ?_;refine a8m 3 rfl rfl rfl ?_;refine w_4 ?_;refine qcx (wgx Tryz.func87) (ayw l 88 1 (fun i=>[bxZ (zl row)].getD i .any) (fun r=>decide (r = row)) (wgx Tryz.func88) (fun r=>auu r row)) ?_;refine v_2 ?_;exact CoL.refl _
def axq (x:Int):a8 b62 163 [pI x] (ah [pB (decide (x < 0))]):=by
 refine hpx (nt:=5) Tryz.func163 ?_;refine dm ?_;exact hx8 rfl rfl rfl (CoL.refl _)
def wz:goodFn b62 122:=wgx Tryz.func122
def vz (a b:Rw) (s:AS) (h:b.length = a.length) (h16:a.length <= 16):a8 b62 122 [pZ a,pZ b,pA s] (ah [pB (gu a b s)]):=by
 refine hpx (nt:=28) Tryz.func122 ?_;refine c7 ?_;refine ca 0 rfl fun hn0=>?_;refine ca 1 rfl fun hn1=>?_;refine w_3 ?_;refine d8 (ι:=Unit) kn km (fun _i=>⟨[],[]⟩) (fun _i=>gu a b s = true) ?_ ?_
 ·
  refine w_5 ?_;refine am (ι:=Nat) (ka 0 (ka 1 (ka 2 kn))) km (fun i=>⟨[(7,some (vI i))],[]⟩) (fun i=>i <= a.length /\ (∀ j:Nat,j < i -> (ci s (j:Int) = true -> a.getD j default = b.getD j default))) (fun i=>a.length - i) (0) (⟨b2b _,bc⟩) kk ?_;rintro i ⟨hi,hI⟩;refine w_8 ?_;refine hcd (fun h0=>?_) (fun h0=>?_)
  ·
   refine w_7 ?_;refine qcx wh (aao s (i:Int)) ?_;refine qy ?_;refine ag rfl rfl (fun r1=>?_) (fun r1=>?_)
   ·
    have h1:=r1;(iterate 9 refine qy ?_ (hg:=(gtt r1)));refine w_3 ?_;refine al _ rfl (fun r2=>?_) (fun r2=>?_)
    · have h2:=tz2 (dq (cn r1 r2));refine v_4 ?_;exact ⟨ccb (ajz (i:=i) b5c b5h b5h).symm,trivial⟩
    have h2:=tz1 (dt (cn r1 r2));refine w_6 ?_;refine lpz (i + 1) kk ?_;exact ⟨by show i + 1 <= _;omega,az hI (fun hh=>by simp_all)⟩
   have h1:=r1;(iterate 9 refine k9 (gft r1) ?_);refine dm ?_;refine lpz (i + 1) kk ?_
   exact ⟨by show i + 1 <= _;omega,az hI (fun hh=>by simp_all)⟩
  refine cu ?_;refine ⟨(), ?_, ?_⟩
  · exact w9 fun j hj=>hI j b5c
  exact ⟨trivial,trivial⟩
 rintro _ hj;refine v_4 ?_;exact ⟨ccb hj.symm,trivial⟩
def wu:goodFn b62 129:=wgx Tryz.func129
def z7 (a b:Rw) (s:AS) (h:b.length = a.length) (h16:a.length <= 16):a8 b62 129 [pZ a,pZ b,pA s] (ah [pB (gu a b s)]):=by
 refine hpx (nt:=30) Tryz.func129 ?_;refine c7 ?_;refine ca 0 rfl fun hn0=>?_;refine ca 1 rfl fun hn1=>?_;refine w_3 ?_;refine d8 (ι:=Unit) kn km (fun _i=>⟨[],[]⟩) (fun _i=>gu a b s = true) ?_ ?_
 ·
  refine w_7 ?_;refine am (ι:=Nat) (ka 0 (ka 1 (ka 2 (ka 9 kn)))) km (fun i=>⟨[(10,some (vI i))],[]⟩) (fun i=>i <= a.length /\ (∀ j:Nat,j < i -> (ci s (j:Int) = true -> a.getD j default = b.getD j default))) (fun i=>a.length - i) (0) (⟨b2b _,bc⟩) kk ?_;rintro i ⟨hi,hI⟩;refine w_5 ?_;refine hcd (fun h0=>?_) (fun h0=>?_)
  ·
   refine og ?_;refine ag rfl rfl (fun r1=>?_) (fun r1=>?_)
   ·
    have h1:=tz1 r1;(iterate 9 refine qy ?_ (hg:=(gtt r1)));refine w_3 ?_;refine al _ rfl (fun r2=>?_) (fun r2=>?_)
    · have h2:=tz2 (dq (cn r1 r2));refine v_4 ?_;exact ⟨ccb (ajz (i:=i) b5c ((l4 b5c).1 b5d) b5d).symm,trivial⟩
    have h2:=tz1 (dt (cn r1 r2));refine w_5 ?_;refine lpz (i + 1) kk ?_;exact ⟨by show i + 1 <= _;omega,az hI (fun hh=>by first | (exact absurd ((l4 b5c).2 hh) b5d) | assumption)⟩
   have h1:=tz2 r1;(iterate 9 refine k9 (gft r1) ?_);refine w_9 ?_;refine lpz (i + 1) kk ?_
   exact ⟨by show i + 1 <= _;omega,az hI (fun hh=>by first | (exact absurd ((l4 b5c).2 hh) b5d) | assumption)⟩
  refine cu ?_;refine ⟨(), ?_, ?_⟩
  · exact w9 fun j hj=>hI j b5c
  exact ⟨trivial,trivial⟩
 rintro _ hj;refine v_4 ?_;exact ⟨ccb hj.symm,trivial⟩
end
section
def bj (n:Int) (l m:List Fd):Int:=if ct n l = 0 then (if 64 < m.length then 3 else if m.all (inU n) = true then 0 else 1) else ct n l
section
variable {n:Int} {l m:List Fd}
def ak8 (h:¬ ct n l = 0):ct n l = bj n l m:=by unfold bj;rw [if_neg h]
def aiz (h:ct n l = 0) (h2:64 < m.length):3 = bj n l m:=by unfold bj;rw [if_pos h,if_pos h2]
def abt {i:Nat} (h:ct n l = 0) (h2:¬ 64 < m.length) (hi:i < m.length) (hu:¬ inU n (m.getD i default) = true):1 = bj n l m:=by
 unfold bj;rw [if_pos h,if_neg h2,if_neg (fun e=>absurd (a43 (l:=m) (p:=inU n) hi (b2e.2 hu)) (by rw [e];decide))]
def akl (h:ct n l = 0) (h2:¬ 64 < m.length) (hu:∀ j,j < m.length -> inU n (m.getD j default) = true):0 = bj n l m:=by
 unfold bj;rw [if_pos h,if_neg h2,if_pos (a8z hu)]
def ov (h:bj n l m = 0):0 <= n /\ n <= 16 /\ l.length <= 64 /\ l.all (inU n) = true /\ m.length <= 64 /\ m.all (inU n) = true:=by
 unfold bj at h;by_cases h1:ct n l = 0
 · rw [if_pos h1] at h
   obtain ⟨a,b,c,d⟩:=a6i h1;by_cases h2:64 < m.length
   · rw [if_pos h2] at h;omega
   rw [if_neg h2] at h;by_cases h3:m.all (inU n) = true
   · exact ⟨a,b,c,d,by omega,h3⟩
   rw [if_neg h3] at h;omega
 rw [if_neg h1] at h;exact absurd h h1
end
section
variable {l:List Rw}
def a0i {n:Int} {i:Nat} (h1:((l.getD i default).length:Int) = n) (h2:(l.getD i default).any (fun x=>decide (x < 0)) = false) (h3:i = 0 \/ ltZ (l.getD (i - 1) default) (l.getD i default) = true):jv n l i = true:=by
 unfold jv;rw [decide_eq_true h1,h2]
 rcases h3 with h3 | h3
 · rw [decide_eq_true h3];rfl
 rw [h3];simp
def a1d {n:Int} {i:Nat} (h:¬ ((l.getD i default).length:Int) = n):jv n l i = false:=by unfold jv;rw [decide_eq_false h];rfl
def sb {n:Int} {i:Nat} (h:(l.getD i default).any (fun x=>decide (x < 0)) = true):jv n l i = false:=by unfold jv;rw [h];simp
def wn {n:Int} {i:Nat} (h0:0 < i) (h:¬ ltZ (l.getD (i - 1) default) (l.getD i default) = true):jv n l i = false:=by
 unfold jv;rw [b2e.2 h,decide_eq_false (by omega:¬ i = 0)];simp
def xl {a b:Rw}:l6 a b < 0 <-> ltZ a b = true:=by
 unfold l6;by_cases e:a = b
 · subst e
   rw [if_pos rfl,oj];exact ⟨fun h=>absurd h b5c,fun h=>by cases h⟩
 rw [if_neg e];by_cases h:ltZ a b = true
 · rw [if_pos h];exact ⟨fun _=>h,fun _=>by omega⟩
 rw [if_neg h];exact ⟨fun h=>absurd h b5c,fun h2=>absurd h2 h⟩
end
end
section
open Go.Proofs
def afb (n:Int) (s:AS):a8 b62 57 [pI n,pA s] (ah [pB (decide (sub s (bi n)))]):=by
 refine hpx (nt:=9) Tryz.func57 ?_;refine w_8 ?_;refine qcx tv (tz n) ?_;refine qcx a3z (a8y _ _) ?_;refine v_2 ?_;exact CoL.refl _
def aca:goodFn b62 52:=wgx Tryz.func52
def a73 (n:Int) (l m:List Fd):a8 b62 52 [pI n,pP (fdl l),pP (fdl m)] (ah [pI (bj n l m)]):=by
 refine hpx (nt:=34) Tryz.func52 ?_;refine c7 ?_;refine ca 2 rfl fun hn2=>?_;refine w_8 ?_;refine qcx (wgx Tryz.func78) (avu n l) ?_;refine w_7 ?_;refine hcn (fun h0=>?_) (fun h0=>?_)
 · refine v_5 ?_;exact ⟨cci (ak8 b5d),trivial⟩
 have hv0:ct n l = 0:=by assumption
 obtain ⟨hn0,hn16,_,_⟩:=a6i hv0;refine w_8 ?_;refine hcd (fun h1=>?_) (fun h1=>?_)
 · refine v_4 ?_;exact ⟨cci (aiz hv0 b5c),trivial⟩
 refine da ?_;refine d8 (ι:=Unit) kn km (fun _i=>⟨[],[]⟩) (fun _i=>∀ j,j < m.length -> inU n (m.getD j default) = true) ?_ ?_
 ·
  refine w_7 ?_;refine am (ι:=Nat) (ka 0 (ka 19 (ka 20 kn))) km (fun i=>⟨[(21,some (vI i))],[]⟩) (fun i=>i <= m.length /\ (∀ j,j < i -> inU n (m.getD j default) = true)) (fun i=>m.length - i) (0) (⟨b2b _,bc⟩) kk ?_;rintro i ⟨hi,hI⟩;refine w_5 ?_;refine hcd (fun h2=>?_) (fun h2=>?_)
  ·
   refine w_7 ?_;refine m9 0 ?_;refine mj ?_;refine hcn (fun h3=>?_) (fun h3=>?_)
   · refine v_4 ?_;exact ⟨cci (abt (i:=i) hv0 b5c b5c (fun e=>absurd (a1g.2 e) b5d)),trivial⟩
   refine w_5 ?_;refine lpz (i + 1) kk ?_;exact ⟨by show i + 1 <= _;omega,az hI (a1g.1 b5d)⟩
  refine cu ?_;refine ⟨(), ?_, ?_⟩
  · exact fun j hj=>hI j b5c
  exact ⟨trivial,trivial⟩
 rintro _ hj;refine v_4 ?_;exact ⟨cci (akl hv0 b5c hj),trivial⟩
def zz:goodFn b62 26:=wgx Tryz.func26
def t8 (n:Int) (l m:List Fd):a8 b62 26 [pI n,pP (fdl l),pP (fdl m)] (ah [pI (bj n l m)]):=by
 refine hpx (nt:=42) Tryz.func26 ?_;refine c7 ?_;refine ca 2 rfl fun hn2=>?_;refine w_8 ?_;refine qcx (wgx Tryz.func56) (as3 n l) ?_;refine w_7 ?_;refine hcn (fun h0=>?_) (fun h0=>?_)
 · refine v_5 ?_;exact ⟨cci (ak8 b5d),trivial⟩
 have hv0:ct n l = 0:=by assumption
 obtain ⟨hn0,hn16,_,_⟩:=a6i hv0;refine w_8 ?_;refine hcd (fun h1=>?_) (fun h1=>?_)
 · refine v_4 ?_;exact ⟨cci (aiz hv0 b5c),trivial⟩
 refine da ?_;refine d8 (ι:=Unit) kn km (fun _i=>⟨[],[]⟩) (fun _i=>∀ j,j < m.length -> inU n (m.getD j default) = true) ?_ ?_
 ·
  refine w_5 ?_;refine am (ι:=Nat) (ka 0 (ka 2 kn)) km (fun i=>⟨[(8,some (vI i))],[]⟩) (fun i=>i <= m.length /\ (∀ j,j < i -> inU n (m.getD j default) = true)) (fun i=>m.length - i) (0) (⟨b2b _,bc⟩) kk ?_;rintro i ⟨hi,hI⟩;refine w_8 ?_;refine hcd (fun h2=>?_) (fun h2=>?_)
  ·
   refine dn ?_;refine qcx (wgx Tryz.func57) (afb n _) ?_;refine w_2 ?_;refine ag rfl rfl (fun r3=>?_) (fun r3=>?_)
   ·
    have h3:=dq r3;(iterate 8 refine k9 (gtf r3) ?_);refine w_7 ?_
    exact hx8 rfl rfl rfl (⟨cci (abt (i:=i) hv0 b5c b5c (fun e=>by rw [ot b5c b5c] at e;simp_all)),trivial⟩)
   have h3:=dt r3;(iterate 6 refine qy ?_ (hg:=(gff r3)));refine qcx (wgx Tryz.func57) (afb n _) ?_ (hg:=(gff r3));refine qy ?_ (hg:=(gff r3));refine w_2 ?_;refine al _ rfl (fun r4=>?_) (fun r4=>?_)
   · have h4:=dq (af r3 r4);refine v_4 ?_;exact ⟨cci (abt (i:=i) hv0 b5c b5c (fun e=>by rw [ot b5c b5c] at e;simp_all)),trivial⟩
   have h4:=dt (af r3 r4);refine w_6 ?_;refine lpz (i + 1) kk ?_;exact ⟨by show i + 1 <= _;omega,az hI ((ot b5c b5c).2 b5h)⟩
  refine cu ?_;refine ⟨(), ?_, ?_⟩
  · exact fun j hj=>hI j b5c
  exact ⟨trivial,trivial⟩
 rintro _ hj;refine v_4 ?_;exact ⟨cci (akl hv0 b5c hj),trivial⟩
end
section
open Go.Proofs
def nk (i:Nat):((i:Int) - 1).toNat = i - 1:=by omega
def b5w {p:Prop} (h:p:=by first | exact a1d b5d | exact sb b5d | exact wn b5c (by simp_all [nk])):p:=h
def arp (n:Int) (l:List Rw):a8 b62 128 [pT n l] (ah [pB (tok n l)]):=by
 refine hpx (nt:=50) Tryz.func128 ?_;refine sx7 ?_;refine m9 0 ?_;refine w_9 ?_;refine ag rfl rfl (fun r0=>?_) (fun r0=>?_)
 ·
  have h0:=tz1 r0;(iterate 3 refine k9 (gtf r0) ?_);refine w_2 ?_;(iterate 4 refine k9 rfl ?_);refine w_7 ?_
  exact hx8 rfl rfl rfl (⟨ccb (w4 b5c).symm,trivial⟩)
 have h0:=tz2 r0;(iterate 3 refine qy ?_ (hg:=(gff r0)));refine w_2 ?_;refine ag rfl rfl (fun r1=>?_) (fun r1=>?_)
 ·
  have h1:=tz1 (af r0 r1);(iterate 4 refine k9 (gtf r1) ?_);refine w_7 ?_
  exact hx8 rfl rfl rfl (⟨ccb (w4 b5c).symm,trivial⟩)
 have h1:=tz2 (af r0 r1);(iterate 4 refine qy ?_ (hg:=(gff r1)));refine w_2 ?_;refine al _ rfl (fun r2=>?_) (fun r2=>?_)
 · have h2:=tz1 (af r1 r2);refine v_4 ?_;exact ⟨ccb (w4 b5c).symm,trivial⟩
 have h2:=tz2 (af r1 r2);refine dm ?_;refine am (ι:=Nat) (ka 1 (ka 20 (ka 21 kn))) (kb 0 km) (fun i=>⟨[(22,some (vI i))],[]⟩) (fun i=>i <= l.length /\ (∀ j,j < i -> jv n l j = true)) (fun i=>l.length - i) (0) (⟨b2b _,bc⟩) kk ?_;rintro i ⟨hi,hI⟩;refine w_5 ?_;refine hcd (fun h3=>?_) (fun h3=>?_)
 ·
  refine ah5 ?_;refine ag rfl rfl (fun r4=>?_) (fun r4=>?_)
  ·
   have h4:=tz2 (dq r4);(iterate 2 refine k9 (gtf r4) ?_);refine w_7 ?_
   exact hx8 rfl rfl rfl (⟨ccb (xo (i:=i) b5c b5w).symm,trivial⟩)
  have h4:=tz1 (dt r4);refine qy ?_ (hg:=(gff r4));refine qcx (wgx Tryz.func162) (ayr (l.getD i default) 163 0 (fun _=>.any) (fun x=>decide (x < 0)) (wgx Tryz.func163) (fun x=>axq x)) ?_ (hg:=(gff r4));refine w_2 ?_;refine al _ rfl (fun r5=>?_) (fun r5=>?_)
  · have h5:=af r4 r5;refine v_4 ?_;exact ⟨ccb (xo (i:=i) b5c b5w).symm,trivial⟩
  have h5:=af r4 r5;refine w_6 ?_;refine ag rfl rfl (fun r6=>?_) (fun r6=>?_)
  ·
   have h6:=tz1 r6;(iterate 7 refine qy ?_ (hg:=(gtt r6)));refine qcx (wgx Tryz.func136) (aod (l.getD ((i:Int) - 1).toNat default) (l.getD i default)) ?_ (hg:=(gtt r6));refine qy ?_ (hg:=(gtt r6));refine w_2 ?_
   refine al _ rfl (fun r7=>?_) (fun r7=>?_)
   · have h7:=tz1 (cn r6 r7);refine v_4 ?_;exact ⟨ccb (xo (i:=i) b5c (wn b5c fun e=>absurd (xl.2 e) (by simp only [nk] at *;omega))).symm,trivial⟩
   have h7:=tz2 (cn r6 r7);refine w_5 ?_;refine lpz (i + 1) kk ?_;exact ⟨by show i + 1 <= _;omega,az hI (a0i b5d b5d (by first | (exact .inl b5c) | (exact .inr (xl.1 (by simp only [nk] at *;omega)))))⟩
  have h6:=tz2 r6;(iterate 9 refine k9 (gft r6) ?_);refine w_8 ?_;refine lpz (i + 1) kk ?_
  exact ⟨by show i + 1 <= _;omega,az hI (a0i b5d b5d (by first | (exact .inl b5c) | (exact .inr (xl.1 (by simp only [nk] at *;omega)))))⟩
 refine v_5 ?_;exact ⟨ccb (ah2 b5c b5c b5c fun j hj=>hI j b5c).symm,trivial⟩
def a6a:goodFn b62 121:=wgx Tryz.func121
def a3d (n:Int) (l:List Rw):a8 b62 121 [pT n l] (ah [pB (tok n l)]):=by
 refine hpx (nt:=69) Tryz.func121 ?_;refine sx7 ?_;refine m9 0 ?_;refine w_9 ?_;refine ag rfl rfl (fun r0=>?_) (fun r0=>?_)
 ·
  have h0:=tz1 r0;(iterate 3 refine k9 (gtf r0) ?_);refine w_2 ?_;(iterate 4 refine k9 rfl ?_);refine w_7 ?_
  exact hx8 rfl rfl rfl (⟨ccb (w4 b5c).symm,trivial⟩)
 have h0:=tz2 r0;(iterate 3 refine qy ?_ (hg:=(gff r0)));refine w_2 ?_;refine ag rfl rfl (fun r1=>?_) (fun r1=>?_)
 ·
  have h1:=tz1 (af r0 r1);(iterate 4 refine k9 (gtf r1) ?_);refine w_7 ?_
  exact hx8 rfl rfl rfl (⟨ccb (w4 b5c).symm,trivial⟩)
 have h1:=tz2 (af r0 r1);(iterate 4 refine qy ?_ (hg:=(gff r1)));refine w_2 ?_;refine al _ rfl (fun r2=>?_) (fun r2=>?_)
 · have h2:=tz1 (af r1 r2);refine v_4 ?_;exact ⟨ccb (w4 b5c).symm,trivial⟩
 have h2:=tz2 (af r1 r2);refine w_7 ?_;refine am (ι:=Nat) (ka 1 kn) (kb 0 km) (fun i=>⟨[(3,some (vI i))],[]⟩) (fun i=>i <= l.length /\ (∀ j,j < i -> jv n l j = true)) (fun i=>l.length - i) (0) (⟨b2b _,bc⟩) kk ?_;rintro i ⟨hi,hI⟩;refine w_9 ?_;refine hcd (fun h3=>?_) (fun h3=>?_)
 ·
  refine og ?_;refine ag rfl rfl (fun r4=>?_) (fun r4=>?_)
  ·
   have h4:=tz2 (dq r4);(iterate 3 refine k9 (gtf r4) ?_);(iterate 13 refine k9 rfl ?_);refine k9 (gtf r4) ?_;refine w_8 ?_
   exact hx8 rfl rfl rfl (⟨ccb (xo (i:=i) b5c b5w).symm,trivial⟩)
  have h4:=tz1 (dt r4);(iterate 3 refine qy ?_ (hg:=(gff r4)));refine ag rfl rfl (fun r5=>?_) (fun r5=>?_)
  ·
   have h5:=tz1 r5;(iterate 11 refine qy ?_ (hg:=(gtt r5)));refine qcx (wgx Tryz.func160) (aoo (l.getD ((i:Int) - 1).toNat default) (l.getD i default)) ?_ (hg:=(gtt r5));refine qy ?_ (hg:=(gtt r5));refine qy ?_ (hg:=(gff r4));refine w_3 ?_
   refine al _ rfl (fun r6=>?_) (fun r6=>?_)
   · have h6:=dq (cn r5 (af r4 r6));refine v_4 ?_;exact ⟨ccb (xo (i:=i) b5c b5w).symm,trivial⟩
   have h6:=dt (cn r5 (af r4 r6));refine w_6 ?_;refine am (ι:=Nat) (ka 1 (ka 3 kn)) (kb 0 km) (fun k=>⟨[(4,some (vI k))],[]⟩) (fun k=>k <= (l.getD i default).length /\ (∀ j,j < k -> decide ((l.getD i default).getD j default < 0) = false)) (fun k=>(l.getD i default).length - k) (0) (⟨b2b _,bc⟩) kk ?_;rintro k ⟨hk,hK⟩;refine w_8 ?_;refine hcd (fun h7=>?_) (fun h7=>?_)
   ·
    refine dn ?_;refine rq rfl rfl rfl rfl rfl ?_ (hp:=⟨rfl,by omega,by simp only [b2k];omega⟩);refine w_3 ?_;refine hcd (fun h8=>?_) (fun h8=>?_)
    · refine v_4 ?_;exact ⟨ccb (xo (i:=i) b5c (sb (age (i:=k) b5c (decide_eq_true b5d)))).symm,trivial⟩
    refine w_6 ?_;refine lpz (k + 1) kk ?_;exact ⟨by show k + 1 <= _;omega,az hK (decide_eq_false b5d)⟩
   refine w_6 ?_;refine lpz (i + 1) kk ?_;exact ⟨by show i + 1 <= _;omega,az hI (a0i b5d (agq fun j hj=>hK j b5c) (by first | (exact .inl b5c) | (exact .inr (by simp_all [nk]))))⟩
  have h5:=tz2 r5;(iterate 13 refine k9 (gft r5) ?_);refine rq rfl rfl rfl rfl (gff r4) ?_ (hp:=r5);refine w_3 ?_;refine al _ rfl (fun e=>Bool.noConfusion ((qg r4 rfl).symm.trans e)) (fun _=>?_);refine w_6 ?_
  refine am (ι:=Nat) (ka 1 (ka 3 kn)) (kb 0 km) (fun k=>⟨[(4,some (vI k))],[]⟩) (fun k=>k <= (l.getD i default).length /\ (∀ j,j < k -> decide ((l.getD i default).getD j default < 0) = false)) (fun k=>(l.getD i default).length - k) (0) (⟨b2b _,bc⟩) kk ?_;rintro k ⟨hk,hK⟩;refine w_8 ?_;refine hcd (fun h9=>?_) (fun h9=>?_)
  ·
   refine dn ?_;refine rq rfl rfl rfl rfl rfl ?_ (hp:=⟨rfl,by omega,by simp only [b2k];omega⟩);refine w_3 ?_;refine hcd (fun h10=>?_) (fun h10=>?_)
   · refine v_4 ?_;exact ⟨ccb (xo (i:=i) b5c (sb (age (i:=k) b5c (decide_eq_true b5d)))).symm,trivial⟩
   refine w_6 ?_;refine lpz (k + 1) kk ?_;exact ⟨by show k + 1 <= _;omega,az hK (decide_eq_false b5d)⟩
  refine w_6 ?_;refine lpz (i + 1) kk ?_;exact ⟨by show i + 1 <= _;omega,az hI (a0i b5d (agq fun j hj=>hK j b5c) (by first | (exact .inl b5c) | (exact .inr (by simp_all [nk]))))⟩
 refine v_5 ?_;exact ⟨ccb (ah2 b5c b5c b5c fun j hj=>hI j b5c).symm,trivial⟩
def aa0:goodFn b62 90:=wgx Tryz.func90
def a3s (n:Int) (l:List Rw) (p m:List Fd):a8 b62 90 [pT n l,pP (fdl p),pP (fdl m)] (ah [pI (if tok n l = true then bj n p m else 1)]):=by
 refine hpx (nt:=15) Tryz.func90 ?_;refine sx7 ?_;refine m9 0 ?_;refine w_6 ?_;refine qcx (wgx Tryz.func128) (arp n l) ?_;refine w_2 ?_;refine hcv (fun h0=>?_) (fun h0=>?_)
 · refine v_4 ?_;exact ⟨cci (if_neg b5h).symm,trivial⟩
 refine w_7 ?_;refine qcx aca (a73 n p m) ?_;refine v_2 ?_;exact ⟨cci (if_pos b5h).symm,trivial⟩
def a0d:goodFn b62 50:=wgx Tryz.func50
def ze (n:Int) (l:List Rw) (row:Rw):a8 b62 50 [pT n l,pZ row] (ah [pB (l.any fun r=>decide (r = row))]):=by
 refine hpx (nt:=20) Tryz.func50 ?_;refine sx7 ?_;refine m9 0 ?_;refine w_2 ?_;refine d8 (ι:=Unit) kn km (fun _i=>⟨[],[]⟩) (fun _i=>(l.any fun r=>decide (r = row)) = false) ?_ ?_
 ·
  refine c7 ?_;refine awk 0 1 rfl rfl fun hn=>?_;refine w_4 ?_;refine am (ι:=Nat) (ka 1 (ka 2 kn)) (kb 0 km) (fun i=>⟨[(5,some (vI i))],[]⟩) (fun i=>i <= l.length /\ (∀ j,j < i -> decide (l.getD j default = row) = false)) (fun i=>l.length - i) (0) (⟨b2b _,bc⟩) kk ?_;rintro i ⟨hi,hI⟩;refine w_9 ?_;refine hcd (fun h0=>?_) (fun h0=>?_)
  ·
   refine dn ?_;refine qcx (wgx Tryz.func93) (awp (l.getD i default) row) ?_;refine ck ?_;refine hcb (fun h1=>?_) (fun h1=>?_)
   · refine v_4 ?_;exact ⟨ccb (age (p:=fun r=>decide (r = row)) (i:=i) b5c b5d).symm,trivial⟩
   refine w_6 ?_;refine lpz (i + 1) kk ?_;exact ⟨by show i + 1 <= _;omega,az hI b5d⟩
  refine cu ?_;refine ⟨(), ?_, ?_⟩
  · exact agq fun j hj=>hI j b5c
  exact ⟨trivial,trivial⟩
 rintro _ hj;refine v_4 ?_;exact ⟨ccb hj.symm,trivial⟩
end
section
def iz (a b:Rw) (s:AS) (i:Nat):Rw:=(List.range b.length).map fun (j:Nat)=>if j < i /\ ci s (j:Int) = true then a.getD j default else b.getD j default
def mi (a b:Rw) (s:AS) (i:Nat):(iz a b s i).length = b.length:=by unfold iz;simp
section
variable {a b:Rw} {i:Nat} {s:AS}
def a5u {k:Nat} (hk:k < b.length):(iz a b s i).getD k default = if k < i /\ ci s (k:Int) = true then a.getD k default else b.getD k default:=by
 unfold iz;rw [b26,b2p,b38 hk];rfl
def a7j (a b:Rw) (s:AS):b = iz a b s 0:=kx (mi a b s 0).symm fun j hj=>by
 rw [a5u hj,if_neg b5c]
def aaw (a b:Rw) (s:AS):iz a b s b.length = cq a b s:=by
 unfold iz cq;refine b3x fun k hk=>?_;have:=b2v.1 hk;by_cases h:ci s (k:Int) = true
 · rw [if_pos ⟨this,h⟩,if_pos h]
 rw [if_neg (fun e=>h e.2),if_neg h]
def au0 (h:¬ ci s (i:Int) = true):iz a b s i = iz a b s (i + 1):=by
 unfold iz;refine b3x fun k hk=>?_;by_cases h2:k < i /\ ci s (k:Int) = true
 · rw [if_pos h2,if_pos ⟨by omega,h2.2⟩]
 rw [if_neg h2, if_neg fun e => h2 ⟨by rcases b4h (b56 e.1) with h3 | h3
                                       · exact h3
                                       subst h3;exact absurd e.2 h,e.2⟩]
def aw1 (hi:i < b.length) (h:ci s (i:Int) = true):(iz a b s i).set i (a.getD i default) = iz a b s (i + 1):=by
 refine kx (by rw [b4q,mi,mi]) fun j hj=>?_;rw [b4q,mi] at hj;rw [a5u hj];by_cases e:j = i
 · subst e
   rw [j1 (by rw [mi];exact hj),if_pos ⟨by omega,h⟩]
 rw [getD_set_ne' e,a5u hj];by_cases h2:j < i /\ ci s (j:Int) = true
 · rw [if_pos h2,if_pos ⟨by omega,h2.2⟩]
 rw [if_neg h2,if_neg fun e2=>h2 ⟨by omega,e2.2⟩]
def iw (a b:Rw) (s:AS):(cq a b s).length = b.length:=by unfold cq;simp
def oc {n:Nat} {k:Nat} (hi:i < b.length) (h:ci s (i:Int) = true) (hn:n = b.length:=by rfl) (hk:k = i:=by rfl):
 CoO (.arr true 1 3 n (dw (lf zC (iz a b s i)) k 0 [.raw (.int .i64 (a.getD i default))])) (.arr true 1 3 n (lf zC (iz a b s (i + 1)))):=by
 rw [<- aw1 hi h];exact a7e (fun h=>h) (hn.trans (mi a b s i).symm) hk (by rw [mi];exact hi) rfl
def oz {n:Nat} (h:¬ ci s (i:Int) = true):CoO (.arr true 1 3 n (lf zC (iz a b s i))) (.arr true 1 3 n (lf zC (iz a b s (i + 1)))):=by
 rw [<- au0 h];exact CoO.refl _
def ahp {n:Nat} {r:Rw} (h:r.length = n):CoC (.one (.sl n 1 false (lf zC r))) (pZ r):=by subst h;exact CoC.refl _
end
end
section
open Go.Proofs
def a6s:goodFn b62 161:=wgx Tryz.func161
def a69 (n:Nat) (c:Bool) (f:Nat -> Nat -> PV) (hn:n <= 17592186044416) :
 c4 b62 161 [.one (.p (.sl n 1 c f))] [] (.v (.one (.ref 0 n))) [(0, .arr true 1 3 n f)] []:=by
 refine hfx (nt:=8) Tryz.func161 ?_;refine sx7 ?_;refine bg true rfl rfl rfl rfl rfl trivial ?_;refine ck ?_;refine ww (ι:=Bool) (fun c=>⟨[(0,some (b5 (.sl n 1 c f)))],[]⟩) (fun _=>True) ?_ fun c _=>?_
 · rcases b3h n with hz | h0
   · subst hz
     refine hw_exact' 0 rfl fun ad cap hcap=>?_;refine sx7 ?_;(iterate 2 refine bg true rfl rfl rfl rfl rfl trivial ?_);refine ck ?_;refine al ad.isNone rfl (fun hc=>?_) (fun hc=>?_)
     · refine sx7 ?_
       refine bg true rfl rfl rfl rfl rfl trivial ?_;refine ck ?_;refine fe 2 0 true 1 3 f b5i rfl (CoP.sl rfl (.inr rfl) (fun h=>h) fun i j hi _=>absurd hi (b2c i)) (.inr rfl) rfl ?_;refine hrr ?_;exact ⟨_,_,rfl,trivial,CoR.refl _,uu⟩
     refine da ?_;exact ⟨false,trivial,⟨⟨_,rfl,CoP.raw_sl hcap⟩,trivial⟩,trivial⟩
   refine sx7 ?_;refine bg true rfl rfl rfl rfl rfl trivial ?_;refine bg true rfl rfl rfl rfl rfl h0 ?_;refine ck ?_;refine al false rfl (fun hc=>by cases hc) (fun hc=>?_);refine da ?_;exact ⟨c,trivial,tt,trivial⟩
 refine sx7 ?_;refine se 0 rfl rfl rfl rfl rfl rfl trivial ?_;refine bg true rfl rfl rfl rfl rfl trivial ?_;refine wa 0 true rfl rfl rfl rfl rfl rfl ⟨trivial,rfl,rfl,rfl, .inl rfl,by show 0 + n <= 9223372036854775807;omega,by show (0 + n) * 8 <= 140737488355328;omega,fun _=>.inl rfl⟩ ?_;refine bg true rfl rfl rfl rfl rfl trivial ?_;refine ck ?_;refine hrr ?_;refine ⟨_,_,rfl,trivial,CoR.of_eq (by show HR.v (.one (.ref 0 (0 + n))) = _;rw [b2r]),⟨⟨_,rfl, ?_⟩,trivial⟩⟩;exact ⟨fun h=>h,rfl,rfl,(b2r n).symm,fun i j _ _=>CoP.of_eq (by simp [d6])⟩
def am3 (n:Nat) (c:Bool) (f:Nat -> Nat -> PV) (hn:n <= 17592186044416):a8 b62 161 [.one (.sl n 1 c f)] (.v (.one (.sl n 1 false f))) :=
 c4.pure (args:=[.one (.sl n 1 c f)]) (l:=[.one (.ref 0 n)]) (a69 n c f hn) rfl ⟨rfl,trivial⟩
def a6t:goodFn b62 125:=wgx Tryz.func125
def b5e {p:Prop} (h:p:=by (repeat' apply And.intro) <;> first | trivial | exact b27 rfl):p:=h
def aew (n:Int) (l:List Rw) (hl:∀ i,i < l.length -> (l.getD i default).length <= 17592186044416) (hl2:l.length <= 5864062014805):c4 b62 125 [.agg [.p (.raw (.int .i64 n)), .p (rl l)]] [] (.v (.agg [.p (.raw (.int .i64 n)), .ref 901 l.length])) [(901, .arr true 1 97 l.length (lf rC l))] []:=by
 refine hfx (nt:=25) Tryz.func125 ?_;refine sx7 ?_;refine m9 0 ?_;refine m9 1 ?_;refine w_6 ?_;refine m9 2 ?_;refine w_2 ?_;refine er 2 1 901 true 1 97 (lf rC l) b5i rfl rfl (CoP.sl rfl (.inr rfl) (fun h=>h) (fun i j hi _=>absurd hi (b2c i))) (.inr rfl) rfl rfl ?_;refine w_9 ?_;refine ce (ka 2 (ka 3 (ka 10 (ka 11 kn)))) (kb 1 km) (fun i=>⟨[(12,some (vI i))],[(2,some (.box [.p (.raw (.int .i64 n)), .ref 901 i])),(901,some (.arr true 1 97 i (lf rC l)))]⟩) l.length kk ?_;rintro i hi;refine w_5 ?_;refine hcd (fun h0=>?_) (fun h0=>?_)
 · refine mj ?_;refine qcx a6s (am3 (l.getD i default).length false (lf zC (l.getD i default)) (hl i b5c)) ?_;refine m9 3 ?_;refine r9 4 true ?_;refine w_8 ?_;exact lpx (i + 1) ⟨tt,⟨u9,⟨_,rfl,(fk (fun h=>h) (fun j hj=>by obtain rfl:j = 0:=b5c;exact CoP.refl _))⟩,uu⟩⟩
 obtain rfl:i = l.length:=by omega
 refine w_6 ?_;refine hrr ?_;exact ⟨_,_,rfl,b5e,CoR.refl _,uu⟩
def ali (n:Int) (l:List Rw) (hl:∀ i,i < l.length -> (l.getD i default).length <= 17592186044416) (hl2:l.length <= 5864062014805):a8 b62 125 [pT n l] (ah [pT n l]) :=
 c4.pure (args:=[pT n l]) (l:=[.agg [.p (.raw (.int .i64 n)), .ref 901 l.length]]) (aew n l hl hl2) rfl ⟨⟨trivial,rfl,trivial⟩,trivial⟩
def aju (a b:Rw) (s:AS) (h:a.length = b.length) (h16:b.length <= 16):a8 b62 132 [pZ a,pZ b,pA s] (ah [pZ (cq a b s)]):=by
 refine hpx (nt:=30) Tryz.func132 ?_;refine w_7 ?_;refine fc9 a6s (a69 b.length false (lf zC b) b5c) trivial ?_;refine dm ?_;refine ce (ka 0 (ka 2 (ka 7 (ka 12 kn)))) km (fun i=>⟨[(13,some (vI i))],[(0,some (.arr true 1 3 b.length (lf zC (iz a b s i))))]⟩) b.length ⟨tt,⟨⟨_,rfl,(CoO.of_eq (by rw [<- a7j]))⟩,trivial⟩⟩ ?_;rintro i hi;refine w_5 ?_;refine hcd (fun h0=>?_) (fun h0=>?_)
 ·
  refine og ?_;refine hcd (fun h1=>?_) (fun h1=>?_)
  · refine xr ?_;exact lpx (i + 1) ⟨tt,⟨⟨_,rfl,(by first | exact oc b5c ((l4 b5c).1 b5d) | exact oz (fun e=>absurd ((l4 b5c).2 e) b5d))⟩,trivial⟩⟩
  refine w_5 ?_;exact lpx (i + 1) ⟨tt,⟨⟨_,rfl,(by first | exact oc b5c ((l4 b5c).1 b5d) | exact oz (fun e=>absurd ((l4 b5c).2 e) b5d))⟩,trivial⟩⟩
 obtain rfl:i = b.length:=by omega
 refine w_2 ?_;refine bo 7 rfl rfl rfl ?_;refine v_4 ?_;exact ⟨by rw [aaw];exact ahp (iw a b s),trivial⟩
end
end Go.Hx

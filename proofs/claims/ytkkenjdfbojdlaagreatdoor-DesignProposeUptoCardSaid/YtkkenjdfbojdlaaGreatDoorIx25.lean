/- A part of the proof: X1 X2 Ch3 X3 X4 Ch4 X5. -/
import Derived.Test.YtkkenjdfbojdlaaGreatDoorIx24
set_option linter.all false
set_option maxRecDepth 100000
set_option maxHeartbeats 1000000
namespace Go.Hx
section
open Go.Proofs
def bkx (l:List Int) (g k:Nat) (caps:Nat -> PV) (V:Int -> Bool) (hg:goodFn brj g) (hV:∀ x,a6 brj g (pI x :: it caps k 0) (a8 [pB (V x)])):a6 brj 276 [pP (zl l),pP (.fn g k caps)] (a8 [pI (idx V l)]):=by
 refine hpx (nt:=19) Tryz.func276 ?_;refine cg ?_;refine ca 0 rfl fun hn=>?_;refine w_3 ?_;refine db (ι:=Unit) kn km (fun _i=>⟨[],[]⟩) (fun _i=>idx V l = -1) ?_ ?_
 ·
  refine w_7 ?_;refine ae (ι:=Nat) (ka 0 (ka 1 (ka 7 kn))) km (fun i=>⟨[(8,some (vI i))],[]⟩) (fun i=>i <= l.length /\ (∀ j,j < i -> V (l.getD j default) = false)) (fun i=>l.length - i) (0) (⟨bms _,bq⟩) kk ?_;rintro i ⟨hi,hI⟩;refine w_5 ?_;refine hcd (fun h0=>?_) (fun h0=>?_)
  ·
   refine n7 ?_;refine rc rfl rfl rfl rfl rfl rfl hg (hV (l.getD i default)) (CoL.refl _) rfl rfl ?_;refine c6 ?_;refine hcb (fun h1=>?_) (fun h1=>?_)
   · refine v_5 ?_;exact ⟨cci (sq (i:=i) bqx hI h1).symm,trivial⟩
   refine w_5 ?_;refine lpz (i + 1) kk ?_;exact ⟨by show i + 1 <= _;omega,aw hI (h1)⟩
  refine dj ?_;refine ⟨(), ?_, ?_⟩
  · exact sy fun j hj=>hI j bqx
  exact ⟨trivial,trivial⟩
 rintro _ hj;refine v_4 ?_;exact ⟨cci hj.symm,trivial⟩
def bkw (l:List Rw) (g k:Nat) (caps:Nat -> PV) (V:Rw -> Bool) (hg:goodFn brj g) (hV:∀ x,a6 brj g (pZ x :: it caps k 0) (a8 [pB (V x)])):a6 brj 202 [pP (rl l),pP (.fn g k caps)] (a8 [pI (idx V l)]):=by
 refine hpx (nt:=19) Tryz.func202 ?_;refine cg ?_;refine ca 0 rfl fun hn=>?_;refine w_3 ?_;refine db (ι:=Unit) kn km (fun _i=>⟨[],[]⟩) (fun _i=>idx V l = -1) ?_ ?_
 ·
  refine w_7 ?_;refine ae (ι:=Nat) (ka 0 (ka 1 (ka 7 kn))) km (fun i=>⟨[(8,some (vI i))],[]⟩) (fun i=>i <= l.length /\ (∀ j,j < i -> V (l.getD j default) = false)) (fun i=>l.length - i) (0) (⟨bms _,bq⟩) kk ?_;rintro i ⟨hi,hI⟩;refine w_5 ?_;refine hcd (fun h0=>?_) (fun h0=>?_)
  ·
   refine n7 ?_;refine rc rfl rfl rfl rfl rfl rfl hg (hV (l.getD i default)) (CoL.refl _) rfl rfl ?_;refine c6 ?_;refine hcb (fun h1=>?_) (fun h1=>?_)
   · refine v_5 ?_;exact ⟨cci (sq (i:=i) bqx hI h1).symm,trivial⟩
   refine w_5 ?_;refine lpz (i + 1) kk ?_;exact ⟨by show i + 1 <= _;omega,aw hI (h1)⟩
  refine dj ?_;refine ⟨(), ?_, ?_⟩
  · exact sy fun j hj=>hI j bqx
  exact ⟨trivial,trivial⟩
 rintro _ hj;refine v_4 ?_;exact ⟨cci hj.symm,trivial⟩
def bki (l:List Int) (g k:Nat) (caps:Nat -> PV) (V:Int -> Bool) (hg:goodFn brj g) (hV:∀ x,a6 brj g (pI x :: it caps k 0) (a8 [pB (V x)])):a6 brj 250 [pP (zl l),pP (.fn g k caps)] (a8 [pB (l.any V)]):=by
 refine hpx (nt:=9) Tryz.func250 ?_;refine w_8 ?_;refine qcx (wgx Tryz.func276) (bkx l g k caps V hg hV) ?_;refine v_3 ?_;exact ⟨ccb xo,trivial⟩
def bkr (l:List Rw) (g k:Nat) (caps:Nat -> PV) (V:Rw -> Bool) (hg:goodFn brj g) (hV:∀ x,a6 brj g (pZ x :: it caps k 0) (a8 [pB (V x)])):a6 brj 152 [pP (rl l),pP (.fn g k caps)] (a8 [pB (l.any V)]):=by
 refine hpx (nt:=9) Tryz.func152 ?_;refine w_8 ?_;refine qcx (wgx Tryz.func202) (bkw l g k caps V hg hV) ?_;refine v_3 ?_;exact ⟨ccb xo,trivial⟩
def af9:goodFn brj 154:=wgx Tryz.func154
def b12 (a b:Rw):a6 brj 154 [pZ a,pZ b] (a8 [pB (decide (a = b))]):=by
 refine hpx (nt:=26) Tryz.func154 ?_;refine cg ?_;refine ca 0 rfl fun hn0=>?_;refine ca 1 rfl fun hn1=>?_;refine en ?_;refine hcn (fun h0=>?_) (fun h0=>?_)
 · refine v_4 ?_;exact ⟨ccb (decide_eq_false fun e=>by subst e;omega).symm,trivial⟩
 refine d6 ?_;refine db (ι:=Unit) kn km (fun _i=>⟨[],[]⟩) (fun _i=>a = b) ?_ ?_
 ·
  refine w_7 ?_;refine ae (ι:=Nat) (ka 0 (ka 1 (ka 12 kn))) km (fun i=>⟨[(13,some (vI i))],[]⟩) (fun i=>i <= a.length /\ (∀ j,j < i -> decide (a.getD j default = b.getD j default) = true)) (fun i=>a.length - i) (0) (⟨bms _,bq⟩) kk ?_;rintro i ⟨hi,hI⟩;refine w_5 ?_;refine hcd (fun h1=>?_) (fun h1=>?_)
  ·
   refine a82 ?_;refine hcn (fun h2=>?_) (fun h2=>?_)
   · refine v_4 ?_;exact ⟨ccb (decide_eq_false fun e=>by subst e;simp_all).symm,trivial⟩
   refine w_5 ?_;refine lpz (i + 1) kk ?_;exact ⟨by show i + 1 <= _;omega,aw hI (decide_eq_true br9)⟩
  refine dj ?_;refine ⟨(), ?_, ?_⟩
  · exact b4s bqx fun j hj=>hI j bqx
  exact ⟨trivial,trivial⟩
 rintro _ hj;refine v_4 ?_;exact ⟨ccb (decide_eq_true hj).symm,trivial⟩
def bhy (a b:Rw):a6 brj 133 [pZ a,pZ b] (a8 [pB (decide (a = b))]):=by
 refine hpx (nt:=26) Tryz.func133 ?_;refine cg ?_;refine ca 0 rfl fun hn0=>?_;refine ca 1 rfl fun hn1=>?_;refine en ?_;refine hcn (fun h0=>?_) (fun h0=>?_)
 · refine v_4 ?_;exact ⟨ccb (decide_eq_false fun e=>by subst e;omega).symm,trivial⟩
 refine d6 ?_;refine db (ι:=Unit) kn km (fun _i=>⟨[],[]⟩) (fun _i=>a = b) ?_ ?_
 ·
  refine w_5 ?_;refine ae (ι:=Nat) (ka 0 (ka 1 kn)) km (fun i=>⟨[(5,some (vI i))],[]⟩) (fun i=>i <= a.length /\ (∀ j,j < i -> decide (a.getD j default = b.getD j default) = true)) (fun i=>a.length - i) (0) (⟨bms _,bq⟩) kk ?_;rintro i ⟨hi,hI⟩;refine w_8 ?_;refine hcd (fun h1=>?_) (fun h1=>?_)
  ·
   refine pg ?_;refine hcn (fun h2=>?_) (fun h2=>?_)
   · refine v_4 ?_;exact ⟨ccb (decide_eq_false fun e=>by subst e;simp_all).symm,trivial⟩
   refine w_6 ?_;refine lpz (i + 1) kk ?_;exact ⟨by show i + 1 <= _;omega,aw hI (decide_eq_true br9)⟩
  refine dj ?_;refine ⟨(), ?_, ?_⟩
  · exact b4s bqx fun j hj=>hI j bqx
  exact ⟨trivial,trivial⟩
 rintro _ hj;refine v_4 ?_;exact ⟨ccb (decide_eq_true hj).symm,trivial⟩
def b4j (a b:Rw):a6 brj 220 [pZ a,pZ b] (a8 [pI (s8 a b)]):=by
 refine hpx (nt:=36) Tryz.func220 ?_;refine cg ?_;refine ca 0 rfl fun hn0=>?_;refine ca 1 rfl fun hn1=>?_;refine w_3 ?_;refine db (ι:=Unit) (ka 0 (ka 1 kn)) km (fun _i=>⟨[],[]⟩) (fun _i=>∀ j,j < a.length -> j < b.length /\ a.getD j default = b.getD j default) ?_ ?_
 ·
  refine w_7 ?_;refine ae (ι:=Nat) (ka 0 (ka 1 (ka 9 (ka 10 kn)))) km (fun i=>⟨[(11,some (vI i))],[]⟩) (fun i=>i <= a.length /\ (∀ j,j < i -> j < b.length /\ a.getD j default = b.getD j default)) (fun i=>a.length - i) (0) (⟨bms _,bq⟩) kk ?_;rintro i ⟨hi,hI⟩;refine w_5 ?_;refine hcd (fun h0=>?_) (fun h0=>?_)
  ·
   refine a2o ?_;refine hcd (fun h1=>?_) (fun h1=>?_)
   · refine v_4 ?_;exact ⟨cci (baf (i:=i) bqx bqx fun j hj=>(hI j hj).2),trivial⟩
   refine jd ?_;refine qcx (wgx Tryz.func245) (b4w (a.getD i default) (b.getD i default)) ?_;refine w_7 ?_;refine hcn (fun h2=>?_) (fun h2=>?_)
   · refine v_5 ?_;exact ⟨cci (b5x (i:=i) bqx bqx (fun j hj=>(hI j hj).2) bqy),trivial⟩
   refine w_5 ?_;refine lpz (i + 1) kk ?_;exact ⟨by show i + 1 <= _;omega,aw hI (⟨by omega,bc3 bqy⟩)⟩
  refine dj ?_;refine ⟨(), ?_, ?_⟩
  · exact fun j hj=>hI j bqx
  exact kk
 rintro _ hj;refine w_9 ?_;refine hcd (fun h3=>?_) (fun h3=>?_)
 · refine v_4 ?_;exact ⟨cci (b6h bqx fun j h=>(hj j h).2),trivial⟩
 refine v_5 ?_;exact ⟨cci (b9l (bfg fun j h=>(hj j h).1) bqx fun j h=>(hj j h).2),trivial⟩
def b4i (a b:Rw):a6 brj 227 [pZ a,pZ b] (a8 [pB (ltZ a b)]):=by
 refine hpx (nt:=41) Tryz.func227 ?_;refine cg ?_;refine ca 0 rfl fun hn0=>?_;refine ca 1 rfl fun hn1=>?_;refine w_3 ?_;refine db (ι:=Unit) (ka 0 (ka 1 kn)) km (fun _i=>⟨[],[]⟩) (fun _i=>∀ j,j < a.length -> j < b.length -> a.getD j default = b.getD j default) ?_ ?_
 ·
  refine w_5 ?_;refine ae (ι:=Nat) (ka 0 (ka 1 kn)) km (fun i=>⟨[(5,some (vI i))],[]⟩) (fun i=>i <= a.length /\ (∀ j,j < i -> j < b.length /\ a.getD j default = b.getD j default)) (fun i=>a.length - i) (0) (⟨bms _,bq⟩) kk ?_;rintro i ⟨hi,hI⟩;refine w_8 ?_;refine ai rfl rfl (fun r0=>?_) (fun r0=>?_)
  ·
   have h0:=tz1 r0;(iterate 4 refine qy ?_ (hg:=(gtt r0)));refine w_2 ?_;refine aj _ rfl (fun r1=>?_) (fun r1=>?_)
   ·
    have h1:=tz1 (bt r0 r1);refine pg ?_;refine hcn (fun h2=>?_) (fun h2=>?_)
    · refine pw ?_;exact hx8 rfl rfl rfl (⟨ccb (an5 (i:=i) bqx bqx (fun j h=>(hI j h).2) bqy).symm,trivial⟩)
    refine w_6 ?_;refine lpz (i + 1) kk ?_;exact ⟨by show i + 1 <= _;omega,aw hI (⟨by omega,by assumption⟩)⟩
   have h1:=tz2 (bt r0 r1);refine dj ?_;refine ⟨(), ?_, ?_⟩
   · exact fun j h1 h2=>(hI j bqx).2
   exact kk
  have h0:=tz2 r0;(iterate 4 refine k9 (gft r0) ?_);refine rq rfl rfl rfl rfl rfl ?_ (hp:=r0);refine w_3 ?_;refine ⟨(), ?_, ?_⟩
  · exact fun j h1 h2=>(hI j bqx).2
  exact kk
 rintro _ hj;refine v_9 ?_;exact ⟨ccb (by rw [a9y hj,decide_eq_decide];omega),trivial⟩
end
section
open Go.Proofs
abbrev bxZ (a:PV):PV:=.vp 1 fun j=>[a].getD j .any
def bdm (r row:Rw):a6 brj 153 [pZ r,pP (bxZ (zl row))] (a8 [pB (decide (r = row))]):=by
 refine hpx (nt:=7) Tryz.func153 ?_;refine w_8 ?_;refine qcx af9 (b12 _ _) ?_;refine v_2 ?_;exact CoL.refl _
def ahf:goodFn brj 101:=wgx Tryz.func101
def atd (n:Int) (l:List Rw) (row:Rw):a6 brj 101 [pT n l,pZ row] (a8 [pB (l.any fun r=>decide (r = row))]):=by
 refine hpx (nt:=9) Tryz.func101 ?_;refine sx7 ?_;refine m9 0 ?_;refine m9 1 ?_;refine w_3 ?_;refine d8 3 rfl rfl rfl ?_;refine w_4 ?_;refine qcx (wgx Tryz.func152) (bkr l 153 1 (fun i=>[bxZ (zl row)].getD i .any) (fun r=>decide (r = row)) (wgx Tryz.func153) (fun r=>bdm r row)) ?_;refine v_2 ?_;exact CoL.refl _
def bkd (x:Int):a6 brj 251 [pI x] (a8 [pB (decide (x < 0))]):=by
 refine hpx (nt:=5) Tryz.func251 ?_;refine bz ?_;exact hx8 rfl rfl rfl (CoL.refl _)
def a32:goodFn brj 179:=wgx Tryz.func179
def a3s (a b:Rw) (s:AS) (h:b.length = a.length) (h16:a.length <= 16):a6 brj 179 [pZ a,pZ b,pA s] (a8 [pB (lm a b s)]):=by
 refine hpx (nt:=28) Tryz.func179 ?_;refine cg ?_;refine ca 0 rfl fun hn0=>?_;refine ca 1 rfl fun hn1=>?_;refine w_3 ?_;refine db (ι:=Unit) kn km (fun _i=>⟨[],[]⟩) (fun _i=>lm a b s = true) ?_ ?_
 ·
  refine w_5 ?_;refine ae (ι:=Nat) (ka 0 (ka 1 (ka 2 kn))) km (fun i=>⟨[(7,some (vI i))],[]⟩) (fun i=>i <= a.length /\ (∀ j:Nat,j < i -> (d9 s (j:Int) = true -> a.getD j default = b.getD j default))) (fun i=>a.length - i) (0) (⟨bms _,bq⟩) kk ?_;rintro i ⟨hi,hI⟩;refine w_8 ?_;refine hcd (fun h0=>?_) (fun h0=>?_)
  ·
   refine w_7 ?_;refine qcx oq (a2g s (i:Int)) ?_;refine qy ?_;refine ai rfl rfl (fun r1=>?_) (fun r1=>?_)
   ·
    have h1:=r1;(iterate 9 refine qy ?_ (hg:=(gtt r1)));refine w_3 ?_;refine aj _ rfl (fun r2=>?_) (fun r2=>?_)
    · have h2:=tz2 (cu (bt r1 r2));refine v_4 ?_;exact ⟨ccb (aya (i:=i) bqx br9 br9).symm,trivial⟩
    have h2:=tz1 (ct (bt r1 r2));refine w_6 ?_;refine lpz (i + 1) kk ?_;exact ⟨by show i + 1 <= _;omega,aw hI (fun hh=>by simp_all)⟩
   have h1:=r1;(iterate 9 refine k9 (gft r1) ?_);refine rq rfl rfl rfl rfl rfl ?_ (hp:=r1);refine w_9 ?_;refine lpz (i + 1) kk ?_
   exact ⟨by show i + 1 <= _;omega,aw hI (fun hh=>by simp_all)⟩
  refine dj ?_;refine ⟨(), ?_, ?_⟩
  · exact a3r fun j hj=>hI j bqx
  exact ⟨trivial,trivial⟩
 rintro _ hj;refine v_4 ?_;exact ⟨ccb hj.symm,trivial⟩
def a35:goodFn brj 223:=wgx Tryz.func223
def a7r (a b:Rw) (s:AS) (h:b.length = a.length) (h16:a.length <= 16):a6 brj 223 [pZ a,pZ b,pA s] (a8 [pB (lm a b s)]):=by
 refine hpx (nt:=30) Tryz.func223 ?_;refine cg ?_;refine ca 0 rfl fun hn0=>?_;refine ca 1 rfl fun hn1=>?_;refine w_3 ?_;refine db (ι:=Unit) kn km (fun _i=>⟨[],[]⟩) (fun _i=>lm a b s = true) ?_ ?_
 ·
  refine w_7 ?_;refine ae (ι:=Nat) (ka 0 (ka 1 (ka 2 (ka 9 kn)))) km (fun i=>⟨[(10,some (vI i))],[]⟩) (fun i=>i <= a.length /\ (∀ j:Nat,j < i -> (d9 s (j:Int) = true -> a.getD j default = b.getD j default))) (fun i=>a.length - i) (0) (⟨bms _,bq⟩) kk ?_;rintro i ⟨hi,hI⟩;refine w_5 ?_;refine hcd (fun h0=>?_) (fun h0=>?_)
  ·
   refine pg ?_;refine ai rfl rfl (fun r1=>?_) (fun r1=>?_)
   ·
    have h1:=tz1 r1;(iterate 9 refine qy ?_ (hg:=(gtt r1)));refine w_3 ?_;refine aj _ rfl (fun r2=>?_) (fun r2=>?_)
    · have h2:=tz2 (cu (bt r1 r2));refine v_4 ?_;exact ⟨ccb (aya (i:=i) bqx ((ve bqx).1 bqy) bqy).symm,trivial⟩
    have h2:=tz1 (ct (bt r1 r2));refine w_5 ?_;refine lpz (i + 1) kk ?_;exact ⟨by show i + 1 <= _;omega,aw hI (fun hh=>by first | (exact absurd ((ve bqx).2 hh) bqy) | assumption)⟩
   have h1:=tz2 r1;(iterate 9 refine k9 (gft r1) ?_);refine rq rfl rfl rfl rfl rfl ?_ (hp:=r1);refine w_8 ?_;refine lpz (i + 1) kk ?_
   exact ⟨by show i + 1 <= _;omega,aw hI (fun hh=>by first | (exact absurd ((ve bqx).2 hh) bqy) | assumption)⟩
  refine dj ?_;refine ⟨(), ?_, ?_⟩
  · exact a3r fun j hj=>hI j bqx
  exact ⟨trivial,trivial⟩
 rintro _ hj;refine v_4 ?_;exact ⟨ccb hj.symm,trivial⟩
end
section
def br (n:Int) (l m:List Fd):Int:=if b5 n l = 0 then (if 64 < m.length then 3 else if m.all (inU n) = true then 0 else 1) else b5 n l
section
variable {n:Int} {l m:List Fd}
def ayb (h:¬ b5 n l = 0):b5 n l = br n l m:=by unfold br;rw [if_neg h]
def axj (h:b5 n l = 0) (h2:64 < m.length):3 = br n l m:=by unfold br;rw [if_pos h,if_pos h2]
def akj {i:Nat} (h:b5 n l = 0) (h2:¬ 64 < m.length) (hi:i < m.length) (hu:¬ inU n (m.getD i default) = true):1 = br n l m:=by
 unfold br;rw [if_pos h,if_neg h2,if_neg (fun e=>absurd (adp (l:=m) (p:=inU n) hi (bmx.2 hu)) (by rw [e];decide))]
def aza (h:b5 n l = 0) (h2:¬ 64 < m.length) (hu:∀ j,j < m.length -> inU n (m.getD j default) = true):0 = br n l m:=by
 unfold br;rw [if_pos h,if_neg h2,if_pos (ajl hu)]
def l7 (h:br n l m = 0):0 <= n /\ n <= 16 /\ l.length <= 64 /\ l.all (inU n) = true /\ m.length <= 64 /\ m.all (inU n) = true:=by
 unfold br at h;by_cases h1:b5 n l = 0
 · rw [if_pos h1] at h
   obtain ⟨a,b,c,d⟩:=ep h1;by_cases h2:64 < m.length
   · rw [if_pos h2] at h;omega
   rw [if_neg h2] at h;by_cases h3:m.all (inU n) = true
   · exact ⟨a,b,c,d,by omega,h3⟩
   rw [if_neg h3] at h;omega
 rw [if_neg h1] at h;exact absurd h h1
end
section
variable {l:List Rw}
def a7b {n:Int} {i:Nat} (h1:((l.getD i default).length:Int) = n) (h2:(l.getD i default).any (fun x=>decide (x < 0)) = false) (h3:i = 0 \/ ltZ (l.getD (i - 1) default) (l.getD i default) = true):p6 n l i = true:=by
 unfold p6;rw [decide_eq_true h1,h2]
 rcases h3 with h3 | h3
 · rw [decide_eq_true h3];rfl
 rw [h3];simp
def a9s {n:Int} {i:Nat} (h:¬ ((l.getD i default).length:Int) = n):p6 n l i = false:=by unfold p6;rw [decide_eq_false h];rfl
def yy {n:Int} {i:Nat} (h:(l.getD i default).any (fun x=>decide (x < 0)) = true):p6 n l i = false:=by unfold p6;rw [h];simp
def a2z {n:Int} {i:Nat} (h0:0 < i) (h:¬ ltZ (l.getD (i - 1) default) (l.getD i default) = true):p6 n l i = false:=by
 unfold p6;rw [bmx.2 h,decide_eq_false (by omega:¬ i = 0)];simp
def a5r {a b:Rw}:s8 a b < 0 <-> ltZ a b = true:=by
 unfold s8;by_cases e:a = b
 · subst e
   rw [if_pos rfl,wh];exact ⟨fun h=>absurd h bqx,fun h=>by cases h⟩
 rw [if_neg e];by_cases h:ltZ a b = true
 · rw [if_pos h];exact ⟨fun _=>h,fun _=>by omega⟩
 rw [if_neg h];exact ⟨fun h=>absurd h bqx,fun h2=>absurd h2 h⟩
end
end
section
open Go.Proofs
def as3 (n:Int) (s:AS):a6 brj 99 [pI n,pA s] (a8 [pB (decide (sub s (a7 n)))]):=by
 refine hpx (nt:=9) Tryz.func99 ?_;refine w_8 ?_;refine qcx lr (lj n) ?_;refine qcx mf (su _ _) ?_;refine v_2 ?_;exact CoL.refl _
def a2r:goodFn brj 53:=wgx Tryz.func53
def zg (n:Int) (l m:List Fd):a6 brj 53 [pI n,pP (fdl l),pP (fdl m)] (a8 [pI (br n l m)]):=by
 refine hpx (nt:=34) Tryz.func53 ?_;refine cg ?_;refine ca 2 rfl fun hn2=>?_;refine w_8 ?_;refine qcx wl (zz n l) ?_;refine w_7 ?_;refine hcn (fun h0=>?_) (fun h0=>?_)
 · refine v_5 ?_;exact ⟨cci (ayb bqy),trivial⟩
 have hv0:b5 n l = 0:=by assumption
 obtain ⟨hn0,hn16,_,_⟩:=ep hv0;refine w_8 ?_;refine hcd (fun h1=>?_) (fun h1=>?_)
 · refine v_4 ?_;exact ⟨cci (axj hv0 bqx),trivial⟩
 refine d6 ?_;refine db (ι:=Unit) kn km (fun _i=>⟨[],[]⟩) (fun _i=>∀ j,j < m.length -> inU n (m.getD j default) = true) ?_ ?_
 ·
  refine w_7 ?_;refine ae (ι:=Nat) (ka 0 (ka 19 (ka 20 kn))) km (fun i=>⟨[(21,some (vI i))],[]⟩) (fun i=>i <= m.length /\ (∀ j,j < i -> inU n (m.getD j default) = true)) (fun i=>m.length - i) (0) (⟨bms _,bq⟩) kk ?_;rintro i ⟨hi,hI⟩;refine w_5 ?_;refine hcd (fun h2=>?_) (fun h2=>?_)
  ·
   refine w_7 ?_;refine m9 0 ?_;refine jd ?_;refine hcn (fun h3=>?_) (fun h3=>?_)
   · refine v_4 ?_;exact ⟨cci (akj (i:=i) hv0 bqx bqx (fun e=>absurd (a9p.2 e) bqy)),trivial⟩
   refine w_5 ?_;refine lpz (i + 1) kk ?_;exact ⟨by show i + 1 <= _;omega,aw hI (a9p.1 bqy)⟩
  refine dj ?_;refine ⟨(), ?_, ?_⟩
  · exact fun j hj=>hI j bqx
  exact ⟨trivial,trivial⟩
 rintro _ hj;refine v_4 ?_;exact ⟨cci (aza hv0 bqx hj),trivial⟩
def a6f:goodFn brj 44:=wgx Tryz.func44
def a0h (n:Int) (l m:List Fd):a6 brj 44 [pI n,pP (fdl l),pP (fdl m)] (a8 [pI (br n l m)]):=by
 refine hpx (nt:=42) Tryz.func44 ?_;refine cg ?_;refine ca 2 rfl fun hn2=>?_;refine w_8 ?_;refine qcx a2u (z7 n l) ?_;refine w_7 ?_;refine hcn (fun h0=>?_) (fun h0=>?_)
 · refine v_5 ?_;exact ⟨cci (ayb bqy),trivial⟩
 have hv0:b5 n l = 0:=by assumption
 obtain ⟨hn0,hn16,_,_⟩:=ep hv0;refine w_8 ?_;refine hcd (fun h1=>?_) (fun h1=>?_)
 · refine v_4 ?_;exact ⟨cci (axj hv0 bqx),trivial⟩
 refine d6 ?_;refine db (ι:=Unit) kn km (fun _i=>⟨[],[]⟩) (fun _i=>∀ j,j < m.length -> inU n (m.getD j default) = true) ?_ ?_
 ·
  refine w_5 ?_;refine ae (ι:=Nat) (ka 0 (ka 2 kn)) km (fun i=>⟨[(8,some (vI i))],[]⟩) (fun i=>i <= m.length /\ (∀ j,j < i -> inU n (m.getD j default) = true)) (fun i=>m.length - i) (0) (⟨bms _,bq⟩) kk ?_;rintro i ⟨hi,hI⟩;refine w_8 ?_;refine hcd (fun h2=>?_) (fun h2=>?_)
  ·
   refine cq ?_;refine qcx (wgx Tryz.func99) (as3 n _) ?_;refine w_2 ?_;refine ai rfl rfl (fun r3=>?_) (fun r3=>?_)
   ·
    have h3:=cu r3;(iterate 8 refine k9 (gtf r3) ?_);refine rq rfl rfl rfl rfl rfl ?_ (hp:=r3);refine w_6 ?_
    exact hx8 rfl rfl rfl (⟨cci (akj (i:=i) hv0 bqx bqx (fun e=>by rw [ou bqx bqx] at e;simp_all)),trivial⟩)
   have h3:=ct r3;(iterate 6 refine qy ?_ (hg:=(gff r3)));refine qcx (wgx Tryz.func99) (as3 n _) ?_ (hg:=(gff r3));refine qy ?_ (hg:=(gff r3));refine w_2 ?_;refine aj _ rfl (fun r4=>?_) (fun r4=>?_)
   · have h4:=cu (av r3 r4);refine v_4 ?_;exact ⟨cci (akj (i:=i) hv0 bqx bqx (fun e=>by rw [ou bqx bqx] at e;simp_all)),trivial⟩
   have h4:=ct (av r3 r4);refine w_6 ?_;refine lpz (i + 1) kk ?_;exact ⟨by show i + 1 <= _;omega,aw hI ((ou bqx bqx).2 br9)⟩
  refine dj ?_;refine ⟨(), ?_, ?_⟩
  · exact fun j hj=>hI j bqx
  exact ⟨trivial,trivial⟩
 rintro _ hj;refine v_4 ?_;exact ⟨cci (aza hv0 bqx hj),trivial⟩
end
section
open Go.Proofs
def vk (i:Nat):((i:Int) - 1).toNat = i - 1:=by omega
def brf {p:Prop} (h:p:=by first | exact a9s bqy | exact yy bqy | exact a2z bqx (by simp_all [vk])):p:=h
def bba (n:Int) (l:List Rw):a6 brj 222 [pT n l] (a8 [pB (tok n l)]):=by
 refine hpx (nt:=50) Tryz.func222 ?_;refine sx7 ?_;refine m9 0 ?_;refine w_9 ?_;refine ai rfl rfl (fun r0=>?_) (fun r0=>?_)
 ·
  have h0:=tz1 r0;(iterate 3 refine k9 (gtf r0) ?_);refine rq rfl rfl rfl rfl rfl ?_ (hp:=r0);refine qy ?_;(iterate 4 refine k9 rfl ?_);refine w_7 ?_
  exact hx8 rfl rfl rfl (⟨ccb (a3x bqx).symm,trivial⟩)
 have h0:=tz2 r0;(iterate 3 refine qy ?_ (hg:=(gff r0)));refine w_2 ?_;refine ai rfl rfl (fun r1=>?_) (fun r1=>?_)
 ·
  have h1:=tz1 (av r0 r1);(iterate 4 refine k9 (gtf r1) ?_);refine rq rfl rfl rfl rfl rfl ?_ (hp:=r1);refine w_6 ?_
  exact hx8 rfl rfl rfl (⟨ccb (a3x bqx).symm,trivial⟩)
 have h1:=tz2 (av r0 r1);(iterate 4 refine qy ?_ (hg:=(gff r1)));refine w_2 ?_;refine aj _ rfl (fun r2=>?_) (fun r2=>?_)
 · have h2:=tz1 (av r1 r2);refine v_4 ?_;exact ⟨ccb (a3x bqx).symm,trivial⟩
 have h2:=tz2 (av r1 r2);refine bz ?_;refine ae (ι:=Nat) (ka 1 (ka 20 (ka 21 kn))) (kb 0 km) (fun i=>⟨[(22,some (vI i))],[]⟩) (fun i=>i <= l.length /\ (∀ j,j < i -> p6 n l j = true)) (fun i=>l.length - i) (0) (⟨bms _,bq⟩) kk ?_;rintro i ⟨hi,hI⟩;refine w_5 ?_;refine hcd (fun h3=>?_) (fun h3=>?_)
 ·
  refine ao5 ?_;refine ai rfl rfl (fun r4=>?_) (fun r4=>?_)
  ·
   have h4:=tz2 (cu r4);(iterate 2 refine k9 (gtf r4) ?_);refine rq rfl rfl rfl rfl rfl ?_ (hp:=r4);refine w_6 ?_
   exact hx8 rfl rfl rfl (⟨ccb (a5p (i:=i) bqx brf).symm,trivial⟩)
  have h4:=tz1 (ct r4);refine qy ?_ (hg:=(gff r4));refine qcx (wgx Tryz.func250) (bki (l.getD i default) 251 0 (fun _=>.any) (fun x=>decide (x < 0)) (wgx Tryz.func251) (fun x=>bkd x)) ?_ (hg:=(gff r4));refine w_2 ?_;refine aj _ rfl (fun r5=>?_) (fun r5=>?_)
  · have h5:=av r4 r5;refine v_4 ?_;exact ⟨ccb (a5p (i:=i) bqx brf).symm,trivial⟩
  have h5:=av r4 r5;refine w_6 ?_;refine ai rfl rfl (fun r6=>?_) (fun r6=>?_)
  ·
   have h6:=tz1 r6;(iterate 7 refine qy ?_ (hg:=(gtt r6)));refine qcx (wgx Tryz.func220) (b4j (l.getD ((i:Int) - 1).toNat default) (l.getD i default)) ?_ (hg:=(gtt r6));refine qy ?_ (hg:=(gtt r6));refine w_2 ?_
   refine aj _ rfl (fun r7=>?_) (fun r7=>?_)
   · have h7:=tz1 (bt r6 r7);refine v_4 ?_;exact ⟨ccb (a5p (i:=i) bqx (a2z bqx fun e=>absurd (a5r.2 e) (by simp only [vk] at *;omega))).symm,trivial⟩
   have h7:=tz2 (bt r6 r7);refine w_5 ?_;refine lpz (i + 1) kk ?_;exact ⟨by show i + 1 <= _;omega,aw hI (a7b bqy bqy (by first | (exact .inl bqx) | (exact .inr (a5r.1 (by simp only [vk] at *;omega)))))⟩
  have h6:=tz2 r6;(iterate 9 refine k9 (gft r6) ?_);refine rq rfl rfl rfl rfl rfl ?_ (hp:=r6);refine w_7 ?_;refine lpz (i + 1) kk ?_
  exact ⟨by show i + 1 <= _;omega,aw hI (a7b bqy bqy (by first | (exact .inl bqx) | (exact .inr (a5r.1 (by simp only [vk] at *;omega)))))⟩
 refine v_5 ?_;exact ⟨ccb (auc bqx bqx bqx fun j hj=>hI j bqx).symm,trivial⟩
def ahg:goodFn brj 178:=wgx Tryz.func178
def abc (n:Int) (l:List Rw):a6 brj 178 [pT n l] (a8 [pB (tok n l)]):=by
 refine hpx (nt:=69) Tryz.func178 ?_;refine sx7 ?_;refine m9 0 ?_;refine w_9 ?_;refine ai rfl rfl (fun r0=>?_) (fun r0=>?_)
 ·
  have h0:=tz1 r0;(iterate 3 refine k9 (gtf r0) ?_);refine rq rfl rfl rfl rfl rfl ?_ (hp:=r0);refine qy ?_;(iterate 4 refine k9 rfl ?_);refine w_7 ?_
  exact hx8 rfl rfl rfl (⟨ccb (a3x bqx).symm,trivial⟩)
 have h0:=tz2 r0;(iterate 3 refine qy ?_ (hg:=(gff r0)));refine w_2 ?_;refine ai rfl rfl (fun r1=>?_) (fun r1=>?_)
 ·
  have h1:=tz1 (av r0 r1);(iterate 4 refine k9 (gtf r1) ?_);refine rq rfl rfl rfl rfl rfl ?_ (hp:=r1);refine w_6 ?_
  exact hx8 rfl rfl rfl (⟨ccb (a3x bqx).symm,trivial⟩)
 have h1:=tz2 (av r0 r1);(iterate 4 refine qy ?_ (hg:=(gff r1)));refine w_2 ?_;refine aj _ rfl (fun r2=>?_) (fun r2=>?_)
 · have h2:=tz1 (av r1 r2);refine v_4 ?_;exact ⟨ccb (a3x bqx).symm,trivial⟩
 have h2:=tz2 (av r1 r2);refine w_7 ?_;refine ae (ι:=Nat) (ka 1 kn) (kb 0 km) (fun i=>⟨[(3,some (vI i))],[]⟩) (fun i=>i <= l.length /\ (∀ j,j < i -> p6 n l j = true)) (fun i=>l.length - i) (0) (⟨bms _,bq⟩) kk ?_;rintro i ⟨hi,hI⟩;refine w_9 ?_;refine hcd (fun h3=>?_) (fun h3=>?_)
 ·
  refine pg ?_;refine ai rfl rfl (fun r4=>?_) (fun r4=>?_)
  ·
   have h4:=tz2 (cu r4);(iterate 3 refine k9 (gtf r4) ?_);(iterate 13 refine k9 rfl ?_);refine k9 (gtf r4) ?_;refine rq rfl rfl rfl rfl rfl ?_ (hp:=r4);refine w_7 ?_
   exact hx8 rfl rfl rfl (⟨ccb (a5p (i:=i) bqx brf).symm,trivial⟩)
  have h4:=tz1 (ct r4);(iterate 3 refine qy ?_ (hg:=(gff r4)));refine ai rfl rfl (fun r5=>?_) (fun r5=>?_)
  ·
   have h5:=tz1 r5;(iterate 11 refine qy ?_ (hg:=(gtt r5)));refine qcx (wgx Tryz.func227) (b4i (l.getD ((i:Int) - 1).toNat default) (l.getD i default)) ?_ (hg:=(gtt r5));refine qy ?_ (hg:=(gtt r5));refine qy ?_ (hg:=(gff r4));refine w_3 ?_
   refine aj _ rfl (fun r6=>?_) (fun r6=>?_)
   · have h6:=cu (bt r5 (av r4 r6));refine v_4 ?_;exact ⟨ccb (a5p (i:=i) bqx brf).symm,trivial⟩
   have h6:=ct (bt r5 (av r4 r6));refine w_6 ?_;refine ae (ι:=Nat) (ka 1 (ka 3 kn)) (kb 0 km) (fun k=>⟨[(4,some (vI k))],[]⟩) (fun k=>k <= (l.getD i default).length /\ (∀ j,j < k -> decide ((l.getD i default).getD j default < 0) = false)) (fun k=>(l.getD i default).length - k) (0) (⟨bms _,bq⟩) kk ?_;rintro k ⟨hk,hK⟩;refine w_8 ?_;refine hcd (fun h7=>?_) (fun h7=>?_)
   ·
    refine cq ?_;refine rq rfl rfl rfl rfl rfl ?_ (hp:=⟨rfl,by omega,by simp only [bmz];omega⟩);refine w_3 ?_;refine hcd (fun h8=>?_) (fun h8=>?_)
    · refine v_4 ?_;exact ⟨ccb (a5p (i:=i) bqx (yy (ajt (i:=k) bqx (decide_eq_true bqy)))).symm,trivial⟩
    refine w_6 ?_;refine lpz (k + 1) kk ?_;exact ⟨by show k + 1 <= _;omega,aw hK (decide_eq_false bqy)⟩
   refine w_6 ?_;refine lpz (i + 1) kk ?_;exact ⟨by show i + 1 <= _;omega,aw hI (a7b bqy (ajj fun j hj=>hK j bqx) (by first | (exact .inl bqx) | (exact .inr (by simp_all [vk]))))⟩
  have h5:=tz2 r5;(iterate 13 refine k9 (gft r5) ?_);refine rq rfl rfl rfl rfl (gff r4) ?_ (hp:=r5);refine w_3 ?_;refine aj _ rfl (fun e=>Bool.noConfusion ((a3n r4 rfl).symm.trans e)) (fun _=>?_);refine w_6 ?_
  refine ae (ι:=Nat) (ka 1 (ka 3 kn)) (kb 0 km) (fun k=>⟨[(4,some (vI k))],[]⟩) (fun k=>k <= (l.getD i default).length /\ (∀ j,j < k -> decide ((l.getD i default).getD j default < 0) = false)) (fun k=>(l.getD i default).length - k) (0) (⟨bms _,bq⟩) kk ?_;rintro k ⟨hk,hK⟩;refine w_8 ?_;refine hcd (fun h9=>?_) (fun h9=>?_)
  ·
   refine cq ?_;refine rq rfl rfl rfl rfl rfl ?_ (hp:=⟨rfl,by omega,by simp only [bmz];omega⟩);refine w_3 ?_;refine hcd (fun h10=>?_) (fun h10=>?_)
   · refine v_4 ?_;exact ⟨ccb (a5p (i:=i) bqx (yy (ajt (i:=k) bqx (decide_eq_true bqy)))).symm,trivial⟩
   refine w_6 ?_;refine lpz (k + 1) kk ?_;exact ⟨by show k + 1 <= _;omega,aw hK (decide_eq_false bqy)⟩
  refine w_6 ?_;refine lpz (i + 1) kk ?_;exact ⟨by show i + 1 <= _;omega,aw hI (a7b bqy (ajj fun j hj=>hK j bqx) (by first | (exact .inl bqx) | (exact .inr (by simp_all [vk]))))⟩
 refine v_5 ?_;exact ⟨ccb (auc bqx bqx bqx fun j hj=>hI j bqx).symm,trivial⟩
def afb:goodFn brj 175:=wgx Tryz.func175
def ab4 (n:Int) (l:List Rw) (p m:List Fd):a6 brj 175 [pT n l,pP (fdl p),pP (fdl m)] (a8 [pI (if tok n l = true then br n p m else 1)]):=by
 refine hpx (nt:=15) Tryz.func175 ?_;refine sx7 ?_;refine m9 0 ?_;refine w_6 ?_;refine qcx (wgx Tryz.func222) (bba n l) ?_;refine w_2 ?_;refine hcv (fun h0=>?_) (fun h0=>?_)
 · refine v_4 ?_;exact ⟨cci (if_neg br9).symm,trivial⟩
 refine w_7 ?_;refine qcx a2r (zg n p m) ?_;refine v_2 ?_;exact ⟨cci (if_pos br9).symm,trivial⟩
def akv:goodFn brj 69:=wgx Tryz.func69
def ao3 (n:Int) (l:List Rw) (row:Rw):a6 brj 69 [pT n l,pZ row] (a8 [pB (l.any fun r=>decide (r = row))]):=by
 refine hpx (nt:=20) Tryz.func69 ?_;refine sx7 ?_;refine m9 0 ?_;refine w_2 ?_;refine db (ι:=Unit) kn km (fun _i=>⟨[],[]⟩) (fun _i=>(l.any fun r=>decide (r = row)) = false) ?_ ?_
 ·
  refine cg ?_;refine b4y 0 1 rfl rfl fun hn=>?_;refine w_4 ?_;refine ae (ι:=Nat) (ka 1 (ka 2 kn)) (kb 0 km) (fun i=>⟨[(5,some (vI i))],[]⟩) (fun i=>i <= l.length /\ (∀ j,j < i -> decide (l.getD j default = row) = false)) (fun i=>l.length - i) (0) (⟨bms _,bq⟩) kk ?_;rintro i ⟨hi,hI⟩;refine w_9 ?_;refine hcd (fun h0=>?_) (fun h0=>?_)
  ·
   refine cq ?_;refine qcx (wgx Tryz.func133) (bhy (l.getD i default) row) ?_;refine c6 ?_;refine hcb (fun h1=>?_) (fun h1=>?_)
   · refine v_4 ?_;exact ⟨ccb (ajt (p:=fun r=>decide (r = row)) (i:=i) bqx bqy).symm,trivial⟩
   refine w_6 ?_;refine lpz (i + 1) kk ?_;exact ⟨by show i + 1 <= _;omega,aw hI bqy⟩
  refine dj ?_;refine ⟨(), ?_, ?_⟩
  · exact ajj fun j hj=>hI j bqx
  exact ⟨trivial,trivial⟩
 rintro _ hj;refine v_4 ?_;exact ⟨ccb hj.symm,trivial⟩
end
section
def mt (a b:Rw) (s:AS) (i:Nat):Rw:=(List.range b.length).map fun (j:Nat)=>if j < i /\ d9 s (j:Int) = true then a.getD j default else b.getD j default
def te (a b:Rw) (s:AS) (i:Nat):(mt a b s i).length = b.length:=by unfold mt;simp
section
variable {a b:Rw} {i:Nat} {s:AS}
def agq {k:Nat} (hk:k < b.length):(mt a b s i).getD k default = if k < i /\ d9 s (k:Int) = true then a.getD k default else b.getD k default:=by
 unfold mt;rw [bmm,bnc,boa hk];rfl
def ain (a b:Rw) (s:AS):b = mt a b s 0:=oz (te a b s 0).symm fun j hj=>by
 rw [agq hj,if_neg bqx]
def akn (a b:Rw) (s:AS):mt a b s b.length = dy a b s:=by
 unfold mt dy;refine bp2 fun k hk=>?_;have:=bn3.1 hk;by_cases h:d9 s (k:Int) = true
 · rw [if_pos ⟨this,h⟩,if_pos h]
 rw [if_neg (fun e=>h e.2),if_neg h]
def bgx (h:¬ d9 s (i:Int) = true):mt a b s i = mt a b s (i + 1):=by
 unfold mt;refine bp2 fun k hk=>?_;by_cases h2:k < i /\ d9 s (k:Int) = true
 · rw [if_pos h2,if_pos ⟨by omega,h2.2⟩]
 rw [if_neg h2, if_neg fun e => h2 ⟨by rcases bp6 (bpf e.1) with h3 | h3
                                       · exact h3
                                       subst h3;exact absurd e.2 h,e.2⟩]
def bgf (hi:i < b.length) (h:d9 s (i:Int) = true):(mt a b s i).set i (a.getD i default) = mt a b s (i + 1):=by
 refine oz (by rw [bp0,te,te]) fun j hj=>?_;rw [bp0,te] at hj;rw [agq hj];by_cases e:j = i
 · subst e
   rw [ov (by rw [te];exact hj),if_pos ⟨by omega,h⟩]
 rw [getD_set_ne' e,agq hj];by_cases h2:j < i /\ d9 s (j:Int) = true
 · rw [if_pos h2,if_pos ⟨by omega,h2.2⟩]
 rw [if_neg h2,if_neg fun e2=>h2 ⟨by omega,e2.2⟩]
def py (a b:Rw) (s:AS):(dy a b s).length = b.length:=by unfold dy;simp
def vt {n:Nat} {k:Nat} (hi:i < b.length) (h:d9 s (i:Int) = true) (hn:n = b.length:=by rfl) (hk:k = i:=by rfl):
 CoO (.arr true 1 3 n (eu (lf zC (mt a b s i)) k 0 [.raw (.int .i64 (a.getD i default))])) (.arr true 1 3 n (lf zC (mt a b s (i + 1)))):=by
 rw [<- bgf hi h];exact ar9 (fun h=>h) (hn.trans (te a b s i).symm) hk (by rw [te];exact hi) rfl
def wg {n:Nat} (h:¬ d9 s (i:Int) = true):CoO (.arr true 1 3 n (lf zC (mt a b s i))) (.arr true 1 3 n (lf zC (mt a b s (i + 1)))):=by
 rw [<- bgx h];exact CoO.refl _
def av8 {n:Nat} {r:Rw} (h:r.length = n):CoC (.one (.sl n 1 false (lf zC r))) (pZ r):=by subst h;exact CoC.refl _
end
end
section
open Go.Proofs
def ah1:goodFn brj 237:=wgx Tryz.func237
def ah4 (n:Nat) (c:Bool) (f:Nat -> Nat -> PV) (hn:n <= 17592186044416) :
 cb brj 237 [.one (.p (.sl n 1 c f))] [] (.v (.one (.ref 0 n))) [(0, .arr true 1 3 n f)] []:=by
 refine hfx (nt:=8) Tryz.func237 ?_;refine sx7 ?_;refine du true rfl rfl rfl rfl rfl trivial ?_;refine c6 ?_;refine a9f (ι:=Bool) (fun c=>⟨[(0,some (bp (.sl n 1 c f)))],[]⟩) (fun _=>True) ?_ fun c _=>?_
 · rcases bon n with hz | h0
   · subst hz
     refine hw_exact' 0 rfl fun ad cap hcap=>?_;refine sx7 ?_;(iterate 2 refine du true rfl rfl rfl rfl rfl trivial ?_);refine c6 ?_;refine aj ad.isNone rfl (fun hc=>?_) (fun hc=>?_)
     · refine sx7 ?_
       refine du true rfl rfl rfl rfl rfl trivial ?_;refine c6 ?_;refine bw 2 0 true 1 3 f br2 rfl (CoP.sl rfl (.inr rfl) (fun h=>h) fun i j hi _=>absurd hi (bmq i)) (.inr rfl) rfl ?_;refine hrr ?_;exact ⟨_,_,rfl,trivial,CoR.refl _,uu⟩
     refine d6 ?_;exact ⟨false,trivial,⟨⟨_,rfl,CoP.raw_sl hcap⟩,trivial⟩,trivial⟩
   refine sx7 ?_;refine du true rfl rfl rfl rfl rfl trivial ?_;refine du true rfl rfl rfl rfl rfl h0 ?_;refine c6 ?_;refine aj false rfl (fun hc=>by cases hc) (fun hc=>?_);refine d6 ?_;exact ⟨c,trivial,tt,trivial⟩
 refine sx7 ?_;refine a3o 0 rfl rfl rfl rfl rfl rfl trivial ?_;refine du true rfl rfl rfl rfl rfl trivial ?_;refine a6a 0 true rfl rfl rfl rfl rfl rfl ⟨trivial,rfl,rfl,rfl, .inl rfl,by show 0 + n <= 9223372036854775807;omega,by show (0 + n) * 8 <= 140737488355328;omega,fun _=>.inl rfl⟩ ?_;refine du true rfl rfl rfl rfl rfl trivial ?_;refine c6 ?_;refine hrr ?_;refine ⟨_,_,rfl,trivial,CoR.of_eq (by show HR.v (.one (.ref 0 (0 + n))) = _;rw [bnk]),⟨⟨_,rfl, ?_⟩,trivial⟩⟩;exact ⟨fun h=>h,rfl,rfl,(bnk n).symm,fun i j _ _=>CoP.of_eq (by simp [fm])⟩
def b2i (n:Nat) (c:Bool) (f:Nat -> Nat -> PV) (hn:n <= 17592186044416):a6 brj 237 [.one (.sl n 1 c f)] (.v (.one (.sl n 1 false f))) :=
 cb.pure (args:=[.one (.sl n 1 c f)]) (l:=[.one (.ref 0 n)]) (ah4 n c f hn) rfl ⟨rfl,trivial⟩
def afv:goodFn brj 200:=wgx Tryz.func200
def aso (n:Int) (l:List Rw) (hl:∀ i,i < l.length -> (l.getD i default).length <= 17592186044416) (hl2:l.length <= 5864062014805):cb brj 200 [.agg [.p (.raw (.int .i64 n)), .p (rl l)]] [] (.v (.agg [.p (.raw (.int .i64 n)), .ref 901 l.length])) [(901, .arr true 1 84 l.length (lf rC l))] []:=by
 refine hfx (nt:=25) Tryz.func200 ?_;refine sx7 ?_;refine m9 0 ?_;refine m9 1 ?_;refine w_6 ?_;refine m9 2 ?_;refine w_2 ?_;refine sn 2 1 901 true 1 84 (lf rC l) br2 rfl rfl (CoP.sl rfl (.inr rfl) (fun h=>h) (fun i j hi _=>absurd hi (bmq i))) (.inr rfl) rfl rfl ?_;refine w_9 ?_;refine b7 (ka 2 (ka 3 (ka 10 (ka 11 kn)))) (kb 1 km) (fun i=>⟨[(12,some (vI i))],[(2,some (.box [.p (.raw (.int .i64 n)), .ref 901 i])),(901,some (.arr true 1 84 i (lf rC l)))]⟩) l.length kk ?_;rintro i hi;refine w_5 ?_;refine hcd (fun h0=>?_) (fun h0=>?_)
 · refine jd ?_;refine qcx ah1 (b2i (l.getD i default).length false (lf zC (l.getD i default)) (hl i bqx)) ?_;refine m9 3 ?_;refine r9 4 true ?_;refine w_8 ?_;exact lpx (i + 1) ⟨tt,⟨u9,⟨_,rfl,(rt (fun h=>h) (fun j hj=>by obtain rfl:j = 0:=bqx;exact CoP.refl _))⟩,uu⟩⟩
 obtain rfl:i = l.length:=by omega
 refine w_6 ?_;refine hrr ?_;exact ⟨_,_,rfl,bqz,CoR.refl _,uu⟩
def b07 (n:Int) (l:List Rw) (hl:∀ i,i < l.length -> (l.getD i default).length <= 17592186044416) (hl2:l.length <= 5864062014805):a6 brj 200 [pT n l] (a8 [pT n l]) :=
 cb.pure (args:=[pT n l]) (l:=[.agg [.p (.raw (.int .i64 n)), .ref 901 l.length]]) (aso n l hl hl2) rfl ⟨⟨trivial,rfl,trivial⟩,trivial⟩
def awv (a b:Rw) (s:AS) (h:a.length = b.length) (h16:b.length <= 16):a6 brj 226 [pZ a,pZ b,pA s] (a8 [pZ (dy a b s)]):=by
 refine hpx (nt:=30) Tryz.func226 ?_;refine w_7 ?_;refine fc9 ah1 (ah4 b.length false (lf zC b) bqx) trivial ?_;refine bz ?_;refine b7 (ka 0 (ka 2 (ka 7 (ka 12 kn)))) km (fun i=>⟨[(13,some (vI i))],[(0,some (.arr true 1 3 b.length (lf zC (mt a b s i))))]⟩) b.length ⟨tt,⟨⟨_,rfl,(CoO.of_eq (by rw [<- ain]))⟩,trivial⟩⟩ ?_;rintro i hi;refine w_5 ?_;refine hcd (fun h0=>?_) (fun h0=>?_)
 ·
  refine pg ?_;refine hcd (fun h1=>?_) (fun h1=>?_)
  · refine pw ?_;exact lpx (i + 1) ⟨tt,⟨⟨_,rfl,(by first | exact vt bqx ((ve bqx).1 bqy) | exact wg (fun e=>absurd ((ve bqx).2 e) bqy))⟩,trivial⟩⟩
  refine w_5 ?_;exact lpx (i + 1) ⟨tt,⟨⟨_,rfl,(by first | exact vt bqx ((ve bqx).1 bqy) | exact wg (fun e=>absurd ((ve bqx).2 e) bqy))⟩,trivial⟩⟩
 obtain rfl:i = b.length:=by omega
 refine w_2 ?_;refine al 7 rfl rfl rfl ?_;refine v_4 ?_;exact ⟨by rw [akn];exact av8 (py a b s),trivial⟩
end
end Go.Hx

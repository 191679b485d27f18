/- A part of the proof: Cs5 V5 Cs2 Cs6. -/
import Derived.Lib.TrailingZeros
import Derived.Test.YtkkenjdfbojdlaaGreatDoorMx15
set_option linter.all false
set_option maxRecDepth 100000
set_option maxHeartbeats 1000000
namespace Go.Hx
section
def bw (s:AS) (i:Int):Bool:=decide (0 <= i /\ i < 32) && s.getLsbD i.toNat
def cb {s:AS} {i:Nat} (h:i < 32):bw s i = s.getLsbD i:=by
 unfold bw;rw [decide_eq_true bsq];simp
def akk {s:AS} {i:Int} (h0:0 <= i) (h1:i < 32):decide (ap .and .u32 ((asI s).fdiv (2 ^ (min i.toNat 32))) 1 = 1) = bw s i:=by
 unfold bw;rw [zq,show (1:Int) = asI 1 from rfl,gk,decide_eq_true (show 0 <= i /\ i < 32 from ⟨h0,h1⟩),bq1]
 have e:asI (s >>> i.toNat &&& 1) = asI 1 <-> s.getLsbD i.toNat = true:=by
  rw [ck];constructor
  · intro h
    have:=congrArg (fun x:AS=>x.getLsbD 0) h;simpa using this
  intro h;apply bpx;intro k hk;have h1:(1:AS).getLsbD k = decide (k = 0):=by have:=ey 0 k hk;simpa using this
  rw [boh,br7,h1];by_cases hk0:k = 0
  · subst hk0;simp [h]
  simp [hk0]
 cases hb:s.getLsbD i.toNat with
 | true=>exact decide_eq_true (e.2 hb)
 | false=>exact decide_eq_false fun h=>by rw [e.1 h] at hb;cases hb
def zb {s:AS} {i:Int} (h:¬ (0 <= i /\ i < 32)):bw s i = false:=by
 unfold bw;rw [decide_eq_false h];rfl
def ar6 {n:Nat} (h:n <= 32):ky n = BitVec.ofNat 32 (2 ^ n - 1):=by
 apply bpx;intro k hk;rw [ly n k hk,BitVec.getLsbD_ofNat,Nat.testBit_two_pow_sub_one];simp [hk]
def abe {n:Nat} (h:n <= 32):(ky n).toNat = 2 ^ n - 1:=by
 have h2:2 ^ n <= 2 ^ 32:=bpm bsq h;have h3:0 < 2 ^ n:=bsb n;rw [ar6 h,bsc,br8 bsq]
section
variable {n:Int}
def f8 {l:List Fd} (h:au n l = 0):0 <= n /\ n <= 16 /\ l.length <= 64 /\ l.all (inU n) = true:=by
 unfold au at h;split at h
 · cases h
 split at h
 · cases h
 split at h
 · rename_i h1 h2 h3
   exact ⟨by omega,by omega,by omega,h3⟩
 cases h
def u6 (h0:0 <= n) (h1:n <= 16):IntKind.wrap .u32 (1 * 2 ^ (min n.toNat 32)) - 1 = asI (a6 n):=by
 have h2:2 ^ n.toNat <= 2 ^ 16:=bpm bsq bsq;have h3:0 < 2 ^ n.toNat:=bsb _;rw [show IntKind.wrap .u32 (1 * 2 ^ (min n.toNat 32)) = asI ((1:AS) <<< n.toNat) from al1 1 n.toNat];unfold a6 asI;rw [bq4 bsq,abe bsq,BitVec.toNat_shiftLeft,Nat.shiftLeft_eq];rw [show (1:AS).toNat = 1 from rfl,Nat.one_mul,br8 bsq];omega
def avg {s:AS} (h0:0 <= n) (h1:n <= 16):(asI s).fdiv (2 ^ (min n.toNat 32)) = 0 <-> sub s (a6 n):=by
 rw [zq,show (0:Int) = asI 0 from rfl,ck];unfold a6;rw [bq4 bsq];exact (wd bsq).symm
def xq (h0:0 <= n) (h1:n <= 16):0 <= IntKind.wrap .u32 (1 * 2 ^ (min n.toNat 32)) - 1:=by rw [u6 h0 h1];exact a7h _
def vg (h0:0 <= n) (h1:n <= 16):IntKind.wrap .u32 (1 * 2 ^ (min n.toNat 32)) - 1 <= 4294967295:=by rw [u6 h0 h1];have:=ady (a6 n);omega
def f5 (n:Int) (l:List Fd) (s:AS):Bool:=decide (au n l = 0 /\ sub s (a6 n) /\ clo l s = a6 n)
end
section
variable {n:Int} {l:List Fd} {s:AS}
def av2 (h:¬ au n l = 0):f5 n l s = false:=decide_eq_false fun e=>h e.1
def b5i (h:au n l = 0) (h2:(asI s).fdiv (2 ^ (min n.toNat 32)) = 0):decide (asI (clo l s) = asI (a6 n)) = f5 n l s:=by
 have hv:=f8 h;have h3:=(avg hv.1 hv.2.1).1 h2;exact decide_eq_decide.2 ⟨fun e=>⟨h,h3,ck.1 e⟩,fun e=>congrArg asI e.2.2⟩
def avu (h:au n l = 0) (h2:¬ (asI s).fdiv (2 ^ (min n.toNat 32)) = 0):f5 n l s = false:=by
 have hv:=f8 h;exact decide_eq_false fun e=>h2 ((avg hv.1 hv.2.1).2 e.2.1)
end
def fc (n:Int) (l:List Fd) (m:Int):Int:=if au n l = 0 then (if m < n then 3 else 0) else au n l
structure Dp where
 l:BitVec 8
 r:BitVec 8
deriving Inhabited
def Dp.c (d:Dp):Nat -> PV
 | 0=>.raw (.int .u8 (d.l.toNat:Int))
 | 1=>.raw (.int .u8 (d.r.toNat:Int))
 | _=>.any
abbrev dpl (l:List Dp):PV:=psl 2 Dp.c l
def Dp.fd (n:Int) (d:Dp):Fd:=⟨d.l.setWidth 32 &&& a6 n,d.r.setWidth 32 &&& a6 n⟩
def a7w (b:BitVec 8) (t:AS):ap .and .u32 (b.toNat:Int) (asI t) = asI (b.setWidth 32 &&& t):=by
 have h:=b.isLt
 have e:asI (b.setWidth 32) = (b.toNat:Int):=by
  unfold asI;rw [BitVec.toNat_setWidth,br8 bsq]
 rw [<- gk,e]
end
section
open Go.Proofs
def a0h:goodFn btb 123:=wgx Tryz.func123
def agk (s:AS) (i:Int):a7 btb 123 [pA s,pI i] (aa [pB (bw s i)]):=by
 refine hpx (nt:=18) Tryz.func123 ?_;refine w_9 ?_;refine ai rfl rfl (fun r0=>?_) (fun r0=>?_)
 ·
  have h0:=tz1 r0;(iterate 2 refine qy ?_ (hg:=(gtt r0)));refine w_2 ?_;refine ai rfl rfl (fun r1=>?_) (fun r1=>?_)
  ·
   have h1:=tz1 (bq r0 r1);(iterate 5 refine qy ?_ (hg:=(gtt r1)));refine w_3 ?_
   exact hx8 rfl rfl rfl (⟨ccb (by first | exact dx bsr (akk bsq bsq) | exact (zb bsq).symm),trivial⟩)
  have h1:=tz2 (bq r0 r1);(iterate 5 refine k9 (gft r1) ?_);refine w_3 ?_
  exact hx8 rfl rfl rfl (⟨ccb (by first | exact dx bsr (akk bsq bsq) | exact (zb bsq).symm),trivial⟩)
 have h0:=tz2 r0;(iterate 2 refine k9 (gft r0) ?_);refine w_2 ?_;(iterate 5 refine k9 rfl ?_);refine w_3 ?_
 exact hx8 rfl rfl rfl (⟨ccb (by first | exact dx bsr (akk bsq bsq) | exact (zb bsq).symm),trivial⟩)
def bgn (n:Int) (h0:0 <= n) (h1:n <= 16):a7 btb 136 [pI n] (aa [pA (a6 n)]):=by
 refine hpx (nt:=6) Tryz.func136 ?_;refine w_8 ?_;refine rq rfl rfl rfl rfl rfl ?_ (hp:=⟨xq h0 h1,vg h0 h1⟩);refine v_2 ?_;exact ⟨cci (u6 h0 h1),trivial⟩
def beb (n:Int) (h0:0 <= n) (h1:n <= 16):a7 btb 74 [pI n] (aa [pA (a6 n)]):=by
 refine hpx (nt:=6) Tryz.func74 ?_;refine w_8 ?_;refine rq rfl rfl rfl rfl rfl ?_ (hp:=⟨xq h0 h1,vg h0 h1⟩);refine v_2 ?_;exact ⟨cci (u6 h0 h1),trivial⟩
def amz:goodFn btb 77:=wgx Tryz.func77
def aug (n:Int) (h0:0 <= n) (h1:n <= 16):a7 btb 77 [pI n] (aa [pA (a6 n)]):=by
 refine hpx (nt:=6) Tryz.func77 ?_;refine w_8 ?_;refine rq rfl rfl rfl rfl rfl ?_ (hp:=⟨xq h0 h1,vg h0 h1⟩);refine v_2 ?_;exact ⟨cci (u6 h0 h1),trivial⟩
def al9:goodFn btb 83:=wgx Tryz.func83
def b4o (l:List Fd) (s p:AS):a7 btb 83 [pP (fdl l),pA s,pA p] (aa [pB (decide (sub p (clo l s)))]):=by
 refine hpx (nt:=12) Tryz.func83 ?_;refine w_9 ?_;refine qcx aa1 (a97 l s) ?_;refine qcx qq (ye p (clo l s)) ?_;refine v_2 ?_;exact CoL.refl _
def bta {p:Prop} (h:p:=by unfold fc;first | (rw [if_neg bsr]) | (rw [if_pos bsq,if_pos bsq]) | (rw [if_pos bsq,if_neg bsq])):p:=h
def bel (n:Int) (l:List Fd):a7 btb 76 [pI n,pP (fdl l)] (aa [pI (fc n l 8)]):=by
 refine hpx (nt:=14) Tryz.func76 ?_;refine w_9 ?_;refine qcx xn (a1e n l) ?_;refine w_7 ?_;refine hcn (fun h0=>?_) (fun h0=>?_)
 · refine v_5 ?_;exact ⟨cci bta,trivial⟩
 refine w_7 ?_;refine hcd (fun h1=>?_) (fun h1=>?_)
 · refine v_4 ?_;exact ⟨cci bta,trivial⟩
 refine v_5 ?_;exact ⟨cci bta,trivial⟩
def aea:goodFn btb 72:=wgx Tryz.func72
def akb (n:Int) (l:List Fd) (s:AS):a7 btb 72 [pI n,pP (fdl l),pA s] (aa [pB (f5 n l s)]):=by
 refine hpx (nt:=25) Tryz.func72 ?_;refine w_8 ?_;refine qcx xn (a1e n l) ?_;refine w_2 ?_;refine ai rfl rfl (fun r0=>?_) (fun r0=>?_)
 ·
  have h0:=tz1 r0;obtain ⟨hv0,hv1,_,_⟩:=f8 h0;(iterate 4 refine qy ?_ (hg:=(gtt r0)));refine w_2 ?_;refine ai rfl rfl (fun r1=>?_) (fun r1=>?_)
  ·
   have h1:=tz1 (bq r0 r1);(iterate 2 refine qy ?_ (hg:=(gtt r1)));refine qcx vr (yr l s) ?_ (hg:=(gtt r1));refine qy ?_ (hg:=(gtt r1))
   refine qcx (wgx Tryz.func136) (bgn n (f8 bsr).1 (f8 bsr).2.1) ?_ (hg:=(gtt r1));refine qy ?_ (hg:=(gtt r1));refine v_3 ?_;exact ⟨ccb (by first | exact dx bsr (b5i bsr bsr) | exact (av2 bsr).symm | exact (avu bsr bsr).symm),trivial⟩
  have h1:=tz2 (bq r0 r1);(iterate 6 refine k9 (gft r1) ?_);refine w_3 ?_
  exact hx8 rfl rfl rfl (⟨ccb (by first | exact dx bsr (b5i bsr bsr) | exact (av2 bsr).symm | exact (avu bsr bsr).symm),trivial⟩)
 have h0:=tz2 r0;(iterate 4 refine k9 (gft r0) ?_);refine w_2 ?_;(iterate 6 refine k9 rfl ?_);refine w_3 ?_
 exact hx8 rfl rfl rfl (⟨ccb (by first | exact dx bsr (b5i bsr bsr) | exact (av2 bsr).symm | exact (avu bsr bsr).symm),trivial⟩)
end
section
def bsz (s:AS):Nat:=(List.range 32).countP fun i=>s.getLsbD i
def bef (a b:AS):Bool:=decide (bsz a < bsz b) || (decide (bsz a = bsz b) && decide (a.toNat < b.toNat))
def a3s (a:AS):bef a a = false:=by simp [bef]
def p8 {a b:AS}:bef a b = true <-> bsz a < bsz b \/ (bsz a = bsz b /\ a.toNat < b.toNat):=by simp [bef]
def vb {a b c:AS} (h:bef a b = true) (k:bef b c = true):bef a c = true:=by
 rw [p8] at *;omega
def aan {a b:AS} (h:a ≠ b):bef a b = true \/ bef b a = true:=by
 have hn:a.toNat ≠ b.toNat:=fun e=>h (bp8 e);rw [p8,p8];omega
def b34 {a b:AS} (h:bef a b = true):bef b a = false:=by
 rw [bol];intro k;have:=vb h k;rw [a3s] at this;cases this
def t8 (l:List AS):Prop:=l.Pairwise fun a b=>bef a b = true
def tw:∀ {l k:List AS},t8 l -> t8 k -> (∀ x,x ∈ l <-> x ∈ k) -> l = k
 | [],[],_,_,_=>rfl
 | [],y :: k,_,_,h=>absurd ((h y).2 (bp9 ..)) bst
 | x :: l,[],_,_,h=>absurd ((h x).1 (bp9 ..)) bst
 | x :: l,y :: k,hl,hk,h=>by
  obtain ⟨h1,h2⟩:=bpi.1 hl;obtain ⟨k1,k2⟩:=bpi.1 hk
  have e:x = y:=by
   rcases bok.1 ((h x).1 (bp9 ..)) with e | hx
   · exact e
   rcases bok.1 ((h y).2 (bp9 ..)) with e | hy
   · exact e.symm
   have:=b34 (k1 x hx);rw [h1 y hy] at this;cases this
  subst e;congr 1;refine tw h2 k2 fun z=>?_;constructor
  · intro hz
    rcases bok.1 ((h z).1 (bpg _ hz)) with e | hz'
    · subst e
      have:=h1 z hz;rw [a3s] at this;cases this
    exact hz'
  intro hz
  rcases bok.1 ((h z).2 (bpg _ hz)) with e | hz'
  · subst e
    have:=k1 z hz;rw [a3s] at this;cases this
  exact hz'
def o3 (x:AS):List AS -> List AS
 | []=>[x]
 | y :: l=>if x = y then y :: l else if bef x y = true then x :: y :: l else y :: o3 x l
def a1m {x z:AS}:∀ {l:List AS},z ∈ o3 x l <-> z = x \/ z ∈ l
 | []=>by simp [o3]
 | y :: l=>by
  unfold o3;split
  · rename_i e
    subst e;simp
  split
  · simp
  rw [bok,a1m,bok];constructor
  · rintro (h | h | h) <;> simp [h]
  rintro (h | h | h) <;> simp [h]
def a1z {x:AS}:∀ {l:List AS},t8 l -> t8 (o3 x l)
 | [],_=>by simp [o3,t8]
 | y :: l,h=>by
  obtain ⟨h1,h2⟩:=bpi.1 h;unfold o3;split
  · exact h
  split
  · rename_i hxy
    refine bpi.2 ⟨fun z hz=>?_,h⟩
    rcases bok.1 hz with rfl | hz
    · exact hxy
    exact vb hxy (h1 z hz)
  rename_i hne hxy;refine bpi.2 ⟨fun z hz=>?_,a1z h2⟩
  rcases a1m.1 hz with rfl | hz
  · exact (aan hne).resolve_left hxy
  exact h1 z hz
def ord (l:List AS):List AS:=l.foldl (fun o x=>o3 x o) []
def afx:∀ {l o:List AS},t8 o -> t8 (l.foldl (fun o x=>o3 x o) o) /\ ∀ z,z ∈ l.foldl (fun o x=>o3 x o) o <-> z ∈ o \/ z ∈ l
 | [],o,h=>⟨h,fun z=>by simp⟩
 | x :: l,o,h=>by
  obtain ⟨h1,h2⟩:=afx (l:=l) (a1z (x:=x) h);refine ⟨h1,fun z=>?_⟩;show z ∈ l.foldl (fun o x=>o3 x o) (o3 x o) <-> _;rw [h2 z,a1m,bok];constructor
  · rintro ((h | h) | h) <;> simp [h]
  rintro (h | h | h) <;> simp [h]
def ja (l:List AS):t8 (ord l):=(afx (o:=[]) List.Pairwise.nil).1
def gn {l:List AS} {z:AS}:z ∈ ord l <-> z ∈ l:=by
 show z ∈ l.foldl (fun o x=>o3 x o) [] <-> _;rw [(afx (l:=l) (o:=[]) List.Pairwise.nil).2 z];simp
def apx {l k:List AS} (hk:t8 k) (h:∀ z,z ∈ k <-> z ∈ l):k = ord l:=tw hk (ja l) fun z=>by rw [h z,gn]
end
section
def al (s:AS):List Nat:=(List.range 32).filter fun i=>s.getLsbD i
def iC:Nat -> Nat -> PV:=fun n _=>.raw (.int .i64 (n:Int))
abbrev il (l:List Nat):PV:=psl 1 iC l
def vc (s:AS):bsz s = (al s).length:=by unfold bsz al;rw [List.countP_eq_length_filter]
section
variable {s:AS}
def gi {i:Nat}:i ∈ al s <-> i < 32 /\ s.getLsbD i = true:=by simp [al,bpq,bor]
def a8u {p:Nat -> Bool} {t:Nat}:∀ {l:List Nat},l.Pairwise (· < ·) -> t ∈ l -> p t = true -> (∀ k,k < t -> p k = false) -> l.filter p = t :: l.filter fun k=>decide (k ≠ t) && p k
 | [],_,h,_,_=>by cases h
 | a :: l,hp,hm,h1,h2=>by
  obtain ⟨q1,q2⟩:=bpi.1 hp;by_cases ha:a = t
  · subst ha
    have e:l.filter p = l.filter fun k=>decide (k ≠ a) && p k:=by
     apply List.filter_congr;intro k hk;have:=q1 k hk;rw [decide_eq_true bsq,bq1]
    simp [bpp,h1,e]
  have hm':t ∈ l:=by
   rcases bok.1 hm with h | h
   · exact absurd h.symm ha
   exact h
  have:=q1 t hm';have hpa:=h2 a this;simp [bpp,hpa,a8u q2 hm' h1 h2]
def je (s:AS):Nat:=Lib.ctz 32 s.toNat
def b1w (h:s ≠ 0):∃ m,s.toNat = 2 ^ (je s + 1) * m + 2 ^ je s /\ je s < 32:=by
 have h0:s.toNat ≠ 0:=fun e=>h (bp8 e);obtain ⟨m,h1,h2⟩:=Lib.ctzFrom_spec 32 s.toNat bsq s.isLt;have e:je s = Lib.ctzFrom 32 s.toNat:=by unfold je Lib.ctz;rw [if_neg h0]
 rw [e];refine ⟨m, ?_,h2⟩;rw [bs6];rw [h1] at *;simp only [Nat.mul_add,Nat.mul_assoc,bsi] at *;exact h1
def y5 (h:s ≠ 0):je s < 32 /\ s.getLsbD (je s) = true /\ (∀ k,k < je s -> s.getLsbD k = false) /\ s &&& (s - 1) = s &&& ~~~((1:AS) <<< je s):=by
 obtain ⟨m,h1,h2⟩:=b1w h;generalize je s = t at *;have hp:2 ^ t < 2 ^ (t + 1):=Nat.pow_lt_pow_right bsq bsq
 have hb:∀ k,s.getLsbD k = if k < t + 1 then (2 ^ t).testBit k else m.testBit (k - (t + 1)):=fun k=>by
  show s.toNat.testBit k = _;rw [h1,Nat.testBit_two_pow_mul_add _ hp]
 have hq:0 < 2 ^ t:=bsb t
 have e1:(s - 1).toNat = 2 ^ (t + 1) * m + (2 ^ t - 1):=by
  have:=s.isLt;rw [BitVec.toNat_sub];show (2 ^ 32 - 1 + s.toNat) % 2 ^ 32 = _;omega
 have hd:∀ k,(s - 1).getLsbD k = if k < t + 1 then (2 ^ t - 1).testBit k else m.testBit (k - (t + 1)):=fun k=>by
  show (s - 1).toNat.testBit k = _;rw [e1,Nat.testBit_two_pow_mul_add _ bsq]
 refine ⟨h2, ?_,fun k hk=>?_, ?_⟩
 · rw [hb,if_pos bsq,Nat.testBit_two_pow_self]
 · rw [hb,if_pos bsq,Nat.testBit_two_pow]
   simp;omega
 apply bpx;intro k hk;rw [boh,boh,bp7,ey _ _ hk,hd k,hb k];by_cases h3:k < t + 1
 · rw [if_pos h3,if_pos h3,Nat.testBit_two_pow,Nat.testBit_two_pow_sub_one]
   by_cases h4:k = t
   · subst h4;simp
   have:¬ t = k:=fun e=>h4 e.symm;simp [this]
 rw [if_neg h3,if_neg h3];have:¬ k = t:=by omega
 simp [hk,this]
def a8k (h:s ≠ 0) (k:Nat) (hk:k < 32):(s &&& (s - 1)).getLsbD k = (decide (k ≠ je s) && s.getLsbD k):=by
 rw [(y5 h).2.2.2,boh,bp7,ey _ _ hk];by_cases e:k = je s <;> simp [e,hk,Bool.and_comm]
def ay5 (h:s ≠ 0):al s = je s :: al (s &&& (s - 1)):=by
 obtain ⟨h1,h2,h3,_⟩:=y5 h;unfold al;rw [a8u List.pairwise_lt_range (bor.2 h1) h2 h3];congr 1;apply List.filter_congr;intro k hk;rw [a8k h k (bor.1 hk)]
def afk:al 0 = []:=by
 unfold al;rw [bsj];intro k _;simp
def b45 (h:s ≠ 0):(s &&& (s - 1)).toNat < s.toNat:=by
 refine zd (ae.2 fun i hi hb=>?_) fun e=>?_
 · rw [a8k h i hi] at hb
   simp only [boc] at hb;exact hb.2
 have:=a8k h (je s) (y5 h).1;rw [e,(y5 h).2.1] at this;simp at this
end
end
end Go.Hx

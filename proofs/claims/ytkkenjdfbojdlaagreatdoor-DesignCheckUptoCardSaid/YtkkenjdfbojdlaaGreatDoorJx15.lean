/- A part of the proof: Cs5 V5 Cs2 Cs6. -/
import Derived.Lib.TrailingZeros
import Derived.Test.YtkkenjdfbojdlaaGreatDoorJx14
set_option linter.all false
set_option maxRecDepth 100000
set_option maxHeartbeats 1000000
namespace Go.Hx
section
def dl (s:AS) (i:Int):Bool:=decide (0 <= i /\ i < 32) && s.getLsbD i.toNat
def j1 {s:AS} {i:Nat} (h:i < 32):dl s i = s.getLsbD i:=by
 unfold dl;rw [decide_eq_true bnl];simp
def ahu {s:AS} {i:Int} (h0:0 <= i) (h1:i < 32):decide (al .and .u32 ((asI s).fdiv (2 ^ (min i.toNat 32))) 1 = 1) = dl s i:=by
 unfold dl;rw [xc,show (1:Int) = asI 1 from rfl,fc,decide_eq_true (show 0 <= i /\ i < 32 from ⟨h0,h1⟩),blm]
 have e:asI (s >>> i.toNat &&& 1) = asI 1 <-> s.getLsbD i.toNat = true:=by
  rw [c8];constructor
  · intro h
    have:=congrArg (fun x:AS=>x.getLsbD 0) h;simpa using this
  intro h;apply bkv;intro k hk;have h1:(1:AS).getLsbD k = decide (k = 0):=by have:=v8 0 k hk;simpa using this
  rw [bjv,bm9,h1];by_cases hk0:k = 0
  · subst hk0;simp [h]
  simp [hk0]
 cases hb:s.getLsbD i.toNat with
 | true=>exact decide_eq_true (e.2 hb)
 | false=>exact decide_eq_false fun h=>by rw [e.1 h] at hb;cases hb
def zr {s:AS} {i:Int} (h:¬ (0 <= i /\ i < 32)):dl s i = false:=by
 unfold dl;rw [decide_eq_false h];rfl
def anj {n:Nat} (h:n <= 32):jr n = BitVec.ofNat 32 (2 ^ n - 1):=by
 apply bkv;intro k hk;rw [o9 n k hk,BitVec.getLsbD_ofNat,Nat.testBit_two_pow_sub_one];simp [hk]
def a8o {n:Nat} (h:n <= 32):(jr n).toNat = 2 ^ n - 1:=by
 have h2:2 ^ n <= 2 ^ 32:=blz bnl h;have h3:0 < 2 ^ n:=bn7 n;rw [anj h,bn8,bma bnl]
section
variable {n:Int}
def fv {l:List Fd} (h:bh n l = 0):0 <= n /\ n <= 16 /\ l.length <= 64 /\ l.all (inU n) = true:=by
 unfold bh at h;split at h
 · cases h
 split at h
 · cases h
 split at h
 · rename_i h1 h2 h3
   exact ⟨by omega,by omega,by omega,h3⟩
 cases h
def tn (h0:0 <= n) (h1:n <= 16):IntKind.wrap .u32 (1 * 2 ^ (min n.toNat 32)) - 1 = asI (a8 n):=by
 have h2:2 ^ n.toNat <= 2 ^ 16:=blz bnl bnl;have h3:0 < 2 ^ n.toNat:=bn7 _;rw [show IntKind.wrap .u32 (1 * 2 ^ (min n.toNat 32)) = asI ((1:AS) <<< n.toNat) from amr 1 n.toNat];unfold a8 asI;rw [blc bnl,a8o bnl,BitVec.toNat_shiftLeft,Nat.shiftLeft_eq];rw [show (1:AS).toNat = 1 from rfl,Nat.one_mul,bma bnl];omega
def ass {s:AS} (h0:0 <= n) (h1:n <= 16):(asI s).fdiv (2 ^ (min n.toNat 32)) = 0 <-> sub s (a8 n):=by
 rw [xc,show (0:Int) = asI 0 from rfl,c8];unfold a8;rw [blc bnl];exact (u7 bnl).symm
def yr (h0:0 <= n) (h1:n <= 16):0 <= IntKind.wrap .u32 (1 * 2 ^ (min n.toNat 32)) - 1:=by rw [tn h0 h1];exact a5x _
def x5 (h0:0 <= n) (h1:n <= 16):IntKind.wrap .u32 (1 * 2 ^ (min n.toNat 32)) - 1 <= 4294967295:=by rw [tn h0 h1];have:=acz (a8 n);omega
def l5 (n:Int) (l:List Fd) (s:AS):Bool:=decide (bh n l = 0 /\ sub s (a8 n) /\ clo l s = a8 n)
end
section
variable {n:Int} {l:List Fd} {s:AS}
def ar8 (h:¬ bh n l = 0):l5 n l s = false:=decide_eq_false fun e=>h e.1
def ayd (h:bh n l = 0) (h2:(asI s).fdiv (2 ^ (min n.toNat 32)) = 0):decide (asI (clo l s) = asI (a8 n)) = l5 n l s:=by
 have hv:=fv h;have h3:=(ass hv.1 hv.2.1).1 h2;exact decide_eq_decide.2 ⟨fun e=>⟨h,h3,c8.1 e⟩,fun e=>congrArg asI e.2.2⟩
def arz (h:bh n l = 0) (h2:¬ (asI s).fdiv (2 ^ (min n.toNat 32)) = 0):l5 n l s = false:=by
 have hv:=fv h;exact decide_eq_false fun e=>h2 ((ass hv.1 hv.2.1).2 e.2.1)
end
def gm (n:Int) (l:List Fd) (m:Int):Int:=if bh n l = 0 then (if m < n then 3 else 0) else bh n l
structure Dp where
 l:BitVec 8
 r:BitVec 8
deriving Inhabited
def Dp.c (d:Dp):Nat -> PV
 | 0=>.raw (.int .u8 (d.l.toNat:Int))
 | 1=>.raw (.int .u8 (d.r.toNat:Int))
 | _=>.any
abbrev dpl (l:List Dp):PV:=psl 2 Dp.c l
def Dp.fd (n:Int) (d:Dp):Fd:=⟨d.l.setWidth 32 &&& a8 n,d.r.setWidth 32 &&& a8 n⟩
def a5p (b:BitVec 8) (t:AS):al .and .u32 (b.toNat:Int) (asI t) = asI (b.setWidth 32 &&& t):=by
 have h:=b.isLt
 have e:asI (b.setWidth 32) = (b.toNat:Int):=by
  unfold asI;rw [BitVec.toNat_setWidth,bma bnl]
 rw [<- fc,e]
end
section
open Go.Proofs
def v7:goodFn bo6 123:=wgx Tryz.func123
def aa2 (s:AS) (i:Int):a6 bo6 123 [pA s,pI i] (a7 [pB (dl s i)]):=by
 refine hpx (nt:=18) Tryz.func123 ?_;refine w_9 ?_;refine ah rfl rfl (fun r0=>?_) (fun r0=>?_)
 ·
  have h0:=tz1 r0;(iterate 2 refine qy ?_ (hg:=(gtt r0)));refine w_2 ?_;refine ah rfl rfl (fun r1=>?_) (fun r1=>?_)
  ·
   have h1:=tz1 (bn r0 r1);(iterate 5 refine qy ?_ (hg:=(gtt r1)));refine w_3 ?_
   exact hx8 rfl rfl rfl (⟨ccb (by first | exact da bnm (ahu bnl bnl) | exact (zr bnl).symm),trivial⟩)
  have h1:=tz2 (bn r0 r1);(iterate 5 refine k9 (gft r1) ?_);refine rq rfl rfl rfl rfl rfl ?_ (hp:=r1);refine w_2 ?_
  exact hx8 rfl rfl rfl (⟨ccb (by first | exact da bnm (ahu bnl bnl) | exact (zr bnl).symm),trivial⟩)
 have h0:=tz2 r0;(iterate 2 refine k9 (gft r0) ?_);refine rq rfl rfl rfl rfl rfl ?_ (hp:=r0);refine qy ?_;(iterate 5 refine k9 rfl ?_);refine w_3 ?_
 exact hx8 rfl rfl rfl (⟨ccb (by first | exact da bnm (ahu bnl bnl) | exact (zr bnl).symm),trivial⟩)
def bci (n:Int) (h0:0 <= n) (h1:n <= 16):a6 bo6 136 [pI n] (a7 [pA (a8 n)]):=by
 refine hpx (nt:=6) Tryz.func136 ?_;refine w_8 ?_;refine rq rfl rfl rfl rfl rfl ?_ (hp:=⟨yr h0 h1,x5 h0 h1⟩);refine v_2 ?_;exact ⟨cci (tn h0 h1),trivial⟩
def bbs (n:Int) (h0:0 <= n) (h1:n <= 16):a6 bo6 74 [pI n] (a7 [pA (a8 n)]):=by
 refine hpx (nt:=6) Tryz.func74 ?_;refine w_8 ?_;refine rq rfl rfl rfl rfl rfl ?_ (hp:=⟨yr h0 h1,x5 h0 h1⟩);refine v_2 ?_;exact ⟨cci (tn h0 h1),trivial⟩
def aio:goodFn bo6 77:=wgx Tryz.func77
def arp (n:Int) (h0:0 <= n) (h1:n <= 16):a6 bo6 77 [pI n] (a7 [pA (a8 n)]):=by
 refine hpx (nt:=6) Tryz.func77 ?_;refine w_8 ?_;refine rq rfl rfl rfl rfl rfl ?_ (hp:=⟨yr h0 h1,x5 h0 h1⟩);refine v_2 ?_;exact ⟨cci (tn h0 h1),trivial⟩
def aic:goodFn bo6 83:=wgx Tryz.func83
def b0j (l:List Fd) (s p:AS):a6 bo6 83 [pP (fdl l),pA s,pA p] (a7 [pB (decide (sub p (clo l s)))]):=by
 refine hpx (nt:=12) Tryz.func83 ?_;refine w_9 ?_;refine qcx a7c (a7d l s) ?_;refine qcx np (w6 p (clo l s)) ?_;refine v_2 ?_;exact CoL.refl _
def bo2 {p:Prop} (h:p:=by unfold gm;first | (rw [if_neg bnm]) | (rw [if_pos bnl,if_pos bnl]) | (rw [if_pos bnl,if_neg bnl])):p:=h
def bcx (n:Int) (l:List Fd):a6 bo6 76 [pI n,pP (fdl l)] (a7 [pI (gm n l 8)]):=by
 refine hpx (nt:=14) Tryz.func76 ?_;refine w_9 ?_;refine qcx uy (z8 n l) ?_;refine w_7 ?_;refine hcn (fun h0=>?_) (fun h0=>?_)
 · refine v_5 ?_;exact ⟨cci bo2,trivial⟩
 refine w_7 ?_;refine hcd (fun h1=>?_) (fun h1=>?_)
 · refine v_4 ?_;exact ⟨cci bo2,trivial⟩
 refine v_5 ?_;exact ⟨cci bo2,trivial⟩
def abp:goodFn bo6 72:=wgx Tryz.func72
def aht (n:Int) (l:List Fd) (s:AS):a6 bo6 72 [pI n,pP (fdl l),pA s] (a7 [pB (l5 n l s)]):=by
 refine hpx (nt:=25) Tryz.func72 ?_;refine w_8 ?_;refine qcx uy (z8 n l) ?_;refine w_2 ?_;refine ah rfl rfl (fun r0=>?_) (fun r0=>?_)
 ·
  have h0:=tz1 r0;obtain ⟨hv0,hv1,_,_⟩:=fv h0;(iterate 4 refine qy ?_ (hg:=(gtt r0)));refine w_2 ?_;refine ah rfl rfl (fun r1=>?_) (fun r1=>?_)
  ·
   have h1:=tz1 (bn r0 r1);(iterate 2 refine qy ?_ (hg:=(gtt r1)));refine qcx t8 (x7 l s) ?_ (hg:=(gtt r1));refine qy ?_ (hg:=(gtt r1))
   refine qcx (wgx Tryz.func136) (bci n (fv bnm).1 (fv bnm).2.1) ?_ (hg:=(gtt r1));refine qy ?_ (hg:=(gtt r1));refine v_3 ?_;exact ⟨ccb (by first | exact da bnm (ayd bnm bnm) | exact (ar8 bnm).symm | exact (arz bnm bnm).symm),trivial⟩
  have h1:=tz2 (bn r0 r1);(iterate 6 refine k9 (gft r1) ?_);refine rq rfl rfl rfl rfl rfl ?_ (hp:=r1);refine w_2 ?_
  exact hx8 rfl rfl rfl (⟨ccb (by first | exact da bnm (ayd bnm bnm) | exact (ar8 bnm).symm | exact (arz bnm bnm).symm),trivial⟩)
 have h0:=tz2 r0;(iterate 4 refine k9 (gft r0) ?_);refine rq rfl rfl rfl rfl rfl ?_ (hp:=r0);refine qy ?_;(iterate 6 refine k9 rfl ?_);refine w_3 ?_
 exact hx8 rfl rfl rfl (⟨ccb (by first | exact da bnm (ayd bnm bnm) | exact (ar8 bnm).symm | exact (arz bnm bnm).symm),trivial⟩)
end
section
def bsz (s:AS):Nat:=(List.range 32).countP fun i=>s.getLsbD i
def bef (a b:AS):Bool:=decide (bsz a < bsz b) || (decide (bsz a = bsz b) && decide (a.toNat < b.toNat))
def a1r (a:AS):bef a a = false:=by simp [bef]
def mr {a b:AS}:bef a b = true <-> bsz a < bsz b \/ (bsz a = bsz b /\ a.toNat < b.toNat):=by simp [bef]
def su {a b c:AS} (h:bef a b = true) (k:bef b c = true):bef a c = true:=by
 rw [mr] at *;omega
def a7o {a b:AS} (h:a ≠ b):bef a b = true \/ bef b a = true:=by
 have hn:a.toNat ≠ b.toNat:=fun e=>h (bka e);rw [mr,mr];omega
def b0r {a b:AS} (h:bef a b = true):bef b a = false:=by
 rw [bjp];intro k;have:=su h k;rw [a1r] at this;cases this
def qk (l:List AS):Prop:=l.Pairwise fun a b=>bef a b = true
def qu:∀ {l k:List AS},qk l -> qk k -> (∀ x,x ∈ l <-> x ∈ k) -> l = k
 | [],[],_,_,_=>rfl
 | [],y :: k,_,_,h=>absurd ((h y).2 (bkl ..)) bnp
 | x :: l,[],_,_,h=>absurd ((h x).1 (bkl ..)) bnp
 | x :: l,y :: k,hl,hk,h=>by
  obtain ⟨h1,h2⟩:=bkh.1 hl;obtain ⟨k1,k2⟩:=bkh.1 hk
  have e:x = y:=by
   rcases bjq.1 ((h x).1 (bkl ..)) with e | hx
   · exact e
   rcases bjq.1 ((h y).2 (bkl ..)) with e | hy
   · exact e.symm
   have:=b0r (k1 x hx);rw [h1 y hy] at this;cases this
  subst e;congr 1;refine qu h2 k2 fun z=>?_;constructor
  · intro hz
    rcases bjq.1 ((h z).1 (bkp _ hz)) with e | hz'
    · subst e
      have:=h1 z hz;rw [a1r] at this;cases this
    exact hz'
  intro hz
  rcases bjq.1 ((h z).2 (bkp _ hz)) with e | hz'
  · subst e
    have:=k1 z hz;rw [a1r] at this;cases this
  exact hz'
def lx (x:AS):List AS -> List AS
 | []=>[x]
 | y :: l=>if x = y then y :: l else if bef x y = true then x :: y :: l else y :: lx x l
def yp {x z:AS}:∀ {l:List AS},z ∈ lx x l <-> z = x \/ z ∈ l
 | []=>by simp [lx]
 | y :: l=>by
  unfold lx;split
  · rename_i e
    subst e;simp
  split
  · simp
  rw [bjq,yp,bjq];constructor
  · rintro (h | h | h) <;> simp [h]
  rintro (h | h | h) <;> simp [h]
def a0m {x:AS}:∀ {l:List AS},qk l -> qk (lx x l)
 | [],_=>by simp [lx,qk]
 | y :: l,h=>by
  obtain ⟨h1,h2⟩:=bkh.1 h;unfold lx;split
  · exact h
  split
  · rename_i hxy
    refine bkh.2 ⟨fun z hz=>?_,h⟩
    rcases bjq.1 hz with rfl | hz
    · exact hxy
    exact su hxy (h1 z hz)
  rename_i hne hxy;refine bkh.2 ⟨fun z hz=>?_,a0m h2⟩
  rcases yp.1 hz with rfl | hz
  · exact (a7o hne).resolve_left hxy
  exact h1 z hz
def ord (l:List AS):List AS:=l.foldl (fun o x=>lx x o) []
def af5:∀ {l o:List AS},qk o -> qk (l.foldl (fun o x=>lx x o) o) /\ ∀ z,z ∈ l.foldl (fun o x=>lx x o) o <-> z ∈ o \/ z ∈ l
 | [],o,h=>⟨h,fun z=>by simp⟩
 | x :: l,o,h=>by
  obtain ⟨h1,h2⟩:=af5 (l:=l) (a0m (x:=x) h);refine ⟨h1,fun z=>?_⟩;show z ∈ l.foldl (fun o x=>lx x o) (lx x o) <-> _;rw [h2 z,yp,bjq];constructor
  · rintro ((h | h) | h) <;> simp [h]
  rintro (h | h | h) <;> simp [h]
def j5 (l:List AS):qk (ord l):=(af5 (o:=[]) List.Pairwise.nil).1
def so {l:List AS} {z:AS}:z ∈ ord l <-> z ∈ l:=by
 show z ∈ l.foldl (fun o x=>lx x o) [] <-> _;rw [(af5 (l:=l) (o:=[]) List.Pairwise.nil).2 z];simp
def awl {l k:List AS} (hk:qk k) (h:∀ z,z ∈ k <-> z ∈ l):k = ord l:=qu hk (j5 l) fun z=>by rw [h z,so]
end
section
def aj (s:AS):List Nat:=(List.range 32).filter fun i=>s.getLsbD i
def iC:Nat -> Nat -> PV:=fun n _=>.raw (.int .i64 (n:Int))
abbrev il (l:List Nat):PV:=psl 1 iC l
def ss (s:AS):bsz s = (aj s).length:=by unfold bsz aj;rw [List.countP_eq_length_filter]
section
variable {s:AS}
def jc {i:Nat}:i ∈ aj s <-> i < 32 /\ s.getLsbD i = true:=by simp [aj,blj,bjs]
def a5n {p:Nat -> Bool} {t:Nat}:∀ {l:List Nat},l.Pairwise (· < ·) -> t ∈ l -> p t = true -> (∀ k,k < t -> p k = false) -> l.filter p = t :: l.filter fun k=>decide (k ≠ t) && p k
 | [],_,h,_,_=>by cases h
 | a :: l,hp,hm,h1,h2=>by
  obtain ⟨q1,q2⟩:=bkh.1 hp;by_cases ha:a = t
  · subst ha
    have e:l.filter p = l.filter fun k=>decide (k ≠ a) && p k:=by
     apply List.filter_congr;intro k hk;have:=q1 k hk;rw [decide_eq_true bnl,blm]
    simp [bko,h1,e]
  have hm':t ∈ l:=by
   rcases bjq.1 hm with h | h
   · exact absurd h.symm ha
   exact h
  have:=q1 t hm';have hpa:=h2 a this;simp [bko,hpa,a5n q2 hm' h1 h2]
def i6 (s:AS):Nat:=Lib.ctz 32 s.toNat
def b10 (h:s ≠ 0):∃ m,s.toNat = 2 ^ (i6 s + 1) * m + 2 ^ i6 s /\ i6 s < 32:=by
 have h0:s.toNat ≠ 0:=fun e=>h (bka e);obtain ⟨m,h1,h2⟩:=Lib.ctzFrom_spec 32 s.toNat bnl s.isLt;have e:i6 s = Lib.ctzFrom 32 s.toNat:=by unfold i6 Lib.ctz;rw [if_neg h0]
 rw [e];refine ⟨m, ?_,h2⟩;rw [Nat.pow_succ];rw [h1] at *;simp only [Nat.mul_add,Nat.mul_assoc,bne] at *;exact h1
def vb (h:s ≠ 0):i6 s < 32 /\ s.getLsbD (i6 s) = true /\ (∀ k,k < i6 s -> s.getLsbD k = false) /\ s &&& (s - 1) = s &&& ~~~((1:AS) <<< i6 s):=by
 obtain ⟨m,h1,h2⟩:=b10 h;generalize i6 s = t at *;have hp:2 ^ t < 2 ^ (t + 1):=Nat.pow_lt_pow_right bnl bnl
 have hb:∀ k,s.getLsbD k = if k < t + 1 then (2 ^ t).testBit k else m.testBit (k - (t + 1)):=fun k=>by
  show s.toNat.testBit k = _;rw [h1,Nat.testBit_two_pow_mul_add _ hp]
 have hq:0 < 2 ^ t:=bn7 t
 have e1:(s - 1).toNat = 2 ^ (t + 1) * m + (2 ^ t - 1):=by
  have:=s.isLt;rw [BitVec.toNat_sub];show (2 ^ 32 - 1 + s.toNat) % 2 ^ 32 = _;omega
 have hd:∀ k,(s - 1).getLsbD k = if k < t + 1 then (2 ^ t - 1).testBit k else m.testBit (k - (t + 1)):=fun k=>by
  show (s - 1).toNat.testBit k = _;rw [e1,Nat.testBit_two_pow_mul_add _ bnl]
 refine ⟨h2, ?_,fun k hk=>?_, ?_⟩
 · rw [hb,if_pos bnl,Nat.testBit_two_pow_self]
 · rw [hb,if_pos bnl,Nat.testBit_two_pow]
   simp;omega
 apply bkv;intro k hk;rw [bjv,bjv,blg,v8 _ _ hk,hd k,hb k];by_cases h3:k < t + 1
 · rw [if_pos h3,if_pos h3,Nat.testBit_two_pow,Nat.testBit_two_pow_sub_one]
   by_cases h4:k = t
   · subst h4;simp
   have:¬ t = k:=fun e=>h4 e.symm;simp [this]
 rw [if_neg h3,if_neg h3];have:¬ k = t:=by omega
 simp [hk,this]
def a5m (h:s ≠ 0) (k:Nat) (hk:k < 32):(s &&& (s - 1)).getLsbD k = (decide (k ≠ i6 s) && s.getLsbD k):=by
 rw [(vb h).2.2.2,bjv,blg,v8 _ _ hk];by_cases e:k = i6 s <;> simp [e,hk,Bool.and_comm]
def avl (h:s ≠ 0):aj s = i6 s :: aj (s &&& (s - 1)):=by
 obtain ⟨h1,h2,h3,_⟩:=vb h;unfold aj;rw [a5n List.pairwise_lt_range (bjs.2 h1) h2 h3];congr 1;apply List.filter_congr;intro k hk;rw [a5m h k (bjs.1 hk)]
def acr:aj 0 = []:=by
 unfold aj;rw [bnf];intro k _;simp
def b0m (h:s ≠ 0):(s &&& (s - 1)).toNat < s.toNat:=by
 refine yi (ar.2 fun i hi hb=>?_) fun e=>?_
 · rw [a5m h i hi] at hb
   simp only [bjm] at hb;exact hb.2
 have:=a5m h (i6 s) (vb h).1;rw [e,(vb h).2.1] at this;simp at this
end
end
end Go.Hx

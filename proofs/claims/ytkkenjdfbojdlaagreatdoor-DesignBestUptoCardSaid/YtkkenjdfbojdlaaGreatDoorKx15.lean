/- A part of the proof: Cs5 V5 Cs2 Cs6. -/
import Derived.Lib.TrailingZeros
import Derived.Test.YtkkenjdfbojdlaaGreatDoorKx14
set_option linter.all false
set_option maxRecDepth 100000
set_option maxHeartbeats 1000000
namespace Go.Hx
section
def d6 (s:AS) (i:Int):Bool:=decide (0 <= i /\ i < 32) && s.getLsbD i.toNat
def gk {s:AS} {i:Nat} (h:i < 32):d6 s i = s.getLsbD i:=by
 unfold d6;rw [decide_eq_true bqi];simp
def aj1 {s:AS} {i:Int} (h0:0 <= i) (h1:i < 32):decide (ay .and .u32 ((asI s).fdiv (2 ^ (min i.toNat 32))) 1 = 1) = d6 s i:=by
 unfold d6;rw [yf,show (1:Int) = asI 1 from rfl,fj,decide_eq_true (show 0 <= i /\ i < 32 from ⟨h0,h1⟩),boi]
 have e:asI (s >>> i.toNat &&& 1) = asI 1 <-> s.getLsbD i.toNat = true:=by
  rw [c6];constructor
  · intro h
    have:=congrArg (fun x:AS=>x.getLsbD 0) h;simpa using this
  intro h;apply bnu;intro k hk;have h1:(1:AS).getLsbD k = decide (k = 0):=by have:=re 0 k hk;simpa using this
  rw [bmr,bp5,h1];by_cases hk0:k = 0
  · subst hk0;simp [h]
  simp [hk0]
 cases hb:s.getLsbD i.toNat with
 | true=>exact decide_eq_true (e.2 hb)
 | false=>exact decide_eq_false fun h=>by rw [e.1 h] at hb;cases hb
def a02 {s:AS} {i:Int} (h:¬ (0 <= i /\ i < 32)):d6 s i = false:=by
 unfold d6;rw [decide_eq_false h];rfl
def aow {n:Nat} (h:n <= 32):jn n = BitVec.ofNat 32 (2 ^ n - 1):=by
 apply bnu;intro k hk;rw [ny n k hk,BitVec.getLsbD_ofNat,Nat.testBit_two_pow_sub_one];simp [hk]
def aa0 {n:Nat} (h:n <= 32):(jn n).toNat = 2 ^ n - 1:=by
 have h2:2 ^ n <= 2 ^ 32:=bow bqi h;have h3:0 < 2 ^ n:=bq6 n;rw [aow h,bq7,bp6 bqi]
section
variable {n:Int}
def ew {l:List Fd} (h:b6 n l = 0):0 <= n /\ n <= 16 /\ l.length <= 64 /\ l.all (inU n) = true:=by
 unfold b6 at h;split at h
 · cases h
 split at h
 · cases h
 split at h
 · rename_i h1 h2 h3
   exact ⟨by omega,by omega,by omega,h3⟩
 cases h
def ut (h0:0 <= n) (h1:n <= 16):IntKind.wrap .u32 (1 * 2 ^ (min n.toNat 32)) - 1 = asI (a7 n):=by
 have h2:2 ^ n.toNat <= 2 ^ 16:=bow bqi bqi;have h3:0 < 2 ^ n.toNat:=bq6 _;rw [show IntKind.wrap .u32 (1 * 2 ^ (min n.toNat 32)) = asI ((1:AS) <<< n.toNat) from am5 1 n.toNat];unfold a7 asI;rw [bo5 bqi,aa0 bqi,BitVec.toNat_shiftLeft,Nat.shiftLeft_eq];rw [show (1:AS).toNat = 1 from rfl,Nat.one_mul,bp6 bqi];omega
def aun {s:AS} (h0:0 <= n) (h1:n <= 16):(asI s).fdiv (2 ^ (min n.toNat 32)) = 0 <-> sub s (a7 n):=by
 rw [yf,show (0:Int) = asI 0 from rfl,c6];unfold a7;rw [bo5 bqi];exact (v7 bqi).symm
def a00 (h0:0 <= n) (h1:n <= 16):0 <= IntKind.wrap .u32 (1 * 2 ^ (min n.toNat 32)) - 1:=by rw [ut h0 h1];exact a6w _
def xt (h0:0 <= n) (h1:n <= 16):IntKind.wrap .u32 (1 * 2 ^ (min n.toNat 32)) - 1 <= 4294967295:=by rw [ut h0 h1];have:=ae8 (a7 n);omega
def b3b {a b:List AS} (h:a.length = b.length) (hI:∀ j,j < a.length -> decide (a.getD j default = b.getD j default) = true):a = b:=ol h fun j hj=>of_decide_eq_true (hI j hj)
def i6 (n:Int) (l:List Fd) (s:AS):Bool:=decide (b6 n l = 0 /\ sub s (a7 n) /\ clo l s = a7 n)
end
section
variable {n:Int} {l:List Fd} {s:AS}
def acb (h:¬ b6 n l = 0):i6 n l s = false:=decide_eq_false fun e=>h e.1
def azm (h:b6 n l = 0) (h2:(asI s).fdiv (2 ^ (min n.toNat 32)) = 0):decide (asI (clo l s) = asI (a7 n)) = i6 n l s:=by
 have hv:=ew h;have h3:=(aun hv.1 hv.2.1).1 h2;exact decide_eq_decide.2 ⟨fun e=>⟨h,h3,c6.1 e⟩,fun e=>congrArg asI e.2.2⟩
def ato (h:b6 n l = 0) (h2:¬ (asI s).fdiv (2 ^ (min n.toNat 32)) = 0):i6 n l s = false:=by
 have hv:=ew h;exact decide_eq_false fun e=>h2 ((aun hv.1 hv.2.1).2 e.2.1)
def bcu (h2:¬ ay .andNot .u32 (asI s) (asI (a7 n)) = 0):i6 n l s = false:=decide_eq_false fun e=>h2 (i9.2 e.2.1)
def bkg (h:b6 n l = 0) (h2:sub s (a7 n)):decide (asI (clo l s) = asI (a7 n)) = i6 n l s:=decide_eq_decide.2 ⟨fun e=>⟨h,h2,c6.1 e⟩,fun e=>congrArg asI e.2.2⟩
end
def eo (n:Int) (l:List Fd) (m:Int):Int:=if b6 n l = 0 then (if m < n then 3 else 0) else b6 n l
structure Dp where
 l:BitVec 8
 r:BitVec 8
deriving Inhabited
def Dp.c (d:Dp):Nat -> PV
 | 0=>.raw (.int .u8 (d.l.toNat:Int))
 | 1=>.raw (.int .u8 (d.r.toNat:Int))
 | _=>.any
abbrev dpl (l:List Dp):PV:=psl 2 Dp.c l
def Dp.fd (n:Int) (d:Dp):Fd:=⟨d.l.setWidth 32 &&& a7 n,d.r.setWidth 32 &&& a7 n⟩
def a64 (b:BitVec 8) (t:AS):ay .and .u32 (b.toNat:Int) (asI t) = asI (b.setWidth 32 &&& t):=by
 have h:=b.isLt
 have e:asI (b.setWidth 32) = (b.toNat:Int):=by
  unfold asI;rw [BitVec.toNat_setWidth,bp6 bqi]
 rw [<- fj,e]
end
section
open Go.Proofs
def ov:goodFn br6 123:=wgx Tryz.func123
def a1z (s:AS) (i:Int):a6 br6 123 [pA s,pI i] (a8 [pB (d6 s i)]):=by
 refine hpx (nt:=18) Tryz.func123 ?_;refine w_9 ?_;refine ah rfl rfl (fun r0=>?_) (fun r0=>?_)
 ·
  have h0:=tz1 r0;(iterate 2 refine qy ?_ (hg:=(gtt r0)));refine w_2 ?_;refine ah rfl rfl (fun r1=>?_) (fun r1=>?_)
  ·
   have h1:=tz1 (br r0 r1);(iterate 5 refine qy ?_ (hg:=(gtt r1)));refine w_3 ?_
   exact hx8 rfl rfl rfl (⟨ccb (by first | exact db bqj (aj1 bqi bqi) | exact (a02 bqi).symm),trivial⟩)
  have h1:=tz2 (br r0 r1);(iterate 5 refine k9 (gft r1) ?_);refine rq rfl rfl rfl rfl rfl ?_ (hp:=r1);refine w_2 ?_
  exact hx8 rfl rfl rfl (⟨ccb (by first | exact db bqj (aj1 bqi bqi) | exact (a02 bqi).symm),trivial⟩)
 have h0:=tz2 r0;(iterate 2 refine k9 (gft r0) ?_);refine rq rfl rfl rfl rfl rfl ?_ (hp:=r0);refine qy ?_;(iterate 5 refine k9 rfl ?_);refine w_3 ?_
 exact hx8 rfl rfl rfl (⟨ccb (by first | exact db bqj (aj1 bqi bqi) | exact (a02 bqi).symm),trivial⟩)
def bg9 (n:Int) (h0:0 <= n) (h1:n <= 16):a6 br6 136 [pI n] (a8 [pA (a7 n)]):=by
 refine hpx (nt:=6) Tryz.func136 ?_;refine w_8 ?_;refine rq rfl rfl rfl rfl rfl ?_ (hp:=⟨a00 h0 h1,xt h0 h1⟩);refine v_2 ?_;exact ⟨cci (ut h0 h1),trivial⟩
def bdy (n:Int) (h0:0 <= n) (h1:n <= 16):a6 br6 74 [pI n] (a8 [pA (a7 n)]):=by
 refine hpx (nt:=6) Tryz.func74 ?_;refine w_8 ?_;refine rq rfl rfl rfl rfl rfl ?_ (hp:=⟨a00 h0 h1,xt h0 h1⟩);refine v_2 ?_;exact ⟨cci (ut h0 h1),trivial⟩
def amx:goodFn br6 77:=wgx Tryz.func77
def auh (n:Int) (h0:0 <= n) (h1:n <= 16):a6 br6 77 [pI n] (a8 [pA (a7 n)]):=by
 refine hpx (nt:=6) Tryz.func77 ?_;refine w_8 ?_;refine rq rfl rfl rfl rfl rfl ?_ (hp:=⟨a00 h0 h1,xt h0 h1⟩);refine v_2 ?_;exact ⟨cci (ut h0 h1),trivial⟩
def ad5:goodFn br6 83:=wgx Tryz.func83
def aue (l:List Fd) (s p:AS):a6 br6 83 [pP (fdl l),pA s,pA p] (a8 [pB (decide (sub p (clo l s)))]):=by
 refine hpx (nt:=12) Tryz.func83 ?_;refine w_9 ?_;refine qcx wc (wl l s) ?_;refine qcx l6 (qp p (clo l s)) ?_;refine v_2 ?_;exact CoL.refl _
def bqz {p:Prop} (h:p:=by unfold eo;first | (rw [if_neg bqj]) | (rw [if_pos bqi,if_pos bqi]) | (rw [if_pos bqi,if_neg bqi])):p:=h
def bj5 (n:Int) (l:List Fd) (m:Int):a6 br6 86 [pI n,pP (fdl l),pI m] (a8 [pI (eo n l m)]):=by
 refine hpx (nt:=17) Tryz.func86 ?_;refine w_9 ?_;refine qcx a3g (yz n l) ?_;refine w_7 ?_;refine hcn (fun h0=>?_) (fun h0=>?_)
 · refine v_5 ?_;exact ⟨cci bqz,trivial⟩
 refine w_8 ?_;refine hcd (fun h1=>?_) (fun h1=>?_)
 · refine v_4 ?_;exact ⟨cci bqz,trivial⟩
 refine v_5 ?_;exact ⟨cci bqz,trivial⟩
def bga (n:Int) (l:List Fd):a6 br6 76 [pI n,pP (fdl l)] (a8 [pI (eo n l 8)]):=by
 refine hpx (nt:=14) Tryz.func76 ?_;refine w_9 ?_;refine qcx vk (zz n l) ?_;refine w_7 ?_;refine hcn (fun h0=>?_) (fun h0=>?_)
 · refine v_5 ?_;exact ⟨cci bqz,trivial⟩
 refine w_7 ?_;refine hcd (fun h1=>?_) (fun h1=>?_)
 · refine v_4 ?_;exact ⟨cci bqz,trivial⟩
 refine v_5 ?_;exact ⟨cci bqz,trivial⟩
def adq:goodFn br6 72:=wgx Tryz.func72
def aj9 (n:Int) (l:List Fd) (s:AS):a6 br6 72 [pI n,pP (fdl l),pA s] (a8 [pB (i6 n l s)]):=by
 refine hpx (nt:=25) Tryz.func72 ?_;refine w_8 ?_;refine qcx vk (zz n l) ?_;refine w_2 ?_;refine ah rfl rfl (fun r0=>?_) (fun r0=>?_)
 ·
  have h0:=tz1 r0;obtain ⟨hv0,hv1,_,_⟩:=ew h0;(iterate 4 refine qy ?_ (hg:=(gtt r0)));refine w_2 ?_;refine ah rfl rfl (fun r1=>?_) (fun r1=>?_)
  ·
   have h1:=tz1 (br r0 r1);(iterate 2 refine qy ?_ (hg:=(gtt r1)));refine qcx uh (xl l s) ?_ (hg:=(gtt r1));refine qy ?_ (hg:=(gtt r1))
   refine qcx (wgx Tryz.func136) (bg9 n (ew bqj).1 (ew bqj).2.1) ?_ (hg:=(gtt r1));refine qy ?_ (hg:=(gtt r1));refine v_3 ?_;exact ⟨ccb (by first | exact db bqj (azm bqj bqj) | exact (acb bqj).symm | exact (ato bqj bqj).symm),trivial⟩
  have h1:=tz2 (br r0 r1);(iterate 6 refine k9 (gft r1) ?_);refine rq rfl rfl rfl rfl rfl ?_ (hp:=r1);refine w_2 ?_
  exact hx8 rfl rfl rfl (⟨ccb (by first | exact db bqj (azm bqj bqj) | exact (acb bqj).symm | exact (ato bqj bqj).symm),trivial⟩)
 have h0:=tz2 r0;(iterate 4 refine k9 (gft r0) ?_);refine rq rfl rfl rfl rfl rfl ?_ (hp:=r0);refine qy ?_;(iterate 6 refine k9 rfl ?_);refine w_3 ?_
 exact hx8 rfl rfl rfl (⟨ccb (by first | exact db bqj (azm bqj bqj) | exact (acb bqj).symm | exact (ato bqj bqj).symm),trivial⟩)
def afh:goodFn br6 143:=wgx Tryz.func143
def ajj (n:Int) (l:List Fd) (s:AS):a6 br6 143 [pI n,pP (fdl l),pA s] (a8 [pB (i6 n l s)]):=by
 refine hpx (nt:=24) Tryz.func143 ?_;refine w_4 ?_;refine dm (ι:=Unit) (ka 0 (ka 1 (ka 2 kn))) km (fun _i=>⟨[],[]⟩) (fun _i=>b6 n l = 0 /\ sub s (a7 n)) ?_ ?_
 ·
  refine w_4 ?_;refine qcx a3g (yz n l) ?_;refine w_2 ?_;refine ah rfl rfl (fun r0=>?_) (fun r0=>?_)
  ·
   have h0:=tz2 (cu r0);(iterate 5 refine k9 (gtf r0) ?_);refine rq rfl rfl rfl rfl rfl ?_ (hp:=r0);refine w_6 ?_
   exact hx8 rfl rfl rfl (⟨ccb (by first | exact (acb bqj).symm | exact (bcu bqj).symm),trivial⟩)
  have h0:=tz1 (ct r0);(iterate 2 refine qy ?_ (hg:=(gff r0)));refine qcx lg (li n) ?_ (hg:=(gff r0));(iterate 2 refine qy ?_ (hg:=(gff r0)));refine w_2 ?_;refine ak _ rfl (fun r1=>?_) (fun r1=>?_)
  · have h1:=tz2 (cu (au r0 r1));refine v_4 ?_;exact ⟨ccb (by first | exact (acb bqj).symm | exact (bcu bqj).symm),trivial⟩
  have h1:=tz1 (ct (au r0 r1));refine ck ?_;refine ⟨(), ?_, ?_⟩
  · exact ⟨by assumption,i9.1 bqi⟩
  exact kk
 rintro _ hj;refine w_4 ?_;refine qcx wc (wl l s) ?_;refine qy ?_;refine qcx lg (li n) ?_;refine v_3 ?_;exact ⟨ccb (bkg hj.1 hj.2),trivial⟩
def bfx (a b:List AS):a6 br6 40 [pP (asl a),pP (asl b)] (a8 [pB (decide (a = b))]):=by
 refine hpx (nt:=26) Tryz.func40 ?_;refine cb ?_;refine c8 0 rfl fun hn=>?_;refine dy ?_;refine hcn (fun h0=>?_) (fun h0=>?_)
 · refine v_4 ?_;exact ⟨ccb (decide_eq_false fun e=>by subst e;omega).symm,trivial⟩
 refine ck ?_;refine dm (ι:=Unit) kn km (fun _i=>⟨[],[]⟩) (fun _i=>a = b) ?_ ?_
 ·
  refine w_5 ?_;refine ae (ι:=Nat) (ka 0 (ka 1 kn)) km (fun i=>⟨[(5,some (vI i))],[]⟩) (fun i=>i <= a.length /\ (∀ j,j < i -> decide (a.getD j default = b.getD j default) = true)) (fun i=>a.length - i) (0) (⟨bmh _,bq⟩) kk ?_;rintro i ⟨hi,hI⟩;refine w_8 ?_;refine hcd (fun h1=>?_) (fun h1=>?_)
  ·
   refine ow ?_;refine hcn (fun h2=>?_) (fun h2=>?_)
   · refine v_4 ?_;exact ⟨ccb (decide_eq_false fun e=>by subst e;simp_all).symm,trivial⟩
   refine w_6 ?_;refine lpz (i + 1) kk ?_;exact ⟨by show i + 1 <= _;omega,aw hI (decide_eq_true (c6.1 h2))⟩
  refine da ?_;refine ⟨(), ?_, ?_⟩
  · exact b3b bqi fun j hj=>hI j bqi
  exact ⟨trivial,trivial⟩
 rintro _ hj;refine v_4 ?_;exact ⟨ccb (decide_eq_true hj).symm,trivial⟩
end
section
def bsz (s:AS):Nat:=(List.range 32).countP fun i=>s.getLsbD i
def bef (a b:AS):Bool:=decide (bsz a < bsz b) || (decide (bsz a = bsz b) && decide (a.toNat < b.toNat))
def a32 (a:AS):bef a a = false:=by simp [bef]
def nn {a b:AS}:bef a b = true <-> bsz a < bsz b \/ (bsz a = bsz b /\ a.toNat < b.toNat):=by simp [bef]
def ui {a b c:AS} (h:bef a b = true) (k:bef b c = true):bef a c = true:=by
 rw [nn] at *;omega
def a8t {a b:AS} (h:a ≠ b):bef a b = true \/ bef b a = true:=by
 have hn:a.toNat ≠ b.toNat:=fun e=>h (bng e);rw [nn,nn];omega
def b3d {a b:AS} (h:bef a b = true):bef b a = false:=by
 rw [bmm];intro k;have:=ui h k;rw [a32] at this;cases this
def ru (l:List AS):Prop:=l.Pairwise fun a b=>bef a b = true
def s8:∀ {l k:List AS},ru l -> ru k -> (∀ x,x ∈ l <-> x ∈ k) -> l = k
 | [],[],_,_,_=>rfl
 | [],y :: k,_,_,h=>absurd ((h y).2 (bnj ..)) bqm
 | x :: l,[],_,_,h=>absurd ((h x).1 (bnj ..)) bqm
 | x :: l,y :: k,hl,hk,h=>by
  obtain ⟨h1,h2⟩:=bnk.1 hl;obtain ⟨k1,k2⟩:=bnk.1 hk
  have e:x = y:=by
   rcases bmp.1 ((h x).1 (bnj ..)) with e | hx
   · exact e
   rcases bmp.1 ((h y).2 (bnj ..)) with e | hy
   · exact e.symm
   have:=b3d (k1 x hx);rw [h1 y hy] at this;cases this
  subst e;congr 1;refine s8 h2 k2 fun z=>?_;constructor
  · intro hz
    rcases bmp.1 ((h z).1 (bni _ hz)) with e | hz'
    · subst e
      have:=h1 z hz;rw [a32] at this;cases this
    exact hz'
  intro hz
  rcases bmp.1 ((h z).2 (bni _ hz)) with e | hz'
  · subst e
    have:=k1 z hz;rw [a32] at this;cases this
  exact hz'
def mj (x:AS):List AS -> List AS
 | []=>[x]
 | y :: l=>if x = y then y :: l else if bef x y = true then x :: y :: l else y :: mj x l
def a0o {x z:AS}:∀ {l:List AS},z ∈ mj x l <-> z = x \/ z ∈ l
 | []=>by simp [mj]
 | y :: l=>by
  unfold mj;split
  · rename_i e
    subst e;simp
  split
  · simp
  rw [bmp,a0o,bmp];constructor
  · rintro (h | h | h) <;> simp [h]
  rintro (h | h | h) <;> simp [h]
def a0t {x:AS}:∀ {l:List AS},ru l -> ru (mj x l)
 | [],_=>by simp [mj,ru]
 | y :: l,h=>by
  obtain ⟨h1,h2⟩:=bnk.1 h;unfold mj;split
  · exact h
  split
  · rename_i hxy
    refine bnk.2 ⟨fun z hz=>?_,h⟩
    rcases bmp.1 hz with rfl | hz
    · exact hxy
    exact ui hxy (h1 z hz)
  rename_i hne hxy;refine bnk.2 ⟨fun z hz=>?_,a0t h2⟩
  rcases a0o.1 hz with rfl | hz
  · exact (a8t hne).resolve_left hxy
  exact h1 z hz
def ord (l:List AS):List AS:=l.foldl (fun o x=>mj x o) []
def ael:∀ {l o:List AS},ru o -> ru (l.foldl (fun o x=>mj x o) o) /\ ∀ z,z ∈ l.foldl (fun o x=>mj x o) o <-> z ∈ o \/ z ∈ l
 | [],o,h=>⟨h,fun z=>by simp⟩
 | x :: l,o,h=>by
  obtain ⟨h1,h2⟩:=ael (l:=l) (a0t (x:=x) h);refine ⟨h1,fun z=>?_⟩;show z ∈ l.foldl (fun o x=>mj x o) (mj x o) <-> _;rw [h2 z,a0o,bmp];constructor
  · rintro ((h | h) | h) <;> simp [h]
  rintro (h | h | h) <;> simp [h]
def jj (l:List AS):ru (ord l):=(ael (o:=[]) List.Pairwise.nil).1
def qn {l:List AS} {z:AS}:z ∈ ord l <-> z ∈ l:=by
 show z ∈ l.foldl (fun o x=>mj x o) [] <-> _;rw [(ael (l:=l) (o:=[]) List.Pairwise.nil).2 z];simp
def awd {l k:List AS} (hk:ru k) (h:∀ z,z ∈ k <-> z ∈ l):k = ord l:=s8 hk (jj l) fun z=>by rw [h z,qn]
end
section
def aj (s:AS):List Nat:=(List.range 32).filter fun i=>s.getLsbD i
def iC:Nat -> Nat -> PV:=fun n _=>.raw (.int .i64 (n:Int))
abbrev il (l:List Nat):PV:=psl 1 iC l
def tn (s:AS):bsz s = (aj s).length:=by unfold bsz aj;rw [List.countP_eq_length_filter]
section
variable {s:AS}
def j8 {i:Nat}:i ∈ aj s <-> i < 32 /\ s.getLsbD i = true:=by simp [aj,bog,bmq]
def a6p {p:Nat -> Bool} {t:Nat}:∀ {l:List Nat},l.Pairwise (· < ·) -> t ∈ l -> p t = true -> (∀ k,k < t -> p k = false) -> l.filter p = t :: l.filter fun k=>decide (k ≠ t) && p k
 | [],_,h,_,_=>by cases h
 | a :: l,hp,hm,h1,h2=>by
  obtain ⟨q1,q2⟩:=bnk.1 hp;by_cases ha:a = t
  · subst ha
    have e:l.filter p = l.filter fun k=>decide (k ≠ a) && p k:=by
     apply List.filter_congr;intro k hk;have:=q1 k hk;rw [decide_eq_true bqi,boi]
    simp [bnf,h1,e]
  have hm':t ∈ l:=by
   rcases bmp.1 hm with h | h
   · exact absurd h.symm ha
   exact h
  have:=q1 t hm';have hpa:=h2 a this;simp [bnf,hpa,a6p q2 hm' h1 h2]
def j4 (s:AS):Nat:=Lib.ctz 32 s.toNat
def b38 (h:s ≠ 0):∃ m,s.toNat = 2 ^ (j4 s + 1) * m + 2 ^ j4 s /\ j4 s < 32:=by
 have h0:s.toNat ≠ 0:=fun e=>h (bng e);obtain ⟨m,h1,h2⟩:=Lib.ctzFrom_spec 32 s.toNat bqi s.isLt;have e:j4 s = Lib.ctzFrom 32 s.toNat:=by unfold j4 Lib.ctz;rw [if_neg h0]
 rw [e];refine ⟨m, ?_,h2⟩;rw [Nat.pow_succ];rw [h1] at *;simp only [Nat.mul_add,Nat.mul_assoc,bqc] at *;exact h1
def vn (h:s ≠ 0):j4 s < 32 /\ s.getLsbD (j4 s) = true /\ (∀ k,k < j4 s -> s.getLsbD k = false) /\ s &&& (s - 1) = s &&& ~~~((1:AS) <<< j4 s):=by
 obtain ⟨m,h1,h2⟩:=b38 h;generalize j4 s = t at *;have hp:2 ^ t < 2 ^ (t + 1):=Nat.pow_lt_pow_right bqi bqi
 have hb:∀ k,s.getLsbD k = if k < t + 1 then (2 ^ t).testBit k else m.testBit (k - (t + 1)):=fun k=>by
  show s.toNat.testBit k = _;rw [h1,Nat.testBit_two_pow_mul_add _ hp]
 have hq:0 < 2 ^ t:=bq6 t
 have e1:(s - 1).toNat = 2 ^ (t + 1) * m + (2 ^ t - 1):=by
  have:=s.isLt;rw [BitVec.toNat_sub];show (2 ^ 32 - 1 + s.toNat) % 2 ^ 32 = _;omega
 have hd:∀ k,(s - 1).getLsbD k = if k < t + 1 then (2 ^ t - 1).testBit k else m.testBit (k - (t + 1)):=fun k=>by
  show (s - 1).toNat.testBit k = _;rw [e1,Nat.testBit_two_pow_mul_add _ bqi]
 refine ⟨h2, ?_,fun k hk=>?_, ?_⟩
 · rw [hb,if_pos bqi,Nat.testBit_two_pow_self]
 · rw [hb,if_pos bqi,Nat.testBit_two_pow]
   simp;omega
 apply bnu;intro k hk;rw [bmr,bmr,bob,re _ _ hk,hd k,hb k];by_cases h3:k < t + 1
 · rw [if_pos h3,if_pos h3,Nat.testBit_two_pow,Nat.testBit_two_pow_sub_one]
   by_cases h4:k = t
   · subst h4;simp
   have:¬ t = k:=fun e=>h4 e.symm;simp [this]
 rw [if_neg h3,if_neg h3];have:¬ k = t:=by omega
 simp [hk,this]
def a5t (h:s ≠ 0) (k:Nat) (hk:k < 32):(s &&& (s - 1)).getLsbD k = (decide (k ≠ j4 s) && s.getLsbD k):=by
 rw [(vn h).2.2.2,bmr,bob,re _ _ hk];by_cases e:k = j4 s <;> simp [e,hk,Bool.and_comm]
def ax7 (h:s ≠ 0):aj s = j4 s :: aj (s &&& (s - 1)):=by
 obtain ⟨h1,h2,h3,_⟩:=vn h;unfold aj;rw [a6p List.pairwise_lt_range (bmq.2 h1) h2 h3];congr 1;apply List.filter_congr;intro k hk;rw [a5t h k (bmq.1 hk)]
def adx:aj 0 = []:=by
 unfold aj;rw [bpm];intro k _;simp
def b2j (h:s ≠ 0):(s &&& (s - 1)).toNat < s.toNat:=by
 refine xq (ar.2 fun i hi hb=>?_) fun e=>?_
 · rw [a5t h i hi] at hb
   simp only [bml] at hb;exact hb.2
 have:=a5t h (j4 s) (vn h).1;rw [e,(vn h).2.1] at this;simp at this
end
end
end Go.Hx

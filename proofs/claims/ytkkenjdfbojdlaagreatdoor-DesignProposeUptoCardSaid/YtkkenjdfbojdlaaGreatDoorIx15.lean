/- A part of the proof: Cs5 V5 Cs2 Cs6. -/
import Derived.Lib.TrailingZeros
import Derived.Test.YtkkenjdfbojdlaaGreatDoorIx14
set_option linter.all false
set_option maxRecDepth 100000
set_option maxHeartbeats 1000000
namespace Go.Hx
section
def d9 (s:AS) (i:Int):Bool:=decide (0 <= i /\ i < 32) && s.getLsbD i.toNat
def gm {s:AS} {i:Nat} (h:i < 32):d9 s i = s.getLsbD i:=by
 unfold d9;rw [decide_eq_true bqx];simp
def ajf {s:AS} {i:Int} (h0:0 <= i) (h1:i < 32):decide (az .and .u32 ((asI s).fdiv (2 ^ (min i.toNat 32))) 1 = 1) = d9 s i:=by
 unfold d9;rw [y9,show (1:Int) = asI 1 from rfl,fv,decide_eq_true (show 0 <= i /\ i < 32 from ⟨h0,h1⟩),bov]
 have e:asI (s >>> i.toNat &&& 1) = asI 1 <-> s.getLsbD i.toNat = true:=by
  rw [c7];constructor
  · intro h
    have:=congrArg (fun x:AS=>x.getLsbD 0) h;simpa using this
  intro h;apply bo5;intro k hk;have h1:(1:AS).getLsbD k = decide (k = 0):=by have:=rp 0 k hk;simpa using this
  rw [bn4,bph,h1];by_cases hk0:k = 0
  · subst hk0;simp [h]
  simp [hk0]
 cases hb:s.getLsbD i.toNat with
 | true=>exact decide_eq_true (e.2 hb)
 | false=>exact decide_eq_false fun h=>by rw [e.1 h] at hb;cases hb
def a03 {s:AS} {i:Int} (h:¬ (0 <= i /\ i < 32)):d9 s i = false:=by
 unfold d9;rw [decide_eq_false h];rfl
def apr {n:Nat} (h:n <= 32):jt n = BitVec.ofNat 32 (2 ^ n - 1):=by
 apply bo5;intro k hk;rw [o3 n k hk,BitVec.getLsbD_ofNat,Nat.testBit_two_pow_sub_one];simp [hk]
def aaj {n:Nat} (h:n <= 32):(jt n).toNat = 2 ^ n - 1:=by
 have h2:2 ^ n <= 2 ^ 32:=bo2 bqx h;have h3:0 < 2 ^ n:=bql n;rw [apr h,bqm,bpi bqx]
section
variable {n:Int}
def ep {l:List Fd} (h:b5 n l = 0):0 <= n /\ n <= 16 /\ l.length <= 64 /\ l.all (inU n) = true:=by
 unfold b5 at h;split at h
 · cases h
 split at h
 · cases h
 split at h
 · rename_i h1 h2 h3
   exact ⟨by omega,by omega,by omega,h3⟩
 cases h
def sg (h0:0 <= n) (h1:n <= 16):IntKind.wrap .u32 (1 * 2 ^ (min n.toNat 32)) - 1 = asI (a7 n):=by
 have h2:2 ^ n.toNat <= 2 ^ 16:=bo2 bqx bqx;have h3:0 < 2 ^ n.toNat:=bql _;rw [show IntKind.wrap .u32 (1 * 2 ^ (min n.toNat 32)) = asI ((1:AS) <<< n.toNat) from akl 1 n.toNat];unfold a7 asI;rw [bok bqx,aaj bqx,BitVec.toNat_shiftLeft,Nat.shiftLeft_eq];rw [show (1:AS).toNat = 1 from rfl,Nat.one_mul,bpi bqx];omega
def atz {s:AS} (h0:0 <= n) (h1:n <= 16):(asI s).fdiv (2 ^ (min n.toNat 32)) = 0 <-> sub s (a7 n):=by
 rw [y9,show (0:Int) = asI 0 from rfl,c7];unfold a7;rw [bok bqx];exact (vm bqx).symm
def ww (h0:0 <= n) (h1:n <= 16):0 <= IntKind.wrap .u32 (1 * 2 ^ (min n.toNat 32)) - 1:=by rw [sg h0 h1];exact a6x _
def uf (h0:0 <= n) (h1:n <= 16):IntKind.wrap .u32 (1 * 2 ^ (min n.toNat 32)) - 1 <= 4294967295:=by rw [sg h0 h1];have:=adx (a7 n);omega
def b2g {a b:List AS} (h:a.length = b.length) (hI:∀ j,j < a.length -> decide (a.getD j default = b.getD j default) = true):a = b:=oz h fun j hj=>of_decide_eq_true (hI j hj)
def j7 (n:Int) (l:List Fd) (s:AS):Bool:=decide (b5 n l = 0 /\ sub s (a7 n) /\ clo l s = a7 n)
end
section
variable {n:Int} {l:List Fd} {s:AS}
def adh (h:¬ b5 n l = 0):j7 n l s = false:=decide_eq_false fun e=>h e.1
def b24 (h:b5 n l = 0) (h2:(asI s).fdiv (2 ^ (min n.toNat 32)) = 0):decide (asI (clo l s) = asI (a7 n)) = j7 n l s:=by
 have hv:=ep h;have h3:=(atz hv.1 hv.2.1).1 h2;exact decide_eq_decide.2 ⟨fun e=>⟨h,h3,c7.1 e⟩,fun e=>congrArg asI e.2.2⟩
def aui (h:b5 n l = 0) (h2:¬ (asI s).fdiv (2 ^ (min n.toNat 32)) = 0):j7 n l s = false:=by
 have hv:=ep h;exact decide_eq_false fun e=>h2 ((atz hv.1 hv.2.1).2 e.2.1)
def bcf (h2:¬ az .andNot .u32 (asI s) (asI (a7 n)) = 0):j7 n l s = false:=decide_eq_false fun e=>h2 (ig.2 e.2.1)
def bkh (h:b5 n l = 0) (h2:sub s (a7 n)):decide (asI (clo l s) = asI (a7 n)) = j7 n l s:=decide_eq_decide.2 ⟨fun e=>⟨h,h2,c7.1 e⟩,fun e=>congrArg asI e.2.2⟩
end
def er (n:Int) (l:List Fd) (m:Int):Int:=if b5 n l = 0 then (if m < n then 3 else 0) else b5 n l
structure Dp where
 l:BitVec 8
 r:BitVec 8
deriving Inhabited
def Dp.c (d:Dp):Nat -> PV
 | 0=>.raw (.int .u8 (d.l.toNat:Int))
 | 1=>.raw (.int .u8 (d.r.toNat:Int))
 | _=>.any
abbrev dpl (l:List Dp):PV:=psl 2 Dp.c l
def Dp.fd (n:Int) (d:Dp):Fd:=⟨d.l.setWidth 32 &&& a7 n,d.r.setWidth 32 &&& a7 n⟩
def a7d (b:BitVec 8) (t:AS):az .and .u32 (b.toNat:Int) (asI t) = asI (b.setWidth 32 &&& t):=by
 have h:=b.isLt
 have e:asI (b.setWidth 32) = (b.toNat:Int):=by
  unfold asI;rw [BitVec.toNat_setWidth,bpi bqx]
 rw [<- fv,e]
end
section
open Go.Proofs
def oq:goodFn brj 123:=wgx Tryz.func123
def a2g (s:AS) (i:Int):a6 brj 123 [pA s,pI i] (a8 [pB (d9 s i)]):=by
 refine hpx (nt:=18) Tryz.func123 ?_;refine w_9 ?_;refine ai rfl rfl (fun r0=>?_) (fun r0=>?_)
 ·
  have h0:=tz1 r0;(iterate 2 refine qy ?_ (hg:=(gtt r0)));refine w_2 ?_;refine ai rfl rfl (fun r1=>?_) (fun r1=>?_)
  ·
   have h1:=tz1 (bt r0 r1);(iterate 5 refine qy ?_ (hg:=(gtt r1)));refine w_3 ?_
   exact hx8 rfl rfl rfl (⟨ccb (by first | exact dn bqy (ajf bqx bqx) | exact (a03 bqx).symm),trivial⟩)
  have h1:=tz2 (bt r0 r1);(iterate 5 refine k9 (gft r1) ?_);refine rq rfl rfl rfl rfl rfl ?_ (hp:=r1);refine w_2 ?_
  exact hx8 rfl rfl rfl (⟨ccb (by first | exact dn bqy (ajf bqx bqx) | exact (a03 bqx).symm),trivial⟩)
 have h0:=tz2 r0;(iterate 2 refine k9 (gft r0) ?_);refine rq rfl rfl rfl rfl rfl ?_ (hp:=r0);refine qy ?_;(iterate 5 refine k9 rfl ?_);refine w_3 ?_
 exact hx8 rfl rfl rfl (⟨ccb (by first | exact dn bqy (ajf bqx bqx) | exact (a03 bqx).symm),trivial⟩)
def bez (n:Int) (h0:0 <= n) (h1:n <= 16):a6 brj 136 [pI n] (a8 [pA (a7 n)]):=by
 refine hpx (nt:=6) Tryz.func136 ?_;refine w_8 ?_;refine rq rfl rfl rfl rfl rfl ?_ (hp:=⟨ww h0 h1,uf h0 h1⟩);refine v_2 ?_;exact ⟨cci (sg h0 h1),trivial⟩
def beu (n:Int) (h0:0 <= n) (h1:n <= 16):a6 brj 74 [pI n] (a8 [pA (a7 n)]):=by
 refine hpx (nt:=6) Tryz.func74 ?_;refine w_8 ?_;refine rq rfl rfl rfl rfl rfl ?_ (hp:=⟨ww h0 h1,uf h0 h1⟩);refine v_2 ?_;exact ⟨cci (sg h0 h1),trivial⟩
def alt:goodFn brj 77:=wgx Tryz.func77
def auu (n:Int) (h0:0 <= n) (h1:n <= 16):a6 brj 77 [pI n] (a8 [pA (a7 n)]):=by
 refine hpx (nt:=6) Tryz.func77 ?_;refine w_8 ?_;refine rq rfl rfl rfl rfl rfl ?_ (hp:=⟨ww h0 h1,uf h0 h1⟩);refine v_2 ?_;exact ⟨cci (sg h0 h1),trivial⟩
def aei:goodFn brj 83:=wgx Tryz.func83
def aud (l:List Fd) (s p:AS):a6 brj 83 [pP (fdl l),pA s,pA p] (a8 [pB (decide (sub p (clo l s)))]):=by
 refine hpx (nt:=12) Tryz.func83 ?_;refine w_9 ?_;refine qcx zm (zb l s) ?_;refine qcx mf (su p (clo l s)) ?_;refine v_2 ?_;exact CoL.refl _
def brc {p:Prop} (h:p:=by unfold er;first | (rw [if_neg bqy]) | (rw [if_pos bqx,if_pos bqx]) | (rw [if_pos bqx,if_neg bqx])):p:=h
def bia (n:Int) (l:List Fd) (m:Int):a6 brj 86 [pI n,pP (fdl l),pI m] (a8 [pI (er n l m)]):=by
 refine hpx (nt:=17) Tryz.func86 ?_;refine w_9 ?_;refine qcx a2u (z7 n l) ?_;refine w_7 ?_;refine hcn (fun h0=>?_) (fun h0=>?_)
 · refine v_5 ?_;exact ⟨cci brc,trivial⟩
 refine w_8 ?_;refine hcd (fun h1=>?_) (fun h1=>?_)
 · refine v_4 ?_;exact ⟨cci brc,trivial⟩
 refine v_5 ?_;exact ⟨cci brc,trivial⟩
def bdi (n:Int) (l:List Fd):a6 brj 76 [pI n,pP (fdl l)] (a8 [pI (er n l 8)]):=by
 refine hpx (nt:=14) Tryz.func76 ?_;refine w_9 ?_;refine qcx wl (zz n l) ?_;refine w_7 ?_;refine hcn (fun h0=>?_) (fun h0=>?_)
 · refine v_5 ?_;exact ⟨cci brc,trivial⟩
 refine w_7 ?_;refine hcd (fun h1=>?_) (fun h1=>?_)
 · refine v_4 ?_;exact ⟨cci brc,trivial⟩
 refine v_5 ?_;exact ⟨cci brc,trivial⟩
def aep:goodFn brj 72:=wgx Tryz.func72
def ajw (n:Int) (l:List Fd) (s:AS):a6 brj 72 [pI n,pP (fdl l),pA s] (a8 [pB (j7 n l s)]):=by
 refine hpx (nt:=25) Tryz.func72 ?_;refine w_8 ?_;refine qcx wl (zz n l) ?_;refine w_2 ?_;refine ai rfl rfl (fun r0=>?_) (fun r0=>?_)
 ·
  have h0:=tz1 r0;obtain ⟨hv0,hv1,_,_⟩:=ep h0;(iterate 4 refine qy ?_ (hg:=(gtt r0)));refine w_2 ?_;refine ai rfl rfl (fun r1=>?_) (fun r1=>?_)
  ·
   have h1:=tz1 (bt r0 r1);(iterate 2 refine qy ?_ (hg:=(gtt r1)));refine qcx ur (xj l s) ?_ (hg:=(gtt r1));refine qy ?_ (hg:=(gtt r1))
   refine qcx (wgx Tryz.func136) (bez n (ep bqy).1 (ep bqy).2.1) ?_ (hg:=(gtt r1));refine qy ?_ (hg:=(gtt r1));refine v_3 ?_;exact ⟨ccb (by first | exact dn bqy (b24 bqy bqy) | exact (adh bqy).symm | exact (aui bqy bqy).symm),trivial⟩
  have h1:=tz2 (bt r0 r1);(iterate 6 refine k9 (gft r1) ?_);refine rq rfl rfl rfl rfl rfl ?_ (hp:=r1);refine w_2 ?_
  exact hx8 rfl rfl rfl (⟨ccb (by first | exact dn bqy (b24 bqy bqy) | exact (adh bqy).symm | exact (aui bqy bqy).symm),trivial⟩)
 have h0:=tz2 r0;(iterate 4 refine k9 (gft r0) ?_);refine rq rfl rfl rfl rfl rfl ?_ (hp:=r0);refine qy ?_;(iterate 6 refine k9 rfl ?_);refine w_3 ?_
 exact hx8 rfl rfl rfl (⟨ccb (by first | exact dn bqy (b24 bqy bqy) | exact (adh bqy).symm | exact (aui bqy bqy).symm),trivial⟩)
def avw (n:Int) (l:List Fd) (s:AS):a6 brj 143 [pI n,pP (fdl l),pA s] (a8 [pB (j7 n l s)]):=by
 refine hpx (nt:=24) Tryz.func143 ?_;refine w_4 ?_;refine db (ι:=Unit) (ka 0 (ka 1 (ka 2 kn))) km (fun _i=>⟨[],[]⟩) (fun _i=>b5 n l = 0 /\ sub s (a7 n)) ?_ ?_
 ·
  refine w_4 ?_;refine qcx a2u (z7 n l) ?_;refine w_2 ?_;refine ai rfl rfl (fun r0=>?_) (fun r0=>?_)
  ·
   have h0:=tz2 (cu r0);(iterate 5 refine k9 (gtf r0) ?_);refine rq rfl rfl rfl rfl rfl ?_ (hp:=r0);refine w_6 ?_
   exact hx8 rfl rfl rfl (⟨ccb (by first | exact (adh bqy).symm | exact (bcf bqy).symm),trivial⟩)
  have h0:=tz1 (ct r0);(iterate 2 refine qy ?_ (hg:=(gff r0)));refine qcx lr (lj n) ?_ (hg:=(gff r0));(iterate 2 refine qy ?_ (hg:=(gff r0)));refine w_2 ?_;refine aj _ rfl (fun r1=>?_) (fun r1=>?_)
  · have h1:=tz2 (cu (av r0 r1));refine v_4 ?_;exact ⟨ccb (by first | exact (adh bqy).symm | exact (bcf bqy).symm),trivial⟩
  have h1:=tz1 (ct (av r0 r1));refine d6 ?_;refine ⟨(), ?_, ?_⟩
  · exact ⟨by assumption,ig.1 bqx⟩
  exact kk
 rintro _ hj;refine w_4 ?_;refine qcx zm (zb l s) ?_;refine qy ?_;refine qcx lr (lj n) ?_;refine v_3 ?_;exact ⟨ccb (bkh hj.1 hj.2),trivial⟩
def bg9 (a b:List AS):a6 brj 40 [pP (asl a),pP (asl b)] (a8 [pB (decide (a = b))]):=by
 refine hpx (nt:=26) Tryz.func40 ?_;refine cg ?_;refine ca 0 rfl fun hn=>?_;refine en ?_;refine hcn (fun h0=>?_) (fun h0=>?_)
 · refine v_4 ?_;exact ⟨ccb (decide_eq_false fun e=>by subst e;omega).symm,trivial⟩
 refine d6 ?_;refine db (ι:=Unit) kn km (fun _i=>⟨[],[]⟩) (fun _i=>a = b) ?_ ?_
 ·
  refine w_5 ?_;refine ae (ι:=Nat) (ka 0 (ka 1 kn)) km (fun i=>⟨[(5,some (vI i))],[]⟩) (fun i=>i <= a.length /\ (∀ j,j < i -> decide (a.getD j default = b.getD j default) = true)) (fun i=>a.length - i) (0) (⟨bms _,bq⟩) kk ?_;rintro i ⟨hi,hI⟩;refine w_8 ?_;refine hcd (fun h1=>?_) (fun h1=>?_)
  ·
   refine pg ?_;refine hcn (fun h2=>?_) (fun h2=>?_)
   · refine v_4 ?_;exact ⟨ccb (decide_eq_false fun e=>by subst e;simp_all).symm,trivial⟩
   refine w_6 ?_;refine lpz (i + 1) kk ?_;exact ⟨by show i + 1 <= _;omega,aw hI (decide_eq_true (c7.1 h2))⟩
  refine dj ?_;refine ⟨(), ?_, ?_⟩
  · exact b2g bqx fun j hj=>hI j bqx
  exact ⟨trivial,trivial⟩
 rintro _ hj;refine v_4 ?_;exact ⟨ccb (decide_eq_true hj).symm,trivial⟩
end
section
def bsz (s:AS):Nat:=(List.range 32).countP fun i=>s.getLsbD i
def bef (a b:AS):Bool:=decide (bsz a < bsz b) || (decide (bsz a = bsz b) && decide (a.toNat < b.toNat))
def a2v (a:AS):bef a a = false:=by simp [bef]
def nn {a b:AS}:bef a b = true <-> bsz a < bsz b \/ (bsz a = bsz b /\ a.toNat < b.toNat):=by simp [bef]
def ul {a b c:AS} (h:bef a b = true) (k:bef b c = true):bef a c = true:=by
 rw [nn] at *;omega
def a95 {a b:AS} (h:a ≠ b):bef a b = true \/ bef b a = true:=by
 have hn:a.toNat ≠ b.toNat:=fun e=>h (bnp e);rw [nn,nn];omega
def b1f {a b:AS} (h:bef a b = true):bef b a = false:=by
 rw [bmx];intro k;have:=ul h k;rw [a2v] at this;cases this
def qb (l:List AS):Prop:=l.Pairwise fun a b=>bef a b = true
def oo:∀ {l k:List AS},qb l -> qb k -> (∀ x,x ∈ l <-> x ∈ k) -> l = k
 | [],[],_,_,_=>rfl
 | [],y :: k,_,_,h=>absurd ((h y).2 (bnt ..)) br1
 | x :: l,[],_,_,h=>absurd ((h x).1 (bnt ..)) br1
 | x :: l,y :: k,hl,hk,h=>by
  obtain ⟨h1,h2⟩:=bnu.1 hl;obtain ⟨k1,k2⟩:=bnu.1 hk
  have e:x = y:=by
   rcases bn0.1 ((h x).1 (bnt ..)) with e | hx
   · exact e
   rcases bn0.1 ((h y).2 (bnt ..)) with e | hy
   · exact e.symm
   have:=b1f (k1 x hx);rw [h1 y hy] at this;cases this
  subst e;congr 1;refine oo h2 k2 fun z=>?_;constructor
  · intro hz
    rcases bn0.1 ((h z).1 (bnq _ hz)) with e | hz'
    · subst e
      have:=h1 z hz;rw [a2v] at this;cases this
    exact hz'
  intro hz
  rcases bn0.1 ((h z).2 (bnq _ hz)) with e | hz'
  · subst e
    have:=k1 z hz;rw [a2v] at this;cases this
  exact hz'
def mw (x:AS):List AS -> List AS
 | []=>[x]
 | y :: l=>if x = y then y :: l else if bef x y = true then x :: y :: l else y :: mw x l
def a0r {x z:AS}:∀ {l:List AS},z ∈ mw x l <-> z = x \/ z ∈ l
 | []=>by simp [mw]
 | y :: l=>by
  unfold mw;split
  · rename_i e
    subst e;simp
  split
  · simp
  rw [bn0,a0r,bn0];constructor
  · rintro (h | h | h) <;> simp [h]
  rintro (h | h | h) <;> simp [h]
def a12 {x:AS}:∀ {l:List AS},qb l -> qb (mw x l)
 | [],_=>by simp [mw,qb]
 | y :: l,h=>by
  obtain ⟨h1,h2⟩:=bnu.1 h;unfold mw;split
  · exact h
  split
  · rename_i hxy
    refine bnu.2 ⟨fun z hz=>?_,h⟩
    rcases bn0.1 hz with rfl | hz
    · exact hxy
    exact ul hxy (h1 z hz)
  rename_i hne hxy;refine bnu.2 ⟨fun z hz=>?_,a12 h2⟩
  rcases a0r.1 hz with rfl | hz
  · exact (a95 hne).resolve_left hxy
  exact h1 z hz
def ord (l:List AS):List AS:=l.foldl (fun o x=>mw x o) []
def aft:∀ {l o:List AS},qb o -> qb (l.foldl (fun o x=>mw x o) o) /\ ∀ z,z ∈ l.foldl (fun o x=>mw x o) o <-> z ∈ o \/ z ∈ l
 | [],o,h=>⟨h,fun z=>by simp⟩
 | x :: l,o,h=>by
  obtain ⟨h1,h2⟩:=aft (l:=l) (a12 (x:=x) h);refine ⟨h1,fun z=>?_⟩;show z ∈ l.foldl (fun o x=>mw x o) (mw x o) <-> _;rw [h2 z,a0r,bn0];constructor
  · rintro ((h | h) | h) <;> simp [h]
  rintro (h | h | h) <;> simp [h]
def ip (l:List AS):qb (ord l):=(aft (o:=[]) List.Pairwise.nil).1
def jb {l:List AS} {z:AS}:z ∈ ord l <-> z ∈ l:=by
 show z ∈ l.foldl (fun o x=>mw x o) [] <-> _;rw [(aft (l:=l) (o:=[]) List.Pairwise.nil).2 z];simp
def ao1 {l k:List AS} (hk:qb k) (h:∀ z,z ∈ k <-> z ∈ l):k = ord l:=oo hk (ip l) fun z=>by rw [h z,jb]
end
section
def ak (s:AS):List Nat:=(List.range 32).filter fun i=>s.getLsbD i
def iC:Nat -> Nat -> PV:=fun n _=>.raw (.int .i64 (n:Int))
abbrev il (l:List Nat):PV:=psl 1 iC l
def uq (s:AS):bsz s = (ak s).length:=by unfold bsz ak;rw [List.countP_eq_length_filter]
section
variable {s:AS}
def jc {i:Nat}:i ∈ ak s <-> i < 32 /\ s.getLsbD i = true:=by simp [ak,bol,bn3]
def a7s {p:Nat -> Bool} {t:Nat}:∀ {l:List Nat},l.Pairwise (· < ·) -> t ∈ l -> p t = true -> (∀ k,k < t -> p k = false) -> l.filter p = t :: l.filter fun k=>decide (k ≠ t) && p k
 | [],_,h,_,_=>by cases h
 | a :: l,hp,hm,h1,h2=>by
  obtain ⟨q1,q2⟩:=bnu.1 hp;by_cases ha:a = t
  · subst ha
    have e:l.filter p = l.filter fun k=>decide (k ≠ a) && p k:=by
     apply List.filter_congr;intro k hk;have:=q1 k hk;rw [decide_eq_true bqx,bov]
    simp [bns,h1,e]
  have hm':t ∈ l:=by
   rcases bn0.1 hm with h | h
   · exact absurd h.symm ha
   exact h
  have:=q1 t hm';have hpa:=h2 a this;simp [bns,hpa,a7s q2 hm' h1 h2]
def j2 (s:AS):Nat:=Lib.ctz 32 s.toNat
def b2w (h:s ≠ 0):∃ m,s.toNat = 2 ^ (j2 s + 1) * m + 2 ^ j2 s /\ j2 s < 32:=by
 have h0:s.toNat ≠ 0:=fun e=>h (bnp e);obtain ⟨m,h1,h2⟩:=Lib.ctzFrom_spec 32 s.toNat bqx s.isLt;have e:j2 s = Lib.ctzFrom 32 s.toNat:=by unfold j2 Lib.ctz;rw [if_neg h0]
 rw [e];refine ⟨m, ?_,h2⟩;rw [bqe];rw [h1] at *;simp only [Nat.mul_add,Nat.mul_assoc,bqr] at *;exact h1
def wu (h:s ≠ 0):j2 s < 32 /\ s.getLsbD (j2 s) = true /\ (∀ k,k < j2 s -> s.getLsbD k = false) /\ s &&& (s - 1) = s &&& ~~~((1:AS) <<< j2 s):=by
 obtain ⟨m,h1,h2⟩:=b2w h;generalize j2 s = t at *;have hp:2 ^ t < 2 ^ (t + 1):=Nat.pow_lt_pow_right bqx bqx
 have hb:∀ k,s.getLsbD k = if k < t + 1 then (2 ^ t).testBit k else m.testBit (k - (t + 1)):=fun k=>by
  show s.toNat.testBit k = _;rw [h1,Nat.testBit_two_pow_mul_add _ hp]
 have hq:0 < 2 ^ t:=bql t
 have e1:(s - 1).toNat = 2 ^ (t + 1) * m + (2 ^ t - 1):=by
  have:=s.isLt;rw [BitVec.toNat_sub];show (2 ^ 32 - 1 + s.toNat) % 2 ^ 32 = _;omega
 have hd:∀ k,(s - 1).getLsbD k = if k < t + 1 then (2 ^ t - 1).testBit k else m.testBit (k - (t + 1)):=fun k=>by
  show (s - 1).toNat.testBit k = _;rw [e1,Nat.testBit_two_pow_mul_add _ bqx]
 refine ⟨h2, ?_,fun k hk=>?_, ?_⟩
 · rw [hb,if_pos bqx,Nat.testBit_two_pow_self]
 · rw [hb,if_pos bqx,Nat.testBit_two_pow]
   simp;omega
 apply bo5;intro k hk;rw [bn4,bn4,boo,rp _ _ hk,hd k,hb k];by_cases h3:k < t + 1
 · rw [if_pos h3,if_pos h3,Nat.testBit_two_pow,Nat.testBit_two_pow_sub_one]
   by_cases h4:k = t
   · subst h4;simp
   have:¬ t = k:=fun e=>h4 e.symm;simp [this]
 rw [if_neg h3,if_neg h3];have:¬ k = t:=by omega
 simp [hk,this]
def a7j (h:s ≠ 0) (k:Nat) (hk:k < 32):(s &&& (s - 1)).getLsbD k = (decide (k ≠ j2 s) && s.getLsbD k):=by
 rw [(wu h).2.2.2,bn4,boo,rp _ _ hk];by_cases e:k = j2 s <;> simp [e,hk,Bool.and_comm]
def azt (h:s ≠ 0):ak s = j2 s :: ak (s &&& (s - 1)):=by
 obtain ⟨h1,h2,h3,_⟩:=wu h;unfold ak;rw [a7s List.pairwise_lt_range (bn3.2 h1) h2 h3];congr 1;apply List.filter_congr;intro k hk;rw [a7j h k (bn3.1 hk)]
def adi:ak 0 = []:=by
 unfold ak;rw [bpw];intro k _;simp
def b2h (h:s ≠ 0):(s &&& (s - 1)).toNat < s.toNat:=by
 refine a0n (ap.2 fun i hi hb=>?_) fun e=>?_
 · rw [a7j h i hi] at hb
   simp only [bmw] at hb;exact hb.2
 have:=a7j h (j2 s) (wu h).1;rw [e,(wu h).2.1] at this;simp at this
end
end
end Go.Hx

/- A part of the proof: Hx19 Hx23 Cs1 Cs3 V1 Cs4 V2 Cl1 V3 Cl2 V4. -/
import Derived.Deep.AppendLies
import Derived.Laws.CopyRow
import Derived.Shelf.Spec.SlicesInsertGrow
import Derived.Test.YtkkenjdfbojdlaaGreatDoorKx13
set_option linter.all false
set_option maxRecDepth 100000
set_option maxHeartbeats 1000000
namespace Go.Hx
section
open Go.Proofs Go.Lib Go.RowKit
def bgf (w:World) (o:Obj) {r:Nat} (h:r < w.heap.size):(w.alloc o).heap[r]? = w.heap[r]?:=by
 show (w.heap.push o)[r]? = _;rw [bqb h,bnb h]
def blo (k:Nat) (xs vs:List Value):List Value:=xs.take k ++ vs ++ xs.drop k
structure bl5 (w w':World) (T s:Nat) (own v:Value) (n:Nat) (xs:List Value):Prop where
 row:w'.ownsRow 0 T s v (n + 1) xs
 bl:Below 0 w w'
 out:∀ g,g < w.heap.size -> cr own ≠ some g -> w'.heap[g]? = w.heap[g]?
 at_:∀ g,cr v = some g -> w.heap.size <= g \/ cr own = some g
def blw (i:Nat) (F G:Nat -> Nat -> PV):Nat -> Nat -> PV:=fun k j=>if k < i then F k j else if k = i then G 0 j else F (k - 1) j
def iz {id q:Nat} {x ob:aa} (h:lk [(q,x)] id = some ob):id = q /\ ob = x:=by
 simp only [lk] at h;by_cases hk:q = id
 · subst hk
   simp at h;exact ⟨rfl,h.symm⟩
 have:Nat.beq q id = false:=by
  rw [bmm];exact fun hb=>hk (bn5 hb)
 rw [this] at h;cases h
structure blr (c:Ctx) (w w':World) (T s a:Nat) (v:Value) (n:Nat) (ys:List Value):Prop where
 row:w'.ownsRow 0 T s v (n + 1) ys
 bl:Below 0 w w'
 out:∀ g,g < w.heap.size -> ¬ c.blk a g -> w'.heap[g]? = w.heap[g]?
 at_:∀ g,cr v = some g -> w.heap.size <= g \/ c.blk a g
def b1l {P:Program} {f:FuncId} {T s a:Nat} {y:Value} {F:Nat -> Nat -> PV} (hs:0 < s)
 (h:∀ (w:World) (ad:Option Addr),Calls P f #[.slice ad 0 0,y] w fun e w'=>∃ v,e = .returned v /\ Below w.heap.size w w' /\ (v = .slice ad 0 0 \/ w'.ownsRow 0 T s v 0 [] /\ ∀ g,cr v = some g -> w.heap.size <= g)) :
 d4 P f [.one (.p (ll (.slice none 0 0))), .one (.p (.raw y))] [] (.v (.one (.ref a 0))) [(a, .arr true s T 0 F)] []:=by
 intro w c us hM hrep
 obtain ⟨ad,rfl⟩:∃ ad,us = [.slice ad 0 0,y]:=by
  match us,hrep with
  | [u0,u1],⟨h0,h1,_⟩ =>
   obtain ⟨ad,cap,hv,_,_,hc,_⟩:=h0;obtain rfl:cap = 0:=hc rfl;exact ⟨ad,by rw [hv,show u1 = y from h1.1]⟩
 refine (h w ad).mono ?_;rintro e w' ⟨v,rfl,hb,hor⟩;have la:lk [(a,aa.arr true s T 0 F)] a = some (.arr true s T 0 F):=by simp [lk]
 have him:∀ q ob,c.imm q = some ob -> q < w.heap.size:=fun q ob hq=>(bme.1 (hM.imm q ob hq)).1
 have hform:v.oneCell' = true:=by
  rcases hor with rfl | ⟨hrow,_⟩
  · rfl
  rcases hrow.2 with ⟨hv,_⟩ | ⟨g,cap,cur,hv,_⟩ <;> (subst hv;rfl)
 have hbk:∃ bk:Nat -> Prop,(∀ g,bk g -> w.heap.size <= g) /\ (bk = j9 v /\ w'.ownsRow 0 T s v 0 [] \/ bk = noB /\ b4 c.imm (.sl 0 s true F) v):=by
  rcases hor with rfl | ⟨hrow,hat⟩
  · exact ⟨noB,fun g hg=>hg.elim, .inr ⟨rfl,ad,0,rfl,bmd _,bmh _,fun _=>rfl,fun h=>absurd h (bps 0)⟩⟩
  exact ⟨j9 v,hat, .inl ⟨rfl,hrow⟩⟩
 obtain ⟨bk,hat,hok⟩:=hbk;refine ⟨v,{ c with own:=fun q=>if q = a then v else c.own q,blk:=fun q=>if q = a then bk else c.blk q },rfl,⟨hform,fun l hl=>(by cases (iz hl).2),fun ob s1 e1 n1 ho1 hd=>?_⟩,⟨fun id ob hl=>?_,fun id id' ob ob' q hl hl' _ _=>by rw [(iz hl).1,(iz hl').1],fun q ob hq=>(hb.block q (him q ob hq)).trans (hM.imm q ob hq),fun id ob q hl hq=>?_⟩,⟨hb.os,hb.tape,hb.output,hb.size,fun k hk=>absurd hk (bmf k),hb.drawn⟩,fun q hq _=>⟨hb.block q hq,rfl⟩,fun id ob q hl hq=>?_,fun id hid=>absurd hid bqm⟩
 · obtain ⟨_,rfl⟩:=iz ho1
   simp only [aa.dim,bm9,bmj] at hd;obtain ⟨rfl,rfl,rfl⟩:=hd;exact ⟨bmd _,fun _=>by simp⟩
 · obtain ⟨rfl,rfl⟩:=iz hl
   rcases hok with ⟨h1,h2⟩ | ⟨h1,h2⟩
   · exact ⟨hs,bmh _, .inl ⟨by simpa using h1,[],by simpa using h2,fun i j hi=>by omega⟩⟩
   exact ⟨hs,bmh _, .inr ⟨.inr rfl,by simpa using h1,by simpa using h2⟩⟩
 · obtain ⟨rfl,_⟩:=iz hl
   have hq':bk q:=by simpa using hq
   show c.imm q = none
   cases hc:c.imm q with
   | none=>rfl
   | some ob=>have:=him q ob hc;have:=hat q hq';omega
 obtain ⟨rfl,_⟩:=iz hl;have hq':bk q:=by simpa using hq
 exact .inl (hat q hq')
def HE (nt:Nat) (st:HSt) (Q:HSt -> Prop):Prop:=∀ w0 m0 a w,Rel w0 m0 nt st.den a w -> ∃ st':HSt,Q st' /\ Rel w0 m0 nt st'.den a w
def bb7 {nt:Nat} {st:HSt} {Q:HSt -> Prop} (h:Q st):HE nt st Q:=fun _ _ _ _ hr=>⟨st,h,hr⟩
end
section
open Go.RowKit
abbrev AS:=BitVec 32
abbrev asI (s:AS):Int:=(s.toNat:Int)
def asC (s:AS):PV:=.raw (.int .u32 (asI s))
def aoq {n:Int} (h0:0 <= n) (h1:n < 4294967296):IntKind.wrap .u32 n = n:=wd (by simp only [inR,mo,o7];omega)
def ae8 (s:AS):asI s < 4294967296:=by
 have:=s.isLt;unfold asI;omega
def a6w (s:AS):0 <= asI s:=bom _
def nr (s:AS):BitVec.ofInt 32 (asI s) = s:=by
 unfold asI;rw [BitVec.ofInt_natCast,BitVec.ofNat_toNat,BitVec.setWidth_eq]
def c6 {a b:AS}:asI a = asI b <-> a = b:=by
 unfold asI;rw [Int.ofNat_inj];exact BitVec.toNat_inj
def a4r (s:AS):IntKind.wrap .u32 (s.toNat:Int) = asI s:=aoq (a6w s) (ae8 s)
def fj (a b:AS):ay .and .u32 (asI a) (asI b) = asI (a &&& b):=by
 show IntKind.wrap .u32 ((BitVec.ofInt 32 (asI a) &&& BitVec.ofInt 32 (asI b)).toNat:Int) = _;rw [nr,nr,a4r]
def bOr (a b:AS):ay .or .u32 (asI a) (asI b) = asI (a ||| b):=by
 show IntKind.wrap .u32 ((BitVec.ofInt 32 (asI a) ||| BitVec.ofInt 32 (asI b)).toNat:Int) = _;rw [nr,nr,a4r]
def auv (a b:AS):ay .xor .u32 (asI a) (asI b) = asI (a ^^^ b):=by
 show IntKind.wrap .u32 ((BitVec.ofInt 32 (asI a) ^^^ BitVec.ofInt 32 (asI b)).toNat:Int) = _;rw [nr,nr,a4r]
def i7 (a b:AS):ay .andNot .u32 (asI a) (asI b) = asI (a &&& ~~~b):=by
 show IntKind.wrap .u32 ((BitVec.ofInt 32 (asI a) &&& ~~~BitVec.ofInt 32 (asI b)).toNat:Int) = _;rw [nr,nr,a4r]
def yf (a:AS) (n:Nat):(asI a).fdiv (2 ^ (min n 32)) = asI (a >>> n):=by
 have e:(2:Int) ^ (min n 32) = ((2 ^ (min n 32):Nat):Int):=by rw [Int.natCast_pow];rfl
 rw [e];unfold asI;rw [Int.fdiv_eq_ediv_of_nonneg _ (bom _),<- Int.natCast_ediv,bq0,bpw];by_cases h:n <= 32
 · rw [bo5 h]
 rw [Nat.min_eq_right bqi];have h1:=a.isLt;have h2:2 ^ 32 <= 2 ^ n:=bow bqi bqi;rw [Nat.div_eq_of_lt bqi,Nat.div_eq_of_lt (bok bqi h2)]
def am5 (a:AS) (n:Nat):IntKind.wrap .u32 (asI a * 2 ^ (min n 32)) = asI (a <<< n):=by
 have e:asI a * (2:Int) ^ (min n 32) = ((a.toNat * 2 ^ (min n 32):Nat):Int):=by rw [Int.natCast_mul,Int.natCast_pow];rfl
 rw [e]
 have hw:∀ m:Nat,IntKind.wrap .u32 (m:Int) = ((m % 4294967296:Nat):Int):=by
  intro m;simp [IntKind.wrap,IntKind.signed,IntKind.bits]
 rw [hw];unfold asI;rw [BitVec.toNat_shiftLeft,Nat.shiftLeft_eq];by_cases h:n <= 32
 · rw [bo5 h]
 rw [Nat.min_eq_right bqi];have h1:a.toNat * 2 ^ 32 % 2 ^ 32 = 0:=Nat.mul_mod_left _ _
 have h2:a.toNat * 2 ^ n % 2 ^ 32 = 0:=by
  obtain ⟨k,rfl⟩:∃ k,n = k + 32:=⟨n - 32,by omega⟩;rw [Nat.pow_add,<- Nat.mul_assoc];exact Nat.mul_mod_left _ _
 have h1:a.toNat * 2 ^ 32 % 4294967296 = 0:=h1;rw [h1,h2]
end
section
structure Fd where
 lhs:AS
 rhs:AS
instance:Inhabited Fd:=⟨⟨0,0⟩⟩
theorem Fd.eq_iff {a b:Fd}:a = b <-> a.lhs = b.lhs /\ a.rhs = b.rhs:=by cases a;cases b;simp
instance:DecidableEq Fd:=fun a b=>decidable_of_iff _ (Fd.eq_iff (a:=a) (b:=b)).symm
def Fd.c (x:Fd):Nat -> PV
 | 0=>asC x.lhs
 | 1=>asC x.rhs
 | _=>.any
def sub (a b:AS):Prop:=a &&& ~~~b = 0
instance:DecidablePred fun p:AS × AS=>sub p.1 p.2:=fun p=>inferInstanceAs (Decidable (_ = _))
instance {a b:AS}:Decidable (sub a b):=inferInstanceAs (Decidable (_ = _))
section
variable {a b:AS}
def ar:sub a b <-> ∀ i,i < 32 -> a.getLsbD i = true -> b.getLsbD i = true:=by
 unfold sub;constructor
 · intro h i hi ha
   have:=congrArg (fun x:AS=>x.getLsbD i) h;simp only [bmr,bob,hi,ha,decide_true,boi] at this;simpa using this
 intro h;apply bnu;intro i hi;have:=h i hi;simp only [bmr,bob,hi,decide_true,boi];cases ha:a.getLsbD i <;> cases hb:b.getLsbD i <;> simp_all
def fh (a:AS):sub a a:=ar.2 fun _ _ h=>h
def d8 {c:AS} (h:sub a b) (k:sub b c):sub a c:=ar.2 fun i hi ha=>ar.1 k i hi (ar.1 h i hi ha)
def qj:sub a (a ||| b):=ar.2 fun i hi ha=>by simp [ha]
def zt:sub b (a ||| b):=ar.2 fun i hi ha=>by simp [ha]
def sm {c:AS} (h:sub a c) (k:sub b c):sub (a ||| b) c:=ar.2 fun i hi ha=>by
 rw [bo4,bnz] at ha
 rcases ha with ha | ha
 · exact ar.1 h i hi ha
 exact ar.1 k i hi ha
def dt (h:sub a b) (k:sub b a):a = b:=by
 apply bnu;intro i hi;have h1:=ar.1 h i hi;have h2:=ar.1 k i hi;cases ha:a.getLsbD i <;> cases hb:b.getLsbD i <;> simp_all
def acz (h:sub a b):a.toNat <= b.toNat:=by
 have e:a ||| b = b:=dt (sm h (fh b)) zt
 have:a.toNat <= (a ||| b).toNat:=by rw [BitVec.toNat_or];exact Nat.left_le_or
 rwa [e] at this
def xq (h:sub a b) (hne:a ≠ b):a.toNat < b.toNat:=by
 rcases bot (acz h) with h | h
 · exact h
 exact absurd (bng h) hne
def b67:sub a b <-> a &&& b = a:=by
 rw [ar];constructor
 · intro h
   apply bnu;intro i hi;have:=h i hi;rw [bmr];cases ha:a.getLsbD i <;> simp_all
 intro h i hi ha;have:=congrArg (fun x:AS=>x.getLsbD i) h;simp only [bmr,ha,boi] at this;exact this
def ge (s:AS) (f:Fd):AS:=if sub f.lhs s then s ||| f.rhs else s
def dp (l:List Fd) (s:AS):AS:=l.foldl ge s
variable {s:AS}
def ae5 {f:Fd}:sub s (ge s f):=by
 unfold ge;split
 · exact qj
 exact fh s
def nx:∀ {l:List Fd} {s:AS},sub s (dp l s)
 | [],s=>fh s
 | f :: l,s=>d8 ae5 (nx (l:=l) (s:=ge s f))
def clF (l:List Fd):Nat -> AS -> AS
 | 0,s=>s
 | n + 1,s=>if dp l s = s then s else clF l n (dp l s)
def clo (l:List Fd) (s:AS):AS:=clF l 4294967296 s
variable {l:List Fd}
def ana:∀ {n m:Nat} {s:AS},4294967296 - s.toNat <= n -> 4294967296 - s.toNat <= m -> clF l n s = clF l m s
 | 0,m,s,hn,hm=>by have:=s.isLt;omega
 | n + 1,0,s,hn,hm=>by have:=s.isLt;omega
 | n + 1,m + 1,s,hn,hm=>by
  unfold clF;split
  · rfl
  rename_i hne;have:=xq (nx (l:=l) (s:=s)) (fun e=>hne e.symm);exact ana bqi bqi
def aq9 (h:dp l s = s):clo l s = s:=by
 show clF l (4294967295 + 1) s = s;unfold clF;rw [if_pos h]
def alq:clo l (dp l s) = clo l s:=by
 by_cases h:dp l s = s
 · rw [h]
 have e:clo l s = clF l 4294967295 (dp l s):=by
  show clF l (4294967295 + 1) s = _;rw [clF,if_neg h]
 rw [e];have:=xq (nx (l:=l) (s:=s)) (fun e=>h e.symm);exact ana bqi bqi
def adn:∀ {n:Nat} {s:AS},4294967296 - s.toNat <= n -> dp l (clF l n s) = clF l n s
 | 0,s,hn=>by have:=s.isLt;omega
 | n + 1,s,hn=>by
  unfold clF;split
  · assumption
  rename_i hne;have:=xq (nx (l:=l) (s:=s)) (fun e=>hne e.symm);exact adn bqi
def auw:dp l (clo l s) = clo l s:=adn bqi
def ayi:∀ {n:Nat} {s:AS},sub s (clF l n s)
 | 0,s=>fh s
 | n + 1,s=>by
  unfold clF;split
  · exact fh s
  exact d8 nx ayi
def a5x:sub s (clo l s):=ayi
def tq (l:List Fd) (s:AS):Prop:=∀ f ∈ l,sub f.lhs s -> sub f.rhs s
def y8:∀ {l:List Fd} {s:AS},dp l s = s <-> tq l s
 | [],s=>⟨fun _ f hf=>(by cases hf),fun _=>rfl⟩
 | f :: l,s=>by
  constructor
  · intro h
    have h1:ge s f = s:=dt (by have:=nx (l:=l) (s:=ge s f);rw [show dp l (ge s f) = s from h] at this;exact this) ae5
    have h2:dp l s = s:=by
     have:dp l (ge s f) = s:=h;rwa [h1] at this
    intro g hg
    rcases bmp.1 hg with rfl | hg
    · intro hl
      rw [ge,if_pos hl] at h1;rw [<- h1];exact zt
    exact y8.1 h2 g hg
  intro h
  have h1:ge s f = s:=by
   unfold ge;split
   · rename_i hl
     exact dt (sm (fh s) (h f (bnj ..) hl)) qj
   rfl
  show dp l (ge s f) = s;rw [h1];exact y8.2 fun g hg=>h g (bni _ hg)
def ach:∀ {l:List Fd} {s t:AS},tq l t -> sub s t -> sub (dp l s) t
 | [],s,t,_,h=>h
 | f :: l,s,t,ht,h=>ach (l:=l) (fun g hg=>ht g (bni _ hg)) (by
  unfold ge;split
  · rename_i hl
    exact sm h (ht f (bnj ..) (d8 hl h))
  exact h)
def aq8 {t:AS} (ht:tq l t):∀ {n:Nat} {s:AS},sub s t -> sub (clF l n s) t
 | 0,s,h=>h
 | n + 1,s,h=>by
  unfold clF;split
  · exact h
  exact aq8 ht (ach ht h)
def a1n {t:AS} (ht:tq l t) (h:sub s t):sub (clo l s) t:=aq8 ht h
def a0q:tq l (clo l s):=y8.1 auw
def ajo {t:AS} (h:sub s t):sub (clo l s) (clo l t):=a1n a0q (d8 h a5x)
end
end
section
abbrev pI (a:Int):PC:=.one (.raw (.int .i64 a))
abbrev pB (b:Bool):PC:=.one (.raw (.bool b))
abbrev pP (x:PV):PC:=.one x
abbrev pA (s:AS):PC:=.one (.raw (.int .u32 (asI s)))
abbrev fdl (l:List Fd):PV:=psl 2 Fd.c l
abbrev asl (l:List AS):PV:=psl 1 (fun s _=>asC s) l
abbrev vI (a:Int):HR:=bp (.raw (.int .i64 a))
abbrev vA (s:AS):HR:=bp (.raw (.int .u32 (asI s)))
def adf {l:List Fd} {s:AS} {i:Nat} (hi:i < l.length):dp (l.take (i + 1)) s = ge (dp (l.take i) s) (l.getD i default):=by
 unfold dp;rw [List.take_succ,bma hi,bnn,bmb,bma hi];rfl
def i9 {a b:AS}:ay .andNot .u32 (asI a) (asI b) = 0 <-> sub a b:=by
 rw [i7,show (0:Int) = asI 0 from rfl,c6];exact Iff.rfl
section
variable {f:Fd}
def bcx {S:AS} (h:ay .andNot .u32 (asI f.lhs) (asI S) = 0):ay .or .u32 (asI S) (asI f.rhs) = asI (ge S f):=by
 rw [bOr,ge,if_pos (i9.1 h)]
def bdt {S:AS} (h:¬ ay .andNot .u32 (asI f.lhs) (asI S) = 0):ge S f = S:=if_neg fun e=>h (i9.2 e)
def cl_t' {S:AS} (h:decide (sub f.lhs S) = true):ay .or .u32 (asI S) (asI f.rhs) = asI (ge S f):=by
 rw [bOr,ge,if_pos (of_decide_eq_true h)]
def cl_f' {S:AS} (h:decide (sub f.lhs S) = false):ge S f = S:=if_neg (of_decide_eq_false h)
def inU (n:Int) (f:Fd):Bool:=decide ((f.lhs ||| f.rhs) >>> n.toNat = 0)
def b6 (n:Int) (l:List Fd):Int:=if n < 0 \/ 16 < n then 7 else if 64 < l.length then 3 else if l.all (inU n) = true then 0 else 1
def a89 {n:Int}:(ay .or .u32 (asI f.lhs) (asI f.rhs)).fdiv (2 ^ (min n.toNat 32)) = 0 <-> inU n f = true:=by
 rw [bOr,yf,show (0:Int) = asI 0 from rfl,c6];unfold inU;rw [decide_eq_true_iff]
def bj {k:IntKind} {a b:Int} (h:a = b):CoR (bp (.raw (.int k a))) (bp (.raw (.int k b))):=by
 rw [h];exact CoR.refl _
def jn (n:Nat):AS:=(List.range n).foldl (fun s i=>s ||| ((1:AS) <<< i)) 0
def a7 (n:Int):AS:=jn (min n.toNat 32)
def ace (i:Nat):jn (i + 1) = jn i ||| ((1:AS) <<< i):=by
 unfold jn;rw [bo0,bnn];rfl
def ayu (i:Nat):ay .or .u32 (asI (jn i)) (IntKind.wrap .u32 (1 * 2 ^ (min i 32))) = asI (jn (i + 1)):=by
 have e:IntKind.wrap .u32 (1 * 2 ^ (min i 32)) = asI ((1:AS) <<< i):=am5 1 i;rw [e,bOr,ace]
end
end
section
open Go.Proofs
def l6:goodFn br6 125:=wgx Tryz.func125
def qp (a b:AS):a6 br6 125 [pA a,pA b] (a8 [pB (decide (sub a b))]):=by
 refine hpx (nt:=10) Tryz.func125 ?_;refine ja ?_;exact hx8 rfl rfl rfl (⟨ccb (decide_eq_decide.2 (by rw [fj,c6];exact b67.symm)),trivial⟩)
def uh:goodFn br6 120:=wgx Tryz.func120
def bqj {p:Prop} (h:p:=by assumption):p:=h
def xl (l:List Fd) (s0:AS):a6 br6 120 [pP (fdl l),pA s0] (a8 [pA (clo l s0)]):=by
 refine hpx (nt:=29) Tryz.func120 ?_;refine cb ?_;refine c8 0 rfl fun hlen=>?_;refine w_4 ?_;refine ae (ι:=AS) (ka 0 kn) km (fun s=>⟨[(1,some (vA s))],[]⟩) (fun s=>clo l s = clo l s0) (fun s=>4294967296 - s.toNat) (s0) (rfl) kk ?_;rintro s hs;refine p9 ?_;refine b5 (ka 0 (ka 5 (ka 9 (ka 10 kn)))) km (fun i=>⟨[(11,some (vI i)),(1,some (vA (dp (l.take i) s)))],[]⟩) l.length kk ?_;rintro i hi;refine w_5 ?_;refine hcd (fun h0=>?_) (fun h0=>?_)
 ·
  refine w_7 ?_;refine m9 0 ?_;refine c5 ?_;refine hcd (fun h1=>?_) (fun h1=>?_)
  · refine cq ?_;exact lpx (i + 1) ⟨⟨zy,⟨_,rfl,(by rw [adf bqi];first | (rw [bdt bqj];exact CoR.refl _) | (simp only [bmn];rw [bcx bqj];exact CoR.refl _))⟩,tt⟩,trivial⟩
  refine w_5 ?_;exact lpx (i + 1) ⟨⟨zy,⟨_,rfl,(by rw [adf bqi];first | (rw [bdt bqj];exact CoR.refl _) | (simp only [bmn];rw [bcx bqj];exact CoR.refl _))⟩,tt⟩,trivial⟩
 obtain rfl:i = l.length:=by omega
 refine w_7 ?_;refine hcd (fun h2=>?_) (fun h2=>?_)
 ·
  refine w_5 ?_;refine hrr ?_
  have e2:dp l s = s:=by
   have:=c6.1 bqj;rwa [bmi] at this
  exact f9 rfl rfl (⟨cci (by rw [bmi,e2,<- hs,aq9 e2]),trivial⟩)
 refine ck ?_;refine ⟨dp l s, ?_, ?_, ?_⟩
 · show clo l (dp l s) = clo l s0
   rw [alq];exact hs
 · have hne:¬ dp l s = s:=fun e=>absurd (congrArg asI e) (by rw [bmi] at *;assumption)
   have:=xq (nx (l:=l) (s:=s)) (fun e=>hne e.symm);have:=(dp l s).isLt;show 4294967296 - (dp l s).toNat < 4294967296 - s.toNat;omega
 exact ⟨⟨⟨_,rfl,(by rw [bmi];exact CoR.refl _)⟩,tt⟩,trivial⟩
def wc:goodFn br6 126:=wgx Tryz.func126
def wl (l:List Fd) (s0:AS):a6 br6 126 [pP (fdl l),pA s0] (a8 [pA (clo l s0)]):=by
 refine hpx (nt:=32) Tryz.func126 ?_;refine cb ?_;refine c8 0 rfl fun hlen=>?_;refine w_4 ?_;refine ae (ι:=AS) (ka 0 kn) km (fun s=>⟨[(1,some (vA s))],[]⟩) (fun s=>clo l s = clo l s0) (fun s=>4294967296 - s.toNat) (s0) (rfl) kk ?_;rintro s hs;refine dy ?_;refine b5 (ka 0 (ka 5 kn)) km (fun i=>⟨[(6,some (vI i)),(1,some (vA (dp (l.take i) s)))],[]⟩) l.length kk ?_;rintro i hi;refine w_8 ?_;refine hcd (fun h0=>?_) (fun h0=>?_)
 ·
  refine cq ?_;refine qcx l6 (qp (l.getD i default).lhs (dp (l.take i) s)) ?_;refine bz ?_;refine hcb (fun h1=>?_) (fun h1=>?_)
  · refine ml ?_;exact lpx (i + 1) ⟨⟨zy,⟨_,rfl,(by rw [adf bqi];first | (rw [cl_f' bqj];exact CoR.refl _) | (simp only [bmn];rw [cl_t' bqj];exact CoR.refl _))⟩,tt⟩,trivial⟩
  refine w_6 ?_;exact lpx (i + 1) ⟨⟨zy,⟨_,rfl,(by rw [adf bqi];first | (rw [cl_f' bqj];exact CoR.refl _) | (simp only [bmn];rw [cl_t' bqj];exact CoR.refl _))⟩,tt⟩,trivial⟩
 obtain rfl:i = l.length:=by omega
 refine w_7 ?_;refine hcd (fun h2=>?_) (fun h2=>?_)
 ·
  refine w_5 ?_;refine hrr ?_
  have e2:dp l s = s:=by
   have:=c6.1 bqj;rwa [bmi] at this
  exact f9 rfl rfl (⟨cci (by rw [bmi,e2,<- hs,aq9 e2]),trivial⟩)
 refine ck ?_;refine ⟨dp l s, ?_, ?_, ?_⟩
 · show clo l (dp l s) = clo l s0
   rw [alq];exact hs
 · have hne:¬ dp l s = s:=fun e=>absurd (congrArg asI e) (by rw [bmi] at *;assumption)
   have:=xq (nx (l:=l) (s:=s)) (fun e=>hne e.symm);have:=(dp l s).isLt;show 4294967296 - (dp l s).toNat < 4294967296 - s.toNat;omega
 exact ⟨⟨⟨_,rfl,(by rw [bmi];exact CoR.refl _)⟩,tt⟩,trivial⟩
def vk:goodFn br6 113:=wgx Tryz.func113
def zz (n:Int) (l:List Fd):a6 br6 113 [pI n,pP (fdl l)] (a8 [pI (b6 n l)]):=by
 refine hpx (nt:=31) Tryz.func113 ?_;refine cb ?_;refine c8 1 rfl fun hlen=>?_;refine w_9 ?_;refine ah rfl rfl (fun r0=>?_) (fun r0=>?_)
 ·
  have h0:=tz1 r0;(iterate 2 refine k9 (gtf r0) ?_);refine rq rfl rfl rfl rfl rfl ?_ (hp:=r0);refine w_6 ?_
  exact hx8 rfl rfl rfl (⟨cci (by rw [b6,if_pos bqi]),trivial⟩)
 have h0:=tz2 r0;(iterate 2 refine qy ?_ (hg:=(gff r0)));refine w_2 ?_;refine ak _ rfl (fun r1=>?_) (fun r1=>?_)
 · have h1:=tz1 (au r0 r1);refine v_4 ?_;exact ⟨cci (by rw [b6,if_pos bqi]),trivial⟩
 have h1:=tz2 (au r0 r1);refine w_8 ?_;refine hcd (fun h2=>?_) (fun h2=>?_)
 · refine v_4 ?_;exact ⟨cci (by rw [b6,if_neg bqi,if_pos bqi]),trivial⟩
 refine w_9 ?_;refine ae (ι:=Nat) (ka 0 (ka 16 (ka 17 kn))) km (fun i=>⟨[(18,some (vI i))],[]⟩) (fun i=>i <= l.length /\ ∀ j,j < i -> inU n (l.getD j default) = true) (fun i=>l.length - i) (0) (⟨bmh _,fun j hj=>absurd hj (bmf j)⟩) kk ?_;rintro i ⟨hi,hI⟩;refine w_5 ?_;refine hcd (fun h3=>?_) (fun h3=>?_)
 ·
  refine w_7 ?_;refine m9 0 ?_;refine ja ?_;refine hcn (fun h4=>?_) (fun h4=>?_)
  · refine v_4 ?_;exact ⟨cci (by rw [b6,if_neg bqi,if_neg bqi,if_neg (fun e=>absurd (ac6 (l:=l) (p:=inU n) (i:=i) bqi (by rw [bmm];exact fun e=>absurd (a89.2 e) bqj)) (by rw [e];decide))]),trivial⟩
  refine w_5 ?_;refine lpz (i + 1) kk ?_;refine ⟨by omega,fun j hj=>?_⟩
  rcases bot (bp4 hj) with h | h
  · exact hI j h
  subst h;exact a89.1 bqj
 obtain rfl:i = l.length:=by omega
 refine v_5 ?_;exact ⟨cci (by rw [b6,if_neg bqi,if_neg bqi,if_pos (aix fun j hj=>hI j hj)]),trivial⟩
def lg:goodFn br6 50:=wgx Tryz.func50
def li (n:Int):a6 br6 50 [pI n] (a8 [pA (a7 n)]):=by
 refine hpx (nt:=19) Tryz.func50 ?_;refine p9 ?_;refine b5 (ka 0 kn) km (fun i=>⟨[(4,some (vI i)),(3,some (vA (jn i)))],[]⟩) (min n.toNat 32) kk ?_;rintro i hi;refine w_7 ?_;refine ah rfl rfl (fun r0=>?_) (fun r0=>?_)
 ·
  have h0:=tz1 r0;(iterate 2 refine qy ?_ (hg:=(gtt r0)));refine w_2 ?_;refine ak _ rfl (fun r1=>?_) (fun r1=>?_)
  · have h1:=tz1 (br r0 r1);refine ml ?_;exact lpx (i + 1) ⟨⟨zy,⟨_,rfl,(by simp only [bmn];exact bj (ayu i))⟩,tt⟩,trivial⟩
  have h1:=tz2 (br r0 r1);obtain rfl:i = min n.toNat 32:=by omega
  refine v_6 ?_;exact CoL.refl _
 have h0:=tz2 r0;obtain rfl:i = min n.toNat 32:=by omega
 (iterate 2 refine k9 (gft r0) ?_);refine rq rfl rfl rfl rfl rfl ?_ (hp:=r0);refine w_8 ?_
 exact hx8 rfl rfl rfl (CoL.refl _)
end
section
def re (i k:Nat) (hk:k < 32):((1:AS) <<< i).getLsbD k = decide (k = i):=by
 rw [BitVec.getLsbD_shiftLeft];by_cases h:k < i
 · simp [h,hk];omega
 by_cases e:k = i
 · subst e;simp [hk]
 have:0 < k - i:=by omega
 simp [hk,h,e,BitVec.getLsbD_one];omega
def ny:∀ (n k:Nat),k < 32 -> (jn n).getLsbD k = decide (k < n)
 | 0,k,hk=>by simp [jn]
 | n + 1,k,hk=>by
  rw [ace,bo4,ny n k hk,re n k hk];by_cases h:k < n
  · simp [h];omega
  by_cases e:k = n
  · simp [e]
  simp [h,e];omega
def bgb {s:AS} {n:Nat}:s >>> n = 0 <-> ∀ k,k < 32 -> n <= k -> s.getLsbD k = false:=by
 constructor
 · intro h k hk hn
   have:=congrArg (fun x:AS=>x.getLsbD (k - n)) h;simp only [bp5] at this;rw [show n + (k - n) = k by omega] at this;simpa using this
 intro h;apply bnu;intro i hi;rw [bp5];by_cases hk:n + i < 32
 · rw [h (n + i) hk bqi];simp
 rw [BitVec.getLsbD_of_ge _ _ bqi];simp
def v7 {s:AS} {n:Nat} (hn:n <= 32):sub s (jn n) <-> s >>> n = 0:=by
 rw [ar,bgb];constructor
 · intro h k hk hle
   rw [bmm];intro e;have:=h k hk e;rw [ny n k hk,decide_eq_true_iff] at this;omega
 intro h k hk e;rw [ny n k hk,decide_eq_true_iff];apply Nat.lt_of_not_le;intro hle;rw [h k hk hle] at e;cases e
def om {n:Int} (hn:0 <= n) (h16:n <= 16) {f:Fd}:inU n f = true <-> sub f.lhs (a7 n) /\ sub f.rhs (a7 n):=by
 unfold inU a7;rw [decide_eq_true_iff,bo5 bqi,<- v7 bqi];exact ⟨fun h=>⟨d8 qj h,d8 zt h⟩,fun h=>sm h.1 h.2⟩
abbrev Fd.pc (f:Fd):PC:=.agg [f.c 0,f.c 1]
def imp (l:List Fd) (f:Fd):Bool:=decide (sub f.rhs (clo l f.lhs))
end
section
open Go.Proofs
def a3g:goodFn br6 98:=wgx Tryz.func98
def yz (n:Int) (l:List Fd):a6 br6 98 [pI n,pP (fdl l)] (a8 [pI (b6 n l)]):=by
 refine hpx (nt:=42) Tryz.func98 ?_;refine cb ?_;refine c8 1 rfl fun hlen=>?_;refine w_9 ?_;refine ah rfl rfl (fun r0=>?_) (fun r0=>?_)
 ·
  have h0:=tz1 r0;(iterate 2 refine k9 (gtf r0) ?_);refine rq rfl rfl rfl rfl rfl ?_ (hp:=r0);refine w_6 ?_
  exact hx8 rfl rfl rfl (⟨cci (by rw [b6,if_pos bqi]),trivial⟩)
 have h0:=tz2 r0;(iterate 2 refine qy ?_ (hg:=(gff r0)));refine w_2 ?_;refine ak _ rfl (fun r1=>?_) (fun r1=>?_)
 · have h1:=tz1 (au r0 r1);refine v_4 ?_;exact ⟨cci (by rw [b6,if_pos bqi]),trivial⟩
 have h1:=tz2 (au r0 r1);refine w_8 ?_;refine hcd (fun h2=>?_) (fun h2=>?_)
 · refine v_4 ?_;exact ⟨cci (by rw [b6,if_neg bqi,if_pos bqi]),trivial⟩
 refine w_4 ?_;refine qcx lg (li n) ?_;refine w_8 ?_;refine ae (ι:=Nat) (ka 1 (ka 5 kn)) km (fun i=>⟨[(6,some (vI i))],[]⟩) (fun i=>i <= l.length /\ ∀ j,j < i -> inU n (l.getD j default) = true) (fun i=>l.length - i) (0) (⟨bmh _,fun j hj=>absurd hj (bmf j)⟩) kk ?_;rintro i ⟨hi,hI⟩;refine w_8 ?_;refine hcd (fun h3=>?_) (fun h3=>?_)
 ·
  refine cq ?_;refine qcx l6 (qp _ _) ?_;refine w_2 ?_;refine ah rfl rfl (fun r4=>?_) (fun r4=>?_)
  ·
   have h4:=cu r4;(iterate 8 refine k9 (gtf r4) ?_);refine rq rfl rfl rfl rfl rfl ?_ (hp:=r4);refine w_6 ?_
   exact hx8 rfl rfl rfl (⟨cci (by rw [b6,if_neg bqi,if_neg bqi,if_neg (fun e=>absurd (ac6 (l:=l) (p:=inU n) (i:=i) bqi (by rw [bmm];intro e2;rw [om bqi bqi] at e2;simp_all)) (by rw [e];decide))]),trivial⟩)
  have h4:=ct r4;(iterate 6 refine qy ?_ (hg:=(gff r4)));refine qcx l6 (qp _ _) ?_ (hg:=(gff r4));refine qy ?_ (hg:=(gff r4));refine w_2 ?_;refine ak _ rfl (fun r5=>?_) (fun r5=>?_)
  · have h5:=cu (au r4 r5);refine v_4 ?_;exact ⟨cci (by rw [b6,if_neg bqi,if_neg bqi,if_neg (fun e=>absurd (ac6 (l:=l) (p:=inU n) (i:=i) bqi (by rw [bmm];intro e2;rw [om bqi bqi] at e2;simp_all)) (by rw [e];decide))]),trivial⟩
  have h5:=ct (au r4 r5);refine w_6 ?_;refine lpz (i + 1) kk ?_;refine ⟨by omega,fun j hj=>?_⟩
  rcases bot (bp4 hj) with h | h
  · exact hI j h
  subst h;exact (om bqi bqi).2 bqs
 obtain rfl:i = l.length:=by omega
 refine v_5 ?_;exact ⟨cci (by rw [b6,if_neg bqi,if_neg bqi,if_pos (aix fun j hj=>hI j hj)]),trivial⟩
def bgt (l:List Fd) (x:Fd):a6 br6 252 [pP (fdl l),x.pc] (a8 [pB (imp l x)]):=by
 refine hpx (nt:=13) Tryz.func252 ?_;refine sx7 ?_;refine m9 0 ?_;refine w_9 ?_;refine qcx uh (xl l x.lhs) ?_;refine v_5 ?_;exact ⟨ccb (decide_eq_decide.2 i9),trivial⟩
def b50 (l:List Fd) (x:Fd):a6 br6 236 [pP (fdl l),x.pc] (a8 [pB (imp l x)]):=by
 refine hpx (nt:=12) Tryz.func236 ?_;refine sx7 ?_;refine m9 0 ?_;refine w_9 ?_;refine qcx wc (wl l x.lhs) ?_;refine qcx l6 (qp x.rhs (clo l x.lhs)) ?_;refine v_3 ?_;exact CoL.refl _
end
section
variable {α:Type}
def am [Inhabited α] {l:List α} {q:Nat} (hq:q < l.length):l.take (q + 1) = l.take q ++ [l.getD q default]:=by
 rw [List.take_add_one,bma hq];simp [List.getD,hq]
def ax2 [Inhabited α] {l:List α} {q:Nat} (h0:0 < q) (hq:q <= l.length):(l.take q).getLast? = some (l.getD (q - 1) default):=by
 obtain ⟨k,rfl⟩:∃ k,q = k + 1:=⟨q - 1,by omega⟩;rw [am bqi,List.getLast?_append];simp
section
variable [DecidableEq α]
def l8:Option α -> List α -> List α
 | _,[]=>[]
 | p,x :: l=>if p = some x then l8 p l else x :: l8 (some x) l
def jb (l:List α):List α:=l8 none l
def a2w (p:Option α) (l:List α):Option α:=match l.getLast? with | some y=>some y | none=>p
def apa (p:Option α) (y:α) (l:List α):a2w p (y :: l) = a2w (some y) l:=by
 unfold a2w
 cases l with
 | nil=>rfl
 | cons z l=>simp [List.getLast?_cons]
def a6e (x:α):∀ (l:List α) (p:Option α),l8 p (l ++ [x]) = l8 p l ++ (if a2w p l = some x then [] else [x])
 | [],p=>by
  unfold a2w;simp only [bq4,l8,List.getLast?_nil];by_cases h:p = some x <;> simp [h]
 | y :: l,p=>by
  rw [apa];simp only [bp7,l8];split
  · rename_i h
    rw [a6e x l p,h]
  rw [a6e x l (some y)];rfl
def qe [Inhabited α] {l:List α} {q:Nat} (h0:0 < q) (hq:q < l.length):jb (l.take (q + 1)) = jb (l.take q) ++ (if l.getD (q - 1) default = l.getD q default then [] else [l.getD q default]):=by
 unfold jb;rw [am hq,a6e];unfold a2w;rw [ax2 h0 bqi];simp
def wj [Inhabited α] {l:List α}:∀ {k:Nat},k <= l.length -> (∀ j,0 < j -> j < k -> ¬ l.getD j default = l.getD (j - 1) default) -> jb (l.take k) = l.take k
 | 0,_,_=>rfl
 | 1,hk,_=>by
  rw [am bqi];simp [jb,l8]
 | k + 2,hk,h=>by
  rw [qe bqi bqi,wj bqi (fun j h1 h2=>h j h1 bqi),if_neg (fun e=>h (k + 1) bqi bqi e.symm),<- am bqi]
def ab9:∀ (l:List α) (p:Option α),∀ x ∈ l8 p l,x ∈ l
 | [],_,x,h=>by simp [l8] at h
 | y :: l,p,x,h=>by
  simp only [l8] at h;split at h
  · exact bni _ (ab9 l p x h)
  rcases bmp.1 h with rfl | h
  · exact bnj
  exact bni _ (ab9 l _ x h)
def ab5:∀ (l:List α) (p:Option α),∀ x ∈ l,p = some x \/ x ∈ l8 p l
 | y :: l,p,x,h=>by
  simp only [l8];split
  · rename_i hp
    rcases bmp.1 h with rfl | h
    · exact .inl hp
    exact ab5 l p x h
  rcases bmp.1 h with rfl | h
  · exact .inr bnj
  rcases ab5 l (some y) x h with h | h
  · simp only [bm9] at h
    subst h;exact .inr bnj
  exact .inr (bni _ h)
def aog {l:List α} {x:α}:x ∈ jb l <-> x ∈ l:=⟨ab9 l none x,fun h=>by
 rcases ab5 l none x h with h | h
 · cases h
 exact h⟩
end
section
variable [Inhabited α]
section
variable {l:List α}
def oo {p:Nat} {v:α} (hp:p < l.length):(l.set p v).getD p default = v:=by simp [List.getD,hp]
def getD_set_ne' {p j:Nat} {v:α} (h:j ≠ p):(l.set p v).getD j default = l.getD j default:=by
 simp only [List.getD,List.getElem?_set_ne (Ne.symm h)]
variable {c:α -> Nat -> PV}
def as7 {wr wr':Bool} {n p k:Nat} {e:TypeId} {v:α} {x:PV} (hw:wr' = true -> wr = true) (hn:n = l.length) (hp:k = p) (hk:p < l.length) (hx:x = c v 0):
 CoO (.arr wr 1 e n (ez (lf c l) k 0 [x])) (.arr wr' 1 e n (lf c (l.set p v))):=by
 subst hp hx hn;refine ⟨hw,rfl,rfl,rfl,fun i j hi hj=>CoP.of_eq ?_⟩;obtain rfl:j = 0:=by omega
 unfold ez lf;by_cases h:i = k
 · subst h
   rw [if_pos ⟨rfl,by omega,by simp⟩,oo hk];rfl
 rw [if_neg bqi,getD_set_ne' h]
def uf {wr wr':Bool} {n p k q d:Nat} {e:TypeId} {l':List α} (hw:wr' = true -> wr = true) (hn:n = l.length) (hp:k = p) (hk:p < l.length) (hd:d = q):
 CoO (.arr wr 1 e n (ez (lf c l) k 0 [lf c l' d 0])) (.arr wr' 1 e n (lf c (l.set p (l'.getD q default)))):=as7 hw hn hp hk (by rw [hd];rfl)
def afz {n m a:Nat} {cl:Bool} {l':List α} {z:List Value} {p:Option Int} {h:Option Int} (hn:d9 (ax n h) p = l'.length) (hp:p = none) (ha:l'.length <= a) (hl:l' = l.take l'.length):
 CoP (.sl (d9 (ax n h) p) 1 cl (n8 (oz (lf c l) a m z) p)) (psl 1 c l'):=by
 subst hp;refine CoP.sl hn.symm (.inl rfl) (fun h=>by cases h) fun i j hi hj=>CoP.of_eq ?_;rw [hn] at hi;show oz (lf c l) a m z i j = lf c l' i j;unfold oz;rw [if_neg bqi];simp only [lf,List.getD];have e:l'[i]? = l[i]?:=by rw [hl,bmy,if_pos hi]
 rw [e]
end
end
abbrev sC:AS -> Nat -> PV:=fun s _=>asC s
structure CpI (l:List AS) (k p q:Nat) (m:List AS):Prop where
 len:m.length = l.length
 kq:k < q
 pq:p < q
 ql:q <= l.length
 pre:m.take p = jb (l.take q)
 high:∀ j,q - 1 <= j -> m.getD j default = l.getD j default
section
variable {k:Nat} {l:List AS}
theorem CpI.start (h1:1 <= k) (hk:k < l.length) (h:∀ j,0 < j -> j < k -> ¬ l.getD j default = l.getD (j - 1) default) (hd:l.getD k default = l.getD (k - 1) default):CpI l k k (k + 1) l :=
 ⟨rfl,by omega,by omega,by omega,by rw [qe bqi hk,if_pos hd.symm,bn9,wj bqi h],fun _ _=>rfl⟩
theorem CpI.skip {p q:Nat} {m:List AS} (h:CpI l k p q m) (hq:q < l.length) (he:m.getD q default = m.getD (q - 1) default):CpI l k p (q + 1) m:=by
 have hk:=h.kq;refine ⟨h.len,by omega,by have:=h.pq;omega,hq, ?_,fun j hj=>h.high j bqi⟩;rw [h.high q bqi,h.high (q - 1) bqi] at he;rw [qe bqi hq,if_pos he.symm,bn9,h.pre]
theorem CpI.keep {p q:Nat} {m:List AS} (h:CpI l k p q m) (hq:q < l.length) (he:¬ m.getD q default = m.getD (q - 1) default):CpI l k (p + 1) (q + 1) (m.set p (m.getD q default)):=by
 have hk:=h.kq;have hp:=h.pq;have hl:=h.len;refine ⟨by simp [hl],by omega,by omega,hq, ?_,fun j hj=>by rw [getD_set_ne' bqi];exact h.high j bqi⟩;have e:=h.high q bqi;rw [e,h.high (q - 1) bqi] at he;rw [qe bqi hq,if_neg (fun e=>he e.symm),<- h.pre,am (by simp [hl];omega),oo bqi,e];congr 1;rw [List.take_set,bph bqt]
def zc {a b a' b':Nat} (h:asI (l.getD a' default) = asI (l.getD b' default)) (ha:a' = a) (hb:b' = b):l.getD a default = l.getD b default:=by subst ha hb;exact c6.1 h
def zb {a b a' b':Nat} (h:¬ asI (l.getD a' default) = asI (l.getD b' default)) (ha:a' = a) (hb:b' = b):¬ l.getD a default = l.getD b default:=by subst ha hb;exact fun e=>h (congrArg asI e)
def apx (hk:l.length <= k) (h:∀ j,0 < j -> j < k -> ¬ l.getD j default = l.getD (j - 1) default):CoP (.sl l.length 1 false (lf sC l)) (asl (jb l)):=by
 have:=wj (bmd l.length) fun j h1 h2=>h j h1 bqi;rw [bmi] at this;rw [this];exact CoP.refl _
def b8x {m:List AS} {p q n a d:Nat} {cl:Bool} {z:List Value} (hC:CpI l k p q m) (hq:¬ q < l.length) (ha:p <= a):CoP (.sl (d9 (ax n (some (p:Int))) none) 1 cl (n8 (oz (lf sC m) a d z) none)) (asl (jb l)):=by
 have e:=hC.pre;have h1:=hC.ql;have h2:=hC.len;have h3:=hC.pq;rw [show q = l.length by omega,bmi] at e;have el:(jb l).length = p:=by rw [<- e];simp;omega
 exact afz (by rw [el];rfl) rfl bqi (by rw [el,e])
end
end
section
open Go.Proofs
def bqk {p:Prop} (h:p:=by (repeat' apply And.intro) <;> first | trivial | exact bmc rfl):p:=h
def bql {p:Prop} (h:p:=by first | rfl | (dsimp only;omega)):p:=h
def bqn {p:Prop} (h:p:=by simp only [ax];omega):p:=h
def b2k (l:List AS):d4 br6 216 [.one (.ref 900 l.length)] [(900, .arr true 1 46 l.length (lf sC l))] (.v (.one (.p (asl (jb l))))) [] []:=by
 refine hfx (nt:=61) Tryz.func216 ?_;refine cb ?_;refine acd 900 rfl fun hlen=>?_;refine c5 ?_;refine hcd (fun h0=>?_) (fun h0=>?_)
 · refine w_5 ?_;refine al 2 rfl rfl rfl ?_;refine hrr ?_;exact ⟨_,_,rfl,bqk,apx (k:=l.length) (bmd _) (fun j h1 h2=>by omega),trivial⟩
 refine w_7 ?_;refine ae (ι:=Nat) (ka 0 kn) (kb 900 km) (fun k=>⟨[(3,some (vI k))],[]⟩) (fun k=>1 <= k /\ k <= l.length /\ ∀ j,0 < j -> j < k -> ¬ l.getD j default = l.getD (j - 1) default) (fun k=>l.length - k) (1) (⟨bmd _,by omega,fun j h1 h2=>by omega⟩) kk ?_;rintro k ⟨hk1,hk,hI⟩;refine w_8 ?_;refine hcd (fun h1=>?_) (fun h1=>?_)
 ·
  refine y5 ?_;refine hcd (fun h2=>?_) (fun h2=>?_)
  ·
   refine ja ?_;refine ae (ι:=Nat × Nat × List AS) (ka 0 (ka 4 kn)) km (fun x=>⟨[(3,some (vI x.1)),(5,some (vI ((x.2.1:Int) - k)))],[(900,some (.arr true 1 46 l.length (lf sC x.2.2)))]⟩) (fun x=>CpI l k x.1 x.2.1 x.2.2) (fun x=>l.length - x.2.1) ((k,k + 1,l)) (CpI.start hk1 bqi hI (zc bqj rfl bqi)) ⟨⟨zy,⟨_,rfl,(coi bql)⟩,trivial⟩,uu⟩ ?_;rintro ⟨p,q,m⟩ hC;have hC0:=hC;obtain ⟨hml,hkq,hpq,hql,_,_⟩:=hC0;dsimp only at hC hml hkq hpq hql;refine w_8 ?_;refine hcd (fun h3=>?_) (fun h3=>?_)
   ·
    simp only [d9,ax,bmn] at h3;refine y5 ?_;refine hcn (fun h4=>?_) (fun h4=>?_)
    ·
     refine abs ?_
     first | (refine ⟨(p + 1, q + 1, m.set p (m.getD q default)), ?_, ?_, ?_⟩
              · exact hC.keep bqi (zb bqj bqn bqn)
              · first | omega | (dsimp only;omega)
              exact ⟨⟨⟨_,rfl,(coi bql)⟩,⟨_,rfl,(coi bql)⟩,tt⟩,⟨⟨_,rfl,(uf id hml.symm bqi (by dsimp only;omega) bqn)⟩,trivial⟩⟩)
           | (refine ⟨(p,q + 1,m), ?_, ?_, ?_⟩
              · exact hC.skip bqi (zc bqj bqn bqn)
              · first | omega | (dsimp only;omega)
              exact ⟨⟨⟨_,rfl,(coi bql)⟩,⟨_,rfl,(coi bql)⟩,tt⟩,uu⟩)
    refine w_6 ?_
    first | (refine ⟨(p + 1, q + 1, m.set p (m.getD q default)), ?_, ?_, ?_⟩
             · exact hC.keep bqi (zb bqj bqn bqn)
             · first | omega | (dsimp only;omega)
             exact ⟨⟨⟨_,rfl,(coi bql)⟩,⟨_,rfl,(coi bql)⟩,tt⟩,⟨⟨_,rfl,(uf id hml.symm bqi (by dsimp only;omega) bqn)⟩,trivial⟩⟩)
          | (refine ⟨(p,q + 1,m), ?_, ?_, ?_⟩
             · exact hC.skip bqi (zc bqj bqn bqn)
             · first | omega | (dsimp only;omega)
             exact ⟨⟨⟨_,rfl,(coi bql)⟩,⟨_,rfl,(coi bql)⟩,tt⟩,uu⟩)
   simp only [d9,ax,bmn] at h3;refine w_6 ?_;refine r9 0 true ?_;refine w_5 ?_;refine b0x rfl rfl rfl rfl rfl ?_;refine w_2 ?_;refine hrr ?_;exact ⟨_,_,rfl,bqk,b8x hC bqi (by simp [ax]),trivial⟩
  refine w_6 ?_;refine lpz (k + 1) kk ?_;refine ⟨by omega,by show k + 1 <= _;omega,fun j h1 h2=>?_⟩
  rcases bot (bp4 h2) with h | h
  · exact hI j h1 h
  subst h;exact zb bqj rfl bqi
 refine w_6 ?_;refine al 2 rfl rfl rfl ?_;refine hrr ?_;exact ⟨_,_,rfl,bqk,apx (k:=k) bqi hI,trivial⟩
end
section
section
variable {α:Type} [Inhabited α] {p:α -> Bool} {l:List α}
def aaz (h:idx p l = -1):∀ j,j < l.length -> p (l.getD j default) = false:=fun j hj=>by
 cases hc:p (l.getD j default) with
 | false=>rfl
 | true =>
  exfalso;have hx:∃ x ∈ l,p x = true:=⟨l[j],bmz hj,by simpa [List.getD,hj] using hc⟩;unfold idx at h
  cases hf:l.findIdx? p with
  | none =>
   rw [List.findIdx?_eq_none_iff] at hf;obtain ⟨x,hx,hp⟩:=hx;rw [hf x hx] at hp;cases hp
  | some i=>rw [hf] at h;simp only at h;omega
def a09 (h:¬ idx p l = -1):∃ i:Nat,idx p l = i /\ i < l.length /\ p (l.getD i default) = true /\ ∀ j,j < i -> p (l.getD j default) = false:=by
 unfold idx at h ⊢
 cases hf:l.findIdx? p with
 | none=>rw [hf] at h;exact absurd rfl h
 | some i =>
  obtain ⟨h1,h2,h3⟩:=bpx.1 hf;refine ⟨i,rfl,h1,by simpa [List.getD,h1] using h2,fun j hj=>?_⟩;have:=h3 j hj;simp only [List.getD,bma (Nat.lt_trans hj h1),bn6];simpa using this
def xd:(decide (0 <= idx p l)) = l.any p:=by
 unfold idx
 cases hf:l.findIdx? p with
 | none =>
  rw [List.findIdx?_eq_none_iff] at hf
  have:l.any p = false:=by
   rw [bo7];intro x hx;rw [hf x hx];exact bq5
  rw [this];rfl
 | some i =>
  obtain ⟨h1,h2,_⟩:=bpx.1 hf;have:l.any p = true:=bne.2 ⟨l[i],bmz h1,h2⟩;rw [this];exact decide_eq_true (bom i)
def a3x:∀ {k:Nat},k <= l.length -> (∀ j,j < k -> p (l.getD j default) = false) -> (l.take k).filter (fun x=>!p x) = l.take k
 | 0,_,_=>by simp
 | k + 1,hk,h=>by rw [am bqi,bnc,a3x bqi fun j hj=>h j bqi];simp only [bnf,h k bqi,bqe,if_true,bnw]
structure DfI (p:α -> Bool) (l:List α) (k q:Nat) (m:List α):Prop where
 len:m.length = l.length
 kq:k < q
 ql:q <= l.length
 pre:m.take k = (l.take q).filter fun x=>!p x
 high:∀ j,q <= j -> m.getD j default = l.getD j default
theorem DfI.start {k:Nat} (hk:k < l.length) (h1:p (l.getD k default) = true) (h:∀ j,j < k -> p (l.getD j default) = false):DfI p l k (k + 1) l :=
 ⟨rfl,by omega,hk,by rw [am hk,bnc,a3x bqi h];simp only [bnf,h1,bpj,bnw,bnq,if_false,bn9],fun _ _=>rfl⟩
theorem DfI.skip {k q:Nat} {m:List α} (h:DfI p l k q m) (hq:q < l.length) (hp:p (m.getD q default) = true):DfI p l k (q + 1) m:=by
 rw [h.high q (bmd _)] at hp;exact ⟨h.len,by have:=h.kq;omega,hq,by rw [am hq,bnc,<- h.pre];simp only [bnf,hp,bpj,bnw,bnq,if_false,bn9],fun j hj=>h.high j bqi⟩
theorem DfI.keep {k q:Nat} {m:List α} (h:DfI p l k q m) (hq:q < l.length) (hp:p (m.getD q default) = false):DfI p l (k + 1) (q + 1) (m.set k (m.getD q default)):=by
 have e:=h.high q (bmd _);rw [e] at hp ⊢;have hk:=h.kq;have hl:=h.len;refine ⟨by simp [hl],by omega,hq, ?_,fun j hj=>by rw [getD_set_ne' bqi];exact h.high j bqi⟩;rw [am (by simp [hl];omega),oo bqi,am hq,bnc,<- h.pre];simp only [bnf,hp,bqe,if_true,bnw];congr 1;rw [List.take_set,bph bqt]
end
section
variable {p:AS -> Bool} {l:List AS}
def b8m (h:∀ j,j < l.length -> p (l.getD j default) = false):CoP (.sl l.length 1 false (lf sC l)) (asl (l.filter fun x=>!p x)):=by
 have:=a3x (bmd l.length) h;rw [bmi] at this;rw [this];exact CoP.refl _
def bbh {m:List AS} {k q n a d:Nat} {cl:Bool} {z:List Value} (hC:DfI p l k q m) (hq:¬ q < l.length) (ha:k <= a):CoP (.sl (d9 (ax n (some (k:Int))) none) 1 cl (n8 (oz (lf sC m) a d z) none)) (asl (l.filter fun x=>!p x)):=by
 have e:=hC.pre;have h1:=hC.ql;have h2:=hC.len;have h3:=hC.kq;rw [show q = l.length by omega,bmi] at e;have el:(l.filter fun x=>!p x).length = k:=by rw [<- e];simp;omega
 exact afz (by rw [el];rfl) rfl bqi (by rw [el,e])
end
def a6b {a b:AS}:decide (asI a = asI b) = decide (a = b):=decide_eq_decide.2 c6
instance:DecidableEq Fd:=fun a b=>decidable_of_iff (a.lhs = b.lhs /\ a.rhs = b.rhs) Fd.eq_iff.symm
end
section
open Go.Proofs
def a7s:goodFn br6 21:=wgx Tryz.func21
def a3f (n:Nat) (c:Bool) (f:Nat -> Nat -> PV) (hn:n <= 35184372088832) :
 d4 br6 21 [.one (.p (.sl n 1 c f))] [] (.v (.one (.ref 0 n))) [(0, .arr true 1 46 n f)] []:=by
 refine hfx (nt:=8) Tryz.func21 ?_;refine sx7 ?_;refine du true rfl rfl rfl rfl rfl trivial ?_;refine bz ?_;refine a99 (ι:=Bool) (fun c=>⟨[(0,some (bp (.sl n 1 c f)))],[]⟩) (fun _=>True) ?_ fun c _=>?_
 · rcases boa n with hz | h0
   · subst hz
     refine hw_exact' 0 rfl fun ad cap hcap=>?_;refine sx7 ?_;(iterate 2 refine du true rfl rfl rfl rfl rfl trivial ?_);refine bz ?_;refine ak ad.isNone rfl (fun hc=>?_) (fun hc=>?_)
     · refine sx7 ?_
       refine du true rfl rfl rfl rfl rfl trivial ?_;refine bz ?_;refine bw 2 0 true 1 46 f bqo rfl (CoP.sl rfl (.inr rfl) (fun h=>h) fun i j hi _=>absurd hi (bmf i)) (.inr rfl) rfl ?_;refine hrr ?_;exact ⟨_,_,rfl,trivial,CoR.refl _,uu⟩
     refine ck ?_;exact ⟨false,trivial,⟨⟨_,rfl,CoP.raw_sl hcap⟩,trivial⟩,trivial⟩
   refine sx7 ?_;refine du true rfl rfl rfl rfl rfl trivial ?_;refine du true rfl rfl rfl rfl rfl h0 ?_;refine bz ?_;refine ak false rfl (fun hc=>by cases hc) (fun hc=>?_);refine ck ?_;exact ⟨c,trivial,tt,trivial⟩
 refine sx7 ?_;refine a2n 0 rfl rfl rfl rfl rfl rfl trivial ?_;refine du true rfl rfl rfl rfl rfl trivial ?_;refine a63 0 true rfl rfl rfl rfl rfl rfl ⟨trivial,rfl,rfl,rfl, .inl rfl,by show 0 + n <= 9223372036854775807;omega,by show (0 + n) * 4 <= 140737488355328;omega,fun _=>.inl rfl⟩ ?_;refine du true rfl rfl rfl rfl rfl trivial ?_;refine bz ?_;refine hrr ?_;refine ⟨_,_,rfl,trivial,CoR.of_eq (by show HR.v (.one (.ref 0 (0 + n))) = _;rw [bna]),⟨⟨_,rfl, ?_⟩,trivial⟩⟩;exact ⟨fun h=>h,rfl,rfl,(bna n).symm,fun i j _ _=>CoP.of_eq (by simp [eq])⟩
def b2u (n:Nat) (c:Bool) (f:Nat -> Nat -> PV) (hn:n <= 35184372088832):a6 br6 21 [.one (.sl n 1 c f)] (.v (.one (.sl n 1 false f))) :=
 d4.pure (args:=[.one (.sl n 1 c f)]) (l:=[.one (.ref 0 n)]) (a3f n c f hn) rfl ⟨rfl,trivial⟩
def bhq (l:List Fd) (g k:Nat) (caps:Nat -> PV) (V:Fd -> Bool) (hg:goodFn br6 g) (hV:∀ x,a6 br6 g (x.pc :: ip caps k 0) (a8 [pB (V x)])):a6 br6 235 [pP (fdl l),pP (.fn g k caps)] (a8 [pI (idx V l)]):=by
 refine hpx (nt:=19) Tryz.func235 ?_;refine cb ?_;refine c8 0 rfl fun hn=>?_;refine w_3 ?_;refine dm (ι:=Unit) kn km (fun _i=>⟨[],[]⟩) (fun _i=>idx V l = -1) ?_ ?_
 ·
  refine w_7 ?_;refine ae (ι:=Nat) (ka 0 (ka 1 (ka 7 kn))) km (fun i=>⟨[(8,some (vI i))],[]⟩) (fun i=>i <= l.length /\ (∀ j,j < i -> V (l.getD j default) = false)) (fun i=>l.length - i) (0) (⟨bmh _,bq⟩) kk ?_;rintro i ⟨hi,hI⟩;refine w_5 ?_;refine hcd (fun h0=>?_) (fun h0=>?_)
  ·
   refine ml ?_;refine rc rfl rfl rfl rfl rfl rfl hg (hV (l.getD i default)) (CoL.refl _) rfl rfl ?_;refine bz ?_;refine hcb (fun h1=>?_) (fun h1=>?_)
   · refine v_5 ?_;exact ⟨cci (rg (i:=i) bqi hI h1).symm,trivial⟩
   refine w_5 ?_;refine lpz (i + 1) kk ?_;exact ⟨by show i + 1 <= _;omega,aw hI (h1)⟩
  refine da ?_;refine ⟨(), ?_, ?_⟩
  · exact sx fun j hj=>hI j bqi
  exact ⟨trivial,trivial⟩
 rintro _ hj;refine v_4 ?_;exact ⟨cci hj.symm,trivial⟩
def afp:goodFn br6 167:=wgx Tryz.func167
def b56 (l:List AS) (g k:Nat) (caps:Nat -> PV) (V:AS -> Bool) (hg:goodFn br6 g) (hV:∀ x,a6 br6 g (pA x :: ip caps k 0) (a8 [pB (V x)])):a6 br6 167 [pP (asl l),pP (.fn g k caps)] (a8 [pI (idx V l)]):=by
 refine hpx (nt:=19) Tryz.func167 ?_;refine cb ?_;refine c8 0 rfl fun hn=>?_;refine w_3 ?_;refine dm (ι:=Unit) kn km (fun _i=>⟨[],[]⟩) (fun _i=>idx V l = -1) ?_ ?_
 ·
  refine w_7 ?_;refine ae (ι:=Nat) (ka 0 (ka 1 (ka 7 kn))) km (fun i=>⟨[(8,some (vI i))],[]⟩) (fun i=>i <= l.length /\ (∀ j,j < i -> V (l.getD j default) = false)) (fun i=>l.length - i) (0) (⟨bmh _,bq⟩) kk ?_;rintro i ⟨hi,hI⟩;refine w_5 ?_;refine hcd (fun h0=>?_) (fun h0=>?_)
  ·
   refine ml ?_;refine rc rfl rfl rfl rfl rfl rfl hg (hV (l.getD i default)) (CoL.refl _) rfl rfl ?_;refine bz ?_;refine hcb (fun h1=>?_) (fun h1=>?_)
   · refine v_5 ?_;exact ⟨cci (rg (i:=i) bqi hI h1).symm,trivial⟩
   refine w_5 ?_;refine lpz (i + 1) kk ?_;exact ⟨by show i + 1 <= _;omega,aw hI (h1)⟩
  refine da ?_;refine ⟨(), ?_, ?_⟩
  · exact sx fun j hj=>hI j bqi
  exact ⟨trivial,trivial⟩
 rintro _ hj;refine v_4 ?_;exact ⟨cci hj.symm,trivial⟩
def bhg (l:List Fd) (g k:Nat) (caps:Nat -> PV) (V:Fd -> Bool) (hg:goodFn br6 g) (hV:∀ x,a6 br6 g (x.pc :: ip caps k 0) (a8 [pB (V x)])):a6 br6 190 [pP (fdl l),pP (.fn g k caps)] (a8 [pB (l.any V)]):=by
 refine hpx (nt:=9) Tryz.func190 ?_;refine w_8 ?_;refine qcx (wgx Tryz.func235) (bhq l g k caps V hg hV) ?_;refine v_3 ?_;exact ⟨ccb xd,trivial⟩
def agi:goodFn br6 148:=wgx Tryz.func148
def asq (l:List AS) (g k:Nat) (caps:Nat -> PV) (V:AS -> Bool) (hg:goodFn br6 g) (hV:∀ x,a6 br6 g (pA x :: ip caps k 0) (a8 [pB (V x)])):a6 br6 148 [pP (asl l),pP (.fn g k caps)] (a8 [pB (l.any V)]):=by
 refine hpx (nt:=9) Tryz.func148 ?_;refine w_8 ?_;refine qcx afp (b56 l g k caps V hg hV) ?_;refine v_3 ?_;exact ⟨ccb xd,trivial⟩
def bkm (l:List AS) (s:AS):a6 br6 92 [pP (asl l),pA s] (a8 [pI (idx (fun x=>decide (x = s)) l)]):=by
 refine hpx (nt:=19) Tryz.func92 ?_;refine cb ?_;refine c8 0 rfl fun hn=>?_;refine w_3 ?_;refine dm (ι:=Unit) kn km (fun _i=>⟨[],[]⟩) (fun _i=>idx (fun x=>decide (x = s)) l = -1) ?_ ?_
 ·
  refine w_7 ?_;refine ae (ι:=Nat) (ka 0 (ka 1 (ka 7 kn))) km (fun i=>⟨[(8,some (vI i))],[]⟩) (fun i=>i <= l.length /\ (∀ j,j < i -> decide (l.getD j default = s) = false)) (fun i=>l.length - i) (0) (⟨bmh _,bq⟩) kk ?_;rintro i ⟨hi,hI⟩;refine w_5 ?_;refine hcd (fun h0=>?_) (fun h0=>?_)
  ·
   refine y5 ?_;refine hcd (fun h1=>?_) (fun h1=>?_)
   · refine v_5 ?_;exact ⟨cci (rg (p:=fun x=>decide (x = s)) (i:=i) bqi hI (decide_eq_true (c6.1 h1).symm)).symm,trivial⟩
   refine w_5 ?_;refine lpz (i + 1) kk ?_;exact ⟨by show i + 1 <= _;omega,aw hI (decide_eq_false fun e=>h1 (congrArg asI e.symm))⟩
  refine da ?_;refine ⟨(), ?_, ?_⟩
  · exact sx (p:=fun x=>decide (x = s)) fun j hj=>hI j bqi
  exact ⟨trivial,trivial⟩
 rintro _ hj;refine v_4 ?_;exact ⟨cci hj.symm,trivial⟩
def bkn (l:List Fd) (s:Fd):a6 br6 277 [pP (fdl l),s.pc] (a8 [pI (idx (fun x=>decide (x = s)) l)]):=by
 refine hpx (nt:=19) Tryz.func277 ?_;refine cb ?_;refine c8 0 rfl fun hn=>?_;refine gy ?_;refine m9 0 ?_;refine w_2 ?_;refine dm (ι:=Unit) kn km (fun _i=>⟨[],[]⟩) (fun _i=>idx (fun x=>decide (x = s)) l = -1) ?_ ?_
 ·
  refine w_7 ?_;refine ae (ι:=Nat) (ka 0 (ka 3 (ka 7 kn))) (kb 0 km) (fun i=>⟨[(8,some (vI i))],[]⟩) (fun i=>i <= l.length /\ (∀ j,j < i -> decide (l.getD j default = s) = false)) (fun i=>l.length - i) (0) (⟨bmh _,bq⟩) kk ?_;rintro i ⟨hi,hI⟩;refine w_5 ?_;refine hcd (fun h0=>?_) (fun h0=>?_)
  ·
   refine aad ?_;refine hcb (fun h1=>?_) (fun h1=>?_)
   · refine v_5 ?_;exact ⟨cci (rg (p:=fun x=>decide (x = s)) (i:=i) bqi hI (decide_eq_true (by simp_all [Fd.eq_iff,c6]))).symm,trivial⟩
   refine w_5 ?_;refine lpz (i + 1) kk ?_;exact ⟨by show i + 1 <= _;omega,aw hI (decide_eq_false fun e=>by subst e;simp_all)⟩
  refine da ?_;refine ⟨(), ?_, ?_⟩
  · exact sx (p:=fun x=>decide (x = s)) fun j hj=>hI j bqi
  exact ⟨trivial,trivial⟩
 rintro _ hj;refine v_4 ?_;exact ⟨cci hj.symm,trivial⟩
def bkp (l:List Fd) (s:Fd):a6 br6 253 [pP (fdl l),s.pc] (a8 [pB (l.any fun x=>decide (x = s))]):=by
 refine hpx (nt:=9) Tryz.func253 ?_;refine sx7 ?_;refine m9 0 ?_;refine w_6 ?_;refine qcx (wgx Tryz.func277) (bkn _ _) ?_;refine v_3 ?_;exact ⟨ccb xd,trivial⟩
def aej:goodFn br6 117:=wgx Tryz.func117
def atb (l:List AS) (g k:Nat) (caps:Nat -> PV) (V:AS -> Bool) (hg:goodFn br6 g) (hV:∀ x,a6 br6 g (pA x :: ip caps k 0) (a8 [pB (V x)])):d4 br6 117 [.one (.ref 900 l.length), .one (.p (.fn g k caps))] [(900, .arr true 1 46 l.length (lf sC l))] (.v (.one (.p (asl (l.filter fun x=>!V x))))) [] []:=by
 refine hfx (nt:=42) Tryz.func117 ?_;refine cb ?_;refine acd 900 rfl fun hlen=>?_;refine w_7 ?_;refine qcx afp (b56 l g k caps V hg hV) ?_;refine w_8 ?_;refine hcd (fun h0=>?_) (fun h0=>?_)
 · refine w_5 ?_;refine al 4 rfl rfl rfl ?_;refine hrr ?_;exact ⟨_,_,rfl,bqk,b8m (aaz bqj),trivial⟩
 obtain ⟨i0,hi0,hi1,hi2,hi3⟩:=a09 h0;refine w_9 ?_;refine ae (ι:=Nat × Nat × List AS) (ka 0 (ka 1 kn)) km (fun x=>⟨[(5,some (vI x.1)),(6,some (vI x.2.1))],[(900,some (.arr true 1 46 l.length (lf sC x.2.2)))]⟩) (fun x=>DfI V l x.1 x.2.1 x.2.2) (fun x=>l.length - x.2.1) ((i0,i0 + 1,l)) (DfI.start hi1 hi2 hi3) ⟨⟨⟨_,rfl,(coi hi0)⟩,⟨_,rfl,(coi (by dsimp only;omega))⟩,trivial⟩,uu⟩ ?_;rintro x hC;have hC0:=hC;obtain ⟨hml,hkq,hql,_,_⟩:=hC0;refine w_8 ?_;refine hcd (fun h1=>?_) (fun h1=>?_)
 ·
  refine ml ?_;refine rc rfl rfl rfl rfl rfl rfl hg (hV (x.2.2.getD (x.2.1:Int).toNat default)) (CoL.refl _) rfl rfl ?_;refine w_2 ?_;refine hcv (fun h2=>?_) (fun h2=>?_)
  ·
   have hv:=h2;refine aad ?_
   first | (refine ⟨(x.1 + 1, x.2.1 + 1, x.2.2.set x.1 (x.2.2.getD x.2.1 default)), ?_, ?_, ?_⟩
            · exact hC.keep bqi (by simpa using hv)
            · first | omega | (dsimp only;omega)
            exact ⟨⟨⟨_,rfl,(coi bql)⟩,⟨_,rfl,(coi bql)⟩,tt⟩,⟨⟨_,rfl,(uf id hml.symm bqi bqi bqi)⟩,trivial⟩⟩)
         | (refine ⟨(x.1,x.2.1 + 1,x.2.2), ?_, ?_, ?_⟩
            · exact hC.skip bqi (by simpa using hv)
            · first | omega | (dsimp only;omega)
            exact ⟨⟨⟨_,rfl,(coi bql)⟩,⟨_,rfl,(coi bql)⟩,tt⟩,uu⟩)
  have hv:=h2;refine w_6 ?_
  first | (refine ⟨(x.1 + 1, x.2.1 + 1, x.2.2.set x.1 (x.2.2.getD x.2.1 default)), ?_, ?_, ?_⟩
           · exact hC.keep bqi (by simpa using hv)
           · first | omega | (dsimp only;omega)
           exact ⟨⟨⟨_,rfl,(coi bql)⟩,⟨_,rfl,(coi bql)⟩,tt⟩,⟨⟨_,rfl,(uf id hml.symm bqi bqi bqi)⟩,trivial⟩⟩)
        | (refine ⟨(x.1,x.2.1 + 1,x.2.2), ?_, ?_, ?_⟩
           · exact hC.skip bqi (by simpa using hv)
           · first | omega | (dsimp only;omega)
           exact ⟨⟨⟨_,rfl,(coi bql)⟩,⟨_,rfl,(coi bql)⟩,tt⟩,uu⟩)
 have hq:=h1;refine w_6 ?_;refine r9 0 true ?_;refine w_5 ?_;refine b0x rfl rfl rfl rfl rfl ?_;refine w_2 ?_;refine hrr ?_;exact ⟨_,_,rfl,bqk,bbh hC bqi (by simp [ax]),trivial⟩
end
end Go.Hx

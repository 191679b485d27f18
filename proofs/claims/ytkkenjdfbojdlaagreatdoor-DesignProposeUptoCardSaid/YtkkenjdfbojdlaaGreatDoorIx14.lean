/- A part of the proof: Hx19 Hx23 Cs1 Cs3 V1 Cs4 V2 Cl1 V3 Cl2 V4. -/
import Derived.Deep.AppendLies
import Derived.Laws.CopyRow
import Derived.Shelf.Spec.SlicesInsertGrow
import Derived.Test.YtkkenjdfbojdlaaGreatDoorIx13
set_option linter.all false
set_option maxRecDepth 100000
set_option maxHeartbeats 1000000
namespace Go.Hx
section
open Go.Proofs Go.Lib Go.RowKit
def bgp (w:World) (o:Obj) {r:Nat} (h:r < w.heap.size):(w.alloc o).heap[r]? = w.heap[r]?:=by
 show (w.heap.push o)[r]? = _;rw [bqq h,bnm h]
def bm7 (k:Nat) (xs vs:List Value):List Value:=xs.take k ++ vs ++ xs.drop k
structure blh (w w':World) (T s:Nat) (own v:Value) (n:Nat) (xs:List Value):Prop where
 row:w'.ownsRow 0 T s v (n + 1) xs
 bl:Below 0 w w'
 out:∀ g,g < w.heap.size -> d4 own ≠ some g -> w'.heap[g]? = w.heap[g]?
 at_:∀ g,d4 v = some g -> w.heap.size <= g \/ d4 own = some g
def bm3 (i:Nat) (F G:Nat -> Nat -> PV):Nat -> Nat -> PV:=fun k j=>if k < i then F k j else if k = i then G 0 j else F (k - 1) j
def j3 {id q:Nat} {x ob:aa} (h:lk [(q,x)] id = some ob):id = q /\ ob = x:=by
 simp only [lk] at h;by_cases hk:q = id
 · subst hk
   simp at h;exact ⟨rfl,h.symm⟩
 have:Nat.beq q id = false:=by
  rw [bmx];exact fun hb=>hk (bni hb)
 rw [this] at h;cases h
structure bmf (c:Ctx) (w w':World) (T s a:Nat) (v:Value) (n:Nat) (ys:List Value):Prop where
 row:w'.ownsRow 0 T s v (n + 1) ys
 bl:Below 0 w w'
 out:∀ g,g < w.heap.size -> ¬ c.blk a g -> w'.heap[g]? = w.heap[g]?
 at_:∀ g,d4 v = some g -> w.heap.size <= g \/ c.blk a g
def b29 {P:Program} {f:FuncId} {T s a:Nat} {y:Value} {F:Nat -> Nat -> PV} (hs:0 < s)
 (h:∀ (w:World) (ad:Option Addr),Calls P f #[.slice ad 0 0,y] w fun e w'=>∃ v,e = .returned v /\ Below w.heap.size w w' /\ (v = .slice ad 0 0 \/ w'.ownsRow 0 T s v 0 [] /\ ∀ g,d4 v = some g -> w.heap.size <= g)) :
 cb P f [.one (.p (li (.slice none 0 0))), .one (.p (.raw y))] [] (.v (.one (.ref a 0))) [(a, .arr true s T 0 F)] []:=by
 intro w c us hM hrep
 obtain ⟨ad,rfl⟩:∃ ad,us = [.slice ad 0 0,y]:=by
  match us,hrep with
  | [u0,u1],⟨h0,h1,_⟩ =>
   obtain ⟨ad,cap,hv,_,_,hc,_⟩:=h0;obtain rfl:cap = 0:=hc rfl;exact ⟨ad,by rw [hv,show u1 = y from h1.1]⟩
 refine (h w ad).mono ?_;rintro e w' ⟨v,rfl,hb,hor⟩;have la:lk [(a,aa.arr true s T 0 F)] a = some (.arr true s T 0 F):=by simp [lk]
 have him:∀ q ob,c.imm q = some ob -> q < w.heap.size:=fun q ob hq=>(bmr.1 (hM.imm q ob hq)).1
 have hform:v.oneCell' = true:=by
  rcases hor with rfl | ⟨hrow,_⟩
  · rfl
  rcases hrow.2 with ⟨hv,_⟩ | ⟨g,cap,cur,hv,_⟩ <;> (subst hv;rfl)
 have hbk:∃ bk:Nat -> Prop,(∀ g,bk g -> w.heap.size <= g) /\ (bk = je v /\ w'.ownsRow 0 T s v 0 [] \/ bk = noB /\ ay c.imm (.sl 0 s true F) v):=by
  rcases hor with rfl | ⟨hrow,hat⟩
  · exact ⟨noB,fun g hg=>hg.elim, .inr ⟨rfl,ad,0,rfl,bmp _,bms _,fun _=>rfl,fun h=>absurd h (bq4 0)⟩⟩
  exact ⟨je v,hat, .inl ⟨rfl,hrow⟩⟩
 obtain ⟨bk,hat,hok⟩:=hbk;refine ⟨v,{ c with own:=fun q=>if q = a then v else c.own q,blk:=fun q=>if q = a then bk else c.blk q },rfl,⟨hform,fun l hl=>(by cases (j3 hl).2),fun ob s1 e1 n1 ho1 hd=>?_⟩,⟨fun id ob hl=>?_,fun id id' ob ob' q hl hl' _ _=>by rw [(j3 hl).1,(j3 hl').1],fun q ob hq=>(hb.block q (him q ob hq)).trans (hM.imm q ob hq),fun id ob q hl hq=>?_⟩,⟨hb.os,hb.tape,hb.output,hb.size,fun k hk=>absurd hk (bmq k),hb.drawn⟩,fun q hq _=>⟨hb.block q hq,rfl⟩,fun id ob q hl hq=>?_,fun id hid=>absurd hid br1⟩
 · obtain ⟨_,rfl⟩:=j3 ho1
   simp only [aa.dim,bmk,bmu] at hd;obtain ⟨rfl,rfl,rfl⟩:=hd;exact ⟨bmp _,fun _=>by simp⟩
 · obtain ⟨rfl,rfl⟩:=j3 hl
   rcases hok with ⟨h1,h2⟩ | ⟨h1,h2⟩
   · exact ⟨hs,bms _, .inl ⟨by simpa using h1,[],by simpa using h2,fun i j hi=>by omega⟩⟩
   exact ⟨hs,bms _, .inr ⟨.inr rfl,by simpa using h1,by simpa using h2⟩⟩
 · obtain ⟨rfl,_⟩:=j3 hl
   have hq':bk q:=by simpa using hq
   show c.imm q = none
   cases hc:c.imm q with
   | none=>rfl
   | some ob=>have:=him q ob hc;have:=hat q hq';omega
 obtain ⟨rfl,_⟩:=j3 hl;have hq':bk q:=by simpa using hq
 exact .inl (hat q hq')
def HE (nt:Nat) (st:HSt) (Q:HSt -> Prop):Prop:=∀ w0 m0 a w,Rel w0 m0 nt st.den a w -> ∃ st':HSt,Q st' /\ Rel w0 m0 nt st'.den a w
def b7y {nt:Nat} {st:HSt} {Q:HSt -> Prop} (h:Q st):HE nt st Q:=fun _ _ _ _ hr=>⟨st,h,hr⟩
end
section
open Go.RowKit
abbrev AS:=BitVec 32
abbrev asI (s:AS):Int:=(s.toNat:Int)
def asC (s:AS):PV:=.raw (.int .u32 (asI s))
def an0 {n:Int} (h0:0 <= n) (h1:n < 4294967296):IntKind.wrap .u32 n = n:=wc (by simp only [inR,n3,oc];omega)
def adx (s:AS):asI s < 4294967296:=by
 have:=s.isLt;unfold asI;omega
def a6x (s:AS):0 <= asI s:=boz _
def o5 (s:AS):BitVec.ofInt 32 (asI s) = s:=by
 unfold asI;rw [BitVec.ofInt_natCast,BitVec.ofNat_toNat,BitVec.setWidth_eq]
def c7 {a b:AS}:asI a = asI b <-> a = b:=by
 unfold asI;rw [Int.ofNat_inj];exact BitVec.toNat_inj
def a3z (s:AS):IntKind.wrap .u32 (s.toNat:Int) = asI s:=an0 (a6x s) (adx s)
def fv (a b:AS):az .and .u32 (asI a) (asI b) = asI (a &&& b):=by
 show IntKind.wrap .u32 ((BitVec.ofInt 32 (asI a) &&& BitVec.ofInt 32 (asI b)).toNat:Int) = _;rw [o5,o5,a3z]
def bOr (a b:AS):az .or .u32 (asI a) (asI b) = asI (a ||| b):=by
 show IntKind.wrap .u32 ((BitVec.ofInt 32 (asI a) ||| BitVec.ofInt 32 (asI b)).toNat:Int) = _;rw [o5,o5,a3z]
def at3 (a b:AS):az .xor .u32 (asI a) (asI b) = asI (a ^^^ b):=by
 show IntKind.wrap .u32 ((BitVec.ofInt 32 (asI a) ^^^ BitVec.ofInt 32 (asI b)).toNat:Int) = _;rw [o5,o5,a3z]
def gl (a b:AS):az .andNot .u32 (asI a) (asI b) = asI (a &&& ~~~b):=by
 show IntKind.wrap .u32 ((BitVec.ofInt 32 (asI a) &&& ~~~BitVec.ofInt 32 (asI b)).toNat:Int) = _;rw [o5,o5,a3z]
def y9 (a:AS) (n:Nat):(asI a).fdiv (2 ^ (min n 32)) = asI (a >>> n):=by
 have e:(2:Int) ^ (min n 32) = ((2 ^ (min n 32):Nat):Int):=by rw [Int.natCast_pow];rfl
 rw [e];unfold asI;rw [Int.fdiv_eq_ediv_of_nonneg _ (boz _),<- Int.natCast_ediv,bqd,bq8];by_cases h:n <= 32
 · rw [bok h]
 rw [Nat.min_eq_right bqx];have h1:=a.isLt;have h2:2 ^ 32 <= 2 ^ n:=bo2 bqx bqx;rw [Nat.div_eq_of_lt bqx,Nat.div_eq_of_lt (bow bqx h2)]
def akl (a:AS) (n:Nat):IntKind.wrap .u32 (asI a * 2 ^ (min n 32)) = asI (a <<< n):=by
 have e:asI a * (2:Int) ^ (min n 32) = ((a.toNat * 2 ^ (min n 32):Nat):Int):=by rw [Int.natCast_mul,Int.natCast_pow];rfl
 rw [e]
 have hw:∀ m:Nat,IntKind.wrap .u32 (m:Int) = ((m % 4294967296:Nat):Int):=by
  intro m;simp [IntKind.wrap,IntKind.signed,IntKind.bits]
 rw [hw];unfold asI;rw [BitVec.toNat_shiftLeft,Nat.shiftLeft_eq];by_cases h:n <= 32
 · rw [bok h]
 rw [Nat.min_eq_right bqx];have h1:a.toNat * 2 ^ 32 % 2 ^ 32 = 0:=Nat.mul_mod_left _ _
 have h2:a.toNat * 2 ^ n % 2 ^ 32 = 0:=by
  obtain ⟨k,rfl⟩:∃ k,n = k + 32:=⟨n - 32,by omega⟩;rw [Nat.pow_add,<- Nat.mul_assoc];exact Nat.mul_mod_left _ _
 have h1:a.toNat * 2 ^ 32 % 4294967296 = 0:=h1;rw [h1,h2]
end
section
structure Fd where
 lhs:AS
 rhs:AS
instance:Inhabited Fd:=⟨⟨0,0⟩⟩
theorem Fd.eq_iff {a b:Fd}:a = b <-> a.lhs = b.lhs /\ a.rhs = b.rhs:=by cases a;cases b;simp
instance:DecidableEq Fd:=fun a b=>decidable_of_iff _ (Fd.eq_iff (a:=a) (b:=b)).symm
def Fd.c (x:Fd):Nat -> PV
 | 0=>asC x.lhs
 | 1=>asC x.rhs
 | _=>.any
def sub (a b:AS):Prop:=a &&& ~~~b = 0
instance:DecidablePred fun p:AS × AS=>sub p.1 p.2:=fun p=>inferInstanceAs (Decidable (_ = _))
instance {a b:AS}:Decidable (sub a b):=inferInstanceAs (Decidable (_ = _))
section
variable {a b:AS}
def ap:sub a b <-> ∀ i,i < 32 -> a.getLsbD i = true -> b.getLsbD i = true:=by
 unfold sub;constructor
 · intro h i hi ha
   have:=congrArg (fun x:AS=>x.getLsbD i) h;simp only [bn4,boo,hi,ha,decide_true,bov] at this;simpa using this
 intro h;apply bo5;intro i hi;have:=h i hi;simp only [bn4,boo,hi,decide_true,bov];cases ha:a.getLsbD i <;> cases hb:b.getLsbD i <;> simp_all
def gz (a:AS):sub a a:=ap.2 fun _ _ h=>h
def fq {c:AS} (h:sub a b) (k:sub b c):sub a c:=ap.2 fun i hi ha=>ap.1 k i hi (ap.1 h i hi ha)
def a0j:sub a (a ||| b):=ap.2 fun i hi ha=>by simp [ha]
def a4w:sub b (a ||| b):=ap.2 fun i hi ha=>by simp [ha]
def vc {c:AS} (h:sub a c) (k:sub b c):sub (a ||| b) c:=ap.2 fun i hi ha=>by
 rw [bo9,bob] at ha
 rcases ha with ha | ha
 · exact ap.1 h i hi ha
 exact ap.1 k i hi ha
def ef (h:sub a b) (k:sub b a):a = b:=by
 apply bo5;intro i hi;have h1:=ap.1 h i hi;have h2:=ap.1 k i hi;cases ha:a.getLsbD i <;> cases hb:b.getLsbD i <;> simp_all
def ad8 (h:sub a b):a.toNat <= b.toNat:=by
 have e:a ||| b = b:=ef (vc h (gz b)) a4w
 have:a.toNat <= (a ||| b).toNat:=by rw [BitVec.toNat_or];exact Nat.left_le_or
 rwa [e] at this
def a0n (h:sub a b) (hne:a ≠ b):a.toNat < b.toNat:=by
 rcases bp6 (ad8 h) with h | h
 · exact h
 exact absurd (bnp h) hne
def b9s:sub a b <-> a &&& b = a:=by
 rw [ap];constructor
 · intro h
   apply bo5;intro i hi;have:=h i hi;rw [bn4];cases ha:a.getLsbD i <;> simp_all
 intro h i hi ha;have:=congrArg (fun x:AS=>x.getLsbD i) h;simp only [bn4,ha,bov] at this;exact this
def gh (s:AS) (f:Fd):AS:=if sub f.lhs s then s ||| f.rhs else s
def dq (l:List Fd) (s:AS):AS:=l.foldl gh s
variable {s:AS}
def adg {f:Fd}:sub s (gh s f):=by
 unfold gh;split
 · exact a0j
 exact gz s
def o4:∀ {l:List Fd} {s:AS},sub s (dq l s)
 | [],s=>gz s
 | f :: l,s=>fq adg (o4 (l:=l) (s:=gh s f))
def clF (l:List Fd):Nat -> AS -> AS
 | 0,s=>s
 | n + 1,s=>if dq l s = s then s else clF l n (dq l s)
def clo (l:List Fd) (s:AS):AS:=clF l 4294967296 s
variable {l:List Fd}
def ano:∀ {n m:Nat} {s:AS},4294967296 - s.toNat <= n -> 4294967296 - s.toNat <= m -> clF l n s = clF l m s
 | 0,m,s,hn,hm=>by have:=s.isLt;omega
 | n + 1,0,s,hn,hm=>by have:=s.isLt;omega
 | n + 1,m + 1,s,hn,hm=>by
  unfold clF;split
  · rfl
  rename_i hne;have:=a0n (o4 (l:=l) (s:=s)) (fun e=>hne e.symm);exact ano bqx bqx
def aq6 (h:dq l s = s):clo l s = s:=by
 show clF l (4294967295 + 1) s = s;unfold clF;rw [if_pos h]
def anc:clo l (dq l s) = clo l s:=by
 by_cases h:dq l s = s
 · rw [h]
 have e:clo l s = clF l 4294967295 (dq l s):=by
  show clF l (4294967295 + 1) s = _;rw [clF,if_neg h]
 rw [e];have:=a0n (o4 (l:=l) (s:=s)) (fun e=>h e.symm);exact ano bqx bqx
def aer:∀ {n:Nat} {s:AS},4294967296 - s.toNat <= n -> dq l (clF l n s) = clF l n s
 | 0,s,hn=>by have:=s.isLt;omega
 | n + 1,s,hn=>by
  unfold clF;split
  · assumption
  rename_i hne;have:=a0n (o4 (l:=l) (s:=s)) (fun e=>hne e.symm);exact aer bqx
def at9:dq l (clo l s) = clo l s:=aer bqx
def aws:∀ {n:Nat} {s:AS},sub s (clF l n s)
 | 0,s=>gz s
 | n + 1,s=>by
  unfold clF;split
  · exact gz s
  exact fq o4 aws
def adz:sub s (clo l s):=aws
def ud (l:List Fd) (s:AS):Prop:=∀ f ∈ l,sub f.lhs s -> sub f.rhs s
def ya:∀ {l:List Fd} {s:AS},dq l s = s <-> ud l s
 | [],s=>⟨fun _ f hf=>(by cases hf),fun _=>rfl⟩
 | f :: l,s=>by
  constructor
  · intro h
    have h1:gh s f = s:=ef (by have:=o4 (l:=l) (s:=gh s f);rw [show dq l (gh s f) = s from h] at this;exact this) adg
    have h2:dq l s = s:=by
     have:dq l (gh s f) = s:=h;rwa [h1] at this
    intro g hg
    rcases bn0.1 hg with rfl | hg
    · intro hl
      rw [gh,if_pos hl] at h1;rw [<- h1];exact a4w
    exact ya.1 h2 g hg
  intro h
  have h1:gh s f = s:=by
   unfold gh;split
   · rename_i hl
     exact ef (vc (gz s) (h f (bnt ..) hl)) a0j
   rfl
  show dq l (gh s f) = s;rw [h1];exact ya.2 fun g hg=>h g (bnq _ hg)
def adq:∀ {l:List Fd} {s t:AS},ud l t -> sub s t -> sub (dq l s) t
 | [],s,t,_,h=>h
 | f :: l,s,t,ht,h=>adq (l:=l) (fun g hg=>ht g (bnq _ hg)) (by
  unfold gh;split
  · rename_i hl
    exact vc h (ht f (bnt ..) (fq hl h))
  exact h)
def ar6 {t:AS} (ht:ud l t):∀ {n:Nat} {s:AS},sub s t -> sub (clF l n s) t
 | 0,s,h=>h
 | n + 1,s,h=>by
  unfold clF;split
  · exact h
  exact ar6 ht (adq ht h)
def a6i {t:AS} (ht:ud l t) (h:sub s t):sub (clo l s) t:=ar6 ht h
def a6u:ud l (clo l s):=ya.1 at9
end
end
section
abbrev pI (a:Int):PC:=.one (.raw (.int .i64 a))
abbrev pB (b:Bool):PC:=.one (.raw (.bool b))
abbrev pP (x:PV):PC:=.one x
abbrev pA (s:AS):PC:=.one (.raw (.int .u32 (asI s)))
abbrev fdl (l:List Fd):PV:=psl 2 Fd.c l
abbrev asl (l:List AS):PV:=psl 1 (fun s _=>asC s) l
abbrev vI (a:Int):HR:=bp (.raw (.int .i64 a))
abbrev vA (s:AS):HR:=bp (.raw (.int .u32 (asI s)))
def ae7 {l:List Fd} {s:AS} {i:Nat} (hi:i < l.length):dq (l.take (i + 1)) s = gh (dq (l.take i) s) (l.getD i default):=by
 unfold dq;rw [List.take_succ,bml hi,bo0,bmm,bml hi];rfl
def ig {a b:AS}:az .andNot .u32 (asI a) (asI b) = 0 <-> sub a b:=by
 rw [gl,show (0:Int) = asI 0 from rfl,c7];exact Iff.rfl
section
variable {f:Fd}
def bdr {S:AS} (h:az .andNot .u32 (asI f.lhs) (asI S) = 0):az .or .u32 (asI S) (asI f.rhs) = asI (gh S f):=by
 rw [bOr,gh,if_pos (ig.1 h)]
def bft {S:AS} (h:¬ az .andNot .u32 (asI f.lhs) (asI S) = 0):gh S f = S:=if_neg fun e=>h (ig.2 e)
def cl_t' {S:AS} (h:decide (sub f.lhs S) = true):az .or .u32 (asI S) (asI f.rhs) = asI (gh S f):=by
 rw [bOr,gh,if_pos (of_decide_eq_true h)]
def cl_f' {S:AS} (h:decide (sub f.lhs S) = false):gh S f = S:=if_neg (of_decide_eq_false h)
def inU (n:Int) (f:Fd):Bool:=decide ((f.lhs ||| f.rhs) >>> n.toNat = 0)
def b5 (n:Int) (l:List Fd):Int:=if n < 0 \/ 16 < n then 7 else if 64 < l.length then 3 else if l.all (inU n) = true then 0 else 1
def a9p {n:Int}:(az .or .u32 (asI f.lhs) (asI f.rhs)).fdiv (2 ^ (min n.toNat 32)) = 0 <-> inU n f = true:=by
 rw [bOr,y9,show (0:Int) = asI 0 from rfl,c7];unfold inU;rw [decide_eq_true_iff]
def bn {k:IntKind} {a b:Int} (h:a = b):CoR (bp (.raw (.int k a))) (bp (.raw (.int k b))):=by
 rw [h];exact CoR.refl _
def jt (n:Nat):AS:=(List.range n).foldl (fun s i=>s ||| ((1:AS) <<< i)) 0
def a7 (n:Int):AS:=jt (min n.toNat 32)
def aeu (i:Nat):jt (i + 1) = jt i ||| ((1:AS) <<< i):=by
 unfold jt;rw [bod,bo0];rfl
def ayj (i:Nat):az .or .u32 (asI (jt i)) (IntKind.wrap .u32 (1 * 2 ^ (min i 32))) = asI (jt (i + 1)):=by
 have e:IntKind.wrap .u32 (1 * 2 ^ (min i 32)) = asI ((1:AS) <<< i):=akl 1 i;rw [e,bOr,aeu]
end
end
section
open Go.Proofs
def mf:goodFn brj 125:=wgx Tryz.func125
def su (a b:AS):a6 brj 125 [pA a,pA b] (a8 [pB (decide (sub a b))]):=by
 refine hpx (nt:=10) Tryz.func125 ?_;refine jd ?_;exact hx8 rfl rfl rfl (⟨ccb (decide_eq_decide.2 (by rw [fv,c7];exact b9s.symm)),trivial⟩)
def ur:goodFn brj 120:=wgx Tryz.func120
def bqy {p:Prop} (h:p:=by assumption):p:=h
def xj (l:List Fd) (s0:AS):a6 brj 120 [pP (fdl l),pA s0] (a8 [pA (clo l s0)]):=by
 refine hpx (nt:=29) Tryz.func120 ?_;refine cg ?_;refine ca 0 rfl fun hlen=>?_;refine w_4 ?_;refine ae (ι:=AS) (ka 0 kn) km (fun s=>⟨[(1,some (vA s))],[]⟩) (fun s=>clo l s = clo l s0) (fun s=>4294967296 - s.toNat) (s0) (rfl) kk ?_;rintro s hs;refine pw ?_;refine b7 (ka 0 (ka 5 (ka 9 (ka 10 kn)))) km (fun i=>⟨[(11,some (vI i)),(1,some (vA (dq (l.take i) s)))],[]⟩) l.length kk ?_;rintro i hi;refine w_5 ?_;refine hcd (fun h0=>?_) (fun h0=>?_)
 ·
  refine w_7 ?_;refine m9 0 ?_;refine bz ?_;refine hcd (fun h1=>?_) (fun h1=>?_)
  · refine cq ?_;exact lpx (i + 1) ⟨⟨zy,⟨_,rfl,(by rw [ae7 bqx];first | (rw [bft bqy];exact CoR.refl _) | (simp only [bmz];rw [bdr bqy];exact CoR.refl _))⟩,tt⟩,trivial⟩
  refine w_5 ?_;exact lpx (i + 1) ⟨⟨zy,⟨_,rfl,(by rw [ae7 bqx];first | (rw [bft bqy];exact CoR.refl _) | (simp only [bmz];rw [bdr bqy];exact CoR.refl _))⟩,tt⟩,trivial⟩
 obtain rfl:i = l.length:=by omega
 refine w_7 ?_;refine hcd (fun h2=>?_) (fun h2=>?_)
 ·
  refine w_5 ?_;refine hrr ?_
  have e2:dq l s = s:=by
   have:=c7.1 bqy;rwa [bmt] at this
  exact f9 rfl rfl (⟨cci (by rw [bmt,e2,<- hs,aq6 e2]),trivial⟩)
 refine d6 ?_;refine ⟨dq l s, ?_, ?_, ?_⟩
 · show clo l (dq l s) = clo l s0
   rw [anc];exact hs
 · have hne:¬ dq l s = s:=fun e=>absurd (congrArg asI e) (by rw [bmt] at *;assumption)
   have:=a0n (o4 (l:=l) (s:=s)) (fun e=>hne e.symm);have:=(dq l s).isLt;show 4294967296 - (dq l s).toNat < 4294967296 - s.toNat;omega
 exact ⟨⟨⟨_,rfl,(by rw [bmt];exact CoR.refl _)⟩,tt⟩,trivial⟩
def zm:goodFn brj 126:=wgx Tryz.func126
def zb (l:List Fd) (s0:AS):a6 brj 126 [pP (fdl l),pA s0] (a8 [pA (clo l s0)]):=by
 refine hpx (nt:=32) Tryz.func126 ?_;refine cg ?_;refine ca 0 rfl fun hlen=>?_;refine w_4 ?_;refine ae (ι:=AS) (ka 0 kn) km (fun s=>⟨[(1,some (vA s))],[]⟩) (fun s=>clo l s = clo l s0) (fun s=>4294967296 - s.toNat) (s0) (rfl) kk ?_;rintro s hs;refine en ?_;refine b7 (ka 0 (ka 5 kn)) km (fun i=>⟨[(6,some (vI i)),(1,some (vA (dq (l.take i) s)))],[]⟩) l.length kk ?_;rintro i hi;refine w_8 ?_;refine hcd (fun h0=>?_) (fun h0=>?_)
 ·
  refine cq ?_;refine qcx mf (su (l.getD i default).lhs (dq (l.take i) s)) ?_;refine c6 ?_;refine hcb (fun h1=>?_) (fun h1=>?_)
  · refine n7 ?_;exact lpx (i + 1) ⟨⟨zy,⟨_,rfl,(by rw [ae7 bqx];first | (rw [cl_f' bqy];exact CoR.refl _) | (simp only [bmz];rw [cl_t' bqy];exact CoR.refl _))⟩,tt⟩,trivial⟩
  refine w_6 ?_;exact lpx (i + 1) ⟨⟨zy,⟨_,rfl,(by rw [ae7 bqx];first | (rw [cl_f' bqy];exact CoR.refl _) | (simp only [bmz];rw [cl_t' bqy];exact CoR.refl _))⟩,tt⟩,trivial⟩
 obtain rfl:i = l.length:=by omega
 refine w_7 ?_;refine hcd (fun h2=>?_) (fun h2=>?_)
 ·
  refine w_5 ?_;refine hrr ?_
  have e2:dq l s = s:=by
   have:=c7.1 bqy;rwa [bmt] at this
  exact f9 rfl rfl (⟨cci (by rw [bmt,e2,<- hs,aq6 e2]),trivial⟩)
 refine d6 ?_;refine ⟨dq l s, ?_, ?_, ?_⟩
 · show clo l (dq l s) = clo l s0
   rw [anc];exact hs
 · have hne:¬ dq l s = s:=fun e=>absurd (congrArg asI e) (by rw [bmt] at *;assumption)
   have:=a0n (o4 (l:=l) (s:=s)) (fun e=>hne e.symm);have:=(dq l s).isLt;show 4294967296 - (dq l s).toNat < 4294967296 - s.toNat;omega
 exact ⟨⟨⟨_,rfl,(by rw [bmt];exact CoR.refl _)⟩,tt⟩,trivial⟩
def wl:goodFn brj 113:=wgx Tryz.func113
def zz (n:Int) (l:List Fd):a6 brj 113 [pI n,pP (fdl l)] (a8 [pI (b5 n l)]):=by
 refine hpx (nt:=31) Tryz.func113 ?_;refine cg ?_;refine ca 1 rfl fun hlen=>?_;refine w_9 ?_;refine ai rfl rfl (fun r0=>?_) (fun r0=>?_)
 ·
  have h0:=tz1 r0;(iterate 2 refine k9 (gtf r0) ?_);refine rq rfl rfl rfl rfl rfl ?_ (hp:=r0);refine w_6 ?_
  exact hx8 rfl rfl rfl (⟨cci (by rw [b5,if_pos bqx]),trivial⟩)
 have h0:=tz2 r0;(iterate 2 refine qy ?_ (hg:=(gff r0)));refine w_2 ?_;refine aj _ rfl (fun r1=>?_) (fun r1=>?_)
 · have h1:=tz1 (av r0 r1);refine v_4 ?_;exact ⟨cci (by rw [b5,if_pos bqx]),trivial⟩
 have h1:=tz2 (av r0 r1);refine w_8 ?_;refine hcd (fun h2=>?_) (fun h2=>?_)
 · refine v_4 ?_;exact ⟨cci (by rw [b5,if_neg bqx,if_pos bqx]),trivial⟩
 refine w_9 ?_;refine ae (ι:=Nat) (ka 0 (ka 16 (ka 17 kn))) km (fun i=>⟨[(18,some (vI i))],[]⟩) (fun i=>i <= l.length /\ ∀ j,j < i -> inU n (l.getD j default) = true) (fun i=>l.length - i) (0) (⟨bms _,fun j hj=>absurd hj (bmq j)⟩) kk ?_;rintro i ⟨hi,hI⟩;refine w_5 ?_;refine hcd (fun h3=>?_) (fun h3=>?_)
 ·
  refine w_7 ?_;refine m9 0 ?_;refine jd ?_;refine hcn (fun h4=>?_) (fun h4=>?_)
  · refine v_4 ?_;exact ⟨cci (by rw [b5,if_neg bqx,if_neg bqx,if_neg (fun e=>absurd (adp (l:=l) (p:=inU n) (i:=i) bqx (by rw [bmx];exact fun e=>absurd (a9p.2 e) bqy)) (by rw [e];decide))]),trivial⟩
  refine w_5 ?_;refine lpz (i + 1) kk ?_;refine ⟨by omega,fun j hj=>?_⟩
  rcases bp6 (bpf hj) with h | h
  · exact hI j h
  subst h;exact a9p.1 bqy
 obtain rfl:i = l.length:=by omega
 refine v_5 ?_;exact ⟨cci (by rw [b5,if_neg bqx,if_neg bqx,if_pos (ajl fun j hj=>hI j hj)]),trivial⟩
def lr:goodFn brj 50:=wgx Tryz.func50
def lj (n:Int):a6 brj 50 [pI n] (a8 [pA (a7 n)]):=by
 refine hpx (nt:=19) Tryz.func50 ?_;refine pw ?_;refine b7 (ka 0 kn) km (fun i=>⟨[(4,some (vI i)),(3,some (vA (jt i)))],[]⟩) (min n.toNat 32) kk ?_;rintro i hi;refine w_7 ?_;refine ai rfl rfl (fun r0=>?_) (fun r0=>?_)
 ·
  have h0:=tz1 r0;(iterate 2 refine qy ?_ (hg:=(gtt r0)));refine w_2 ?_;refine aj _ rfl (fun r1=>?_) (fun r1=>?_)
  · have h1:=tz1 (bt r0 r1);refine n7 ?_;exact lpx (i + 1) ⟨⟨zy,⟨_,rfl,(by simp only [bmz];exact bn (ayj i))⟩,tt⟩,trivial⟩
  have h1:=tz2 (bt r0 r1);obtain rfl:i = min n.toNat 32:=by omega
  refine v_6 ?_;exact CoL.refl _
 have h0:=tz2 r0;obtain rfl:i = min n.toNat 32:=by omega
 (iterate 2 refine k9 (gft r0) ?_);refine rq rfl rfl rfl rfl rfl ?_ (hp:=r0);refine w_8 ?_
 exact hx8 rfl rfl rfl (CoL.refl _)
end
section
def rp (i k:Nat) (hk:k < 32):((1:AS) <<< i).getLsbD k = decide (k = i):=by
 rw [BitVec.getLsbD_shiftLeft];by_cases h:k < i
 · simp [h,hk];omega
 by_cases e:k = i
 · subst e;simp [hk]
 have:0 < k - i:=by omega
 simp [hk,h,e,BitVec.getLsbD_one];omega
def o3:∀ (n k:Nat),k < 32 -> (jt n).getLsbD k = decide (k < n)
 | 0,k,hk=>by simp [jt]
 | n + 1,k,hk=>by
  rw [aeu,bo9,o3 n k hk,rp n k hk];by_cases h:k < n
  · simp [h];omega
  by_cases e:k = n
  · simp [e]
  simp [h,e];omega
def bgj {s:AS} {n:Nat}:s >>> n = 0 <-> ∀ k,k < 32 -> n <= k -> s.getLsbD k = false:=by
 constructor
 · intro h k hk hn
   have:=congrArg (fun x:AS=>x.getLsbD (k - n)) h;simp only [bph] at this;rw [show n + (k - n) = k by omega] at this;simpa using this
 intro h;apply bo5;intro i hi;rw [bph];by_cases hk:n + i < 32
 · rw [h (n + i) hk bqx];simp
 rw [BitVec.getLsbD_of_ge _ _ bqx];simp
def vm {s:AS} {n:Nat} (hn:n <= 32):sub s (jt n) <-> s >>> n = 0:=by
 rw [ap,bgj];constructor
 · intro h k hk hle
   rw [bmx];intro e;have:=h k hk e;rw [o3 n k hk,decide_eq_true_iff] at this;omega
 intro h k hk e;rw [o3 n k hk,decide_eq_true_iff];apply Nat.lt_of_not_le;intro hle;rw [h k hk hle] at e;cases e
def ou {n:Int} (hn:0 <= n) (h16:n <= 16) {f:Fd}:inU n f = true <-> sub f.lhs (a7 n) /\ sub f.rhs (a7 n):=by
 unfold inU a7;rw [decide_eq_true_iff,bok bqx,<- vm bqx];exact ⟨fun h=>⟨fq a0j h,fq a4w h⟩,fun h=>vc h.1 h.2⟩
abbrev Fd.pc (f:Fd):PC:=.agg [f.c 0,f.c 1]
def imp (l:List Fd) (f:Fd):Bool:=decide (sub f.rhs (clo l f.lhs))
end
section
open Go.Proofs
def a2u:goodFn brj 98:=wgx Tryz.func98
def z7 (n:Int) (l:List Fd):a6 brj 98 [pI n,pP (fdl l)] (a8 [pI (b5 n l)]):=by
 refine hpx (nt:=42) Tryz.func98 ?_;refine cg ?_;refine ca 1 rfl fun hlen=>?_;refine w_9 ?_;refine ai rfl rfl (fun r0=>?_) (fun r0=>?_)
 ·
  have h0:=tz1 r0;(iterate 2 refine k9 (gtf r0) ?_);refine rq rfl rfl rfl rfl rfl ?_ (hp:=r0);refine w_6 ?_
  exact hx8 rfl rfl rfl (⟨cci (by rw [b5,if_pos bqx]),trivial⟩)
 have h0:=tz2 r0;(iterate 2 refine qy ?_ (hg:=(gff r0)));refine w_2 ?_;refine aj _ rfl (fun r1=>?_) (fun r1=>?_)
 · have h1:=tz1 (av r0 r1);refine v_4 ?_;exact ⟨cci (by rw [b5,if_pos bqx]),trivial⟩
 have h1:=tz2 (av r0 r1);refine w_8 ?_;refine hcd (fun h2=>?_) (fun h2=>?_)
 · refine v_4 ?_;exact ⟨cci (by rw [b5,if_neg bqx,if_pos bqx]),trivial⟩
 refine w_4 ?_;refine qcx lr (lj n) ?_;refine w_8 ?_;refine ae (ι:=Nat) (ka 1 (ka 5 kn)) km (fun i=>⟨[(6,some (vI i))],[]⟩) (fun i=>i <= l.length /\ ∀ j,j < i -> inU n (l.getD j default) = true) (fun i=>l.length - i) (0) (⟨bms _,fun j hj=>absurd hj (bmq j)⟩) kk ?_;rintro i ⟨hi,hI⟩;refine w_8 ?_;refine hcd (fun h3=>?_) (fun h3=>?_)
 ·
  refine cq ?_;refine qcx mf (su _ _) ?_;refine w_2 ?_;refine ai rfl rfl (fun r4=>?_) (fun r4=>?_)
  ·
   have h4:=cu r4;(iterate 8 refine k9 (gtf r4) ?_);refine rq rfl rfl rfl rfl rfl ?_ (hp:=r4);refine w_6 ?_
   exact hx8 rfl rfl rfl (⟨cci (by rw [b5,if_neg bqx,if_neg bqx,if_neg (fun e=>absurd (adp (l:=l) (p:=inU n) (i:=i) bqx (by rw [bmx];intro e2;rw [ou bqx bqx] at e2;simp_all)) (by rw [e];decide))]),trivial⟩)
  have h4:=ct r4;(iterate 6 refine qy ?_ (hg:=(gff r4)));refine qcx mf (su _ _) ?_ (hg:=(gff r4));refine qy ?_ (hg:=(gff r4));refine w_2 ?_;refine aj _ rfl (fun r5=>?_) (fun r5=>?_)
  · have h5:=cu (av r4 r5);refine v_4 ?_;exact ⟨cci (by rw [b5,if_neg bqx,if_neg bqx,if_neg (fun e=>absurd (adp (l:=l) (p:=inU n) (i:=i) bqx (by rw [bmx];intro e2;rw [ou bqx bqx] at e2;simp_all)) (by rw [e];decide))]),trivial⟩
  have h5:=ct (av r4 r5);refine w_6 ?_;refine lpz (i + 1) kk ?_;refine ⟨by omega,fun j hj=>?_⟩
  rcases bp6 (bpf hj) with h | h
  · exact hI j h
  subst h;exact (ou bqx bqx).2 br9
 obtain rfl:i = l.length:=by omega
 refine v_5 ?_;exact ⟨cci (by rw [b5,if_neg bqx,if_neg bqx,if_pos (ajl fun j hj=>hI j hj)]),trivial⟩
def bfn (l:List Fd) (x:Fd):a6 brj 252 [pP (fdl l),x.pc] (a8 [pB (imp l x)]):=by
 refine hpx (nt:=13) Tryz.func252 ?_;refine sx7 ?_;refine m9 0 ?_;refine w_9 ?_;refine qcx ur (xj l x.lhs) ?_;refine v_5 ?_;exact ⟨ccb (decide_eq_decide.2 ig),trivial⟩
def b5n (l:List Fd) (x:Fd):a6 brj 236 [pP (fdl l),x.pc] (a8 [pB (imp l x)]):=by
 refine hpx (nt:=12) Tryz.func236 ?_;refine sx7 ?_;refine m9 0 ?_;refine w_9 ?_;refine qcx zm (zb l x.lhs) ?_;refine qcx mf (su x.rhs (clo l x.lhs)) ?_;refine v_3 ?_;exact CoL.refl _
end
section
variable {α:Type}
def aq [Inhabited α] {l:List α} {q:Nat} (hq:q < l.length):l.take (q + 1) = l.take q ++ [l.getD q default]:=by
 rw [List.take_add_one,bml hq];simp [List.getD,hq]
def ax9 [Inhabited α] {l:List α} {q:Nat} (h0:0 < q) (hq:q <= l.length):(l.take q).getLast? = some (l.getD (q - 1) default):=by
 obtain ⟨k,rfl⟩:∃ k,q = k + 1:=⟨q - 1,by omega⟩;rw [aq bqx,List.getLast?_append];simp
section
variable [DecidableEq α]
def ll:Option α -> List α -> List α
 | _,[]=>[]
 | p,x :: l=>if p = some x then ll p l else x :: ll (some x) l
def jg (l:List α):List α:=ll none l
def a3h (p:Option α) (l:List α):Option α:=match l.getLast? with | some y=>some y | none=>p
def ape (p:Option α) (y:α) (l:List α):a3h p (y :: l) = a3h (some y) l:=by
 unfold a3h
 cases l with
 | nil=>rfl
 | cons z l=>simp [List.getLast?_cons]
def a62 (x:α):∀ (l:List α) (p:Option α),ll p (l ++ [x]) = ll p l ++ (if a3h p l = some x then [] else [x])
 | [],p=>by
  unfold a3h;simp only [bqj,ll,List.getLast?_nil];by_cases h:p = some x <;> simp [h]
 | y :: l,p=>by
  rw [ape];simp only [bpj,ll];split
  · rename_i h
    rw [a62 x l p,h]
  rw [a62 x l (some y)];rfl
def qg [Inhabited α] {l:List α} {q:Nat} (h0:0 < q) (hq:q < l.length):jg (l.take (q + 1)) = jg (l.take q) ++ (if l.getD (q - 1) default = l.getD q default then [] else [l.getD q default]):=by
 unfold jg;rw [aq hq,a62];unfold a3h;rw [ax9 h0 bqx];simp
def vz [Inhabited α] {l:List α}:∀ {k:Nat},k <= l.length -> (∀ j,0 < j -> j < k -> ¬ l.getD j default = l.getD (j - 1) default) -> jg (l.take k) = l.take k
 | 0,_,_=>rfl
 | 1,hk,_=>by
  rw [aq bqx];simp [jg,ll]
 | k + 2,hk,h=>by
  rw [qg bqx bqx,vz bqx (fun j h1 h2=>h j h1 bqx),if_neg (fun e=>h (k + 1) bqx bqx e.symm),<- aq bqx]
def ach:∀ (l:List α) (p:Option α),∀ x ∈ ll p l,x ∈ l
 | [],_,x,h=>by simp [ll] at h
 | y :: l,p,x,h=>by
  simp only [ll] at h;split at h
  · exact bnq _ (ach l p x h)
  rcases bn0.1 h with rfl | h
  · exact bnt
  exact bnq _ (ach l _ x h)
def aci:∀ (l:List α) (p:Option α),∀ x ∈ l,p = some x \/ x ∈ ll p l
 | y :: l,p,x,h=>by
  simp only [ll];split
  · rename_i hp
    rcases bn0.1 h with rfl | h
    · exact .inl hp
    exact aci l p x h
  rcases bn0.1 h with rfl | h
  · exact .inr bnt
  rcases aci l (some y) x h with h | h
  · simp only [bmk] at h
    subst h;exact .inr bnt
  exact .inr (bnq _ h)
def alz {l:List α} {x:α}:x ∈ jg l <-> x ∈ l:=⟨ach l none x,fun h=>by
 rcases aci l none x h with h | h
 · cases h
 exact h⟩
end
section
variable [Inhabited α]
section
variable {l:List α}
def ov {p:Nat} {v:α} (hp:p < l.length):(l.set p v).getD p default = v:=by simp [List.getD,hp]
def getD_set_ne' {p j:Nat} {v:α} (h:j ≠ p):(l.set p v).getD j default = l.getD j default:=by
 simp only [List.getD,List.getElem?_set_ne (Ne.symm h)]
variable {c:α -> Nat -> PV}
def ar9 {wr wr':Bool} {n p k:Nat} {e:TypeId} {v:α} {x:PV} (hw:wr' = true -> wr = true) (hn:n = l.length) (hp:k = p) (hk:p < l.length) (hx:x = c v 0):
 CoO (.arr wr 1 e n (eu (lf c l) k 0 [x])) (.arr wr' 1 e n (lf c (l.set p v))):=by
 subst hp hx hn;refine ⟨hw,rfl,rfl,rfl,fun i j hi hj=>CoP.of_eq ?_⟩;obtain rfl:j = 0:=by omega
 unfold eu lf;by_cases h:i = k
 · subst h
   rw [if_pos ⟨rfl,by omega,by simp⟩,ov hk];rfl
 rw [if_neg bqx,getD_set_ne' h]
def uo {wr wr':Bool} {n p k q d:Nat} {e:TypeId} {l':List α} (hw:wr' = true -> wr = true) (hn:n = l.length) (hp:k = p) (hk:p < l.length) (hd:d = q):
 CoO (.arr wr 1 e n (eu (lf c l) k 0 [lf c l' d 0])) (.arr wr' 1 e n (lf c (l.set p (l'.getD q default)))):=ar9 hw hn hp hk (by rw [hd];rfl)
def ahd {n m a:Nat} {cl:Bool} {l':List α} {z:List Value} {p:Option Int} {h:Option Int} (hn:d5 (ar n h) p = l'.length) (hp:p = none) (ha:l'.length <= a) (hl:l' = l.take l'.length):
 CoP (.sl (d5 (ar n h) p) 1 cl (pl (pf (lf c l) a m z) p)) (psl 1 c l'):=by
 subst hp;refine CoP.sl hn.symm (.inl rfl) (fun h=>by cases h) fun i j hi hj=>CoP.of_eq ?_;rw [hn] at hi;show pf (lf c l) a m z i j = lf c l' i j;unfold pf;rw [if_neg bqx];simp only [lf,List.getD];have e:l'[i]? = l[i]?:=by rw [hl,bnl,if_pos hi]
 rw [e]
end
end
abbrev sC:AS -> Nat -> PV:=fun s _=>asC s
structure CpI (l:List AS) (k p q:Nat) (m:List AS):Prop where
 len:m.length = l.length
 kq:k < q
 pq:p < q
 ql:q <= l.length
 pre:m.take p = jg (l.take q)
 high:∀ j,q - 1 <= j -> m.getD j default = l.getD j default
section
variable {k:Nat} {l:List AS}
theorem CpI.start (h1:1 <= k) (hk:k < l.length) (h:∀ j,0 < j -> j < k -> ¬ l.getD j default = l.getD (j - 1) default) (hd:l.getD k default = l.getD (k - 1) default):CpI l k k (k + 1) l :=
 ⟨rfl,by omega,by omega,by omega,by rw [qg bqx hk,if_pos hd.symm,bnn,vz bqx h],fun _ _=>rfl⟩
theorem CpI.skip {p q:Nat} {m:List AS} (h:CpI l k p q m) (hq:q < l.length) (he:m.getD q default = m.getD (q - 1) default):CpI l k p (q + 1) m:=by
 have hk:=h.kq;refine ⟨h.len,by omega,by have:=h.pq;omega,hq, ?_,fun j hj=>h.high j bqx⟩;rw [h.high q bqx,h.high (q - 1) bqx] at he;rw [qg bqx hq,if_pos he.symm,bnn,h.pre]
theorem CpI.keep {p q:Nat} {m:List AS} (h:CpI l k p q m) (hq:q < l.length) (he:¬ m.getD q default = m.getD (q - 1) default):CpI l k (p + 1) (q + 1) (m.set p (m.getD q default)):=by
 have hk:=h.kq;have hp:=h.pq;have hl:=h.len;refine ⟨by simp [hl],by omega,by omega,hq, ?_,fun j hj=>by rw [getD_set_ne' bqx];exact h.high j bqx⟩;have e:=h.high q bqx;rw [e,h.high (q - 1) bqx] at he;rw [qg bqx hq,if_neg (fun e=>he e.symm),<- h.pre,aq (by simp [hl];omega),ov bqx,e];congr 1;rw [List.take_set,bps br8]
def zn {a b a' b':Nat} (h:asI (l.getD a' default) = asI (l.getD b' default)) (ha:a' = a) (hb:b' = b):l.getD a default = l.getD b default:=by subst ha hb;exact c7.1 h
def zj {a b a' b':Nat} (h:¬ asI (l.getD a' default) = asI (l.getD b' default)) (ha:a' = a) (hb:b' = b):¬ l.getD a default = l.getD b default:=by subst ha hb;exact fun e=>h (congrArg asI e)
def ars (hk:l.length <= k) (h:∀ j,0 < j -> j < k -> ¬ l.getD j default = l.getD (j - 1) default):CoP (.sl l.length 1 false (lf sC l)) (asl (jg l)):=by
 have:=vz (bmp l.length) fun j h1 h2=>h j h1 bqx;rw [bmt] at this;rw [this];exact CoP.refl _
def b80 {m:List AS} {p q n a d:Nat} {cl:Bool} {z:List Value} (hC:CpI l k p q m) (hq:¬ q < l.length) (ha:p <= a):CoP (.sl (d5 (ar n (some (p:Int))) none) 1 cl (pl (pf (lf sC m) a d z) none)) (asl (jg l)):=by
 have e:=hC.pre;have h1:=hC.ql;have h2:=hC.len;have h3:=hC.pq;rw [show q = l.length by omega,bmt] at e;have el:(jg l).length = p:=by rw [<- e];simp;omega
 exact ahd (by rw [el];rfl) rfl bqx (by rw [el,e])
end
end
section
open Go.Proofs
def bqz {p:Prop} (h:p:=by (repeat' apply And.intro) <;> first | trivial | exact bmn rfl):p:=h
def br0 {p:Prop} (h:p:=by first | rfl | (dsimp only;omega)):p:=h
def br3 {p:Prop} (h:p:=by simp only [ar];omega):p:=h
def b03 (l:List AS):cb brj 216 [.one (.ref 900 l.length)] [(900, .arr true 1 46 l.length (lf sC l))] (.v (.one (.p (asl (jg l))))) [] []:=by
 refine hfx (nt:=61) Tryz.func216 ?_;refine cg ?_;refine aea 900 rfl fun hlen=>?_;refine bz ?_;refine hcd (fun h0=>?_) (fun h0=>?_)
 · refine w_5 ?_;refine al 2 rfl rfl rfl ?_;refine hrr ?_;exact ⟨_,_,rfl,bqz,ars (k:=l.length) (bmp _) (fun j h1 h2=>by omega),trivial⟩
 refine w_7 ?_;refine ae (ι:=Nat) (ka 0 kn) (kb 900 km) (fun k=>⟨[(3,some (vI k))],[]⟩) (fun k=>1 <= k /\ k <= l.length /\ ∀ j,0 < j -> j < k -> ¬ l.getD j default = l.getD (j - 1) default) (fun k=>l.length - k) (1) (⟨bmp _,by omega,fun j h1 h2=>by omega⟩) kk ?_;rintro k ⟨hk1,hk,hI⟩;refine w_8 ?_;refine hcd (fun h1=>?_) (fun h1=>?_)
 ·
  refine yf ?_;refine hcd (fun h2=>?_) (fun h2=>?_)
  ·
   refine jd ?_;refine ae (ι:=Nat × Nat × List AS) (ka 0 (ka 4 kn)) km (fun x=>⟨[(3,some (vI x.1)),(5,some (vI ((x.2.1:Int) - k)))],[(900,some (.arr true 1 46 l.length (lf sC x.2.2)))]⟩) (fun x=>CpI l k x.1 x.2.1 x.2.2) (fun x=>l.length - x.2.1) ((k,k + 1,l)) (CpI.start hk1 bqx hI (zn bqy rfl bqx)) ⟨⟨zy,⟨_,rfl,(coi br0)⟩,trivial⟩,uu⟩ ?_;rintro ⟨p,q,m⟩ hC;have hC0:=hC;obtain ⟨hml,hkq,hpq,hql,_,_⟩:=hC0;dsimp only at hC hml hkq hpq hql;refine w_8 ?_;refine hcd (fun h3=>?_) (fun h3=>?_)
   ·
    simp only [d5,ar,bmz] at h3;refine yf ?_;refine hcn (fun h4=>?_) (fun h4=>?_)
    ·
     refine a82 ?_
     first | (refine ⟨(p + 1, q + 1, m.set p (m.getD q default)), ?_, ?_, ?_⟩
              · exact hC.keep bqx (zj bqy br3 br3)
              · first | omega | (dsimp only;omega)
              exact ⟨⟨⟨_,rfl,(coi br0)⟩,⟨_,rfl,(coi br0)⟩,tt⟩,⟨⟨_,rfl,(uo id hml.symm bqx (by dsimp only;omega) br3)⟩,trivial⟩⟩)
           | (refine ⟨(p,q + 1,m), ?_, ?_, ?_⟩
              · exact hC.skip bqx (zn bqy br3 br3)
              · first | omega | (dsimp only;omega)
              exact ⟨⟨⟨_,rfl,(coi br0)⟩,⟨_,rfl,(coi br0)⟩,tt⟩,uu⟩)
    refine w_6 ?_
    first | (refine ⟨(p + 1, q + 1, m.set p (m.getD q default)), ?_, ?_, ?_⟩
             · exact hC.keep bqx (zj bqy br3 br3)
             · first | omega | (dsimp only;omega)
             exact ⟨⟨⟨_,rfl,(coi br0)⟩,⟨_,rfl,(coi br0)⟩,tt⟩,⟨⟨_,rfl,(uo id hml.symm bqx (by dsimp only;omega) br3)⟩,trivial⟩⟩)
          | (refine ⟨(p,q + 1,m), ?_, ?_, ?_⟩
             · exact hC.skip bqx (zn bqy br3 br3)
             · first | omega | (dsimp only;omega)
             exact ⟨⟨⟨_,rfl,(coi br0)⟩,⟨_,rfl,(coi br0)⟩,tt⟩,uu⟩)
   simp only [d5,ar,bmz] at h3;refine w_6 ?_;refine r9 0 true ?_;refine w_5 ?_;refine b35 rfl rfl rfl rfl rfl ?_;refine w_2 ?_;refine hrr ?_;exact ⟨_,_,rfl,bqz,b80 hC bqx (by simp [ar]),trivial⟩
  refine w_6 ?_;refine lpz (k + 1) kk ?_;refine ⟨by omega,by show k + 1 <= _;omega,fun j h1 h2=>?_⟩
  rcases bp6 (bpf h2) with h | h
  · exact hI j h1 h
  subst h;exact zj bqy rfl bqx
 refine w_6 ?_;refine al 2 rfl rfl rfl ?_;refine hrr ?_;exact ⟨_,_,rfl,bqz,ars (k:=k) bqx hI,trivial⟩
end
section
section
variable {α:Type} [Inhabited α] {p:α -> Bool} {l:List α}
def abt (h:idx p l = -1):∀ j,j < l.length -> p (l.getD j default) = false:=fun j hj=>by
 cases hc:p (l.getD j default) with
 | false=>rfl
 | true =>
  exfalso;have hx:∃ x ∈ l,p x = true:=⟨l[j],bnb hj,by simpa [List.getD,hj] using hc⟩;unfold idx at h
  cases hf:l.findIdx? p with
  | none =>
   rw [List.findIdx?_eq_none_iff] at hf;obtain ⟨x,hx,hp⟩:=hx;rw [hf x hx] at hp;cases hp
  | some i=>rw [hf] at h;simp only at h;omega
def a0k (h:¬ idx p l = -1):∃ i:Nat,idx p l = i /\ i < l.length /\ p (l.getD i default) = true /\ ∀ j,j < i -> p (l.getD j default) = false:=by
 unfold idx at h ⊢
 cases hf:l.findIdx? p with
 | none=>rw [hf] at h;exact absurd rfl h
 | some i =>
  obtain ⟨h1,h2,h3⟩:=bq9.1 hf;refine ⟨i,rfl,h1,by simpa [List.getD,h1] using h2,fun j hj=>?_⟩;have:=h3 j hj;simp only [List.getD,bml (Nat.lt_trans hj h1),bnf];simpa using this
def xo:(decide (0 <= idx p l)) = l.any p:=by
 unfold idx
 cases hf:l.findIdx? p with
 | none =>
  rw [List.findIdx?_eq_none_iff] at hf
  have:l.any p = false:=by
   rw [bof];intro x hx;rw [hf x hx];exact bqk
  rw [this];rfl
 | some i =>
  obtain ⟨h1,h2,_⟩:=bq9.1 hf;have:l.any p = true:=bno.2 ⟨l[i],bnb h1,h2⟩;rw [this];exact decide_eq_true (boz i)
def a5u:∀ {k:Nat},k <= l.length -> (∀ j,j < k -> p (l.getD j default) = false) -> (l.take k).filter (fun x=>!p x) = l.take k
 | 0,_,_=>by simp
 | k + 1,hk,h=>by rw [aq bqx,bnv,a5u bqx fun j hj=>h j bqx];simp only [bns,h k bqx,bqt,if_true,boh]
structure DfI (p:α -> Bool) (l:List α) (k q:Nat) (m:List α):Prop where
 len:m.length = l.length
 kq:k < q
 ql:q <= l.length
 pre:m.take k = (l.take q).filter fun x=>!p x
 high:∀ j,q <= j -> m.getD j default = l.getD j default
theorem DfI.start {k:Nat} (hk:k < l.length) (h1:p (l.getD k default) = true) (h:∀ j,j < k -> p (l.getD j default) = false):DfI p l k (k + 1) l :=
 ⟨rfl,by omega,hk,by rw [aq hk,bnv,a5u bqx h];simp only [bns,h1,bpu,boh,bo1,if_false,bnn],fun _ _=>rfl⟩
theorem DfI.skip {k q:Nat} {m:List α} (h:DfI p l k q m) (hq:q < l.length) (hp:p (m.getD q default) = true):DfI p l k (q + 1) m:=by
 rw [h.high q (bmp _)] at hp;exact ⟨h.len,by have:=h.kq;omega,hq,by rw [aq hq,bnv,<- h.pre];simp only [bns,hp,bpu,boh,bo1,if_false,bnn],fun j hj=>h.high j bqx⟩
theorem DfI.keep {k q:Nat} {m:List α} (h:DfI p l k q m) (hq:q < l.length) (hp:p (m.getD q default) = false):DfI p l (k + 1) (q + 1) (m.set k (m.getD q default)):=by
 have e:=h.high q (bmp _);rw [e] at hp ⊢;have hk:=h.kq;have hl:=h.len;refine ⟨by simp [hl],by omega,hq, ?_,fun j hj=>by rw [getD_set_ne' bqx];exact h.high j bqx⟩;rw [aq (by simp [hl];omega),ov bqx,aq hq,bnv,<- h.pre];simp only [bns,hp,bqt,if_true,boh];congr 1;rw [List.take_set,bps br8]
end
section
variable {p:AS -> Bool} {l:List AS}
def b6e (h:∀ j,j < l.length -> p (l.getD j default) = false):CoP (.sl l.length 1 false (lf sC l)) (asl (l.filter fun x=>!p x)):=by
 have:=a5u (bmp l.length) h;rw [bmt] at this;rw [this];exact CoP.refl _
def b98 {m:List AS} {k q n a d:Nat} {cl:Bool} {z:List Value} (hC:DfI p l k q m) (hq:¬ q < l.length) (ha:k <= a):CoP (.sl (d5 (ar n (some (k:Int))) none) 1 cl (pl (pf (lf sC m) a d z) none)) (asl (l.filter fun x=>!p x)):=by
 have e:=hC.pre;have h1:=hC.ql;have h2:=hC.len;have h3:=hC.kq;rw [show q = l.length by omega,bmt] at e;have el:(l.filter fun x=>!p x).length = k:=by rw [<- e];simp;omega
 exact ahd (by rw [el];rfl) rfl bqx (by rw [el,e])
end
def adc {a b:AS}:decide (asI a = asI b) = decide (a = b):=decide_eq_decide.2 c7
instance:DecidableEq Fd:=fun a b=>decidable_of_iff (a.lhs = b.lhs /\ a.rhs = b.rhs) Fd.eq_iff.symm
end
section
open Go.Proofs
def a6c:goodFn brj 21:=wgx Tryz.func21
def a3f (n:Nat) (c:Bool) (f:Nat -> Nat -> PV) (hn:n <= 35184372088832) :
 cb brj 21 [.one (.p (.sl n 1 c f))] [] (.v (.one (.ref 0 n))) [(0, .arr true 1 46 n f)] []:=by
 refine hfx (nt:=8) Tryz.func21 ?_;refine sx7 ?_;refine du true rfl rfl rfl rfl rfl trivial ?_;refine c6 ?_;refine a9f (ι:=Bool) (fun c=>⟨[(0,some (bp (.sl n 1 c f)))],[]⟩) (fun _=>True) ?_ fun c _=>?_
 · rcases bon n with hz | h0
   · subst hz
     refine hw_exact' 0 rfl fun ad cap hcap=>?_;refine sx7 ?_;(iterate 2 refine du true rfl rfl rfl rfl rfl trivial ?_);refine c6 ?_;refine aj ad.isNone rfl (fun hc=>?_) (fun hc=>?_)
     · refine sx7 ?_
       refine du true rfl rfl rfl rfl rfl trivial ?_;refine c6 ?_;refine bw 2 0 true 1 46 f br2 rfl (CoP.sl rfl (.inr rfl) (fun h=>h) fun i j hi _=>absurd hi (bmq i)) (.inr rfl) rfl ?_;refine hrr ?_;exact ⟨_,_,rfl,trivial,CoR.refl _,uu⟩
     refine d6 ?_;exact ⟨false,trivial,⟨⟨_,rfl,CoP.raw_sl hcap⟩,trivial⟩,trivial⟩
   refine sx7 ?_;refine du true rfl rfl rfl rfl rfl trivial ?_;refine du true rfl rfl rfl rfl rfl h0 ?_;refine c6 ?_;refine aj false rfl (fun hc=>by cases hc) (fun hc=>?_);refine d6 ?_;exact ⟨c,trivial,tt,trivial⟩
 refine sx7 ?_;refine a3o 0 rfl rfl rfl rfl rfl rfl trivial ?_;refine du true rfl rfl rfl rfl rfl trivial ?_;refine a6a 0 true rfl rfl rfl rfl rfl rfl ⟨trivial,rfl,rfl,rfl, .inl rfl,by show 0 + n <= 9223372036854775807;omega,by show (0 + n) * 4 <= 140737488355328;omega,fun _=>.inl rfl⟩ ?_;refine du true rfl rfl rfl rfl rfl trivial ?_;refine c6 ?_;refine hrr ?_;refine ⟨_,_,rfl,trivial,CoR.of_eq (by show HR.v (.one (.ref 0 (0 + n))) = _;rw [bnk]),⟨⟨_,rfl, ?_⟩,trivial⟩⟩;exact ⟨fun h=>h,rfl,rfl,(bnk n).symm,fun i j _ _=>CoP.of_eq (by simp [fm])⟩
def b11 (n:Nat) (c:Bool) (f:Nat -> Nat -> PV) (hn:n <= 35184372088832):a6 brj 21 [.one (.sl n 1 c f)] (.v (.one (.sl n 1 false f))) :=
 cb.pure (args:=[.one (.sl n 1 c f)]) (l:=[.one (.ref 0 n)]) (a3f n c f hn) rfl ⟨rfl,trivial⟩
def bjb (l:List Fd) (g k:Nat) (caps:Nat -> PV) (V:Fd -> Bool) (hg:goodFn brj g) (hV:∀ x,a6 brj g (x.pc :: it caps k 0) (a8 [pB (V x)])):a6 brj 235 [pP (fdl l),pP (.fn g k caps)] (a8 [pI (idx V l)]):=by
 refine hpx (nt:=19) Tryz.func235 ?_;refine cg ?_;refine ca 0 rfl fun hn=>?_;refine w_3 ?_;refine db (ι:=Unit) kn km (fun _i=>⟨[],[]⟩) (fun _i=>idx V l = -1) ?_ ?_
 ·
  refine w_7 ?_;refine ae (ι:=Nat) (ka 0 (ka 1 (ka 7 kn))) km (fun i=>⟨[(8,some (vI i))],[]⟩) (fun i=>i <= l.length /\ (∀ j,j < i -> V (l.getD j default) = false)) (fun i=>l.length - i) (0) (⟨bms _,bq⟩) kk ?_;rintro i ⟨hi,hI⟩;refine w_5 ?_;refine hcd (fun h0=>?_) (fun h0=>?_)
  ·
   refine n7 ?_;refine rc rfl rfl rfl rfl rfl rfl hg (hV (l.getD i default)) (CoL.refl _) rfl rfl ?_;refine c6 ?_;refine hcb (fun h1=>?_) (fun h1=>?_)
   · refine v_5 ?_;exact ⟨cci (sq (i:=i) bqx hI h1).symm,trivial⟩
   refine w_5 ?_;refine lpz (i + 1) kk ?_;exact ⟨by show i + 1 <= _;omega,aw hI (h1)⟩
  refine dj ?_;refine ⟨(), ?_, ?_⟩
  · exact sy fun j hj=>hI j bqx
  exact ⟨trivial,trivial⟩
 rintro _ hj;refine v_4 ?_;exact ⟨cci hj.symm,trivial⟩
def age:goodFn brj 167:=wgx Tryz.func167
def b4z (l:List AS) (g k:Nat) (caps:Nat -> PV) (V:AS -> Bool) (hg:goodFn brj g) (hV:∀ x,a6 brj g (pA x :: it caps k 0) (a8 [pB (V x)])):a6 brj 167 [pP (asl l),pP (.fn g k caps)] (a8 [pI (idx V l)]):=by
 refine hpx (nt:=19) Tryz.func167 ?_;refine cg ?_;refine ca 0 rfl fun hn=>?_;refine w_3 ?_;refine db (ι:=Unit) kn km (fun _i=>⟨[],[]⟩) (fun _i=>idx V l = -1) ?_ ?_
 ·
  refine w_7 ?_;refine ae (ι:=Nat) (ka 0 (ka 1 (ka 7 kn))) km (fun i=>⟨[(8,some (vI i))],[]⟩) (fun i=>i <= l.length /\ (∀ j,j < i -> V (l.getD j default) = false)) (fun i=>l.length - i) (0) (⟨bms _,bq⟩) kk ?_;rintro i ⟨hi,hI⟩;refine w_5 ?_;refine hcd (fun h0=>?_) (fun h0=>?_)
  ·
   refine n7 ?_;refine rc rfl rfl rfl rfl rfl rfl hg (hV (l.getD i default)) (CoL.refl _) rfl rfl ?_;refine c6 ?_;refine hcb (fun h1=>?_) (fun h1=>?_)
   · refine v_5 ?_;exact ⟨cci (sq (i:=i) bqx hI h1).symm,trivial⟩
   refine w_5 ?_;refine lpz (i + 1) kk ?_;exact ⟨by show i + 1 <= _;omega,aw hI (h1)⟩
  refine dj ?_;refine ⟨(), ?_, ?_⟩
  · exact sy fun j hj=>hI j bqx
  exact ⟨trivial,trivial⟩
 rintro _ hj;refine v_4 ?_;exact ⟨cci hj.symm,trivial⟩
def bh6 (l:List Fd) (g k:Nat) (caps:Nat -> PV) (V:Fd -> Bool) (hg:goodFn brj g) (hV:∀ x,a6 brj g (x.pc :: it caps k 0) (a8 [pB (V x)])):a6 brj 190 [pP (fdl l),pP (.fn g k caps)] (a8 [pB (l.any V)]):=by
 refine hpx (nt:=9) Tryz.func190 ?_;refine w_8 ?_;refine qcx (wgx Tryz.func235) (bjb l g k caps V hg hV) ?_;refine v_3 ?_;exact ⟨ccb xo,trivial⟩
def ago:goodFn brj 148:=wgx Tryz.func148
def aum (l:List AS) (g k:Nat) (caps:Nat -> PV) (V:AS -> Bool) (hg:goodFn brj g) (hV:∀ x,a6 brj g (pA x :: it caps k 0) (a8 [pB (V x)])):a6 brj 148 [pP (asl l),pP (.fn g k caps)] (a8 [pB (l.any V)]):=by
 refine hpx (nt:=9) Tryz.func148 ?_;refine w_8 ?_;refine qcx age (b4z l g k caps V hg hV) ?_;refine v_3 ?_;exact ⟨ccb xo,trivial⟩
def bkp (l:List AS) (s:AS):a6 brj 92 [pP (asl l),pA s] (a8 [pI (idx (fun x=>decide (x = s)) l)]):=by
 refine hpx (nt:=19) Tryz.func92 ?_;refine cg ?_;refine ca 0 rfl fun hn=>?_;refine w_3 ?_;refine db (ι:=Unit) kn km (fun _i=>⟨[],[]⟩) (fun _i=>idx (fun x=>decide (x = s)) l = -1) ?_ ?_
 ·
  refine w_7 ?_;refine ae (ι:=Nat) (ka 0 (ka 1 (ka 7 kn))) km (fun i=>⟨[(8,some (vI i))],[]⟩) (fun i=>i <= l.length /\ (∀ j,j < i -> decide (l.getD j default = s) = false)) (fun i=>l.length - i) (0) (⟨bms _,bq⟩) kk ?_;rintro i ⟨hi,hI⟩;refine w_5 ?_;refine hcd (fun h0=>?_) (fun h0=>?_)
  ·
   refine yf ?_;refine hcd (fun h1=>?_) (fun h1=>?_)
   · refine v_5 ?_;exact ⟨cci (sq (p:=fun x=>decide (x = s)) (i:=i) bqx hI (decide_eq_true (c7.1 h1).symm)).symm,trivial⟩
   refine w_5 ?_;refine lpz (i + 1) kk ?_;exact ⟨by show i + 1 <= _;omega,aw hI (decide_eq_false fun e=>h1 (congrArg asI e.symm))⟩
  refine dj ?_;refine ⟨(), ?_, ?_⟩
  · exact sy (p:=fun x=>decide (x = s)) fun j hj=>hI j bqx
  exact ⟨trivial,trivial⟩
 rintro _ hj;refine v_4 ?_;exact ⟨cci hj.symm,trivial⟩
def bl1 (l:List Fd) (s:Fd):a6 brj 277 [pP (fdl l),s.pc] (a8 [pI (idx (fun x=>decide (x = s)) l)]):=by
 refine hpx (nt:=19) Tryz.func277 ?_;refine cg ?_;refine ca 0 rfl fun hn=>?_;refine gy ?_;refine m9 0 ?_;refine w_2 ?_;refine db (ι:=Unit) kn km (fun _i=>⟨[],[]⟩) (fun _i=>idx (fun x=>decide (x = s)) l = -1) ?_ ?_
 ·
  refine w_7 ?_;refine ae (ι:=Nat) (ka 0 (ka 3 (ka 7 kn))) (kb 0 km) (fun i=>⟨[(8,some (vI i))],[]⟩) (fun i=>i <= l.length /\ (∀ j,j < i -> decide (l.getD j default = s) = false)) (fun i=>l.length - i) (0) (⟨bms _,bq⟩) kk ?_;rintro i ⟨hi,hI⟩;refine w_5 ?_;refine hcd (fun h0=>?_) (fun h0=>?_)
  ·
   refine agx ?_;refine hcb (fun h1=>?_) (fun h1=>?_)
   · refine v_5 ?_;exact ⟨cci (sq (p:=fun x=>decide (x = s)) (i:=i) bqx hI (decide_eq_true (by simp_all [Fd.eq_iff,c7]))).symm,trivial⟩
   refine w_5 ?_;refine lpz (i + 1) kk ?_;exact ⟨by show i + 1 <= _;omega,aw hI (decide_eq_false fun e=>by subst e;simp_all)⟩
  refine dj ?_;refine ⟨(), ?_, ?_⟩
  · exact sy (p:=fun x=>decide (x = s)) fun j hj=>hI j bqx
  exact ⟨trivial,trivial⟩
 rintro _ hj;refine v_4 ?_;exact ⟨cci hj.symm,trivial⟩
def bk4 (l:List Fd) (s:Fd):a6 brj 253 [pP (fdl l),s.pc] (a8 [pB (l.any fun x=>decide (x = s))]):=by
 refine hpx (nt:=9) Tryz.func253 ?_;refine sx7 ?_;refine m9 0 ?_;refine w_6 ?_;refine qcx (wgx Tryz.func277) (bl1 _ _) ?_;refine v_3 ?_;exact ⟨ccb xo,trivial⟩
def afc:goodFn brj 117:=wgx Tryz.func117
def atx (l:List AS) (g k:Nat) (caps:Nat -> PV) (V:AS -> Bool) (hg:goodFn brj g) (hV:∀ x,a6 brj g (pA x :: it caps k 0) (a8 [pB (V x)])):cb brj 117 [.one (.ref 900 l.length), .one (.p (.fn g k caps))] [(900, .arr true 1 46 l.length (lf sC l))] (.v (.one (.p (asl (l.filter fun x=>!V x))))) [] []:=by
 refine hfx (nt:=42) Tryz.func117 ?_;refine cg ?_;refine aea 900 rfl fun hlen=>?_;refine w_7 ?_;refine qcx age (b4z l g k caps V hg hV) ?_;refine w_8 ?_;refine hcd (fun h0=>?_) (fun h0=>?_)
 · refine w_5 ?_;refine al 4 rfl rfl rfl ?_;refine hrr ?_;exact ⟨_,_,rfl,bqz,b6e (abt bqy),trivial⟩
 obtain ⟨i0,hi0,hi1,hi2,hi3⟩:=a0k h0;refine w_9 ?_;refine ae (ι:=Nat × Nat × List AS) (ka 0 (ka 1 kn)) km (fun x=>⟨[(5,some (vI x.1)),(6,some (vI x.2.1))],[(900,some (.arr true 1 46 l.length (lf sC x.2.2)))]⟩) (fun x=>DfI V l x.1 x.2.1 x.2.2) (fun x=>l.length - x.2.1) ((i0,i0 + 1,l)) (DfI.start hi1 hi2 hi3) ⟨⟨⟨_,rfl,(coi hi0)⟩,⟨_,rfl,(coi (by dsimp only;omega))⟩,trivial⟩,uu⟩ ?_;rintro x hC;have hC0:=hC;obtain ⟨hml,hkq,hql,_,_⟩:=hC0;refine w_8 ?_;refine hcd (fun h1=>?_) (fun h1=>?_)
 ·
  refine n7 ?_;refine rc rfl rfl rfl rfl rfl rfl hg (hV (x.2.2.getD (x.2.1:Int).toNat default)) (CoL.refl _) rfl rfl ?_;refine w_2 ?_;refine hcv (fun h2=>?_) (fun h2=>?_)
  ·
   have hv:=h2;refine agx ?_
   first | (refine ⟨(x.1 + 1, x.2.1 + 1, x.2.2.set x.1 (x.2.2.getD x.2.1 default)), ?_, ?_, ?_⟩
            · exact hC.keep bqx (by simpa using hv)
            · first | omega | (dsimp only;omega)
            exact ⟨⟨⟨_,rfl,(coi br0)⟩,⟨_,rfl,(coi br0)⟩,tt⟩,⟨⟨_,rfl,(uo id hml.symm bqx bqx bqx)⟩,trivial⟩⟩)
         | (refine ⟨(x.1,x.2.1 + 1,x.2.2), ?_, ?_, ?_⟩
            · exact hC.skip bqx (by simpa using hv)
            · first | omega | (dsimp only;omega)
            exact ⟨⟨⟨_,rfl,(coi br0)⟩,⟨_,rfl,(coi br0)⟩,tt⟩,uu⟩)
  have hv:=h2;refine w_6 ?_
  first | (refine ⟨(x.1 + 1, x.2.1 + 1, x.2.2.set x.1 (x.2.2.getD x.2.1 default)), ?_, ?_, ?_⟩
           · exact hC.keep bqx (by simpa using hv)
           · first | omega | (dsimp only;omega)
           exact ⟨⟨⟨_,rfl,(coi br0)⟩,⟨_,rfl,(coi br0)⟩,tt⟩,⟨⟨_,rfl,(uo id hml.symm bqx bqx bqx)⟩,trivial⟩⟩)
        | (refine ⟨(x.1,x.2.1 + 1,x.2.2), ?_, ?_, ?_⟩
           · exact hC.skip bqx (by simpa using hv)
           · first | omega | (dsimp only;omega)
           exact ⟨⟨⟨_,rfl,(coi br0)⟩,⟨_,rfl,(coi br0)⟩,tt⟩,uu⟩)
 have hq:=h1;refine w_6 ?_;refine r9 0 true ?_;refine w_5 ?_;refine b35 rfl rfl rfl rfl rfl ?_;refine w_2 ?_;refine hrr ?_;exact ⟨_,_,rfl,bqz,b98 hC bqx (by simp [ar]),trivial⟩
end
end Go.Hx

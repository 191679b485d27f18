/- A part of the proof: Hx19 Hx23 Cs1 Cs3 V1 Cs4 V2 Cl1 V3 Cl2 V4. -/
import Derived.Deep.AppendLies
import Derived.Laws.CopyRow
import Derived.Shelf.Spec.SlicesInsertGrow
import Derived.Test.YtkkenjdfbojdlaaGreatDoorJx13
set_option linter.all false
set_option maxRecDepth 100000
set_option maxHeartbeats 1000000
namespace Go.Hx
section
open Go.Proofs Go.Lib Go.RowKit
def b9x (w:World) (o:Obj) {r:Nat} (h:r < w.heap.size):(w.alloc o).heap[r]? = w.heap[r]?:=by
 show (w.heap.push o)[r]? = _;rw [bnc h,bk9 h]
def bip (k:Nat) (xs vs:List Value):List Value:=xs.take k ++ vs ++ xs.drop k
structure bi3 (w w':World) (T s:Nat) (own v:Value) (n:Nat) (xs:List Value):Prop where
 row:w'.ownsRow 0 T s v (n + 1) xs
 bl:Below 0 w w'
 out:∀ g,g < w.heap.size -> cr own ≠ some g -> w'.heap[g]? = w.heap[g]?
 at_:∀ g,cr v = some g -> w.heap.size <= g \/ cr own = some g
def bix (i:Nat) (F G:Nat -> Nat -> PV):Nat -> Nat -> PV:=fun k j=>if k < i then F k j else if k = i then G 0 j else F (k - 1) j
def io {id q:Nat} {x ob:aa} (h:lk [(q,x)] id = some ob):id = q /\ ob = x:=by
 simp only [lk] at h;by_cases hk:q = id
 · subst hk
   simp at h;exact ⟨rfl,h.symm⟩
 have:Nat.beq q id = false:=by
  rw [bjp];exact fun hb=>hk (bk3 hb)
 rw [this] at h;cases h
structure biv (c:Ctx) (w w':World) (T s a:Nat) (v:Value) (n:Nat) (ys:List Value):Prop where
 row:w'.ownsRow 0 T s v (n + 1) ys
 bl:Below 0 w w'
 out:∀ g,g < w.heap.size -> ¬ c.blk a g -> w'.heap[g]? = w.heap[g]?
 at_:∀ g,cr v = some g -> w.heap.size <= g \/ c.blk a g
def azx {P:Program} {f:FuncId} {T s a:Nat} {y:Value} {F:Nat -> Nat -> PV} (hs:0 < s)
 (h:∀ (w:World) (ad:Option Addr),Calls P f #[.slice ad 0 0,y] w fun e w'=>∃ v,e = .returned v /\ Below w.heap.size w w' /\ (v = .slice ad 0 0 \/ w'.ownsRow 0 T s v 0 [] /\ ∀ g,cr v = some g -> w.heap.size <= g)) :
 d4 P f [.one (.p (kr (.slice none 0 0))), .one (.p (.raw y))] [] (.v (.one (.ref a 0))) [(a, .arr true s T 0 F)] []:=by
 intro w c us hM hrep
 obtain ⟨ad,rfl⟩:∃ ad,us = [.slice ad 0 0,y]:=by
  match us,hrep with
  | [u0,u1],⟨h0,h1,_⟩ =>
   obtain ⟨ad,cap,hv,_,_,hc,_⟩:=h0;obtain rfl:cap = 0:=hc rfl;exact ⟨ad,by rw [hv,show u1 = y from h1.1]⟩
 refine (h w ad).mono ?_;rintro e w' ⟨v,rfl,hb,hor⟩;have la:lk [(a,aa.arr true s T 0 F)] a = some (.arr true s T 0 F):=by simp [lk]
 have him:∀ q ob,c.imm q = some ob -> q < w.heap.size:=fun q ob hq=>(bjf.1 (hM.imm q ob hq)).1
 have hform:v.oneCell' = true:=by
  rcases hor with rfl | ⟨hrow,_⟩
  · rfl
  rcases hrow.2 with ⟨hv,_⟩ | ⟨g,cap,cur,hv,_⟩ <;> (subst hv;rfl)
 have hbk:∃ bk:Nat -> Prop,(∀ g,bk g -> w.heap.size <= g) /\ (bk = iu v /\ w'.ownsRow 0 T s v 0 [] \/ bk = noB /\ az c.imm (.sl 0 s true F) v):=by
  rcases hor with rfl | ⟨hrow,hat⟩
  · exact ⟨noB,fun g hg=>hg.elim, .inr ⟨rfl,ad,0,rfl,bjg _,bji _,fun _=>rfl,fun h=>absurd h (bmt 0)⟩⟩
  exact ⟨iu v,hat, .inl ⟨rfl,hrow⟩⟩
 obtain ⟨bk,hat,hok⟩:=hbk;refine ⟨v,{ c with own:=fun q=>if q = a then v else c.own q,blk:=fun q=>if q = a then bk else c.blk q },rfl,⟨hform,fun l hl=>(by cases (io hl).2),fun ob s1 e1 n1 ho1 hd=>?_⟩,⟨fun id ob hl=>?_,fun id id' ob ob' q hl hl' _ _=>by rw [(io hl).1,(io hl').1],fun q ob hq=>(hb.block q (him q ob hq)).trans (hM.imm q ob hq),fun id ob q hl hq=>?_⟩,⟨hb.os,hb.tape,hb.output,hb.size,fun k hk=>absurd hk (bjh k),hb.drawn⟩,fun q hq _=>⟨hb.block q hq,rfl⟩,fun id ob q hl hq=>?_,fun id hid=>absurd hid bnp⟩
 · obtain ⟨_,rfl⟩:=io ho1
   simp only [aa.dim,bjb,bjl] at hd;obtain ⟨rfl,rfl,rfl⟩:=hd;exact ⟨bjg _,fun _=>by simp⟩
 · obtain ⟨rfl,rfl⟩:=io hl
   rcases hok with ⟨h1,h2⟩ | ⟨h1,h2⟩
   · exact ⟨hs,bji _, .inl ⟨by simpa using h1,[],by simpa using h2,fun i j hi=>by omega⟩⟩
   exact ⟨hs,bji _, .inr ⟨.inr rfl,by simpa using h1,by simpa using h2⟩⟩
 · obtain ⟨rfl,_⟩:=io hl
   have hq':bk q:=by simpa using hq
   show c.imm q = none
   cases hc:c.imm q with
   | none=>rfl
   | some ob=>have:=him q ob hc;have:=hat q hq';omega
 obtain ⟨rfl,_⟩:=io hl;have hq':bk q:=by simpa using hq
 exact .inl (hat q hq')
def HE (nt:Nat) (st:HSt) (Q:HSt -> Prop):Prop:=∀ w0 m0 a w,Rel w0 m0 nt st.den a w -> ∃ st':HSt,Q st' /\ Rel w0 m0 nt st'.den a w
def b6d {nt:Nat} {st:HSt} {Q:HSt -> Prop} (h:Q st):HE nt st Q:=fun _ _ _ _ hr=>⟨st,h,hr⟩
end
section
open Go.RowKit
abbrev AS:=BitVec 32
abbrev asI (s:AS):Int:=(s.toNat:Int)
def asC (s:AS):PV:=.raw (.int .u32 (asI s))
def am6 {n:Int} (h0:0 <= n) (h1:n < 4294967296):IntKind.wrap .u32 n = n:=vt (by simp only [inR,m8,n9];omega)
def acz (s:AS):asI s < 4294967296:=by
 have:=s.isLt;unfold asI;omega
def a5x (s:AS):0 <= asI s:=blq _
def n5 (s:AS):BitVec.ofInt 32 (asI s) = s:=by
 unfold asI;rw [BitVec.ofInt_natCast,BitVec.ofNat_toNat,BitVec.setWidth_eq]
def c8 {a b:AS}:asI a = asI b <-> a = b:=by
 unfold asI;rw [Int.ofNat_inj];exact BitVec.toNat_inj
def a2q (s:AS):IntKind.wrap .u32 (s.toNat:Int) = asI s:=am6 (a5x s) (acz s)
def fc (a b:AS):al .and .u32 (asI a) (asI b) = asI (a &&& b):=by
 show IntKind.wrap .u32 ((BitVec.ofInt 32 (asI a) &&& BitVec.ofInt 32 (asI b)).toNat:Int) = _;rw [n5,n5,a2q]
def bOr (a b:AS):al .or .u32 (asI a) (asI b) = asI (a ||| b):=by
 show IntKind.wrap .u32 ((BitVec.ofInt 32 (asI a) ||| BitVec.ofInt 32 (asI b)).toNat:Int) = _;rw [n5,n5,a2q]
def as4 (a b:AS):al .xor .u32 (asI a) (asI b) = asI (a ^^^ b):=by
 show IntKind.wrap .u32 ((BitVec.ofInt 32 (asI a) ^^^ BitVec.ofInt 32 (asI b)).toNat:Int) = _;rw [n5,n5,a2q]
def gk (a b:AS):al .andNot .u32 (asI a) (asI b) = asI (a &&& ~~~b):=by
 show IntKind.wrap .u32 ((BitVec.ofInt 32 (asI a) &&& ~~~BitVec.ofInt 32 (asI b)).toNat:Int) = _;rw [n5,n5,a2q]
def xc (a:AS) (n:Nat):(asI a).fdiv (2 ^ (min n 32)) = asI (a >>> n):=by
 have e:(2:Int) ^ (min n 32) = ((2 ^ (min n 32):Nat):Int):=by rw [Int.natCast_pow];rfl
 rw [e];unfold asI;rw [Int.fdiv_eq_ediv_of_nonneg _ (blq _),<- Int.natCast_ediv,bn2,bmw];by_cases h:n <= 32
 · rw [blc h]
 rw [Nat.min_eq_right bnl];have h1:=a.isLt;have h2:2 ^ 32 <= 2 ^ n:=blz bnl bnl;rw [Nat.div_eq_of_lt bnl,Nat.div_eq_of_lt (bll bnl h2)]
def amr (a:AS) (n:Nat):IntKind.wrap .u32 (asI a * 2 ^ (min n 32)) = asI (a <<< n):=by
 have e:asI a * (2:Int) ^ (min n 32) = ((a.toNat * 2 ^ (min n 32):Nat):Int):=by rw [Int.natCast_mul,Int.natCast_pow];rfl
 rw [e]
 have hw:∀ m:Nat,IntKind.wrap .u32 (m:Int) = ((m % 4294967296:Nat):Int):=by
  intro m;simp [IntKind.wrap,IntKind.signed,IntKind.bits]
 rw [hw];unfold asI;rw [BitVec.toNat_shiftLeft,Nat.shiftLeft_eq];by_cases h:n <= 32
 · rw [blc h]
 rw [Nat.min_eq_right bnl];have h1:a.toNat * 2 ^ 32 % 2 ^ 32 = 0:=Nat.mul_mod_left _ _
 have h2:a.toNat * 2 ^ n % 2 ^ 32 = 0:=by
  obtain ⟨k,rfl⟩:∃ k,n = k + 32:=⟨n - 32,by omega⟩;rw [Nat.pow_add,<- Nat.mul_assoc];exact Nat.mul_mod_left _ _
 have h1:a.toNat * 2 ^ 32 % 4294967296 = 0:=h1;rw [h1,h2]
end
section
structure Fd where
 lhs:AS
 rhs:AS
instance:Inhabited Fd:=⟨⟨0,0⟩⟩
theorem Fd.eq_iff {a b:Fd}:a = b <-> a.lhs = b.lhs /\ a.rhs = b.rhs:=by cases a;cases b;simp
instance:DecidableEq Fd:=fun a b=>decidable_of_iff _ (Fd.eq_iff (a:=a) (b:=b)).symm
def Fd.c (x:Fd):Nat -> PV
 | 0=>asC x.lhs
 | 1=>asC x.rhs
 | _=>.any
def sub (a b:AS):Prop:=a &&& ~~~b = 0
instance:DecidablePred fun p:AS × AS=>sub p.1 p.2:=fun p=>inferInstanceAs (Decidable (_ = _))
instance {a b:AS}:Decidable (sub a b):=inferInstanceAs (Decidable (_ = _))
section
variable {a b:AS}
def ar:sub a b <-> ∀ i,i < 32 -> a.getLsbD i = true -> b.getLsbD i = true:=by
 unfold sub;constructor
 · intro h i hi ha
   have:=congrArg (fun x:AS=>x.getLsbD i) h;simp only [bjv,blg,hi,ha,decide_true,blm] at this;simpa using this
 intro h;apply bkv;intro i hi;have:=h i hi;simp only [bjv,blg,hi,decide_true,blm];cases ha:a.getLsbD i <;> cases hb:b.getLsbD i <;> simp_all
def im (a:AS):sub a a:=ar.2 fun _ _ h=>h
def gr {c:AS} (h:sub a b) (k:sub b c):sub a c:=ar.2 fun i hi ha=>ar.1 k i hi (ar.1 h i hi ha)
def yh:sub a (a ||| b):=ar.2 fun i hi ha=>by simp [ha]
def a34:sub b (a ||| b):=ar.2 fun i hi ha=>by simp [ha]
def a1v {c:AS} (h:sub a c) (k:sub b c):sub (a ||| b) c:=ar.2 fun i hi ha=>by
 rw [bky,bl3] at ha
 rcases ha with ha | ha
 · exact ar.1 h i hi ha
 exact ar.1 k i hi ha
def ep (h:sub a b) (k:sub b a):a = b:=by
 apply bkv;intro i hi;have h1:=ar.1 h i hi;have h2:=ar.1 k i hi;cases ha:a.getLsbD i <;> cases hb:b.getLsbD i <;> simp_all
def abf (h:sub a b):a.toNat <= b.toNat:=by
 have e:a ||| b = b:=ep (a1v h (im b)) a34
 have:a.toNat <= (a ||| b).toNat:=by rw [BitVec.toNat_or];exact Nat.left_le_or
 rwa [e] at this
def yi (h:sub a b) (hne:a ≠ b):a.toNat < b.toNat:=by
 rcases blx (abf h) with h | h
 · exact h
 exact absurd (bka h) hne
def b3o:sub a b <-> a &&& b = a:=by
 rw [ar];constructor
 · intro h
   apply bkv;intro i hi;have:=h i hi;rw [bjv];cases ha:a.getLsbD i <;> simp_all
 intro h i hi ha;have:=congrArg (fun x:AS=>x.getLsbD i) h;simp only [bjv,ha,blm] at this;exact this
def fl (s:AS) (f:Fd):AS:=if sub f.lhs s then s ||| f.rhs else s
def dg (l:List Fd) (s:AS):AS:=l.foldl fl s
variable {s:AS}
def abj {f:Fd}:sub s (fl s f):=by
 unfold fl;split
 · exact yh
 exact im s
def n4:∀ {l:List Fd} {s:AS},sub s (dg l s)
 | [],s=>im s
 | f :: l,s=>gr abj (n4 (l:=l) (s:=fl s f))
def clF (l:List Fd):Nat -> AS -> AS
 | 0,s=>s
 | n + 1,s=>if dg l s = s then s else clF l n (dg l s)
def clo (l:List Fd) (s:AS):AS:=clF l 4294967296 s
variable {l:List Fd}
def ajw:∀ {n m:Nat} {s:AS},4294967296 - s.toNat <= n -> 4294967296 - s.toNat <= m -> clF l n s = clF l m s
 | 0,m,s,hn,hm=>by have:=s.isLt;omega
 | n + 1,0,s,hn,hm=>by have:=s.isLt;omega
 | n + 1,m + 1,s,hn,hm=>by
  unfold clF;split
  · rfl
  rename_i hne;have:=yi (n4 (l:=l) (s:=s)) (fun e=>hne e.symm);exact ajw bnl bnl
def ap3 (h:dg l s = s):clo l s = s:=by
 show clF l (4294967295 + 1) s = s;unfold clF;rw [if_pos h]
def aii:clo l (dg l s) = clo l s:=by
 by_cases h:dg l s = s
 · rw [h]
 have e:clo l s = clF l 4294967295 (dg l s):=by
  show clF l (4294967295 + 1) s = _;rw [clF,if_neg h]
 rw [e];have:=yi (n4 (l:=l) (s:=s)) (fun e=>h e.symm);exact ajw bnl bnl
def acn:∀ {n:Nat} {s:AS},4294967296 - s.toNat <= n -> dg l (clF l n s) = clF l n s
 | 0,s,hn=>by have:=s.isLt;omega
 | n + 1,s,hn=>by
  unfold clF;split
  · assumption
  rename_i hne;have:=yi (n4 (l:=l) (s:=s)) (fun e=>hne e.symm);exact acn bnl
def ash:dg l (clo l s) = clo l s:=acn bnl
def auq:∀ {n:Nat} {s:AS},sub s (clF l n s)
 | 0,s=>im s
 | n + 1,s=>by
  unfold clF;split
  · exact im s
  exact gr n4 auq
def ab6:sub s (clo l s):=auq
def sk (l:List Fd) (s:AS):Prop:=∀ f ∈ l,sub f.lhs s -> sub f.rhs s
def xb:∀ {l:List Fd} {s:AS},dg l s = s <-> sk l s
 | [],s=>⟨fun _ f hf=>(by cases hf),fun _=>rfl⟩
 | f :: l,s=>by
  constructor
  · intro h
    have h1:fl s f = s:=ep (by have:=n4 (l:=l) (s:=fl s f);rw [show dg l (fl s f) = s from h] at this;exact this) abj
    have h2:dg l s = s:=by
     have:dg l (fl s f) = s:=h;rwa [h1] at this
    intro g hg
    rcases bjq.1 hg with rfl | hg
    · intro hl
      rw [fl,if_pos hl] at h1;rw [<- h1];exact a34
    exact xb.1 h2 g hg
  intro h
  have h1:fl s f = s:=by
   unfold fl;split
   · rename_i hl
     exact ep (a1v (im s) (h f (bkl ..) hl)) yh
   rfl
  show dg l (fl s f) = s;rw [h1];exact xb.2 fun g hg=>h g (bkp _ hg)
def acj:∀ {l:List Fd} {s t:AS},sk l t -> sub s t -> sub (dg l s) t
 | [],s,t,_,h=>h
 | f :: l,s,t,ht,h=>acj (l:=l) (fun g hg=>ht g (bkp _ hg)) (by
  unfold fl;split
  · rename_i hl
    exact a1v h (ht f (bkl ..) (gr hl h))
  exact h)
def ap6 {t:AS} (ht:sk l t):∀ {n:Nat} {s:AS},sub s t -> sub (clF l n s) t
 | 0,s,h=>h
 | n + 1,s,h=>by
  unfold clF;split
  · exact h
  exact ap6 ht (acj ht h)
def a4t {t:AS} (ht:sk l t) (h:sub s t):sub (clo l s) t:=ap6 ht h
def a56:sk l (clo l s):=xb.1 ash
end
end
section
abbrev pI (a:Int):PC:=.one (.raw (.int .i64 a))
abbrev pB (b:Bool):PC:=.one (.raw (.bool b))
abbrev pP (x:PV):PC:=.one x
abbrev pA (s:AS):PC:=.one (.raw (.int .u32 (asI s)))
abbrev fdl (l:List Fd):PV:=psl 2 Fd.c l
abbrev asl (l:List AS):PV:=psl 1 (fun s _=>asC s) l
abbrev vI (a:Int):HR:=bi (.raw (.int .i64 a))
abbrev vA (s:AS):HR:=bi (.raw (.int .u32 (asI s)))
def abi {l:List Fd} {s:AS} {i:Nat} (hi:i < l.length):dg (l.take (i + 1)) s = fl (dg (l.take i) s) (l.getD i default):=by
 unfold dg;rw [List.take_succ,bjc hi,bki,bjd,bjc hi];rfl
def j6 {a b:AS}:al .andNot .u32 (asI a) (asI b) = 0 <-> sub a b:=by
 rw [gk,show (0:Int) = asI 0 from rfl,c8];exact Iff.rfl
section
variable {f:Fd}
def b8z {S:AS} (h:al .andNot .u32 (asI f.lhs) (asI S) = 0):al .or .u32 (asI S) (asI f.rhs) = asI (fl S f):=by
 rw [bOr,fl,if_pos (j6.1 h)]
def b9s {S:AS} (h:¬ al .andNot .u32 (asI f.lhs) (asI S) = 0):fl S f = S:=if_neg fun e=>h (j6.2 e)
def cl_t' {S:AS} (h:decide (sub f.lhs S) = true):al .or .u32 (asI S) (asI f.rhs) = asI (fl S f):=by
 rw [bOr,fl,if_pos (of_decide_eq_true h)]
def cl_f' {S:AS} (h:decide (sub f.lhs S) = false):fl S f = S:=if_neg (of_decide_eq_false h)
def inU (n:Int) (f:Fd):Bool:=decide ((f.lhs ||| f.rhs) >>> n.toNat = 0)
def bh (n:Int) (l:List Fd):Int:=if n < 0 \/ 16 < n then 7 else if 64 < l.length then 3 else if l.all (inU n) = true then 0 else 1
def a84 {n:Int}:(al .or .u32 (asI f.lhs) (asI f.rhs)).fdiv (2 ^ (min n.toNat 32)) = 0 <-> inU n f = true:=by
 rw [bOr,xc,show (0:Int) = asI 0 from rfl,c8];unfold inU;rw [decide_eq_true_iff]
def br {k:IntKind} {a b:Int} (h:a = b):CoR (bi (.raw (.int k a))) (bi (.raw (.int k b))):=by
 rw [h];exact CoR.refl _
def jr (n:Nat):AS:=(List.range n).foldl (fun s i=>s ||| ((1:AS) <<< i)) 0
def a8 (n:Int):AS:=jr (min n.toNat 32)
def abe (i:Nat):jr (i + 1) = jr i ||| ((1:AS) <<< i):=by
 unfold jr;rw [bl4,bki];rfl
def ath (i:Nat):al .or .u32 (asI (jr i)) (IntKind.wrap .u32 (1 * 2 ^ (min i 32))) = asI (jr (i + 1)):=by
 have e:IntKind.wrap .u32 (1 * 2 ^ (min i 32)) = asI ((1:AS) <<< i):=amr 1 i;rw [e,bOr,abe]
end
end
section
open Go.Proofs
def np:goodFn bo6 125:=wgx Tryz.func125
def w6 (a b:AS):a6 bo6 125 [pA a,pA b] (a7 [pB (decide (sub a b))]):=by
 refine hpx (nt:=10) Tryz.func125 ?_;refine j9 ?_;exact hx8 rfl rfl rfl (⟨ccb (decide_eq_decide.2 (by rw [fc,c8];exact b3o.symm)),trivial⟩)
def t8:goodFn bo6 120:=wgx Tryz.func120
def bnm {p:Prop} (h:p:=by assumption):p:=h
def x7 (l:List Fd) (s0:AS):a6 bo6 120 [pP (fdl l),pA s0] (a7 [pA (clo l s0)]):=by
 refine hpx (nt:=29) Tryz.func120 ?_;refine ce ?_;refine c6 0 rfl fun hlen=>?_;refine w_4 ?_;refine ae (ι:=AS) (ka 0 kn) km (fun s=>⟨[(1,some (vA s))],[]⟩) (fun s=>clo l s = clo l s0) (fun s=>4294967296 - s.toNat) (s0) (rfl) kk ?_;rintro s hs;refine nx ?_;refine bg (ka 0 (ka 5 (ka 9 (ka 10 kn)))) km (fun i=>⟨[(11,some (vI i)),(1,some (vA (dg (l.take i) s)))],[]⟩) l.length kk ?_;rintro i hi;refine w_5 ?_;refine hcd (fun h0=>?_) (fun h0=>?_)
 ·
  refine w_7 ?_;refine m9 0 ?_;refine c7 ?_;refine hcd (fun h1=>?_) (fun h1=>?_)
  · refine ct ?_;exact lpx (i + 1) ⟨⟨zy,⟨_,rfl,(by rw [abi bnl];first | (rw [b9s bnm];exact CoR.refl _) | (simp only [bjo];rw [b8z bnm];exact CoR.refl _))⟩,tt⟩,trivial⟩
  refine w_5 ?_;exact lpx (i + 1) ⟨⟨zy,⟨_,rfl,(by rw [abi bnl];first | (rw [b9s bnm];exact CoR.refl _) | (simp only [bjo];rw [b8z bnm];exact CoR.refl _))⟩,tt⟩,trivial⟩
 obtain rfl:i = l.length:=by omega
 refine w_7 ?_;refine hcd (fun h2=>?_) (fun h2=>?_)
 ·
  refine w_5 ?_;refine hrr ?_
  have e2:dg l s = s:=by
   have:=c8.1 bnm;rwa [bjk] at this
  exact f9 rfl rfl (⟨cci (by rw [bjk,e2,<- hs,ap3 e2]),trivial⟩)
 refine d6 ?_;refine ⟨dg l s, ?_, ?_, ?_⟩
 · show clo l (dg l s) = clo l s0
   rw [aii];exact hs
 · have hne:¬ dg l s = s:=fun e=>absurd (congrArg asI e) (by rw [bjk] at *;assumption)
   have:=yi (n4 (l:=l) (s:=s)) (fun e=>hne e.symm);have:=(dg l s).isLt;show 4294967296 - (dg l s).toNat < 4294967296 - s.toNat;omega
 exact ⟨⟨⟨_,rfl,(by rw [bjk];exact CoR.refl _)⟩,tt⟩,trivial⟩
def a7c:goodFn bo6 126:=wgx Tryz.func126
def a7d (l:List Fd) (s0:AS):a6 bo6 126 [pP (fdl l),pA s0] (a7 [pA (clo l s0)]):=by
 refine hpx (nt:=32) Tryz.func126 ?_;refine ce ?_;refine c6 0 rfl fun hlen=>?_;refine w_4 ?_;refine ae (ι:=AS) (ka 0 kn) km (fun s=>⟨[(1,some (vA s))],[]⟩) (fun s=>clo l s = clo l s0) (fun s=>4294967296 - s.toNat) (s0) (rfl) kk ?_;rintro s hs;refine fj ?_;refine bg (ka 0 (ka 5 kn)) km (fun i=>⟨[(6,some (vI i)),(1,some (vA (dg (l.take i) s)))],[]⟩) l.length kk ?_;rintro i hi;refine w_8 ?_;refine hcd (fun h0=>?_) (fun h0=>?_)
 ·
  refine ct ?_;refine qcx np (w6 (l.getD i default).lhs (dg (l.take i) s)) ?_;refine c5 ?_;refine hcb (fun h1=>?_) (fun h1=>?_)
  · refine lb ?_;exact lpx (i + 1) ⟨⟨zy,⟨_,rfl,(by rw [abi bnl];first | (rw [cl_f' bnm];exact CoR.refl _) | (simp only [bjo];rw [cl_t' bnm];exact CoR.refl _))⟩,tt⟩,trivial⟩
  refine w_6 ?_;exact lpx (i + 1) ⟨⟨zy,⟨_,rfl,(by rw [abi bnl];first | (rw [cl_f' bnm];exact CoR.refl _) | (simp only [bjo];rw [cl_t' bnm];exact CoR.refl _))⟩,tt⟩,trivial⟩
 obtain rfl:i = l.length:=by omega
 refine w_7 ?_;refine hcd (fun h2=>?_) (fun h2=>?_)
 ·
  refine w_5 ?_;refine hrr ?_
  have e2:dg l s = s:=by
   have:=c8.1 bnm;rwa [bjk] at this
  exact f9 rfl rfl (⟨cci (by rw [bjk,e2,<- hs,ap3 e2]),trivial⟩)
 refine d6 ?_;refine ⟨dg l s, ?_, ?_, ?_⟩
 · show clo l (dg l s) = clo l s0
   rw [aii];exact hs
 · have hne:¬ dg l s = s:=fun e=>absurd (congrArg asI e) (by rw [bjk] at *;assumption)
   have:=yi (n4 (l:=l) (s:=s)) (fun e=>hne e.symm);have:=(dg l s).isLt;show 4294967296 - (dg l s).toNat < 4294967296 - s.toNat;omega
 exact ⟨⟨⟨_,rfl,(by rw [bjk];exact CoR.refl _)⟩,tt⟩,trivial⟩
def uy:goodFn bo6 113:=wgx Tryz.func113
def z8 (n:Int) (l:List Fd):a6 bo6 113 [pI n,pP (fdl l)] (a7 [pI (bh n l)]):=by
 refine hpx (nt:=31) Tryz.func113 ?_;refine ce ?_;refine c6 1 rfl fun hlen=>?_;refine w_9 ?_;refine ah rfl rfl (fun r0=>?_) (fun r0=>?_)
 ·
  have h0:=tz1 r0;(iterate 2 refine k9 (gtf r0) ?_);refine rq rfl rfl rfl rfl rfl ?_ (hp:=r0);refine w_6 ?_
  exact hx8 rfl rfl rfl (⟨cci (by rw [bh,if_pos bnl]),trivial⟩)
 have h0:=tz2 r0;(iterate 2 refine qy ?_ (hg:=(gff r0)));refine w_2 ?_;refine ak _ rfl (fun r1=>?_) (fun r1=>?_)
 · have h1:=tz1 (am r0 r1);refine v_4 ?_;exact ⟨cci (by rw [bh,if_pos bnl]),trivial⟩
 have h1:=tz2 (am r0 r1);refine w_8 ?_;refine hcd (fun h2=>?_) (fun h2=>?_)
 · refine v_4 ?_;exact ⟨cci (by rw [bh,if_neg bnl,if_pos bnl]),trivial⟩
 refine w_9 ?_;refine ae (ι:=Nat) (ka 0 (ka 16 (ka 17 kn))) km (fun i=>⟨[(18,some (vI i))],[]⟩) (fun i=>i <= l.length /\ ∀ j,j < i -> inU n (l.getD j default) = true) (fun i=>l.length - i) (0) (⟨bji _,fun j hj=>absurd hj (bjh j)⟩) kk ?_;rintro i ⟨hi,hI⟩;refine w_5 ?_;refine hcd (fun h3=>?_) (fun h3=>?_)
 ·
  refine w_7 ?_;refine m9 0 ?_;refine j9 ?_;refine hcn (fun h4=>?_) (fun h4=>?_)
  · refine v_4 ?_;exact ⟨cci (by rw [bh,if_neg bnl,if_neg bnl,if_neg (fun e=>absurd (aas (l:=l) (p:=inU n) (i:=i) bnl (by rw [bjp];exact fun e=>absurd (a84.2 e) bnm)) (by rw [e];decide))]),trivial⟩
  refine w_5 ?_;refine lpz (i + 1) kk ?_;refine ⟨by omega,fun j hj=>?_⟩
  rcases blx (bm8 hj) with h | h
  · exact hI j h
  subst h;exact a84.1 bnm
 obtain rfl:i = l.length:=by omega
 refine v_5 ?_;exact ⟨cci (by rw [bh,if_neg bnl,if_neg bnl,if_pos (ahj fun j hj=>hI j hj)]),trivial⟩
def ov:goodFn bo6 50:=wgx Tryz.func50
def oj (n:Int):a6 bo6 50 [pI n] (a7 [pA (a8 n)]):=by
 refine hpx (nt:=19) Tryz.func50 ?_;refine nx ?_;refine bg (ka 0 kn) km (fun i=>⟨[(4,some (vI i)),(3,some (vA (jr i)))],[]⟩) (min n.toNat 32) kk ?_;rintro i hi;refine w_7 ?_;refine ah rfl rfl (fun r0=>?_) (fun r0=>?_)
 ·
  have h0:=tz1 r0;(iterate 2 refine qy ?_ (hg:=(gtt r0)));refine w_2 ?_;refine ak _ rfl (fun r1=>?_) (fun r1=>?_)
  · have h1:=tz1 (bn r0 r1);refine lb ?_;exact lpx (i + 1) ⟨⟨zy,⟨_,rfl,(by simp only [bjo];exact br (ath i))⟩,tt⟩,trivial⟩
  have h1:=tz2 (bn r0 r1);obtain rfl:i = min n.toNat 32:=by omega
  refine v_6 ?_;exact CoL.refl _
 have h0:=tz2 r0;obtain rfl:i = min n.toNat 32:=by omega
 (iterate 2 refine k9 (gft r0) ?_);refine rq rfl rfl rfl rfl rfl ?_ (hp:=r0);refine w_8 ?_
 exact hx8 rfl rfl rfl (CoL.refl _)
end
section
def v8 (i k:Nat) (hk:k < 32):((1:AS) <<< i).getLsbD k = decide (k = i):=by
 rw [BitVec.getLsbD_shiftLeft];by_cases h:k < i
 · simp [h,hk];omega
 by_cases e:k = i
 · subst e;simp [hk]
 have:0 < k - i:=by omega
 simp [hk,h,e,BitVec.getLsbD_one];omega
def o9:∀ (n k:Nat),k < 32 -> (jr n).getLsbD k = decide (k < n)
 | 0,k,hk=>by simp [jr]
 | n + 1,k,hk=>by
  rw [abe,bky,o9 n k hk,v8 n k hk];by_cases h:k < n
  · simp [h];omega
  by_cases e:k = n
  · simp [e]
  simp [h,e];omega
def bcl {s:AS} {n:Nat}:s >>> n = 0 <-> ∀ k,k < 32 -> n <= k -> s.getLsbD k = false:=by
 constructor
 · intro h k hk hn
   have:=congrArg (fun x:AS=>x.getLsbD (k - n)) h;simp only [bm9] at this;rw [show n + (k - n) = k by omega] at this;simpa using this
 intro h;apply bkv;intro i hi;rw [bm9];by_cases hk:n + i < 32
 · rw [h (n + i) hk bnl];simp
 rw [BitVec.getLsbD_of_ge _ _ bnl];simp
def u7 {s:AS} {n:Nat} (hn:n <= 32):sub s (jr n) <-> s >>> n = 0:=by
 rw [ar,bcl];constructor
 · intro h k hk hle
   rw [bjp];intro e;have:=h k hk e;rw [o9 n k hk,decide_eq_true_iff] at this;omega
 intro h k hk e;rw [o9 n k hk,decide_eq_true_iff];apply Nat.lt_of_not_le;intro hle;rw [h k hk hle] at e;cases e
def ph {n:Int} (hn:0 <= n) (h16:n <= 16) {f:Fd}:inU n f = true <-> sub f.lhs (a8 n) /\ sub f.rhs (a8 n):=by
 unfold inU a8;rw [decide_eq_true_iff,blc bnl,<- u7 bnl];exact ⟨fun h=>⟨gr yh h,gr a34 h⟩,fun h=>a1v h.1 h.2⟩
abbrev Fd.pc (f:Fd):PC:=.agg [f.c 0,f.c 1]
def imp (l:List Fd) (f:Fd):Bool:=decide (sub f.rhs (clo l f.lhs))
end
section
open Go.Proofs
def apv (n:Int) (l:List Fd):a6 bo6 98 [pI n,pP (fdl l)] (a7 [pI (bh n l)]):=by
 refine hpx (nt:=42) Tryz.func98 ?_;refine ce ?_;refine c6 1 rfl fun hlen=>?_;refine w_9 ?_;refine ah rfl rfl (fun r0=>?_) (fun r0=>?_)
 ·
  have h0:=tz1 r0;(iterate 2 refine k9 (gtf r0) ?_);refine rq rfl rfl rfl rfl rfl ?_ (hp:=r0);refine w_6 ?_
  exact hx8 rfl rfl rfl (⟨cci (by rw [bh,if_pos bnl]),trivial⟩)
 have h0:=tz2 r0;(iterate 2 refine qy ?_ (hg:=(gff r0)));refine w_2 ?_;refine ak _ rfl (fun r1=>?_) (fun r1=>?_)
 · have h1:=tz1 (am r0 r1);refine v_4 ?_;exact ⟨cci (by rw [bh,if_pos bnl]),trivial⟩
 have h1:=tz2 (am r0 r1);refine w_8 ?_;refine hcd (fun h2=>?_) (fun h2=>?_)
 · refine v_4 ?_;exact ⟨cci (by rw [bh,if_neg bnl,if_pos bnl]),trivial⟩
 refine w_4 ?_;refine qcx ov (oj n) ?_;refine w_8 ?_;refine ae (ι:=Nat) (ka 1 (ka 5 kn)) km (fun i=>⟨[(6,some (vI i))],[]⟩) (fun i=>i <= l.length /\ ∀ j,j < i -> inU n (l.getD j default) = true) (fun i=>l.length - i) (0) (⟨bji _,fun j hj=>absurd hj (bjh j)⟩) kk ?_;rintro i ⟨hi,hI⟩;refine w_8 ?_;refine hcd (fun h3=>?_) (fun h3=>?_)
 ·
  refine ct ?_;refine qcx np (w6 _ _) ?_;refine w_2 ?_;refine ah rfl rfl (fun r4=>?_) (fun r4=>?_)
  ·
   have h4:=cj r4;(iterate 8 refine k9 (gtf r4) ?_);refine rq rfl rfl rfl rfl rfl ?_ (hp:=r4);refine w_6 ?_
   exact hx8 rfl rfl rfl (⟨cci (by rw [bh,if_neg bnl,if_neg bnl,if_neg (fun e=>absurd (aas (l:=l) (p:=inU n) (i:=i) bnl (by rw [bjp];intro e2;rw [ph bnl bnl] at e2;simp_all)) (by rw [e];decide))]),trivial⟩)
  have h4:=ck r4;(iterate 6 refine qy ?_ (hg:=(gff r4)));refine qcx np (w6 _ _) ?_ (hg:=(gff r4));refine qy ?_ (hg:=(gff r4));refine w_2 ?_;refine ak _ rfl (fun r5=>?_) (fun r5=>?_)
  · have h5:=cj (am r4 r5);refine v_4 ?_;exact ⟨cci (by rw [bh,if_neg bnl,if_neg bnl,if_neg (fun e=>absurd (aas (l:=l) (p:=inU n) (i:=i) bnl (by rw [bjp];intro e2;rw [ph bnl bnl] at e2;simp_all)) (by rw [e];decide))]),trivial⟩
  have h5:=ck (am r4 r5);refine w_6 ?_;refine lpz (i + 1) kk ?_;refine ⟨by omega,fun j hj=>?_⟩
  rcases blx (bm8 hj) with h | h
  · exact hI j h
  subst h;exact (ph bnl bnl).2 bnx
 obtain rfl:i = l.length:=by omega
 refine v_5 ?_;exact ⟨cci (by rw [bh,if_neg bnl,if_neg bnl,if_pos (ahj fun j hj=>hI j hj)]),trivial⟩
def bc6 (l:List Fd) (x:Fd):a6 bo6 252 [pP (fdl l),x.pc] (a7 [pB (imp l x)]):=by
 refine hpx (nt:=13) Tryz.func252 ?_;refine sx7 ?_;refine m9 0 ?_;refine w_9 ?_;refine qcx t8 (x7 l x.lhs) ?_;refine v_5 ?_;exact ⟨ccb (decide_eq_decide.2 j6),trivial⟩
end
section
variable {α:Type}
def au [Inhabited α] {l:List α} {q:Nat} (hq:q < l.length):l.take (q + 1) = l.take q ++ [l.getD q default]:=by
 rw [List.take_add_one,bjc hq];simp [List.getD,hq]
def au9 [Inhabited α] {l:List α} {q:Nat} (h0:0 < q) (hq:q <= l.length):(l.take q).getLast? = some (l.getD (q - 1) default):=by
 obtain ⟨k,rfl⟩:∃ k,q = k + 1:=⟨q - 1,by omega⟩;rw [au bnl,List.getLast?_append];simp
section
variable [DecidableEq α]
def k7:Option α -> List α -> List α
 | _,[]=>[]
 | p,x :: l=>if p = some x then k7 p l else x :: k7 (some x) l
def ir (l:List α):List α:=k7 none l
def a1e (p:Option α) (l:List α):Option α:=match l.getLast? with | some y=>some y | none=>p
def amw (p:Option α) (y:α) (l:List α):a1e p (y :: l) = a1e (some y) l:=by
 unfold a1e
 cases l with
 | nil=>rfl
 | cons z l=>simp [List.getLast?_cons]
def a5f (x:α):∀ (l:List α) (p:Option α),k7 p (l ++ [x]) = k7 p l ++ (if a1e p l = some x then [] else [x])
 | [],p=>by
  unfold a1e;simp only [bn6,k7,List.getLast?_nil];by_cases h:p = some x <;> simp [h]
 | y :: l,p=>by
  rw [amw];simp only [bmb,k7];split
  · rename_i h
    rw [a5f x l p,h]
  rw [a5f x l (some y)];rfl
def p7 [Inhabited α] {l:List α} {q:Nat} (h0:0 < q) (hq:q < l.length):ir (l.take (q + 1)) = ir (l.take q) ++ (if l.getD (q - 1) default = l.getD q default then [] else [l.getD q default]):=by
 unfold ir;rw [au hq,a5f];unfold a1e;rw [au9 h0 bnl];simp
def uz [Inhabited α] {l:List α}:∀ {k:Nat},k <= l.length -> (∀ j,0 < j -> j < k -> ¬ l.getD j default = l.getD (j - 1) default) -> ir (l.take k) = l.take k
 | 0,_,_=>rfl
 | 1,hk,_=>by
  rw [au bnl];simp [ir,k7]
 | k + 2,hk,h=>by
  rw [p7 bnl bnl,uz bnl (fun j h1 h2=>h j h1 bnl),if_neg (fun e=>h (k + 1) bnl bnl e.symm),<- au bnl]
def a9y:∀ (l:List α) (p:Option α),∀ x ∈ k7 p l,x ∈ l
 | [],_,x,h=>by simp [k7] at h
 | y :: l,p,x,h=>by
  simp only [k7] at h;split at h
  · exact bkp _ (a9y l p x h)
  rcases bjq.1 h with rfl | h
  · exact bkl
  exact bkp _ (a9y l _ x h)
def a9w:∀ (l:List α) (p:Option α),∀ x ∈ l,p = some x \/ x ∈ k7 p l
 | y :: l,p,x,h=>by
  simp only [k7];split
  · rename_i hp
    rcases bjq.1 h with rfl | h
    · exact .inl hp
    exact a9w l p x h
  rcases bjq.1 h with rfl | h
  · exact .inr bkl
  rcases a9w l (some y) x h with h | h
  · simp only [bjb] at h
    subst h;exact .inr bkl
  exact .inr (bkp _ h)
def al3 {l:List α} {x:α}:x ∈ ir l <-> x ∈ l:=⟨a9y l none x,fun h=>by
 rcases a9w l none x h with h | h
 · cases h
 exact h⟩
end
section
variable [Inhabited α]
section
variable {l:List α}
def nq {p:Nat} {v:α} (hp:p < l.length):(l.set p v).getD p default = v:=by simp [List.getD,hp]
def getD_set_ne' {p j:Nat} {v:α} (h:j ≠ p):(l.set p v).getD j default = l.getD j default:=by
 simp only [List.getD,List.getElem?_set_ne (Ne.symm h)]
variable {c:α -> Nat -> PV}
def afh {wr wr':Bool} {n p k:Nat} {e:TypeId} {v:α} {x:PV} (hw:wr' = true -> wr = true) (hn:n = l.length) (hp:k = p) (hk:p < l.length) (hx:x = c v 0):
 CoO (.arr wr 1 e n (en (lf c l) k 0 [x])) (.arr wr' 1 e n (lf c (l.set p v))):=by
 subst hp hx hn;refine ⟨hw,rfl,rfl,rfl,fun i j hi hj=>CoP.of_eq ?_⟩;obtain rfl:j = 0:=by omega
 unfold en lf;by_cases h:i = k
 · subst h
   rw [if_pos ⟨rfl,by omega,by simp⟩,nq hk];rfl
 rw [if_neg bnl,getD_set_ne' h]
def sy {wr wr':Bool} {n p k q d:Nat} {e:TypeId} {l':List α} (hw:wr' = true -> wr = true) (hn:n = l.length) (hp:k = p) (hk:p < l.length) (hd:d = q):
 CoO (.arr wr 1 e n (en (lf c l) k 0 [lf c l' d 0])) (.arr wr' 1 e n (lf c (l.set p (l'.getD q default)))):=afh hw hn hp hk (by rw [hd];rfl)
def afe {n m a:Nat} {cl:Bool} {l':List α} {z:List Value} {p:Option Int} {h:Option Int} (hn:dx (b8 n h) p = l'.length) (hp:p = none) (ha:l'.length <= a) (hl:l' = l.take l'.length):
 CoP (.sl (dx (b8 n h) p) 1 cl (rp (o6 (lf c l) a m z) p)) (psl 1 c l'):=by
 subst hp;refine CoP.sl hn.symm (.inl rfl) (fun h=>by cases h) fun i j hi hj=>CoP.of_eq ?_;rw [hn] at hi;show o6 (lf c l) a m z i j = lf c l' i j;unfold o6;rw [if_neg bnl];simp only [lf,List.getD];have e:l'[i]? = l[i]?:=by rw [hl,bkb,if_pos hi]
 rw [e]
end
end
abbrev sC:AS -> Nat -> PV:=fun s _=>asC s
structure CpI (l:List AS) (k p q:Nat) (m:List AS):Prop where
 len:m.length = l.length
 kq:k < q
 pq:p < q
 ql:q <= l.length
 pre:m.take p = ir (l.take q)
 high:∀ j,q - 1 <= j -> m.getD j default = l.getD j default
section
variable {k:Nat} {l:List AS}
theorem CpI.start (h1:1 <= k) (hk:k < l.length) (h:∀ j,0 < j -> j < k -> ¬ l.getD j default = l.getD (j - 1) default) (hd:l.getD k default = l.getD (k - 1) default):CpI l k k (k + 1) l :=
 ⟨rfl,by omega,by omega,by omega,by rw [p7 bnl hk,if_pos hd.symm,bkd,uz bnl h],fun _ _=>rfl⟩
theorem CpI.skip {p q:Nat} {m:List AS} (h:CpI l k p q m) (hq:q < l.length) (he:m.getD q default = m.getD (q - 1) default):CpI l k p (q + 1) m:=by
 have hk:=h.kq;refine ⟨h.len,by omega,by have:=h.pq;omega,hq, ?_,fun j hj=>h.high j bnl⟩;rw [h.high q bnl,h.high (q - 1) bnl] at he;rw [p7 bnl hq,if_pos he.symm,bkd,h.pre]
theorem CpI.keep {p q:Nat} {m:List AS} (h:CpI l k p q m) (hq:q < l.length) (he:¬ m.getD q default = m.getD (q - 1) default):CpI l k (p + 1) (q + 1) (m.set p (m.getD q default)):=by
 have hk:=h.kq;have hp:=h.pq;have hl:=h.len;refine ⟨by simp [hl],by omega,by omega,hq, ?_,fun j hj=>by rw [getD_set_ne' bnl];exact h.high j bnl⟩;have e:=h.high q bnl;rw [e,h.high (q - 1) bnl] at he;rw [p7 bnl hq,if_neg (fun e=>he e.symm),<- h.pre,au (by simp [hl];omega),nq bnl,e];congr 1;rw [List.take_set,List.set_eq_of_length_le bnv]
def ya {a b a' b':Nat} (h:asI (l.getD a' default) = asI (l.getD b' default)) (ha:a' = a) (hb:b' = b):l.getD a default = l.getD b default:=by subst ha hb;exact c8.1 h
def xy {a b a' b':Nat} (h:¬ asI (l.getD a' default) = asI (l.getD b' default)) (ha:a' = a) (hb:b' = b):¬ l.getD a default = l.getD b default:=by subst ha hb;exact fun e=>h (congrArg asI e)
def apx (hk:l.length <= k) (h:∀ j,0 < j -> j < k -> ¬ l.getD j default = l.getD (j - 1) default):CoP (.sl l.length 1 false (lf sC l)) (asl (ir l)):=by
 have:=uz (bjg l.length) fun j h1 h2=>h j h1 bnl;rw [bjk] at this;rw [this];exact CoP.refl _
def b4w {m:List AS} {p q n a d:Nat} {cl:Bool} {z:List Value} (hC:CpI l k p q m) (hq:¬ q < l.length) (ha:p <= a):CoP (.sl (dx (b8 n (some (p:Int))) none) 1 cl (rp (o6 (lf sC m) a d z) none)) (asl (ir l)):=by
 have e:=hC.pre;have h1:=hC.ql;have h2:=hC.len;have h3:=hC.pq;rw [show q = l.length by omega,bjk] at e;have el:(ir l).length = p:=by rw [<- e];simp;omega
 exact afe (by rw [el];rfl) rfl bnl (by rw [el,e])
end
end
section
open Go.Proofs
def bnn {p:Prop} (h:p:=by (repeat' apply And.intro) <;> first | trivial | exact bje rfl):p:=h
def bno {p:Prop} (h:p:=by first | rfl | (dsimp only;omega)):p:=h
def bnq {p:Prop} (h:p:=by simp only [b8];omega):p:=h
def aza (l:List AS):d4 bo6 216 [.one (.ref 900 l.length)] [(900, .arr true 1 46 l.length (lf sC l))] (.v (.one (.p (asl (ir l))))) [] []:=by
 refine hfx (nt:=61) Tryz.func216 ?_;refine ce ?_;refine ab9 900 rfl fun hlen=>?_;refine c7 ?_;refine hcd (fun h0=>?_) (fun h0=>?_)
 · refine w_5 ?_;refine aq 2 rfl rfl rfl ?_;refine hrr ?_;exact ⟨_,_,rfl,bnn,apx (k:=l.length) (bjg _) (fun j h1 h2=>by omega),trivial⟩
 refine w_7 ?_;refine ae (ι:=Nat) (ka 0 kn) (kb 900 km) (fun k=>⟨[(3,some (vI k))],[]⟩) (fun k=>1 <= k /\ k <= l.length /\ ∀ j,0 < j -> j < k -> ¬ l.getD j default = l.getD (j - 1) default) (fun k=>l.length - k) (1) (⟨bjg _,by omega,fun j h1 h2=>by omega⟩) kk ?_;rintro k ⟨hk1,hk,hI⟩;refine w_8 ?_;refine hcd (fun h1=>?_) (fun h1=>?_)
 ·
  refine zc ?_;refine hcd (fun h2=>?_) (fun h2=>?_)
  ·
   refine j9 ?_;refine ae (ι:=Nat × Nat × List AS) (ka 0 (ka 4 kn)) km (fun x=>⟨[(3,some (vI x.1)),(5,some (vI ((x.2.1:Int) - k)))],[(900,some (.arr true 1 46 l.length (lf sC x.2.2)))]⟩) (fun x=>CpI l k x.1 x.2.1 x.2.2) (fun x=>l.length - x.2.1) ((k,k + 1,l)) (CpI.start hk1 bnl hI (ya bnm rfl bnl)) ⟨⟨zy,⟨_,rfl,(coi bno)⟩,trivial⟩,uu⟩ ?_;rintro ⟨p,q,m⟩ hC;have hC0:=hC;obtain ⟨hml,hkq,hpq,hql,_,_⟩:=hC0;dsimp only at hC hml hkq hpq hql;refine w_8 ?_;refine hcd (fun h3=>?_) (fun h3=>?_)
   ·
    simp only [dx,b8,bjo] at h3;refine zc ?_;refine hcn (fun h4=>?_) (fun h4=>?_)
    ·
     refine aei ?_
     first | (refine ⟨(p + 1, q + 1, m.set p (m.getD q default)), ?_, ?_, ?_⟩
              · exact hC.keep bnl (xy bnm bnq bnq)
              · first | omega | (dsimp only;omega)
              exact ⟨⟨⟨_,rfl,(coi bno)⟩,⟨_,rfl,(coi bno)⟩,tt⟩,⟨⟨_,rfl,(sy id hml.symm bnl (by dsimp only;omega) bnq)⟩,trivial⟩⟩)
           | (refine ⟨(p,q + 1,m), ?_, ?_, ?_⟩
              · exact hC.skip bnl (ya bnm bnq bnq)
              · first | omega | (dsimp only;omega)
              exact ⟨⟨⟨_,rfl,(coi bno)⟩,⟨_,rfl,(coi bno)⟩,tt⟩,uu⟩)
    refine w_6 ?_
    first | (refine ⟨(p + 1, q + 1, m.set p (m.getD q default)), ?_, ?_, ?_⟩
             · exact hC.keep bnl (xy bnm bnq bnq)
             · first | omega | (dsimp only;omega)
             exact ⟨⟨⟨_,rfl,(coi bno)⟩,⟨_,rfl,(coi bno)⟩,tt⟩,⟨⟨_,rfl,(sy id hml.symm bnl (by dsimp only;omega) bnq)⟩,trivial⟩⟩)
          | (refine ⟨(p,q + 1,m), ?_, ?_, ?_⟩
             · exact hC.skip bnl (ya bnm bnq bnq)
             · first | omega | (dsimp only;omega)
             exact ⟨⟨⟨_,rfl,(coi bno)⟩,⟨_,rfl,(coi bno)⟩,tt⟩,uu⟩)
   simp only [dx,b8,bjo] at h3;refine w_6 ?_;refine r9 0 true ?_;refine w_5 ?_;refine axz rfl rfl rfl rfl rfl ?_;refine w_2 ?_;refine hrr ?_;exact ⟨_,_,rfl,bnn,b4w hC bnl (by simp [b8]),trivial⟩
  refine w_6 ?_;refine lpz (k + 1) kk ?_;refine ⟨by omega,by show k + 1 <= _;omega,fun j h1 h2=>?_⟩
  rcases blx (bm8 h2) with h | h
  · exact hI j h1 h
  subst h;exact xy bnm rfl bnl
 refine w_6 ?_;refine aq 2 rfl rfl rfl ?_;refine hrr ?_;exact ⟨_,_,rfl,bnn,apx (k:=k) bnl hI,trivial⟩
end
section
section
variable {α:Type} [Inhabited α] {p:α -> Bool} {l:List α}
def a9t (h:idx p l = -1):∀ j,j < l.length -> p (l.getD j default) = false:=fun j hj=>by
 cases hc:p (l.getD j default) with
 | false=>rfl
 | true =>
  exfalso;have hx:∃ x ∈ l,p x = true:=⟨l[j],bk7 hj,by simpa [List.getD,hj] using hc⟩;unfold idx at h
  cases hf:l.findIdx? p with
  | none =>
   rw [List.findIdx?_eq_none_iff] at hf;obtain ⟨x,hx,hp⟩:=hx;rw [hf x hx] at hp;cases hp
  | some i=>rw [hf] at h;simp only at h;omega
def yk (h:¬ idx p l = -1):∃ i:Nat,idx p l = i /\ i < l.length /\ p (l.getD i default) = true /\ ∀ j,j < i -> p (l.getD j default) = false:=by
 unfold idx at h ⊢
 cases hf:l.findIdx? p with
 | none=>rw [hf] at h;exact absurd rfl h
 | some i =>
  obtain ⟨h1,h2,h3⟩:=bmx.1 hf;refine ⟨i,rfl,h1,by simpa [List.getD,h1] using h2,fun j hj=>?_⟩;have:=h3 j hj;simp only [List.getD,bjc (Nat.lt_trans hj h1),bk8];simpa using this
def ze:(decide (0 <= idx p l)) = l.any p:=by
 unfold idx
 cases hf:l.findIdx? p with
 | none =>
  rw [List.findIdx?_eq_none_iff] at hf
  have:l.any p = false:=by
   rw [bl5];intro x hx;rw [hf x hx];exact bmg
  rw [this];rfl
 | some i =>
  obtain ⟨h1,h2,_⟩:=bmx.1 hf;have:l.any p = true:=bke.2 ⟨l[i],bk7 h1,h2⟩;rw [this];exact decide_eq_true (blq i)
def a2y:∀ {k:Nat},k <= l.length -> (∀ j,j < k -> p (l.getD j default) = false) -> (l.take k).filter (fun x=>!p x) = l.take k
 | 0,_,_=>by simp
 | k + 1,hk,h=>by rw [au bnl,bkq,a2y bnl fun j hj=>h j bnl];simp only [bko,h k bnl,bnh,if_true,bl6]
structure DfI (p:α -> Bool) (l:List α) (k q:Nat) (m:List α):Prop where
 len:m.length = l.length
 kq:k < q
 ql:q <= l.length
 pre:m.take k = (l.take q).filter fun x=>!p x
 high:∀ j,q <= j -> m.getD j default = l.getD j default
theorem DfI.start {k:Nat} (hk:k < l.length) (h1:p (l.getD k default) = true) (h:∀ j,j < k -> p (l.getD j default) = false):DfI p l k (k + 1) l :=
 ⟨rfl,by omega,hk,by rw [au hk,bkq,a2y bnl h];simp only [bko,h1,bmm,bl6,bkr,if_false,bkd],fun _ _=>rfl⟩
theorem DfI.skip {k q:Nat} {m:List α} (h:DfI p l k q m) (hq:q < l.length) (hp:p (m.getD q default) = true):DfI p l k (q + 1) m:=by
 rw [h.high q (bjg _)] at hp;exact ⟨h.len,by have:=h.kq;omega,hq,by rw [au hq,bkq,<- h.pre];simp only [bko,hp,bmm,bl6,bkr,if_false,bkd],fun j hj=>h.high j bnl⟩
theorem DfI.keep {k q:Nat} {m:List α} (h:DfI p l k q m) (hq:q < l.length) (hp:p (m.getD q default) = false):DfI p l (k + 1) (q + 1) (m.set k (m.getD q default)):=by
 have e:=h.high q (bjg _);rw [e] at hp ⊢;have hk:=h.kq;have hl:=h.len;refine ⟨by simp [hl],by omega,hq, ?_,fun j hj=>by rw [getD_set_ne' bnl];exact h.high j bnl⟩;rw [au (by simp [hl];omega),nq bnl,au hq,bkq,<- h.pre];simp only [bko,hp,bnh,if_true,bl6];congr 1;rw [List.take_set,List.set_eq_of_length_le bnv]
end
section
variable {p:AS -> Bool} {l:List AS}
def b85 (h:∀ j,j < l.length -> p (l.getD j default) = false):CoP (.sl l.length 1 false (lf sC l)) (asl (l.filter fun x=>!p x)):=by
 have:=a2y (bjg l.length) h;rw [bjk] at this;rw [this];exact CoP.refl _
def b3x {m:List AS} {k q n a d:Nat} {cl:Bool} {z:List Value} (hC:DfI p l k q m) (hq:¬ q < l.length) (ha:k <= a):CoP (.sl (dx (b8 n (some (k:Int))) none) 1 cl (rp (o6 (lf sC m) a d z) none)) (asl (l.filter fun x=>!p x)):=by
 have e:=hC.pre;have h1:=hC.ql;have h2:=hC.len;have h3:=hC.kq;rw [show q = l.length by omega,bjk] at e;have el:(l.filter fun x=>!p x).length = k:=by rw [<- e];simp;omega
 exact afe (by rw [el];rfl) rfl bnl (by rw [el,e])
end
def aat {a b:AS}:decide (asI a = asI b) = decide (a = b):=decide_eq_decide.2 c8
instance:DecidableEq Fd:=fun a b=>decidable_of_iff (a.lhs = b.lhs /\ a.rhs = b.rhs) Fd.eq_iff.symm
end
section
open Go.Proofs
def a54:goodFn bo6 21:=wgx Tryz.func21
def a26 (n:Nat) (c:Bool) (f:Nat -> Nat -> PV) (hn:n <= 35184372088832) :
 d4 bo6 21 [.one (.p (.sl n 1 c f))] [] (.v (.one (.ref 0 n))) [(0, .arr true 1 46 n f)] []:=by
 refine hfx (nt:=8) Tryz.func21 ?_;refine sx7 ?_;refine dp true rfl rfl rfl rfl rfl trivial ?_;refine c5 ?_;refine a7v (ι:=Bool) (fun c=>⟨[(0,some (bi (.sl n 1 c f)))],[]⟩) (fun _=>True) ?_ fun c _=>?_
 · rcases bl7 n with hz | h0
   · subst hz
     refine hw_exact' 0 rfl fun ad cap hcap=>?_;refine sx7 ?_;(iterate 2 refine dp true rfl rfl rfl rfl rfl trivial ?_);refine c5 ?_;refine ak ad.isNone rfl (fun hc=>?_) (fun hc=>?_)
     · refine sx7 ?_
       refine dp true rfl rfl rfl rfl rfl trivial ?_;refine c5 ?_;refine cb 2 0 true 1 46 f bns rfl (CoP.sl rfl (.inr rfl) (fun h=>h) fun i j hi _=>absurd hi (bjh i)) (.inr rfl) rfl ?_;refine hrr ?_;exact ⟨_,_,rfl,trivial,CoR.refl _,uu⟩
     refine d6 ?_;exact ⟨false,trivial,⟨⟨_,rfl,CoP.raw_sl hcap⟩,trivial⟩,trivial⟩
   refine sx7 ?_;refine dp true rfl rfl rfl rfl rfl trivial ?_;refine dp true rfl rfl rfl rfl rfl h0 ?_;refine c5 ?_;refine ak false rfl (fun hc=>by cases hc) (fun hc=>?_);refine d6 ?_;exact ⟨c,trivial,tt,trivial⟩
 refine sx7 ?_;refine a1m 0 rfl rfl rfl rfl rfl rfl trivial ?_;refine dp true rfl rfl rfl rfl rfl trivial ?_;refine a62 0 true rfl rfl rfl rfl rfl rfl ⟨trivial,rfl,rfl,rfl, .inl rfl,by show 0 + n <= 9223372036854775807;omega,by show (0 + n) * 4 <= 140737488355328;omega,fun _=>.inl rfl⟩ ?_;refine dp true rfl rfl rfl rfl rfl trivial ?_;refine c5 ?_;refine hrr ?_;refine ⟨_,_,rfl,trivial,CoR.of_eq (by show HR.v (.one (.ref 0 (0 + n))) = _;rw [bk6]),⟨⟨_,rfl, ?_⟩,trivial⟩⟩;exact ⟨fun h=>h,rfl,rfl,(bk6 n).symm,fun i j _ _=>CoP.of_eq (by simp [fe])⟩
def ayu (n:Nat) (c:Bool) (f:Nat -> Nat -> PV) (hn:n <= 35184372088832):a6 bo6 21 [.one (.sl n 1 c f)] (.v (.one (.sl n 1 false f))) :=
 d4.pure (args:=[.one (.sl n 1 c f)]) (l:=[.one (.ref 0 n)]) (a26 n c f hn) rfl ⟨rfl,trivial⟩
def bea (l:List Fd) (g k:Nat) (caps:Nat -> PV) (V:Fd -> Bool) (hg:goodFn bo6 g) (hV:∀ x,a6 bo6 g (x.pc :: gq caps k 0) (a7 [pB (V x)])):a6 bo6 235 [pP (fdl l),pP (.fn g k caps)] (a7 [pI (idx V l)]):=by
 refine hpx (nt:=19) Tryz.func235 ?_;refine ce ?_;refine c6 0 rfl fun hn=>?_;refine w_3 ?_;refine dq (ι:=Unit) kn km (fun _i=>⟨[],[]⟩) (fun _i=>idx V l = -1) ?_ ?_
 ·
  refine w_7 ?_;refine ae (ι:=Nat) (ka 0 (ka 1 (ka 7 kn))) km (fun i=>⟨[(8,some (vI i))],[]⟩) (fun i=>i <= l.length /\ (∀ j,j < i -> V (l.getD j default) = false)) (fun i=>l.length - i) (0) (⟨bji _,bm⟩) kk ?_;rintro i ⟨hi,hI⟩;refine w_5 ?_;refine hcd (fun h0=>?_) (fun h0=>?_)
  ·
   refine lb ?_;refine rc rfl rfl rfl rfl rfl rfl hg (hV (l.getD i default)) (CoL.refl _) rfl rfl ?_;refine c5 ?_;refine hcb (fun h1=>?_) (fun h1=>?_)
   · refine v_5 ?_;exact ⟨cci (re (i:=i) bnl hI h1).symm,trivial⟩
   refine w_5 ?_;refine lpz (i + 1) kk ?_;exact ⟨by show i + 1 <= _;omega,ax hI (h1)⟩
  refine dj ?_;refine ⟨(), ?_, ?_⟩
  · exact qx fun j hj=>hI j bnl
  exact ⟨trivial,trivial⟩
 rintro _ hj;refine v_4 ?_;exact ⟨cci hj.symm,trivial⟩
def aey:goodFn bo6 167:=wgx Tryz.func167
def b2e (l:List AS) (g k:Nat) (caps:Nat -> PV) (V:AS -> Bool) (hg:goodFn bo6 g) (hV:∀ x,a6 bo6 g (pA x :: gq caps k 0) (a7 [pB (V x)])):a6 bo6 167 [pP (asl l),pP (.fn g k caps)] (a7 [pI (idx V l)]):=by
 refine hpx (nt:=19) Tryz.func167 ?_;refine ce ?_;refine c6 0 rfl fun hn=>?_;refine w_3 ?_;refine dq (ι:=Unit) kn km (fun _i=>⟨[],[]⟩) (fun _i=>idx V l = -1) ?_ ?_
 ·
  refine w_7 ?_;refine ae (ι:=Nat) (ka 0 (ka 1 (ka 7 kn))) km (fun i=>⟨[(8,some (vI i))],[]⟩) (fun i=>i <= l.length /\ (∀ j,j < i -> V (l.getD j default) = false)) (fun i=>l.length - i) (0) (⟨bji _,bm⟩) kk ?_;rintro i ⟨hi,hI⟩;refine w_5 ?_;refine hcd (fun h0=>?_) (fun h0=>?_)
  ·
   refine lb ?_;refine rc rfl rfl rfl rfl rfl rfl hg (hV (l.getD i default)) (CoL.refl _) rfl rfl ?_;refine c5 ?_;refine hcb (fun h1=>?_) (fun h1=>?_)
   · refine v_5 ?_;exact ⟨cci (re (i:=i) bnl hI h1).symm,trivial⟩
   refine w_5 ?_;refine lpz (i + 1) kk ?_;exact ⟨by show i + 1 <= _;omega,ax hI (h1)⟩
  refine dj ?_;refine ⟨(), ?_, ?_⟩
  · exact qx fun j hj=>hI j bnl
  exact ⟨trivial,trivial⟩
 rintro _ hj;refine v_4 ?_;exact ⟨cci hj.symm,trivial⟩
def ben (l:List Fd) (g k:Nat) (caps:Nat -> PV) (V:Fd -> Bool) (hg:goodFn bo6 g) (hV:∀ x,a6 bo6 g (x.pc :: gq caps k 0) (a7 [pB (V x)])):a6 bo6 190 [pP (fdl l),pP (.fn g k caps)] (a7 [pB (l.any V)]):=by
 refine hpx (nt:=9) Tryz.func190 ?_;refine w_8 ?_;refine qcx (wgx Tryz.func235) (bea l g k caps V hg hV) ?_;refine v_3 ?_;exact ⟨ccb ze,trivial⟩
def ae7:goodFn bo6 148:=wgx Tryz.func148
def asr (l:List AS) (g k:Nat) (caps:Nat -> PV) (V:AS -> Bool) (hg:goodFn bo6 g) (hV:∀ x,a6 bo6 g (pA x :: gq caps k 0) (a7 [pB (V x)])):a6 bo6 148 [pP (asl l),pP (.fn g k caps)] (a7 [pB (l.any V)]):=by
 refine hpx (nt:=9) Tryz.func148 ?_;refine w_8 ?_;refine qcx aey (b2e l g k caps V hg hV) ?_;refine v_3 ?_;exact ⟨ccb ze,trivial⟩
def bh5 (l:List AS) (s:AS):a6 bo6 92 [pP (asl l),pA s] (a7 [pI (idx (fun x=>decide (x = s)) l)]):=by
 refine hpx (nt:=19) Tryz.func92 ?_;refine ce ?_;refine c6 0 rfl fun hn=>?_;refine w_3 ?_;refine dq (ι:=Unit) kn km (fun _i=>⟨[],[]⟩) (fun _i=>idx (fun x=>decide (x = s)) l = -1) ?_ ?_
 ·
  refine w_7 ?_;refine ae (ι:=Nat) (ka 0 (ka 1 (ka 7 kn))) km (fun i=>⟨[(8,some (vI i))],[]⟩) (fun i=>i <= l.length /\ (∀ j,j < i -> decide (l.getD j default = s) = false)) (fun i=>l.length - i) (0) (⟨bji _,bm⟩) kk ?_;rintro i ⟨hi,hI⟩;refine w_5 ?_;refine hcd (fun h0=>?_) (fun h0=>?_)
  ·
   refine zc ?_;refine hcd (fun h1=>?_) (fun h1=>?_)
   · refine v_5 ?_;exact ⟨cci (re (p:=fun x=>decide (x = s)) (i:=i) bnl hI (decide_eq_true (c8.1 h1).symm)).symm,trivial⟩
   refine w_5 ?_;refine lpz (i + 1) kk ?_;exact ⟨by show i + 1 <= _;omega,ax hI (decide_eq_false fun e=>h1 (congrArg asI e.symm))⟩
  refine dj ?_;refine ⟨(), ?_, ?_⟩
  · exact qx (p:=fun x=>decide (x = s)) fun j hj=>hI j bnl
  exact ⟨trivial,trivial⟩
 rintro _ hj;refine v_4 ?_;exact ⟨cci hj.symm,trivial⟩
def bhi (l:List Fd) (s:Fd):a6 bo6 277 [pP (fdl l),s.pc] (a7 [pI (idx (fun x=>decide (x = s)) l)]):=by
 refine hpx (nt:=19) Tryz.func277 ?_;refine ce ?_;refine c6 0 rfl fun hn=>?_;refine gy ?_;refine m9 0 ?_;refine w_2 ?_;refine dq (ι:=Unit) kn km (fun _i=>⟨[],[]⟩) (fun _i=>idx (fun x=>decide (x = s)) l = -1) ?_ ?_
 ·
  refine w_7 ?_;refine ae (ι:=Nat) (ka 0 (ka 3 (ka 7 kn))) (kb 0 km) (fun i=>⟨[(8,some (vI i))],[]⟩) (fun i=>i <= l.length /\ (∀ j,j < i -> decide (l.getD j default = s) = false)) (fun i=>l.length - i) (0) (⟨bji _,bm⟩) kk ?_;rintro i ⟨hi,hI⟩;refine w_5 ?_;refine hcd (fun h0=>?_) (fun h0=>?_)
  ·
   refine aj2 ?_;refine hcb (fun h1=>?_) (fun h1=>?_)
   · refine v_5 ?_;exact ⟨cci (re (p:=fun x=>decide (x = s)) (i:=i) bnl hI (decide_eq_true (by simp_all [Fd.eq_iff,c8]))).symm,trivial⟩
   refine w_5 ?_;refine lpz (i + 1) kk ?_;exact ⟨by show i + 1 <= _;omega,ax hI (decide_eq_false fun e=>by subst e;simp_all)⟩
  refine dj ?_;refine ⟨(), ?_, ?_⟩
  · exact qx (p:=fun x=>decide (x = s)) fun j hj=>hI j bnl
  exact ⟨trivial,trivial⟩
 rintro _ hj;refine v_4 ?_;exact ⟨cci hj.symm,trivial⟩
def bhj (l:List Fd) (s:Fd):a6 bo6 253 [pP (fdl l),s.pc] (a7 [pB (l.any fun x=>decide (x = s))]):=by
 refine hpx (nt:=9) Tryz.func253 ?_;refine sx7 ?_;refine m9 0 ?_;refine w_6 ?_;refine qcx (wgx Tryz.func277) (bhi _ _) ?_;refine v_3 ?_;exact ⟨ccb ze,trivial⟩
def adb:goodFn bo6 117:=wgx Tryz.func117
def as1 (l:List AS) (g k:Nat) (caps:Nat -> PV) (V:AS -> Bool) (hg:goodFn bo6 g) (hV:∀ x,a6 bo6 g (pA x :: gq caps k 0) (a7 [pB (V x)])):d4 bo6 117 [.one (.ref 900 l.length), .one (.p (.fn g k caps))] [(900, .arr true 1 46 l.length (lf sC l))] (.v (.one (.p (asl (l.filter fun x=>!V x))))) [] []:=by
 refine hfx (nt:=42) Tryz.func117 ?_;refine ce ?_;refine ab9 900 rfl fun hlen=>?_;refine w_7 ?_;refine qcx aey (b2e l g k caps V hg hV) ?_;refine w_8 ?_;refine hcd (fun h0=>?_) (fun h0=>?_)
 · refine w_5 ?_;refine aq 4 rfl rfl rfl ?_;refine hrr ?_;exact ⟨_,_,rfl,bnn,b85 (a9t bnm),trivial⟩
 obtain ⟨i0,hi0,hi1,hi2,hi3⟩:=yk h0;refine w_9 ?_;refine ae (ι:=Nat × Nat × List AS) (ka 0 (ka 1 kn)) km (fun x=>⟨[(5,some (vI x.1)),(6,some (vI x.2.1))],[(900,some (.arr true 1 46 l.length (lf sC x.2.2)))]⟩) (fun x=>DfI V l x.1 x.2.1 x.2.2) (fun x=>l.length - x.2.1) ((i0,i0 + 1,l)) (DfI.start hi1 hi2 hi3) ⟨⟨⟨_,rfl,(coi hi0)⟩,⟨_,rfl,(coi (by dsimp only;omega))⟩,trivial⟩,uu⟩ ?_;rintro x hC;have hC0:=hC;obtain ⟨hml,hkq,hql,_,_⟩:=hC0;refine w_8 ?_;refine hcd (fun h1=>?_) (fun h1=>?_)
 ·
  refine lb ?_;refine rc rfl rfl rfl rfl rfl rfl hg (hV (x.2.2.getD (x.2.1:Int).toNat default)) (CoL.refl _) rfl rfl ?_;refine w_2 ?_;refine hcv (fun h2=>?_) (fun h2=>?_)
  ·
   have hv:=h2;refine aj2 ?_
   first | (refine ⟨(x.1 + 1, x.2.1 + 1, x.2.2.set x.1 (x.2.2.getD x.2.1 default)), ?_, ?_, ?_⟩
            · exact hC.keep bnl (by simpa using hv)
            · first | omega | (dsimp only;omega)
            exact ⟨⟨⟨_,rfl,(coi bno)⟩,⟨_,rfl,(coi bno)⟩,tt⟩,⟨⟨_,rfl,(sy id hml.symm bnl bnl bnl)⟩,trivial⟩⟩)
         | (refine ⟨(x.1,x.2.1 + 1,x.2.2), ?_, ?_, ?_⟩
            · exact hC.skip bnl (by simpa using hv)
            · first | omega | (dsimp only;omega)
            exact ⟨⟨⟨_,rfl,(coi bno)⟩,⟨_,rfl,(coi bno)⟩,tt⟩,uu⟩)
  have hv:=h2;refine w_6 ?_
  first | (refine ⟨(x.1 + 1, x.2.1 + 1, x.2.2.set x.1 (x.2.2.getD x.2.1 default)), ?_, ?_, ?_⟩
           · exact hC.keep bnl (by simpa using hv)
           · first | omega | (dsimp only;omega)
           exact ⟨⟨⟨_,rfl,(coi bno)⟩,⟨_,rfl,(coi bno)⟩,tt⟩,⟨⟨_,rfl,(sy id hml.symm bnl bnl bnl)⟩,trivial⟩⟩)
        | (refine ⟨(x.1,x.2.1 + 1,x.2.2), ?_, ?_, ?_⟩
           · exact hC.skip bnl (by simpa using hv)
           · first | omega | (dsimp only;omega)
           exact ⟨⟨⟨_,rfl,(coi bno)⟩,⟨_,rfl,(coi bno)⟩,tt⟩,uu⟩)
 have hq:=h1;refine w_6 ?_;refine r9 0 true ?_;refine w_5 ?_;refine axz rfl rfl rfl rfl rfl ?_;refine w_2 ?_;refine hrr ?_;exact ⟨_,_,rfl,bnn,b3x hC bnl (by simp [b8]),trivial⟩
end
end Go.Hx

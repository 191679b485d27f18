/- A part of the proof: Hx19 Hx23 Cs1 Cs3 V1 Cs4 V2 Cl1 V3 Cl2 V4. -/
import Derived.Deep.AppendLies
import Derived.Laws.CopyRow
import Derived.Shelf.Spec.SlicesInsertGrow
import Derived.Test.YtkkenjdfbojdlaaGreatDoorMx14
set_option linter.all false
set_option maxRecDepth 100000
set_option maxHeartbeats 1000000
namespace Go.Hx
section
open Go.Proofs Go.Lib Go.RowKit
def bfu (w:World) (o:Obj) {r:Nat} (h:r < w.heap.size):(w.alloc o).heap[r]? = w.heap[r]?:=by
 show (w.heap.push o)[r]? = _;rw [bsh h,bpa h]
def bnt (k:Nat) (xs vs:List Value):List Value:=xs.take k ++ vs ++ xs.drop k
structure bn2 (w w':World) (T s:Nat) (own v:Value) (n:Nat) (xs:List Value):Prop where
 row:w'.ownsRow 0 T s v (n + 1) xs
 bl:Below 0 w w'
 out:∀ g,g < w.heap.size -> da own ≠ some g -> w'.heap[g]? = w.heap[g]?
 at_:∀ g,da v = some g -> w.heap.size <= g \/ da own = some g
def bnv (i:Nat) (F G:Nat -> Nat -> PV):Nat -> Nat -> PV:=fun k j=>if k < i then F k j else if k = i then G 0 j else F (k - 1) j
def jg {id q:Nat} {x ob:a8} (h:lk [(q,x)] id = some ob):id = q /\ ob = x:=by
 simp only [lk] at h;by_cases hk:q = id
 · subst hk
   simp at h;exact ⟨rfl,h.symm⟩
 have:Nat.beq q id = false:=by
  rw [bol];exact fun hb=>hk (bp6 hb)
 rw [this] at h;cases h
structure bnu (c:Ctx) (w w':World) (T s a:Nat) (v:Value) (n:Nat) (ys:List Value):Prop where
 row:w'.ownsRow 0 T s v (n + 1) ys
 bl:Below 0 w w'
 out:∀ g,g < w.heap.size -> ¬ c.blk a g -> w'.heap[g]? = w.heap[g]?
 at_:∀ g,da v = some g -> w.heap.size <= g \/ c.blk a g
def b3a {P:Program} {f:FuncId} {T s a:Nat} {y:Value} {F:Nat -> Nat -> PV} (hs:0 < s)
 (h:∀ (w:World) (ad:Option Addr),Calls P f #[.slice ad 0 0,y] w fun e w'=>∃ v,e = .returned v /\ Below w.heap.size w w' /\ (v = .slice ad 0 0 \/ w'.ownsRow 0 T s v 0 [] /\ ∀ g,da v = some g -> w.heap.size <= g)) :
 dq P f [.one (.p (me (.slice none 0 0))), .one (.p (.raw y))] [] (.v (.one (.ref a 0))) [(a, .arr true s T 0 F)] []:=by
 intro w c us hM hrep
 obtain ⟨ad,rfl⟩:∃ ad,us = [.slice ad 0 0,y]:=by
  match us,hrep with
  | [u0,u1],⟨h0,h1,_⟩ =>
   obtain ⟨ad,cap,hv,_,_,hc,_⟩:=h0;obtain rfl:cap = 0:=hc rfl;exact ⟨ad,by rw [hv,show u1 = y from h1.1]⟩
 refine (h w ad).mono ?_;rintro e w' ⟨v,rfl,hb,hor⟩;have la:lk [(a,a8.arr true s T 0 F)] a = some (.arr true s T 0 F):=by simp [lk]
 have him:∀ q ob,c.imm q = some ob -> q < w.heap.size:=fun q ob hq=>(boa.1 (hM.imm q ob hq)).1
 have hform:v.oneCell' = true:=by
  rcases hor with rfl | ⟨hrow,_⟩
  · rfl
  rcases hrow.2 with ⟨hv,_⟩ | ⟨g,cap,cur,hv,_⟩ <;> (subst hv;rfl)
 have hbk:∃ bk:Nat -> Prop,(∀ g,bk g -> w.heap.size <= g) /\ (bk = jp v /\ w'.ownsRow 0 T s v 0 [] \/ bk = noB /\ ay c.imm (.sl 0 s true F) v):=by
  rcases hor with rfl | ⟨hrow,hat⟩
  · exact ⟨noB,fun g hg=>hg.elim, .inr ⟨rfl,ad,0,rfl,bo9 _,boe _,fun _=>rfl,fun h=>absurd h (brr 0)⟩⟩
  exact ⟨jp v,hat, .inl ⟨rfl,hrow⟩⟩
 obtain ⟨bk,hat,hok⟩:=hbk;refine ⟨v,{ c with own:=fun q=>if q = a then v else c.own q,blk:=fun q=>if q = a then bk else c.blk q },rfl,⟨hform,fun l hl=>(by cases (jg hl).2),fun ob s1 e1 n1 ho1 hd=>?_⟩,⟨fun id ob hl=>?_,fun id id' ob ob' q hl hl' _ _=>by rw [(jg hl).1,(jg hl').1],fun q ob hq=>(hb.block q (him q ob hq)).trans (hM.imm q ob hq),fun id ob q hl hq=>?_⟩,⟨hb.os,hb.tape,hb.output,hb.size,fun k hk=>absurd hk (bod k),hb.drawn⟩,fun q hq _=>⟨hb.block q hq,rfl⟩,fun id ob q hl hq=>?_,fun id hid=>absurd hid bst⟩
 · obtain ⟨_,rfl⟩:=jg ho1
   simp only [a8.dim,bo5,bof] at hd;obtain ⟨rfl,rfl,rfl⟩:=hd;exact ⟨bo9 _,fun _=>by simp⟩
 · obtain ⟨rfl,rfl⟩:=jg hl
   rcases hok with ⟨h1,h2⟩ | ⟨h1,h2⟩
   · exact ⟨hs,boe _, .inl ⟨by simpa using h1,[],by simpa using h2,fun i j hi=>by omega⟩⟩
   exact ⟨hs,boe _, .inr ⟨.inr rfl,by simpa using h1,by simpa using h2⟩⟩
 · obtain ⟨rfl,_⟩:=jg hl
   have hq':bk q:=by simpa using hq
   show c.imm q = none
   cases hc:c.imm q with
   | none=>rfl
   | some ob=>have:=him q ob hc;have:=hat q hq';omega
 obtain ⟨rfl,_⟩:=jg hl;have hq':bk q:=by simpa using hq
 exact .inl (hat q hq')
def HE (nt:Nat) (st:HSt) (Q:HSt -> Prop):Prop:=∀ w0 m0 a w,Rel w0 m0 nt st.den a w -> ∃ st':HSt,Q st' /\ Rel w0 m0 nt st'.den a w
def au2 {nt:Nat} {st:HSt} {Q:HSt -> Prop} (h:Q st):HE nt st Q:=fun _ _ _ _ hr=>⟨st,h,hr⟩
end
section
open Go.RowKit
abbrev AS:=BitVec 32
abbrev asI (s:AS):Int:=(s.toNat:Int)
def asC (s:AS):PV:=.raw (.int .u32 (asI s))
def alh {n:Int} (h0:0 <= n) (h1:n < 4294967296):IntKind.wrap .u32 n = n:=x7 (by simp only [inR,o4,qa];omega)
def ady (s:AS):asI s < 4294967296:=by
 have:=s.isLt;unfold asI;omega
def a7h (s:AS):0 <= asI s:=bqk _
def pl (s:AS):BitVec.ofInt 32 (asI s) = s:=by
 unfold asI;rw [BitVec.ofInt_natCast,BitVec.ofNat_toNat,BitVec.setWidth_eq]
def ck {a b:AS}:asI a = asI b <-> a = b:=by
 unfold asI;rw [Int.ofNat_inj];exact BitVec.toNat_inj
def a5a (s:AS):IntKind.wrap .u32 (s.toNat:Int) = asI s:=alh (a7h s) (ady s)
def gk (a b:AS):ap .and .u32 (asI a) (asI b) = asI (a &&& b):=by
 show IntKind.wrap .u32 ((BitVec.ofInt 32 (asI a) &&& BitVec.ofInt 32 (asI b)).toNat:Int) = _;rw [pl,pl,a5a]
def bOr (a b:AS):ap .or .u32 (asI a) (asI b) = asI (a ||| b):=by
 show IntKind.wrap .u32 ((BitVec.ofInt 32 (asI a) ||| BitVec.ofInt 32 (asI b)).toNat:Int) = _;rw [pl,pl,a5a]
def aw6 (a b:AS):ap .xor .u32 (asI a) (asI b) = asI (a ^^^ b):=by
 show IntKind.wrap .u32 ((BitVec.ofInt 32 (asI a) ^^^ BitVec.ofInt 32 (asI b)).toNat:Int) = _;rw [pl,pl,a5a]
def it (a b:AS):ap .andNot .u32 (asI a) (asI b) = asI (a &&& ~~~b):=by
 show IntKind.wrap .u32 ((BitVec.ofInt 32 (asI a) &&& ~~~BitVec.ofInt 32 (asI b)).toNat:Int) = _;rw [pl,pl,a5a]
def zq (a:AS) (n:Nat):(asI a).fdiv (2 ^ (min n 32)) = asI (a >>> n):=by
 have e:(2:Int) ^ (min n 32) = ((2 ^ (min n 32):Nat):Int):=by rw [Int.natCast_pow];rfl
 rw [e];unfold asI;rw [Int.fdiv_eq_ediv_of_nonneg _ (bqk _),<- Int.natCast_ediv,bs5,brw];by_cases h:n <= 32
 · rw [bq4 h]
 rw [Nat.min_eq_right bsq];have h1:=a.isLt;have h2:2 ^ 32 <= 2 ^ n:=bpm bsq bsq;rw [Nat.div_eq_of_lt bsq,Nat.div_eq_of_lt (bqh bsq h2)]
def al1 (a:AS) (n:Nat):IntKind.wrap .u32 (asI a * 2 ^ (min n 32)) = asI (a <<< n):=by
 have e:asI a * (2:Int) ^ (min n 32) = ((a.toNat * 2 ^ (min n 32):Nat):Int):=by rw [Int.natCast_mul,Int.natCast_pow];rfl
 rw [e]
 have hw:∀ m:Nat,IntKind.wrap .u32 (m:Int) = ((m % 4294967296:Nat):Int):=by
  intro m;simp [IntKind.wrap,IntKind.signed,IntKind.bits]
 rw [hw];unfold asI;rw [BitVec.toNat_shiftLeft,Nat.shiftLeft_eq];by_cases h:n <= 32
 · rw [bq4 h]
 rw [Nat.min_eq_right bsq];have h1:a.toNat * 2 ^ 32 % 2 ^ 32 = 0:=Nat.mul_mod_left _ _
 have h2:a.toNat * 2 ^ n % 2 ^ 32 = 0:=by
  obtain ⟨k,rfl⟩:∃ k,n = k + 32:=⟨n - 32,by omega⟩;rw [Nat.pow_add,<- Nat.mul_assoc];exact Nat.mul_mod_left _ _
 have h1:a.toNat * 2 ^ 32 % 4294967296 = 0:=h1;rw [h1,h2]
end
section
structure Fd where
 lhs:AS
 rhs:AS
instance:Inhabited Fd:=⟨⟨0,0⟩⟩
theorem Fd.eq_iff {a b:Fd}:a = b <-> a.lhs = b.lhs /\ a.rhs = b.rhs:=by cases a;cases b;simp
instance:DecidableEq Fd:=fun a b=>decidable_of_iff _ (Fd.eq_iff (a:=a) (b:=b)).symm
def Fd.c (x:Fd):Nat -> PV
 | 0=>asC x.lhs
 | 1=>asC x.rhs
 | _=>.any
def sub (a b:AS):Prop:=a &&& ~~~b = 0
instance:DecidablePred fun p:AS × AS=>sub p.1 p.2:=fun p=>inferInstanceAs (Decidable (_ = _))
instance {a b:AS}:Decidable (sub a b):=inferInstanceAs (Decidable (_ = _))
section
variable {a b:AS}
def ae:sub a b <-> ∀ i,i < 32 -> a.getLsbD i = true -> b.getLsbD i = true:=by
 unfold sub;constructor
 · intro h i hi ha
   have:=congrArg (fun x:AS=>x.getLsbD i) h;simp only [boh,bp7,hi,ha,decide_true,bq1] at this;simpa using this
 intro h;apply bpx;intro i hi;have:=h i hi;simp only [boh,bp7,hi,decide_true,bq1];cases ha:a.getLsbD i <;> cases hb:b.getLsbD i <;> simp_all
def df (a:AS):sub a a:=ae.2 fun _ _ h=>h
def ak {c:AS} (h:sub a b) (k:sub b c):sub a c:=ae.2 fun i hi ha=>ae.1 k i hi (ae.1 h i hi ha)
def o5:sub a (a ||| b):=ae.2 fun i hi ha=>by simp [ha]
def pn:sub b (a ||| b):=ae.2 fun i hi ha=>by simp [ha]
def sc {c:AS} (h:sub a c) (k:sub b c):sub (a ||| b) c:=ae.2 fun i hi ha=>by
 rw [bpj,bph] at ha
 rcases ha with ha | ha
 · exact ae.1 h i hi ha
 exact ae.1 k i hi ha
def br (h:sub a b) (k:sub b a):a = b:=by
 apply bpx;intro i hi;have h1:=ae.1 h i hi;have h2:=ae.1 k i hi;cases ha:a.getLsbD i <;> cases hb:b.getLsbD i <;> simp_all
def a8g (h:sub a b):a.toNat <= b.toNat:=by
 have e:a ||| b = b:=br (sc h (df b)) pn
 have:a.toNat <= (a ||| b).toNat:=by rw [BitVec.toNat_or];exact Nat.left_le_or
 rwa [e] at this
def zd (h:sub a b) (hne:a ≠ b):a.toNat < b.toNat:=by
 rcases bqp (a8g h) with h | h
 · exact h
 exact absurd (bp8 h) hne
def arj:sub a b <-> a &&& b = a:=by
 rw [ae];constructor
 · intro h
   apply bpx;intro i hi;have:=h i hi;rw [boh];cases ha:a.getLsbD i <;> simp_all
 intro h i hi ha;have:=congrArg (fun x:AS=>x.getLsbD i) h;simp only [boh,ha,bq1] at this;exact this
def fl (s:AS) (f:Fd):AS:=if sub f.lhs s then s ||| f.rhs else s
def du (l:List Fd) (s:AS):AS:=l.foldl fl s
variable {s:AS}
def aeb {f:Fd}:sub s (fl s f):=by
 unfold fl;split
 · exact o5
 exact df s
def pk:∀ {l:List Fd} {s:AS},sub s (du l s)
 | [],s=>df s
 | f :: l,s=>ak aeb (pk (l:=l) (s:=fl s f))
def clF (l:List Fd):Nat -> AS -> AS
 | 0,s=>s
 | n + 1,s=>if du l s = s then s else clF l n (du l s)
def clo (l:List Fd) (s:AS):AS:=clF l 4294967296 s
variable {l:List Fd}
def alp:∀ {n m:Nat} {s:AS},4294967296 - s.toNat <= n -> 4294967296 - s.toNat <= m -> clF l n s = clF l m s
 | 0,m,s,hn,hm=>by have:=s.isLt;omega
 | n + 1,0,s,hn,hm=>by have:=s.isLt;omega
 | n + 1,m + 1,s,hn,hm=>by
  unfold clF;split
  · rfl
  rename_i hne;have:=zd (pk (l:=l) (s:=s)) (fun e=>hne e.symm);exact alp bsq bsq
def ahb (h:du l s = s):clo l s = s:=by
 show clF l (4294967295 + 1) s = s;unfold clF;rw [if_pos h]
def aog:clo l (du l s) = clo l s:=by
 by_cases h:du l s = s
 · rw [h]
 have e:clo l s = clF l 4294967295 (du l s):=by
  show clF l (4294967295 + 1) s = _;rw [clF,if_neg h]
 rw [e];have:=zd (pk (l:=l) (s:=s)) (fun e=>h e.symm);exact alp bsq bsq
def aew:∀ {n:Nat} {s:AS},4294967296 - s.toNat <= n -> du l (clF l n s) = clF l n s
 | 0,s,hn=>by have:=s.isLt;omega
 | n + 1,s,hn=>by
  unfold clF;split
  · assumption
  rename_i hne;have:=zd (pk (l:=l) (s:=s)) (fun e=>hne e.symm);exact aew bsq
def af6:du l (clo l s) = clo l s:=aew bsq
def aye:∀ {n:Nat} {s:AS},sub s (clF l n s)
 | 0,s=>df s
 | n + 1,s=>by
  unfold clF;split
  · exact df s
  exact ak pk aye
def j9:sub s (clo l s):=aye
def sx (l:List Fd) (s:AS):Prop:=∀ f ∈ l,sub f.lhs s -> sub f.rhs s
def zj:∀ {l:List Fd} {s:AS},du l s = s <-> sx l s
 | [],s=>⟨fun _ f hf=>(by cases hf),fun _=>rfl⟩
 | f :: l,s=>by
  constructor
  · intro h
    have h1:fl s f = s:=br (by have:=pk (l:=l) (s:=fl s f);rw [show du l (fl s f) = s from h] at this;exact this) aeb
    have h2:du l s = s:=by
     have:du l (fl s f) = s:=h;rwa [h1] at this
    intro g hg
    rcases bok.1 hg with rfl | hg
    · intro hl
      rw [fl,if_pos hl] at h1;rw [<- h1];exact pn
    exact zj.1 h2 g hg
  intro h
  have h1:fl s f = s:=by
   unfold fl;split
   · rename_i hl
     exact br (sc (df s) (h f (bp9 ..) hl)) o5
   rfl
  show du l (fl s f) = s;rw [h1];exact zj.2 fun g hg=>h g (bpg _ hg)
def adf:∀ {l:List Fd} {s t:AS},sx l t -> sub s t -> sub (du l s) t
 | [],s,t,_,h=>h
 | f :: l,s,t,ht,h=>adf (l:=l) (fun g hg=>ht g (bpg _ hg)) (by
  unfold fl;split
  · rename_i hl
    exact sc h (ht f (bp9 ..) (ak hl h))
  exact h)
def atr {t:AS} (ht:sx l t):∀ {n:Nat} {s:AS},sub s t -> sub (clF l n s) t
 | 0,s,h=>h
 | n + 1,s,h=>by
  unfold clF;split
  · exact h
  exact atr ht (adf ht h)
def ku {t:AS} (ht:sx l t) (h:sub s t):sub (clo l s) t:=atr ht h
def gu:sx l (clo l s):=zj.1 af6
def jv {t:AS} (h:sub s t):sub (clo l s) (clo l t):=ku gu (ak h j9)
def acy:clo l (clo l s) = clo l s:=ahb af6
end
end
section
abbrev pI (a:Int):PC:=.one (.raw (.int .i64 a))
abbrev pB (b:Bool):PC:=.one (.raw (.bool b))
abbrev pP (x:PV):PC:=.one x
abbrev pA (s:AS):PC:=.one (.raw (.int .u32 (asI s)))
abbrev fdl (l:List Fd):PV:=psl 2 Fd.c l
abbrev asl (l:List AS):PV:=psl 1 (fun s _=>asC s) l
abbrev vI (a:Int):HR:=bn (.raw (.int .i64 a))
abbrev vA (s:AS):HR:=bn (.raw (.int .u32 (asI s)))
def ae7 {l:List Fd} {s:AS} {i:Nat} (hi:i < l.length):du (l.take (i + 1)) s = fl (du (l.take i) s) (l.getD i default):=by
 unfold du;rw [List.take_succ,bo6 hi,bpk,bo7,bo6 hi];rfl
def k6 {a b:AS}:ap .andNot .u32 (asI a) (asI b) = 0 <-> sub a b:=by
 rw [it,show (0:Int) = asI 0 from rfl,ck];exact Iff.rfl
section
variable {f:Fd}
def bh1 {S:AS} (h:ap .andNot .u32 (asI f.lhs) (asI S) = 0):ap .or .u32 (asI S) (asI f.rhs) = asI (fl S f):=by
 rw [bOr,fl,if_pos (k6.1 h)]
def bgr {S:AS} (h:¬ ap .andNot .u32 (asI f.lhs) (asI S) = 0):fl S f = S:=if_neg fun e=>h (k6.2 e)
def cl_t' {S:AS} (h:decide (sub f.lhs S) = true):ap .or .u32 (asI S) (asI f.rhs) = asI (fl S f):=by
 rw [bOr,fl,if_pos (of_decide_eq_true h)]
def cl_f' {S:AS} (h:decide (sub f.lhs S) = false):fl S f = S:=if_neg (of_decide_eq_false h)
def inU (n:Int) (f:Fd):Bool:=decide ((f.lhs ||| f.rhs) >>> n.toNat = 0)
def au (n:Int) (l:List Fd):Int:=if n < 0 \/ 16 < n then 7 else if 64 < l.length then 3 else if l.all (inU n) = true then 0 else 1
def aa9 {n:Int}:(ap .or .u32 (asI f.lhs) (asI f.rhs)).fdiv (2 ^ (min n.toNat 32)) = 0 <-> inU n f = true:=by
 rw [bOr,zq,show (0:Int) = asI 0 from rfl,ck];unfold inU;rw [decide_eq_true_iff]
def bz {k:IntKind} {a b:Int} (h:a = b):CoR (bn (.raw (.int k a))) (bn (.raw (.int k b))):=by
 rw [h];exact CoR.refl _
def ky (n:Nat):AS:=(List.range n).foldl (fun s i=>s ||| ((1:AS) <<< i)) 0
def a6 (n:Int):AS:=ky (min n.toNat 32)
def ae6 (i:Nat):ky (i + 1) = ky i ||| ((1:AS) <<< i):=by
 unfold ky;rw [bq7,bpk];rfl
def awx (i:Nat):ap .or .u32 (asI (ky i)) (IntKind.wrap .u32 (1 * 2 ^ (min i 32))) = asI (ky (i + 1)):=by
 have e:IntKind.wrap .u32 (1 * 2 ^ (min i 32)) = asI ((1:AS) <<< i):=al1 1 i;rw [e,bOr,ae6]
end
end
section
open Go.Proofs
def qq:goodFn btb 125:=wgx Tryz.func125
def ye (a b:AS):a7 btb 125 [pA a,pA b] (aa [pB (decide (sub a b))]):=by
 refine hpx (nt:=10) Tryz.func125 ?_;refine kw ?_;exact hx8 rfl rfl rfl (⟨ccb (decide_eq_decide.2 (by rw [gk,ck];exact arj.symm)),trivial⟩)
def vr:goodFn btb 120:=wgx Tryz.func120
def bsr {p:Prop} (h:p:=by assumption):p:=h
def yr (l:List Fd) (s0:AS):a7 btb 120 [pP (fdl l),pA s0] (aa [pA (clo l s0)]):=by
 refine hpx (nt:=29) Tryz.func120 ?_;refine cw ?_;refine cq 0 rfl fun hlen=>?_;refine w_4 ?_;refine ah (ι:=AS) (ka 0 kn) km (fun s=>⟨[(1,some (vA s))],[]⟩) (fun s=>clo l s = clo l s0) (fun s=>4294967296 - s.toNat) (s0) (rfl) kk ?_;rintro s hs;refine t7 ?_;refine bp (ka 0 (ka 5 (ka 9 (ka 10 kn)))) km (fun i=>⟨[(11,some (vI i)),(1,some (vA (du (l.take i) s)))],[]⟩) l.length kk ?_;rintro i hi;refine w_5 ?_;refine hcd (fun h0=>?_) (fun h0=>?_)
 ·
  refine w_7 ?_;refine m9 0 ?_;refine d5 ?_;refine hcd (fun h1=>?_) (fun h1=>?_)
  · refine dl ?_;exact lpx (i + 1) ⟨⟨zy,⟨_,rfl,(by rw [ae7 bsq];first | (rw [bgr bsr];exact CoR.refl _) | (simp only [bop];rw [bh1 bsr];exact CoR.refl _))⟩,tt⟩,trivial⟩
  refine w_5 ?_;exact lpx (i + 1) ⟨⟨zy,⟨_,rfl,(by rw [ae7 bsq];first | (rw [bgr bsr];exact CoR.refl _) | (simp only [bop];rw [bh1 bsr];exact CoR.refl _))⟩,tt⟩,trivial⟩
 obtain rfl:i = l.length:=by omega
 refine w_7 ?_;refine hcd (fun h2=>?_) (fun h2=>?_)
 ·
  refine w_5 ?_;refine hrr ?_
  have e2:du l s = s:=by
   have:=ck.1 bsr;rwa [bog] at this
  exact f9 rfl rfl (⟨cci (by rw [bog,e2,<- hs,ahb e2]),trivial⟩)
 refine dp ?_;refine ⟨du l s, ?_, ?_, ?_⟩
 · show clo l (du l s) = clo l s0
   rw [aog];exact hs
 · have hne:¬ du l s = s:=fun e=>absurd (congrArg asI e) (by rw [bog] at *;assumption)
   have:=zd (pk (l:=l) (s:=s)) (fun e=>hne e.symm);have:=(du l s).isLt;show 4294967296 - (du l s).toNat < 4294967296 - s.toNat;omega
 exact ⟨⟨⟨_,rfl,(by rw [bog];exact CoR.refl _)⟩,tt⟩,trivial⟩
def aa1:goodFn btb 126:=wgx Tryz.func126
def a97 (l:List Fd) (s0:AS):a7 btb 126 [pP (fdl l),pA s0] (aa [pA (clo l s0)]):=by
 refine hpx (nt:=32) Tryz.func126 ?_;refine cw ?_;refine cq 0 rfl fun hlen=>?_;refine w_4 ?_;refine ah (ι:=AS) (ka 0 kn) km (fun s=>⟨[(1,some (vA s))],[]⟩) (fun s=>clo l s = clo l s0) (fun s=>4294967296 - s.toNat) (s0) (rfl) kk ?_;rintro s hs;refine i6 ?_;refine bp (ka 0 (ka 5 kn)) km (fun i=>⟨[(6,some (vI i)),(1,some (vA (du (l.take i) s)))],[]⟩) l.length kk ?_;rintro i hi;refine w_8 ?_;refine hcd (fun h0=>?_) (fun h0=>?_)
 ·
  refine dl ?_;refine qcx qq (ye (l.getD i default).lhs (du (l.take i) s)) ?_;refine cu ?_;refine hcb (fun h1=>?_) (fun h1=>?_)
  · refine o8 ?_;exact lpx (i + 1) ⟨⟨zy,⟨_,rfl,(by rw [ae7 bsq];first | (rw [cl_f' bsr];exact CoR.refl _) | (simp only [bop];rw [cl_t' bsr];exact CoR.refl _))⟩,tt⟩,trivial⟩
  refine w_6 ?_;exact lpx (i + 1) ⟨⟨zy,⟨_,rfl,(by rw [ae7 bsq];first | (rw [cl_f' bsr];exact CoR.refl _) | (simp only [bop];rw [cl_t' bsr];exact CoR.refl _))⟩,tt⟩,trivial⟩
 obtain rfl:i = l.length:=by omega
 refine w_7 ?_;refine hcd (fun h2=>?_) (fun h2=>?_)
 ·
  refine w_5 ?_;refine hrr ?_
  have e2:du l s = s:=by
   have:=ck.1 bsr;rwa [bog] at this
  exact f9 rfl rfl (⟨cci (by rw [bog,e2,<- hs,ahb e2]),trivial⟩)
 refine dp ?_;refine ⟨du l s, ?_, ?_, ?_⟩
 · show clo l (du l s) = clo l s0
   rw [aog];exact hs
 · have hne:¬ du l s = s:=fun e=>absurd (congrArg asI e) (by rw [bog] at *;assumption)
   have:=zd (pk (l:=l) (s:=s)) (fun e=>hne e.symm);have:=(du l s).isLt;show 4294967296 - (du l s).toNat < 4294967296 - s.toNat;omega
 exact ⟨⟨⟨_,rfl,(by rw [bog];exact CoR.refl _)⟩,tt⟩,trivial⟩
def xn:goodFn btb 113:=wgx Tryz.func113
def a1e (n:Int) (l:List Fd):a7 btb 113 [pI n,pP (fdl l)] (aa [pI (au n l)]):=by
 refine hpx (nt:=31) Tryz.func113 ?_;refine cw ?_;refine cq 1 rfl fun hlen=>?_;refine w_9 ?_;refine ai rfl rfl (fun r0=>?_) (fun r0=>?_)
 ·
  have h0:=tz1 r0;(iterate 2 refine k9 (gtf r0) ?_);refine w_7 ?_
  exact hx8 rfl rfl rfl (⟨cci (by rw [au,if_pos bsq]),trivial⟩)
 have h0:=tz2 r0;(iterate 2 refine qy ?_ (hg:=(gff r0)));refine w_2 ?_;refine am _ rfl (fun r1=>?_) (fun r1=>?_)
 · have h1:=tz1 (aq r0 r1);refine v_4 ?_;exact ⟨cci (by rw [au,if_pos bsq]),trivial⟩
 have h1:=tz2 (aq r0 r1);refine w_8 ?_;refine hcd (fun h2=>?_) (fun h2=>?_)
 · refine v_4 ?_;exact ⟨cci (by rw [au,if_neg bsq,if_pos bsq]),trivial⟩
 refine w_9 ?_;refine ah (ι:=Nat) (ka 0 (ka 16 (ka 17 kn))) km (fun i=>⟨[(18,some (vI i))],[]⟩) (fun i=>i <= l.length /\ ∀ j,j < i -> inU n (l.getD j default) = true) (fun i=>l.length - i) (0) (⟨boe _,fun j hj=>absurd hj (bod j)⟩) kk ?_;rintro i ⟨hi,hI⟩;refine w_5 ?_;refine hcd (fun h3=>?_) (fun h3=>?_)
 ·
  refine w_7 ?_;refine m9 0 ?_;refine kw ?_;refine hcn (fun h4=>?_) (fun h4=>?_)
  · refine v_4 ?_;exact ⟨cci (by rw [au,if_neg bsq,if_neg bsq,if_neg (fun e=>absurd (afg (l:=l) (p:=inU n) (i:=i) bsq (by rw [bol];exact fun e=>absurd (aa9.2 e) bsr)) (by rw [e];decide))]),trivial⟩
  refine w_5 ?_;refine lpz (i + 1) kk ?_;refine ⟨by omega,fun j hj=>?_⟩
  rcases bqp (br4 hj) with h | h
  · exact hI j h
  subst h;exact aa9.1 bsr
 obtain rfl:i = l.length:=by omega
 refine v_5 ?_;exact ⟨cci (by rw [au,if_neg bsq,if_neg bsq,if_pos (ake fun j hj=>hI j hj)]),trivial⟩
def x4:goodFn btb 50:=wgx Tryz.func50
def w4 (n:Int):a7 btb 50 [pI n] (aa [pA (a6 n)]):=by
 refine hpx (nt:=19) Tryz.func50 ?_;refine t7 ?_;refine bp (ka 0 kn) km (fun i=>⟨[(4,some (vI i)),(3,some (vA (ky i)))],[]⟩) (min n.toNat 32) kk ?_;rintro i hi;refine w_7 ?_;refine ai rfl rfl (fun r0=>?_) (fun r0=>?_)
 ·
  have h0:=tz1 r0;(iterate 2 refine qy ?_ (hg:=(gtt r0)));refine w_2 ?_;refine am _ rfl (fun r1=>?_) (fun r1=>?_)
  · have h1:=tz1 (bq r0 r1);refine o8 ?_;exact lpx (i + 1) ⟨⟨zy,⟨_,rfl,(by simp only [bop];exact bz (awx i))⟩,tt⟩,trivial⟩
  have h1:=tz2 (bq r0 r1);obtain rfl:i = min n.toNat 32:=by omega
  refine v_6 ?_;exact CoL.refl _
 have h0:=tz2 r0;obtain rfl:i = min n.toNat 32:=by omega
 (iterate 2 refine k9 (gft r0) ?_);refine w_9 ?_
 exact hx8 rfl rfl rfl (CoL.refl _)
end
section
def ey (i k:Nat) (hk:k < 32):((1:AS) <<< i).getLsbD k = decide (k = i):=by
 rw [BitVec.getLsbD_shiftLeft];by_cases h:k < i
 · simp [h,hk];omega
 by_cases e:k = i
 · subst e;simp [hk]
 have:0 < k - i:=by omega
 simp [hk,h,e,BitVec.getLsbD_one];omega
def ly:∀ (n k:Nat),k < 32 -> (ky n).getLsbD k = decide (k < n)
 | 0,k,hk=>by simp [ky]
 | n + 1,k,hk=>by
  rw [ae6,bpj,ly n k hk,ey n k hk];by_cases h:k < n
  · simp [h];omega
  by_cases e:k = n
  · simp [e]
  simp [h,e];omega
def bfo {s:AS} {n:Nat}:s >>> n = 0 <-> ∀ k,k < 32 -> n <= k -> s.getLsbD k = false:=by
 constructor
 · intro h k hk hn
   have:=congrArg (fun x:AS=>x.getLsbD (k - n)) h;simp only [br7] at this;rw [show n + (k - n) = k by omega] at this;simpa using this
 intro h;apply bpx;intro i hi;rw [br7];by_cases hk:n + i < 32
 · rw [h (n + i) hk bsq];simp
 rw [BitVec.getLsbD_of_ge _ _ bsq];simp
def wd {s:AS} {n:Nat} (hn:n <= 32):sub s (ky n) <-> s >>> n = 0:=by
 rw [ae,bfo];constructor
 · intro h k hk hle
   rw [bol];intro e;have:=h k hk e;rw [ly n k hk,decide_eq_true_iff] at this;omega
 intro h k hk e;rw [ly n k hk,decide_eq_true_iff];apply Nat.lt_of_not_le;intro hle;rw [h k hk hle] at e;cases e
def pf {n:Int} (hn:0 <= n) (h16:n <= 16) {f:Fd}:inU n f = true <-> sub f.lhs (a6 n) /\ sub f.rhs (a6 n):=by
 unfold inU a6;rw [decide_eq_true_iff,bq4 bsq,<- wd bsq];exact ⟨fun h=>⟨ak o5 h,ak pn h⟩,fun h=>sc h.1 h.2⟩
abbrev Fd.pc (f:Fd):PC:=.agg [f.c 0,f.c 1]
def imp (l:List Fd) (f:Fd):Bool:=decide (sub f.rhs (clo l f.lhs))
end
section
open Go.Proofs
def asn (n:Int) (l:List Fd):a7 btb 98 [pI n,pP (fdl l)] (aa [pI (au n l)]):=by
 refine hpx (nt:=42) Tryz.func98 ?_;refine cw ?_;refine cq 1 rfl fun hlen=>?_;refine w_9 ?_;refine ai rfl rfl (fun r0=>?_) (fun r0=>?_)
 ·
  have h0:=tz1 r0;(iterate 2 refine k9 (gtf r0) ?_);refine w_7 ?_
  exact hx8 rfl rfl rfl (⟨cci (by rw [au,if_pos bsq]),trivial⟩)
 have h0:=tz2 r0;(iterate 2 refine qy ?_ (hg:=(gff r0)));refine w_2 ?_;refine am _ rfl (fun r1=>?_) (fun r1=>?_)
 · have h1:=tz1 (aq r0 r1);refine v_4 ?_;exact ⟨cci (by rw [au,if_pos bsq]),trivial⟩
 have h1:=tz2 (aq r0 r1);refine w_8 ?_;refine hcd (fun h2=>?_) (fun h2=>?_)
 · refine v_4 ?_;exact ⟨cci (by rw [au,if_neg bsq,if_pos bsq]),trivial⟩
 refine w_4 ?_;refine qcx x4 (w4 n) ?_;refine w_8 ?_;refine ah (ι:=Nat) (ka 1 (ka 5 kn)) km (fun i=>⟨[(6,some (vI i))],[]⟩) (fun i=>i <= l.length /\ ∀ j,j < i -> inU n (l.getD j default) = true) (fun i=>l.length - i) (0) (⟨boe _,fun j hj=>absurd hj (bod j)⟩) kk ?_;rintro i ⟨hi,hI⟩;refine w_8 ?_;refine hcd (fun h3=>?_) (fun h3=>?_)
 ·
  refine dl ?_;refine qcx qq (ye _ _) ?_;refine w_2 ?_;refine ai rfl rfl (fun r4=>?_) (fun r4=>?_)
  ·
   have h4:=ci r4;(iterate 8 refine k9 (gtf r4) ?_);refine w_7 ?_
   exact hx8 rfl rfl rfl (⟨cci (by rw [au,if_neg bsq,if_neg bsq,if_neg (fun e=>absurd (afg (l:=l) (p:=inU n) (i:=i) bsq (by rw [bol];intro e2;rw [pf bsq bsq] at e2;simp_all)) (by rw [e];decide))]),trivial⟩)
  have h4:=cj r4;(iterate 6 refine qy ?_ (hg:=(gff r4)));refine qcx qq (ye _ _) ?_ (hg:=(gff r4));refine qy ?_ (hg:=(gff r4));refine w_2 ?_;refine am _ rfl (fun r5=>?_) (fun r5=>?_)
  · have h5:=ci (aq r4 r5);refine v_4 ?_;exact ⟨cci (by rw [au,if_neg bsq,if_neg bsq,if_neg (fun e=>absurd (afg (l:=l) (p:=inU n) (i:=i) bsq (by rw [bol];intro e2;rw [pf bsq bsq] at e2;simp_all)) (by rw [e];decide))]),trivial⟩
  have h5:=cj (aq r4 r5);refine w_6 ?_;refine lpz (i + 1) kk ?_;refine ⟨by omega,fun j hj=>?_⟩
  rcases bqp (br4 hj) with h | h
  · exact hI j h
  subst h;exact (pf bsq bsq).2 bt5
 obtain rfl:i = l.length:=by omega
 refine v_5 ?_;exact ⟨cci (by rw [au,if_neg bsq,if_neg bsq,if_pos (ake fun j hj=>hI j hj)]),trivial⟩
def bf9 (l:List Fd) (x:Fd):a7 btb 252 [pP (fdl l),x.pc] (aa [pB (imp l x)]):=by
 refine hpx (nt:=13) Tryz.func252 ?_;refine sx7 ?_;refine m9 0 ?_;refine w_9 ?_;refine qcx vr (yr l x.lhs) ?_;refine v_5 ?_;exact ⟨ccb (decide_eq_decide.2 k6),trivial⟩
end
section
variable {α:Type}
def aw [Inhabited α] {l:List α} {q:Nat} (hq:q < l.length):l.take (q + 1) = l.take q ++ [l.getD q default]:=by
 rw [List.take_add_one,bo6 hq];simp [List.getD,hq]
def b0b [Inhabited α] {l:List α} {q:Nat} (h0:0 < q) (hq:q <= l.length):(l.take q).getLast? = some (l.getD (q - 1) default):=by
 obtain ⟨k,rfl⟩:∃ k,q = k + 1:=⟨q - 1,by omega⟩;rw [aw bsq,List.getLast?_append];simp
section
variable [DecidableEq α]
def mc:Option α -> List α -> List α
 | _,[]=>[]
 | p,x :: l=>if p = some x then mc p l else x :: mc (some x) l
def jo (l:List α):List α:=mc none l
def a4g (p:Option α) (l:List α):Option α:=match l.getLast? with | some y=>some y | none=>p
def ar0 (p:Option α) (y:α) (l:List α):a4g p (y :: l) = a4g (some y) l:=by
 unfold a4g
 cases l with
 | nil=>rfl
 | cons z l=>simp [List.getLast?_cons]
def a8v (x:α):∀ (l:List α) (p:Option α),mc p (l ++ [x]) = mc p l ++ (if a4g p l = some x then [] else [x])
 | [],p=>by
  unfold a4g;simp only [bsa,mc,List.getLast?_nil];by_cases h:p = some x <;> simp [h]
 | y :: l,p=>by
  rw [ar0];simp only [br9,mc];split
  · rename_i h
    rw [a8v x l p,h]
  rw [a8v x l (some y)];rfl
def rg [Inhabited α] {l:List α} {q:Nat} (h0:0 < q) (hq:q < l.length):jo (l.take (q + 1)) = jo (l.take q) ++ (if l.getD (q - 1) default = l.getD q default then [] else [l.getD q default]):=by
 unfold jo;rw [aw hq,a8v];unfold a4g;rw [b0b h0 bsq];simp
def x6 [Inhabited α] {l:List α}:∀ {k:Nat},k <= l.length -> (∀ j,0 < j -> j < k -> ¬ l.getD j default = l.getD (j - 1) default) -> jo (l.take k) = l.take k
 | 0,_,_=>rfl
 | 1,hk,_=>by
  rw [aw bsq];simp [jo,mc]
 | k + 2,hk,h=>by
  rw [rg bsq bsq,x6 bsq (fun j h1 h2=>h j h1 bsq),if_neg (fun e=>h (k + 1) bsq bsq e.symm),<- aw bsq]
def ac0:∀ (l:List α) (p:Option α),∀ x ∈ mc p l,x ∈ l
 | [],_,x,h=>by simp [mc] at h
 | y :: l,p,x,h=>by
  simp only [mc] at h;split at h
  · exact bpg _ (ac0 l p x h)
  rcases bok.1 h with rfl | h
  · exact bp9
  exact bpg _ (ac0 l _ x h)
def aby:∀ (l:List α) (p:Option α),∀ x ∈ l,p = some x \/ x ∈ mc p l
 | y :: l,p,x,h=>by
  simp only [mc];split
  · rename_i hp
    rcases bok.1 h with rfl | h
    · exact .inl hp
    exact aby l p x h
  rcases bok.1 h with rfl | h
  · exact .inr bp9
  rcases aby l (some y) x h with h | h
  · simp only [bo5] at h
    subst h;exact .inr bp9
  exact .inr (bpg _ h)
def ani {l:List α} {x:α}:x ∈ jo l <-> x ∈ l:=⟨ac0 l none x,fun h=>by
 rcases aby l none x h with h | h
 · cases h
 exact h⟩
end
section
variable [Inhabited α]
section
variable {l:List α}
def qp {p:Nat} {v:α} (hp:p < l.length):(l.set p v).getD p default = v:=by simp [List.getD,hp]
def getD_set_ne' {p j:Nat} {v:α} (h:j ≠ p):(l.set p v).getD j default = l.getD j default:=by
 simp only [List.getD,List.getElem?_set_ne (Ne.symm h)]
variable {c:α -> Nat -> PV}
def atu {wr wr':Bool} {n p k:Nat} {e:TypeId} {v:α} {x:PV} (hw:wr' = true -> wr = true) (hn:n = l.length) (hp:k = p) (hk:p < l.length) (hx:x = c v 0):
 CoO (.arr wr 1 e n (fj (lf c l) k 0 [x])) (.arr wr' 1 e n (lf c (l.set p v))):=by
 subst hp hx hn;refine ⟨hw,rfl,rfl,rfl,fun i j hi hj=>CoP.of_eq ?_⟩;obtain rfl:j = 0:=by omega
 unfold fj lf;by_cases h:i = k
 · subst h
   rw [if_pos ⟨rfl,by omega,by simp⟩,qp hk];rfl
 rw [if_neg bsq,getD_set_ne' h]
def vo {wr wr':Bool} {n p k q d:Nat} {e:TypeId} {l':List α} (hw:wr' = true -> wr = true) (hn:n = l.length) (hp:k = p) (hk:p < l.length) (hd:d = q):
 CoO (.arr wr 1 e n (fj (lf c l) k 0 [lf c l' d 0])) (.arr wr' 1 e n (lf c (l.set p (l'.getD q default)))):=atu hw hn hp hk (by rw [hd];rfl)
def ah7 {n m a:Nat} {cl:Bool} {l':List α} {z:List Value} {p:Option Int} {h:Option Int} (hn:ek (az n h) p = l'.length) (hp:p = none) (ha:l'.length <= a) (hl:l' = l.take l'.length):
 CoP (.sl (ek (az n h) p) 1 cl (uj (qv (lf c l) a m z) p)) (psl 1 c l'):=by
 subst hp;refine CoP.sl hn.symm (.inl rfl) (fun h=>by cases h) fun i j hi hj=>CoP.of_eq ?_;rw [hn] at hi;show qv (lf c l) a m z i j = lf c l' i j;unfold qv;rw [if_neg bsq];simp only [lf,List.getD];have e:l'[i]? = l[i]?:=by rw [hl,bpf,if_pos hi]
 rw [e]
end
end
abbrev sC:AS -> Nat -> PV:=fun s _=>asC s
structure CpI (l:List AS) (k p q:Nat) (m:List AS):Prop where
 len:m.length = l.length
 kq:k < q
 pq:p < q
 ql:q <= l.length
 pre:m.take p = jo (l.take q)
 high:∀ j,q - 1 <= j -> m.getD j default = l.getD j default
section
variable {k:Nat} {l:List AS}
theorem CpI.start (h1:1 <= k) (hk:k < l.length) (h:∀ j,0 < j -> j < k -> ¬ l.getD j default = l.getD (j - 1) default) (hd:l.getD k default = l.getD (k - 1) default):CpI l k k (k + 1) l :=
 ⟨rfl,by omega,by omega,by omega,by rw [rg bsq hk,if_pos hd.symm,bpd,x6 bsq h],fun _ _=>rfl⟩
theorem CpI.skip {p q:Nat} {m:List AS} (h:CpI l k p q m) (hq:q < l.length) (he:m.getD q default = m.getD (q - 1) default):CpI l k p (q + 1) m:=by
 have hk:=h.kq;refine ⟨h.len,by omega,by have:=h.pq;omega,hq, ?_,fun j hj=>h.high j bsq⟩;rw [h.high q bsq,h.high (q - 1) bsq] at he;rw [rg bsq hq,if_pos he.symm,bpd,h.pre]
theorem CpI.keep {p q:Nat} {m:List AS} (h:CpI l k p q m) (hq:q < l.length) (he:¬ m.getD q default = m.getD (q - 1) default):CpI l k (p + 1) (q + 1) (m.set p (m.getD q default)):=by
 have hk:=h.kq;have hp:=h.pq;have hl:=h.len;refine ⟨by simp [hl],by omega,by omega,hq, ?_,fun j hj=>by rw [getD_set_ne' bsq];exact h.high j bsq⟩;have e:=h.high q bsq;rw [e,h.high (q - 1) bsq] at he;rw [rg bsq hq,if_neg (fun e=>he e.symm),<- h.pre,aw (by simp [hl];omega),qp bsq,e];congr 1;rw [List.take_set,br1 bt3]
def a0p {a b a' b':Nat} (h:asI (l.getD a' default) = asI (l.getD b' default)) (ha:a' = a) (hb:b' = b):l.getD a default = l.getD b default:=by subst ha hb;exact ck.1 h
def a0f {a b a' b':Nat} (h:¬ asI (l.getD a' default) = asI (l.getD b' default)) (ha:a' = a) (hb:b' = b):¬ l.getD a default = l.getD b default:=by subst ha hb;exact fun e=>h (congrArg asI e)
def atf (hk:l.length <= k) (h:∀ j,0 < j -> j < k -> ¬ l.getD j default = l.getD (j - 1) default):CoP (.sl l.length 1 false (lf sC l)) (asl (jo l)):=by
 have:=x6 (bo9 l.length) fun j h1 h2=>h j h1 bsq;rw [bog] at this;rw [this];exact CoP.refl _
def ba9 {m:List AS} {p q n a d:Nat} {cl:Bool} {z:List Value} (hC:CpI l k p q m) (hq:¬ q < l.length) (ha:p <= a):CoP (.sl (ek (az n (some (p:Int))) none) 1 cl (uj (qv (lf sC m) a d z) none)) (asl (jo l)):=by
 have e:=hC.pre;have h1:=hC.ql;have h2:=hC.len;have h3:=hC.pq;rw [show q = l.length by omega,bog] at e;have el:(jo l).length = p:=by rw [<- e];simp;omega
 exact ah7 (by rw [el];rfl) rfl bsq (by rw [el,e])
end
end
section
open Go.Proofs
section
variable {p:Prop}
def bss (h:p:=by (repeat' apply And.intro) <;> first | trivial | exact bo8 rfl):p:=h
def bsv (h:p:=by first | rfl | (dsimp only;omega)):p:=h
def bsx (h:p:=by first | rfl | (dsimp only; omega)):p:=h
def bsy (h:p:=by simp only [az]; omega):p:=h
def bt2 (h:p:=by simp only [az];omega):p:=h
def b29 (l:List AS):dq btb 216 [.one (.ref 900 l.length)] [(900, .arr true 1 46 l.length (lf sC l))] (.v (.one (.p (asl (jo l))))) [] []:=by
 refine hfx (nt:=61) Tryz.func216 ?_;refine cw ?_;refine adr 900 rfl fun hlen=>?_;refine d5 ?_;refine hcd (fun h0=>?_) (fun h0=>?_)
 · refine w_5 ?_;refine b6 2 rfl rfl rfl ?_;refine hrr ?_;exact ⟨_,_,rfl,bss,atf (k:=l.length) (bo9 _) (fun j h1 h2=>by omega),trivial⟩
 refine w_7 ?_;refine ah (ι:=Nat) (ka 0 kn) (kb 900 km) (fun k=>⟨[(3,some (vI k))],[]⟩) (fun k=>1 <= k /\ k <= l.length /\ ∀ j,0 < j -> j < k -> ¬ l.getD j default = l.getD (j - 1) default) (fun k=>l.length - k) (1) (⟨bo9 _,by omega,fun j h1 h2=>by omega⟩) kk ?_;rintro k ⟨hk1,hk,hI⟩;refine w_8 ?_;refine hcd (fun h1=>?_) (fun h1=>?_)
 ·
  refine a3c ?_;refine hcd (fun h2=>?_) (fun h2=>?_)
  ·
   refine kw ?_;refine ah (ι:=Nat × Nat × List AS) (ka 0 (ka 4 kn)) km (fun x=>⟨[(3,some (vI x.1)),(5,some (vI ((x.2.1:Int) - k)))],[(900,some (.arr true 1 46 l.length (lf sC x.2.2)))]⟩) (fun x=>CpI l k x.1 x.2.1 x.2.2) (fun x=>l.length - x.2.1) ((k,k + 1,l)) (CpI.start hk1 bsq hI (a0p bsr rfl bsq)) ⟨⟨zy,⟨_,rfl,(coi bsv)⟩,trivial⟩,uu⟩ ?_;rintro ⟨p,q,m⟩ hC;have hC0:=hC;obtain ⟨hml,hkq,hpq,hql,_,_⟩:=hC0;dsimp only at hC hml hkq hpq hql;refine w_8 ?_;refine hcd (fun h3=>?_) (fun h3=>?_)
   ·
    simp only [ek,az,bop] at h3;refine a3c ?_;refine hcn (fun h4=>?_) (fun h4=>?_)
    ·
     refine ad6 ?_
     first | (refine lpz (p + 1, q + 1, m.set p (m.getD q default)) ⟨⟨⟨_, rfl, (coi bsx)⟩, ⟨_, rfl, (coi bsx)⟩, tt⟩, ⟨⟨_, rfl, (vo id hml.symm bsq (by dsimp only; omega) bsy)⟩, trivial⟩⟩ ?_; exact hC.keep bsq (a0f bsr bsy bsy))
           | (refine lpz (p,q + 1,m) ⟨⟨⟨_,rfl,(coi bsv)⟩,⟨_,rfl,(coi bsv)⟩,tt⟩,uu⟩ ?_;exact hC.skip bsq (a0p bsr bt2 bt2))
    refine w_6 ?_
    first | (refine lpz (p + 1, q + 1, m.set p (m.getD q default)) ⟨⟨⟨_, rfl, (coi bsx)⟩, ⟨_, rfl, (coi bsx)⟩, tt⟩, ⟨⟨_, rfl, (vo id hml.symm bsq (by dsimp only; omega) bsy)⟩, trivial⟩⟩ ?_; exact hC.keep bsq (a0f bsr bsy bsy))
          | (refine lpz (p,q + 1,m) ⟨⟨⟨_,rfl,(coi bsv)⟩,⟨_,rfl,(coi bsv)⟩,tt⟩,uu⟩ ?_;exact hC.skip bsq (a0p bsr bt2 bt2))
   simp only [ek,az,bop] at h3;refine w_6 ?_;refine r9 0 true ?_;refine w_5 ?_;refine b5l rfl rfl rfl rfl rfl ?_;refine w_2 ?_;refine hrr ?_;exact ⟨_,_,rfl,bss,ba9 hC bsq (by simp [az]),trivial⟩
  refine w_6 ?_;refine lpz (k + 1) kk ?_;refine ⟨by omega,by show k + 1 <= _;omega,fun j h1 h2=>?_⟩
  rcases bqp (br4 h2) with h | h
  · exact hI j h1 h
  subst h;exact a0f bsr rfl bsq
 refine w_6 ?_;refine b6 2 rfl rfl rfl ?_;refine hrr ?_;exact ⟨_,_,rfl,bss,atf (k:=k) bsq hI,trivial⟩
end
end
section
section
variable {α:Type} [Inhabited α] {p:α -> Bool} {l:List α}
def acg (h:idx p l = -1):∀ j,j < l.length -> p (l.getD j default) = false:=fun j hj=>by
 cases hc:p (l.getD j default) with
 | false=>rfl
 | true =>
  exfalso;have hx:∃ x ∈ l,p x = true:=⟨l[j],bp3 hj,by simpa [List.getD,hj] using hc⟩;unfold idx at h
  cases hf:l.findIdx? p with
  | none =>
   rw [List.findIdx?_eq_none_iff] at hf;obtain ⟨x,hx,hp⟩:=hx;rw [hf x hx] at hp;cases hp
  | some i=>rw [hf] at h;simp only at h;omega
def xa (h:¬ idx p l = -1):∃ i:Nat,idx p l = i /\ i < l.length /\ p (l.getD i default) = true /\ ∀ j,j < i -> p (l.getD j default) = false:=by
 unfold idx at h ⊢
 cases hf:l.findIdx? p with
 | none=>rw [hf] at h;exact absurd rfl h
 | some i =>
  obtain ⟨h1,h2,h3⟩:=bs0.1 hf;refine ⟨i,rfl,h1,by simpa [List.getD,h1] using h2,fun j hj=>?_⟩;have:=h3 j hj;simp only [List.getD,bo6 (Nat.lt_trans hj h1),bp0];simpa using this
def yy:(decide (0 <= idx p l)) = l.any p:=by
 unfold idx
 cases hf:l.findIdx? p with
 | none =>
  rw [List.findIdx?_eq_none_iff] at hf
  have:l.any p = false:=by
   rw [bpw];intro x hx;rw [hf x hx];exact bre
  rw [this];rfl
 | some i =>
  obtain ⟨h1,h2,_⟩:=bs0.1 hf;have:l.any p = true:=bp4.2 ⟨l[i],bp3 h1,h2⟩;rw [this];exact decide_eq_true (bqk i)
def a5v:∀ {k:Nat},k <= l.length -> (∀ j,j < k -> p (l.getD j default) = false) -> (l.take k).filter (fun x=>!p x) = l.take k
 | 0,_,_=>by simp
 | k + 1,hk,h=>by rw [aw bsq,bpr,a5v bsq fun j hj=>h j bsq];simp only [bpp,h k bsq,bs1,if_true,bq9]
structure DfI (p:α -> Bool) (l:List α) (k q:Nat) (m:List α):Prop where
 len:m.length = l.length
 kq:k < q
 ql:q <= l.length
 pre:m.take k = (l.take q).filter fun x=>!p x
 high:∀ j,q <= j -> m.getD j default = l.getD j default
theorem DfI.start {k:Nat} (hk:k < l.length) (h1:p (l.getD k default) = true) (h:∀ j,j < k -> p (l.getD j default) = false):DfI p l k (k + 1) l :=
 ⟨rfl,by omega,hk,by rw [aw hk,bpr,a5v bsq h];simp only [bpp,h1,br6,bq9,bpe,if_false,bpd],fun _ _=>rfl⟩
theorem DfI.skip {k q:Nat} {m:List α} (h:DfI p l k q m) (hq:q < l.length) (hp:p (m.getD q default) = true):DfI p l k (q + 1) m:=by
 rw [h.high q (bo9 _)] at hp;exact ⟨h.len,by have:=h.kq;omega,hq,by rw [aw hq,bpr,<- h.pre];simp only [bpp,hp,br6,bq9,bpe,if_false,bpd],fun j hj=>h.high j bsq⟩
theorem DfI.keep {k q:Nat} {m:List α} (h:DfI p l k q m) (hq:q < l.length) (hp:p (m.getD q default) = false):DfI p l (k + 1) (q + 1) (m.set k (m.getD q default)):=by
 have e:=h.high q (bo9 _);rw [e] at hp ⊢;have hk:=h.kq;have hl:=h.len;refine ⟨by simp [hl],by omega,hq, ?_,fun j hj=>by rw [getD_set_ne' bsq];exact h.high j bsq⟩;rw [aw (by simp [hl];omega),qp bsq,aw hq,bpr,<- h.pre];simp only [bpp,hp,bs1,if_true,bq9];congr 1;rw [List.take_set,br1 bt3]
end
section
variable {p:AS -> Bool} {l:List AS}
def b99 (h:∀ j,j < l.length -> p (l.getD j default) = false):CoP (.sl l.length 1 false (lf sC l)) (asl (l.filter fun x=>!p x)):=by
 have:=a5v (bo9 l.length) h;rw [bog] at this;rw [this];exact CoP.refl _
def bbc {m:List AS} {k q n a d:Nat} {cl:Bool} {z:List Value} (hC:DfI p l k q m) (hq:¬ q < l.length) (ha:k <= a):CoP (.sl (ek (az n (some (k:Int))) none) 1 cl (uj (qv (lf sC m) a d z) none)) (asl (l.filter fun x=>!p x)):=by
 have e:=hC.pre;have h1:=hC.ql;have h2:=hC.len;have h3:=hC.kq;rw [show q = l.length by omega,bog] at e;have el:(l.filter fun x=>!p x).length = k:=by rw [<- e];simp;omega
 exact ah7 (by rw [el];rfl) rfl bsq (by rw [el,e])
end
def afb {a b:AS}:decide (asI a = asI b) = decide (a = b):=decide_eq_decide.2 ck
instance:DecidableEq Fd:=fun a b=>decidable_of_iff (a.lhs = b.lhs /\ a.rhs = b.rhs) Fd.eq_iff.symm
end
section
open Go.Proofs
def a78:goodFn btb 21:=wgx Tryz.func21
def a42 (n:Nat) (c:Bool) (f:Nat -> Nat -> PV) (hn:n <= 35184372088832) :
 dq btb 21 [.one (.p (.sl n 1 c f))] [] (.v (.one (.ref 0 n))) [(0, .arr true 1 46 n f)] []:=by
 refine hfx (nt:=8) Tryz.func21 ?_;refine sx7 ?_;refine eo true rfl rfl rfl rfl rfl trivial ?_;refine cu ?_;refine a9c (ι:=Bool) (fun c=>⟨[(0,some (bn (.sl n 1 c f)))],[]⟩) (fun _=>True) ?_ fun c _=>?_
 · rcases bqa n with hz | h0
   · subst hz
     refine hw_exact' 0 rfl fun ad cap hcap=>?_;refine sx7 ?_;(iterate 2 refine eo true rfl rfl rfl rfl rfl trivial ?_);refine cu ?_;refine am ad.isNone rfl (fun hc=>?_) (fun hc=>?_)
     · refine sx7 ?_
       refine eo true rfl rfl rfl rfl rfl trivial ?_;refine cu ?_;refine ct 2 0 true 1 46 f bsu rfl (CoP.sl rfl (.inr rfl) (fun h=>h) fun i j hi _=>absurd hi (bod i)) (.inr rfl) rfl ?_;refine hrr ?_;exact ⟨_,_,rfl,trivial,CoR.refl _,uu⟩
     refine dp ?_;exact ⟨false,trivial,⟨⟨_,rfl,CoP.raw_sl hcap⟩,trivial⟩,trivial⟩
   refine sx7 ?_;refine eo true rfl rfl rfl rfl rfl trivial ?_;refine eo true rfl rfl rfl rfl rfl h0 ?_;refine cu ?_;refine am false rfl (fun hc=>by cases hc) (fun hc=>?_);refine dp ?_;exact ⟨c,trivial,tt,trivial⟩
 refine sx7 ?_;refine a3z 0 rfl rfl rfl rfl rfl rfl trivial ?_;refine eo true rfl rfl rfl rfl rfl trivial ?_;refine a7x 0 true rfl rfl rfl rfl rfl rfl ⟨trivial,rfl,rfl,rfl, .inl rfl,by show 0 + n <= 9223372036854775807;omega,by show (0 + n) * 4 <= 140737488355328;omega,fun _=>.inl rfl⟩ ?_;refine eo true rfl rfl rfl rfl rfl trivial ?_;refine cu ?_;refine hrr ?_;refine ⟨_,_,rfl,trivial,CoR.of_eq (by show HR.v (.one (.ref 0 (0 + n))) = _;rw [bpc]),⟨⟨_,rfl, ?_⟩,trivial⟩⟩;exact ⟨fun h=>h,rfl,rfl,(bpc n).symm,fun i j _ _=>CoP.of_eq (by simp [gv])⟩
def b1t (n:Nat) (c:Bool) (f:Nat -> Nat -> PV) (hn:n <= 35184372088832):a7 btb 21 [.one (.sl n 1 c f)] (.v (.one (.sl n 1 false f))) :=
 dq.pure (args:=[.one (.sl n 1 c f)]) (l:=[.one (.ref 0 n)]) (a42 n c f hn) rfl ⟨rfl,trivial⟩
def bki (l:List Fd) (g k:Nat) (caps:Nat -> PV) (V:Fd -> Bool) (hg:goodFn btb g) (hV:∀ x,a7 btb g (x.pc :: j2 caps k 0) (aa [pB (V x)])):a7 btb 235 [pP (fdl l),pP (.fn g k caps)] (aa [pI (idx V l)]):=by
 refine hpx (nt:=19) Tryz.func235 ?_;refine cw ?_;refine cq 0 rfl fun hn=>?_;refine w_3 ?_;refine ep (ι:=Unit) kn km (fun _i=>⟨[],[]⟩) (fun _i=>idx V l = -1) ?_ ?_
 ·
  refine w_7 ?_;refine ah (ι:=Nat) (ka 0 (ka 1 (ka 7 kn))) km (fun i=>⟨[(8,some (vI i))],[]⟩) (fun i=>i <= l.length /\ (∀ j,j < i -> V (l.getD j default) = false)) (fun i=>l.length - i) (0) (⟨boe _,c5⟩) kk ?_;rintro i ⟨hi,hI⟩;refine w_5 ?_;refine hcd (fun h0=>?_) (fun h0=>?_)
  ·
   refine o8 ?_;refine rc rfl rfl rfl rfl rfl rfl hg (hV (l.getD i default)) (CoL.refl _) rfl rfl ?_;refine cu ?_;refine hcb (fun h1=>?_) (fun h1=>?_)
   · refine v_5 ?_;exact ⟨cci (w9 (i:=i) bsq hI h1).symm,trivial⟩
   refine w_5 ?_;refine lpz (i + 1) kk ?_;exact ⟨by show i + 1 <= _;omega,b7 hI (h1)⟩
  refine dy ?_;refine ⟨(), ?_, ?_⟩
  · exact wl fun j hj=>hI j bsq
  exact ⟨trivial,trivial⟩
 rintro _ hj;refine v_4 ?_;exact ⟨cci hj.symm,trivial⟩
def ahx:goodFn btb 167:=wgx Tryz.func167
def b6m (l:List AS) (g k:Nat) (caps:Nat -> PV) (V:AS -> Bool) (hg:goodFn btb g) (hV:∀ x,a7 btb g (pA x :: j2 caps k 0) (aa [pB (V x)])):a7 btb 167 [pP (asl l),pP (.fn g k caps)] (aa [pI (idx V l)]):=by
 refine hpx (nt:=19) Tryz.func167 ?_;refine cw ?_;refine cq 0 rfl fun hn=>?_;refine w_3 ?_;refine ep (ι:=Unit) kn km (fun _i=>⟨[],[]⟩) (fun _i=>idx V l = -1) ?_ ?_
 ·
  refine w_7 ?_;refine ah (ι:=Nat) (ka 0 (ka 1 (ka 7 kn))) km (fun i=>⟨[(8,some (vI i))],[]⟩) (fun i=>i <= l.length /\ (∀ j,j < i -> V (l.getD j default) = false)) (fun i=>l.length - i) (0) (⟨boe _,c5⟩) kk ?_;rintro i ⟨hi,hI⟩;refine w_5 ?_;refine hcd (fun h0=>?_) (fun h0=>?_)
  ·
   refine o8 ?_;refine rc rfl rfl rfl rfl rfl rfl hg (hV (l.getD i default)) (CoL.refl _) rfl rfl ?_;refine cu ?_;refine hcb (fun h1=>?_) (fun h1=>?_)
   · refine v_5 ?_;exact ⟨cci (w9 (i:=i) bsq hI h1).symm,trivial⟩
   refine w_5 ?_;refine lpz (i + 1) kk ?_;exact ⟨by show i + 1 <= _;omega,b7 hI (h1)⟩
  refine dy ?_;refine ⟨(), ?_, ?_⟩
  · exact wl fun j hj=>hI j bsq
  exact ⟨trivial,trivial⟩
 rintro _ hj;refine v_4 ?_;exact ⟨cci hj.symm,trivial⟩
def bk5 (l:List Fd) (g k:Nat) (caps:Nat -> PV) (V:Fd -> Bool) (hg:goodFn btb g) (hV:∀ x,a7 btb g (x.pc :: j2 caps k 0) (aa [pB (V x)])):a7 btb 190 [pP (fdl l),pP (.fn g k caps)] (aa [pB (l.any V)]):=by
 refine hpx (nt:=9) Tryz.func190 ?_;refine w_8 ?_;refine qcx (wgx Tryz.func235) (bki l g k caps V hg hV) ?_;refine v_3 ?_;exact ⟨ccb yy,trivial⟩
def agj:goodFn btb 148:=wgx Tryz.func148
def awf (l:List AS) (g k:Nat) (caps:Nat -> PV) (V:AS -> Bool) (hg:goodFn btb g) (hV:∀ x,a7 btb g (pA x :: j2 caps k 0) (aa [pB (V x)])):a7 btb 148 [pP (asl l),pP (.fn g k caps)] (aa [pB (l.any V)]):=by
 refine hpx (nt:=9) Tryz.func148 ?_;refine w_8 ?_;refine qcx ahx (b6m l g k caps V hg hV) ?_;refine v_3 ?_;exact ⟨ccb yy,trivial⟩
def bla (l:List AS) (s:AS):a7 btb 92 [pP (asl l),pA s] (aa [pI (idx (fun x=>decide (x = s)) l)]):=by
 refine hpx (nt:=19) Tryz.func92 ?_;refine cw ?_;refine cq 0 rfl fun hn=>?_;refine w_3 ?_;refine ep (ι:=Unit) kn km (fun _i=>⟨[],[]⟩) (fun _i=>idx (fun x=>decide (x = s)) l = -1) ?_ ?_
 ·
  refine w_7 ?_;refine ah (ι:=Nat) (ka 0 (ka 1 (ka 7 kn))) km (fun i=>⟨[(8,some (vI i))],[]⟩) (fun i=>i <= l.length /\ (∀ j,j < i -> decide (l.getD j default = s) = false)) (fun i=>l.length - i) (0) (⟨boe _,c5⟩) kk ?_;rintro i ⟨hi,hI⟩;refine w_5 ?_;refine hcd (fun h0=>?_) (fun h0=>?_)
  ·
   refine a3c ?_;refine hcd (fun h1=>?_) (fun h1=>?_)
   · refine v_5 ?_;exact ⟨cci (w9 (p:=fun x=>decide (x = s)) (i:=i) bsq hI (decide_eq_true (ck.1 h1).symm)).symm,trivial⟩
   refine w_5 ?_;refine lpz (i + 1) kk ?_;exact ⟨by show i + 1 <= _;omega,b7 hI (decide_eq_false fun e=>h1 (congrArg asI e.symm))⟩
  refine dy ?_;refine ⟨(), ?_, ?_⟩
  · exact wl (p:=fun x=>decide (x = s)) fun j hj=>hI j bsq
  exact ⟨trivial,trivial⟩
 rintro _ hj;refine v_4 ?_;exact ⟨cci hj.symm,trivial⟩
def bmo (l:List Fd) (s:Fd):a7 btb 277 [pP (fdl l),s.pc] (aa [pI (idx (fun x=>decide (x = s)) l)]):=by
 refine hpx (nt:=19) Tryz.func277 ?_;refine cw ?_;refine cq 0 rfl fun hn=>?_;refine gy ?_;refine m9 0 ?_;refine w_2 ?_;refine ep (ι:=Unit) kn km (fun _i=>⟨[],[]⟩) (fun _i=>idx (fun x=>decide (x = s)) l = -1) ?_ ?_
 ·
  refine w_7 ?_;refine ah (ι:=Nat) (ka 0 (ka 3 (ka 7 kn))) (kb 0 km) (fun i=>⟨[(8,some (vI i))],[]⟩) (fun i=>i <= l.length /\ (∀ j,j < i -> decide (l.getD j default = s) = false)) (fun i=>l.length - i) (0) (⟨boe _,c5⟩) kk ?_;rintro i ⟨hi,hI⟩;refine w_5 ?_;refine hcd (fun h0=>?_) (fun h0=>?_)
  ·
   refine ao5 ?_;refine hcb (fun h1=>?_) (fun h1=>?_)
   · refine v_5 ?_;exact ⟨cci (w9 (p:=fun x=>decide (x = s)) (i:=i) bsq hI (decide_eq_true (by simp_all [Fd.eq_iff,ck]))).symm,trivial⟩
   refine w_5 ?_;refine lpz (i + 1) kk ?_;exact ⟨by show i + 1 <= _;omega,b7 hI (decide_eq_false fun e=>by subst e;simp_all)⟩
  refine dy ?_;refine ⟨(), ?_, ?_⟩
  · exact wl (p:=fun x=>decide (x = s)) fun j hj=>hI j bsq
  exact ⟨trivial,trivial⟩
 rintro _ hj;refine v_4 ?_;exact ⟨cci hj.symm,trivial⟩
def bm0 (l:List Fd) (s:Fd):a7 btb 253 [pP (fdl l),s.pc] (aa [pB (l.any fun x=>decide (x = s))]):=by
 refine hpx (nt:=9) Tryz.func253 ?_;refine sx7 ?_;refine m9 0 ?_;refine w_6 ?_;refine qcx (wgx Tryz.func277) (bmo _ _) ?_;refine v_3 ?_;exact ⟨ccb yy,trivial⟩
def ah1:goodFn btb 117:=wgx Tryz.func117
def av0 (l:List AS) (g k:Nat) (caps:Nat -> PV) (V:AS -> Bool) (hg:goodFn btb g) (hV:∀ x,a7 btb g (pA x :: j2 caps k 0) (aa [pB (V x)])):dq btb 117 [.one (.ref 900 l.length), .one (.p (.fn g k caps))] [(900, .arr true 1 46 l.length (lf sC l))] (.v (.one (.p (asl (l.filter fun x=>!V x))))) [] []:=by
 refine hfx (nt:=42) Tryz.func117 ?_;refine cw ?_;refine adr 900 rfl fun hlen=>?_;refine w_7 ?_;refine qcx ahx (b6m l g k caps V hg hV) ?_;refine w_8 ?_;refine hcd (fun h0=>?_) (fun h0=>?_)
 · refine w_5 ?_;refine b6 4 rfl rfl rfl ?_;refine hrr ?_;exact ⟨_,_,rfl,bss,b99 (acg bsr),trivial⟩
 obtain ⟨i0,hi0,hi1,hi2,hi3⟩:=xa h0;refine w_9 ?_;refine ah (ι:=Nat × Nat × List AS) (ka 0 (ka 1 kn)) km (fun x=>⟨[(5,some (vI x.1)),(6,some (vI x.2.1))],[(900,some (.arr true 1 46 l.length (lf sC x.2.2)))]⟩) (fun x=>DfI V l x.1 x.2.1 x.2.2) (fun x=>l.length - x.2.1) ((i0,i0 + 1,l)) (DfI.start hi1 hi2 hi3) ⟨⟨⟨_,rfl,(coi hi0)⟩,⟨_,rfl,(coi (by dsimp only;omega))⟩,trivial⟩,uu⟩ ?_;rintro x hC;have hC0:=hC;obtain ⟨hml,hkq,hql,_,_⟩:=hC0;refine w_8 ?_;refine hcd (fun h1=>?_) (fun h1=>?_)
 ·
  refine o8 ?_;refine rc rfl rfl rfl rfl rfl rfl hg (hV (x.2.2.getD (x.2.1:Int).toNat default)) (CoL.refl _) rfl rfl ?_;refine w_2 ?_;refine hcv (fun h2=>?_) (fun h2=>?_)
  ·
   have hv:=h2;refine ao5 ?_
   first | (refine lpz (x.1 + 1, x.2.1 + 1, x.2.2.set x.1 (x.2.2.getD x.2.1 default)) ⟨⟨⟨_, rfl, (coi bsx)⟩, ⟨_, rfl, (coi bsx)⟩, tt⟩, ⟨⟨_, rfl, (vo id hml.symm bsq bsq bsq)⟩, trivial⟩⟩ ?_; exact hC.keep bsq (by simpa using hv))
         | (refine lpz (x.1,x.2.1 + 1,x.2.2) ⟨⟨⟨_,rfl,(coi bsv)⟩,⟨_,rfl,(coi bsv)⟩,tt⟩,uu⟩ ?_;exact hC.skip bsq (by simpa using hv))
  have hv:=h2;refine w_6 ?_
  first | (refine lpz (x.1 + 1, x.2.1 + 1, x.2.2.set x.1 (x.2.2.getD x.2.1 default)) ⟨⟨⟨_, rfl, (coi bsx)⟩, ⟨_, rfl, (coi bsx)⟩, tt⟩, ⟨⟨_, rfl, (vo id hml.symm bsq bsq bsq)⟩, trivial⟩⟩ ?_; exact hC.keep bsq (by simpa using hv))
        | (refine lpz (x.1,x.2.1 + 1,x.2.2) ⟨⟨⟨_,rfl,(coi bsv)⟩,⟨_,rfl,(coi bsv)⟩,tt⟩,uu⟩ ?_;exact hC.skip bsq (by simpa using hv))
 have hq:=h1;refine w_6 ?_;refine r9 0 true ?_;refine w_5 ?_;refine b5l rfl rfl rfl rfl rfl ?_;refine w_2 ?_;refine hrr ?_;exact ⟨_,_,rfl,bss,bbc hC bsq (by simp [az]),trivial⟩
end
end Go.Hx

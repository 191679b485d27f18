/- A part of the proof: Hx19 Hx23 Cs1 Cs3 Ty1 V1 Cs4 V2 Cl1 V3 Cl2 V4 Cs5. -/
import Derived.Deep.AppendLies
import Derived.Laws.CopyRow
import Derived.Shelf.Spec.SlicesInsertGrow
import Derived.Test.YtnlcekpflogjkaaGreatDoorTx14
set_option linter.all false
set_option maxRecDepth 100000
set_option maxHeartbeats 1000000
namespace Go.Hx
section
open Go.Proofs Go.Lib Go.RowKit
def bgj (w:World) (o:Obj) {r:Nat} (h:r < w.heap.size):(w.alloc o).heap[r]? = w.heap[r]?:=by
 show (w.heap.push o)[r]? = _;rw [Array.getElem?_push_lt h,bsw h]
def bqb (k:Nat) (xs vs:List Value):List Value:=xs.take k ++ vs ++ xs.drop k
structure bov (w w':World) (T s:Nat) (own v:Value) (n:Nat) (xs:List Value):Prop where
 row:w'.ownsRow 0 T s v (n + 1) xs
 bl:Below 0 w w'
 out:∀ g,g < w.heap.size -> ci own ≠ some g -> w'.heap[g]? = w.heap[g]?
 at_:∀ g,ci v = some g -> w.heap.size <= g \/ ci own = some g
def bqa (i:Nat) (F G:Nat -> Nat -> PV):Nat -> Nat -> PV:=fun k j=>if k < i then F k j else if k = i then G 0 j else F (k - 1) j
def fw {id q:Nat} {x ob:a7} (h:lk [(q,x)] id = some ob):id = q /\ ob = x:=by
 simp only [lk] at h;by_cases hk:q = id
 · subst hk
   simp at h;exact ⟨rfl,h.symm⟩
 have:Nat.beq q id = false:=by
  rw [brt];exact fun hb=>hk (bs9 hb)
 rw [this] at h;cases h
structure bqw (c:Ctx) (w w':World) (T s a:Nat) (v:Value) (n:Nat) (ys:List Value):Prop where
 row:w'.ownsRow 0 T s v (n + 1) ys
 bl:Below 0 w w'
 out:∀ g,g < w.heap.size -> ¬ c.blk a g -> w'.heap[g]? = w.heap[g]?
 at_:∀ g,ci v = some g -> w.heap.size <= g \/ c.blk a g
def b66 {P:Program} {f:FuncId} {T s a:Nat} {y:Value} {F:Nat -> Nat -> PV} (hs:0 < s)
 (h:∀ (w:World) (ad:Option Addr),Calls P f #[.slice ad 0 0,y] w fun e w'=>∃ v,e = .returned v /\ Below w.heap.size w w' /\ (v = .slice ad 0 0 \/ w'.ownsRow 0 T s v 0 [] /\ ∀ g,ci v = some g -> w.heap.size <= g)) :
 cz P f [.one (.p (ke (.slice none 0 0))), .one (.p (.raw y))] [] (.v (.one (.ref a 0))) [(a, .arr true s T 0 F)] []:=by
 intro w c us hM hrep
 obtain ⟨ad,rfl⟩:∃ ad,us = [.slice ad 0 0,y]:=by
  match us,hrep with
  | [u0,u1],⟨h0,h1,_⟩ =>
   obtain ⟨ad,cap,hv,_,_,hc,_⟩:=h0;obtain rfl:cap = 0:=hc rfl;exact ⟨ad,by rw [hv,show u1 = y from h1.1]⟩
 refine (h w ad).mono ?_;rintro e w' ⟨v,rfl,hb,hor⟩;have la:lk [(a,a7.arr true s T 0 F)] a = some (.arr true s T 0 F):=by simp [lk]
 have him:∀ q ob,c.imm q = some ob -> q < w.heap.size:=fun q ob hq=>(brj.1 (hM.imm q ob hq)).1
 have hform:v.oneCell' = true:=by
  rcases hor with rfl | ⟨hrow,_⟩
  · rfl
  rcases hrow.2 with ⟨hv,_⟩ | ⟨g,cap,cur,hv,_⟩ <;> (subst hv;rfl)
 have hbk:∃ bk:Nat -> Prop,(∀ g,bk g -> w.heap.size <= g) /\ (bk = en v /\ w'.ownsRow 0 T s v 0 [] \/ bk = noB /\ ak c.imm (.sl 0 s true F) v):=by
  rcases hor with rfl | ⟨hrow,hat⟩
  · exact ⟨noB,fun g hg=>hg.elim, .inr ⟨rfl,ad,0,rfl,brd _,bre _,fun _=>rfl,fun h=>absurd h (btv 0)⟩⟩
  exact ⟨en v,hat, .inl ⟨rfl,hrow⟩⟩
 obtain ⟨bk,hat,hok⟩:=hbk;refine ⟨v,{ c with own:=fun q=>if q = a then v else c.own q,blk:=fun q=>if q = a then bk else c.blk q },rfl,⟨hform,fun l hl=>(by cases (fw hl).2),fun ob s1 e1 n1 ho1 hd=>?_⟩,⟨fun id ob hl=>?_,fun id id' ob ob' q hl hl' _ _=>by rw [(fw hl).1,(fw hl').1],fun q ob hq=>(hb.block q (him q ob hq)).trans (hM.imm q ob hq),fun id ob q hl hq=>?_⟩,⟨hb.os,hb.tape,hb.output,hb.size,fun k hk=>absurd hk (brg k),hb.drawn⟩,fun q hq _=>⟨hb.block q hq,rfl⟩,fun id ob q hl hq=>?_,fun id hid=>absurd hid bvd⟩
 · obtain ⟨_,rfl⟩:=fw ho1
   simp only [a7.dim,bra,bri] at hd;obtain ⟨rfl,rfl,rfl⟩:=hd;exact ⟨brd _,fun _=>by simp⟩
 · obtain ⟨rfl,rfl⟩:=fw hl
   rcases hok with ⟨h1,h2⟩ | ⟨h1,h2⟩
   · exact ⟨hs,bre _, .inl ⟨by simpa using h1,[],by simpa using h2,fun i j hi=>by omega⟩⟩
   exact ⟨hs,bre _, .inr ⟨.inr rfl,by simpa using h1,by simpa using h2⟩⟩
 · obtain ⟨rfl,_⟩:=fw hl
   have hq':bk q:=by simpa using hq
   show c.imm q = none
   cases hc:c.imm q with
   | none=>rfl
   | some ob=>have:=him q ob hc;have:=hat q hq';omega
 obtain ⟨rfl,_⟩:=fw hl;have hq':bk q:=by simpa using hq
 exact .inl (hat q hq')
def HE (nt:Nat) (st:HSt) (Q:HSt -> Prop):Prop:=∀ w0 m0 a w,Rel w0 m0 nt st.den a w -> ∃ st':HSt,Q st' /\ Rel w0 m0 nt st'.den a w
def lc {nt:Nat} {st:HSt} {Q:HSt -> Prop} (h:Q st):HE nt st Q:=fun _ _ _ _ hr=>⟨st,h,hr⟩
def ayo {ro:Option Nat} {P:Program} {nt:Nat} {c:Code} {st:HSt} {Q:Exit -> HSt -> Prop} (h:HW (ro:=ro) P nt c st fun e s1=>HE nt s1 (Q e)):HW (ro:=ro) P nt c st Q:=fun w0 m0 a w hr=>by
 refine wpIn_mono (h w0 m0 a w hr) ?_;rintro e a' w' ⟨s1,h1,h2⟩;exact h1 w0 m0 a' w' h2
end
section
open Go.RowKit
abbrev AS:=BitVec 32
abbrev asI (s:AS):Int:=(s.toNat:Int)
def asC (s:AS):PV:=.raw (.int .u32 (asI s))
def ans {n:Int} (h0:0 <= n) (h1:n < 4294967296):IntKind.wrap .u32 n = n:=tz (by simp only [inR,wk,zo];omega)
def a6t (s:AS):asI s < 4294967296:=by
 have:=s.isLt;unfold asI;omega
def sw (s:AS):0 <= asI s:=btf _
def up (s:AS):BitVec.ofInt 32 (asI s) = s:=by
 unfold asI;rw [BitVec.ofInt_natCast,BitVec.ofNat_toNat,BitVec.setWidth_eq]
def dj {a b:AS}:asI a = asI b <-> a = b:=by
 unfold asI;rw [Int.ofNat_inj];exact BitVec.toNat_inj
def ac1 (s:AS):IntKind.wrap .u32 (s.toNat:Int) = asI s:=ans (sw s) (a6t s)
def tn (a b:AS):cn .and .u32 (asI a) (asI b) = asI (a &&& b):=by
 show IntKind.wrap .u32 ((BitVec.ofInt 32 (asI a) &&& BitVec.ofInt 32 (asI b)).toNat:Int) = _;rw [up,up,ac1]
def bOr (a b:AS):cn .or .u32 (asI a) (asI b) = asI (a ||| b):=by
 show IntKind.wrap .u32 ((BitVec.ofInt 32 (asI a) ||| BitVec.ofInt 32 (asI b)).toNat:Int) = _;rw [up,up,ac1]
def ai3 (a b:AS):cn .andNot .u32 (asI a) (asI b) = asI (a &&& ~~~b):=by
 show IntKind.wrap .u32 ((BitVec.ofInt 32 (asI a) &&& ~~~BitVec.ofInt 32 (asI b)).toNat:Int) = _;rw [up,up,ac1]
def aav (a:AS) (n:Nat):(asI a).fdiv (2 ^ (min n 32)) = asI (a >>> n):=by
 have e:(2:Int) ^ (min n 32) = ((2 ^ (min n 32):Nat):Int):=by rw [Int.natCast_pow];rfl
 rw [e];unfold asI;rw [bul _ (btf _),<- Int.natCast_ediv,bu5,btz];by_cases h:n <= 32
 · rw [bsh h]
 rw [Nat.min_eq_right bv9];have h1:=a.isLt;have h2:2 ^ 32 <= 2 ^ n:=bsr bv9 bv9;rw [Nat.div_eq_of_lt bv9,Nat.div_eq_of_lt (bua bv9 h2)]
def a1s (a:AS) (n:Nat):IntKind.wrap .u32 (asI a * 2 ^ (min n 32)) = asI (a <<< n):=by
 have e:asI a * (2:Int) ^ (min n 32) = ((a.toNat * 2 ^ (min n 32):Nat):Int):=by rw [Int.natCast_mul,Int.natCast_pow];rfl
 rw [e]
 have hw:∀ m:Nat,IntKind.wrap .u32 (m:Int) = ((m % 4294967296:Nat):Int):=by
  intro m;simp [IntKind.wrap,IntKind.signed,IntKind.bits]
 rw [hw];unfold asI;rw [BitVec.toNat_shiftLeft,Nat.shiftLeft_eq];by_cases h:n <= 32
 · rw [bsh h]
 rw [Nat.min_eq_right bv9];have h1:a.toNat * 2 ^ 32 % 2 ^ 32 = 0:=Nat.mul_mod_left _ _
 have h2:a.toNat * 2 ^ n % 2 ^ 32 = 0:=by
  obtain ⟨k,rfl⟩:∃ k,n = k + 32:=⟨n - 32,by omega⟩;rw [Nat.pow_add,<- Nat.mul_assoc];exact Nat.mul_mod_left _ _
 have h1:a.toNat * 2 ^ 32 % 4294967296 = 0:=h1;rw [h1,h2]
end
section
structure Fd where
 lhs:AS
 rhs:AS
instance:Inhabited Fd:=⟨⟨0,0⟩⟩
theorem Fd.eq_iff {a b:Fd}:a = b <-> a.lhs = b.lhs /\ a.rhs = b.rhs:=by cases a;cases b;simp
instance:DecidableEq Fd:=fun a b=>decidable_of_iff _ (Fd.eq_iff (a:=a) (b:=b)).symm
def Fd.c (x:Fd):Nat -> PV
 | 0=>asC x.lhs
 | 1=>asC x.rhs
 | _=>.any
def sub (a b:AS):Prop:=a &&& ~~~b = 0
instance:DecidablePred fun p:AS × AS=>sub p.1 p.2:=fun p=>inferInstanceAs (Decidable (_ = _))
instance {a b:AS}:Decidable (sub a b):=inferInstanceAs (Decidable (_ = _))
section
variable {a b:AS}
def aq:sub a b <-> ∀ i,i < 32 -> a.getLsbD i = true -> b.getLsbD i = true:=by
 unfold sub;constructor
 · intro h i hi ha
   have:=congrArg (fun x:AS=>x.getLsbD i) h;simp only [brv,bsv,hi,ha,decide_true,btn] at this;simpa using this
 intro h;apply bt0;intro i hi;have:=h i hi;simp only [brv,bsv,hi,decide_true,btn];cases ha:a.getLsbD i <;> cases hb:b.getLsbD i <;> simp_all
def fl (a:AS):sub a a:=aq.2 fun _ _ h=>h
def b6 {c:AS} (h:sub a b) (k:sub b c):sub a c:=aq.2 fun i hi ha=>aq.1 k i hi (aq.1 h i hi ha)
def qo:sub a (a ||| b):=aq.2 fun i hi ha=>by simp [ha]
def qj:sub b (a ||| b):=aq.2 fun i hi ha=>by simp [ha]
def vc {c:AS} (h:sub a c) (k:sub b c):sub (a ||| b) c:=aq.2 fun i hi ha=>by
 rw [bt5,bsl] at ha
 rcases ha with ha | ha
 · exact aq.1 h i hi ha
 exact aq.1 k i hi ha
def dw (h:sub a b) (k:sub b a):a = b:=by
 apply bt0;intro i hi;have h1:=aq.1 h i hi;have h2:=aq.1 k i hi;cases ha:a.getLsbD i <;> cases hb:b.getLsbD i <;> simp_all
def azy (h:sub a b):a.toNat <= b.toNat:=by
 have e:a ||| b = b:=dw (vc h (fl b)) qj
 have:a.toNat <= (a ||| b).toNat:=by rw [BitVec.toNat_or];exact Nat.left_le_or
 rwa [e] at this
def xq (h:sub a b) (hne:a ≠ b):a.toNat < b.toNat:=by
 rcases btr (azy h) with h | h
 · exact h
 exact absurd (bso h) hne
def gc (s:AS) (f:Fd):AS:=if sub f.lhs s then s ||| f.rhs else s
def ep (l:List Fd) (s:AS):AS:=l.foldl gc s
variable {s:AS}
def af1 {f:Fd}:sub s (gc s f):=by
 unfold gc;split
 · exact qo
 exact fl s
def qr:∀ {l:List Fd} {s:AS},sub s (ep l s)
 | [],s=>fl s
 | f :: l,s=>b6 af1 (qr (l:=l) (s:=gc s f))
def clF (l:List Fd):Nat -> AS -> AS
 | 0,s=>s
 | n + 1,s=>if ep l s = s then s else clF l n (ep l s)
def clo (l:List Fd) (s:AS):AS:=clF l 4294967296 s
variable {l:List Fd}
def ap8:∀ {n m:Nat} {s:AS},4294967296 - s.toNat <= n -> 4294967296 - s.toNat <= m -> clF l n s = clF l m s
 | 0,m,s,hn,hm=>by have:=s.isLt;omega
 | n + 1,0,s,hn,hm=>by have:=s.isLt;omega
 | n + 1,m + 1,s,hn,hm=>by
  unfold clF;split
  · rfl
  rename_i hne;have:=xq (qr (l:=l) (s:=s)) (fun e=>hne e.symm);exact ap8 bv9 bv9
def au4 (h:ep l s = s):clo l s = s:=by
 show clF l (4294967295 + 1) s = s;unfold clF;rw [if_pos h]
def b6a:clo l (ep l s) = clo l s:=by
 by_cases h:ep l s = s
 · rw [h]
 have e:clo l s = clF l 4294967295 (ep l s):=by
  show clF l (4294967295 + 1) s = _;rw [clF,if_neg h]
 rw [e];have:=xq (qr (l:=l) (s:=s)) (fun e=>h e.symm);exact ap8 bv9 bv9
def ad5:∀ {n:Nat} {s:AS},4294967296 - s.toNat <= n -> ep l (clF l n s) = clF l n s
 | 0,s,hn=>by have:=s.isLt;omega
 | n + 1,s,hn=>by
  unfold clF;split
  · assumption
  rename_i hne;have:=xq (qr (l:=l) (s:=s)) (fun e=>hne e.symm);exact ad5 bv9
def aed:ep l (clo l s) = clo l s:=ad5 bv9
def b0u:∀ {n:Nat} {s:AS},sub s (clF l n s)
 | 0,s=>fl s
 | n + 1,s=>by
  unfold clF;split
  · exact fl s
  exact b6 qr b0u
def lw:sub s (clo l s):=b0u
def s7 (l:List Fd) (s:AS):Prop:=∀ f ∈ l,sub f.lhs s -> sub f.rhs s
def xx:∀ {l:List Fd} {s:AS},ep l s = s <-> s7 l s
 | [],s=>⟨fun _ f hf=>(by cases hf),fun _=>rfl⟩
 | f :: l,s=>by
  constructor
  · intro h
    have h1:gc s f = s:=dw (by have:=qr (l:=l) (s:=gc s f);rw [show ep l (gc s f) = s from h] at this;exact this) af1
    have h2:ep l s = s:=by
     have:ep l (gc s f) = s:=h;rwa [h1] at this
    intro g hg
    rcases brm.1 hg with rfl | hg
    · intro hl
      rw [gc,if_pos hl] at h1;rw [<- h1];exact qj
    exact xx.1 h2 g hg
  intro h
  have h1:gc s f = s:=by
   unfold gc;split
   · rename_i hl
     exact dw (vc (fl s) (h f (bsj ..) hl)) qo
   rfl
  show ep l (gc s f) = s;rw [h1];exact xx.2 fun g hg=>h g (bs1 _ hg)
def adj:∀ {l:List Fd} {s t:AS},s7 l t -> sub s t -> sub (ep l s) t
 | [],s,t,_,h=>h
 | f :: l,s,t,ht,h=>adj (l:=l) (fun g hg=>ht g (bs1 _ hg)) (by
  unfold gc;split
  · rename_i hl
    exact vc h (ht f (bsj ..) (b6 hl h))
  exact h)
def at4 {t:AS} (ht:s7 l t):∀ {n:Nat} {s:AS},sub s t -> sub (clF l n s) t
 | 0,s,h=>h
 | n + 1,s,h=>by
  unfold clF;split
  · exact h
  exact at4 ht (adj ht h)
def l4 {t:AS} (ht:s7 l t) (h:sub s t):sub (clo l s) t:=at4 ht h
def ij:s7 l (clo l s):=xx.1 aed
def mz {t:AS} (h:sub s t):sub (clo l s) (clo l t):=l4 ij (b6 h lw)
def ac5:clo l (clo l s) = clo l s:=au4 aed
end
end
section
abbrev pI (a:Int):PC:=.one (.raw (.int .i64 a))
abbrev pB (b:Bool):PC:=.one (.raw (.bool b))
abbrev pP (x:PV):PC:=.one x
abbrev pA (s:AS):PC:=.one (.raw (.int .u32 (asI s)))
abbrev fdl (l:List Fd):PV:=psl 2 Fd.c l
abbrev asl (l:List AS):PV:=psl 1 (fun s _=>asC s) l
abbrev vI (a:Int):HR:=bp (.raw (.int .i64 a))
abbrev vA (s:AS):HR:=bp (.raw (.int .u32 (asI s)))
def b07 {l:List Fd} {s:AS} {i:Nat} (hi:i < l.length):ep (l.take (i + 1)) s = gc (ep (l.take i) s) (l.getD i default):=by
 unfold ep;rw [List.take_succ,brb hi,bs8,brc,brb hi];rfl
def j5 {a b:AS}:cn .andNot .u32 (asI a) (asI b) = 0 <-> sub a b:=by
 rw [ai3,show (0:Int) = asI 0 from rfl,dj];exact Iff.rfl
def biu {S:AS} {f:Fd} (h:cn .andNot .u32 (asI f.lhs) (asI S) = 0):cn .or .u32 (asI S) (asI f.rhs) = asI (gc S f):=by
 rw [bOr,gc,if_pos (j5.1 h)]
def bj7 {S:AS} {f:Fd} (h:¬ cn .andNot .u32 (asI f.lhs) (asI S) = 0):gc S f = S:=if_neg fun e=>h (j5.2 e)
def inU (n:Int) (f:Fd):Bool:=decide ((f.lhs ||| f.rhs) >>> n.toNat = 0)
def bj (n:Int) (l:List Fd):Int:=if n < 0 \/ 16 < n then 7 else if 64 < l.length then 3 else if l.all (inU n) = true then 0 else 1
def a9q {n:Int} {f:Fd}:(cn .or .u32 (asI f.lhs) (asI f.rhs)).fdiv (2 ^ (min n.toNat 32)) = 0 <-> inU n f = true:=by
 rw [bOr,aav,show (0:Int) = asI 0 from rfl,dj];unfold inU;rw [decide_eq_true_iff]
def oi {k:IntKind} {a b:Int} (h:a = b):CoR (bp (.raw (.int k a))) (bp (.raw (.int k b))):=by
 rw [h];exact CoR.refl _
def kj (n:Nat):AS:=(List.range n).foldl (fun s i=>s ||| ((1:AS) <<< i)) 0
def aa (n:Int):AS:=kj (min n.toNat 32)
def adn (i:Nat):kj (i + 1) = kj i ||| ((1:AS) <<< i):=by
 unfold kj;rw [bsp,bs8];rfl
def axz (i:Nat):cn .or .u32 (asI (kj i)) (IntKind.wrap .u32 (1 * 2 ^ (min i 32))) = asI (kj (i + 1)):=by
 have e:IntKind.wrap .u32 (1 * 2 ^ (min i 32)) = asI ((1:AS) <<< i):=a1s 1 i;rw [e,bOr,adn]
end
section
abbrev pU8 (a:Int):PC:=.one (.raw (.int .u8 a))
abbrev pS (s:ByteArray):PC:=.one (.raw (.string s))
abbrev vU8 (a:Int):HR:=bp (.raw (.int .u8 a))
abbrev vB (b:Bool):HR:=bp (.raw (.bool b))
abbrev vS (s:ByteArray):HR:=bp (.raw (.string s))
abbrev vP (x:PV):HR:=bp x
abbrev Lim:Nat:=68719476736
structure Val where
 kind:Int
 num:Int
 str:ByteArray
instance:Inhabited Val:=⟨⟨0,0,⟨#[]⟩⟩⟩
theorem Val.eq_iff {a b:Val}:a = b <-> a.kind = b.kind /\ a.num = b.num /\ a.str = b.str:=by cases a;cases b;simp
instance:DecidableEq Val:=fun a b=>decidable_of_iff _ (Val.eq_iff (a:=a) (b:=b)).symm
def Val.c (v:Val):Nat -> PV
 | 0=>.raw (.int .i64 v.kind)
 | 1=>.raw (.int .i64 v.num)
 | 2=>.raw (.string v.str)
 | _=>.any
abbrev vals (l:List Val):PV:=psl 3 Val.c l
abbrev Val.pc (v:Val):PC:=.agg [v.c 0,v.c 1,v.c 2]
structure Row where
 id:Int
 vals:List Val
instance:Inhabited Row:=⟨⟨0,[]⟩⟩
theorem Row.eq_iff {a b:Row}:a = b <-> a.id = b.id /\ a.vals = b.vals:=by cases a;cases b;simp
instance:DecidableEq Row:=fun a b=>decidable_of_iff _ (Row.eq_iff (a:=a) (b:=b)).symm
def Row.c (r:Row):Nat -> PV
 | 0=>.raw (.int .i64 r.id)
 | 1=>Hx.vals r.vals
 | _=>.any
abbrev rows (l:List Row):PV:=psl 2 Row.c l
abbrev Row.pc (r:Row):PC:=.agg [r.c 0,r.c 1]
def ac0 (s:ByteArray):Nat -> PV
 | 0=>.raw (.string s)
 | _=>.any
instance:Inhabited ByteArray:=⟨⟨#[]⟩⟩
abbrev a2m (l:List ByteArray):PV:=psl 1 ac0 l
def bj3 (s:UInt8):Nat -> PV
 | 0=>.raw (.int .u8 (s.toNat:Int))
 | _=>.any
abbrev u8s (l:List UInt8):PV:=psl 1 bj3 l
def b2q (l:List UInt8):Nat -> PV
 | 0=>u8s l
 | _=>.any
abbrev bnn (l:List (List UInt8)):PV:=psl 1 b2q l
structure Tbl where
 name:ByteArray
 attrs:List ByteArray
 rows:List Row
instance:Inhabited Tbl:=⟨⟨⟨#[]⟩,[],[]⟩⟩
theorem Tbl.eq_iff {a b:Tbl}:a = b <-> a.name = b.name /\ a.attrs = b.attrs /\ a.rows = b.rows:=by cases a;cases b;simp
instance:DecidableEq Tbl:=fun a b=>decidable_of_iff _ (Tbl.eq_iff (a:=a) (b:=b)).symm
def Tbl.c (t:Tbl):Nat -> PV
 | 0=>.raw (.string t.name)
 | 1=>a2m t.attrs
 | 2=>Hx.rows t.rows
 | _=>.any
abbrev bog (l:List Tbl):PV:=psl 3 Tbl.c l
abbrev Tbl.pc (t:Tbl):PC:=.agg [t.c 0,t.c 1,t.c 2]
abbrev DB:=List Tbl
abbrev bq4 (d:DB):PC:=.agg [bog d]
structure Chg where
 kind:Int
 name:ByteArray
 table:Tbl
 row:Row
 attr:Int
 value:Val
instance:Inhabited Chg:=⟨⟨0,⟨#[]⟩,default,default,0,default⟩⟩
theorem Chg.eq_iff {a b:Chg}:a = b <-> a.kind = b.kind /\ a.name = b.name /\ a.table = b.table /\ a.row = b.row /\ a.attr = b.attr /\ a.value = b.value:=by cases a;cases b;simp
instance:DecidableEq Chg:=fun a b=>decidable_of_iff _ (Chg.eq_iff (a:=a) (b:=b)).symm
def Chg.c (x:Chg):Nat -> PV
 | 0=>.raw (.int .i64 x.kind)
 | 1=>.raw (.string x.name)
 | 2=>x.table.c 0
 | 3=>x.table.c 1
 | 4=>x.table.c 2
 | 5=>x.row.c 0
 | 6=>x.row.c 1
 | 7=>.raw (.int .i64 x.attr)
 | 8=>x.value.c 0
 | 9=>x.value.c 1
 | 10=>x.value.c 2
 | _=>.any
abbrev bf3 (l:List Chg):PV:=psl 11 Chg.c l
abbrev Chg.pc (x:Chg):PC:=.agg [x.c 0,x.c 1,x.c 2,x.c 3,x.c 4,x.c 5,x.c 6,x.c 7,x.c 8,x.c 9,x.c 10]
def txC (l:List Chg):Nat -> PV
 | 0=>bf3 l
 | _=>.any
abbrev txs (l:List (List Chg)):PV:=psl 1 txC l
structure oe where
 attrs:UInt8
 gap:UInt8
 rows:List (List UInt8)
instance:Inhabited oe:=⟨⟨0,0,[]⟩⟩
def oe.c (x:oe):Nat -> PV
 | 0=>.raw (.int .u8 (x.attrs.toNat:Int))
 | 1=>.raw (.int .u8 (x.gap.toNat:Int))
 | 2=>bnn x.rows
 | _=>.any
abbrev oe.pc (x:oe):PC:=.agg [x.c 0,x.c 1,x.c 2]
structure Opn where
 kind:UInt8
 name:UInt8
 t:oe
 id:Int
 vals:List UInt8
 attr:Int
 value:UInt8
instance:Inhabited Opn:=⟨⟨0,0,default,0,[],0,0⟩⟩
def Opn.c (x:Opn):Nat -> PV
 | 0=>.raw (.int .u8 (x.kind.toNat:Int))
 | 1=>.raw (.int .u8 (x.name.toNat:Int))
 | 2=>x.t.c 0
 | 3=>x.t.c 1
 | 4=>x.t.c 2
 | 5=>.raw (.int .i64 x.id)
 | 6=>u8s x.vals
 | 7=>.raw (.int .i64 x.attr)
 | 8=>.raw (.int .u8 (x.value.toNat:Int))
 | _=>.any
abbrev Opn.pc (x:Opn):PC:=.agg [x.c 0,x.c 1,x.c 2,x.c 3,x.c 4,x.c 5,x.c 6,x.c 7,x.c 8]
abbrev bqv (l:List Opn):PV:=psl 9 Opn.c l
structure Stt where
 done:List (List Chg)
 undone:List (List Chg)
 opn:Bool
 now:List Chg
instance:Inhabited Stt:=⟨⟨[],[],false,[]⟩⟩
def Stt.c (x:Stt):Nat -> PV
 | 0=>txs x.done
 | 1=>txs x.undone
 | 2=>.raw (.bool x.opn)
 | 3=>bf3 x.now
 | _=>.any
abbrev Stt.pc (x:Stt):PC:=.agg [x.c 0,x.c 1,x.c 2,x.c 3]
def bw {α:Type} [Inhabited α] (l:List α) (i:Nat) (h:i < l.length):l.getD i default = l[i]:=by simp [List.getD,brb h]
end
section
open Go.Proofs
def anz:goodFn bw0 76:=wgx Tryz.func76
def bva {p:Prop} (h:p:=by assumption):p:=h
def aqi (l:List Fd) (s0:AS):a6 bw0 76 [pP (fdl l),pA s0] (af [pA (clo l s0)]):=by
 refine hpx (nt:=29) Tryz.func76 ?_;refine cq ?_;refine cu 0 rfl fun hlen=>?_;refine w_4 ?_;refine ah (ι:=AS) (ka 0 kn) km (fun s=>⟨[(1,some (vA s))],[]⟩) (fun s=>clo l s = clo l s0) (fun s=>4294967296 - s.toNat) (s0) (rfl) kk ?_;rintro s hs;refine qs ?_;refine br (ka 0 (ka 5 (ka 9 (ka 10 kn)))) km (fun i=>⟨[(11,some (vI i)),(1,some (vA (ep (l.take i) s)))],[]⟩) l.length kk ?_;rintro i hi;refine w_5 ?_;refine hcd (fun h0=>?_) (fun h0=>?_)
 ·
  refine w_7 ?_;refine m9 0 ?_;refine dc ?_;refine hcd (fun h1=>?_) (fun h1=>?_)
  · refine j3 ?_;exact lpx (i + 1) ⟨⟨zy,⟨_,rfl,(by rw [b07 bv9];first | (rw [bj7 bva];exact CoR.refl _) | (simp only [brn];rw [biu bva];exact CoR.refl _))⟩,tt⟩,trivial⟩
  refine w_5 ?_;exact lpx (i + 1) ⟨⟨zy,⟨_,rfl,(by rw [b07 bv9];first | (rw [bj7 bva];exact CoR.refl _) | (simp only [brn];rw [biu bva];exact CoR.refl _))⟩,tt⟩,trivial⟩
 obtain rfl:i = l.length:=by omega
 refine w_7 ?_;refine hcd (fun h2=>?_) (fun h2=>?_)
 ·
  refine w_5 ?_;refine hrr ?_
  have e2:ep l s = s:=by
   have:=dj.1 bva;rwa [bro] at this
  exact f9 rfl rfl (⟨cci (by rw [bro,e2,<- hs,au4 e2]),trivial⟩)
 refine dy ?_;refine ⟨ep l s, ?_, ?_, ?_⟩
 · show clo l (ep l s) = clo l s0
   rw [b6a];exact hs
 · have hne:¬ ep l s = s:=fun e=>absurd (congrArg asI e) (by rw [bro] at *;assumption)
   have:=xq (qr (l:=l) (s:=s)) (fun e=>hne e.symm);have:=(ep l s).isLt;show 4294967296 - (ep l s).toNat < 4294967296 - s.toNat;omega
 exact ⟨⟨⟨_,rfl,(by rw [bro];exact CoR.refl _)⟩,tt⟩,trivial⟩
def zn:goodFn bw0 69:=wgx Tryz.func69
def a3c (n:Int) (l:List Fd):a6 bw0 69 [pI n,pP (fdl l)] (af [pI (bj n l)]):=by
 refine hpx (nt:=31) Tryz.func69 ?_;refine cq ?_;refine cu 1 rfl fun hlen=>?_;refine w_9 ?_;refine aw rfl rfl (fun r0=>?_) (fun r0=>?_)
 ·
  have h0:=tz1 r0;(iterate 2 refine k9 (gtf r0) ?_);refine w_7 ?_
  exact hx8 rfl rfl rfl (⟨cci (by rw [bj,if_pos bv9]),trivial⟩)
 have h0:=tz2 r0;(iterate 2 refine qy ?_ (hg:=(gff r0)));refine w_2 ?_;refine au _ rfl (fun r1=>?_) (fun r1=>?_)
 · have h1:=tz1 (be r0 r1);refine v_4 ?_;exact ⟨cci (by rw [bj,if_pos bv9]),trivial⟩
 have h1:=tz2 (be r0 r1);refine w_8 ?_;refine hcd (fun h2=>?_) (fun h2=>?_)
 · refine v_4 ?_;exact ⟨cci (by rw [bj,if_neg bv9,if_pos bv9]),trivial⟩
 refine w_9 ?_;refine ah (ι:=Nat) (ka 0 (ka 16 (ka 17 kn))) km (fun i=>⟨[(18,some (vI i))],[]⟩) (fun i=>i <= l.length /\ ∀ j,j < i -> inU n (l.getD j default) = true) (fun i=>l.length - i) (0) (⟨bre _,fun j hj=>absurd hj (brg j)⟩) kk ?_;rintro i ⟨hi,hI⟩;refine w_5 ?_;refine hcd (fun h3=>?_) (fun h3=>?_)
 ·
  refine w_7 ?_;refine m9 0 ?_;refine kf ?_;refine hcn (fun h4=>?_) (fun h4=>?_)
  · refine v_4 ?_;exact ⟨cci (by rw [bj,if_neg bv9,if_neg bv9,if_neg (fun e=>absurd (akh (l:=l) (p:=inU n) (i:=i) bv9 (by rw [brt];exact fun e=>absurd (a9q.2 e) bva)) (by rw [e];decide))]),trivial⟩
  refine w_5 ?_;refine lpz (i + 1) kk ?_;refine ⟨by omega,fun j hj=>?_⟩
  rcases btr (buo hj) with h | h
  · exact hI j h
  subst h;exact a9q.1 bva
 obtain rfl:i = l.length:=by omega
 refine v_5 ?_;exact ⟨cci (by rw [bj,if_neg bv9,if_neg bv9,if_pos (akg fun j hj=>hI j hj)]),trivial⟩
def bf9 (n:Int):a6 bw0 81 [pI n] (af [pA (aa n)]):=by
 refine hpx (nt:=19) Tryz.func81 ?_;refine qs ?_;refine br (ka 0 kn) km (fun i=>⟨[(4,some (vI i)),(3,some (vA (kj i)))],[]⟩) (min n.toNat 32) kk ?_;rintro i hi;refine w_7 ?_;refine aw rfl rfl (fun r0=>?_) (fun r0=>?_)
 ·
  have h0:=tz1 r0;(iterate 2 refine qy ?_ (hg:=(gtt r0)));refine w_2 ?_;refine au _ rfl (fun r1=>?_) (fun r1=>?_)
  · have h1:=tz1 (ck r0 r1);refine k8 ?_;exact lpx (i + 1) ⟨⟨zy,⟨_,rfl,(by simp only [brn];exact oi (axz i))⟩,tt⟩,trivial⟩
  have h1:=tz2 (ck r0 r1);obtain rfl:i = min n.toNat 32:=by omega
  refine v_6 ?_;exact CoL.refl _
 have h0:=tz2 r0;obtain rfl:i = min n.toNat 32:=by omega
 (iterate 2 refine k9 (gft r0) ?_);refine w_9 ?_
 exact hx8 rfl rfl rfl (CoL.refl _)
end
section
def lb (i k:Nat) (hk:k < 32):((1:AS) <<< i).getLsbD k = decide (k = i):=by
 rw [BitVec.getLsbD_shiftLeft];by_cases h:k < i
 · simp [h,hk];omega
 by_cases e:k = i
 · subst e;simp [hk]
 have:0 < k - i:=by omega
 simp [hk,h,e,BitVec.getLsbD_one];omega
def l7:∀ (n k:Nat),k < 32 -> (kj n).getLsbD k = decide (k < n)
 | 0,k,hk=>by simp [kj]
 | n + 1,k,hk=>by
  rw [adn,bt5,l7 n k hk,lb n k hk];by_cases h:k < n
  · simp [h];omega
  by_cases e:k = n
  · simp [e]
  simp [h,e];omega
def b4z {s:AS} {n:Nat}:s >>> n = 0 <-> ∀ k,k < 32 -> n <= k -> s.getLsbD k = false:=by
 constructor
 · intro h k hk hn
   have:=congrArg (fun x:AS=>x.getLsbD (k - n)) h;simp only [BitVec.getLsbD_ushiftRight] at this;rw [show n + (k - n) = k by omega] at this;simpa using this
 intro h;apply bt0;intro i hi;rw [BitVec.getLsbD_ushiftRight];by_cases hk:n + i < 32
 · rw [h (n + i) hk bv9];simp
 rw [BitVec.getLsbD_of_ge _ _ bv9];simp
def yd {s:AS} {n:Nat} (hn:n <= 32):sub s (kj n) <-> s >>> n = 0:=by
 rw [aq,b4z];constructor
 · intro h k hk hle
   rw [brt];intro e;have:=h k hk e;rw [l7 n k hk,decide_eq_true_iff] at this;omega
 intro h k hk e;rw [l7 n k hk,decide_eq_true_iff];apply Nat.lt_of_not_le;intro hle;rw [h k hk hle] at e;cases e
def a95 {n:Int} (hn:0 <= n) (h16:n <= 16) {f:Fd}:inU n f = true <-> sub f.lhs (aa n) /\ sub f.rhs (aa n):=by
 unfold inU aa;rw [decide_eq_true_iff,bsh bv9,<- yd bv9];exact ⟨fun h=>⟨b6 qo h,b6 qj h⟩,fun h=>vc h.1 h.2⟩
abbrev Fd.pc (f:Fd):PC:=.agg [f.c 0,f.c 1]
def imp (l:List Fd) (f:Fd):Bool:=decide (sub f.rhs (clo l f.lhs))
end
section
open Go.Proofs
def bju (l:List Fd) (x:Fd):a6 bw0 24 [pP (fdl l),x.pc] (af [pB (imp l x)]):=by
 refine hpx (nt:=13) Tryz.func24 ?_;refine sx7 ?_;refine m9 0 ?_;refine w_9 ?_;refine qcx anz (aqi l x.lhs) ?_;refine v_5 ?_;exact ⟨ccb (decide_eq_decide.2 j5),trivial⟩
end
section
variable {α:Type}
def al [Inhabited α] {l:List α} {q:Nat} (hq:q < l.length):l.take (q + 1) = l.take q ++ [l.getD q default]:=by
 rw [List.take_add_one,brb hq];simp [List.getD,hq]
def b1r [Inhabited α] {l:List α} {q:Nat} (h0:0 < q) (hq:q <= l.length):(l.take q).getLast? = some (l.getD (q - 1) default):=by
 obtain ⟨k,rfl⟩:∃ k,q = k + 1:=⟨q - 1,by omega⟩;rw [al bv9,List.getLast?_append];simp
section
variable [DecidableEq α]
def jw:Option α -> List α -> List α
 | _,[]=>[]
 | p,x :: l=>if p = some x then jw p l else x :: jw (some x) l
def gk (l:List α):List α:=jw none l
def a3y (p:Option α) (l:List α):Option α:=match l.getLast? with | some y=>some y | none=>p
def ark (p:Option α) (y:α) (l:List α):a3y p (y :: l) = a3y (some y) l:=by
 unfold a3y
 cases l with
 | nil=>rfl
 | cons z l=>simp [List.getLast?_cons]
def a61 (x:α):∀ (l:List α) (p:Option α),jw p (l ++ [x]) = jw p l ++ (if a3y p l = some x then [] else [x])
 | [],p=>by
  unfold a3y;simp only [btg,jw,List.getLast?_nil];by_cases h:p = some x <;> simp [h]
 | y :: l,p=>by
  rw [ark];simp only [btc,jw];split
  · rename_i h
    rw [a61 x l p,h]
  rw [a61 x l (some y)];rfl
def l6 [Inhabited α] {l:List α} {q:Nat} (h0:0 < q) (hq:q < l.length):gk (l.take (q + 1)) = gk (l.take q) ++ (if l.getD (q - 1) default = l.getD q default then [] else [l.getD q default]):=by
 unfold gk;rw [al hq,a61];unfold a3y;rw [b1r h0 bv9];simp
def qd [Inhabited α] {l:List α}:∀ {k:Nat},k <= l.length -> (∀ j,0 < j -> j < k -> ¬ l.getD j default = l.getD (j - 1) default) -> gk (l.take k) = l.take k
 | 0,_,_=>rfl
 | 1,hk,_=>by
  rw [al bv9];simp [gk,jw]
 | k + 2,hk,h=>by
  rw [l6 bv9 bv9,qd bv9 (fun j h1 h2=>h j h1 bv9),if_neg (fun e=>h (k + 1) bv9 bv9 e.symm),<- al bv9]
def acm:∀ (l:List α) (p:Option α),∀ x ∈ jw p l,x ∈ l
 | [],_,x,h=>by simp [jw] at h
 | y :: l,p,x,h=>by
  simp only [jw] at h;split at h
  · exact bs1 _ (acm l p x h)
  rcases brm.1 h with rfl | h
  · exact bsj
  exact bs1 _ (acm l _ x h)
def ab0:∀ (l:List α) (p:Option α),∀ x ∈ l,p = some x \/ x ∈ jw p l
 | y :: l,p,x,h=>by
  simp only [jw];split
  · rename_i hp
    rcases brm.1 h with rfl | h
    · exact .inl hp
    exact ab0 l p x h
  rcases brm.1 h with rfl | h
  · exact .inr bsj
  rcases ab0 l (some y) x h with h | h
  · simp only [bra] at h
    subst h;exact .inr bsj
  exact .inr (bs1 _ h)
def ab1 {l:List α} {x:α}:x ∈ gk l <-> x ∈ l:=⟨acm l none x,fun h=>by
 rcases ab0 l none x h with h | h
 · cases h
 exact h⟩
end
section
variable [Inhabited α]
section
variable {l:List α}
def nb {p:Nat} {v:α} (hp:p < l.length):(l.set p v).getD p default = v:=by simp [List.getD,hp]
def getD_set_ne' {p j:Nat} {v:α} (h:j ≠ p):(l.set p v).getD j default = l.getD j default:=by
 simp only [List.getD,List.getElem?_set_ne (Ne.symm h)]
variable {c:α -> Nat -> PV}
def vn {wr wr':Bool} {n p k:Nat} {e:TypeId} {v:α} {x:PV} (hw:wr' = true -> wr = true) (hn:n = l.length) (hp:k = p) (hk:p < l.length) (hx:x = c v 0):
 CoO (.arr wr 1 e n (gu (lf c l) k 0 [x])) (.arr wr' 1 e n (lf c (l.set p v))):=by
 subst hp hx hn;refine ⟨hw,rfl,rfl,rfl,fun i j hi hj=>CoP.of_eq ?_⟩;obtain rfl:j = 0:=by omega
 unfold gu lf;by_cases h:i = k
 · subst h
   rw [if_pos ⟨rfl,by omega,by simp⟩,nb hk];rfl
 rw [if_neg bv9,getD_set_ne' h]
def p9 {wr wr':Bool} {n p k q d:Nat} {e:TypeId} {l':List α} (hw:wr' = true -> wr = true) (hn:n = l.length) (hp:k = p) (hk:p < l.length) (hd:d = q):
 CoO (.arr wr 1 e n (gu (lf c l) k 0 [lf c l' d 0])) (.arr wr' 1 e n (lf c (l.set p (l'.getD q default)))):=vn hw hn hp hk (by rw [hd];rfl)
def a98 {n m a:Nat} {cl:Bool} {l':List α} {z:List Value} {p:Option Int} {h:Option Int} (hn:dn (b5 n h) p = l'.length) (hp:p = none) (ha:l'.length <= a) (hl:l' = l.take l'.length):
 CoP (.sl (dn (b5 n h) p) 1 cl (nf (nq (lf c l) a m z) p)) (psl 1 c l'):=by
 subst hp;refine CoP.sl hn.symm (.inl rfl) (fun h=>by cases h) fun i j hi hj=>CoP.of_eq ?_;rw [hn] at hi;show nq (lf c l) a m z i j = lf c l' i j;unfold nq;rw [if_neg bv9];simp only [lf,List.getD];have e:l'[i]? = l[i]?:=by rw [hl,bsa,if_pos hi]
 rw [e]
end
end
abbrev sC:AS -> Nat -> PV:=fun s _=>asC s
structure CpI (l:List AS) (k p q:Nat) (m:List AS):Prop where
 len:m.length = l.length
 kq:k < q
 pq:p < q
 ql:q <= l.length
 pre:m.take p = gk (l.take q)
 high:∀ j,q - 1 <= j -> m.getD j default = l.getD j default
section
variable {k:Nat} {l:List AS}
theorem CpI.start (h1:1 <= k) (hk:k < l.length) (h:∀ j,0 < j -> j < k -> ¬ l.getD j default = l.getD (j - 1) default) (hd:l.getD k default = l.getD (k - 1) default):CpI l k k (k + 1) l :=
 ⟨rfl,by omega,by omega,by omega,by rw [l6 bv9 hk,if_pos hd.symm,bse,qd bv9 h],fun _ _=>rfl⟩
theorem CpI.skip {p q:Nat} {m:List AS} (h:CpI l k p q m) (hq:q < l.length) (he:m.getD q default = m.getD (q - 1) default):CpI l k p (q + 1) m:=by
 have hk:=h.kq;refine ⟨h.len,by omega,by have:=h.pq;omega,hq, ?_,fun j hj=>h.high j bv9⟩;rw [h.high q bv9,h.high (q - 1) bv9] at he;rw [l6 bv9 hq,if_pos he.symm,bse,h.pre]
theorem CpI.keep {p q:Nat} {m:List AS} (h:CpI l k p q m) (hq:q < l.length) (he:¬ m.getD q default = m.getD (q - 1) default):CpI l k (p + 1) (q + 1) (m.set p (m.getD q default)):=by
 have hk:=h.kq;have hp:=h.pq;have hl:=h.len;refine ⟨by simp [hl],by omega,by omega,hq, ?_,fun j hj=>by rw [getD_set_ne' bv9];exact h.high j bv9⟩;have e:=h.high q bv9;rw [e,h.high (q - 1) bv9] at he;rw [l6 bv9 hq,if_neg (fun e=>he e.symm),<- h.pre,al (by simp [hl];omega),nb bv9,e];congr 1;rw [List.take_set,bto bvn]
def yu {a b a' b':Nat} (h:asI (l.getD a' default) = asI (l.getD b' default)) (ha:a' = a) (hb:b' = b):l.getD a default = l.getD b default:=by subst ha hb;exact dj.1 h
def zd {a b a' b':Nat} (h:¬ asI (l.getD a' default) = asI (l.getD b' default)) (ha:a' = a) (hb:b' = b):¬ l.getD a default = l.getD b default:=by subst ha hb;exact fun e=>h (congrArg asI e)
def ase (hk:l.length <= k) (h:∀ j,0 < j -> j < k -> ¬ l.getD j default = l.getD (j - 1) default):CoP (.sl l.length 1 false (lf sC l)) (asl (gk l)):=by
 have:=qd (brd l.length) fun j h1 h2=>h j h1 bv9;rw [bro] at this;rw [this];exact CoP.refl _
def bbw {m:List AS} {p q n a d:Nat} {cl:Bool} {z:List Value} (hC:CpI l k p q m) (hq:¬ q < l.length) (ha:p <= a):CoP (.sl (dn (b5 n (some (p:Int))) none) 1 cl (nf (nq (lf sC m) a d z) none)) (asl (gk l)):=by
 have e:=hC.pre;have h1:=hC.ql;have h2:=hC.len;have h3:=hC.pq;rw [show q = l.length by omega,bro] at e;have el:(gk l).length = p:=by rw [<- e];simp;omega
 exact a98 (by rw [el];rfl) rfl bv9 (by rw [el,e])
end
end
section
open Go.Proofs
section
variable {p:Prop}
def bvb (h:p:=by (repeat' apply And.intro) <;> first | trivial | exact brf rfl):p:=h
def bvc (h:p:=by first | rfl | (dsimp only;omega)):p:=h
def bve (h:p:=by first | rfl | (dsimp only; omega)):p:=h
def bvh (h:p:=by simp only [b5]; omega):p:=h
def bvj (h:p:=by simp only [b5];omega):p:=h
def bvq (h:p:=by dsimp only; omega):p:=h
def b5w (l:List AS):cz bw0 171 [.one (.ref 900 l.length)] [(900, .arr true 1 50 l.length (lf sC l))] (.v (.one (.p (asl (gk l))))) [] []:=by
 refine hfx (nt:=61) Tryz.func171 ?_;refine cq ?_;refine a8p 900 rfl fun hlen=>?_;refine dc ?_;refine hcd (fun h0=>?_) (fun h0=>?_)
 · refine w_5 ?_;refine bn 2 rfl rfl rfl ?_;refine hrr ?_;exact ⟨_,_,rfl,bvb,ase (k:=l.length) (brd _) (fun j h1 h2=>by omega),trivial⟩
 refine w_7 ?_;refine ah (ι:=Nat) (ka 0 kn) (kb 900 km) (fun k=>⟨[(3,some (vI k))],[]⟩) (fun k=>1 <= k /\ k <= l.length /\ ∀ j,0 < j -> j < k -> ¬ l.getD j default = l.getD (j - 1) default) (fun k=>l.length - k) (1) (⟨brd _,by omega,fun j h1 h2=>by omega⟩) kk ?_;rintro k ⟨hk1,hk,hI⟩;refine w_8 ?_;refine hcd (fun h1=>?_) (fun h1=>?_)
 ·
  refine va ?_;refine hcd (fun h2=>?_) (fun h2=>?_)
  ·
   refine kf ?_;refine ah (ι:=Nat × Nat × List AS) (ka 0 (ka 4 kn)) km (fun x=>⟨[(3,some (vI x.1)),(5,some (vI ((x.2.1:Int) - k)))],[(900,some (.arr true 1 50 l.length (lf sC x.2.2)))]⟩) (fun x=>CpI l k x.1 x.2.1 x.2.2) (fun x=>l.length - x.2.1) ((k,k + 1,l)) (CpI.start hk1 bv9 hI (yu bva rfl bv9)) ⟨⟨zy,⟨_,rfl,(coi bvc)⟩,trivial⟩,uu⟩ ?_;rintro ⟨p,q,m⟩ hC;have hC0:=hC;obtain ⟨hml,hkq,hpq,hql,_,_⟩:=hC0;dsimp only at hC hml hkq hpq hql;refine w_8 ?_;refine hcd (fun h3=>?_) (fun h3=>?_)
   ·
    simp only [dn,b5,brn] at h3;refine va ?_;refine hcn (fun h4=>?_) (fun h4=>?_)
    ·
     refine a4l ?_
     first | (refine lpz (p + 1, q + 1, m.set p (m.getD q default)) ⟨⟨⟨_, rfl, (coi bve)⟩, ⟨_, rfl, (coi bve)⟩, tt⟩, ⟨⟨_, rfl, (p9 id hml.symm bv9 bvq bvh)⟩, trivial⟩⟩ ?_; exact hC.keep bv9 (zd bva bvh bvh))
           | (refine lpz (p,q + 1,m) ⟨⟨⟨_,rfl,(coi bvc)⟩,⟨_,rfl,(coi bvc)⟩,tt⟩,uu⟩ ?_;exact hC.skip bv9 (yu bva bvj bvj))
    refine w_6 ?_
    first | (refine lpz (p + 1, q + 1, m.set p (m.getD q default)) ⟨⟨⟨_, rfl, (coi bve)⟩, ⟨_, rfl, (coi bve)⟩, tt⟩, ⟨⟨_, rfl, (p9 id hml.symm bv9 bvq bvh)⟩, trivial⟩⟩ ?_; exact hC.keep bv9 (zd bva bvh bvh))
          | (refine lpz (p,q + 1,m) ⟨⟨⟨_,rfl,(coi bvc)⟩,⟨_,rfl,(coi bvc)⟩,tt⟩,uu⟩ ?_;exact hC.skip bv9 (yu bva bvj bvj))
   simp only [dn,b5,brn] at h3;refine w_6 ?_;refine r9 0 true ?_;refine w_5 ?_;refine afl rfl rfl rfl rfl rfl ?_;refine w_2 ?_;refine hrr ?_;exact ⟨_,_,rfl,bvb,bbw hC bv9 (by simp [b5]),trivial⟩
  refine w_6 ?_;refine lpz (k + 1) kk ?_;refine ⟨by omega,by show k + 1 <= _;omega,fun j h1 h2=>?_⟩
  rcases btr (buo h2) with h | h
  · exact hI j h1 h
  subst h;exact zd bva rfl bv9
 refine w_6 ?_;refine bn 2 rfl rfl rfl ?_;refine hrr ?_;exact ⟨_,_,rfl,bvb,ase (k:=k) bv9 hI,trivial⟩
end
end
section
section
variable {α:Type} [Inhabited α] {p:α -> Bool} {l:List α}
def ao5 (h:idx p l = -1):∀ j,j < l.length -> p (l.getD j default) = false:=fun j hj=>by
 cases hc:p (l.getD j default) with
 | false=>rfl
 | true =>
  exfalso;have hx:∃ x ∈ l,p x = true:=⟨l[j],brs hj,by simpa [List.getD,hj] using hc⟩;unfold idx at h
  cases hf:l.findIdx? p with
  | none =>
   rw [bur] at hf;obtain ⟨x,hx,hp⟩:=hx;rw [hf x hx] at hp;cases hp
  | some i=>rw [hf] at h;simp only at h;omega
def amq (h:¬ idx p l = -1):∃ i:Nat,idx p l = i /\ i < l.length /\ p (l.getD i default) = true /\ ∀ j,j < i -> p (l.getD j default) = false:=by
 unfold idx at h ⊢
 cases hf:l.findIdx? p with
 | none=>rw [hf] at h;exact absurd rfl h
 | some i =>
  obtain ⟨h1,h2,h3⟩:=btq.1 hf;refine ⟨i,rfl,h1,by simpa [List.getD,h1] using h2,fun j hj=>?_⟩;have:=h3 j hj;simp only [List.getD,brb (Nat.lt_trans hj h1),bsn];simpa using this
def a2v:(decide (0 <= idx p l)) = l.any p:=by
 unfold idx
 cases hf:l.findIdx? p with
 | none =>
  rw [bur] at hf
  have:l.any p = false:=by
   rw [bt1];intro x hx;rw [hf x hx];exact Bool.false_ne_true
  rw [this];rfl
 | some i =>
  obtain ⟨h1,h2,_⟩:=btq.1 hf;have:l.any p = true:=bsf.2 ⟨l[i],brs h1,h2⟩;rw [this];exact decide_eq_true (btf i)
def yi:∀ {k:Nat},k <= l.length -> (∀ j,j < k -> p (l.getD j default) = false) -> (l.take k).filter (fun x=>!p x) = l.take k
 | 0,_,_=>by simp
 | k + 1,hk,h=>by rw [al bv9,bta,yi bv9 fun j hj=>h j bv9];simp only [bti,h k bv9,Bool.not_false,if_true,buk]
structure DfI (p:α -> Bool) (l:List α) (k q:Nat) (m:List α):Prop where
 len:m.length = l.length
 kq:k < q
 ql:q <= l.length
 pre:m.take k = (l.take q).filter fun x=>!p x
 high:∀ j,q <= j -> m.getD j default = l.getD j default
theorem DfI.start {k:Nat} (hk:k < l.length) (h1:p (l.getD k default) = true) (h:∀ j,j < k -> p (l.getD j default) = false):DfI p l k (k + 1) l :=
 ⟨rfl,by omega,hk,by rw [al hk,bta,yi bv9 h];simp only [bti,h1,Bool.not_true,buk,bui,if_false,bse],fun _ _=>rfl⟩
theorem DfI.skip {k q:Nat} {m:List α} (h:DfI p l k q m) (hq:q < l.length) (hp:p (m.getD q default) = true):DfI p l k (q + 1) m:=by
 rw [h.high q (brd _)] at hp;exact ⟨h.len,by have:=h.kq;omega,hq,by rw [al hq,bta,<- h.pre];simp only [bti,hp,Bool.not_true,buk,bui,if_false,bse],fun j hj=>h.high j bv9⟩
theorem DfI.keep {k q:Nat} {m:List α} (h:DfI p l k q m) (hq:q < l.length) (hp:p (m.getD q default) = false):DfI p l (k + 1) (q + 1) (m.set k (m.getD q default)):=by
 have e:=h.high q (brd _);rw [e] at hp ⊢;have hk:=h.kq;have hl:=h.len;refine ⟨by simp [hl],by omega,hq, ?_,fun j hj=>by rw [getD_set_ne' bv9];exact h.high j bv9⟩;rw [al (by simp [hl];omega),nb bv9,al hq,bta,<- h.pre];simp only [bti,hp,Bool.not_false,if_true,buk];congr 1;rw [List.take_set,bto bvn]
end
section
variable {p:AS -> Bool} {l:List AS}
def b9f (h:∀ j,j < l.length -> p (l.getD j default) = false):CoP (.sl l.length 1 false (lf sC l)) (asl (l.filter fun x=>!p x)):=by
 have:=yi (brd l.length) h;rw [bro] at this;rw [this];exact CoP.refl _
def bc3 {m:List AS} {k q n a d:Nat} {cl:Bool} {z:List Value} (hC:DfI p l k q m) (hq:¬ q < l.length) (ha:k <= a):CoP (.sl (dn (b5 n (some (k:Int))) none) 1 cl (nf (nq (lf sC m) a d z) none)) (asl (l.filter fun x=>!p x)):=by
 have e:=hC.pre;have h1:=hC.ql;have h2:=hC.len;have h3:=hC.kq;rw [show q = l.length by omega,bro] at e;have el:(l.filter fun x=>!p x).length = k:=by rw [<- e];simp;omega
 exact a98 (by rw [el];rfl) rfl bv9 (by rw [el,e])
end
instance:DecidableEq Fd:=fun a b=>decidable_of_iff (a.lhs = b.lhs /\ a.rhs = b.rhs) Fd.eq_iff.symm
end
section
open Go.Proofs
def aps:goodFn bw0 59:=wgx Tryz.func59
def afc (n:Nat) (c:Bool) (f:Nat -> Nat -> PV) (hn:n <= 35184372088832) :
 cz bw0 59 [.one (.p (.sl n 1 c f))] [] (.v (.one (.ref 0 n))) [(0, .arr true 1 50 n f)] []:=by
 refine hfx (nt:=8) Tryz.func59 ?_;refine sx7 ?_;refine cg true rfl rfl rfl rfl rfl trivial ?_;refine cw ?_;refine a3j (ι:=Bool) (fun c=>⟨[(0,some (bp (.sl n 1 c f)))],[]⟩) (fun _=>True) ?_ fun c _=>?_
 · rcases bsx n with hz | h0
   · subst hz
     refine hw_exact' 0 rfl fun ad cap hcap=>?_;refine sx7 ?_;(iterate 2 refine cg true rfl rfl rfl rfl rfl trivial ?_);refine cw ?_;refine au ad.isNone rfl (fun hc=>?_) (fun hc=>?_)
     · refine sx7 ?_
       refine cg true rfl rfl rfl rfl rfl trivial ?_;refine cw ?_;refine df 2 0 true 1 50 f bvg rfl (CoP.sl rfl (.inr rfl) (fun h=>h) fun i j hi _=>absurd hi (brg i)) (.inr rfl) rfl ?_;refine hrr ?_;exact ⟨_,_,rfl,trivial,CoR.refl _,uu⟩
     refine dy ?_;exact ⟨false,trivial,⟨⟨_,rfl,CoP.raw_sl hcap⟩,trivial⟩,trivial⟩
   refine sx7 ?_;refine cg true rfl rfl rfl rfl rfl trivial ?_;refine cg true rfl rfl rfl rfl rfl h0 ?_;refine cw ?_;refine au false rfl (fun hc=>by cases hc) (fun hc=>?_);refine dy ?_;exact ⟨c,trivial,tt,trivial⟩
 refine sx7 ?_;refine ze 0 rfl rfl rfl rfl rfl rfl trivial ?_;refine cg true rfl rfl rfl rfl rfl trivial ?_;refine a31 0 true rfl rfl rfl rfl rfl rfl ⟨trivial,rfl,rfl,rfl, .inl rfl,by show 0 + n <= 9223372036854775807;omega,by show (0 + n) * 4 <= 140737488355328;omega,fun _=>.inl rfl⟩ ?_;refine cg true rfl rfl rfl rfl rfl trivial ?_;refine cw ?_;refine hrr ?_;refine ⟨_,_,rfl,trivial,CoR.of_eq (by show HR.v (.one (.ref 0 (0 + n))) = _;rw [bs5]),⟨⟨_,rfl, ?_⟩,trivial⟩⟩;exact ⟨fun h=>h,rfl,rfl,(bs5 n).symm,fun i j _ _=>CoP.of_eq (by simp [f8])⟩
def b80 (l:List AS) (g k:Nat) (caps:Nat -> PV) (V:AS -> Bool) (hg:goodFn bw0 g) (hV:∀ x,a6 bw0 g (pA x :: iu caps k 0) (af [pB (V x)])):a6 bw0 124 [pP (asl l),pP (.fn g k caps)] (af [pI (idx V l)]):=by
 refine hpx (nt:=19) Tryz.func124 ?_;refine cq ?_;refine cu 0 rfl fun hn=>?_;refine w_3 ?_;refine d5 (ι:=Unit) kn km (fun _i=>⟨[],[]⟩) (fun _i=>idx V l = -1) ?_ ?_
 ·
  refine w_7 ?_;refine ah (ι:=Nat) (ka 0 (ka 1 (ka 7 kn))) km (fun i=>⟨[(8,some (vI i))],[]⟩) (fun i=>i <= l.length /\ (∀ j,j < i -> V (l.getD j default) = false)) (fun i=>l.length - i) (0) (⟨bre _,c7⟩) kk ?_;rintro i ⟨hi,hI⟩;refine w_5 ?_;refine hcd (fun h0=>?_) (fun h0=>?_)
  ·
   refine k8 ?_;refine rc rfl rfl rfl rfl rfl rfl hg (hV (l.getD i default)) (CoL.refl _) rfl rfl ?_;refine cw ?_;refine hcb (fun h1=>?_) (fun h1=>?_)
   · refine v_5 ?_;exact ⟨cci (xf (i:=i) bv9 hI h1).symm,trivial⟩
   refine w_5 ?_;refine lpz (i + 1) kk ?_;exact ⟨by show i + 1 <= _;omega,bo hI (h1)⟩
  refine d7 ?_;refine ⟨(), ?_, ?_⟩
  · exact wq fun j hj=>hI j bv9
  exact ⟨trivial,trivial⟩
 rintro _ hj;refine v_4 ?_;exact ⟨cci hj.symm,trivial⟩
def acy:goodFn bw0 67:=wgx Tryz.func67
def akw (l:List AS) (g k:Nat) (caps:Nat -> PV) (V:AS -> Bool) (hg:goodFn bw0 g) (hV:∀ x,a6 bw0 g (pA x :: iu caps k 0) (af [pB (V x)])):a6 bw0 67 [pP (asl l),pP (.fn g k caps)] (af [pB (l.any V)]):=by
 refine hpx (nt:=9) Tryz.func67 ?_;refine w_8 ?_;refine qcx (wgx Tryz.func124) (b80 l g k caps V hg hV) ?_;refine v_3 ?_;exact ⟨ccb a2v,trivial⟩
def bn6 (l:List Fd) (s:Fd):a6 bw0 253 [pP (fdl l),s.pc] (af [pI (idx (fun x=>decide (x = s)) l)]):=by
 refine hpx (nt:=19) Tryz.func253 ?_;refine cq ?_;refine cu 0 rfl fun hn=>?_;refine gy ?_;refine m9 0 ?_;refine w_2 ?_;refine d5 (ι:=Unit) kn km (fun _i=>⟨[],[]⟩) (fun _i=>idx (fun x=>decide (x = s)) l = -1) ?_ ?_
 ·
  refine w_7 ?_;refine ah (ι:=Nat) (ka 0 (ka 3 (ka 7 kn))) (kb 0 km) (fun i=>⟨[(8,some (vI i))],[]⟩) (fun i=>i <= l.length /\ (∀ j,j < i -> decide (l.getD j default = s) = false)) (fun i=>l.length - i) (0) (⟨bre _,c7⟩) kk ?_;rintro i ⟨hi,hI⟩;refine w_5 ?_;refine hcd (fun h0=>?_) (fun h0=>?_)
  ·
   refine aau ?_;refine hcb (fun h1=>?_) (fun h1=>?_)
   · refine v_5 ?_;exact ⟨cci (xf (p:=fun x=>decide (x = s)) (i:=i) bv9 hI (decide_eq_true (by simp_all [Fd.eq_iff,dj]))).symm,trivial⟩
   refine w_5 ?_;refine lpz (i + 1) kk ?_;exact ⟨by show i + 1 <= _;omega,bo hI (decide_eq_false fun e=>by subst e;simp_all)⟩
  refine d7 ?_;refine ⟨(), ?_, ?_⟩
  · exact wq (p:=fun x=>decide (x = s)) fun j hj=>hI j bv9
  exact ⟨trivial,trivial⟩
 rintro _ hj;refine v_4 ?_;exact ⟨cci hj.symm,trivial⟩
def bna (l:List Fd) (s:Fd):a6 bw0 224 [pP (fdl l),s.pc] (af [pB (l.any fun x=>decide (x = s))]):=by
 refine hpx (nt:=9) Tryz.func224 ?_;refine sx7 ?_;refine m9 0 ?_;refine w_6 ?_;refine qcx (wgx Tryz.func253) (bn6 _ _) ?_;refine v_3 ?_;exact ⟨ccb a2v,trivial⟩
def bl5 (l:List AS) (g k:Nat) (caps:Nat -> PV) (V:AS -> Bool) (hg:goodFn bw0 g) (hV:∀ x,a6 bw0 g (pA x :: iu caps k 0) (af [pB (V x)])):cz bw0 73 [.one (.ref 900 l.length), .one (.p (.fn g k caps))] [(900, .arr true 1 50 l.length (lf sC l))] (.v (.one (.p (asl (l.filter fun x=>!V x))))) [] []:=by
 refine hfx (nt:=42) Tryz.func73 ?_;refine cq ?_;refine a8p 900 rfl fun hlen=>?_;refine w_7 ?_;refine qcx (wgx Tryz.func124) (b80 l g k caps V hg hV) ?_;refine w_8 ?_;refine hcd (fun h0=>?_) (fun h0=>?_)
 · refine w_5 ?_;refine bn 4 rfl rfl rfl ?_;refine hrr ?_;exact ⟨_,_,rfl,bvb,b9f (ao5 bva),trivial⟩
 obtain ⟨i0,hi0,hi1,hi2,hi3⟩:=amq h0;refine w_9 ?_;refine ah (ι:=Nat × Nat × List AS) (ka 0 (ka 1 kn)) km (fun x=>⟨[(5,some (vI x.1)),(6,some (vI x.2.1))],[(900,some (.arr true 1 50 l.length (lf sC x.2.2)))]⟩) (fun x=>DfI V l x.1 x.2.1 x.2.2) (fun x=>l.length - x.2.1) ((i0,i0 + 1,l)) (DfI.start hi1 hi2 hi3) ⟨⟨⟨_,rfl,(coi hi0)⟩,⟨_,rfl,(coi (by dsimp only;omega))⟩,trivial⟩,uu⟩ ?_;rintro x hC;have hC0:=hC;obtain ⟨hml,hkq,hql,_,_⟩:=hC0;refine w_8 ?_;refine hcd (fun h1=>?_) (fun h1=>?_)
 ·
  refine k8 ?_;refine rc rfl rfl rfl rfl rfl rfl hg (hV (x.2.2.getD (x.2.1:Int).toNat default)) (CoL.refl _) rfl rfl ?_;refine w_2 ?_;refine hcv (fun h2=>?_) (fun h2=>?_)
  ·
   have hv:=h2;refine aau ?_
   first | (refine lpz (x.1 + 1, x.2.1 + 1, x.2.2.set x.1 (x.2.2.getD x.2.1 default)) ⟨⟨⟨_, rfl, (coi bve)⟩, ⟨_, rfl, (coi bve)⟩, tt⟩, ⟨⟨_, rfl, (p9 id hml.symm bv9 bv9 bv9)⟩, trivial⟩⟩ ?_; exact hC.keep bv9 (by simpa using hv))
         | (refine lpz (x.1,x.2.1 + 1,x.2.2) ⟨⟨⟨_,rfl,(coi bvc)⟩,⟨_,rfl,(coi bvc)⟩,tt⟩,uu⟩ ?_;exact hC.skip bv9 (by simpa using hv))
  have hv:=h2;refine w_6 ?_
  first | (refine lpz (x.1 + 1, x.2.1 + 1, x.2.2.set x.1 (x.2.2.getD x.2.1 default)) ⟨⟨⟨_, rfl, (coi bve)⟩, ⟨_, rfl, (coi bve)⟩, tt⟩, ⟨⟨_, rfl, (p9 id hml.symm bv9 bv9 bv9)⟩, trivial⟩⟩ ?_; exact hC.keep bv9 (by simpa using hv))
        | (refine lpz (x.1,x.2.1 + 1,x.2.2) ⟨⟨⟨_,rfl,(coi bvc)⟩,⟨_,rfl,(coi bvc)⟩,tt⟩,uu⟩ ?_;exact hC.skip bv9 (by simpa using hv))
 have hq:=h1;refine w_6 ?_;refine r9 0 true ?_;refine w_5 ?_;refine afl rfl rfl rfl rfl rfl ?_;refine w_2 ?_;refine hrr ?_;exact ⟨_,_,rfl,bvb,bc3 hC bv9 (by simp [b5]),trivial⟩
end
section
def c8 (s:AS) (i:Int):Bool:=decide (0 <= i /\ i < 32) && s.getLsbD i.toNat
def dx {s:AS} {i:Nat} (h:i < 32):c8 s i = s.getLsbD i:=by
 unfold c8;rw [decide_eq_true bv9];simp
def akv {s:AS} {i:Int} (h0:0 <= i) (h1:i < 32):decide (cn .and .u32 ((asI s).fdiv (2 ^ (min i.toNat 32))) 1 = 1) = c8 s i:=by
 unfold c8;rw [aav,show (1:Int) = asI 1 from rfl,tn,decide_eq_true (show 0 <= i /\ i < 32 from ⟨h0,h1⟩),btn]
 have e:asI (s >>> i.toNat &&& 1) = asI 1 <-> s.getLsbD i.toNat = true:=by
  rw [dj];constructor
  · intro h
    have:=congrArg (fun x:AS=>x.getLsbD 0) h;simpa using this
  intro h;apply bt0;intro k hk;have h1:(1:AS).getLsbD k = decide (k = 0):=by have:=lb 0 k hk;simpa using this
  rw [brv,BitVec.getLsbD_ushiftRight,h1];by_cases hk0:k = 0
  · subst hk0;simp [h]
  simp [hk0]
 cases hb:s.getLsbD i.toNat with
 | true=>exact decide_eq_true (e.2 hb)
 | false=>exact decide_eq_false fun h=>by rw [e.1 h] at hb;cases hb
def xl {s:AS} {i:Int} (h:¬ (0 <= i /\ i < 32)):c8 s i = false:=by
 unfold c8;rw [decide_eq_false h];rfl
def aqz {n:Nat} (h:n <= 32):kj n = BitVec.ofNat 32 (2 ^ n - 1):=by
 apply bt0;intro k hk;rw [l7 n k hk,BitVec.getLsbD_ofNat,Nat.testBit_two_pow_sub_one];simp [hk]
def ar6 {n:Nat} (h:n <= 32):(kj n).toNat = 2 ^ n - 1:=by
 have h2:2 ^ n <= 2 ^ 32:=bsr bv9 h;have h3:0 < 2 ^ n:=Nat.two_pow_pos n;rw [aqz h,BitVec.toNat_ofNat,bv8 bv9]
section
variable {n:Int}
def fz {l:List Fd} (h:bj n l = 0):0 <= n /\ n <= 16 /\ l.length <= 64 /\ l.all (inU n) = true:=by
 unfold bj at h;split at h
 · cases h
 split at h
 · cases h
 split at h
 · rename_i h1 h2 h3
   exact ⟨by omega,by omega,by omega,h3⟩
 cases h
def qw (h0:0 <= n) (h1:n <= 16):IntKind.wrap .u32 (1 * 2 ^ (min n.toNat 32)) - 1 = asI (aa n):=by
 have h2:2 ^ n.toNat <= 2 ^ 16:=bsr bv9 bv9;have h3:0 < 2 ^ n.toNat:=Nat.two_pow_pos _;rw [show IntKind.wrap .u32 (1 * 2 ^ (min n.toNat 32)) = asI ((1:AS) <<< n.toNat) from a1s 1 n.toNat];unfold aa asI;rw [bsh bv9,ar6 bv9,BitVec.toNat_shiftLeft,Nat.shiftLeft_eq];rw [show (1:AS).toNat = 1 from rfl,Nat.one_mul,bv8 bv9];omega
def b7l {s:AS} (h0:0 <= n) (h1:n <= 16):(asI s).fdiv (2 ^ (min n.toNat 32)) = 0 <-> sub s (aa n):=by
 rw [aav,show (0:Int) = asI 0 from rfl,dj];unfold aa;rw [bsh bv9];exact (yd bv9).symm
def ua (h0:0 <= n) (h1:n <= 16):0 <= IntKind.wrap .u32 (1 * 2 ^ (min n.toNat 32)) - 1:=by rw [qw h0 h1];exact sw _
def qq (h0:0 <= n) (h1:n <= 16):IntKind.wrap .u32 (1 * 2 ^ (min n.toNat 32)) - 1 <= 4294967295:=by rw [qw h0 h1];have:=a6t (aa n);omega
def b5u {a b:List AS} (h:a.length = b.length) (hI:∀ j,j < a.length -> decide (a.getD j default = b.getD j default) = true):a = b:=o5 h fun j hj=>of_decide_eq_true (hI j hj)
def b2s {a b:List Fd} (h:a.length = b.length) (hI:∀ j,j < a.length -> decide (a.getD j default = b.getD j default) = true):a = b:=o5 h fun j hj=>of_decide_eq_true (hI j hj)
def it (n:Int) (l:List Fd) (s:AS):Bool:=decide (bj n l = 0 /\ sub s (aa n) /\ clo l s = aa n)
end
section
variable {n:Int} {l:List Fd} {s:AS}
def avv (h:¬ bj n l = 0):it n l s = false:=decide_eq_false fun e=>h e.1
def b36 (h:bj n l = 0) (h2:(asI s).fdiv (2 ^ (min n.toNat 32)) = 0):decide (asI (clo l s) = asI (aa n)) = it n l s:=by
 have hv:=fz h;have h3:=(b7l hv.1 hv.2.1).1 h2;exact decide_eq_decide.2 ⟨fun e=>⟨h,h3,dj.1 e⟩,fun e=>congrArg asI e.2.2⟩
def avn (h:bj n l = 0) (h2:¬ (asI s).fdiv (2 ^ (min n.toNat 32)) = 0):it n l s = false:=by
 have hv:=fz h;exact decide_eq_false fun e=>h2 ((b7l hv.1 hv.2.1).2 e.2.1)
end
def k6 (n:Int) (l:List Fd) (m:Int):Int:=if bj n l = 0 then (if m < n then 3 else 0) else bj n l
structure Dp where
 l:BitVec 8
 r:BitVec 8
deriving Inhabited
def Dp.c (d:Dp):Nat -> PV
 | 0=>.raw (.int .u8 (d.l.toNat:Int))
 | 1=>.raw (.int .u8 (d.r.toNat:Int))
 | _=>.any
abbrev dpl (l:List Dp):PV:=psl 2 Dp.c l
def Dp.fd (n:Int) (d:Dp):Fd:=⟨d.l.setWidth 32 &&& aa n,d.r.setWidth 32 &&& aa n⟩
def b12 (b:BitVec 8) (t:AS):cn .and .u32 (b.toNat:Int) (asI t) = asI (b.setWidth 32 &&& t):=by
 have h:=b.isLt
 have e:asI (b.setWidth 32) = (b.toNat:Int):=by
  unfold asI;rw [BitVec.toNat_setWidth,bv8 bv9]
 rw [<- tn,e]
end
end Go.Hx

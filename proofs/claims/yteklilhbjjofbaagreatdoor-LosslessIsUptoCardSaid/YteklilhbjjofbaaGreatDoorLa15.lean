/- A part of the proof: Hx23 Cs1 Cs3 Ty1 V1 Cs4 V2 Cl1 Cl2 V4 Cs5 V5 Cs2 Cs6. -/
import Derived.Lib.TrailingZeros
import Derived.Test.YteklilhbjjofbaaGreatDoorLa14
set_option linter.all false
set_option maxRecDepth 100000
set_option maxHeartbeats 1000000
namespace Go.Hx
section
open Go.RowKit
abbrev AS:=BitVec 32
abbrev asI (s:AS):Int:=(s.toNat:Int)
def asC (s:AS):PV:=.raw (.int .u32 (asI s))
def alm {n:Int} (h0:0 <= n) (h1:n < 4294967296):IntKind.wrap .u32 n = n:=x4 (by simp only [inR,ux,z6];omega)
def adg (s:AS):asI s < 4294967296:=by
 have:=s.isLt;unfold asI;omega
def ack (s:AS):0 <= asI s:=Int.natCast_nonneg _
def my (s:AS):BitVec.ofInt 32 (asI s) = s:=by
 unfold asI;rw [BitVec.ofInt_natCast,BitVec.ofNat_toNat,BitVec.setWidth_eq]
def i7 {a b:AS}:asI a = asI b <-> a = b:=by
 unfold asI;rw [Int.ofNat_inj];exact BitVec.toNat_inj
def a2a (s:AS):IntKind.wrap .u32 (s.toNat:Int) = asI s:=alm (ack s) (adg s)
def a26 (a b:AS):er .and .u32 (asI a) (asI b) = asI (a &&& b):=by
 show IntKind.wrap .u32 ((BitVec.ofInt 32 (asI a) &&& BitVec.ofInt 32 (asI b)).toNat:Int) = _;rw [my,my,a2a]
def bOr (a b:AS):er .or .u32 (asI a) (asI b) = asI (a ||| b):=by
 show IntKind.wrap .u32 ((BitVec.ofInt 32 (asI a) ||| BitVec.ofInt 32 (asI b)).toNat:Int) = _;rw [my,my,a2a]
def ai0 (a b:AS):er .andNot .u32 (asI a) (asI b) = asI (a &&& ~~~b):=by
 show IntKind.wrap .u32 ((BitVec.ofInt 32 (asI a) &&& ~~~BitVec.ofInt 32 (asI b)).toNat:Int) = _;rw [my,my,a2a]
def amu (a:AS) (n:Nat):(asI a).fdiv (2 ^ (min n 32)) = asI (a >>> n):=by
 have e:(2:Int) ^ (min n 32) = ((2 ^ (min n 32):Nat):Int):=by rw [Int.natCast_pow];rfl
 rw [e];unfold asI;rw [Int.fdiv_eq_ediv_of_nonneg _ (Int.natCast_nonneg _),<- Int.natCast_ediv,BitVec.toNat_ushiftRight,Nat.shiftRight_eq_div_pow];by_cases h:n <= 32
 · rw [b48 h]
 rw [Nat.min_eq_right b5o];have h1:=a.isLt;have h2:2 ^ 32 <= 2 ^ n:=Nat.pow_le_pow_right b5o b5o;rw [Nat.div_eq_of_lt b5o,Nat.div_eq_of_lt (b4j b5o h2)]
def avz (a:AS) (n:Nat):IntKind.wrap .u32 (asI a * 2 ^ (min n 32)) = asI (a <<< n):=by
 have e:asI a * (2:Int) ^ (min n 32) = ((a.toNat * 2 ^ (min n 32):Nat):Int):=by rw [Int.natCast_mul,Int.natCast_pow];rfl
 rw [e]
 have hw:∀ m:Nat,IntKind.wrap .u32 (m:Int) = ((m % 4294967296:Nat):Int):=by
  intro m;simp [IntKind.wrap,IntKind.signed,IntKind.bits]
 rw [hw];unfold asI;rw [BitVec.toNat_shiftLeft,Nat.shiftLeft_eq];by_cases h:n <= 32
 · rw [b48 h]
 rw [Nat.min_eq_right b5o];have h1:a.toNat * 2 ^ 32 % 2 ^ 32 = 0:=Nat.mul_mod_left _ _
 have h2:a.toNat * 2 ^ n % 2 ^ 32 = 0:=by
  obtain ⟨k,rfl⟩:∃ k,n = k + 32:=⟨n - 32,by omega⟩;rw [Nat.pow_add,<- Nat.mul_assoc];exact Nat.mul_mod_left _ _
 have h1:a.toNat * 2 ^ 32 % 4294967296 = 0:=h1;rw [h1,h2]
end
section
structure Fd where
 lhs:AS
 rhs:AS
instance:Inhabited Fd:=⟨⟨0,0⟩⟩
theorem Fd.eq_iff {a b:Fd}:a = b <-> a.lhs = b.lhs /\ a.rhs = b.rhs:=by cases a;cases b;simp
instance:DecidableEq Fd:=fun a b=>decidable_of_iff _ (Fd.eq_iff (a:=a) (b:=b)).symm
def Fd.c (x:Fd):Nat -> PV
 | 0=>asC x.lhs
 | 1=>asC x.rhs
 | _=>.any
def sub (a b:AS):Prop:=a &&& ~~~b = 0
instance:DecidablePred fun p:AS × AS=>sub p.1 p.2:=fun p=>inferInstanceAs (Decidable (_ = _))
instance {a b:AS}:Decidable (sub a b):=inferInstanceAs (Decidable (_ = _))
section
variable {a b:AS}
def da:sub a b <-> ∀ i,i < 32 -> a.getLsbD i = true -> b.getLsbD i = true:=by
 unfold sub;constructor
 · intro h i hi ha
   have:=congrArg (fun x:AS=>x.getLsbD i) h;simp only [b40,BitVec.getLsbD_not,hi,ha,decide_true,b4o] at this;simpa using this
 intro h;apply b4a;intro i hi;have:=h i hi;simp only [b40,BitVec.getLsbD_not,hi,decide_true,b4o];cases ha:a.getLsbD i <;> cases hb:b.getLsbD i <;> simp_all
def oi (a:AS):sub a a:=da.2 fun _ _ h=>h
def qe {c:AS} (h:sub a b) (k:sub b c):sub a c:=da.2 fun i hi ha=>da.1 k i hi (da.1 h i hi ha)
def a2j:sub a (a ||| b):=da.2 fun i hi ha=>by simp [ha]
def a31:sub b (a ||| b):=da.2 fun i hi ha=>by simp [ha]
def a4a {c:AS} (h:sub a c) (k:sub b c):sub (a ||| b) c:=da.2 fun i hi ha=>by
 rw [b52,b44] at ha
 rcases ha with ha | ha
 · exact da.1 h i hi ha
 exact da.1 k i hi ha
def o3 (h:sub a b) (k:sub b a):a = b:=by
 apply b4a;intro i hi;have h1:=da.1 h i hi;have h2:=da.1 k i hi;cases ha:a.getLsbD i <;> cases hb:b.getLsbD i <;> simp_all
def awf (h:sub a b):a.toNat <= b.toNat:=by
 have e:a ||| b = b:=o3 (a4a h (oi b)) a31
 have:a.toNat <= (a ||| b).toNat:=by rw [BitVec.toNat_or];exact Nat.left_le_or
 rwa [e] at this
def ta (h:sub a b) (hne:a ≠ b):a.toNat < b.toNat:=by
 rcases b55 (awf h) with h | h
 · exact h
 exact absurd (b5k h) hne
def arl:sub a b <-> a &&& b = a:=by
 rw [da];constructor
 · intro h
   apply b4a;intro i hi;have:=h i hi;rw [b40];cases ha:a.getLsbD i <;> simp_all
 intro h i hi ha;have:=congrArg (fun x:AS=>x.getLsbD i) h;simp only [b40,ha,b4o] at this;exact this
def d5 (s:AS) (f:Fd):AS:=if sub f.lhs s then s ||| f.rhs else s
def c3 (l:List Fd) (s:AS):AS:=l.foldl d5 s
variable {s:AS}
def a4v {f:Fd}:sub s (d5 s f):=by
 unfold d5;split
 · exact a2j
 exact oi s
def je:∀ {l:List Fd} {s:AS},sub s (c3 l s)
 | [],s=>oi s
 | f :: l,s=>qe a4v (je (l:=l) (s:=d5 s f))
def clF (l:List Fd):Nat -> AS -> AS
 | 0,s=>s
 | n + 1,s=>if c3 l s = s then s else clF l n (c3 l s)
def clo (l:List Fd) (s:AS):AS:=clF l 4294967296 s
variable {l:List Fd}
def aah:∀ {n m:Nat} {s:AS},4294967296 - s.toNat <= n -> 4294967296 - s.toNat <= m -> clF l n s = clF l m s
 | 0,m,s,hn,hm=>by have:=s.isLt;omega
 | n + 1,0,s,hn,hm=>by have:=s.isLt;omega
 | n + 1,m + 1,s,hn,hm=>by
  unfold clF;split
  · rfl
  rename_i hne;have:=ta (je (l:=l) (s:=s)) (fun e=>hne e.symm);exact aah b5o b5o
def ag3 (h:c3 l s = s):clo l s = s:=by
 show clF l (4294967295 + 1) s = s;unfold clF;rw [if_pos h]
def ad8:clo l (c3 l s) = clo l s:=by
 by_cases h:c3 l s = s
 · rw [h]
 have e:clo l s = clF l 4294967295 (c3 l s):=by
  show clF l (4294967295 + 1) s = _;rw [clF,if_neg h]
 rw [e];have:=ta (je (l:=l) (s:=s)) (fun e=>h e.symm);exact aah b5o b5o
def a41:∀ {n:Nat} {s:AS},4294967296 - s.toNat <= n -> c3 l (clF l n s) = clF l n s
 | 0,s,hn=>by have:=s.isLt;omega
 | n + 1,s,hn=>by
  unfold clF;split
  · assumption
  rename_i hne;have:=ta (je (l:=l) (s:=s)) (fun e=>hne e.symm);exact a41 b5o
def ahh:c3 l (clo l s) = clo l s:=a41 b5o
def akb:∀ {n:Nat} {s:AS},sub s (clF l n s)
 | 0,s=>oi s
 | n + 1,s=>by
  unfold clF;split
  · exact oi s
  exact qe je akb
def a3q:sub s (clo l s):=akb
def n7 (l:List Fd) (s:AS):Prop:=∀ f ∈ l,sub f.lhs s -> sub f.rhs s
def qr:∀ {l:List Fd} {s:AS},c3 l s = s <-> n7 l s
 | [],s=>⟨fun _ f hf=>(by cases hf),fun _=>rfl⟩
 | f :: l,s=>by
  constructor
  · intro h
    have h1:d5 s f = s:=o3 (by have:=je (l:=l) (s:=d5 s f);rw [show c3 l (d5 s f) = s from h] at this;exact this) a4v
    have h2:c3 l s = s:=by
     have:c3 l (d5 s f) = s:=h;rwa [h1] at this
    intro g hg
    rcases b33.1 hg with rfl | hg
    · intro hl
      rw [d5,if_pos hl] at h1;rw [<- h1];exact a31
    exact qr.1 h2 g hg
  intro h
  have h1:d5 s f = s:=by
   unfold d5;split
   · rename_i hl
     exact o3 (a4a (oi s) (h f (b45 ..) hl)) a2j
   rfl
  show c3 l (d5 s f) = s;rw [h1];exact qr.2 fun g hg=>h g (b43 _ hg)
def a4g:∀ {l:List Fd} {s t:AS},n7 l t -> sub s t -> sub (c3 l s) t
 | [],s,t,_,h=>h
 | f :: l,s,t,ht,h=>a4g (l:=l) (fun g hg=>ht g (b43 _ hg)) (by
  unfold d5;split
  · rename_i hl
    exact a4a h (ht f (b45 ..) (qe hl h))
  exact h)
def aez {t:AS} (ht:n7 l t):∀ {n:Nat} {s:AS},sub s t -> sub (clF l n s) t
 | 0,s,h=>h
 | n + 1,s,h=>by
  unfold clF;split
  · exact h
  exact aez ht (a4g ht h)
def a8m {t:AS} (ht:n7 l t) (h:sub s t):sub (clo l s) t:=aez ht h
def se:n7 l (clo l s):=qr.1 ahh
end
end
section
abbrev pI (a:Int):PC:=.one (.raw (.int .i64 a))
abbrev pB (b:Bool):PC:=.one (.raw (.bool b))
abbrev pP (x:PV):PC:=.one x
abbrev pA (s:AS):PC:=.one (.raw (.int .u32 (asI s)))
abbrev fdl (l:List Fd):PV:=psl 2 Fd.c l
abbrev asl (l:List AS):PV:=psl 1 (fun s _=>asC s) l
abbrev vI (a:Int):HR:=b4 (.raw (.int .i64 a))
abbrev vA (s:AS):HR:=b4 (.raw (.int .u32 (asI s)))
def a4u {l:List Fd} {s:AS} {i:Nat} (hi:i < l.length):c3 (l.take (i + 1)) s = d5 (c3 (l.take i) s) (l.getD i default):=by
 unfold c3;rw [List.take_succ,b2s hi,b4v,b2t,b2s hi];rfl
def pl {a b:AS}:er .andNot .u32 (asI a) (asI b) = 0 <-> sub a b:=by
 rw [ai0,show (0:Int) = asI 0 from rfl,i7];exact Iff.rfl
section
variable {f:Fd}
def auv {S:AS} (h:er .andNot .u32 (asI f.lhs) (asI S) = 0):er .or .u32 (asI S) (asI f.rhs) = asI (d5 S f):=by
 rw [bOr,d5,if_pos (pl.1 h)]
def au7 {S:AS} (h:¬ er .andNot .u32 (asI f.lhs) (asI S) = 0):d5 S f = S:=if_neg fun e=>h (pl.2 e)
def cl_t' {S:AS} (h:decide (sub f.lhs S) = true):er .or .u32 (asI S) (asI f.rhs) = asI (d5 S f):=by
 rw [bOr,d5,if_pos (of_decide_eq_true h)]
def cl_f' {S:AS} (h:decide (sub f.lhs S) = false):d5 S f = S:=if_neg (of_decide_eq_false h)
def inU (n:Int) (f:Fd):Bool:=decide ((f.lhs ||| f.rhs) >>> n.toNat = 0)
def c6 (n:Int) (l:List Fd):Int:=if n < 0 \/ 16 < n then 7 else if 64 < l.length then 3 else if l.all (inU n) = true then 0 else 1
def a0b {n:Int}:(er .or .u32 (asI f.lhs) (asI f.rhs)).fdiv (2 ^ (min n.toNat 32)) = 0 <-> inU n f = true:=by
 rw [bOr,amu,show (0:Int) = asI 0 from rfl,i7];unfold inU;rw [decide_eq_true_iff]
def la {k:IntKind} {a b:Int} (h:a = b):CoR (b4 (.raw (.int k a))) (b4 (.raw (.int k b))):=by
 rw [h];exact CoR.refl _
def j3 (n:Nat):AS:=(List.range n).foldl (fun s i=>s ||| ((1:AS) <<< i)) 0
def ax (n:Int):AS:=j3 (min n.toNat 32)
def a43 (i:Nat):j3 (i + 1) = j3 i ||| ((1:AS) <<< i):=by
 unfold j3;rw [b5f,b4v];rfl
def ajb (i:Nat):er .or .u32 (asI (j3 i)) (IntKind.wrap .u32 (1 * 2 ^ (min i 32))) = asI (j3 (i + 1)):=by
 have e:IntKind.wrap .u32 (1 * 2 ^ (min i 32)) = asI ((1:AS) <<< i):=avz 1 i;rw [e,bOr,a43]
end
end
section
abbrev pU8 (a:Int):PC:=.one (.raw (.int .u8 a))
abbrev pS (s:ByteArray):PC:=.one (.raw (.string s))
abbrev vU8 (a:Int):HR:=b4 (.raw (.int .u8 a))
abbrev vB (b:Bool):HR:=b4 (.raw (.bool b))
abbrev vS (s:ByteArray):HR:=b4 (.raw (.string s))
abbrev vP (x:PV):HR:=b4 x
abbrev Lim:Nat:=68719476736
structure Val where
 kind:Int
 num:Int
 str:ByteArray
instance:Inhabited Val:=⟨⟨0,0,⟨#[]⟩⟩⟩
theorem Val.eq_iff {a b:Val}:a = b <-> a.kind = b.kind /\ a.num = b.num /\ a.str = b.str:=by cases a;cases b;simp
instance:DecidableEq Val:=fun a b=>decidable_of_iff _ (Val.eq_iff (a:=a) (b:=b)).symm
def Val.c (v:Val):Nat -> PV
 | 0=>.raw (.int .i64 v.kind)
 | 1=>.raw (.int .i64 v.num)
 | 2=>.raw (.string v.str)
 | _=>.any
abbrev vals (l:List Val):PV:=psl 3 Val.c l
abbrev Val.pc (v:Val):PC:=.agg [v.c 0,v.c 1,v.c 2]
structure Row where
 id:Int
 vals:List Val
instance:Inhabited Row:=⟨⟨0,[]⟩⟩
theorem Row.eq_iff {a b:Row}:a = b <-> a.id = b.id /\ a.vals = b.vals:=by cases a;cases b;simp
instance:DecidableEq Row:=fun a b=>decidable_of_iff _ (Row.eq_iff (a:=a) (b:=b)).symm
def Row.c (r:Row):Nat -> PV
 | 0=>.raw (.int .i64 r.id)
 | 1=>Hx.vals r.vals
 | _=>.any
abbrev rows (l:List Row):PV:=psl 2 Row.c l
abbrev Row.pc (r:Row):PC:=.agg [r.c 0,r.c 1]
def a2v (s:ByteArray):Nat -> PV
 | 0=>.raw (.string s)
 | _=>.any
instance:Inhabited ByteArray:=⟨⟨#[]⟩⟩
abbrev aha (l:List ByteArray):PV:=psl 1 a2v l
def azh (s:UInt8):Nat -> PV
 | 0=>.raw (.int .u8 (s.toNat:Int))
 | _=>.any
abbrev u8s (l:List UInt8):PV:=psl 1 azh l
def az4 (l:List UInt8):Nat -> PV
 | 0=>u8s l
 | _=>.any
abbrev ayq (l:List (List UInt8)):PV:=psl 1 az4 l
structure Tbl where
 name:ByteArray
 attrs:List ByteArray
 rows:List Row
instance:Inhabited Tbl:=⟨⟨⟨#[]⟩,[],[]⟩⟩
theorem Tbl.eq_iff {a b:Tbl}:a = b <-> a.name = b.name /\ a.attrs = b.attrs /\ a.rows = b.rows:=by cases a;cases b;simp
instance:DecidableEq Tbl:=fun a b=>decidable_of_iff _ (Tbl.eq_iff (a:=a) (b:=b)).symm
def Tbl.c (t:Tbl):Nat -> PV
 | 0=>.raw (.string t.name)
 | 1=>aha t.attrs
 | 2=>Hx.rows t.rows
 | _=>.any
abbrev b08 (l:List Tbl):PV:=psl 3 Tbl.c l
abbrev Tbl.pc (t:Tbl):PC:=.agg [t.c 0,t.c 1,t.c 2]
abbrev DB:=List Tbl
abbrev b2q (d:DB):PC:=.agg [b08 d]
structure Chg where
 kind:Int
 name:ByteArray
 table:Tbl
 row:Row
 attr:Int
 value:Val
instance:Inhabited Chg:=⟨⟨0,⟨#[]⟩,default,default,0,default⟩⟩
theorem Chg.eq_iff {a b:Chg}:a = b <-> a.kind = b.kind /\ a.name = b.name /\ a.table = b.table /\ a.row = b.row /\ a.attr = b.attr /\ a.value = b.value:=by cases a;cases b;simp
instance:DecidableEq Chg:=fun a b=>decidable_of_iff _ (Chg.eq_iff (a:=a) (b:=b)).symm
def Chg.c (x:Chg):Nat -> PV
 | 0=>.raw (.int .i64 x.kind)
 | 1=>.raw (.string x.name)
 | 2=>x.table.c 0
 | 3=>x.table.c 1
 | 4=>x.table.c 2
 | 5=>x.row.c 0
 | 6=>x.row.c 1
 | 7=>.raw (.int .i64 x.attr)
 | 8=>x.value.c 0
 | 9=>x.value.c 1
 | 10=>x.value.c 2
 | _=>.any
abbrev atb (l:List Chg):PV:=psl 11 Chg.c l
abbrev Chg.pc (x:Chg):PC:=.agg [x.c 0,x.c 1,x.c 2,x.c 3,x.c 4,x.c 5,x.c 6,x.c 7,x.c 8,x.c 9,x.c 10]
def txC (l:List Chg):Nat -> PV
 | 0=>atb l
 | _=>.any
abbrev txs (l:List (List Chg)):PV:=psl 1 txC l
structure a00 where
 attrs:UInt8
 gap:UInt8
 rows:List (List UInt8)
instance:Inhabited a00:=⟨⟨0,0,[]⟩⟩
def a00.c (x:a00):Nat -> PV
 | 0=>.raw (.int .u8 (x.attrs.toNat:Int))
 | 1=>.raw (.int .u8 (x.gap.toNat:Int))
 | 2=>ayq x.rows
 | _=>.any
abbrev a00.pc (x:a00):PC:=.agg [x.c 0,x.c 1,x.c 2]
structure Opn where
 kind:UInt8
 name:UInt8
 t:a00
 id:Int
 vals:List UInt8
 attr:Int
 value:UInt8
instance:Inhabited Opn:=⟨⟨0,0,default,0,[],0,0⟩⟩
def Opn.c (x:Opn):Nat -> PV
 | 0=>.raw (.int .u8 (x.kind.toNat:Int))
 | 1=>.raw (.int .u8 (x.name.toNat:Int))
 | 2=>x.t.c 0
 | 3=>x.t.c 1
 | 4=>x.t.c 2
 | 5=>.raw (.int .i64 x.id)
 | 6=>u8s x.vals
 | 7=>.raw (.int .i64 x.attr)
 | 8=>.raw (.int .u8 (x.value.toNat:Int))
 | _=>.any
abbrev Opn.pc (x:Opn):PC:=.agg [x.c 0,x.c 1,x.c 2,x.c 3,x.c 4,x.c 5,x.c 6,x.c 7,x.c 8]
abbrev b1y (l:List Opn):PV:=psl 9 Opn.c l
structure Stt where
 done:List (List Chg)
 undone:List (List Chg)
 opn:Bool
 now:List Chg
instance:Inhabited Stt:=⟨⟨[],[],false,[]⟩⟩
def Stt.c (x:Stt):Nat -> PV
 | 0=>txs x.done
 | 1=>txs x.undone
 | 2=>.raw (.bool x.opn)
 | 3=>atb x.now
 | _=>.any
abbrev Stt.pc (x:Stt):PC:=.agg [x.c 0,x.c 1,x.c 2,x.c 3]
def l5 {α:Type} [Inhabited α] (l:List α) (i:Nat) (h:i < l.length):l.getD i default = l[i]:=by simp [List.getD,b2s h]
end
section
open Go.Proofs
def t7:goodFn b6e 81:=wgx Tryz.func81
def xb (a b:AS):a8 b6e 81 [pA a,pA b] (aa [pB (decide (sub a b))]):=by
 refine hpx (nt:=10) Tryz.func81 ?_;refine kj ?_;exact hx8 rfl rfl rfl (⟨ccb (decide_eq_decide.2 (by rw [a26,i7];exact arl.symm)),trivial⟩)
def b5p {p:Prop} (h:p:=by assumption):p:=h
def atp (l:List Fd) (s0:AS):a8 b6e 79 [pP (fdl l),pA s0] (aa [pA (clo l s0)]):=by
 refine hpx (nt:=29) Tryz.func79 ?_;refine c0 ?_;refine c5 0 rfl fun hlen=>?_;refine w_4 ?_;refine ak (ι:=AS) (ka 0 kn) km (fun s=>⟨[(1,some (vA s))],[]⟩) (fun s=>clo l s = clo l s0) (fun s=>4294967296 - s.toNat) (s0) (rfl) kk ?_;rintro s hs;refine v7 ?_;refine bw (ka 0 (ka 5 (ka 9 (ka 10 kn)))) km (fun i=>⟨[(11,some (vI i)),(1,some (vA (c3 (l.take i) s)))],[]⟩) l.length kk ?_;rintro i hi;refine w_5 ?_;refine hcd (fun h0=>?_) (fun h0=>?_)
 ·
  refine w_7 ?_;refine m9 0 ?_;refine dh ?_;refine hcd (fun h1=>?_) (fun h1=>?_)
  · refine dq ?_;exact lpx (i + 1) ⟨⟨zy,⟨_,rfl,(by rw [a4u b5o];first | (rw [au7 b5p];exact CoR.refl _) | (simp only [b34];rw [auv b5p];exact CoR.refl _))⟩,tt⟩,trivial⟩
  refine w_5 ?_;exact lpx (i + 1) ⟨⟨zy,⟨_,rfl,(by rw [a4u b5o];first | (rw [au7 b5p];exact CoR.refl _) | (simp only [b34];rw [auv b5p];exact CoR.refl _))⟩,tt⟩,trivial⟩
 obtain rfl:i = l.length:=by omega
 refine w_7 ?_;refine hcd (fun h2=>?_) (fun h2=>?_)
 ·
  refine w_5 ?_;refine hrr ?_
  have e2:c3 l s = s:=by
   have:=i7.1 b5p;rwa [b37] at this
  exact f9 rfl rfl (⟨cci (by rw [b37,e2,<- hs,ag3 e2]),trivial⟩)
 refine c4 ?_;refine ⟨c3 l s, ?_, ?_, ?_⟩
 · show clo l (c3 l s) = clo l s0
   rw [ad8];exact hs
 · have hne:¬ c3 l s = s:=fun e=>absurd (congrArg asI e) (by rw [b37] at *;assumption)
   have:=ta (je (l:=l) (s:=s)) (fun e=>hne e.symm);have:=(c3 l s).isLt;show 4294967296 - (c3 l s).toNat < 4294967296 - s.toNat;omega
 exact ⟨⟨⟨_,rfl,(by rw [b37];exact CoR.refl _)⟩,tt⟩,trivial⟩
def aqf (l:List Fd) (s0:AS):a8 b6e 80 [pP (fdl l),pA s0] (aa [pA (clo l s0)]):=by
 refine hpx (nt:=32) Tryz.func80 ?_;refine c0 ?_;refine c5 0 rfl fun hlen=>?_;refine w_4 ?_;refine ak (ι:=AS) (ka 0 kn) km (fun s=>⟨[(1,some (vA s))],[]⟩) (fun s=>clo l s = clo l s0) (fun s=>4294967296 - s.toNat) (s0) (rfl) kk ?_;rintro s hs;refine jh ?_;refine bw (ka 0 (ka 5 kn)) km (fun i=>⟨[(6,some (vI i)),(1,some (vA (c3 (l.take i) s)))],[]⟩) l.length kk ?_;rintro i hi;refine w_8 ?_;refine hcd (fun h0=>?_) (fun h0=>?_)
 ·
  refine dq ?_;refine qcx t7 (xb (l.getD i default).lhs (c3 (l.take i) s)) ?_;refine bm ?_;refine hcb (fun h1=>?_) (fun h1=>?_)
  · refine kw ?_;exact lpx (i + 1) ⟨⟨zy,⟨_,rfl,(by rw [a4u b5o];first | (rw [cl_f' b5p];exact CoR.refl _) | (simp only [b34];rw [cl_t' b5p];exact CoR.refl _))⟩,tt⟩,trivial⟩
  refine w_6 ?_;exact lpx (i + 1) ⟨⟨zy,⟨_,rfl,(by rw [a4u b5o];first | (rw [cl_f' b5p];exact CoR.refl _) | (simp only [b34];rw [cl_t' b5p];exact CoR.refl _))⟩,tt⟩,trivial⟩
 obtain rfl:i = l.length:=by omega
 refine w_7 ?_;refine hcd (fun h2=>?_) (fun h2=>?_)
 ·
  refine w_5 ?_;refine hrr ?_
  have e2:c3 l s = s:=by
   have:=i7.1 b5p;rwa [b37] at this
  exact f9 rfl rfl (⟨cci (by rw [b37,e2,<- hs,ag3 e2]),trivial⟩)
 refine c4 ?_;refine ⟨c3 l s, ?_, ?_, ?_⟩
 · show clo l (c3 l s) = clo l s0
   rw [ad8];exact hs
 · have hne:¬ c3 l s = s:=fun e=>absurd (congrArg asI e) (by rw [b37] at *;assumption)
   have:=ta (je (l:=l) (s:=s)) (fun e=>hne e.symm);have:=(c3 l s).isLt;show 4294967296 - (c3 l s).toNat < 4294967296 - s.toNat;omega
 exact ⟨⟨⟨_,rfl,(by rw [b37];exact CoR.refl _)⟩,tt⟩,trivial⟩
def ajn (n:Int) (l:List Fd):a8 b6e 78 [pI n,pP (fdl l)] (aa [pI (c6 n l)]):=by
 refine hpx (nt:=31) Tryz.func78 ?_;refine c0 ?_;refine c5 1 rfl fun hlen=>?_;refine w_9 ?_;refine ag rfl rfl (fun r0=>?_) (fun r0=>?_)
 ·
  have h0:=tz1 r0;(iterate 2 refine k9 (gtf r0) ?_);refine w_7 ?_
  exact hx8 rfl rfl rfl (⟨cci (by rw [c6,if_pos b5o]),trivial⟩)
 have h0:=tz2 r0;(iterate 2 refine qy ?_ (hg:=(gff r0)));refine w_2 ?_;refine ai _ rfl (fun r1=>?_) (fun r1=>?_)
 · have h1:=tz1 (af r0 r1);refine v_4 ?_;exact ⟨cci (by rw [c6,if_pos b5o]),trivial⟩
 have h1:=tz2 (af r0 r1);refine w_8 ?_;refine hcd (fun h2=>?_) (fun h2=>?_)
 · refine v_4 ?_;exact ⟨cci (by rw [c6,if_neg b5o,if_pos b5o]),trivial⟩
 refine w_9 ?_;refine ak (ι:=Nat) (ka 0 (ka 16 (ka 17 kn))) km (fun i=>⟨[(18,some (vI i))],[]⟩) (fun i=>i <= l.length /\ ∀ j,j < i -> inU n (l.getD j default) = true) (fun i=>l.length - i) (0) (⟨b2z _,fun j hj=>absurd hj (b2y j)⟩) kk ?_;rintro i ⟨hi,hI⟩;refine w_5 ?_;refine hcd (fun h3=>?_) (fun h3=>?_)
 ·
  refine w_7 ?_;refine m9 0 ?_;refine kj ?_;refine hcn (fun h4=>?_) (fun h4=>?_)
  · refine v_4 ?_;exact ⟨cci (by rw [c6,if_neg b5o,if_neg b5o,if_neg (fun e=>absurd (a5g (l:=l) (p:=inU n) (i:=i) b5o (by rw [b31];exact fun e=>absurd (a0b.2 e) b5p)) (by rw [e];decide))]),trivial⟩
  refine w_5 ?_;refine lpz (i + 1) kk ?_;refine ⟨by omega,fun j hj=>?_⟩
  rcases b55 (b5j hj) with h | h
  · exact hI j h
  subst h;exact a0b.1 b5p
 obtain rfl:i = l.length:=by omega
 refine v_5 ?_;exact ⟨cci (by rw [c6,if_neg b5o,if_neg b5o,if_pos (a95 fun j hj=>hI j hj)]),trivial⟩
def lr:goodFn b6e 36:=wgx Tryz.func36
def lv (n:Int):a8 b6e 36 [pI n] (aa [pA (ax n)]):=by
 refine hpx (nt:=19) Tryz.func36 ?_;refine v7 ?_;refine bw (ka 0 kn) km (fun i=>⟨[(4,some (vI i)),(3,some (vA (j3 i)))],[]⟩) (min n.toNat 32) kk ?_;rintro i hi;refine w_7 ?_;refine ag rfl rfl (fun r0=>?_) (fun r0=>?_)
 ·
  have h0:=tz1 r0;(iterate 2 refine qy ?_ (hg:=(gtt r0)));refine w_2 ?_;refine ai _ rfl (fun r1=>?_) (fun r1=>?_)
  · have h1:=tz1 (ci r0 r1);refine kw ?_;exact lpx (i + 1) ⟨⟨zy,⟨_,rfl,(by simp only [b34];exact la (ajb i))⟩,tt⟩,trivial⟩
  have h1:=tz2 (ci r0 r1);obtain rfl:i = min n.toNat 32:=by omega
  refine v_6 ?_;exact CoL.refl _
 have h0:=tz2 r0;obtain rfl:i = min n.toNat 32:=by omega
 (iterate 2 refine k9 (gft r0) ?_);refine w_9 ?_
 exact hx8 rfl rfl rfl (CoL.refl _)
end
section
def a0k (i k:Nat) (hk:k < 32):((1:AS) <<< i).getLsbD k = decide (k = i):=by
 rw [BitVec.getLsbD_shiftLeft];by_cases h:k < i
 · simp [h,hk];omega
 by_cases e:k = i
 · subst e;simp [hk]
 have:0 < k - i:=by omega
 simp [hk,h,e,BitVec.getLsbD_one];omega
def kf:∀ (n k:Nat),k < 32 -> (j3 n).getLsbD k = decide (k < n)
 | 0,k,hk=>by simp [j3]
 | n + 1,k,hk=>by
  rw [a43,b52,kf n k hk,a0k n k hk];by_cases h:k < n
  · simp [h];omega
  by_cases e:k = n
  · simp [e]
  simp [h,e];omega
def at1 {s:AS} {n:Nat}:s >>> n = 0 <-> ∀ k,k < 32 -> n <= k -> s.getLsbD k = false:=by
 constructor
 · intro h k hk hn
   have:=congrArg (fun x:AS=>x.getLsbD (k - n)) h;simp only [BitVec.getLsbD_ushiftRight] at this;rw [show n + (k - n) = k by omega] at this;simpa using this
 intro h;apply b4a;intro i hi;rw [BitVec.getLsbD_ushiftRight];by_cases hk:n + i < 32
 · rw [h (n + i) hk b5o];simp
 rw [BitVec.getLsbD_of_ge _ _ b5o];simp
def xa {s:AS} {n:Nat} (hn:n <= 32):sub s (j3 n) <-> s >>> n = 0:=by
 rw [da,at1];constructor
 · intro h k hk hle
   rw [b31];intro e;have:=h k hk e;rw [kf n k hk,decide_eq_true_iff] at this;omega
 intro h k hk e;rw [kf n k hk,decide_eq_true_iff];apply Nat.lt_of_not_le;intro hle;rw [h k hk hle] at e;cases e
def ng {n:Int} (hn:0 <= n) (h16:n <= 16) {f:Fd}:inU n f = true <-> sub f.lhs (ax n) /\ sub f.rhs (ax n):=by
 unfold inU ax;rw [decide_eq_true_iff,b48 b5o,<- xa b5o];exact ⟨fun h=>⟨qe a2j h,qe a31 h⟩,fun h=>a4a h.1 h.2⟩
abbrev Fd.pc (f:Fd):PC:=.agg [f.c 0,f.c 1]
def imp (l:List Fd) (f:Fd):Bool:=decide (sub f.rhs (clo l f.lhs))
end
section
open Go.Proofs
def afk (n:Int) (l:List Fd):a8 b6e 56 [pI n,pP (fdl l)] (aa [pI (c6 n l)]):=by
 refine hpx (nt:=42) Tryz.func56 ?_;refine c0 ?_;refine c5 1 rfl fun hlen=>?_;refine w_9 ?_;refine ag rfl rfl (fun r0=>?_) (fun r0=>?_)
 ·
  have h0:=tz1 r0;(iterate 2 refine k9 (gtf r0) ?_);refine w_7 ?_
  exact hx8 rfl rfl rfl (⟨cci (by rw [c6,if_pos b5o]),trivial⟩)
 have h0:=tz2 r0;(iterate 2 refine qy ?_ (hg:=(gff r0)));refine w_2 ?_;refine ai _ rfl (fun r1=>?_) (fun r1=>?_)
 · have h1:=tz1 (af r0 r1);refine v_4 ?_;exact ⟨cci (by rw [c6,if_pos b5o]),trivial⟩
 have h1:=tz2 (af r0 r1);refine w_8 ?_;refine hcd (fun h2=>?_) (fun h2=>?_)
 · refine v_4 ?_;exact ⟨cci (by rw [c6,if_neg b5o,if_pos b5o]),trivial⟩
 refine w_4 ?_;refine qcx lr (lv n) ?_;refine w_8 ?_;refine ak (ι:=Nat) (ka 1 (ka 5 kn)) km (fun i=>⟨[(6,some (vI i))],[]⟩) (fun i=>i <= l.length /\ ∀ j,j < i -> inU n (l.getD j default) = true) (fun i=>l.length - i) (0) (⟨b2z _,fun j hj=>absurd hj (b2y j)⟩) kk ?_;rintro i ⟨hi,hI⟩;refine w_8 ?_;refine hcd (fun h3=>?_) (fun h3=>?_)
 ·
  refine dq ?_;refine qcx t7 (xb _ _) ?_;refine w_2 ?_;refine ag rfl rfl (fun r4=>?_) (fun r4=>?_)
  ·
   have h4:=cz r4;(iterate 8 refine k9 (gtf r4) ?_);refine w_7 ?_
   exact hx8 rfl rfl rfl (⟨cci (by rw [c6,if_neg b5o,if_neg b5o,if_neg (fun e=>absurd (a5g (l:=l) (p:=inU n) (i:=i) b5o (by rw [b31];intro e2;rw [ng b5o b5o] at e2;simp_all)) (by rw [e];decide))]),trivial⟩)
  have h4:=cu r4;(iterate 6 refine qy ?_ (hg:=(gff r4)));refine qcx t7 (xb _ _) ?_ (hg:=(gff r4));refine qy ?_ (hg:=(gff r4));refine w_2 ?_;refine ai _ rfl (fun r5=>?_) (fun r5=>?_)
  · have h5:=cz (af r4 r5);refine v_4 ?_;exact ⟨cci (by rw [c6,if_neg b5o,if_neg b5o,if_neg (fun e=>absurd (a5g (l:=l) (p:=inU n) (i:=i) b5o (by rw [b31];intro e2;rw [ng b5o b5o] at e2;simp_all)) (by rw [e];decide))]),trivial⟩
  have h5:=cu (af r4 r5);refine w_6 ?_;refine lpz (i + 1) kk ?_;refine ⟨by omega,fun j hj=>?_⟩
  rcases b55 (b5j hj) with h | h
  · exact hI j h
  subst h;exact (ng b5o b5o).2 b5w
 obtain rfl:i = l.length:=by omega
 refine v_5 ?_;exact ⟨cci (by rw [c6,if_neg b5o,if_neg b5o,if_pos (a95 fun j hj=>hI j hj)]),trivial⟩
end
section
variable {α:Type}
def bq [Inhabited α] {l:List α} {q:Nat} (hq:q < l.length):l.take (q + 1) = l.take q ++ [l.getD q default]:=by
 rw [List.take_add_one,b2s hq];simp [List.getD,hq]
def ajc [Inhabited α] {l:List α} {q:Nat} (h0:0 < q) (hq:q <= l.length):(l.take q).getLast? = some (l.getD (q - 1) default):=by
 obtain ⟨k,rfl⟩:∃ k,q = k + 1:=⟨q - 1,by omega⟩;rw [bq b5o,List.getLast?_append];simp
section
variable [DecidableEq α]
def io:Option α -> List α -> List α
 | _,[]=>[]
 | p,x :: l=>if p = some x then io p l else x :: io (some x) l
def j7 (l:List α):List α:=io none l
def wv (p:Option α) (l:List α):Option α:=match l.getLast? with | some y=>some y | none=>p
def ae3 (p:Option α) (y:α) (l:List α):wv p (y :: l) = wv (some y) l:=by
 unfold wv
 cases l with
 | nil=>rfl
 | cons z l=>simp [List.getLast?_cons]
def a06 (x:α):∀ (l:List α) (p:Option α),io p (l ++ [x]) = io p l ++ (if wv p l = some x then [] else [x])
 | [],p=>by
  unfold wv;simp only [List.nil_append,io,List.getLast?_nil];by_cases h:p = some x <;> simp [h]
 | y :: l,p=>by
  rw [ae3];simp only [b4x,io];split
  · rename_i h
    rw [a06 x l p,h]
  rw [a06 x l (some y)];rfl
def gm [Inhabited α] {l:List α} {q:Nat} (h0:0 < q) (hq:q < l.length):j7 (l.take (q + 1)) = j7 (l.take q) ++ (if l.getD (q - 1) default = l.getD q default then [] else [l.getD q default]):=by
 unfold j7;rw [bq hq,a06];unfold wv;rw [ajc h0 b5o];simp
def oo [Inhabited α] {l:List α}:∀ {k:Nat},k <= l.length -> (∀ j,0 < j -> j < k -> ¬ l.getD j default = l.getD (j - 1) default) -> j7 (l.take k) = l.take k
 | 0,_,_=>rfl
 | 1,hk,_=>by
  rw [bq b5o];simp [j7,io]
 | k + 2,hk,h=>by
  rw [gm b5o b5o,oo b5o (fun j h1 h2=>h j h1 b5o),if_neg (fun e=>h (k + 1) b5o b5o e.symm),<- bq b5o]
def a2l:∀ (l:List α) (p:Option α),∀ x ∈ io p l,x ∈ l
 | [],_,x,h=>by simp [io] at h
 | y :: l,p,x,h=>by
  simp only [io] at h;split at h
  · exact b43 _ (a2l l p x h)
  rcases b33.1 h with rfl | h
  · exact b45
  exact b43 _ (a2l l _ x h)
def a3c:∀ (l:List α) (p:Option α),∀ x ∈ l,p = some x \/ x ∈ io p l
 | y :: l,p,x,h=>by
  simp only [io];split
  · rename_i hp
    rcases b33.1 h with rfl | h
    · exact .inl hp
    exact a3c l p x h
  rcases b33.1 h with rfl | h
  · exact .inr b45
  rcases a3c l (some y) x h with h | h
  · simp only [b2r] at h
    subst h;exact .inr b45
  exact .inr (b43 _ h)
def a9u {l:List α} {x:α}:x ∈ j7 l <-> x ∈ l:=⟨a2l l none x,fun h=>by
 rcases a3c l none x h with h | h
 · cases h
 exact h⟩
end
section
variable [Inhabited α]
section
variable {l:List α}
def ip {p:Nat} {v:α} (hp:p < l.length):(l.set p v).getD p default = v:=by simp [List.getD,hp]
def getD_set_ne' {p j:Nat} {v:α} (h:j ≠ p):(l.set p v).getD j default = l.getD j default:=by
 simp only [List.getD,List.getElem?_set_ne (Ne.symm h)]
variable {c:α -> Nat -> PV}
def a5q {wr wr':Bool} {n p k:Nat} {e:TypeId} {v:α} {x:PV} (hw:wr' = true -> wr = true) (hn:n = l.length) (hp:k = p) (hk:p < l.length) (hx:x = c v 0):
 CoO (.arr wr 1 e n (dx (lf c l) k 0 [x])) (.arr wr' 1 e n (lf c (l.set p v))):=by
 subst hp hx hn;refine ⟨hw,rfl,rfl,rfl,fun i j hi hj=>CoP.of_eq ?_⟩;obtain rfl:j = 0:=by omega
 unfold dx lf;by_cases h:i = k
 · subst h
   rw [if_pos ⟨rfl,by omega,by simp⟩,ip hk];rfl
 rw [if_neg b5o,getD_set_ne' h]
def aet {wr wr':Bool} {n p k q d:Nat} {e:TypeId} {l':List α} (hw:wr' = true -> wr = true) (hn:n = l.length) (hp:k = p) (hk:p < l.length) (hd:d = q):
 CoO (.arr wr 1 e n (dx (lf c l) k 0 [lf c l' d 0])) (.arr wr' 1 e n (lf c (l.set p (l'.getD q default)))):=a5q hw hn hp hk (by rw [hd];rfl)
def asx {n m a:Nat} {cl:Bool} {l':List α} {z:List Value} {p:Option Int} {h:Option Int} (hn:fy (bh n h) p = l'.length) (hp:p = none) (ha:l'.length <= a) (hl:l' = l.take l'.length):
 CoP (.sl (fy (bh n h) p) 1 cl (np (nv (lf c l) a m z) p)) (psl 1 c l'):=by
 subst hp;refine CoP.sl hn.symm (.inl rfl) (fun h=>by cases h) fun i j hi hj=>CoP.of_eq ?_;rw [hn] at hi;show nv (lf c l) a m z i j = lf c l' i j;unfold nv;rw [if_neg b5o];simp only [lf,List.getD];have e:l'[i]? = l[i]?:=by rw [hl,b3o,if_pos hi]
 rw [e]
end
end
abbrev sC:AS -> Nat -> PV:=fun s _=>asC s
structure CpI (l:List AS) (k p q:Nat) (m:List AS):Prop where
 len:m.length = l.length
 kq:k < q
 pq:p < q
 ql:q <= l.length
 pre:m.take p = j7 (l.take q)
 high:∀ j,q - 1 <= j -> m.getD j default = l.getD j default
theorem CpI.start {l:List AS} {k:Nat} (h1:1 <= k) (hk:k < l.length) (h:∀ j,0 < j -> j < k -> ¬ l.getD j default = l.getD (j - 1) default) (hd:l.getD k default = l.getD (k - 1) default):CpI l k k (k + 1) l :=
 ⟨rfl,by omega,by omega,by omega,by rw [gm b5o hk,if_pos hd.symm,b41,oo b5o h],fun _ _=>rfl⟩
theorem CpI.skip {l:List AS} {k p q:Nat} {m:List AS} (h:CpI l k p q m) (hq:q < l.length) (he:m.getD q default = m.getD (q - 1) default):CpI l k p (q + 1) m:=by
 have hk:=h.kq;refine ⟨h.len,by omega,by have:=h.pq;omega,hq, ?_,fun j hj=>h.high j b5o⟩;rw [h.high q b5o,h.high (q - 1) b5o] at he;rw [gm b5o hq,if_pos he.symm,b41,h.pre]
theorem CpI.keep {l:List AS} {k p q:Nat} {m:List AS} (h:CpI l k p q m) (hq:q < l.length) (he:¬ m.getD q default = m.getD (q - 1) default):CpI l k (p + 1) (q + 1) (m.set p (m.getD q default)):=by
 have hk:=h.kq;have hp:=h.pq;have hl:=h.len;refine ⟨by simp [hl],by omega,by omega,hq, ?_,fun j hj=>by rw [getD_set_ne' b5o];exact h.high j b5o⟩;have e:=h.high q b5o;rw [e,h.high (q - 1) b5o] at he;rw [gm b5o hq,if_neg (fun e=>he e.symm),<- h.pre,bq (by simp [hl];omega),ip b5o,e];congr 1;rw [List.take_set,b5b b61]
end
section
section
variable {α:Type} [Inhabited α] {p:α -> Bool} {l:List α}
def ab4:(decide (0 <= idx p l)) = l.any p:=by
 unfold idx
 cases hf:l.findIdx? p with
 | none =>
  rw [List.findIdx?_eq_none_iff] at hf
  have:l.any p = false:=by
   rw [b47];intro x hx;rw [hf x hx];exact Bool.false_ne_true
  rw [this];rfl
 | some i =>
  obtain ⟨h1,h2,_⟩:=b4w.1 hf;have:l.any p = true:=b3z.2 ⟨l[i],b38 h1,h2⟩;rw [this];exact decide_eq_true (Int.natCast_nonneg i)
def a52:∀ {k:Nat},k <= l.length -> (∀ j,j < k -> p (l.getD j default) = false) -> (l.take k).filter (fun x=>!p x) = l.take k
 | 0,_,_=>by simp
 | k + 1,hk,h=>by rw [bq b5o,b56,a52 b5o fun j hj=>h j b5o];simp only [b4y,h k b5o,Bool.not_false,if_true,List.filter_nil]
structure DfI (p:α -> Bool) (l:List α) (k q:Nat) (m:List α):Prop where
 len:m.length = l.length
 kq:k < q
 ql:q <= l.length
 pre:m.take k = (l.take q).filter fun x=>!p x
 high:∀ j,q <= j -> m.getD j default = l.getD j default
theorem DfI.start {k:Nat} (hk:k < l.length) (h1:p (l.getD k default) = true) (h:∀ j,j < k -> p (l.getD j default) = false):DfI p l k (k + 1) l :=
 ⟨rfl,by omega,hk,by rw [bq hk,b56,a52 b5o h];simp only [b4y,h1,Bool.not_true,List.filter_nil,b5e,if_false,b41],fun _ _=>rfl⟩
theorem DfI.skip {k q:Nat} {m:List α} (h:DfI p l k q m) (hq:q < l.length) (hp:p (m.getD q default) = true):DfI p l k (q + 1) m:=by
 rw [h.high q (b2x _)] at hp;exact ⟨h.len,by have:=h.kq;omega,hq,by rw [bq hq,b56,<- h.pre];simp only [b4y,hp,Bool.not_true,List.filter_nil,b5e,if_false,b41],fun j hj=>h.high j b5o⟩
theorem DfI.keep {k q:Nat} {m:List α} (h:DfI p l k q m) (hq:q < l.length) (hp:p (m.getD q default) = false):DfI p l (k + 1) (q + 1) (m.set k (m.getD q default)):=by
 have e:=h.high q (b2x _);rw [e] at hp ⊢;have hk:=h.kq;have hl:=h.len;refine ⟨by simp [hl],by omega,hq, ?_,fun j hj=>by rw [getD_set_ne' b5o];exact h.high j b5o⟩;rw [bq (by simp [hl];omega),ip b5o,bq hq,b56,<- h.pre];simp only [b4y,hp,Bool.not_false,if_true,List.filter_nil];congr 1;rw [List.take_set,b5b b61]
end
section
variable {p:AS -> Bool} {l:List AS}
end
instance:DecidableEq Fd:=fun a b=>decidable_of_iff (a.lhs = b.lhs /\ a.rhs = b.rhs) Fd.eq_iff.symm
end
section
open Go.Proofs
def abd:goodFn b6e 13:=⟨Tryz.f13,Tryz.func13,by kernel_rfl,by kernel_rfl⟩
def aq0 (n:Nat) (c:Bool) (f:Nat -> Nat -> PV) (hn:n <= 35184372088832) :
 c8 b6e 13 [.one (.p (.sl n 1 c f))] [] (.v (.one (.ref 0 n))) [(0, .arr true 1 28 n f)] []:=by
 refine hfx (nt:=8) Tryz.func13 ?_;refine sx7 ?_;refine av true rfl rfl rfl rfl rfl trivial ?_;refine bm ?_;refine p7 (ι:=Bool) (fun c=>⟨[(0,some (b4 (.sl n 1 c f)))],[]⟩) (fun _=>True) ?_ fun c _=>?_
 · rcases b3y n with hz | h0
   · subst hz
     refine hw_exact' 0 rfl fun ad cap hcap=>?_;refine sx7 ?_;(iterate 2 refine av true rfl rfl rfl rfl rfl trivial ?_);refine bm ?_;refine ai ad.isNone rfl (fun hc=>?_) (fun hc=>?_)
     · refine sx7 ?_
       refine av true rfl rfl rfl rfl rfl trivial ?_;refine bm ?_;refine dn 2 0 true 1 28 f b5t rfl (CoP.sl rfl (.inr rfl) (fun h=>h) fun i j hi _=>absurd hi (b2y i)) (.inr rfl) rfl ?_;refine hrr ?_;exact ⟨_,_,rfl,trivial,CoR.refl _,uu⟩
     refine c4 ?_;exact ⟨false,trivial,⟨⟨_,rfl,CoP.raw_sl hcap⟩,trivial⟩,trivial⟩
   refine sx7 ?_;refine av true rfl rfl rfl rfl rfl trivial ?_;refine av true rfl rfl rfl rfl rfl h0 ?_;refine bm ?_;refine ai false rfl (fun hc=>by cases hc) (fun hc=>?_);refine c4 ?_;exact ⟨c,trivial,tt,trivial⟩
 refine sx7 ?_;refine ne 0 rfl rfl rfl rfl rfl rfl trivial ?_;refine av true rfl rfl rfl rfl rfl trivial ?_;refine qa 0 true rfl rfl rfl rfl rfl rfl ⟨trivial,rfl,rfl,rfl, .inl rfl,by show 0 + n <= 9223372036854775807;omega,by show (0 + n) * 4 <= 140737488355328;omega,fun _=>.inl rfl⟩ ?_;refine av true rfl rfl rfl rfl rfl trivial ?_;refine bm ?_;refine hrr ?_;refine ⟨_,_,rfl,trivial,CoR.of_eq (by show HR.v (.one (.ref 0 (0 + n))) = _;rw [b3b]),⟨⟨_,rfl, ?_⟩,trivial⟩⟩;exact ⟨fun h=>h,rfl,rfl,(b3b n).symm,fun i j _ _=>CoP.of_eq (by simp [cq])⟩
def a3o (n:Nat) (c:Bool) (f:Nat -> Nat -> PV) (hn:n <= 35184372088832):a8 b6e 13 [.one (.sl n 1 c f)] (.v (.one (.sl n 1 false f))) :=
 c8.pure (args:=[.one (.sl n 1 c f)]) (l:=[.one (.ref 0 n)]) (aq0 n c f hn) rfl ⟨rfl,trivial⟩
end
section
def bc (s:AS) (i:Int):Bool:=decide (0 <= i /\ i < 32) && s.getLsbD i.toNat
def ef {s:AS} {i:Nat} (h:i < 32):bc s i = s.getLsbD i:=by
 unfold bc;rw [decide_eq_true b5o];simp
def a94 {s:AS} {i:Int} (h0:0 <= i) (h1:i < 32):decide (er .and .u32 ((asI s).fdiv (2 ^ (min i.toNat 32))) 1 = 1) = bc s i:=by
 unfold bc;rw [amu,show (1:Int) = asI 1 from rfl,a26,decide_eq_true (show 0 <= i /\ i < 32 from ⟨h0,h1⟩),b4o]
 have e:asI (s >>> i.toNat &&& 1) = asI 1 <-> s.getLsbD i.toNat = true:=by
  rw [i7];constructor
  · intro h
    have:=congrArg (fun x:AS=>x.getLsbD 0) h;simpa using this
  intro h;apply b4a;intro k hk;have h1:(1:AS).getLsbD k = decide (k = 0):=by have:=a0k 0 k hk;simpa using this
  rw [b40,BitVec.getLsbD_ushiftRight,h1];by_cases hk0:k = 0
  · subst hk0;simp [h]
  simp [hk0]
 cases hb:s.getLsbD i.toNat with
 | true=>exact decide_eq_true (e.2 hb)
 | false=>exact decide_eq_false fun h=>by rw [e.1 h] at hb;cases hb
def te {s:AS} {i:Int} (h:¬ (0 <= i /\ i < 32)):bc s i = false:=by
 unfold bc;rw [decide_eq_false h];rfl
def ae0 {n:Nat} (h:n <= 32):j3 n = BitVec.ofNat 32 (2 ^ n - 1):=by
 apply b4a;intro k hk;rw [kf n k hk,BitVec.getLsbD_ofNat,Nat.testBit_two_pow_sub_one];simp [hk]
def adz {n:Nat} (h:n <= 32):(j3 n).toNat = 2 ^ n - 1:=by
 have h2:2 ^ n <= 2 ^ 32:=Nat.pow_le_pow_right b5o h;have h3:0 < 2 ^ n:=Nat.two_pow_pos n;rw [ae0 h,BitVec.toNat_ofNat,b5n b5o]
def rz {n:Int} {l:List Fd} (h:c6 n l = 0):0 <= n /\ n <= 16 /\ l.length <= 64 /\ l.all (inU n) = true:=by
 unfold c6 at h;split at h
 · cases h
 split at h
 · cases h
 split at h
 · rename_i h1 h2 h3
   exact ⟨by omega,by omega,by omega,h3⟩
 cases h
def qh {n:Int} (h0:0 <= n) (h1:n <= 16):IntKind.wrap .u32 (1 * 2 ^ (min n.toNat 32)) - 1 = asI (ax n):=by
 have h2:2 ^ n.toNat <= 2 ^ 16:=Nat.pow_le_pow_right b5o b5o;have h3:0 < 2 ^ n.toNat:=Nat.two_pow_pos _;rw [show IntKind.wrap .u32 (1 * 2 ^ (min n.toNat 32)) = asI ((1:AS) <<< n.toNat) from avz 1 n.toNat];unfold ax asI;rw [b48 b5o,adz b5o,BitVec.toNat_shiftLeft,Nat.shiftLeft_eq];rw [show (1:AS).toNat = 1 from rfl,Nat.one_mul,b5n b5o];omega
def aa8 {n:Int} (h0:0 <= n) (h1:n <= 16):0 <= IntKind.wrap .u32 (1 * 2 ^ (min n.toNat 32)) - 1:=by rw [qh h0 h1];exact ack _
def a82 {n:Int} (h0:0 <= n) (h1:n <= 16):IntKind.wrap .u32 (1 * 2 ^ (min n.toNat 32)) - 1 <= 4294967295:=by rw [qh h0 h1];have:=adg (ax n);omega
def a5p (n:Int) (l:List Fd) (s:AS):Bool:=decide (c6 n l = 0 /\ sub s (ax n) /\ clo l s = ax n)
section
variable {n:Int} {l:List Fd} {s:AS}
end
def a3f (n:Int) (l:List Fd) (m:Int):Int:=if c6 n l = 0 then (if m < n then 3 else 0) else c6 n l
structure Dp where
 l:BitVec 8
 r:BitVec 8
deriving Inhabited
def Dp.c (d:Dp):Nat -> PV
 | 0=>.raw (.int .u8 (d.l.toNat:Int))
 | 1=>.raw (.int .u8 (d.r.toNat:Int))
 | _=>.any
abbrev dpl (l:List Dp):PV:=psl 2 Dp.c l
def Dp.fd (n:Int) (d:Dp):Fd:=⟨d.l.setWidth 32 &&& ax n,d.r.setWidth 32 &&& ax n⟩
def sg (b:BitVec 8) (t:AS):er .and .u32 (b.toNat:Int) (asI t) = asI (b.setWidth 32 &&& t):=by
 have h:=b.isLt
 have e:asI (b.setWidth 32) = (b.toNat:Int):=by
  unfold asI;rw [BitVec.toNat_setWidth,b5n b5o]
 rw [<- a26,e]
end
section
open Go.Proofs
def wl:goodFn b6e 119:=wgx Tryz.func119
def a9w (s:AS) (i:Int):a8 b6e 119 [pA s,pI i] (aa [pB (bc s i)]):=by
 refine hpx (nt:=18) Tryz.func119 ?_;refine w_9 ?_;refine ag rfl rfl (fun r0=>?_) (fun r0=>?_)
 ·
  have h0:=tz1 r0;(iterate 2 refine qy ?_ (hg:=(gtt r0)));refine w_2 ?_;refine ag rfl rfl (fun r1=>?_) (fun r1=>?_)
  ·
   have h1:=tz1 (ci r0 r1);(iterate 5 refine qy ?_ (hg:=(gtt r1)));refine w_3 ?_
   exact hx8 rfl rfl rfl (⟨ccb (by first | exact a05 b5p (a94 b5o b5o) | exact (te b5o).symm),trivial⟩)
  have h1:=tz2 (ci r0 r1);(iterate 5 refine k9 (gft r1) ?_);refine w_3 ?_
  exact hx8 rfl rfl rfl (⟨ccb (by first | exact a05 b5p (a94 b5o b5o) | exact (te b5o).symm),trivial⟩)
 have h0:=tz2 r0;(iterate 2 refine k9 (gft r0) ?_);refine w_2 ?_;(iterate 5 refine k9 rfl ?_);refine w_3 ?_
 exact hx8 rfl rfl rfl (⟨ccb (by first | exact a05 b5p (a94 b5o b5o) | exact (te b5o).symm),trivial⟩)
end
section
def bsz (s:AS):Nat:=(List.range 32).countP fun i=>s.getLsbD i
def bef (a b:AS):Bool:=decide (bsz a < bsz b) || (decide (bsz a = bsz b) && decide (a.toNat < b.toNat))
def atz (l:List AS):Prop:=l.Pairwise fun a b=>bef a b = true
def awm (x:AS):List AS -> List AS
 | []=>[x]
 | y :: l=>if x = y then y :: l else if bef x y = true then x :: y :: l else y :: awm x l
def ord (l:List AS):List AS:=l.foldl (fun o x=>awm x o) []
end
section
def b6 (s:AS):List Nat:=(List.range 32).filter fun i=>s.getLsbD i
def iC:Nat -> Nat -> PV:=fun n _=>.raw (.int .i64 (n:Int))
abbrev il (l:List Nat):PV:=psl 1 iC l
def aj8 (s:AS):bsz s = (b6 s).length:=by unfold bsz b6;rw [List.countP_eq_length_filter]
section
variable {s:AS}
def ua {i:Nat}:i ∈ b6 s <-> i < 32 /\ s.getLsbD i = true:=by simp [b6,b51,b3i]
def z7 {p:Nat -> Bool} {t:Nat}:∀ {l:List Nat},l.Pairwise (· < ·) -> t ∈ l -> p t = true -> (∀ k,k < t -> p k = false) -> l.filter p = t :: l.filter fun k=>decide (k ≠ t) && p k
 | [],_,h,_,_=>by cases h
 | a :: l,hp,hm,h1,h2=>by
  obtain ⟨q1,q2⟩:=b3s.1 hp;by_cases ha:a = t
  · subst ha
    have e:l.filter p = l.filter fun k=>decide (k ≠ a) && p k:=by
     apply List.filter_congr;intro k hk;have:=q1 k hk;rw [decide_eq_true b5o,b4o]
    simp [b4y,h1,e]
  have hm':t ∈ l:=by
   rcases b33.1 hm with h | h
   · exact absurd h.symm ha
   exact h
  have:=q1 t hm';have hpa:=h2 a this;simp [b4y,hpa,z7 q2 hm' h1 h2]
def ke (s:AS):Nat:=Lib.ctz 32 s.toNat
def alf (h:s ≠ 0):∃ m,s.toNat = 2 ^ (ke s + 1) * m + 2 ^ ke s /\ ke s < 32:=by
 have h0:s.toNat ≠ 0:=fun e=>h (b5k e);obtain ⟨m,h1,h2⟩:=Lib.ctzFrom_spec 32 s.toNat b5o s.isLt;have e:ke s = Lib.ctzFrom 32 s.toNat:=by unfold ke Lib.ctz;rw [if_neg h0]
 rw [e];refine ⟨m, ?_,h2⟩;rw [Nat.pow_succ];rw [h1] at *;simp only [Nat.mul_add,Nat.mul_assoc,Nat.mul_one] at *;exact h1
def a0l (h:s ≠ 0):ke s < 32 /\ s.getLsbD (ke s) = true /\ (∀ k,k < ke s -> s.getLsbD k = false) /\ s &&& (s - 1) = s &&& ~~~((1:AS) <<< ke s):=by
 obtain ⟨m,h1,h2⟩:=alf h;generalize ke s = t at *;have hp:2 ^ t < 2 ^ (t + 1):=Nat.pow_lt_pow_right b5o b5o
 have hb:∀ k,s.getLsbD k = if k < t + 1 then (2 ^ t).testBit k else m.testBit (k - (t + 1)):=fun k=>by
  show s.toNat.testBit k = _;rw [h1,Nat.testBit_two_pow_mul_add _ hp]
 have hq:0 < 2 ^ t:=Nat.two_pow_pos t
 have e1:(s - 1).toNat = 2 ^ (t + 1) * m + (2 ^ t - 1):=by
  have:=s.isLt;rw [BitVec.toNat_sub];show (2 ^ 32 - 1 + s.toNat) % 2 ^ 32 = _;omega
 have hd:∀ k,(s - 1).getLsbD k = if k < t + 1 then (2 ^ t - 1).testBit k else m.testBit (k - (t + 1)):=fun k=>by
  show (s - 1).toNat.testBit k = _;rw [e1,Nat.testBit_two_pow_mul_add _ b5o]
 refine ⟨h2, ?_,fun k hk=>?_, ?_⟩
 · rw [hb,if_pos b5o,Nat.testBit_two_pow_self]
 · rw [hb,if_pos b5o,Nat.testBit_two_pow]
   simp;omega
 apply b4a;intro k hk;rw [b40,b40,BitVec.getLsbD_not,a0k _ _ hk,hd k,hb k];by_cases h3:k < t + 1
 · rw [if_pos h3,if_pos h3,Nat.testBit_two_pow,Nat.testBit_two_pow_sub_one]
   by_cases h4:k = t
   · subst h4;simp
   have:¬ t = k:=fun e=>h4 e.symm;simp [this]
 rw [if_neg h3,if_neg h3];have:¬ k = t:=by omega
 simp [hk,this]
def zf (h:s ≠ 0) (k:Nat) (hk:k < 32):(s &&& (s - 1)).getLsbD k = (decide (k ≠ ke s) && s.getLsbD k):=by
 rw [(a0l h).2.2.2,b40,BitVec.getLsbD_not,a0k _ _ hk];by_cases e:k = ke s <;> simp [e,hk,Bool.and_comm]
def akt (h:s ≠ 0):b6 s = ke s :: b6 (s &&& (s - 1)):=by
 obtain ⟨h1,h2,h3,_⟩:=a0l h;unfold b6;rw [z7 List.pairwise_lt_range (b3i.2 h1) h2 h3];congr 1;apply List.filter_congr;intro k hk;rw [zf h k (b3i.1 hk)]
def ahe:b6 0 = []:=by
 unfold b6;rw [List.filter_eq_nil_iff];intro k _;simp
def ane (h:s ≠ 0):(s &&& (s - 1)).toNat < s.toNat:=by
 refine ta (da.2 fun i hi hb=>?_) fun e=>?_
 · rw [zf h i hi] at hb
   simp only [b30] at hb;exact hb.2
 have:=zf h (ke s) (a0l h).1;rw [e,(a0l h).2.1] at this;simp at this
end
end
end Go.Hx

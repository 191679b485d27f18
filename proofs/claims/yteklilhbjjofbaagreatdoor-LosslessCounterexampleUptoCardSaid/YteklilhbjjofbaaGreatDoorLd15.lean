/- A part of the proof: Hx23 Cs1 Cs3 Ty1 V1 Cs4 V2 Cl1 Cl2 V4 Cs5 V5 Cs2 Cs6. -/
import Derived.Lib.TrailingZeros
import Derived.Test.YteklilhbjjofbaaGreatDoorLd14
set_option linter.all false
set_option maxRecDepth 100000
set_option maxHeartbeats 1000000
namespace Go.Hx
section
open Go.RowKit
abbrev AS:=BitVec 32
abbrev asI (s:AS):Int:=(s.toNat:Int)
def asC (s:AS):PV:=.raw (.int .u32 (asI s))
def ao4 {n:Int} (h0:0 <= n) (h1:n < 4294967296):IntKind.wrap .u32 n = n:=zd (by simp only [inR,wl,a0h];omega)
def ae2 (s:AS):asI s < 4294967296:=by
 have:=s.isLt;unfold asI;omega
def acl (s:AS):0 <= asI s:=Int.natCast_nonneg _
def o7 (s:AS):BitVec.ofInt 32 (asI s) = s:=by
 unfold asI;rw [BitVec.ofInt_natCast,BitVec.ofNat_toNat,BitVec.setWidth_eq]
def qi {a b:AS}:asI a = asI b <-> a = b:=by
 unfold asI;rw [Int.ofNat_inj];exact BitVec.toNat_inj
def a3k (s:AS):IntKind.wrap .u32 (s.toNat:Int) = asI s:=ao4 (acl s) (ae2 s)
def aja (a b:AS):it .and .u32 (asI a) (asI b) = asI (a &&& b):=by
 show IntKind.wrap .u32 ((BitVec.ofInt 32 (asI a) &&& BitVec.ofInt 32 (asI b)).toNat:Int) = _;rw [o7,o7,a3k]
def bOr (a b:AS):it .or .u32 (asI a) (asI b) = asI (a ||| b):=by
 show IntKind.wrap .u32 ((BitVec.ofInt 32 (asI a) ||| BitVec.ofInt 32 (asI b)).toNat:Int) = _;rw [o7,o7,a3k]
def awk (a b:AS):it .andNot .u32 (asI a) (asI b) = asI (a &&& ~~~b):=by
 show IntKind.wrap .u32 ((BitVec.ofInt 32 (asI a) &&& ~~~BitVec.ofInt 32 (asI b)).toNat:Int) = _;rw [o7,o7,a3k]
def aq2 (a:AS) (n:Nat):(asI a).fdiv (2 ^ (min n 32)) = asI (a >>> n):=by
 have e:(2:Int) ^ (min n 32) = ((2 ^ (min n 32):Nat):Int):=by rw [Int.natCast_pow];rfl
 rw [e];unfold asI;rw [Int.fdiv_eq_ediv_of_nonneg _ (Int.natCast_nonneg _),<- Int.natCast_ediv,BitVec.toNat_ushiftRight,Nat.shiftRight_eq_div_pow];by_cases h:n <= 32
 · rw [b6p h]
 rw [Nat.min_eq_right b8i];have h1:=a.isLt;have h2:2 ^ 32 <= 2 ^ n:=Nat.pow_le_pow_right b8i b8i;rw [Nat.div_eq_of_lt b8i,Nat.div_eq_of_lt (b78 b8i h2)]
def axf (a:AS) (n:Nat):IntKind.wrap .u32 (asI a * 2 ^ (min n 32)) = asI (a <<< n):=by
 have e:asI a * (2:Int) ^ (min n 32) = ((a.toNat * 2 ^ (min n 32):Nat):Int):=by rw [Int.natCast_mul,Int.natCast_pow];rfl
 rw [e]
 have hw:∀ m:Nat,IntKind.wrap .u32 (m:Int) = ((m % 4294967296:Nat):Int):=by
  intro m;simp [IntKind.wrap,IntKind.signed,IntKind.bits]
 rw [hw];unfold asI;rw [BitVec.toNat_shiftLeft,Nat.shiftLeft_eq];by_cases h:n <= 32
 · rw [b6p h]
 rw [Nat.min_eq_right b8i];have h1:a.toNat * 2 ^ 32 % 2 ^ 32 = 0:=Nat.mul_mod_left _ _
 have h2:a.toNat * 2 ^ n % 2 ^ 32 = 0:=by
  obtain ⟨k,rfl⟩:∃ k,n = k + 32:=⟨n - 32,by omega⟩;rw [Nat.pow_add,<- Nat.mul_assoc];exact Nat.mul_mod_left _ _
 have h1:a.toNat * 2 ^ 32 % 4294967296 = 0:=h1;rw [h1,h2]
end
section
structure Fd where
 lhs:AS
 rhs:AS
instance:Inhabited Fd:=⟨⟨0,0⟩⟩
theorem Fd.eq_iff {a b:Fd}:a = b <-> a.lhs = b.lhs /\ a.rhs = b.rhs:=by cases a;cases b;simp
instance:DecidableEq Fd:=fun a b=>decidable_of_iff _ (Fd.eq_iff (a:=a) (b:=b)).symm
def Fd.c (x:Fd):Nat -> PV
 | 0=>asC x.lhs
 | 1=>asC x.rhs
 | _=>.any
def sub (a b:AS):Prop:=a &&& ~~~b = 0
instance:DecidablePred fun p:AS × AS=>sub p.1 p.2:=fun p=>inferInstanceAs (Decidable (_ = _))
instance {a b:AS}:Decidable (sub a b):=inferInstanceAs (Decidable (_ = _))
section
variable {a b:AS}
def dj:sub a b <-> ∀ i,i < 32 -> a.getLsbD i = true -> b.getLsbD i = true:=by
 unfold sub;constructor
 · intro h i hi ha
   have:=congrArg (fun x:AS=>x.getLsbD i) h;simp only [b6o,b8a,hi,ha,decide_true,b7w] at this;simpa using this
 intro h;apply b6y;intro i hi;have:=h i hi;simp only [b6o,b8a,hi,decide_true,b7w];cases ha:a.getLsbD i <;> cases hb:b.getLsbD i <;> simp_all
def pz (a:AS):sub a a:=dj.2 fun _ _ h=>h
def sk {c:AS} (h:sub a b) (k:sub b c):sub a c:=dj.2 fun i hi ha=>dj.1 k i hi (dj.1 h i hi ha)
def a44:sub a (a ||| b):=dj.2 fun i hi ha=>by simp [ha]
def a4i:sub b (a ||| b):=dj.2 fun i hi ha=>by simp [ha]
def a5p {c:AS} (h:sub a c) (k:sub b c):sub (a ||| b) c:=dj.2 fun i hi ha=>by
 rw [b7g,b6r] at ha
 rcases ha with ha | ha
 · exact dj.1 h i hi ha
 exact dj.1 k i hi ha
def pi (h:sub a b) (k:sub b a):a = b:=by
 apply b6y;intro i hi;have h1:=dj.1 h i hi;have h2:=dj.1 k i hi;cases ha:a.getLsbD i <;> cases hb:b.getLsbD i <;> simp_all
def avu (h:sub a b):a.toNat <= b.toNat:=by
 have e:a ||| b = b:=pi (a5p h (pz b)) a4i
 have:a.toNat <= (a ||| b).toNat:=by rw [BitVec.toNat_or];exact Nat.left_le_or
 rwa [e] at this
def ac3 (h:sub a b) (hne:a ≠ b):a.toNat < b.toNat:=by
 rcases b7s (avu h) with h | h
 · exact h
 exact absurd (b7v h) hne
def auz:sub a b <-> a &&& b = a:=by
 rw [dj];constructor
 · intro h
   apply b6y;intro i hi;have:=h i hi;rw [b6o];cases ha:a.getLsbD i <;> simp_all
 intro h i hi ha;have:=congrArg (fun x:AS=>x.getLsbD i) h;simp only [b6o,ha,b7w] at this;exact this
def i7 (s:AS) (f:Fd):AS:=if sub f.lhs s then s ||| f.rhs else s
def ly (l:List Fd) (s:AS):AS:=l.foldl i7 s
variable {s:AS}
def a6p {f:Fd}:sub s (i7 s f):=by
 unfold i7;split
 · exact a44
 exact pz s
def vw:∀ {l:List Fd} {s:AS},sub s (ly l s)
 | [],s=>pz s
 | f :: l,s=>sk a6p (vw (l:=l) (s:=i7 s f))
def clF (l:List Fd):Nat -> AS -> AS
 | 0,s=>s
 | n + 1,s=>if ly l s = s then s else clF l n (ly l s)
def clo (l:List Fd) (s:AS):AS:=clF l 4294967296 s
variable {l:List Fd}
def a61:∀ {n:Nat} {s:AS},4294967296 - s.toNat <= n -> ly l (clF l n s) = clF l n s
 | 0,s,hn=>by have:=s.isLt;omega
 | n + 1,s,hn=>by
  unfold clF;split
  · assumption
  rename_i hne;have:=ac3 (vw (l:=l) (s:=s)) (fun e=>hne e.symm);exact a61 b8i
def aiq:ly l (clo l s) = clo l s:=a61 b8i
def alb:∀ {n:Nat} {s:AS},sub s (clF l n s)
 | 0,s=>pz s
 | n + 1,s=>by
  unfold clF;split
  · exact pz s
  exact sk vw alb
def amm:sub s (clo l s):=alb
def qh (l:List Fd) (s:AS):Prop:=∀ f ∈ l,sub f.lhs s -> sub f.rhs s
def sn:∀ {l:List Fd} {s:AS},ly l s = s <-> qh l s
 | [],s=>⟨fun _ f hf=>(by cases hf),fun _=>rfl⟩
 | f :: l,s=>by
  constructor
  · intro h
    have h1:i7 s f = s:=pi (by have:=vw (l:=l) (s:=i7 s f);rw [show ly l (i7 s f) = s from h] at this;exact this) a6p
    have h2:ly l s = s:=by
     have:ly l (i7 s f) = s:=h;rwa [h1] at this
    intro g hg
    rcases b5k.1 hg with rfl | hg
    · intro hl
      rw [i7,if_pos hl] at h1;rw [<- h1];exact a4i
    exact sn.1 h2 g hg
  intro h
  have h1:i7 s f = s:=by
   unfold i7;split
   · rename_i hl
     exact pi (a5p (pz s) (h f (b6q ..) hl)) a44
   rfl
  show ly l (i7 s f) = s;rw [h1];exact sn.2 fun g hg=>h g (b65 _ hg)
def a6m:∀ {l:List Fd} {s t:AS},qh l t -> sub s t -> sub (ly l s) t
 | [],s,t,_,h=>h
 | f :: l,s,t,ht,h=>a6m (l:=l) (fun g hg=>ht g (b65 _ hg)) (by
  unfold i7;split
  · rename_i hl
    exact a5p h (ht f (b6q ..) (sk hl h))
  exact h)
def agk {t:AS} (ht:qh l t):∀ {n:Nat} {s:AS},sub s t -> sub (clF l n s) t
 | 0,s,h=>h
 | n + 1,s,h=>by
  unfold clF;split
  · exact h
  exact agk ht (a6m ht h)
def aa8 {t:AS} (ht:qh l t) (h:sub s t):sub (clo l s) t:=agk ht h
def a1l:qh l (clo l s):=sn.1 aiq
end
end
section
abbrev pI (a:Int):PC:=.one (.raw (.int .i64 a))
abbrev pB (b:Bool):PC:=.one (.raw (.bool b))
abbrev pP (x:PV):PC:=.one x
abbrev pA (s:AS):PC:=.one (.raw (.int .u32 (asI s)))
abbrev fdl (l:List Fd):PV:=psl 2 Fd.c l
abbrev asl (l:List AS):PV:=psl 1 (fun s _=>asC s) l
abbrev vI (a:Int):HR:=b4 (.raw (.int .i64 a))
abbrev vA (s:AS):HR:=b4 (.raw (.int .u32 (asI s)))
def inU (n:Int) (f:Fd):Bool:=decide ((f.lhs ||| f.rhs) >>> n.toNat = 0)
def db (n:Int) (l:List Fd):Int:=if n < 0 \/ 16 < n then 7 else if 64 < l.length then 3 else if l.all (inU n) = true then 0 else 1
def a20 {n:Int} {f:Fd}:(it .or .u32 (asI f.lhs) (asI f.rhs)).fdiv (2 ^ (min n.toNat 32)) = 0 <-> inU n f = true:=by
 rw [bOr,aq2,show (0:Int) = asI 0 from rfl,qi];unfold inU;rw [decide_eq_true_iff]
def ta {k:IntKind} {a b:Int} (h:a = b):CoR (b4 (.raw (.int k a))) (b4 (.raw (.int k b))):=by
 rw [h];exact CoR.refl _
def jm (n:Nat):AS:=(List.range n).foldl (fun s i=>s ||| ((1:AS) <<< i)) 0
def b6 (n:Int):AS:=jm (min n.toNat 32)
def a62 (i:Nat):jm (i + 1) = jm i ||| ((1:AS) <<< i):=by
 unfold jm;rw [b8b,b7p];rfl
def akk (i:Nat):it .or .u32 (asI (jm i)) (IntKind.wrap .u32 (1 * 2 ^ (min i 32))) = asI (jm (i + 1)):=by
 have e:IntKind.wrap .u32 (1 * 2 ^ (min i 32)) = asI ((1:AS) <<< i):=axf 1 i;rw [e,bOr,a62]
end
section
abbrev pU8 (a:Int):PC:=.one (.raw (.int .u8 a))
abbrev pS (s:ByteArray):PC:=.one (.raw (.string s))
abbrev vU8 (a:Int):HR:=b4 (.raw (.int .u8 a))
abbrev vB (b:Bool):HR:=b4 (.raw (.bool b))
abbrev vS (s:ByteArray):HR:=b4 (.raw (.string s))
abbrev vP (x:PV):HR:=b4 x
abbrev Lim:Nat:=68719476736
structure Val where
 kind:Int
 num:Int
 str:ByteArray
instance:Inhabited Val:=⟨⟨0,0,⟨#[]⟩⟩⟩
theorem Val.eq_iff {a b:Val}:a = b <-> a.kind = b.kind /\ a.num = b.num /\ a.str = b.str:=by cases a;cases b;simp
instance:DecidableEq Val:=fun a b=>decidable_of_iff _ (Val.eq_iff (a:=a) (b:=b)).symm
def Val.c (v:Val):Nat -> PV
 | 0=>.raw (.int .i64 v.kind)
 | 1=>.raw (.int .i64 v.num)
 | 2=>.raw (.string v.str)
 | _=>.any
abbrev vals (l:List Val):PV:=psl 3 Val.c l
abbrev Val.pc (v:Val):PC:=.agg [v.c 0,v.c 1,v.c 2]
structure Row where
 id:Int
 vals:List Val
instance:Inhabited Row:=⟨⟨0,[]⟩⟩
theorem Row.eq_iff {a b:Row}:a = b <-> a.id = b.id /\ a.vals = b.vals:=by cases a;cases b;simp
instance:DecidableEq Row:=fun a b=>decidable_of_iff _ (Row.eq_iff (a:=a) (b:=b)).symm
def Row.c (r:Row):Nat -> PV
 | 0=>.raw (.int .i64 r.id)
 | 1=>Hx.vals r.vals
 | _=>.any
abbrev rows (l:List Row):PV:=psl 2 Row.c l
abbrev Row.pc (r:Row):PC:=.agg [r.c 0,r.c 1]
def a4d (s:ByteArray):Nat -> PV
 | 0=>.raw (.string s)
 | _=>.any
instance:Inhabited ByteArray:=⟨⟨#[]⟩⟩
abbrev x9 (l:List ByteArray):PV:=psl 1 a4d l
def b28 (s:UInt8):Nat -> PV
 | 0=>.raw (.int .u8 (s.toNat:Int))
 | _=>.any
abbrev u8s (l:List UInt8):PV:=psl 1 b28 l
def b2h (l:List UInt8):Nat -> PV
 | 0=>u8s l
 | _=>.any
abbrev b1b (l:List (List UInt8)):PV:=psl 1 b2h l
structure Tbl where
 name:ByteArray
 attrs:List ByteArray
 rows:List Row
instance:Inhabited Tbl:=⟨⟨⟨#[]⟩,[],[]⟩⟩
theorem Tbl.eq_iff {a b:Tbl}:a = b <-> a.name = b.name /\ a.attrs = b.attrs /\ a.rows = b.rows:=by cases a;cases b;simp
instance:DecidableEq Tbl:=fun a b=>decidable_of_iff _ (Tbl.eq_iff (a:=a) (b:=b)).symm
def Tbl.c (t:Tbl):Nat -> PV
 | 0=>.raw (.string t.name)
 | 1=>x9 t.attrs
 | 2=>Hx.rows t.rows
 | _=>.any
abbrev b26 (l:List Tbl):PV:=psl 3 Tbl.c l
abbrev Tbl.pc (t:Tbl):PC:=.agg [t.c 0,t.c 1,t.c 2]
abbrev DB:=List Tbl
abbrev b56 (d:DB):PC:=.agg [b26 d]
structure Chg where
 kind:Int
 name:ByteArray
 table:Tbl
 row:Row
 attr:Int
 value:Val
instance:Inhabited Chg:=⟨⟨0,⟨#[]⟩,default,default,0,default⟩⟩
theorem Chg.eq_iff {a b:Chg}:a = b <-> a.kind = b.kind /\ a.name = b.name /\ a.table = b.table /\ a.row = b.row /\ a.attr = b.attr /\ a.value = b.value:=by cases a;cases b;simp
instance:DecidableEq Chg:=fun a b=>decidable_of_iff _ (Chg.eq_iff (a:=a) (b:=b)).symm
def Chg.c (x:Chg):Nat -> PV
 | 0=>.raw (.int .i64 x.kind)
 | 1=>.raw (.string x.name)
 | 2=>x.table.c 0
 | 3=>x.table.c 1
 | 4=>x.table.c 2
 | 5=>x.row.c 0
 | 6=>x.row.c 1
 | 7=>.raw (.int .i64 x.attr)
 | 8=>x.value.c 0
 | 9=>x.value.c 1
 | 10=>x.value.c 2
 | _=>.any
abbrev axc (l:List Chg):PV:=psl 11 Chg.c l
abbrev Chg.pc (x:Chg):PC:=.agg [x.c 0,x.c 1,x.c 2,x.c 3,x.c 4,x.c 5,x.c 6,x.c 7,x.c 8,x.c 9,x.c 10]
def txC (l:List Chg):Nat -> PV
 | 0=>axc l
 | _=>.any
abbrev txs (l:List (List Chg)):PV:=psl 1 txC l
structure x4 where
 attrs:UInt8
 gap:UInt8
 rows:List (List UInt8)
instance:Inhabited x4:=⟨⟨0,0,[]⟩⟩
def x4.c (x:x4):Nat -> PV
 | 0=>.raw (.int .u8 (x.attrs.toNat:Int))
 | 1=>.raw (.int .u8 (x.gap.toNat:Int))
 | 2=>b1b x.rows
 | _=>.any
abbrev x4.pc (x:x4):PC:=.agg [x.c 0,x.c 1,x.c 2]
structure Opn where
 kind:UInt8
 name:UInt8
 t:x4
 id:Int
 vals:List UInt8
 attr:Int
 value:UInt8
instance:Inhabited Opn:=⟨⟨0,0,default,0,[],0,0⟩⟩
def Opn.c (x:Opn):Nat -> PV
 | 0=>.raw (.int .u8 (x.kind.toNat:Int))
 | 1=>.raw (.int .u8 (x.name.toNat:Int))
 | 2=>x.t.c 0
 | 3=>x.t.c 1
 | 4=>x.t.c 2
 | 5=>.raw (.int .i64 x.id)
 | 6=>u8s x.vals
 | 7=>.raw (.int .i64 x.attr)
 | 8=>.raw (.int .u8 (x.value.toNat:Int))
 | _=>.any
abbrev Opn.pc (x:Opn):PC:=.agg [x.c 0,x.c 1,x.c 2,x.c 3,x.c 4,x.c 5,x.c 6,x.c 7,x.c 8]
abbrev b4w (l:List Opn):PV:=psl 9 Opn.c l
structure Stt where
 done:List (List Chg)
 undone:List (List Chg)
 opn:Bool
 now:List Chg
instance:Inhabited Stt:=⟨⟨[],[],false,[]⟩⟩
def Stt.c (x:Stt):Nat -> PV
 | 0=>txs x.done
 | 1=>txs x.undone
 | 2=>.raw (.bool x.opn)
 | 3=>axc x.now
 | _=>.any
abbrev Stt.pc (x:Stt):PC:=.agg [x.c 0,x.c 1,x.c 2,x.c 3]
def ca {α:Type} [Inhabited α] (l:List α) (i:Nat) (h:i < l.length):l.getD i default = l[i]:=by simp [List.getD,b5b h]
end
section
open Go.Proofs
def a6f:goodFn b98 81:=wgx Tryz.func81
def aaq (a b:AS):a8 b98 81 [pA a,pA b] (ae [pB (decide (sub a b))]):=by
 refine hpx (nt:=10) Tryz.func81 ?_;refine m7 ?_;exact hx8 rfl rfl rfl (⟨ccb (decide_eq_decide.2 (by rw [aja,qi];exact auz.symm)),trivial⟩)
def b8j {p:Prop} (h:p:=by assumption):p:=h
def ay7 (n:Int) (l:List Fd):a8 b98 78 [pI n,pP (fdl l)] (ae [pI (db n l)]):=by
 refine hpx (nt:=31) Tryz.func78 ?_;refine cu ?_;refine bv 1 rfl fun hlen=>?_;refine w_9 ?_;refine aa rfl rfl (fun r0=>?_) (fun r0=>?_)
 ·
  have h0:=tz1 r0;(iterate 2 refine k9 (gtf r0) ?_);refine w_7 ?_
  exact hx8 rfl rfl rfl (⟨cci (by rw [db,if_pos b8i]),trivial⟩)
 have h0:=tz2 r0;(iterate 2 refine qy ?_ (hg:=(gff r0)));refine w_2 ?_;refine ag _ rfl (fun r1=>?_) (fun r1=>?_)
 · have h1:=tz1 (ab r0 r1);refine v_4 ?_;exact ⟨cci (by rw [db,if_pos b8i]),trivial⟩
 have h1:=tz2 (ab r0 r1);refine w_8 ?_;refine hcd (fun h2=>?_) (fun h2=>?_)
 · refine v_4 ?_;exact ⟨cci (by rw [db,if_neg b8i,if_pos b8i]),trivial⟩
 refine w_9 ?_;refine af (ι:=Nat) (ka 0 (ka 16 (ka 17 kn))) km (fun i=>⟨[(18,some (vI i))],[]⟩) (fun i=>i <= l.length /\ ∀ j,j < i -> inU n (l.getD j default) = true) (fun i=>l.length - i) (0) (⟨b5h _,fun j hj=>absurd hj (b5i j)⟩) kk ?_;rintro i ⟨hi,hI⟩;refine w_5 ?_;refine hcd (fun h3=>?_) (fun h3=>?_)
 ·
  refine w_7 ?_;refine m9 0 ?_;refine m7 ?_;refine hcn (fun h4=>?_) (fun h4=>?_)
  · refine v_4 ?_;exact ⟨cci (by rw [db,if_neg b8i,if_neg b8i,if_neg (fun e=>absurd (s4 (l:=l) (p:=inU n) (i:=i) b8i (by rw [b5m];exact fun e=>absurd (a20.2 e) b8j)) (by rw [e];decide))]),trivial⟩
  refine w_5 ?_;refine lpz (i + 1) kk ?_;refine ⟨by omega,fun j hj=>?_⟩
  rcases b7s (b8d hj) with h | h
  · exact hI j h
  subst h;exact a20.1 b8j
 obtain rfl:i = l.length:=by omega
 refine v_5 ?_;exact ⟨cci (by rw [db,if_neg b8i,if_neg b8i,if_pos (w5 fun j hj=>hI j hj)]),trivial⟩
def sa:goodFn b98 36:=wgx Tryz.func36
def sj (n:Int):a8 b98 36 [pI n] (ae [pA (b6 n)]):=by
 refine hpx (nt:=19) Tryz.func36 ?_;refine v6 ?_;refine cj (ka 0 kn) km (fun i=>⟨[(4,some (vI i)),(3,some (vA (jm i)))],[]⟩) (min n.toNat 32) kk ?_;rintro i hi;refine w_7 ?_;refine aa rfl rfl (fun r0=>?_) (fun r0=>?_)
 ·
  have h0:=tz1 r0;(iterate 2 refine qy ?_ (hg:=(gtt r0)));refine w_2 ?_;refine ag _ rfl (fun r1=>?_) (fun r1=>?_)
  · have h1:=tz1 (bd r0 r1);refine pl ?_;exact lpx (i + 1) ⟨⟨zy,⟨_,rfl,(by simp only [b5t];exact ta (akk i))⟩,tt⟩,trivial⟩
  have h1:=tz2 (bd r0 r1);obtain rfl:i = min n.toNat 32:=by omega
  refine v_6 ?_;exact CoL.refl _
 have h0:=tz2 r0;obtain rfl:i = min n.toNat 32:=by omega
 (iterate 2 refine k9 (gft r0) ?_);refine w_9 ?_
 exact hx8 rfl rfl rfl (CoL.refl _)
end
section
def a2r (i k:Nat) (hk:k < 32):((1:AS) <<< i).getLsbD k = decide (k = i):=by
 rw [BitVec.getLsbD_shiftLeft];by_cases h:k < i
 · simp [h,hk];omega
 by_cases e:k = i
 · subst e;simp [hk]
 have:0 < k - i:=by omega
 simp [hk,h,e,BitVec.getLsbD_one];omega
def oh:∀ (n k:Nat),k < 32 -> (jm n).getLsbD k = decide (k < n)
 | 0,k,hk=>by simp [jm]
 | n + 1,k,hk=>by
  rw [a62,b7g,oh n k hk,a2r n k hk];by_cases h:k < n
  · simp [h];omega
  by_cases e:k = n
  · simp [e]
  simp [h,e];omega
def awp {s:AS} {n:Nat}:s >>> n = 0 <-> ∀ k,k < 32 -> n <= k -> s.getLsbD k = false:=by
 constructor
 · intro h k hk hn
   have:=congrArg (fun x:AS=>x.getLsbD (k - n)) h;simp only [BitVec.getLsbD_ushiftRight] at this;rw [show n + (k - n) = k by omega] at this;simpa using this
 intro h;apply b6y;intro i hi;rw [BitVec.getLsbD_ushiftRight];by_cases hk:n + i < 32
 · rw [h (n + i) hk b8i];simp
 rw [BitVec.getLsbD_of_ge _ _ b8i];simp
def zh {s:AS} {n:Nat} (hn:n <= 32):sub s (jm n) <-> s >>> n = 0:=by
 rw [dj,awp];constructor
 · intro h k hk hle
   rw [b5m];intro e;have:=h k hk e;rw [oh n k hk,decide_eq_true_iff] at this;omega
 intro h k hk e;rw [oh n k hk,decide_eq_true_iff];apply Nat.lt_of_not_le;intro hle;rw [h k hk hle] at e;cases e
def od {n:Int} (hn:0 <= n) (h16:n <= 16) {f:Fd}:inU n f = true <-> sub f.lhs (b6 n) /\ sub f.rhs (b6 n):=by
 unfold inU b6;rw [decide_eq_true_iff,b6p b8i,<- zh b8i];exact ⟨fun h=>⟨sk a44 h,sk a4i h⟩,fun h=>a5p h.1 h.2⟩
abbrev Fd.pc (f:Fd):PC:=.agg [f.c 0,f.c 1]
def imp (l:List Fd) (f:Fd):Bool:=decide (sub f.rhs (clo l f.lhs))
end
section
open Go.Proofs
def ati (n:Int) (l:List Fd):a8 b98 56 [pI n,pP (fdl l)] (ae [pI (db n l)]):=by
 refine hpx (nt:=42) Tryz.func56 ?_;refine cu ?_;refine bv 1 rfl fun hlen=>?_;refine w_9 ?_;refine aa rfl rfl (fun r0=>?_) (fun r0=>?_)
 ·
  have h0:=tz1 r0;(iterate 2 refine k9 (gtf r0) ?_);refine w_7 ?_
  exact hx8 rfl rfl rfl (⟨cci (by rw [db,if_pos b8i]),trivial⟩)
 have h0:=tz2 r0;(iterate 2 refine qy ?_ (hg:=(gff r0)));refine w_2 ?_;refine ag _ rfl (fun r1=>?_) (fun r1=>?_)
 · have h1:=tz1 (ab r0 r1);refine v_4 ?_;exact ⟨cci (by rw [db,if_pos b8i]),trivial⟩
 have h1:=tz2 (ab r0 r1);refine w_8 ?_;refine hcd (fun h2=>?_) (fun h2=>?_)
 · refine v_4 ?_;exact ⟨cci (by rw [db,if_neg b8i,if_pos b8i]),trivial⟩
 refine w_4 ?_;refine qcx sa (sj n) ?_;refine w_8 ?_;refine af (ι:=Nat) (ka 1 (ka 5 kn)) km (fun i=>⟨[(6,some (vI i))],[]⟩) (fun i=>i <= l.length /\ ∀ j,j < i -> inU n (l.getD j default) = true) (fun i=>l.length - i) (0) (⟨b5h _,fun j hj=>absurd hj (b5i j)⟩) kk ?_;rintro i ⟨hi,hI⟩;refine w_8 ?_;refine hcd (fun h3=>?_) (fun h3=>?_)
 ·
  refine ej ?_;refine qcx a6f (aaq _ _) ?_;refine w_2 ?_;refine aa rfl rfl (fun r4=>?_) (fun r4=>?_)
  ·
   have h4:=d6 r4;(iterate 8 refine k9 (gtf r4) ?_);refine w_7 ?_
   exact hx8 rfl rfl rfl (⟨cci (by rw [db,if_neg b8i,if_neg b8i,if_neg (fun e=>absurd (s4 (l:=l) (p:=inU n) (i:=i) b8i (by rw [b5m];intro e2;rw [od b8i b8i] at e2;simp_all)) (by rw [e];decide))]),trivial⟩)
  have h4:=d5 r4;(iterate 6 refine qy ?_ (hg:=(gff r4)));refine qcx a6f (aaq _ _) ?_ (hg:=(gff r4));refine qy ?_ (hg:=(gff r4));refine w_2 ?_;refine ag _ rfl (fun r5=>?_) (fun r5=>?_)
  · have h5:=d6 (ab r4 r5);refine v_4 ?_;exact ⟨cci (by rw [db,if_neg b8i,if_neg b8i,if_neg (fun e=>absurd (s4 (l:=l) (p:=inU n) (i:=i) b8i (by rw [b5m];intro e2;rw [od b8i b8i] at e2;simp_all)) (by rw [e];decide))]),trivial⟩
  have h5:=d5 (ab r4 r5);refine w_6 ?_;refine lpz (i + 1) kk ?_;refine ⟨by omega,fun j hj=>?_⟩
  rcases b7s (b8d hj) with h | h
  · exact hI j h
  subst h;exact (od b8i b8i).2 b8p
 obtain rfl:i = l.length:=by omega
 refine v_5 ?_;exact ⟨cci (by rw [db,if_neg b8i,if_neg b8i,if_pos (w5 fun j hj=>hI j hj)]),trivial⟩
end
section
variable {α:Type}
def c0 [Inhabited α] {l:List α} {q:Nat} (hq:q < l.length):l.take (q + 1) = l.take q ++ [l.getD q default]:=by
 rw [List.take_add_one,b5b hq];simp [List.getD,hq]
def ak3 [Inhabited α] {l:List α} {q:Nat} (h0:0 < q) (hq:q <= l.length):(l.take q).getLast? = some (l.getD (q - 1) default):=by
 obtain ⟨k,rfl⟩:∃ k,q = k + 1:=⟨q - 1,by omega⟩;rw [c0 b8i,List.getLast?_append];simp
section
variable [DecidableEq α]
def jf:Option α -> List α -> List α
 | _,[]=>[]
 | p,x :: l=>if p = some x then jf p l else x :: jf (some x) l
def jx (l:List α):List α:=jf none l
def xg (p:Option α) (l:List α):Option α:=match l.getLast? with | some y=>some y | none=>p
def afo (p:Option α) (y:α) (l:List α):xg p (y :: l) = xg (some y) l:=by
 unfold xg
 cases l with
 | nil=>rfl
 | cons z l=>simp [List.getLast?_cons]
def a0r (x:α):∀ (l:List α) (p:Option α),jf p (l ++ [x]) = jf p l ++ (if xg p l = some x then [] else [x])
 | [],p=>by
  unfold xg;simp only [b6u,jf,List.getLast?_nil];by_cases h:p = some x <;> simp [h]
 | y :: l,p=>by
  rw [afo];simp only [b6x,jf];split
  · rename_i h
    rw [a0r x l p,h]
  rw [a0r x l (some y)];rfl
def gz [Inhabited α] {l:List α} {q:Nat} (h0:0 < q) (hq:q < l.length):jx (l.take (q + 1)) = jx (l.take q) ++ (if l.getD (q - 1) default = l.getD q default then [] else [l.getD q default]):=by
 unfold jx;rw [c0 hq,a0r];unfold xg;rw [ak3 h0 b8i];simp
def qt [Inhabited α] {l:List α}:∀ {k:Nat},k <= l.length -> (∀ j,0 < j -> j < k -> ¬ l.getD j default = l.getD (j - 1) default) -> jx (l.take k) = l.take k
 | 0,_,_=>rfl
 | 1,hk,_=>by
  rw [c0 b8i];simp [jx,jf]
 | k + 2,hk,h=>by
  rw [gz b8i b8i,qt b8i (fun j h1 h2=>h j h1 b8i),if_neg (fun e=>h (k + 1) b8i b8i e.symm),<- c0 b8i]
def a3z:∀ (l:List α) (p:Option α),∀ x ∈ jf p l,x ∈ l
 | [],_,x,h=>by simp [jf] at h
 | y :: l,p,x,h=>by
  simp only [jf] at h;split at h
  · exact b65 _ (a3z l p x h)
  rcases b5k.1 h with rfl | h
  · exact b6q
  exact b65 _ (a3z l _ x h)
def a4s:∀ (l:List α) (p:Option α),∀ x ∈ l,p = some x \/ x ∈ jf p l
 | y :: l,p,x,h=>by
  simp only [jf];split
  · rename_i hp
    rcases b5k.1 h with rfl | h
    · exact .inl hp
    exact a4s l p x h
  rcases b5k.1 h with rfl | h
  · exact .inr b6q
  rcases a4s l (some y) x h with h | h
  · simp only [b5a] at h
    subst h;exact .inr b6q
  exact .inr (b65 _ h)
def a56 {l:List α} {x:α}:x ∈ jx l <-> x ∈ l:=⟨a3z l none x,fun h=>by
 rcases a4s l none x h with h | h
 · cases h
 exact h⟩
end
section
variable [Inhabited α]
section
variable {l:List α}
def jg {p:Nat} {v:α} (hp:p < l.length):(l.set p v).getD p default = v:=by simp [List.getD,hp]
def getD_set_ne' {p j:Nat} {v:α} (h:j ≠ p):(l.set p v).getD j default = l.getD j default:=by
 simp only [List.getD,List.getElem?_set_ne (Ne.symm h)]
variable {c:α -> Nat -> PV}
def a83 {wr wr':Bool} {n p k:Nat} {e:TypeId} {v:α} {x:PV} (hw:wr' = true -> wr = true) (hn:n = l.length) (hp:k = p) (hk:p < l.length) (hx:x = c v 0):
 CoO (.arr wr 1 e n (ew (lf c l) k 0 [x])) (.arr wr' 1 e n (lf c (l.set p v))):=by
 subst hp hx hn;refine ⟨hw,rfl,rfl,rfl,fun i j hi hj=>CoP.of_eq ?_⟩;obtain rfl:j = 0:=by omega
 unfold ew lf;by_cases h:i = k
 · subst h
   rw [if_pos ⟨rfl,by omega,by simp⟩,jg hk];rfl
 rw [if_neg b8i,getD_set_ne' h]
def agv {wr wr':Bool} {n p k q d:Nat} {e:TypeId} {l':List α} (hw:wr' = true -> wr = true) (hn:n = l.length) (hp:k = p) (hk:p < l.length) (hd:d = q):
 CoO (.arr wr 1 e n (ew (lf c l) k 0 [lf c l' d 0])) (.arr wr' 1 e n (lf c (l.set p (l'.getD q default)))):=a83 hw hn hp hk (by rw [hd];rfl)
def ase {n m a:Nat} {cl:Bool} {l':List α} {z:List Value} {p:Option Int} {h:Option Int} (hn:gp (bo n h) p = l'.length) (hp:p = none) (ha:l'.length <= a) (hl:l' = l.take l'.length):
 CoP (.sl (gp (bo n h) p) 1 cl (pn (pf (lf c l) a m z) p)) (psl 1 c l'):=by
 subst hp;refine CoP.sl hn.symm (.inl rfl) (fun h=>by cases h) fun i j hi hj=>CoP.of_eq ?_;rw [hn] at hi;show pf (lf c l) a m z i j = lf c l' i j;unfold pf;rw [if_neg b8i];simp only [lf,List.getD];have e:l'[i]? = l[i]?:=by rw [hl,b69,if_pos hi]
 rw [e]
end
end
abbrev sC:AS -> Nat -> PV:=fun s _=>asC s
structure CpI (l:List AS) (k p q:Nat) (m:List AS):Prop where
 len:m.length = l.length
 kq:k < q
 pq:p < q
 ql:q <= l.length
 pre:m.take p = jx (l.take q)
 high:∀ j,q - 1 <= j -> m.getD j default = l.getD j default
theorem CpI.start {l:List AS} {k:Nat} (h1:1 <= k) (hk:k < l.length) (h:∀ j,0 < j -> j < k -> ¬ l.getD j default = l.getD (j - 1) default) (hd:l.getD k default = l.getD (k - 1) default):CpI l k k (k + 1) l :=
 ⟨rfl,by omega,by omega,by omega,by rw [gz b8i hk,if_pos hd.symm,b6h,qt b8i h],fun _ _=>rfl⟩
theorem CpI.skip {l:List AS} {k p q:Nat} {m:List AS} (h:CpI l k p q m) (hq:q < l.length) (he:m.getD q default = m.getD (q - 1) default):CpI l k p (q + 1) m:=by
 have hk:=h.kq;refine ⟨h.len,by omega,by have:=h.pq;omega,hq, ?_,fun j hj=>h.high j b8i⟩;rw [h.high q b8i,h.high (q - 1) b8i] at he;rw [gz b8i hq,if_pos he.symm,b6h,h.pre]
theorem CpI.keep {l:List AS} {k p q:Nat} {m:List AS} (h:CpI l k p q m) (hq:q < l.length) (he:¬ m.getD q default = m.getD (q - 1) default):CpI l k (p + 1) (q + 1) (m.set p (m.getD q default)):=by
 have hk:=h.kq;have hp:=h.pq;have hl:=h.len;refine ⟨by simp [hl],by omega,by omega,hq, ?_,fun j hj=>by rw [getD_set_ne' b8i];exact h.high j b8i⟩;have e:=h.high q b8i;rw [e,h.high (q - 1) b8i] at he;rw [gz b8i hq,if_neg (fun e=>he e.symm),<- h.pre,c0 (by simp [hl];omega),jg b8i,e];congr 1;rw [List.take_set,b84 b8w]
end
section
section
variable {α:Type} [Inhabited α] {p:α -> Bool} {l:List α}
def akc:(decide (0 <= idx p l)) = l.any p:=by
 unfold idx
 cases hf:l.findIdx? p with
 | none =>
  rw [List.findIdx?_eq_none_iff] at hf
  have:l.any p = false:=by
   rw [b6v];intro x hx;rw [hf x hx];exact Bool.false_ne_true
  rw [this];rfl
 | some i =>
  obtain ⟨h1,h2,_⟩:=b7h.1 hf;have:l.any p = true:=b6c.2 ⟨l[i],b5l h1,h2⟩;rw [this];exact decide_eq_true (Int.natCast_nonneg i)
def a65:∀ {k:Nat},k <= l.length -> (∀ j,j < k -> p (l.getD j default) = false) -> (l.take k).filter (fun x=>!p x) = l.take k
 | 0,_,_=>by simp
 | k + 1,hk,h=>by rw [c0 b8i,b7t,a65 b8i fun j hj=>h j b8i];simp only [b7i,h k b8i,Bool.not_false,if_true,List.filter_nil]
structure DfI (p:α -> Bool) (l:List α) (k q:Nat) (m:List α):Prop where
 len:m.length = l.length
 kq:k < q
 ql:q <= l.length
 pre:m.take k = (l.take q).filter fun x=>!p x
 high:∀ j,q <= j -> m.getD j default = l.getD j default
theorem DfI.start {k:Nat} (hk:k < l.length) (h1:p (l.getD k default) = true) (h:∀ j,j < k -> p (l.getD j default) = false):DfI p l k (k + 1) l :=
 ⟨rfl,by omega,hk,by rw [c0 hk,b7t,a65 b8i h];simp only [b7i,h1,Bool.not_true,List.filter_nil,b88,if_false,b6h],fun _ _=>rfl⟩
theorem DfI.skip {k q:Nat} {m:List α} (h:DfI p l k q m) (hq:q < l.length) (hp:p (m.getD q default) = true):DfI p l k (q + 1) m:=by
 rw [h.high q (b5g _)] at hp;exact ⟨h.len,by have:=h.kq;omega,hq,by rw [c0 hq,b7t,<- h.pre];simp only [b7i,hp,Bool.not_true,List.filter_nil,b88,if_false,b6h],fun j hj=>h.high j b8i⟩
theorem DfI.keep {k q:Nat} {m:List α} (h:DfI p l k q m) (hq:q < l.length) (hp:p (m.getD q default) = false):DfI p l (k + 1) (q + 1) (m.set k (m.getD q default)):=by
 have e:=h.high q (b5g _);rw [e] at hp ⊢;have hk:=h.kq;have hl:=h.len;refine ⟨by simp [hl],by omega,hq, ?_,fun j hj=>by rw [getD_set_ne' b8i];exact h.high j b8i⟩;rw [c0 (by simp [hl];omega),jg b8i,c0 hq,b7t,<- h.pre];simp only [b7i,hp,Bool.not_false,if_true,List.filter_nil];congr 1;rw [List.take_set,b84 b8w]
end
section
variable {p:AS -> Bool} {l:List AS}
end
instance:DecidableEq Fd:=fun a b=>decidable_of_iff (a.lhs = b.lhs /\ a.rhs = b.rhs) Fd.eq_iff.symm
end
section
open Go.Proofs
def aye:goodFn b98 13:=⟨Tryz.f13,Tryz.func13,by kernel_rfl,by kernel_rfl⟩
def as0 (n:Nat) (c:Bool) (f:Nat -> Nat -> PV) (hn:n <= 35184372088832) :
 cq b98 13 [.one (.p (.sl n 1 c f))] [] (.v (.one (.ref 0 n))) [(0, .arr true 1 28 n f)] []:=by
 refine hfx (nt:=8) Tryz.func13 ?_;refine sx7 ?_;refine ax true rfl rfl rfl rfl rfl trivial ?_;refine bq ?_;refine qb (ι:=Bool) (fun c=>⟨[(0,some (b4 (.sl n 1 c f)))],[]⟩) (fun _=>True) ?_ fun c _=>?_
 · rcases b6m n with hz | h0
   · subst hz
     refine hw_exact' 0 rfl fun ad cap hcap=>?_;refine sx7 ?_;(iterate 2 refine ax true rfl rfl rfl rfl rfl trivial ?_);refine bq ?_;refine ag ad.isNone rfl (fun hc=>?_) (fun hc=>?_)
     · refine sx7 ?_
       refine ax true rfl rfl rfl rfl rfl trivial ?_;refine bq ?_;refine eo 2 0 true 1 28 f b8n rfl (CoP.sl rfl (.inr rfl) (fun h=>h) fun i j hi _=>absurd hi (b5i i)) (.inr rfl) rfl ?_;refine hrr ?_;exact ⟨_,_,rfl,trivial,CoR.refl _,uu⟩
     refine cz ?_;exact ⟨false,trivial,⟨⟨_,rfl,CoP.raw_sl hcap⟩,trivial⟩,trivial⟩
   refine sx7 ?_;refine ax true rfl rfl rfl rfl rfl trivial ?_;refine ax true rfl rfl rfl rfl rfl h0 ?_;refine bq ?_;refine ag false rfl (fun hc=>by cases hc) (fun hc=>?_);refine cz ?_;exact ⟨c,trivial,tt,trivial⟩
 refine sx7 ?_;refine ou 0 rfl rfl rfl rfl rfl rfl trivial ?_;refine ax true rfl rfl rfl rfl rfl trivial ?_;refine se 0 true rfl rfl rfl rfl rfl rfl ⟨trivial,rfl,rfl,rfl, .inl rfl,by show 0 + n <= 9223372036854775807;omega,by show (0 + n) * 4 <= 140737488355328;omega,fun _=>.inl rfl⟩ ?_;refine ax true rfl rfl rfl rfl rfl trivial ?_;refine bq ?_;refine hrr ?_;refine ⟨_,_,rfl,trivial,CoR.of_eq (by show HR.v (.one (.ref 0 (0 + n))) = _;rw [b5q]),⟨⟨_,rfl, ?_⟩,trivial⟩⟩;exact ⟨fun h=>h,rfl,rfl,(b5q n).symm,fun i j _ _=>CoP.of_eq (by simp [d8])⟩
def aqe (n:Nat) (c:Bool) (f:Nat -> Nat -> PV) (hn:n <= 35184372088832):a8 b98 13 [.one (.sl n 1 c f)] (.v (.one (.sl n 1 false f))) :=
 cq.pure (args:=[.one (.sl n 1 c f)]) (l:=[.one (.ref 0 n)]) (as0 n c f hn) rfl ⟨rfl,trivial⟩
end
section
def bi (s:AS) (i:Int):Bool:=decide (0 <= i /\ i < 32) && s.getLsbD i.toNat
def ef {s:AS} {i:Nat} (h:i < 32):bi s i = s.getLsbD i:=by
 unfold bi;rw [decide_eq_true b8i];simp
def aau {s:AS} {i:Int} (h0:0 <= i) (h1:i < 32):decide (it .and .u32 ((asI s).fdiv (2 ^ (min i.toNat 32))) 1 = 1) = bi s i:=by
 unfold bi;rw [aq2,show (1:Int) = asI 1 from rfl,aja,decide_eq_true (show 0 <= i /\ i < 32 from ⟨h0,h1⟩),b7w]
 have e:asI (s >>> i.toNat &&& 1) = asI 1 <-> s.getLsbD i.toNat = true:=by
  rw [qi];constructor
  · intro h
    have:=congrArg (fun x:AS=>x.getLsbD 0) h;simpa using this
  intro h;apply b6y;intro k hk;have h1:(1:AS).getLsbD k = decide (k = 0):=by have:=a2r 0 k hk;simpa using this
  rw [b6o,BitVec.getLsbD_ushiftRight,h1];by_cases hk0:k = 0
  · subst hk0;simp [h]
  simp [hk0]
 cases hb:s.getLsbD i.toNat with
 | true=>exact decide_eq_true (e.2 hb)
 | false=>exact decide_eq_false fun h=>by rw [e.1 h] at hb;cases hb
def uz {s:AS} {i:Int} (h:¬ (0 <= i /\ i < 32)):bi s i = false:=by
 unfold bi;rw [decide_eq_false h];rfl
def afv {n:Nat} (h:n <= 32):jm n = BitVec.ofNat 32 (2 ^ n - 1):=by
 apply b6y;intro k hk;rw [oh n k hk,BitVec.getLsbD_ofNat,Nat.testBit_two_pow_sub_one];simp [hk]
def afq {n:Nat} (h:n <= 32):(jm n).toNat = 2 ^ n - 1:=by
 have h2:2 ^ n <= 2 ^ 32:=Nat.pow_le_pow_right b8i h;have h3:0 < 2 ^ n:=Nat.two_pow_pos n;rw [afv h,BitVec.toNat_ofNat,Nat.mod_eq_of_lt b8i]
def a8x {n:Int} {l:List Fd} (h:db n l = 0):0 <= n /\ n <= 16 /\ l.length <= 64 /\ l.all (inU n) = true:=by
 unfold db at h;split at h
 · cases h
 split at h
 · cases h
 split at h
 · rename_i h1 h2 h3
   exact ⟨by omega,by omega,by omega,h3⟩
 cases h
def a0s {n:Int} (h0:0 <= n) (h1:n <= 16):IntKind.wrap .u32 (1 * 2 ^ (min n.toNat 32)) - 1 = asI (b6 n):=by
 have h2:2 ^ n.toNat <= 2 ^ 16:=Nat.pow_le_pow_right b8i b8i;have h3:0 < 2 ^ n.toNat:=Nat.two_pow_pos _;rw [show IntKind.wrap .u32 (1 * 2 ^ (min n.toNat 32)) = asI ((1:AS) <<< n.toNat) from axf 1 n.toNat];unfold b6 asI;rw [b6p b8i,afq b8i,BitVec.toNat_shiftLeft,Nat.shiftLeft_eq];rw [show (1:AS).toNat = 1 from rfl,Nat.one_mul,Nat.mod_eq_of_lt b8i];omega
def apt {n:Int} (h0:0 <= n) (h1:n <= 16):0 <= IntKind.wrap .u32 (1 * 2 ^ (min n.toNat 32)) - 1:=by rw [a0s h0 h1];exact acl _
def alf {n:Int} (h0:0 <= n) (h1:n <= 16):IntKind.wrap .u32 (1 * 2 ^ (min n.toNat 32)) - 1 <= 4294967295:=by rw [a0s h0 h1];have:=ae2 (b6 n);omega
def a8c (n:Int) (l:List Fd) (s:AS):Bool:=decide (db n l = 0 /\ sub s (b6 n) /\ clo l s = b6 n)
section
variable {n:Int} {l:List Fd} {s:AS}
end
def a43 (n:Int) (l:List Fd) (m:Int):Int:=if db n l = 0 then (if m < n then 3 else 0) else db n l
structure Dp where
 l:BitVec 8
 r:BitVec 8
deriving Inhabited
def Dp.c (d:Dp):Nat -> PV
 | 0=>.raw (.int .u8 (d.l.toNat:Int))
 | 1=>.raw (.int .u8 (d.r.toNat:Int))
 | _=>.any
abbrev dpl (l:List Dp):PV:=psl 2 Dp.c l
def Dp.fd (n:Int) (d:Dp):Fd:=⟨d.l.setWidth 32 &&& b6 n,d.r.setWidth 32 &&& b6 n⟩
def a18 (b:BitVec 8) (t:AS):it .and .u32 (b.toNat:Int) (asI t) = asI (b.setWidth 32 &&& t):=by
 have h:=b.isLt
 have e:asI (b.setWidth 32) = (b.toNat:Int):=by
  unfold asI;rw [BitVec.toNat_setWidth,Nat.mod_eq_of_lt b8i]
 rw [<- aja,e]
end
section
open Go.Proofs
def tn:goodFn b98 119:=wgx Tryz.func119
def a7k (s:AS) (i:Int):a8 b98 119 [pA s,pI i] (ae [pB (bi s i)]):=by
 refine hpx (nt:=18) Tryz.func119 ?_;refine w_9 ?_;refine aa rfl rfl (fun r0=>?_) (fun r0=>?_)
 ·
  have h0:=tz1 r0;(iterate 2 refine qy ?_ (hg:=(gtt r0)));refine w_2 ?_;refine aa rfl rfl (fun r1=>?_) (fun r1=>?_)
  ·
   have h1:=tz1 (bd r0 r1);(iterate 5 refine qy ?_ (hg:=(gtt r1)));refine w_3 ?_
   exact hx8 rfl rfl rfl (⟨ccb (by first | exact xm b8j (aau b8i b8i) | exact (uz b8i).symm),trivial⟩)
  have h1:=tz2 (bd r0 r1);(iterate 5 refine k9 (gft r1) ?_);refine w_3 ?_
  exact hx8 rfl rfl rfl (⟨ccb (by first | exact xm b8j (aau b8i b8i) | exact (uz b8i).symm),trivial⟩)
 have h0:=tz2 r0;(iterate 2 refine k9 (gft r0) ?_);refine w_2 ?_;(iterate 5 refine k9 rfl ?_);refine w_3 ?_
 exact hx8 rfl rfl rfl (⟨ccb (by first | exact xm b8j (aau b8i b8i) | exact (uz b8i).symm),trivial⟩)
end
section
def bsz (s:AS):Nat:=(List.range 32).countP fun i=>s.getLsbD i
def bef (a b:AS):Bool:=decide (bsz a < bsz b) || (decide (bsz a = bsz b) && decide (a.toNat < b.toNat))
def awu (l:List AS):Prop:=l.Pairwise fun a b=>bef a b = true
def ax6 (x:AS):List AS -> List AS
 | []=>[x]
 | y :: l=>if x = y then y :: l else if bef x y = true then x :: y :: l else y :: ax6 x l
def ord (l:List AS):List AS:=l.foldl (fun o x=>ax6 x o) []
end
section
def b7 (s:AS):List Nat:=(List.range 32).filter fun i=>s.getLsbD i
def iC:Nat -> Nat -> PV:=fun n _=>.raw (.int .i64 (n:Int))
abbrev il (l:List Nat):PV:=psl 1 iC l
def al7 (s:AS):bsz s = (b7 s).length:=by unfold bsz b7;rw [List.countP_eq_length_filter]
section
variable {s:AS}
def vn {i:Nat}:i ∈ b7 s <-> i < 32 /\ s.getLsbD i = true:=by simp [b7,b7o,b5r]
def a1h {p:Nat -> Bool} {t:Nat}:∀ {l:List Nat},l.Pairwise (· < ·) -> t ∈ l -> p t = true -> (∀ k,k < t -> p k = false) -> l.filter p = t :: l.filter fun k=>decide (k ≠ t) && p k
 | [],_,h,_,_=>by cases h
 | a :: l,hp,hm,h1,h2=>by
  obtain ⟨q1,q2⟩:=b6a.1 hp;by_cases ha:a = t
  · subst ha
    have e:l.filter p = l.filter fun k=>decide (k ≠ a) && p k:=by
     apply List.filter_congr;intro k hk;have:=q1 k hk;rw [decide_eq_true b8i,b7w]
    simp [b7i,h1,e]
  have hm':t ∈ l:=by
   rcases b5k.1 hm with h | h
   · exact absurd h.symm ha
   exact h
  have:=q1 t hm';have hpa:=h2 a this;simp [b7i,hpa,a1h q2 hm' h1 h2]
def lz (s:AS):Nat:=Lib.ctz 32 s.toNat
def ao9 (h:s ≠ 0):∃ m,s.toNat = 2 ^ (lz s + 1) * m + 2 ^ lz s /\ lz s < 32:=by
 have h0:s.toNat ≠ 0:=fun e=>h (b7v e);obtain ⟨m,h1,h2⟩:=Lib.ctzFrom_spec 32 s.toNat b8i s.isLt;have e:lz s = Lib.ctzFrom 32 s.toNat:=by unfold lz Lib.ctz;rw [if_neg h0]
 rw [e];refine ⟨m, ?_,h2⟩;rw [Nat.pow_succ];rw [h1] at *;simp only [Nat.mul_add,Nat.mul_assoc,Nat.mul_one] at *;exact h1
def a2s (h:s ≠ 0):lz s < 32 /\ s.getLsbD (lz s) = true /\ (∀ k,k < lz s -> s.getLsbD k = false) /\ s &&& (s - 1) = s &&& ~~~((1:AS) <<< lz s):=by
 obtain ⟨m,h1,h2⟩:=ao9 h;generalize lz s = t at *;have hp:2 ^ t < 2 ^ (t + 1):=Nat.pow_lt_pow_right b8i b8i
 have hb:∀ k,s.getLsbD k = if k < t + 1 then (2 ^ t).testBit k else m.testBit (k - (t + 1)):=fun k=>by
  show s.toNat.testBit k = _;rw [h1,Nat.testBit_two_pow_mul_add _ hp]
 have hq:0 < 2 ^ t:=Nat.two_pow_pos t
 have e1:(s - 1).toNat = 2 ^ (t + 1) * m + (2 ^ t - 1):=by
  have:=s.isLt;rw [BitVec.toNat_sub];show (2 ^ 32 - 1 + s.toNat) % 2 ^ 32 = _;omega
 have hd:∀ k,(s - 1).getLsbD k = if k < t + 1 then (2 ^ t - 1).testBit k else m.testBit (k - (t + 1)):=fun k=>by
  show (s - 1).toNat.testBit k = _;rw [e1,Nat.testBit_two_pow_mul_add _ b8i]
 refine ⟨h2, ?_,fun k hk=>?_, ?_⟩
 · rw [hb,if_pos b8i,Nat.testBit_two_pow_self]
 · rw [hb,if_pos b8i,Nat.testBit_two_pow]
   simp;omega
 apply b6y;intro k hk;rw [b6o,b6o,b8a,a2r _ _ hk,hd k,hb k];by_cases h3:k < t + 1
 · rw [if_pos h3,if_pos h3,Nat.testBit_two_pow,Nat.testBit_two_pow_sub_one]
   by_cases h4:k = t
   · subst h4;simp
   have:¬ t = k:=fun e=>h4 e.symm;simp [this]
 rw [if_neg h3,if_neg h3];have:¬ k = t:=by omega
 simp [hk,this]
def a0g (h:s ≠ 0) (k:Nat) (hk:k < 32):(s &&& (s - 1)).getLsbD k = (decide (k ≠ lz s) && s.getLsbD k):=by
 rw [(a2s h).2.2.2,b6o,b8a,a2r _ _ hk];by_cases e:k = lz s <;> simp [e,hk,Bool.and_comm]
def amg (h:s ≠ 0):b7 s = lz s :: b7 (s &&& (s - 1)):=by
 obtain ⟨h1,h2,h3,_⟩:=a2s h;unfold b7;rw [a1h List.pairwise_lt_range (b5r.2 h1) h2 h3];congr 1;apply List.filter_congr;intro k hk;rw [a0g h k (b5r.1 hk)]
def ajg:b7 0 = []:=by
 unfold b7;rw [List.filter_eq_nil_iff];intro k _;simp
def ani (h:s ≠ 0):(s &&& (s - 1)).toNat < s.toNat:=by
 refine ac3 (dj.2 fun i hi hb=>?_) fun e=>?_
 · rw [a0g h i hi] at hb
   simp only [b5j] at hb;exact hb.2
 have:=a0g h (lz s) (a2s h).1;rw [e,(a2s h).2.1] at this;simp at this
end
end
end Go.Hx

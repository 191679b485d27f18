/- A part of the proof: Hx19 Hx23 Cs1 Cs3 V1 Cs4 V2 Cl1 V3 Cl2. -/
import Derived.Deep.AppendLies
import Derived.Laws.CopyRow
import Derived.Shelf.Spec.SlicesInsertGrow
import Derived.Test.YtkkenjdfbojdlaaGreatDoorEx14
import Derived.Test.YtkkenjdfbojdlaaGreatDoorEx15
set_option linter.all false
section
namespace Go.Hx
open Go.Proofs Go.Lib Go.RowKit
theorem b7d (w:World) (o:Obj) {r:Nat} (h:r < w.heap.size):(w.alloc o).heap[r]? = w.heap[r]?:=by
 show (w.heap.push o)[r]? = _
 rw [Array.getElem?_push_lt h,Array.getElem?_eq_getElem h]
def bei (k:Nat) (xs vs:List Value):List Value:=xs.take k ++ vs ++ xs.drop k
structure bdk (w w':World) (T s:Nat) (own v:Value) (n:Nat) (xs:List Value):Prop where
 row:w'.ownsRow 0 T s v (n + 1) xs
 bl:Below 0 w w'
 out:∀ g,g < w.heap.size → ce own ≠ some g → w'.heap[g]? = w.heap[g]?
 at_:∀ g,ce v = some g → w.heap.size ≤ g ∨ ce own = some g
def bet (i:Nat) (F G:Nat → Nat → PV):Nat → Nat → PV:=fun k j=>if k < i then F k j else if k = i then G 0 j else F (k - 1) j
theorem gk {id q:Nat} {x ob:af} (h:lk [(q,x)] id = some ob):id = q ∧ ob = x:=by
 simp only [lk] at h
 by_cases hk:q = id
 · subst hk
   simp at h
   exact ⟨rfl,h.symm⟩
 have:Nat.beq q id = false:=by
  rw [Bool.eq_false_iff];exact fun hb=>hk (Nat.eq_of_beq_eq_true hb)
 rw [this] at h
 cases h
structure bew (c:Ctx) (w w':World) (T s a:Nat) (v:Value) (n:Nat) (ys:List Value):Prop where
 row:w'.ownsRow 0 T s v (n + 1) ys
 bl:Below 0 w w'
 out:∀ g,g < w.heap.size → ¬ c.blk a g → w'.heap[g]? = w.heap[g]?
 at_:∀ g,ce v = some g → w.heap.size ≤ g ∨ c.blk a g
theorem ayd {P:Program} {f:FuncId} {T s a:Nat} {y:Value} {F:Nat → Nat → PV} (hs:0 < s)
 (h:∀ (w:World) (ad:Option Addr),Calls P f #[.slice ad 0 0,y] w fun e w'=>∃ v,e = .returned v ∧ Below w.heap.size w w' ∧ (v = .slice ad 0 0 ∨ w'.ownsRow 0 T s v 0 [] ∧ ∀ g,ce v = some g → w.heap.size ≤ g)) :
 dj P f [.one (.p (j3 (.slice none 0 0))), .one (.p (.raw y))] [] (.v (.one (.ref a 0))) [(a, .arr true s T 0 F)] []:=by
 intro w c us hM hrep
 obtain ⟨ad,rfl⟩:∃ ad,us = [.slice ad 0 0,y]:=by
  match us,hrep with
  | [u0,u1],⟨h0,h1,_⟩ =>
   obtain ⟨ad,cap,hv,_,_,hc,_⟩:=h0
   obtain rfl:cap = 0:=hc rfl
   exact ⟨ad,by rw [hv,show u1 = y from h1.1]⟩
 refine (h w ad).mono ?_
 rintro e w' ⟨v,rfl,hb,hor⟩
 have la:lk [(a,af.arr true s T 0 F)] a = some (.arr true s T 0 F):=by simp [lk]
 have him:∀ q ob,c.imm q = some ob → q < w.heap.size:=fun q ob hq=>(Array.getElem?_eq_some_iff.1 (hM.imm q ob hq)).1
 have hform:v.oneCell' = true:=by
  rcases hor with rfl | ⟨hrow,_⟩
  · rfl
  rcases hrow.2 with ⟨hv,_⟩ | ⟨g,cap,cur,hv,_⟩ <;> (subst hv;rfl)
 have hbk:∃ bk:Nat → Prop,(∀ g,bk g → w.heap.size ≤ g) ∧ (bk = gv v ∧ w'.ownsRow 0 T s v 0 [] ∨ bk = noB ∧ au c.imm (.sl 0 s true F) v):=by
  rcases hor with rfl | ⟨hrow,hat⟩
  · exact ⟨noB,fun g hg=>hg.elim, .inr ⟨rfl,ad,0,rfl,Nat.le_refl _,Nat.zero_le _,fun _=>rfl,fun h=>absurd h (Nat.lt_irrefl 0)⟩⟩
  exact ⟨gv v,hat, .inl ⟨rfl,hrow⟩⟩
 obtain ⟨bk,hat,hok⟩:=hbk
 refine ⟨v,{ c with own:=fun q=>if q = a then v else c.own q,blk:=fun q=>if q = a then bk else c.blk q },rfl,⟨hform,fun l hl=>(by cases (gk hl).2),fun ob s1 e1 n1 ho1 hd=>?_⟩,⟨fun id ob hl=>?_,fun id id' ob ob' q hl hl' _ _=>by rw [(gk hl).1,(gk hl').1],fun q ob hq=>(hb.block q (him q ob hq)).trans (hM.imm q ob hq),fun id ob q hl hq=>?_⟩,⟨hb.os,hb.tape,hb.output,hb.size,fun k hk=>absurd hk (Nat.not_lt_zero k),hb.drawn⟩,fun q hq _=>⟨hb.block q hq,rfl⟩,fun id ob q hl hq=>?_,fun id hid=>absurd hid (by simp)⟩
 · obtain ⟨_,rfl⟩:=gk ho1
   simp only [af.dim,Option.some.injEq,Prod.mk.injEq] at hd
   obtain ⟨rfl,rfl,rfl⟩:=hd
   exact ⟨Nat.le_refl _,fun _=>by simp⟩
 · obtain ⟨rfl,rfl⟩:=gk hl
   rcases hok with ⟨h1,h2⟩ | ⟨h1,h2⟩
   · exact ⟨hs,Nat.zero_le _, .inl ⟨by simpa using h1,[],by simpa using h2,fun i j hi=>by omega⟩⟩
   exact ⟨hs,Nat.zero_le _, .inr ⟨.inr rfl,by simpa using h1,by simpa using h2⟩⟩
 · obtain ⟨rfl,_⟩:=gk hl
   have hq':bk q:=by simpa using hq
   show c.imm q = none
   cases hc:c.imm q with
   | none=>rfl
   | some ob=>have:=him q ob hc;have:=hat q hq';omega
 obtain ⟨rfl,_⟩:=gk hl
 have hq':bk q:=by simpa using hq
 exact .inl (hat q hq')
def HE (nt:Nat) (st:HSt) (Q:HSt → Prop):Prop:=∀ w0 m0 a w,Rel w0 m0 nt st.den a w → ∃ st':HSt,Q st' ∧ Rel w0 m0 nt st'.den a w
end Go.Hx
end
section
namespace Go.Hx
open Go.RowKit
abbrev AS:=BitVec 32
abbrev asI (s:AS):Int:=(s.toNat:Int)
def asC (s:AS):PV:=.raw (.int .u32 (asI s))
theorem aek {n:Int} (h0:0 ≤ n) (h1:n < 4294967296):IntKind.wrap .u32 n = n:=qo (by simp only [inR,qf,ve];omega)
theorem a7d (s:AS):asI s < 4294967296:=by
 have:=s.isLt
 unfold asI
 omega
theorem a16 (s:AS):0 ≤ asI s:=Int.natCast_nonneg _
theorem oq (s:AS):BitVec.ofInt 32 (asI s) = s:=by
 unfold asI
 rw [BitVec.ofInt_natCast,BitVec.ofNat_toNat,BitVec.setWidth_eq]
theorem c6 {a b:AS}:asI a = asI b ↔ a = b:=by
 unfold asI
 rw [Int.ofNat_inj]
 exact BitVec.toNat_inj
theorem a4n (s:AS):IntKind.wrap .u32 (s.toNat:Int) = asI s:=aek (a16 s) (a7d s)
theorem i6 (a b:AS):bj .and .u32 (asI a) (asI b) = asI (a &&& b):=by
 show IntKind.wrap .u32 ((BitVec.ofInt 32 (asI a) &&& BitVec.ofInt 32 (asI b)).toNat:Int) = _
 rw [oq,oq,a4n]
theorem bOr (a b:AS):bj .or .u32 (asI a) (asI b) = asI (a ||| b):=by
 show IntKind.wrap .u32 ((BitVec.ofInt 32 (asI a) ||| BitVec.ofInt 32 (asI b)).toNat:Int) = _
 rw [oq,oq,a4n]
theorem jd (a b:AS):bj .andNot .u32 (asI a) (asI b) = asI (a &&& ~~~b):=by
 show IntKind.wrap .u32 ((BitVec.ofInt 32 (asI a) &&& ~~~BitVec.ofInt 32 (asI b)).toNat:Int) = _
 rw [oq,oq,a4n]
theorem sy (a:AS) (n:Nat):(asI a).fdiv (2 ^ (min n 32)) = asI (a >>> n):=by
 have e:(2:Int) ^ (min n 32) = ((2 ^ (min n 32):Nat):Int):=by rw [Int.natCast_pow];rfl
 rw [e]
 unfold asI
 rw [Int.fdiv_eq_ediv_of_nonneg _ (Int.natCast_nonneg _),← Int.natCast_ediv,BitVec.toNat_ushiftRight,Nat.shiftRight_eq_div_pow]
 by_cases h:n ≤ 32
 · rw [Nat.min_eq_left h]
 rw [Nat.min_eq_right (by omega)]
 have h1:=a.isLt
 have h2:2 ^ 32 ≤ 2 ^ n:=Nat.pow_le_pow_right (by omega) (by omega)
 rw [Nat.div_eq_of_lt (by omega),Nat.div_eq_of_lt (Nat.lt_of_lt_of_le (by omega) h2)]
theorem ac2 (a:AS) (n:Nat):IntKind.wrap .u32 (asI a * 2 ^ (min n 32)) = asI (a <<< n):=by
 have e:asI a * (2:Int) ^ (min n 32) = ((a.toNat * 2 ^ (min n 32):Nat):Int):=by rw [Int.natCast_mul,Int.natCast_pow];rfl
 rw [e]
 have hw:∀ m:Nat,IntKind.wrap .u32 (m:Int) = ((m % 4294967296:Nat):Int):=by
  intro m
  simp [IntKind.wrap,IntKind.signed,IntKind.bits]
 rw [hw]
 unfold asI
 rw [BitVec.toNat_shiftLeft,Nat.shiftLeft_eq]
 by_cases h:n ≤ 32
 · rw [Nat.min_eq_left h]
 rw [Nat.min_eq_right (by omega)]
 have h1:a.toNat * 2 ^ 32 % 2 ^ 32 = 0:=Nat.mul_mod_left _ _
 have h2:a.toNat * 2 ^ n % 2 ^ 32 = 0:=by
  obtain ⟨k,rfl⟩:∃ k,n = k + 32:=⟨n - 32,by omega⟩
  rw [Nat.pow_add,← Nat.mul_assoc]
  exact Nat.mul_mod_left _ _
 have h1:a.toNat * 2 ^ 32 % 4294967296 = 0:=h1
 rw [h1,h2]
end Go.Hx
end
section
namespace Go.Hx
structure Fd where
 lhs:AS
 rhs:AS
instance:Inhabited Fd:=⟨⟨0,0⟩⟩
theorem Fd.eq_iff {a b:Fd}:a = b ↔ a.lhs = b.lhs ∧ a.rhs = b.rhs:=by cases a;cases b;simp
instance:DecidableEq Fd:=fun a b=>decidable_of_iff _ (Fd.eq_iff (a:=a) (b:=b)).symm
def Fd.c (x:Fd):Nat → PV
 | 0=>asC x.lhs
 | 1=>asC x.rhs
 | _=>.any
def sub (a b:AS):Prop:=a &&& ~~~b = 0
instance:DecidablePred fun p:AS × AS=>sub p.1 p.2:=fun p=>inferInstanceAs (Decidable (_ = _))
instance {a b:AS}:Decidable (sub a b):=inferInstanceAs (Decidable (_ = _))
theorem cb {a b:AS}:sub a b ↔ ∀ i,i < 32 → a.getLsbD i = true → b.getLsbD i = true:=by
 unfold sub
 constructor
 · intro h i hi ha
   have:=congrArg (fun x:AS=>x.getLsbD i) h
   simp only [BitVec.getLsbD_and,BitVec.getLsbD_not,hi,ha,decide_true,Bool.true_and] at this
   simpa using this
 intro h
 apply BitVec.eq_of_getLsbD_eq
 intro i hi
 have:=h i hi
 simp only [BitVec.getLsbD_and,BitVec.getLsbD_not,hi,decide_true,Bool.true_and]
 cases ha:a.getLsbD i <;> cases hb:b.getLsbD i <;> simp_all
theorem j5 (a:AS):sub a a:=cb.2 fun _ _ h=>h
theorem ji {a b c:AS} (h:sub a b) (k:sub b c):sub a c:=cb.2 fun i hi ha=>cb.1 k i hi (cb.1 h i hi ha)
theorem un {a b:AS}:sub a (a ||| b):=cb.2 fun i hi ha=>by simp [ha]
theorem zz {a b:AS}:sub b (a ||| b):=cb.2 fun i hi ha=>by simp [ha]
theorem xr {a b c:AS} (h:sub a c) (k:sub b c):sub (a ||| b) c:=cb.2 fun i hi ha=>by
 rw [BitVec.getLsbD_or,Bool.or_eq_true] at ha
 rcases ha with ha | ha
 · exact cb.1 h i hi ha
 exact cb.1 k i hi ha
theorem gq {a b:AS} (h:sub a b) (k:sub b a):a = b:=by
 apply BitVec.eq_of_getLsbD_eq
 intro i hi
 have h1:=cb.1 h i hi
 have h2:=cb.1 k i hi
 cases ha:a.getLsbD i <;> cases hb:b.getLsbD i <;> simp_all
theorem anb {a b:AS} (h:sub a b):a.toNat ≤ b.toNat:=by
 have e:a ||| b = b:=gq (xr h (j5 b)) zz
 have:a.toNat ≤ (a ||| b).toNat:=by rw [BitVec.toNat_or];exact Nat.left_le_or
 rwa [e] at this
theorem xz {a b:AS} (h:sub a b) (hne:a ≠ b):a.toNat < b.toNat:=by
 rcases Nat.lt_or_eq_of_le (anb h) with h | h
 · exact h
 exact absurd (BitVec.eq_of_toNat_eq h) hne
theorem b3y {a b:AS}:sub a b ↔ a &&& b = a:=by
 rw [cb]
 constructor
 · intro h
   apply BitVec.eq_of_getLsbD_eq
   intro i hi
   have:=h i hi
   rw [BitVec.getLsbD_and]
   cases ha:a.getLsbD i <;> simp_all
 intro h i hi ha
 have:=congrArg (fun x:AS=>x.getLsbD i) h
 simp only [BitVec.getLsbD_and,ha,Bool.true_and] at this
 exact this
def fv (s:AS) (f:Fd):AS:=if sub f.lhs s then s ||| f.rhs else s
def ej (l:List Fd) (s:AS):AS:=l.foldl fv s
theorem a7x {s:AS} {f:Fd}:sub s (fv s f):=by
 unfold fv
 split
 · exact un
 exact j5 s
theorem lw:∀ {l:List Fd} {s:AS},sub s (ej l s)
 | [],s=>j5 s
 | f :: l,s=>ji a7x (lw (l:=l) (s:=fv s f))
def clF (l:List Fd):Nat → AS → AS
 | 0,s=>s
 | n + 1,s=>if ej l s = s then s else clF l n (ej l s)
def clo (l:List Fd) (s:AS):AS:=clF l 4294967296 s
theorem aeq {l:List Fd}:∀ {n m:Nat} {s:AS},4294967296 - s.toNat ≤ n → 4294967296 - s.toNat ≤ m → clF l n s = clF l m s
 | 0,m,s,hn,hm=>by have:=s.isLt;omega
 | n + 1,0,s,hn,hm=>by have:=s.isLt;omega
 | n + 1,m + 1,s,hn,hm=>by
  unfold clF
  split
  · rfl
  rename_i hne
  have:=xz (lw (l:=l) (s:=s)) (fun e=>hne e.symm)
  exact aeq (by omega) (by omega)
theorem b5d {l:List Fd} {s:AS} (h:ej l s = s):clo l s = s:=by
 show clF l (4294967295 + 1) s = s
 unfold clF
 rw [if_pos h]
theorem aum {l:List Fd} {s:AS}:clo l (ej l s) = clo l s:=by
 by_cases h:ej l s = s
 · rw [h]
 have e:clo l s = clF l 4294967295 (ej l s):=by
  show clF l (4294967295 + 1) s = _
  rw [clF,if_neg h]
 rw [e]
 have:=xz (lw (l:=l) (s:=s)) (fun e=>h e.symm)
 exact aeq (by omega) (by omega)
theorem a7v {l:List Fd}:∀ {n:Nat} {s:AS},4294967296 - s.toNat ≤ n → ej l (clF l n s) = clF l n s
 | 0,s,hn=>by have:=s.isLt;omega
 | n + 1,s,hn=>by
  unfold clF
  split
  · assumption
  rename_i hne
  have:=xz (lw (l:=l) (s:=s)) (fun e=>hne e.symm)
  exact a7v (by omega)
theorem akc {l:List Fd} {s:AS}:ej l (clo l s) = clo l s:=a7v (by omega)
theorem arl {l:List Fd}:∀ {n:Nat} {s:AS},sub s (clF l n s)
 | 0,s=>j5 s
 | n + 1,s=>by
  unfold clF
  split
  · exact j5 s
  exact ji lw arl
theorem a6q {l:List Fd} {s:AS}:sub s (clo l s):=arl
def om (l:List Fd) (s:AS):Prop:=∀ f ∈ l,sub f.lhs s → sub f.rhs s
theorem sx:∀ {l:List Fd} {s:AS},ej l s = s ↔ om l s
 | [],s=>⟨fun _ f hf=>(by cases hf),fun _=>rfl⟩
 | f :: l,s=>by
  constructor
  · intro h
    have h1:fv s f = s:=gq (by have:=lw (l:=l) (s:=fv s f);rw [show ej l (fv s f) = s from h] at this;exact this) a7x
    have h2:ej l s = s:=by
     have:ej l (fv s f) = s:=h
     rwa [h1] at this
    intro g hg
    rcases List.mem_cons.1 hg with rfl | hg
    · intro hl
      rw [fv,if_pos hl] at h1
      rw [← h1]
      exact zz
    exact sx.1 h2 g hg
  intro h
  have h1:fv s f = s:=by
   unfold fv
   split
   · rename_i hl
     exact gq (xr (j5 s) (h f (List.mem_cons_self ..) hl)) un
   rfl
  show ej l (fv s f) = s
  rw [h1]
  exact sx.2 fun g hg=>h g (List.mem_cons_of_mem _ hg)
theorem a6v:∀ {l:List Fd} {s t:AS},om l t → sub s t → sub (ej l s) t
 | [],s,t,_,h=>h
 | f :: l,s,t,ht,h=>a6v (l:=l) (fun g hg=>ht g (List.mem_cons_of_mem _ hg)) (by
  unfold fv
  split
  · rename_i hl
    exact xr h (ht f (List.mem_cons_self ..) (ji hl h))
  exact h)
theorem ai6 {l:List Fd} {t:AS} (ht:om l t):∀ {n:Nat} {s:AS},sub s t → sub (clF l n s) t
 | 0,s,h=>h
 | n + 1,s,h=>by
  unfold clF
  split
  · exact h
  exact ai6 ht (a6v ht h)
theorem a13 {l:List Fd} {s t:AS} (ht:om l t) (h:sub s t):sub (clo l s) t:=ai6 ht h
theorem a0c {l:List Fd} {s:AS}:om l (clo l s):=sx.1 akc
end Go.Hx
end
section
namespace Go.Hx
abbrev pI (a:Int):PC:=.one (.raw (.int .i64 a))
abbrev pB (b:Bool):PC:=.one (.raw (.bool b))
abbrev pP (x:PV):PC:=.one x
abbrev pA (s:AS):PC:=.one (.raw (.int .u32 (asI s)))
abbrev fdl (l:List Fd):PV:=psl 2 Fd.c l
abbrev asl (l:List AS):PV:=psl 1 (fun s _=>asC s) l
abbrev vI (a:Int):HR:=be (.raw (.int .i64 a))
abbrev vA (s:AS):HR:=be (.raw (.int .u32 (asI s)))
theorem ash {l:List Fd} {s:AS} {i:Nat} (hi:i < l.length):ej (l.take (i + 1)) s = fv (ej (l.take i) s) (l.getD i default):=by
 unfold ej
 rw [List.take_succ,List.getElem?_eq_getElem hi,List.foldl_append,List.getD_eq_getElem?_getD,List.getElem?_eq_getElem hi]
 rfl
theorem l7 {a b:AS}:bj .andNot .u32 (asI a) (asI b) = 0 ↔ sub a b:=by
 rw [jd,show (0:Int) = asI 0 from rfl,c6]
 exact Iff.rfl
theorem b8f {S:AS} {f:Fd} (h:bj .andNot .u32 (asI f.lhs) (asI S) = 0):bj .or .u32 (asI S) (asI f.rhs) = asI (fv S f):=by
 rw [bOr,fv,if_pos (l7.1 h)]
theorem b5t {S:AS} {f:Fd} (h:¬ bj .andNot .u32 (asI f.lhs) (asI S) = 0):fv S f = S:=if_neg fun e=>h (l7.2 e)
def inU (n:Int) (f:Fd):Bool:=decide ((f.lhs ||| f.rhs) >>> n.toNat = 0)
def bg (n:Int) (l:List Fd):Int:=if n < 0 ∨ 16 < n then 7 else if 64 < l.length then 3 else if l.all (inU n) = true then 0 else 1
theorem a2j {n:Int} {f:Fd}:(bj .or .u32 (asI f.lhs) (asI f.rhs)).fdiv (2 ^ (min n.toNat 32)) = 0 ↔ inU n f = true:=by
 rw [bOr,sy,show (0:Int) = asI 0 from rfl,c6]
 unfold inU
 rw [decide_eq_true_iff]
theorem dv {k:IntKind} {a b:Int} (h:a = b):CoR (be (.raw (.int k a))) (be (.raw (.int k b))):=by
 rw [h]
 exact CoR.refl _
def iu (n:Nat):AS:=(List.range n).foldl (fun s i=>s ||| ((1:AS) <<< i)) 0
def ar (n:Int):AS:=iu (min n.toNat 32)
theorem a78 (i:Nat):iu (i + 1) = iu i ||| ((1:AS) <<< i):=by
 unfold iu
 rw [List.range_succ,List.foldl_append]
 rfl
theorem anf (i:Nat):bj .or .u32 (asI (iu i)) (IntKind.wrap .u32 (1 * 2 ^ (min i 32))) = asI (iu (i + 1)):=by
 have e:IntKind.wrap .u32 (1 * 2 ^ (min i 32)) = asI ((1:AS) <<< i):=ac2 1 i
 rw [e,bOr,a78]
end Go.Hx
end
section
namespace Go.Hx
open Go.Proofs
set_option maxRecDepth 100000
set_option maxHeartbeats 1000000
theorem a9t:goodFn Tryz.prog 125:=⟨Tryz.f125,Tryz.func125,by kernel_rfl,by kernel_rfl⟩
theorem aiv (a b:AS):ae Tryz.prog 125 [pA a,pA b] (ai [pB (decide (sub a b))]):=by
 refine a8 (nt:=10) a7 Tryz.func125 rfl rfl l9 ?_;refine ld ?_
 exact hx8 rfl rfl rfl (⟨ccb (decide_eq_decide.2 (by rw [i6,c6];exact b3y.symm)),trivial⟩)
theorem od:goodFn Tryz.prog 120:=⟨Tryz.f120,Tryz.func120,by kernel_rfl,by kernel_rfl⟩
theorem sc (l:List Fd) (s0:AS):ae Tryz.prog 120 [pP (fdl l),pA s0] (ai [pA (clo l s0)]):=by
 refine a8 (nt:=29) a7 Tryz.func120 rfl rfl l9 ?_;refine ct ?_
 refine dg 0 rfl fun hlen=>?_
 refine w_4 ?_;refine aj (ι:=AS) ⟨[(0,some _)],[]⟩ ⟨⟨c9,trivial⟩,trivial⟩ (fun s=>⟨[(1,some (vA s))],[]⟩) (fun s=>clo l s = clo l s0) (fun s=>4294967296 - s.toNat) (s0) (rfl) ⟨⟨zy,trivial⟩,trivial⟩ ?_
 rintro s hs
 refine a1x ?_
 refine aj (ι:=Nat) ⟨[(0,some _),(5,some _),(9,some _),(10,some _)],[]⟩ ⟨⟨c9,c9,c9,c9,trivial⟩,trivial⟩ (fun i=>⟨[(11,some (vI i)),(1,some (vA (ej (l.take i) s)))],[]⟩) (fun i=>i ≤ l.length) (fun i=>l.length - i) (0) (Nat.zero_le _) ⟨⟨zy,zy,trivial⟩,trivial⟩ ?_
 rintro i hi
 refine w_5 ?_;refine a6 _ rfl (fun r0=>?_) (fun r0=>?_)
 ·
  have h0:=of_decide_eq_true r0
  try simp only [ty] at h0
  refine w_7 ?_;refine m9 0 ?_;refine d7 ?_;refine a6 _ rfl (fun r1=>?_) (fun r1=>?_)
  ·
   have h1:=of_decide_eq_true r1
   try simp only [ty] at h1
   refine ez ?_;refine ⟨i + 1, ?_, ?_, ?_⟩
   · show i + 1 ≤ _;omega
   · first | omega | (dsimp only;omega)
   exact ⟨⟨zy,⟨_,rfl,(by rw [ash (by omega)];first | (rw [b5t (by assumption)];exact CoR.refl _) | (simp only [Int.toNat_natCast];rw [b8f (by assumption)];exact CoR.refl _))⟩,c9,c9,c9,c9,trivial⟩,trivial⟩
  have h1:=of_decide_eq_false r1
  try simp only [ty] at h1
  refine w_5 ?_;refine ⟨i + 1, ?_, ?_, ?_⟩
  · show i + 1 ≤ _;omega
  · first | omega | (dsimp only;omega)
  exact ⟨⟨zy,⟨_,rfl,(by rw [ash (by omega)];first | (rw [b5t (by assumption)];exact CoR.refl _) | (simp only [Int.toNat_natCast];rw [b8f (by assumption)];exact CoR.refl _))⟩,c9,c9,c9,c9,trivial⟩,trivial⟩
 have h0:=of_decide_eq_false r0
 try simp only [ty] at h0
 obtain rfl:i = l.length:=by omega
 refine w_7 ?_;refine a6 _ rfl (fun r2=>?_) (fun r2=>?_)
 ·
  have h2:=of_decide_eq_true r2
  try simp only [ty] at h2
  refine w_6 ?_;refine ⟨.inr rfl, ?_⟩
  have e2:ej l s = s:=by
   have:=c6.1 (by assumption)
   rwa [List.take_length] at this
  exact f9 rfl rfl (⟨cci (by rw [List.take_length,e2,← hs,b5d e2]),trivial⟩)
 have h2:=of_decide_eq_false r2
 try simp only [ty] at h2
 refine dp ?_;refine ⟨ej l s, ?_, ?_, ?_⟩
 · show clo l (ej l s) = clo l s0
   rw [aum];exact hs
 · have hne:¬ ej l s = s:=fun e=>absurd (congrArg asI e) (by rw [List.take_length] at *;assumption)
   have:=xz (lw (l:=l) (s:=s)) (fun e=>hne e.symm)
   have:=(ej l s).isLt
   show 4294967296 - (ej l s).toNat < 4294967296 - s.toNat
   omega
 exact ⟨⟨⟨_,rfl,(by rw [List.take_length];exact CoR.refl _)⟩,c9,trivial⟩,trivial⟩
theorem qg:goodFn Tryz.prog 113:=⟨Tryz.f113,Tryz.func113,by kernel_rfl,by kernel_rfl⟩
theorem vh (n:Int) (l:List Fd):ae Tryz.prog 113 [pI n,pP (fdl l)] (ai [pI (bg n l)]):=by
 refine a8 (nt:=31) a7 Tryz.func113 rfl rfl l9 ?_;refine ct ?_
 refine dg 1 rfl fun hlen=>?_
 refine w_9 ?_;refine bc rfl rfl (fun r0=>?_) (fun r0=>?_)
 ·
  have h0:=of_decide_eq_true r0
  try simp only [ty] at h0
  (iterate 2 refine k9 (gtf r0) ?_);refine rq rfl rfl rfl rfl rfl ?_ (hp:=r0);refine b8 ?_;refine a6 _ rfl (fun _=>?_) (fun e=>by cases e);refine w_4 ?_
  exact hx8 rfl rfl rfl (⟨cci (by rw [bg,if_pos (by omega)]),trivial⟩)
 have h0:=of_decide_eq_false r0
 try simp only [ty] at h0
 (iterate 2 refine qy ?_ (hg:=(gff r0)));refine w_2 ?_;refine a6 _ rfl (fun r1=>?_) (fun r1=>?_)
 ·
  have h1:=r1
  have h1:=bu r0 h1
  have h1:=of_decide_eq_true h1
  try simp only [ty] at h1
  refine w_4 ?_
  exact hx8 rfl rfl rfl (⟨cci (by rw [bg,if_pos (by omega)]),trivial⟩)
 have h1:=r1
 have h1:=bu r0 h1
 have h1:=of_decide_eq_false h1
 try simp only [ty] at h1
 refine w_8 ?_;refine a6 _ rfl (fun r2=>?_) (fun r2=>?_)
 ·
  have h2:=of_decide_eq_true r2
  try simp only [ty] at h2
  refine w_4 ?_
  exact hx8 rfl rfl rfl (⟨cci (by rw [bg,if_neg (by omega),if_pos (by omega)]),trivial⟩)
 have h2:=of_decide_eq_false r2
 try simp only [ty] at h2
 refine w_9 ?_
 refine aj (ι:=Nat) ⟨[(0,some _),(16,some _),(17,some _)],[]⟩ ⟨⟨c9,c9,c9,trivial⟩,trivial⟩ (fun i=>⟨[(18,some (vI i))],[]⟩) (fun i=>i ≤ l.length ∧ ∀ j,j < i → inU n (l.getD j default) = true) (fun i=>l.length - i) (0) (⟨Nat.zero_le _,fun j hj=>absurd hj (Nat.not_lt_zero j)⟩) ⟨⟨zy,trivial⟩,trivial⟩ ?_
 rintro i ⟨hi,hI⟩
 refine w_5 ?_;refine a6 _ rfl (fun r3=>?_) (fun r3=>?_)
 ·
  have h3:=of_decide_eq_true r3
  try simp only [ty] at h3
  refine w_7 ?_;refine m9 0 ?_;refine ld ?_;refine a6 _ rfl (fun r4=>?_) (fun r4=>?_)
  ·
   have h4:=r4
   have h4:=of_decide_eq_false (ap h4)
   try simp only [ty] at h4
   refine w_4 ?_
   exact hx8 rfl rfl rfl (⟨cci (by rw [bg,if_neg (by omega),if_neg (by omega),if_neg (fun e=>absurd (a6y (l:=l) (p:=inU n) (i:=i) (by omega) (by rw [Bool.eq_false_iff];exact fun e=>absurd (a2j.2 e) (by assumption))) (by rw [e];decide))]),trivial⟩)
  have h4:=r4
  have h4:=of_decide_eq_true (am h4)
  try simp only [ty] at h4
  refine w_5 ?_;refine ⟨i + 1, ?_, ?_, ?_⟩
  · refine ⟨by omega,fun j hj=>?_⟩
    rcases Nat.lt_or_eq_of_le (Nat.le_of_lt_succ hj) with h | h
    · exact hI j h
    subst h
    exact a2j.1 (by assumption)
  · first | omega | (dsimp only;omega)
  exact ⟨⟨zy,c9,c9,c9,trivial⟩,trivial⟩
 have h3:=of_decide_eq_false r3
 try simp only [ty] at h3
 obtain rfl:i = l.length:=by omega
 refine w_5 ?_
 exact hx8 rfl rfl rfl (⟨cci (by rw [bg,if_neg (by omega),if_neg (by omega),if_pos (abl fun j hj=>hI j hj)]),trivial⟩)
theorem adr:goodFn Tryz.prog 50:=⟨Tryz.f50,Tryz.func50,by kernel_rfl,by kernel_rfl⟩
theorem adg (n:Int):ae Tryz.prog 50 [pI n] (ai [pA (ar n)]):=by
 refine a8 (nt:=19) a7 Tryz.func50 rfl rfl l9 ?_;refine a1x ?_
 refine aj (ι:=Nat) ⟨[(0,some _)],[]⟩ ⟨⟨c9,trivial⟩,trivial⟩ (fun i=>⟨[(4,some (vI i)),(3,some (vA (iu i)))],[]⟩) (fun i=>i ≤ min n.toNat 32) (fun i=>min n.toNat 32 - i) (0) (Nat.zero_le _) ⟨⟨zy,zy,trivial⟩,trivial⟩ ?_
 rintro i hi
 refine w_7 ?_;refine bc rfl rfl (fun r0=>?_) (fun r0=>?_)
 ·
  have h0:=of_decide_eq_true r0
  try simp only [ty] at h0
  (iterate 2 refine qy ?_ (hg:=(gtt r0)));refine w_2 ?_;refine a6 _ rfl (fun r1=>?_) (fun r1=>?_)
  ·
   have h1:=r1
   have h1:=dc r0 h1
   have h1:=of_decide_eq_true h1
   try simp only [ty] at h1
   refine o0 ?_;refine ⟨i + 1, ?_, ?_, ?_⟩
   · show i + 1 ≤ _;omega
   · first | omega | (dsimp only;omega)
   exact ⟨⟨zy,⟨_,rfl,(by simp only [Int.toNat_natCast];exact dv (anf i))⟩,c9,trivial⟩,trivial⟩
  have h1:=r1
  have h1:=dc r0 h1
  have h1:=of_decide_eq_false h1
  try simp only [ty] at h1
  obtain rfl:i = min n.toNat 32:=by omega
  refine w_6 ?_
  exact hx8 rfl rfl rfl (CoL.refl _)
 have h0:=of_decide_eq_false r0
 try simp only [ty] at h0
 obtain rfl:i = min n.toNat 32:=by omega
 (iterate 2 refine k9 (gft r0) ?_);refine rq rfl rfl rfl rfl rfl ?_ (hp:=r0);refine b8 ?_;refine a6 _ rfl (fun e=>by cases e) (fun _=>?_);refine w_6 ?_
 exact hx8 rfl rfl rfl (CoL.refl _)
end Go.Hx
end
section
namespace Go.Hx
theorem qc (i k:Nat) (hk:k < 32):((1:AS) <<< i).getLsbD k = decide (k = i):=by
 rw [BitVec.getLsbD_shiftLeft]
 by_cases h:k < i
 · simp [h,hk];omega
 by_cases e:k = i
 · subst e;simp [hk]
 have:0 < k - i:=by omega
 simp [hk,h,e,BitVec.getLsbD_one]
 omega
theorem ou:∀ (n k:Nat),k < 32 → (iu n).getLsbD k = decide (k < n)
 | 0,k,hk=>by simp [iu]
 | n + 1,k,hk=>by
  rw [a78,BitVec.getLsbD_or,ou n k hk,qc n k hk]
  by_cases h:k < n
  · simp [h];omega
  by_cases e:k = n
  · simp [e]
  simp [h,e];omega
theorem b8s {s:AS} {n:Nat}:s >>> n = 0 ↔ ∀ k,k < 32 → n ≤ k → s.getLsbD k = false:=by
 constructor
 · intro h k hk hn
   have:=congrArg (fun x:AS=>x.getLsbD (k - n)) h
   simp only [BitVec.getLsbD_ushiftRight] at this
   rw [show n + (k - n) = k by omega] at this
   simpa using this
 intro h
 apply BitVec.eq_of_getLsbD_eq
 intro i hi
 rw [BitVec.getLsbD_ushiftRight]
 by_cases hk:n + i < 32
 · rw [h (n + i) hk (by omega)];simp
 rw [BitVec.getLsbD_of_ge _ _ (by omega)];simp
theorem tt {s:AS} {n:Nat} (hn:n ≤ 32):sub s (iu n) ↔ s >>> n = 0:=by
 rw [cb,b8s]
 constructor
 · intro h k hk hle
   rw [Bool.eq_false_iff]
   intro e
   have:=h k hk e
   rw [ou n k hk,decide_eq_true_iff] at this
   omega
 intro h k hk e
 rw [ou n k hk,decide_eq_true_iff]
 apply Nat.lt_of_not_le
 intro hle
 rw [h k hk hle] at e
 cases e
theorem oh {n:Int} (hn:0 ≤ n) (h16:n ≤ 16) {f:Fd}:inU n f = true ↔ sub f.lhs (ar n) ∧ sub f.rhs (ar n):=by
 unfold inU ar
 rw [decide_eq_true_iff,Nat.min_eq_left (by omega),← tt (by omega)]
 exact ⟨fun h=>⟨ji un h,ji zz h⟩,fun h=>xr h.1 h.2⟩
abbrev Fd.pc (f:Fd):PC:=.agg [f.c 0,f.c 1]
def imp (l:List Fd) (f:Fd):Bool:=decide (sub f.rhs (clo l f.lhs))
end Go.Hx
end
section
namespace Go.Hx
open Go.Proofs
set_option maxRecDepth 100000
theorem b9n:goodFn Tryz.prog 98:=⟨Tryz.f98,Tryz.func98,by kernel_rfl,by kernel_rfl⟩
theorem b2m (n:Int) (l:List Fd):ae Tryz.prog 98 [pI n,pP (fdl l)] (ai [pI (bg n l)]):=by
 refine a8 (nt:=42) a7 Tryz.func98 rfl rfl l9 ?_;refine ct ?_
 refine dg 1 rfl fun hlen=>?_
 refine w_9 ?_;refine bc rfl rfl (fun r0=>?_) (fun r0=>?_)
 ·
  have h0:=of_decide_eq_true r0
  try simp only [ty] at h0
  (iterate 2 refine k9 (gtf r0) ?_);refine rq rfl rfl rfl rfl rfl ?_ (hp:=r0);refine b8 ?_;refine a6 _ rfl (fun _=>?_) (fun e=>by cases e);refine w_4 ?_
  exact hx8 rfl rfl rfl (⟨cci (by rw [bg,if_pos (by omega)]),trivial⟩)
 have h0:=of_decide_eq_false r0
 try simp only [ty] at h0
 (iterate 2 refine qy ?_ (hg:=(gff r0)));refine w_2 ?_;refine a6 _ rfl (fun r1=>?_) (fun r1=>?_)
 ·
  have h1:=r1
  have h1:=bu r0 h1
  have h1:=of_decide_eq_true h1
  try simp only [ty] at h1
  refine w_4 ?_
  exact hx8 rfl rfl rfl (⟨cci (by rw [bg,if_pos (by omega)]),trivial⟩)
 have h1:=r1
 have h1:=bu r0 h1
 have h1:=of_decide_eq_false h1
 try simp only [ty] at h1
 refine w_8 ?_;refine a6 _ rfl (fun r2=>?_) (fun r2=>?_)
 ·
  have h2:=of_decide_eq_true r2
  try simp only [ty] at h2
  refine w_4 ?_
  exact hx8 rfl rfl rfl (⟨cci (by rw [bg,if_neg (by omega),if_pos (by omega)]),trivial⟩)
 have h2:=of_decide_eq_false r2
 try simp only [ty] at h2
 refine w_4 ?_;refine rc rfl rfl rfl rfl rfl rfl adr (adg n) (CoL.refl _) rfl rfl ?_;refine w_8 ?_
 refine aj (ι:=Nat) ⟨[(1,some _),(5,some _)],[]⟩ ⟨⟨c9,c9,trivial⟩,trivial⟩ (fun i=>⟨[(6,some (vI i))],[]⟩) (fun i=>i ≤ l.length ∧ ∀ j,j < i → inU n (l.getD j default) = true) (fun i=>l.length - i) (0) (⟨Nat.zero_le _,fun j hj=>absurd hj (Nat.not_lt_zero j)⟩) ⟨⟨zy,trivial⟩,trivial⟩ ?_
 rintro i ⟨hi,hI⟩
 refine w_8 ?_;refine a6 _ rfl (fun r3=>?_) (fun r3=>?_)
 ·
  have h3:=of_decide_eq_true r3
  try simp only [ty] at h3
  refine ez ?_;refine rc rfl rfl rfl rfl rfl rfl a9t (aiv _ _) (CoL.refl _) rfl rfl ?_;refine w_2 ?_;refine bc rfl rfl (fun r4=>?_) (fun r4=>?_)
  ·
   have h4:=r4
   have h4:=ap h4
   (iterate 8 refine k9 (gtf r4) ?_);refine rq rfl rfl rfl rfl rfl ?_ (hp:=r4);refine b8 ?_;refine a6 _ rfl (fun _=>?_) (fun e=>by cases e);refine w_4 ?_
   exact hx8 rfl rfl rfl (⟨cci (by rw [bg,if_neg (by omega),if_neg (by omega),if_neg (fun e=>absurd (a6y (l:=l) (p:=inU n) (i:=i) (by omega) (by rw [Bool.eq_false_iff];intro e2;rw [oh (by omega) (by omega)] at e2;simp_all)) (by rw [e];decide))]),trivial⟩)
  have h4:=r4
  have h4:=am h4
  (iterate 6 refine qy ?_ (hg:=(gff r4)));refine rc rfl rfl rfl rfl rfl rfl a9t (aiv _ _) (CoL.refl _) rfl (gff r4) ?_;refine qy ?_ (hg:=(gff r4));refine w_2 ?_;refine a6 _ rfl (fun r5=>?_) (fun r5=>?_)
  ·
   have h5:=r5
   have h5:=bu r4 h5
   have h5:=ap h5
   refine w_4 ?_
   exact hx8 rfl rfl rfl (⟨cci (by rw [bg,if_neg (by omega),if_neg (by omega),if_neg (fun e=>absurd (a6y (l:=l) (p:=inU n) (i:=i) (by omega) (by rw [Bool.eq_false_iff];intro e2;rw [oh (by omega) (by omega)] at e2;simp_all)) (by rw [e];decide))]),trivial⟩)
  have h5:=r5
  have h5:=bu r4 h5
  have h5:=am h5
  refine w_6 ?_;refine ⟨i + 1, ?_, ?_, ?_⟩
  · refine ⟨by omega,fun j hj=>?_⟩
    rcases Nat.lt_or_eq_of_le (Nat.le_of_lt_succ hj) with h | h
    · exact hI j h
    subst h
    exact (oh (by omega) (by omega)).2 (by simp_all)
  · first | omega | (dsimp only;omega)
  exact ⟨⟨zy,c9,c9,trivial⟩,trivial⟩
 have h3:=of_decide_eq_false r3
 try simp only [ty] at h3
 obtain rfl:i = l.length:=by omega
 refine w_5 ?_
 exact hx8 rfl rfl rfl (⟨cci (by rw [bg,if_neg (by omega),if_neg (by omega),if_pos (abl fun j hj=>hI j hj)]),trivial⟩)
theorem ah5:goodFn Tryz.prog 252:=⟨Tryz.f252,Tryz.func252,by kernel_rfl,by kernel_rfl⟩
theorem b8i (l:List Fd) (x:Fd):ae Tryz.prog 252 [pP (fdl l),x.pc] (ai [pB (imp l x)]):=by
 refine a8 (nt:=13) a7 Tryz.func252 rfl rfl l9 ?_;refine sx7 ?_;refine m9 0 ?_;refine w_3 ?_;refine bp (E:=bm) a7 ax [0,1,2,3,4,5,6,7,8] ?_;refine w_5 ?_
 refine rc rfl rfl rfl rfl rfl rfl od (sc l x.lhs) (CoL.refl _) rfl rfl ?_;refine w_4 ?_;refine ⟨by kernel_rfl, ?_⟩
 exact hx8 rfl rfl rfl (⟨ccb (decide_eq_decide.2 l7),trivial⟩)
end Go.Hx
end
section
namespace Go.Hx
variable {α:Type}
theorem b6 [Inhabited α] {l:List α} {q:Nat} (hq:q < l.length):l.take (q + 1) = l.take q ++ [l.getD q default]:=by
 rw [List.take_add_one,List.getElem?_eq_getElem hq]
 simp [List.getD,hq]
theorem apk [Inhabited α] {l:List α} {q:Nat} (h0:0 < q) (hq:q ≤ l.length):(l.take q).getLast? = some (l.getD (q - 1) default):=by
 obtain ⟨k,rfl⟩:∃ k,q = k + 1:=⟨q - 1,by omega⟩
 rw [b6 (by omega),List.getLast?_append]
 simp
section
variable [DecidableEq α]
def j4:Option α → List α → List α
 | _,[]=>[]
 | p,x :: l=>if p = some x then j4 p l else x :: j4 (some x) l
def gw (l:List α):List α:=j4 none l
def xo (p:Option α) (l:List α):Option α:=match l.getLast? with | some y=>some y | none=>p
theorem ag6 (p:Option α) (y:α) (l:List α):xo p (y :: l) = xo (some y) l:=by
 unfold xo
 cases l with
 | nil=>rfl
 | cons z l=>simp [List.getLast?_cons]
theorem a0m (x:α):∀ (l:List α) (p:Option α),j4 p (l ++ [x]) = j4 p l ++ (if xo p l = some x then [] else [x])
 | [],p=>by
  unfold xo
  simp only [List.nil_append,j4,List.getLast?_nil]
  by_cases h:p = some x <;> simp [h]
 | y :: l,p=>by
  rw [ag6]
  simp only [List.cons_append,j4]
  split
  · rename_i h
    rw [a0m x l p,h]
  rw [a0m x l (some y)];rfl
theorem lr [Inhabited α] {l:List α} {q:Nat} (h0:0 < q) (hq:q < l.length):gw (l.take (q + 1)) = gw (l.take q) ++ (if l.getD (q - 1) default = l.getD q default then [] else [l.getD q default]):=by
 unfold gw
 rw [b6 hq,a0m]
 unfold xo
 rw [apk h0 (by omega)]
 simp
theorem qt [Inhabited α] {l:List α}:∀ {k:Nat},k ≤ l.length → (∀ j,0 < j → j < k → ¬ l.getD j default = l.getD (j - 1) default) → gw (l.take k) = l.take k
 | 0,_,_=>rfl
 | 1,hk,_=>by
  rw [b6 (by omega)]
  simp [gw,j4]
 | k + 2,hk,h=>by
  rw [lr (by omega) (by omega),qt (by omega) (fun j h1 h2=>h j h1 (by omega)),if_neg (fun e=>h (k + 1) (by omega) (by omega) e.symm),← b6 (by omega)]
theorem a5g:∀ (l:List α) (p:Option α),∀ x ∈ j4 p l,x ∈ l
 | [],_,x,h=>by simp [j4] at h
 | y :: l,p,x,h=>by
  simp only [j4] at h
  split at h
  · exact List.mem_cons_of_mem _ (a5g l p x h)
  rcases List.mem_cons.1 h with rfl | h
  · exact List.mem_cons_self
  exact List.mem_cons_of_mem _ (a5g l _ x h)
theorem a5p:∀ (l:List α) (p:Option α),∀ x ∈ l,p = some x ∨ x ∈ j4 p l
 | y :: l,p,x,h=>by
  simp only [j4]
  split
  · rename_i hp
    rcases List.mem_cons.1 h with rfl | h
    · exact .inl hp
    exact a5p l p x h
  rcases List.mem_cons.1 h with rfl | h
  · exact .inr List.mem_cons_self
  rcases a5p l (some y) x h with h | h
  · simp only [Option.some.injEq] at h
    subst h
    exact .inr List.mem_cons_self
  exact .inr (List.mem_cons_of_mem _ h)
theorem aeu {l:List α} {x:α}:x ∈ gw l ↔ x ∈ l:=⟨a5g l none x,fun h=>by
 rcases a5p l none x h with h | h
 · cases h
 exact h⟩
end
section
variable [Inhabited α]
theorem l8 {l:List α} {p:Nat} {v:α} (hp:p < l.length):(l.set p v).getD p default = v:=by simp [List.getD,hp]
theorem getD_set_ne' {l:List α} {p j:Nat} {v:α} (h:j ≠ p):(l.set p v).getD j default = l.getD j default:=by
 simp only [List.getD,List.getElem?_set_ne (Ne.symm h)]
theorem aig {wr wr':Bool} {n p k:Nat} {e:TypeId} {c:α → Nat → PV} {l:List α} {v:α} {x:PV} (hw:wr' = true → wr = true) (hn:n = l.length) (hp:k = p) (hk:p < l.length) (hx:x = c v 0) :
 CoO (.arr wr 1 e n (fc (lf c l) k 0 [x])) (.arr wr' 1 e n (lf c (l.set p v))):=by
 subst hp hx hn
 refine ⟨hw,rfl,rfl,rfl,fun i j hi hj=>CoP.of_eq ?_⟩
 obtain rfl:j = 0:=by omega
 unfold fc lf
 by_cases h:i = k
 · subst h
   rw [if_pos ⟨rfl,by omega,by simp⟩,l8 hk]
   rfl
 rw [if_neg (by omega),getD_set_ne' h]
theorem oo {wr wr':Bool} {n p k q d:Nat} {e:TypeId} {c:α → Nat → PV} {l l':List α} (hw:wr' = true → wr = true) (hn:n = l.length) (hp:k = p) (hk:p < l.length) (hd:d = q) :
 CoO (.arr wr 1 e n (fc (lf c l) k 0 [lf c l' d 0])) (.arr wr' 1 e n (lf c (l.set p (l'.getD q default)))):=aig hw hn hp hk (by rw [hd];rfl)
theorem a8x {n m a:Nat} {cl:Bool} {c:α → Nat → PV} {l l':List α} {z:List Value} {p:Option Int} {h:Option Int} (hn:dq (b4 n h) p = l'.length) (hp:p = none) (ha:l'.length ≤ a) (hl:l' = l.take l'.length) :
 CoP (.sl (dq (b4 n h) p) 1 cl (nq (li (lf c l) a m z) p)) (psl 1 c l'):=by
 subst hp
 refine CoP.sl hn.symm (.inl rfl) (fun h=>by cases h) fun i j hi hj=>CoP.of_eq ?_
 rw [hn] at hi
 show li (lf c l) a m z i j = lf c l' i j
 unfold li
 rw [if_neg (by omega)]
 simp only [lf,List.getD]
 have e:l'[i]? = l[i]?:=by rw [hl,List.getElem?_take,if_pos hi]
 rw [e]
end
abbrev sC:AS → Nat → PV:=fun s _=>asC s
structure CpI (l:List AS) (k p q:Nat) (m:List AS):Prop where
 len:m.length = l.length
 kq:k < q
 pq:p < q
 ql:q ≤ l.length
 pre:m.take p = gw (l.take q)
 high:∀ j,q - 1 ≤ j → m.getD j default = l.getD j default
theorem CpI.start {l:List AS} {k:Nat} (h1:1 ≤ k) (hk:k < l.length) (h:∀ j,0 < j → j < k → ¬ l.getD j default = l.getD (j - 1) default) (hd:l.getD k default = l.getD (k - 1) default):CpI l k k (k + 1) l :=
 ⟨rfl,by omega,by omega,by omega,by rw [lr (by omega) hk,if_pos hd.symm,List.append_nil,qt (by omega) h],fun _ _=>rfl⟩
theorem CpI.skip {l:List AS} {k p q:Nat} {m:List AS} (h:CpI l k p q m) (hq:q < l.length) (he:m.getD q default = m.getD (q - 1) default):CpI l k p (q + 1) m:=by
 have hk:=h.kq
 refine ⟨h.len,by omega,by have:=h.pq;omega,hq, ?_,fun j hj=>h.high j (by omega)⟩
 rw [h.high q (by omega),h.high (q - 1) (by omega)] at he
 rw [lr (by omega) hq,if_pos he.symm,List.append_nil,h.pre]
theorem CpI.keep {l:List AS} {k p q:Nat} {m:List AS} (h:CpI l k p q m) (hq:q < l.length) (he:¬ m.getD q default = m.getD (q - 1) default):CpI l k (p + 1) (q + 1) (m.set p (m.getD q default)):=by
 have hk:=h.kq
 have hp:=h.pq
 have hl:=h.len
 refine ⟨by simp [hl],by omega,by omega,hq, ?_,fun j hj=>by rw [getD_set_ne' (by omega)];exact h.high j (by omega)⟩
 have e:=h.high q (by omega)
 rw [e,h.high (q - 1) (by omega)] at he
 rw [lr (by omega) hq,if_neg (fun e=>he e.symm),← h.pre,b6 (by simp [hl];omega),l8 (by omega),e]
 congr 1
 rw [List.take_set,List.set_eq_of_length_le (by simp;omega)]
theorem tw {l:List AS} {a b a' b':Nat} (h:asI (l.getD a' default) = asI (l.getD b' default)) (ha:a' = a) (hb:b' = b):l.getD a default = l.getD b default:=by subst ha hb;exact c6.1 h
theorem u7 {l:List AS} {a b a' b':Nat} (h:¬ asI (l.getD a' default) = asI (l.getD b' default)) (ha:a' = a) (hb:b' = b):¬ l.getD a default = l.getD b default:=by subst ha hb;exact fun e=>h (congrArg asI e)
theorem ahv {l:List AS} {k:Nat} (hk:l.length ≤ k) (h:∀ j,0 < j → j < k → ¬ l.getD j default = l.getD (j - 1) default):CoP (.sl l.length 1 false (lf sC l)) (asl (gw l)):=by
 have:=qt (Nat.le_refl l.length) fun j h1 h2=>h j h1 (by omega)
 rw [List.take_length] at this
 rw [this]
 exact CoP.refl _
theorem b0x {l m:List AS} {k p q n a d:Nat} {cl:Bool} {z:List Value} (hC:CpI l k p q m) (hq:¬ q < l.length) (ha:p ≤ a):CoP (.sl (dq (b4 n (some (p:Int))) none) 1 cl (nq (li (lf sC m) a d z) none)) (asl (gw l)):=by
 have e:=hC.pre
 have h1:=hC.ql
 have h2:=hC.len
 have h3:=hC.pq
 rw [show q = l.length by omega,List.take_length] at e
 have el:(gw l).length = p:=by rw [← e];simp;omega
 exact a8x (by rw [el];rfl) rfl (by omega) (by rw [el,e])
end Go.Hx
end
section
namespace Go.Hx
open Go.Proofs
set_option maxRecDepth 100000
theorem ahf:goodFn Tryz.prog 216:=⟨Tryz.f216,Tryz.func216,by kernel_rfl,by kernel_rfl⟩
theorem avz (l:List AS):dj Tryz.prog 216 [.one (.ref 900 l.length)] [(900, .arr true 1 46 l.length (lf sC l))] (.v (.one (.p (asl (gw l))))) [] []:=by
 refine fu (nt:=61) a7 Tryz.func216 rfl rfl l9 rfl ?_;refine ct ?_
 refine a6x 900 rfl fun hlen=>?_
 refine d7 ?_;refine a6 _ rfl (fun r0=>?_) (fun r0=>?_)
 ·
  have h0:=of_decide_eq_true r0
  try simp only [ty] at h0
  refine w_5 ?_;refine bt 2 rfl rfl rfl ?_;refine gn ?_;refine ⟨.inr rfl, ?_⟩
  exact ⟨_,_,rfl,(by (repeat' apply And.intro) <;> first | trivial | exact Nat.le_of_ble_eq_true rfl),ahv (k:=l.length) (Nat.le_refl _) (fun j h1 h2=>by omega),trivial⟩
 have h0:=of_decide_eq_false r0
 try simp only [ty] at h0
 refine w_7 ?_
 refine aj (ι:=Nat) ⟨[(0,some _)],[(900,some _)]⟩ ⟨⟨c9,trivial⟩,⟨u9,trivial⟩⟩ (fun k=>⟨[(3,some (vI k))],[]⟩) (fun k=>1 ≤ k ∧ k ≤ l.length ∧ ∀ j,0 < j → j < k → ¬ l.getD j default = l.getD (j - 1) default) (fun k=>l.length - k) (1) (⟨Nat.le_refl _,by omega,fun j h1 h2=>by omega⟩) ⟨⟨zy,trivial⟩,trivial⟩ ?_
 rintro k ⟨hk1,hk,hI⟩
 refine w_8 ?_;refine a6 _ rfl (fun r1=>?_) (fun r1=>?_)
 ·
  have h1:=of_decide_eq_true r1
  try simp only [ty] at h1
  refine w_4 ?_;refine bp (E:=bm) a7 ax [0,1,2,3,4,5,6,7,8,9] ?_;refine ez ?_;refine ⟨by kernel_rfl, ?_⟩;refine a6 _ rfl (fun r2=>?_) (fun r2=>?_)
  ·
   have h2:=of_decide_eq_true r2
   try simp only [ty] at h2
   refine ld ?_
   refine aj (ι:=Nat × Nat × List AS) ⟨[(0,some _),(4,some _)],[]⟩ ⟨⟨c9,c9,trivial⟩,trivial⟩ (fun x=>⟨[(3,some (vI x.1)),(5,some (vI ((x.2.1:Int) - k)))],[(900,some (.arr true 1 46 l.length (lf sC x.2.2)))]⟩) (fun x=>CpI l k x.1 x.2.1 x.2.2) (fun x=>l.length - x.2.1) ((k,k + 1,l)) (CpI.start hk1 (by omega) hI (tw (by assumption) rfl (by omega))) ⟨⟨zy,⟨_,rfl,(coi (by first | rfl | (dsimp only;omega)))⟩,trivial⟩,⟨u9,trivial⟩⟩ ?_
   rintro ⟨p,q,m⟩ hC
   have hC0:=hC
   obtain ⟨hml,hkq,hpq,hql,_,_⟩:=hC0
   dsimp only at hC hml hkq hpq hql
   refine w_8 ?_;refine a6 _ rfl (fun r3=>?_) (fun r3=>?_)
   ·
    have h3:=of_decide_eq_true r3
    try simp only [ty] at h3
    simp only [dq,b4,Int.toNat_natCast] at h3
    refine w_4 ?_;refine bp (E:=bm) a7 ax [0,1,2,3,4,5,6,7,8,9] ?_;refine ez ?_;refine ⟨by kernel_rfl, ?_⟩;refine a6 _ rfl (fun r4=>?_) (fun r4=>?_)
    ·
     have h4:=r4
     have h4:=of_decide_eq_false (ap h4)
     try simp only [ty] at h4
     refine akf ?_
     first | (refine ⟨(p + 1, q + 1, m.set p (m.getD q default)), ?_, ?_, ?_⟩
              · exact hC.keep (by omega) (u7 (by assumption) (by simp only [b4];omega) (by simp only [b4];omega))
              · first | omega | (dsimp only;omega)
              exact ⟨⟨⟨_,rfl,(coi (by first | rfl | (dsimp only;omega)))⟩,⟨_,rfl,(coi (by first | rfl | (dsimp only;omega)))⟩,c9,c9,trivial⟩,⟨⟨_,rfl,(oo id hml.symm (by omega) (by dsimp only;omega) (by simp only [b4];omega))⟩,trivial⟩⟩)
           | (refine ⟨(p,q + 1,m), ?_, ?_, ?_⟩
              · exact hC.skip (by omega) (tw (by assumption) (by simp only [b4];omega) (by simp only [b4];omega))
              · first | omega | (dsimp only;omega)
              exact ⟨⟨⟨_,rfl,(coi (by first | rfl | (dsimp only;omega)))⟩,⟨_,rfl,(coi (by first | rfl | (dsimp only;omega)))⟩,c9,c9,trivial⟩,⟨u9,trivial⟩⟩)
    have h4:=r4
    have h4:=of_decide_eq_true (am h4)
    try simp only [ty] at h4
    refine w_6 ?_
    first | (refine ⟨(p + 1, q + 1, m.set p (m.getD q default)), ?_, ?_, ?_⟩
             · exact hC.keep (by omega) (u7 (by assumption) (by simp only [b4];omega) (by simp only [b4];omega))
             · first | omega | (dsimp only;omega)
             exact ⟨⟨⟨_,rfl,(coi (by first | rfl | (dsimp only;omega)))⟩,⟨_,rfl,(coi (by first | rfl | (dsimp only;omega)))⟩,c9,c9,trivial⟩,⟨⟨_,rfl,(oo id hml.symm (by omega) (by dsimp only;omega) (by simp only [b4];omega))⟩,trivial⟩⟩)
          | (refine ⟨(p,q + 1,m), ?_, ?_, ?_⟩
             · exact hC.skip (by omega) (tw (by assumption) (by simp only [b4];omega) (by simp only [b4];omega))
             · first | omega | (dsimp only;omega)
             exact ⟨⟨⟨_,rfl,(coi (by first | rfl | (dsimp only;omega)))⟩,⟨_,rfl,(coi (by first | rfl | (dsimp only;omega)))⟩,c9,c9,trivial⟩,⟨u9,trivial⟩⟩)
   have h3:=of_decide_eq_false r3
   try simp only [ty] at h3
   simp only [dq,b4,Int.toNat_natCast] at h3
   refine w_6 ?_;refine ra 0 true rfl rfl rfl rfl rfl rfl ?_;refine w_5 ?_;refine aud rfl rfl rfl rfl rfl ?_;refine w_3 ?_;refine ⟨.inr rfl, ?_⟩
   exact ⟨_,_,rfl,(by (repeat' apply And.intro) <;> first | trivial | exact Nat.le_of_ble_eq_true rfl),b0x hC (by omega) (by simp [b4]),trivial⟩
  have h2:=of_decide_eq_false r2
  try simp only [ty] at h2
  refine w_6 ?_;refine ⟨k + 1, ?_, ?_, ?_⟩
  · refine ⟨by omega,by show k + 1 ≤ _;omega,fun j h1 h2=>?_⟩
    rcases Nat.lt_or_eq_of_le (Nat.le_of_lt_succ h2) with h | h
    · exact hI j h1 h
    subst h
    exact u7 (by assumption) rfl (by omega)
  · first | omega | (dsimp only;omega)
  exact ⟨⟨zy,c9,trivial⟩,⟨u9,trivial⟩⟩
 have h1:=of_decide_eq_false r1
 try simp only [ty] at h1
 refine w_6 ?_;refine bt 2 rfl rfl rfl ?_;refine gn ?_;refine ⟨.inr rfl, ?_⟩
 exact ⟨_,_,rfl,(by (repeat' apply And.intro) <;> first | trivial | exact Nat.le_of_ble_eq_true rfl),ahv (k:=k) (by omega) hI,trivial⟩
end Go.Hx
end
section
namespace Go.Hx
section
variable {α:Type} [Inhabited α] {p:α → Bool} {l:List α}
theorem a5h (h:idx p l = -1):∀ j,j < l.length → p (l.getD j default) = false:=fun j hj=>by
 cases hc:p (l.getD j default) with
 | false=>rfl
 | true =>
  exfalso
  have hx:∃ x ∈ l,p x = true:=⟨l[j],List.getElem_mem hj,by simpa [List.getD,hj] using hc⟩
  unfold idx at h
  cases hf:l.findIdx? p with
  | none =>
   rw [List.findIdx?_eq_none_iff] at hf
   obtain ⟨x,hx,hp⟩:=hx
   rw [hf x hx] at hp
   cases hp
  | some i=>rw [hf] at h;simp only at h;omega
theorem yw (h:¬ idx p l = -1):∃ i:Nat,idx p l = i ∧ i < l.length ∧ p (l.getD i default) = true ∧ ∀ j,j < i → p (l.getD j default) = false:=by
 unfold idx at h ⊢
 cases hf:l.findIdx? p with
 | none=>rw [hf] at h;exact absurd rfl h
 | some i =>
  obtain ⟨h1,h2,h3⟩:=List.findIdx?_eq_some_iff_getElem.1 hf
  refine ⟨i,rfl,h1,by simpa [List.getD,h1] using h2,fun j hj=>?_⟩
  have:=h3 j hj
  simp only [List.getD,List.getElem?_eq_getElem (Nat.lt_trans hj h1),Option.getD_some]
  simpa using this
theorem vi:(decide (0 ≤ idx p l)) = l.any p:=by
 unfold idx
 cases hf:l.findIdx? p with
 | none =>
  rw [List.findIdx?_eq_none_iff] at hf
  have:l.any p = false:=by
   rw [List.any_eq_false]
   intro x hx
   rw [hf x hx]
   exact Bool.false_ne_true
  rw [this];rfl
 | some i =>
  obtain ⟨h1,h2,_⟩:=List.findIdx?_eq_some_iff_getElem.1 hf
  have:l.any p = true:=List.any_eq_true.2 ⟨l[i],List.getElem_mem h1,h2⟩
  rw [this]
  exact decide_eq_true (Int.natCast_nonneg i)
theorem zq:∀ {k:Nat},k ≤ l.length → (∀ j,j < k → p (l.getD j default) = false) → (l.take k).filter (fun x=>!p x) = l.take k
 | 0,_,_=>by simp
 | k + 1,hk,h=>by rw [b6 (by omega),List.filter_append,zq (by omega) fun j hj=>h j (by omega)];simp only [List.filter_cons,h k (by omega),Bool.not_false,if_true,List.filter_nil]
structure DfI (p:α → Bool) (l:List α) (k q:Nat) (m:List α):Prop where
 len:m.length = l.length
 kq:k < q
 ql:q ≤ l.length
 pre:m.take k = (l.take q).filter fun x=>!p x
 high:∀ j,q ≤ j → m.getD j default = l.getD j default
theorem DfI.start {k:Nat} (hk:k < l.length) (h1:p (l.getD k default) = true) (h:∀ j,j < k → p (l.getD j default) = false):DfI p l k (k + 1) l :=
 ⟨rfl,by omega,hk,by rw [b6 hk,List.filter_append,zq (by omega) h];simp only [List.filter_cons,h1,Bool.not_true,List.filter_nil,Bool.false_eq_true,if_false,List.append_nil],fun _ _=>rfl⟩
theorem DfI.skip {k q:Nat} {m:List α} (h:DfI p l k q m) (hq:q < l.length) (hp:p (m.getD q default) = true):DfI p l k (q + 1) m:=by
 rw [h.high q (Nat.le_refl _)] at hp
 exact ⟨h.len,by have:=h.kq;omega,hq,by rw [b6 hq,List.filter_append,← h.pre];simp only [List.filter_cons,hp,Bool.not_true,List.filter_nil,Bool.false_eq_true,if_false,List.append_nil],fun j hj=>h.high j (by omega)⟩
theorem DfI.keep {k q:Nat} {m:List α} (h:DfI p l k q m) (hq:q < l.length) (hp:p (m.getD q default) = false):DfI p l (k + 1) (q + 1) (m.set k (m.getD q default)):=by
 have e:=h.high q (Nat.le_refl _)
 rw [e] at hp ⊢
 have hk:=h.kq
 have hl:=h.len
 refine ⟨by simp [hl],by omega,hq, ?_,fun j hj=>by rw [getD_set_ne' (by omega)];exact h.high j (by omega)⟩
 rw [b6 (by simp [hl];omega),l8 (by omega),b6 hq,List.filter_append,← h.pre]
 simp only [List.filter_cons,hp,Bool.not_false,if_true,List.filter_nil]
 congr 1
 rw [List.take_set,List.set_eq_of_length_le (by simp;omega)]
end
section
variable {p:AS → Bool} {l:List AS}
theorem b0o (h:∀ j,j < l.length → p (l.getD j default) = false):CoP (.sl l.length 1 false (lf sC l)) (asl (l.filter fun x=>!p x)):=by
 have:=zq (Nat.le_refl l.length) h
 rw [List.take_length] at this
 rw [this]
 exact CoP.refl _
theorem b3x {m:List AS} {k q n a d:Nat} {cl:Bool} {z:List Value} (hC:DfI p l k q m) (hq:¬ q < l.length) (ha:k ≤ a):CoP (.sl (dq (b4 n (some (k:Int))) none) 1 cl (nq (li (lf sC m) a d z) none)) (asl (l.filter fun x=>!p x)):=by
 have e:=hC.pre
 have h1:=hC.ql
 have h2:=hC.len
 have h3:=hC.kq
 rw [show q = l.length by omega,List.take_length] at e
 have el:(l.filter fun x=>!p x).length = k:=by rw [← e];simp;omega
 exact a8x (by rw [el];rfl) rfl (by omega) (by rw [el,e])
end
theorem a6f {a b:AS}:decide (asI a = asI b) = decide (a = b):=decide_eq_decide.2 c6
instance:DecidableEq Fd:=fun a b=>decidable_of_iff (a.lhs = b.lhs ∧ a.rhs = b.rhs) Fd.eq_iff.symm
end Go.Hx
end

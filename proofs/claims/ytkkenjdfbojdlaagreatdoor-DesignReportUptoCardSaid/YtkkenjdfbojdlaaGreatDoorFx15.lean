/- A part of the proof: Hx23 Cs1 Cs3 V1 Cs4 V2 Cl1 V3 Cl2. -/
import Derived.Test.YtkkenjdfbojdlaaGreatDoorFx14
set_option linter.all false
set_option maxRecDepth 100000
set_option maxHeartbeats 1000000
namespace Go.Hx
section
open Go.RowKit
abbrev AS:=BitVec 32
abbrev asI (s:AS):Int:=(s.toNat:Int)
def asC (s:AS):PV:=.raw (.int .u32 (asI s))
theorem ahg {n:Int} (h0:0 ≤ n) (h1:n < 4294967296):IntKind.wrap .u32 n = n:=sk (by simp only [inR,md,o6];omega)
theorem a8y (s:AS):asI s < 4294967296:=by
 have:=s.isLt
 unfold asI
 omega
theorem a42 (s:AS):0 ≤ asI s:=Int.natCast_nonneg _
theorem pw (s:AS):BitVec.ofInt 32 (asI s) = s:=by
 unfold asI
 rw [BitVec.ofInt_natCast,BitVec.ofNat_toNat,BitVec.setWidth_eq]
theorem c8 {a b:AS}:asI a = asI b ↔ a = b:=by
 unfold asI
 rw [Int.ofNat_inj]
 exact BitVec.toNat_inj
theorem a6p (s:AS):IntKind.wrap .u32 (s.toNat:Int) = asI s:=ahg (a42 s) (a8y s)
theorem gl (a b:AS):bo .and .u32 (asI a) (asI b) = asI (a &&& b):=by
 show IntKind.wrap .u32 ((BitVec.ofInt 32 (asI a) &&& BitVec.ofInt 32 (asI b)).toNat:Int) = _
 rw [pw,pw,a6p]
theorem bOr (a b:AS):bo .or .u32 (asI a) (asI b) = asI (a ||| b):=by
 show IntKind.wrap .u32 ((BitVec.ofInt 32 (asI a) ||| BitVec.ofInt 32 (asI b)).toNat:Int) = _
 rw [pw,pw,a6p]
theorem jn (a b:AS):bo .andNot .u32 (asI a) (asI b) = asI (a &&& ~~~b):=by
 show IntKind.wrap .u32 ((BitVec.ofInt 32 (asI a) &&& ~~~BitVec.ofInt 32 (asI b)).toNat:Int) = _
 rw [pw,pw,a6p]
theorem uk (a:AS) (n:Nat):(asI a).fdiv (2 ^ (min n 32)) = asI (a >>> n):=by
 have e:(2:Int) ^ (min n 32) = ((2 ^ (min n 32):Nat):Int):=by rw [Int.natCast_pow];rfl
 rw [e]
 unfold asI
 rw [Int.fdiv_eq_ediv_of_nonneg _ (Int.natCast_nonneg _),← Int.natCast_ediv,BitVec.toNat_ushiftRight,Nat.shiftRight_eq_div_pow]
 by_cases h:n ≤ 32
 · rw [Nat.min_eq_left h]
 rw [Nat.min_eq_right (by omega)]
 have h1:=a.isLt
 have h2:2 ^ 32 ≤ 2 ^ n:=Nat.pow_le_pow_right (by omega) (by omega)
 rw [Nat.div_eq_of_lt (by omega),Nat.div_eq_of_lt (Nat.lt_of_lt_of_le (by omega) h2)]
theorem aez (a:AS) (n:Nat):IntKind.wrap .u32 (asI a * 2 ^ (min n 32)) = asI (a <<< n):=by
 have e:asI a * (2:Int) ^ (min n 32) = ((a.toNat * 2 ^ (min n 32):Nat):Int):=by rw [Int.natCast_mul,Int.natCast_pow];rfl
 rw [e]
 have hw:∀ m:Nat,IntKind.wrap .u32 (m:Int) = ((m % 4294967296:Nat):Int):=by
  intro m
  simp [IntKind.wrap,IntKind.signed,IntKind.bits]
 rw [hw]
 unfold asI
 rw [BitVec.toNat_shiftLeft,Nat.shiftLeft_eq]
 by_cases h:n ≤ 32
 · rw [Nat.min_eq_left h]
 rw [Nat.min_eq_right (by omega)]
 have h1:a.toNat * 2 ^ 32 % 2 ^ 32 = 0:=Nat.mul_mod_left _ _
 have h2:a.toNat * 2 ^ n % 2 ^ 32 = 0:=by
  obtain ⟨k,rfl⟩:∃ k,n = k + 32:=⟨n - 32,by omega⟩
  rw [Nat.pow_add,← Nat.mul_assoc]
  exact Nat.mul_mod_left _ _
 have h1:a.toNat * 2 ^ 32 % 4294967296 = 0:=h1
 rw [h1,h2]
end
section
structure Fd where
 lhs:AS
 rhs:AS
instance:Inhabited Fd:=⟨⟨0,0⟩⟩
theorem Fd.eq_iff {a b:Fd}:a = b ↔ a.lhs = b.lhs ∧ a.rhs = b.rhs:=by cases a;cases b;simp
instance:DecidableEq Fd:=fun a b=>decidable_of_iff _ (Fd.eq_iff (a:=a) (b:=b)).symm
def Fd.c (x:Fd):Nat → PV
 | 0=>asC x.lhs
 | 1=>asC x.rhs
 | _=>.any
def sub (a b:AS):Prop:=a &&& ~~~b = 0
instance:DecidablePred fun p:AS × AS=>sub p.1 p.2:=fun p=>inferInstanceAs (Decidable (_ = _))
instance {a b:AS}:Decidable (sub a b):=inferInstanceAs (Decidable (_ = _))
theorem ct {a b:AS}:sub a b ↔ ∀ i,i < 32 → a.getLsbD i = true → b.getLsbD i = true:=by
 unfold sub
 constructor
 · intro h i hi ha
   have:=congrArg (fun x:AS=>x.getLsbD i) h
   simp only [BitVec.getLsbD_and,BitVec.getLsbD_not,hi,ha,decide_true,Bool.true_and] at this
   simpa using this
 intro h
 apply BitVec.eq_of_getLsbD_eq
 intro i hi
 have:=h i hi
 simp only [BitVec.getLsbD_and,BitVec.getLsbD_not,hi,decide_true,Bool.true_and]
 cases ha:a.getLsbD i <;> cases hb:b.getLsbD i <;> simp_all
theorem jj (a:AS):sub a a:=ct.2 fun _ _ h=>h
theorem it {a b c:AS} (h:sub a b) (k:sub b c):sub a c:=ct.2 fun i hi ha=>ct.1 k i hi (ct.1 h i hi ha)
theorem sg {a b:AS}:sub a (a ||| b):=ct.2 fun i hi ha=>by simp [ha]
theorem wh {a b:AS}:sub b (a ||| b):=ct.2 fun i hi ha=>by simp [ha]
theorem zm {a b c:AS} (h:sub a c) (k:sub b c):sub (a ||| b) c:=ct.2 fun i hi ha=>by
 rw [BitVec.getLsbD_or,Bool.or_eq_true] at ha
 rcases ha with ha | ha
 · exact ct.1 h i hi ha
 exact ct.1 k i hi ha
theorem ij {a b:AS} (h:sub a b) (k:sub b a):a = b:=by
 apply BitVec.eq_of_getLsbD_eq
 intro i hi
 have h1:=ct.1 h i hi
 have h2:=ct.1 k i hi
 cases ha:a.getLsbD i <;> cases hb:b.getLsbD i <;> simp_all
theorem anl {a b:AS} (h:sub a b):a.toNat ≤ b.toNat:=by
 have e:a ||| b = b:=ij (zm h (jj b)) wh
 have:a.toNat ≤ (a ||| b).toNat:=by rw [BitVec.toNat_or];exact Nat.left_le_or
 rwa [e] at this
theorem wq {a b:AS} (h:sub a b) (hne:a ≠ b):a.toNat < b.toNat:=by
 rcases Nat.lt_or_eq_of_le (anl h) with h | h
 · exact h
 exact absurd (BitVec.eq_of_toNat_eq h) hne
theorem azk {a b:AS}:sub a b ↔ a &&& b = a:=by
 rw [ct]
 constructor
 · intro h
   apply BitVec.eq_of_getLsbD_eq
   intro i hi
   have:=h i hi
   rw [BitVec.getLsbD_and]
   cases ha:a.getLsbD i <;> simp_all
 intro h i hi ha
 have:=congrArg (fun x:AS=>x.getLsbD i) h
 simp only [BitVec.getLsbD_and,ha,Bool.true_and] at this
 exact this
def ff (s:AS) (f:Fd):AS:=if sub f.lhs s then s ||| f.rhs else s
def dj (l:List Fd) (s:AS):AS:=l.foldl ff s
theorem a90 {s:AS} {f:Fd}:sub s (ff s f):=by
 unfold ff
 split
 · exact sg
 exact jj s
theorem l8:∀ {l:List Fd} {s:AS},sub s (dj l s)
 | [],s=>jj s
 | f :: l,s=>it a90 (l8 (l:=l) (s:=ff s f))
def clF (l:List Fd):Nat → AS → AS
 | 0,s=>s
 | n + 1,s=>if dj l s = s then s else clF l n (dj l s)
def clo (l:List Fd) (s:AS):AS:=clF l 4294967296 s
theorem af8 {l:List Fd}:∀ {n m:Nat} {s:AS},4294967296 - s.toNat ≤ n → 4294967296 - s.toNat ≤ m → clF l n s = clF l m s
 | 0,m,s,hn,hm=>by have:=s.isLt;omega
 | n + 1,0,s,hn,hm=>by have:=s.isLt;omega
 | n + 1,m + 1,s,hn,hm=>by
  unfold clF
  split
  · rfl
  rename_i hne
  have:=wq (l8 (l:=l) (s:=s)) (fun e=>hne e.symm)
  exact af8 (by omega) (by omega)
theorem ajf {l:List Fd} {s:AS} (h:dj l s = s):clo l s = s:=by
 show clF l (4294967295 + 1) s = s
 unfold clF
 rw [if_pos h]
theorem aex {l:List Fd} {s:AS}:clo l (dj l s) = clo l s:=by
 by_cases h:dj l s = s
 · rw [h]
 have e:clo l s = clF l 4294967295 (dj l s):=by
  show clF l (4294967295 + 1) s = _
  rw [clF,if_neg h]
 rw [e]
 have:=wq (l8 (l:=l) (s:=s)) (fun e=>h e.symm)
 exact af8 (by omega) (by omega)
theorem a9u {l:List Fd}:∀ {n:Nat} {s:AS},4294967296 - s.toNat ≤ n → dj l (clF l n s) = clF l n s
 | 0,s,hn=>by have:=s.isLt;omega
 | n + 1,s,hn=>by
  unfold clF
  split
  · assumption
  rename_i hne
  have:=wq (l8 (l:=l) (s:=s)) (fun e=>hne e.symm)
  exact a9u (by omega)
theorem amf {l:List Fd} {s:AS}:dj l (clo l s) = clo l s:=a9u (by omega)
theorem aof {l:List Fd}:∀ {n:Nat} {s:AS},sub s (clF l n s)
 | 0,s=>jj s
 | n + 1,s=>by
  unfold clF
  split
  · exact jj s
  exact it l8 aof
theorem a9x {l:List Fd} {s:AS}:sub s (clo l s):=aof
def pz (l:List Fd) (s:AS):Prop:=∀ f ∈ l,sub f.lhs s → sub f.rhs s
theorem uj:∀ {l:List Fd} {s:AS},dj l s = s ↔ pz l s
 | [],s=>⟨fun _ f hf=>(by cases hf),fun _=>rfl⟩
 | f :: l,s=>by
  constructor
  · intro h
    have h1:ff s f = s:=ij (by have:=l8 (l:=l) (s:=ff s f);rw [show dj l (ff s f) = s from h] at this;exact this) a90
    have h2:dj l s = s:=by
     have:dj l (ff s f) = s:=h
     rwa [h1] at this
    intro g hg
    rcases List.mem_cons.1 hg with rfl | hg
    · intro hl
      rw [ff,if_pos hl] at h1
      rw [← h1]
      exact wh
    exact uj.1 h2 g hg
  intro h
  have h1:ff s f = s:=by
   unfold ff
   split
   · rename_i hl
     exact ij (zm (jj s) (h f (List.mem_cons_self ..) hl)) sg
   rfl
  show dj l (ff s f) = s
  rw [h1]
  exact uj.2 fun g hg=>h g (List.mem_cons_of_mem _ hg)
theorem a9z:∀ {l:List Fd} {s t:AS},pz l t → sub s t → sub (dj l s) t
 | [],s,t,_,h=>h
 | f :: l,s,t,ht,h=>a9z (l:=l) (fun g hg=>ht g (List.mem_cons_of_mem _ hg)) (by
  unfold ff
  split
  · rename_i hl
    exact zm h (ht f (List.mem_cons_self ..) (it hl h))
  exact h)
theorem akr {l:List Fd} {t:AS} (ht:pz l t):∀ {n:Nat} {s:AS},sub s t → sub (clF l n s) t
 | 0,s,h=>h
 | n + 1,s,h=>by
  unfold clF
  split
  · exact h
  exact akr ht (a9z ht h)
theorem a3n {l:List Fd} {s t:AS} (ht:pz l t) (h:sub s t):sub (clo l s) t:=akr ht h
theorem a2d {l:List Fd} {s:AS}:pz l (clo l s):=uj.1 amf
end
section
abbrev pI (a:Int):PC:=.one (.raw (.int .i64 a))
abbrev pB (b:Bool):PC:=.one (.raw (.bool b))
abbrev pP (x:PV):PC:=.one x
abbrev pA (s:AS):PC:=.one (.raw (.int .u32 (asI s)))
abbrev fdl (l:List Fd):PV:=psl 2 Fd.c l
abbrev asl (l:List AS):PV:=psl 1 (fun s _=>asC s) l
abbrev vI (a:Int):HR:=bp (.raw (.int .i64 a))
abbrev vA (s:AS):HR:=bp (.raw (.int .u32 (asI s)))
theorem a96 {l:List Fd} {s:AS} {i:Nat} (hi:i < l.length):dj (l.take (i + 1)) s = ff (dj (l.take i) s) (l.getD i default):=by
 unfold dj
 rw [List.take_succ,List.getElem?_eq_getElem hi,List.foldl_append,List.getD_eq_getElem?_getD,List.getElem?_eq_getElem hi]
 rfl
theorem m7 {a b:AS}:bo .andNot .u32 (asI a) (asI b) = 0 ↔ sub a b:=by
 rw [jn,show (0:Int) = asI 0 from rfl,c8]
 exact Iff.rfl
theorem b6p {S:AS} {f:Fd} (h:bo .andNot .u32 (asI f.lhs) (asI S) = 0):bo .or .u32 (asI S) (asI f.rhs) = asI (ff S f):=by
 rw [bOr,ff,if_pos (m7.1 h)]
theorem b5k {S:AS} {f:Fd} (h:¬ bo .andNot .u32 (asI f.lhs) (asI S) = 0):ff S f = S:=if_neg fun e=>h (m7.2 e)
theorem cl_t' {S:AS} {f:Fd} (h:decide (sub f.lhs S) = true):bo .or .u32 (asI S) (asI f.rhs) = asI (ff S f):=by
 rw [bOr,ff,if_pos (of_decide_eq_true h)]
theorem cl_f' {S:AS} {f:Fd} (h:decide (sub f.lhs S) = false):ff S f = S:=if_neg (of_decide_eq_false h)
def inU (n:Int) (f:Fd):Bool:=decide ((f.lhs ||| f.rhs) >>> n.toNat = 0)
def br (n:Int) (l:List Fd):Int:=if n < 0 ∨ 16 < n then 7 else if 64 < l.length then 3 else if l.all (inU n) = true then 0 else 1
theorem a4m {n:Int} {f:Fd}:(bo .or .u32 (asI f.lhs) (asI f.rhs)).fdiv (2 ^ (min n.toNat 32)) = 0 ↔ inU n f = true:=by
 rw [bOr,uk,show (0:Int) = asI 0 from rfl,c8]
 unfold inU
 rw [decide_eq_true_iff]
theorem dz {k:IntKind} {a b:Int} (h:a = b):CoR (bp (.raw (.int k a))) (bp (.raw (.int k b))):=by
 rw [h]
 exact CoR.refl _
def jb (n:Nat):AS:=(List.range n).foldl (fun s i=>s ||| ((1:AS) <<< i)) 0
def aq (n:Int):AS:=jb (min n.toNat 32)
theorem a8w (i:Nat):jb (i + 1) = jb i ||| ((1:AS) <<< i):=by
 unfold jb
 rw [List.range_succ,List.foldl_append]
 rfl
theorem aor (i:Nat):bo .or .u32 (asI (jb i)) (IntKind.wrap .u32 (1 * 2 ^ (min i 32))) = asI (jb (i + 1)):=by
 have e:IntKind.wrap .u32 (1 * 2 ^ (min i 32)) = asI ((1:AS) <<< i):=aez 1 i
 rw [e,bOr,a8w]
end
section
open Go.Proofs
theorem qe:goodFn Tryz.prog 125:=wgx Tryz.func125
theorem xv (a b:AS):af Tryz.prog 125 [pA a,pA b] (aj [pB (decide (sub a b))]):=by
 refine a8 (nt:=10) a7 Tryz.func125 rfl rfl l9 ?_;refine kf ?_
 exact hx8 rfl rfl rfl (⟨ccb (decide_eq_decide.2 (by rw [gl,c8];exact azk.symm)),trivial⟩)
theorem qf:goodFn Tryz.prog 120:=wgx Tryz.func120
theorem uf (l:List Fd) (s0:AS):af Tryz.prog 120 [pP (fdl l),pA s0] (aj [pA (clo l s0)]):=by
 refine a8 (nt:=29) a7 Tryz.func120 rfl rfl l9 ?_;refine d8 ?_
 refine dg 0 rfl fun hlen=>?_
 refine w_4 ?_;refine ah (ι:=AS) ⟨[(0,some _)],[]⟩ ⟨⟨c9,trivial⟩,trivial⟩ (fun s=>⟨[(1,some (vA s))],[]⟩) (fun s=>clo l s = clo l s0) (fun s=>4294967296 - s.toNat) (s0) (rfl) ⟨⟨zy,trivial⟩,trivial⟩ ?_
 rintro s hs
 refine wg ?_
 refine ah (ι:=Nat) ⟨[(0,some _),(5,some _),(9,some _),(10,some _)],[]⟩ ⟨⟨c9,c9,c9,c9,trivial⟩,trivial⟩ (fun i=>⟨[(11,some (vI i)),(1,some (vA (dj (l.take i) s)))],[]⟩) (fun i=>i ≤ l.length) (fun i=>l.length - i) (0) (Nat.zero_le _) ⟨⟨zy,zy,trivial⟩,trivial⟩ ?_
 rintro i hi
 refine w_5 ?_;refine a6 _ rfl (fun r0=>?_) (fun r0=>?_)
 ·
  have h0:=ae r0
  try simp only [ty] at h0
  refine w_7 ?_;refine m9 0 ?_;refine dl ?_;refine a6 _ rfl (fun r1=>?_) (fun r1=>?_)
  ·
   have h1:=ae r1
   try simp only [ty] at h1
   refine f8 ?_;refine ⟨i + 1, ?_, ?_, ?_⟩
   · show i + 1 ≤ _;omega
   · first | omega | (dsimp only;omega)
   exact ⟨⟨zy,⟨_,rfl,(by rw [a96 (by omega)];first | (rw [b5k (by assumption)];exact CoR.refl _) | (simp only [Int.toNat_natCast];rw [b6p (by assumption)];exact CoR.refl _))⟩,c9,c9,c9,c9,trivial⟩,trivial⟩
  have h1:=aa r1
  try simp only [ty] at h1
  refine w_5 ?_;refine ⟨i + 1, ?_, ?_, ?_⟩
  · show i + 1 ≤ _;omega
  · first | omega | (dsimp only;omega)
  exact ⟨⟨zy,⟨_,rfl,(by rw [a96 (by omega)];first | (rw [b5k (by assumption)];exact CoR.refl _) | (simp only [Int.toNat_natCast];rw [b6p (by assumption)];exact CoR.refl _))⟩,c9,c9,c9,c9,trivial⟩,trivial⟩
 have h0:=aa r0
 try simp only [ty] at h0
 obtain rfl:i = l.length:=by omega
 refine w_7 ?_;refine a6 _ rfl (fun r2=>?_) (fun r2=>?_)
 ·
  have h2:=ae r2
  try simp only [ty] at h2
  refine w_6 ?_;refine ⟨.inr rfl, ?_⟩
  have e2:dj l s = s:=by
   have:=c8.1 (by assumption)
   rwa [List.take_length] at this
  exact f9 rfl rfl (⟨cci (by rw [List.take_length,e2,← hs,ajf e2]),trivial⟩)
 have h2:=aa r2
 try simp only [ty] at h2
 refine dn ?_;refine ⟨dj l s, ?_, ?_, ?_⟩
 · show clo l (dj l s) = clo l s0
   rw [aex];exact hs
 · have hne:¬ dj l s = s:=fun e=>absurd (congrArg asI e) (by rw [List.take_length] at *;assumption)
   have:=wq (l8 (l:=l) (s:=s)) (fun e=>hne e.symm)
   have:=(dj l s).isLt
   show 4294967296 - (dj l s).toNat < 4294967296 - s.toNat
   omega
 exact ⟨⟨⟨_,rfl,(by rw [List.take_length];exact CoR.refl _)⟩,c9,trivial⟩,trivial⟩
theorem ajs:goodFn Tryz.prog 126:=wgx Tryz.func126
theorem ajh (l:List Fd) (s0:AS):af Tryz.prog 126 [pP (fdl l),pA s0] (aj [pA (clo l s0)]):=by
 refine a8 (nt:=32) a7 Tryz.func126 rfl rfl l9 ?_;refine d8 ?_
 refine dg 0 rfl fun hlen=>?_
 refine w_4 ?_;refine ah (ι:=AS) ⟨[(0,some _)],[]⟩ ⟨⟨c9,trivial⟩,trivial⟩ (fun s=>⟨[(1,some (vA s))],[]⟩) (fun s=>clo l s = clo l s0) (fun s=>4294967296 - s.toNat) (s0) (rfl) ⟨⟨zy,trivial⟩,trivial⟩ ?_
 rintro s hs
 refine fc ?_
 refine ah (ι:=Nat) ⟨[(0,some _),(5,some _)],[]⟩ ⟨⟨c9,c9,trivial⟩,trivial⟩ (fun i=>⟨[(6,some (vI i)),(1,some (vA (dj (l.take i) s)))],[]⟩) (fun i=>i ≤ l.length) (fun i=>l.length - i) (0) (Nat.zero_le _) ⟨⟨zy,zy,trivial⟩,trivial⟩ ?_
 rintro i hi
 refine w_8 ?_;refine a6 _ rfl (fun r0=>?_) (fun r0=>?_)
 ·
  have h0:=ae r0
  try simp only [ty] at h0
  refine f8 ?_;refine qcx qe (xv (l.getD i default).lhs (dj (l.take i) s)) ?_;refine ax ?_;refine a6 _ rfl (fun r1=>?_) (fun r1=>?_)
  ·
   have h1:=r1
   refine mr ?_;refine ⟨i + 1, ?_, ?_, ?_⟩
   · show i + 1 ≤ _;omega
   · first | omega | (dsimp only;omega)
   exact ⟨⟨zy,⟨_,rfl,(by rw [a96 (by omega)];first | (rw [cl_f' (by assumption)];exact CoR.refl _) | (simp only [Int.toNat_natCast];rw [cl_t' (by assumption)];exact CoR.refl _))⟩,c9,c9,trivial⟩,trivial⟩
  have h1:=r1
  refine w_6 ?_;refine ⟨i + 1, ?_, ?_, ?_⟩
  · show i + 1 ≤ _;omega
  · first | omega | (dsimp only;omega)
  exact ⟨⟨zy,⟨_,rfl,(by rw [a96 (by omega)];first | (rw [cl_f' (by assumption)];exact CoR.refl _) | (simp only [Int.toNat_natCast];rw [cl_t' (by assumption)];exact CoR.refl _))⟩,c9,c9,trivial⟩,trivial⟩
 have h0:=aa r0
 try simp only [ty] at h0
 obtain rfl:i = l.length:=by omega
 refine w_7 ?_;refine a6 _ rfl (fun r2=>?_) (fun r2=>?_)
 ·
  have h2:=ae r2
  try simp only [ty] at h2
  refine w_6 ?_;refine ⟨.inr rfl, ?_⟩
  have e2:dj l s = s:=by
   have:=c8.1 (by assumption)
   rwa [List.take_length] at this
  exact f9 rfl rfl (⟨cci (by rw [List.take_length,e2,← hs,ajf e2]),trivial⟩)
 have h2:=aa r2
 try simp only [ty] at h2
 refine dn ?_;refine ⟨dj l s, ?_, ?_, ?_⟩
 · show clo l (dj l s) = clo l s0
   rw [aex];exact hs
 · have hne:¬ dj l s = s:=fun e=>absurd (congrArg asI e) (by rw [List.take_length] at *;assumption)
   have:=wq (l8 (l:=l) (s:=s)) (fun e=>hne e.symm)
   have:=(dj l s).isLt
   show 4294967296 - (dj l s).toNat < 4294967296 - s.toNat
   omega
 exact ⟨⟨⟨_,rfl,(by rw [List.take_length];exact CoR.refl _)⟩,c9,trivial⟩,trivial⟩
theorem sd:goodFn Tryz.prog 113:=wgx Tryz.func113
theorem wo (n:Int) (l:List Fd):af Tryz.prog 113 [pI n,pP (fdl l)] (aj [pI (br n l)]):=by
 refine a8 (nt:=31) a7 Tryz.func113 rfl rfl l9 ?_;refine d8 ?_
 refine dg 1 rfl fun hlen=>?_
 refine w_9 ?_;refine b9 rfl rfl (fun r0=>?_) (fun r0=>?_)
 ·
  have h0:=ae r0
  try simp only [ty] at h0
  (iterate 2 refine k9 (gtf r0) ?_);refine rq rfl rfl rfl rfl rfl ?_ (hp:=r0);refine ax ?_;refine a6 _ rfl (fun _=>?_) (fun e=>by cases e);refine w_4 ?_
  exact hx8 rfl rfl rfl (⟨cci (by rw [br,if_pos (by omega)]),trivial⟩)
 have h0:=aa r0
 try simp only [ty] at h0
 (iterate 2 refine qy ?_ (hg:=(gff r0)));refine w_2 ?_;refine a6 _ rfl (fun r1=>?_) (fun r1=>?_)
 ·
  have h1:=r1
  have h1:=c6 r0 h1
  have h1:=ae h1
  try simp only [ty] at h1
  refine w_4 ?_
  exact hx8 rfl rfl rfl (⟨cci (by rw [br,if_pos (by omega)]),trivial⟩)
 have h1:=r1
 have h1:=c6 r0 h1
 have h1:=aa h1
 try simp only [ty] at h1
 refine w_8 ?_;refine a6 _ rfl (fun r2=>?_) (fun r2=>?_)
 ·
  have h2:=ae r2
  try simp only [ty] at h2
  refine w_4 ?_
  exact hx8 rfl rfl rfl (⟨cci (by rw [br,if_neg (by omega),if_pos (by omega)]),trivial⟩)
 have h2:=aa r2
 try simp only [ty] at h2
 refine w_9 ?_
 refine ah (ι:=Nat) ⟨[(0,some _),(16,some _),(17,some _)],[]⟩ ⟨⟨c9,c9,c9,trivial⟩,trivial⟩ (fun i=>⟨[(18,some (vI i))],[]⟩) (fun i=>i ≤ l.length ∧ ∀ j,j < i → inU n (l.getD j default) = true) (fun i=>l.length - i) (0) (⟨Nat.zero_le _,fun j hj=>absurd hj (Nat.not_lt_zero j)⟩) ⟨⟨zy,trivial⟩,trivial⟩ ?_
 rintro i ⟨hi,hI⟩
 refine w_5 ?_;refine a6 _ rfl (fun r3=>?_) (fun r3=>?_)
 ·
  have h3:=ae r3
  try simp only [ty] at h3
  refine w_7 ?_;refine m9 0 ?_;refine kf ?_;refine a6 _ rfl (fun r4=>?_) (fun r4=>?_)
  ·
   have h4:=r4
   have h4:=aa (au h4)
   try simp only [ty] at h4
   refine w_4 ?_
   exact hx8 rfl rfl rfl (⟨cci (by rw [br,if_neg (by omega),if_neg (by omega),if_neg (fun e=>absurd (a88 (l:=l) (p:=inU n) (i:=i) (by omega) (by rw [Bool.eq_false_iff];exact fun e=>absurd (a4m.2 e) (by assumption))) (by rw [e];decide))]),trivial⟩)
  have h4:=r4
  have h4:=ae (ar h4)
  try simp only [ty] at h4
  refine w_5 ?_;refine ⟨i + 1, ?_, ?_, ?_⟩
  · refine ⟨by omega,fun j hj=>?_⟩
    rcases Nat.lt_or_eq_of_le (Nat.le_of_lt_succ hj) with h | h
    · exact hI j h
    subst h
    exact a4m.1 (by assumption)
  · first | omega | (dsimp only;omega)
  exact ⟨⟨zy,c9,c9,c9,trivial⟩,trivial⟩
 have h3:=aa r3
 try simp only [ty] at h3
 obtain rfl:i = l.length:=by omega
 refine w_5 ?_
 exact hx8 rfl rfl rfl (⟨cci (by rw [br,if_neg (by omega),if_neg (by omega),if_pos (ado fun j hj=>hI j hj)]),trivial⟩)
theorem ze:goodFn Tryz.prog 50:=wgx Tryz.func50
theorem a00 (n:Int):af Tryz.prog 50 [pI n] (aj [pA (aq n)]):=by
 refine a8 (nt:=19) a7 Tryz.func50 rfl rfl l9 ?_;refine wg ?_
 refine ah (ι:=Nat) ⟨[(0,some _)],[]⟩ ⟨⟨c9,trivial⟩,trivial⟩ (fun i=>⟨[(4,some (vI i)),(3,some (vA (jb i)))],[]⟩) (fun i=>i ≤ min n.toNat 32) (fun i=>min n.toNat 32 - i) (0) (Nat.zero_le _) ⟨⟨zy,zy,trivial⟩,trivial⟩ ?_
 rintro i hi
 refine w_7 ?_;refine b9 rfl rfl (fun r0=>?_) (fun r0=>?_)
 ·
  have h0:=ae r0
  try simp only [ty] at h0
  (iterate 2 refine qy ?_ (hg:=(gtt r0)));refine w_2 ?_;refine a6 _ rfl (fun r1=>?_) (fun r1=>?_)
  ·
   have h1:=r1
   have h1:=du r0 h1
   have h1:=ae h1
   try simp only [ty] at h1
   refine mr ?_;refine ⟨i + 1, ?_, ?_, ?_⟩
   · show i + 1 ≤ _;omega
   · first | omega | (dsimp only;omega)
   exact ⟨⟨zy,⟨_,rfl,(by simp only [Int.toNat_natCast];exact dz (aor i))⟩,c9,trivial⟩,trivial⟩
  have h1:=r1
  have h1:=du r0 h1
  have h1:=aa h1
  try simp only [ty] at h1
  obtain rfl:i = min n.toNat 32:=by omega
  refine w_6 ?_
  exact hx8 rfl rfl rfl (CoL.refl _)
 have h0:=aa r0
 try simp only [ty] at h0
 obtain rfl:i = min n.toNat 32:=by omega
 (iterate 2 refine k9 (gft r0) ?_);refine rq rfl rfl rfl rfl rfl ?_ (hp:=r0);refine ax ?_;refine a6 _ rfl (fun e=>by cases e) (fun _=>?_);refine w_6 ?_
 exact hx8 rfl rfl rfl (CoL.refl _)
end
section
theorem sv (i k:Nat) (hk:k < 32):((1:AS) <<< i).getLsbD k = decide (k = i):=by
 rw [BitVec.getLsbD_shiftLeft]
 by_cases h:k < i
 · simp [h,hk];omega
 by_cases e:k = i
 · subst e;simp [hk]
 have:0 < k - i:=by omega
 simp [hk,h,e,BitVec.getLsbD_one]
 omega
theorem pk:∀ (n k:Nat),k < 32 → (jb n).getLsbD k = decide (k < n)
 | 0,k,hk=>by simp [jb]
 | n + 1,k,hk=>by
  rw [a8w,BitVec.getLsbD_or,pk n k hk,sv n k hk]
  by_cases h:k < n
  · simp [h];omega
  by_cases e:k = n
  · simp [e]
  simp [h,e];omega
theorem b8d {s:AS} {n:Nat}:s >>> n = 0 ↔ ∀ k,k < 32 → n ≤ k → s.getLsbD k = false:=by
 constructor
 · intro h k hk hn
   have:=congrArg (fun x:AS=>x.getLsbD (k - n)) h
   simp only [BitVec.getLsbD_ushiftRight] at this
   rw [show n + (k - n) = k by omega] at this
   simpa using this
 intro h
 apply BitVec.eq_of_getLsbD_eq
 intro i hi
 rw [BitVec.getLsbD_ushiftRight]
 by_cases hk:n + i < 32
 · rw [h (n + i) hk (by omega)];simp
 rw [BitVec.getLsbD_of_ge _ _ (by omega)];simp
theorem ur {s:AS} {n:Nat} (hn:n ≤ 32):sub s (jb n) ↔ s >>> n = 0:=by
 rw [ct,b8d]
 constructor
 · intro h k hk hle
   rw [Bool.eq_false_iff]
   intro e
   have:=h k hk e
   rw [pk n k hk,decide_eq_true_iff] at this
   omega
 intro h k hk e
 rw [pk n k hk,decide_eq_true_iff]
 apply Nat.lt_of_not_le
 intro hle
 rw [h k hk hle] at e
 cases e
theorem qd {n:Int} (hn:0 ≤ n) (h16:n ≤ 16) {f:Fd}:inU n f = true ↔ sub f.lhs (aq n) ∧ sub f.rhs (aq n):=by
 unfold inU aq
 rw [decide_eq_true_iff,Nat.min_eq_left (by omega),← ur (by omega)]
 exact ⟨fun h=>⟨it sg h,it wh h⟩,fun h=>zm h.1 h.2⟩
abbrev Fd.pc (f:Fd):PC:=.agg [f.c 0,f.c 1]
def imp (l:List Fd) (f:Fd):Bool:=decide (sub f.rhs (clo l f.lhs))
end
section
open Go.Proofs
theorem b6x:goodFn Tryz.prog 98:=wgx Tryz.func98
theorem b1a (n:Int) (l:List Fd):af Tryz.prog 98 [pI n,pP (fdl l)] (aj [pI (br n l)]):=by
 refine a8 (nt:=42) a7 Tryz.func98 rfl rfl l9 ?_;refine d8 ?_
 refine dg 1 rfl fun hlen=>?_
 refine w_9 ?_;refine b9 rfl rfl (fun r0=>?_) (fun r0=>?_)
 ·
  have h0:=ae r0
  try simp only [ty] at h0
  (iterate 2 refine k9 (gtf r0) ?_);refine rq rfl rfl rfl rfl rfl ?_ (hp:=r0);refine ax ?_;refine a6 _ rfl (fun _=>?_) (fun e=>by cases e);refine w_4 ?_
  exact hx8 rfl rfl rfl (⟨cci (by rw [br,if_pos (by omega)]),trivial⟩)
 have h0:=aa r0
 try simp only [ty] at h0
 (iterate 2 refine qy ?_ (hg:=(gff r0)));refine w_2 ?_;refine a6 _ rfl (fun r1=>?_) (fun r1=>?_)
 ·
  have h1:=r1
  have h1:=c6 r0 h1
  have h1:=ae h1
  try simp only [ty] at h1
  refine w_4 ?_
  exact hx8 rfl rfl rfl (⟨cci (by rw [br,if_pos (by omega)]),trivial⟩)
 have h1:=r1
 have h1:=c6 r0 h1
 have h1:=aa h1
 try simp only [ty] at h1
 refine w_8 ?_;refine a6 _ rfl (fun r2=>?_) (fun r2=>?_)
 ·
  have h2:=ae r2
  try simp only [ty] at h2
  refine w_4 ?_
  exact hx8 rfl rfl rfl (⟨cci (by rw [br,if_neg (by omega),if_pos (by omega)]),trivial⟩)
 have h2:=aa r2
 try simp only [ty] at h2
 refine w_4 ?_;refine qcx ze (a00 n) ?_;refine w_8 ?_
 refine ah (ι:=Nat) ⟨[(1,some _),(5,some _)],[]⟩ ⟨⟨c9,c9,trivial⟩,trivial⟩ (fun i=>⟨[(6,some (vI i))],[]⟩) (fun i=>i ≤ l.length ∧ ∀ j,j < i → inU n (l.getD j default) = true) (fun i=>l.length - i) (0) (⟨Nat.zero_le _,fun j hj=>absurd hj (Nat.not_lt_zero j)⟩) ⟨⟨zy,trivial⟩,trivial⟩ ?_
 rintro i ⟨hi,hI⟩
 refine w_8 ?_;refine a6 _ rfl (fun r3=>?_) (fun r3=>?_)
 ·
  have h3:=ae r3
  try simp only [ty] at h3
  refine f8 ?_;refine qcx qe (xv _ _) ?_;refine w_2 ?_;refine b9 rfl rfl (fun r4=>?_) (fun r4=>?_)
  ·
   have h4:=r4
   have h4:=au h4
   (iterate 8 refine k9 (gtf r4) ?_);refine rq rfl rfl rfl rfl rfl ?_ (hp:=r4);refine ax ?_;refine a6 _ rfl (fun _=>?_) (fun e=>by cases e);refine w_4 ?_
   exact hx8 rfl rfl rfl (⟨cci (by rw [br,if_neg (by omega),if_neg (by omega),if_neg (fun e=>absurd (a88 (l:=l) (p:=inU n) (i:=i) (by omega) (by rw [Bool.eq_false_iff];intro e2;rw [qd (by omega) (by omega)] at e2;simp_all)) (by rw [e];decide))]),trivial⟩)
  have h4:=r4
  have h4:=ar h4
  (iterate 6 refine qy ?_ (hg:=(gff r4)));refine qcx qe (xv _ _) ?_ (hg:=(gff r4));refine qy ?_ (hg:=(gff r4));refine w_2 ?_;refine a6 _ rfl (fun r5=>?_) (fun r5=>?_)
  ·
   have h5:=r5
   have h5:=c6 r4 h5
   have h5:=au h5
   refine w_4 ?_
   exact hx8 rfl rfl rfl (⟨cci (by rw [br,if_neg (by omega),if_neg (by omega),if_neg (fun e=>absurd (a88 (l:=l) (p:=inU n) (i:=i) (by omega) (by rw [Bool.eq_false_iff];intro e2;rw [qd (by omega) (by omega)] at e2;simp_all)) (by rw [e];decide))]),trivial⟩)
  have h5:=r5
  have h5:=c6 r4 h5
  have h5:=ar h5
  refine w_6 ?_;refine ⟨i + 1, ?_, ?_, ?_⟩
  · refine ⟨by omega,fun j hj=>?_⟩
    rcases Nat.lt_or_eq_of_le (Nat.le_of_lt_succ hj) with h | h
    · exact hI j h
    subst h
    exact (qd (by omega) (by omega)).2 (by simp_all)
  · first | omega | (dsimp only;omega)
  exact ⟨⟨zy,c9,c9,trivial⟩,trivial⟩
 have h3:=aa r3
 try simp only [ty] at h3
 obtain rfl:i = l.length:=by omega
 refine w_5 ?_
 exact hx8 rfl rfl rfl (⟨cci (by rw [br,if_neg (by omega),if_neg (by omega),if_pos (ado fun j hj=>hI j hj)]),trivial⟩)
theorem al3:goodFn Tryz.prog 252:=wgx Tryz.func252
theorem b53 (l:List Fd) (x:Fd):af Tryz.prog 252 [pP (fdl l),x.pc] (aj [pB (imp l x)]):=by
 refine a8 (nt:=13) a7 Tryz.func252 rfl rfl l9 ?_;refine sx7 ?_;refine m9 0 ?_;refine w_3 ?_;refine bg (E:=bj) a7 aw [0,1,2,3,4,5,6,7,8] ?_;refine w_5 ?_
 refine qcx qf (uf l x.lhs) ?_;refine w_4 ?_;refine ⟨by kernel_rfl, ?_⟩
 exact hx8 rfl rfl rfl (⟨ccb (decide_eq_decide.2 m7),trivial⟩)
end
section
variable {α:Type}
theorem b5 [Inhabited α] {l:List α} {q:Nat} (hq:q < l.length):l.take (q + 1) = l.take q ++ [l.getD q default]:=by
 rw [List.take_add_one,List.getElem?_eq_getElem hq]
 simp [List.getD,hq]
theorem aqi [Inhabited α] {l:List α} {q:Nat} (h0:0 < q) (hq:q ≤ l.length):(l.take q).getLast? = some (l.getD (q - 1) default):=by
 obtain ⟨k,rfl⟩:∃ k,q = k + 1:=⟨q - 1,by omega⟩
 rw [b5 (by omega),List.getLast?_append]
 simp
section
variable [DecidableEq α]
def ji:Option α → List α → List α
 | _,[]=>[]
 | p,x :: l=>if p = some x then ji p l else x :: ji (some x) l
def iu (l:List α):List α:=ji none l
def zp (p:Option α) (l:List α):Option α:=match l.getLast? with | some y=>some y | none=>p
theorem aia (p:Option α) (y:α) (l:List α):zp p (y :: l) = zp (some y) l:=by
 unfold zp
 cases l with
 | nil=>rfl
 | cons z l=>simp [List.getLast?_cons]
theorem a3h (x:α):∀ (l:List α) (p:Option α),ji p (l ++ [x]) = ji p l ++ (if zp p l = some x then [] else [x])
 | [],p=>by
  unfold zp
  simp only [List.nil_append,ji,List.getLast?_nil]
  by_cases h:p = some x <;> simp [h]
 | y :: l,p=>by
  rw [aia]
  simp only [List.cons_append,ji]
  split
  · rename_i h
    rw [a3h x l p,h]
  rw [a3h x l (some y)];rfl
theorem ml [Inhabited α] {l:List α} {q:Nat} (h0:0 < q) (hq:q < l.length):iu (l.take (q + 1)) = iu (l.take q) ++ (if l.getD (q - 1) default = l.getD q default then [] else [l.getD q default]):=by
 unfold iu
 rw [b5 hq,a3h]
 unfold zp
 rw [aqi h0 (by omega)]
 simp
theorem s7 [Inhabited α] {l:List α}:∀ {k:Nat},k ≤ l.length → (∀ j,0 < j → j < k → ¬ l.getD j default = l.getD (j - 1) default) → iu (l.take k) = l.take k
 | 0,_,_=>rfl
 | 1,hk,_=>by
  rw [b5 (by omega)]
  simp [iu,ji]
 | k + 2,hk,h=>by
  rw [ml (by omega) (by omega),s7 (by omega) (fun j h1 h2=>h j h1 (by omega)),if_neg (fun e=>h (k + 1) (by omega) (by omega) e.symm),← b5 (by omega)]
theorem a7m:∀ (l:List α) (p:Option α),∀ x ∈ ji p l,x ∈ l
 | [],_,x,h=>by simp [ji] at h
 | y :: l,p,x,h=>by
  simp only [ji] at h
  split at h
  · exact List.mem_cons_of_mem _ (a7m l p x h)
  rcases List.mem_cons.1 h with rfl | h
  · exact List.mem_cons_self
  exact List.mem_cons_of_mem _ (a7m l _ x h)
theorem a6g:∀ (l:List α) (p:Option α),∀ x ∈ l,p = some x ∨ x ∈ ji p l
 | y :: l,p,x,h=>by
  simp only [ji]
  split
  · rename_i hp
    rcases List.mem_cons.1 h with rfl | h
    · exact .inl hp
    exact a6g l p x h
  rcases List.mem_cons.1 h with rfl | h
  · exact .inr List.mem_cons_self
  rcases a6g l (some y) x h with h | h
  · simp only [Option.some.injEq] at h
    subst h
    exact .inr List.mem_cons_self
  exact .inr (List.mem_cons_of_mem _ h)
theorem ah7 {l:List α} {x:α}:x ∈ iu l ↔ x ∈ l:=⟨a7m l none x,fun h=>by
 rcases a6g l none x h with h | h
 · cases h
 exact h⟩
end
section
variable [Inhabited α]
theorem ly {l:List α} {p:Nat} {v:α} (hp:p < l.length):(l.set p v).getD p default = v:=by simp [List.getD,hp]
theorem getD_set_ne' {l:List α} {p j:Nat} {v:α} (h:j ≠ p):(l.set p v).getD j default = l.getD j default:=by
 simp only [List.getD,List.getElem?_set_ne (Ne.symm h)]
theorem abo {wr wr':Bool} {n p k:Nat} {e:TypeId} {c:α → Nat → PV} {l:List α} {v:α} {x:PV} (hw:wr' = true → wr = true) (hn:n = l.length) (hp:k = p) (hk:p < l.length) (hx:x = c v 0) :
 CoO (.arr wr 1 e n (eu (lf c l) k 0 [x])) (.arr wr' 1 e n (lf c (l.set p v))):=by
 subst hp hx hn
 refine ⟨hw,rfl,rfl,rfl,fun i j hi hj=>CoP.of_eq ?_⟩
 obtain rfl:j = 0:=by omega
 unfold eu lf
 by_cases h:i = k
 · subst h
   rw [if_pos ⟨rfl,by omega,by simp⟩,ly hk]
   rfl
 rw [if_neg (by omega),getD_set_ne' h]
theorem qb {wr wr':Bool} {n p k q d:Nat} {e:TypeId} {c:α → Nat → PV} {l l':List α} (hw:wr' = true → wr = true) (hn:n = l.length) (hp:k = p) (hk:p < l.length) (hd:d = q) :
 CoO (.arr wr 1 e n (eu (lf c l) k 0 [lf c l' d 0])) (.arr wr' 1 e n (lf c (l.set p (l'.getD q default)))):=abo hw hn hp hk (by rw [hd];rfl)
theorem aah {n m a:Nat} {cl:Bool} {c:α → Nat → PV} {l l':List α} {z:List Value} {p:Option Int} {h:Option Int} (hn:ej (bc n h) p = l'.length) (hp:p = none) (ha:l'.length ≤ a) (hl:l' = l.take l'.length) :
 CoP (.sl (ej (bc n h) p) 1 cl (oo (mf (lf c l) a m z) p)) (psl 1 c l'):=by
 subst hp
 refine CoP.sl hn.symm (.inl rfl) (fun h=>by cases h) fun i j hi hj=>CoP.of_eq ?_
 rw [hn] at hi
 show mf (lf c l) a m z i j = lf c l' i j
 unfold mf
 rw [if_neg (by omega)]
 simp only [lf,List.getD]
 have e:l'[i]? = l[i]?:=by rw [hl,List.getElem?_take,if_pos hi]
 rw [e]
end
abbrev sC:AS → Nat → PV:=fun s _=>asC s
structure CpI (l:List AS) (k p q:Nat) (m:List AS):Prop where
 len:m.length = l.length
 kq:k < q
 pq:p < q
 ql:q ≤ l.length
 pre:m.take p = iu (l.take q)
 high:∀ j,q - 1 ≤ j → m.getD j default = l.getD j default
theorem CpI.start {l:List AS} {k:Nat} (h1:1 ≤ k) (hk:k < l.length) (h:∀ j,0 < j → j < k → ¬ l.getD j default = l.getD (j - 1) default) (hd:l.getD k default = l.getD (k - 1) default):CpI l k k (k + 1) l :=
 ⟨rfl,by omega,by omega,by omega,by rw [ml (by omega) hk,if_pos hd.symm,List.append_nil,s7 (by omega) h],fun _ _=>rfl⟩
theorem CpI.skip {l:List AS} {k p q:Nat} {m:List AS} (h:CpI l k p q m) (hq:q < l.length) (he:m.getD q default = m.getD (q - 1) default):CpI l k p (q + 1) m:=by
 have hk:=h.kq
 refine ⟨h.len,by omega,by have:=h.pq;omega,hq, ?_,fun j hj=>h.high j (by omega)⟩
 rw [h.high q (by omega),h.high (q - 1) (by omega)] at he
 rw [ml (by omega) hq,if_pos he.symm,List.append_nil,h.pre]
theorem CpI.keep {l:List AS} {k p q:Nat} {m:List AS} (h:CpI l k p q m) (hq:q < l.length) (he:¬ m.getD q default = m.getD (q - 1) default):CpI l k (p + 1) (q + 1) (m.set p (m.getD q default)):=by
 have hk:=h.kq
 have hp:=h.pq
 have hl:=h.len
 refine ⟨by simp [hl],by omega,by omega,hq, ?_,fun j hj=>by rw [getD_set_ne' (by omega)];exact h.high j (by omega)⟩
 have e:=h.high q (by omega)
 rw [e,h.high (q - 1) (by omega)] at he
 rw [ml (by omega) hq,if_neg (fun e=>he e.symm),← h.pre,b5 (by simp [hl];omega),ly (by omega),e]
 congr 1
 rw [List.take_set,List.set_eq_of_length_le (by simp;omega)]
theorem vl {l:List AS} {a b a' b':Nat} (h:asI (l.getD a' default) = asI (l.getD b' default)) (ha:a' = a) (hb:b' = b):l.getD a default = l.getD b default:=by subst ha hb;exact c8.1 h
theorem vz {l:List AS} {a b a' b':Nat} (h:¬ asI (l.getD a' default) = asI (l.getD b' default)) (ha:a' = a) (hb:b' = b):¬ l.getD a default = l.getD b default:=by subst ha hb;exact fun e=>h (congrArg asI e)
theorem air {l:List AS} {k:Nat} (hk:l.length ≤ k) (h:∀ j,0 < j → j < k → ¬ l.getD j default = l.getD (j - 1) default):CoP (.sl l.length 1 false (lf sC l)) (asl (iu l)):=by
 have:=s7 (Nat.le_refl l.length) fun j h1 h2=>h j h1 (by omega)
 rw [List.take_length] at this
 rw [this]
 exact CoP.refl _
theorem b1v {l m:List AS} {k p q n a d:Nat} {cl:Bool} {z:List Value} (hC:CpI l k p q m) (hq:¬ q < l.length) (ha:p ≤ a):CoP (.sl (ej (bc n (some (p:Int))) none) 1 cl (oo (mf (lf sC m) a d z) none)) (asl (iu l)):=by
 have e:=hC.pre
 have h1:=hC.ql
 have h2:=hC.len
 have h3:=hC.pq
 rw [show q = l.length by omega,List.take_length] at e
 have el:(iu l).length = p:=by rw [← e];simp;omega
 exact aah (by rw [el];rfl) rfl (by omega) (by rw [el,e])
end
section
open Go.Proofs
theorem ajp:goodFn Tryz.prog 216:=wgx Tryz.func216
theorem aw0 (l:List AS):dw Tryz.prog 216 [.one (.ref 900 l.length)] [(900, .arr true 1 46 l.length (lf sC l))] (.v (.one (.p (asl (iu l))))) [] []:=by
 refine gd (nt:=61) a7 Tryz.func216 rfl rfl l9 rfl ?_;refine d8 ?_
 refine a9n 900 rfl fun hlen=>?_
 refine dl ?_;refine a6 _ rfl (fun r0=>?_) (fun r0=>?_)
 ·
  have h0:=ae r0
  try simp only [ty] at h0
  refine w_5 ?_;refine bi 2 rfl rfl rfl ?_;refine go ?_;refine ⟨.inr rfl, ?_⟩
  exact ⟨_,_,rfl,(by (repeat' apply And.intro) <;> first | trivial | exact Nat.le_of_ble_eq_true rfl),air (k:=l.length) (Nat.le_refl _) (fun j h1 h2=>by omega),trivial⟩
 have h0:=aa r0
 try simp only [ty] at h0
 refine w_7 ?_
 refine ah (ι:=Nat) ⟨[(0,some _)],[(900,some _)]⟩ ⟨⟨c9,trivial⟩,⟨u9,trivial⟩⟩ (fun k=>⟨[(3,some (vI k))],[]⟩) (fun k=>1 ≤ k ∧ k ≤ l.length ∧ ∀ j,0 < j → j < k → ¬ l.getD j default = l.getD (j - 1) default) (fun k=>l.length - k) (1) (⟨Nat.le_refl _,by omega,fun j h1 h2=>by omega⟩) ⟨⟨zy,trivial⟩,trivial⟩ ?_
 rintro k ⟨hk1,hk,hI⟩
 refine w_8 ?_;refine a6 _ rfl (fun r1=>?_) (fun r1=>?_)
 ·
  have h1:=ae r1
  try simp only [ty] at h1
  refine w_4 ?_;refine bg (E:=bj) a7 aw [0,1,2,3,4,5,6,7,8,9] ?_;refine f8 ?_;refine ⟨by kernel_rfl, ?_⟩;refine a6 _ rfl (fun r2=>?_) (fun r2=>?_)
  ·
   have h2:=ae r2
   try simp only [ty] at h2
   refine kf ?_
   refine ah (ι:=Nat × Nat × List AS) ⟨[(0,some _),(4,some _)],[]⟩ ⟨⟨c9,c9,trivial⟩,trivial⟩ (fun x=>⟨[(3,some (vI x.1)),(5,some (vI ((x.2.1:Int) - k)))],[(900,some (.arr true 1 46 l.length (lf sC x.2.2)))]⟩) (fun x=>CpI l k x.1 x.2.1 x.2.2) (fun x=>l.length - x.2.1) ((k,k + 1,l)) (CpI.start hk1 (by omega) hI (vl (by assumption) rfl (by omega))) ⟨⟨zy,⟨_,rfl,(coi (by first | rfl | (dsimp only;omega)))⟩,trivial⟩,⟨u9,trivial⟩⟩ ?_
   rintro ⟨p,q,m⟩ hC
   have hC0:=hC
   obtain ⟨hml,hkq,hpq,hql,_,_⟩:=hC0
   dsimp only at hC hml hkq hpq hql
   refine w_8 ?_;refine a6 _ rfl (fun r3=>?_) (fun r3=>?_)
   ·
    have h3:=ae r3
    try simp only [ty] at h3
    simp only [ej,bc,Int.toNat_natCast] at h3
    refine w_4 ?_;refine bg (E:=bj) a7 aw [0,1,2,3,4,5,6,7,8,9] ?_;refine f8 ?_;refine ⟨by kernel_rfl, ?_⟩;refine a6 _ rfl (fun r4=>?_) (fun r4=>?_)
    ·
     have h4:=r4
     have h4:=aa (au h4)
     try simp only [ty] at h4
     refine amo ?_
     first | (refine ⟨(p + 1, q + 1, m.set p (m.getD q default)), ?_, ?_, ?_⟩
              · exact hC.keep (by omega) (vz (by assumption) (by simp only [bc];omega) (by simp only [bc];omega))
              · first | omega | (dsimp only;omega)
              exact ⟨⟨⟨_,rfl,(coi (by first | rfl | (dsimp only;omega)))⟩,⟨_,rfl,(coi (by first | rfl | (dsimp only;omega)))⟩,c9,c9,trivial⟩,⟨⟨_,rfl,(qb id hml.symm (by omega) (by dsimp only;omega) (by simp only [bc];omega))⟩,trivial⟩⟩)
           | (refine ⟨(p,q + 1,m), ?_, ?_, ?_⟩
              · exact hC.skip (by omega) (vl (by assumption) (by simp only [bc];omega) (by simp only [bc];omega))
              · first | omega | (dsimp only;omega)
              exact ⟨⟨⟨_,rfl,(coi (by first | rfl | (dsimp only;omega)))⟩,⟨_,rfl,(coi (by first | rfl | (dsimp only;omega)))⟩,c9,c9,trivial⟩,⟨u9,trivial⟩⟩)
    have h4:=r4
    have h4:=ae (ar h4)
    try simp only [ty] at h4
    refine w_6 ?_
    first | (refine ⟨(p + 1, q + 1, m.set p (m.getD q default)), ?_, ?_, ?_⟩
             · exact hC.keep (by omega) (vz (by assumption) (by simp only [bc];omega) (by simp only [bc];omega))
             · first | omega | (dsimp only;omega)
             exact ⟨⟨⟨_,rfl,(coi (by first | rfl | (dsimp only;omega)))⟩,⟨_,rfl,(coi (by first | rfl | (dsimp only;omega)))⟩,c9,c9,trivial⟩,⟨⟨_,rfl,(qb id hml.symm (by omega) (by dsimp only;omega) (by simp only [bc];omega))⟩,trivial⟩⟩)
          | (refine ⟨(p,q + 1,m), ?_, ?_, ?_⟩
             · exact hC.skip (by omega) (vl (by assumption) (by simp only [bc];omega) (by simp only [bc];omega))
             · first | omega | (dsimp only;omega)
             exact ⟨⟨⟨_,rfl,(coi (by first | rfl | (dsimp only;omega)))⟩,⟨_,rfl,(coi (by first | rfl | (dsimp only;omega)))⟩,c9,c9,trivial⟩,⟨u9,trivial⟩⟩)
   have h3:=aa r3
   try simp only [ty] at h3
   simp only [ej,bc,Int.toNat_natCast] at h3
   refine w_6 ?_;refine ra 0 true rfl rfl rfl rfl rfl rfl ?_;refine w_5 ?_;refine aw2 rfl rfl rfl rfl rfl ?_;refine w_3 ?_;refine ⟨.inr rfl, ?_⟩
   exact ⟨_,_,rfl,(by (repeat' apply And.intro) <;> first | trivial | exact Nat.le_of_ble_eq_true rfl),b1v hC (by omega) (by simp [bc]),trivial⟩
  have h2:=aa r2
  try simp only [ty] at h2
  refine w_6 ?_;refine ⟨k + 1, ?_, ?_, ?_⟩
  · refine ⟨by omega,by show k + 1 ≤ _;omega,fun j h1 h2=>?_⟩
    rcases Nat.lt_or_eq_of_le (Nat.le_of_lt_succ h2) with h | h
    · exact hI j h1 h
    subst h
    exact vz (by assumption) rfl (by omega)
  · first | omega | (dsimp only;omega)
  exact ⟨⟨zy,c9,trivial⟩,⟨u9,trivial⟩⟩
 have h1:=aa r1
 try simp only [ty] at h1
 refine w_6 ?_;refine bi 2 rfl rfl rfl ?_;refine go ?_;refine ⟨.inr rfl, ?_⟩
 exact ⟨_,_,rfl,(by (repeat' apply And.intro) <;> first | trivial | exact Nat.le_of_ble_eq_true rfl),air (k:=k) (by omega) hI,trivial⟩
end
section
section
variable {α:Type} [Inhabited α] {p:α → Bool} {l:List α}
theorem a7h (h:idx p l = -1):∀ j,j < l.length → p (l.getD j default) = false:=fun j hj=>by
 cases hc:p (l.getD j default) with
 | false=>rfl
 | true =>
  exfalso
  have hx:∃ x ∈ l,p x = true:=⟨l[j],List.getElem_mem hj,by simpa [List.getD,hj] using hc⟩
  unfold idx at h
  cases hf:l.findIdx? p with
  | none =>
   rw [List.findIdx?_eq_none_iff] at hf
   obtain ⟨x,hx,hp⟩:=hx
   rw [hf x hx] at hp
   cases hp
  | some i=>rw [hf] at h;simp only at h;omega
theorem ww (h:¬ idx p l = -1):∃ i:Nat,idx p l = i ∧ i < l.length ∧ p (l.getD i default) = true ∧ ∀ j,j < i → p (l.getD j default) = false:=by
 unfold idx at h ⊢
 cases hf:l.findIdx? p with
 | none=>rw [hf] at h;exact absurd rfl h
 | some i =>
  obtain ⟨h1,h2,h3⟩:=List.findIdx?_eq_some_iff_getElem.1 hf
  refine ⟨i,rfl,h1,by simpa [List.getD,h1] using h2,fun j hj=>?_⟩
  have:=h3 j hj
  simp only [List.getD,List.getElem?_eq_getElem (Nat.lt_trans hj h1),Option.getD_some]
  simpa using this
theorem x8:(decide (0 ≤ idx p l)) = l.any p:=by
 unfold idx
 cases hf:l.findIdx? p with
 | none =>
  rw [List.findIdx?_eq_none_iff] at hf
  have:l.any p = false:=by
   rw [List.any_eq_false]
   intro x hx
   rw [hf x hx]
   exact Bool.false_ne_true
  rw [this];rfl
 | some i =>
  obtain ⟨h1,h2,_⟩:=List.findIdx?_eq_some_iff_getElem.1 hf
  have:l.any p = true:=List.any_eq_true.2 ⟨l[i],List.getElem_mem h1,h2⟩
  rw [this]
  exact decide_eq_true (Int.natCast_nonneg i)
theorem a1n:∀ {k:Nat},k ≤ l.length → (∀ j,j < k → p (l.getD j default) = false) → (l.take k).filter (fun x=>!p x) = l.take k
 | 0,_,_=>by simp
 | k + 1,hk,h=>by rw [b5 (by omega),List.filter_append,a1n (by omega) fun j hj=>h j (by omega)];simp only [List.filter_cons,h k (by omega),Bool.not_false,if_true,List.filter_nil]
structure DfI (p:α → Bool) (l:List α) (k q:Nat) (m:List α):Prop where
 len:m.length = l.length
 kq:k < q
 ql:q ≤ l.length
 pre:m.take k = (l.take q).filter fun x=>!p x
 high:∀ j,q ≤ j → m.getD j default = l.getD j default
theorem DfI.start {k:Nat} (hk:k < l.length) (h1:p (l.getD k default) = true) (h:∀ j,j < k → p (l.getD j default) = false):DfI p l k (k + 1) l :=
 ⟨rfl,by omega,hk,by rw [b5 hk,List.filter_append,a1n (by omega) h];simp only [List.filter_cons,h1,Bool.not_true,List.filter_nil,Bool.false_eq_true,if_false,List.append_nil],fun _ _=>rfl⟩
theorem DfI.skip {k q:Nat} {m:List α} (h:DfI p l k q m) (hq:q < l.length) (hp:p (m.getD q default) = true):DfI p l k (q + 1) m:=by
 rw [h.high q (Nat.le_refl _)] at hp
 exact ⟨h.len,by have:=h.kq;omega,hq,by rw [b5 hq,List.filter_append,← h.pre];simp only [List.filter_cons,hp,Bool.not_true,List.filter_nil,Bool.false_eq_true,if_false,List.append_nil],fun j hj=>h.high j (by omega)⟩
theorem DfI.keep {k q:Nat} {m:List α} (h:DfI p l k q m) (hq:q < l.length) (hp:p (m.getD q default) = false):DfI p l (k + 1) (q + 1) (m.set k (m.getD q default)):=by
 have e:=h.high q (Nat.le_refl _)
 rw [e] at hp ⊢
 have hk:=h.kq
 have hl:=h.len
 refine ⟨by simp [hl],by omega,hq, ?_,fun j hj=>by rw [getD_set_ne' (by omega)];exact h.high j (by omega)⟩
 rw [b5 (by simp [hl];omega),ly (by omega),b5 hq,List.filter_append,← h.pre]
 simp only [List.filter_cons,hp,Bool.not_false,if_true,List.filter_nil]
 congr 1
 rw [List.take_set,List.set_eq_of_length_le (by simp;omega)]
end
section
variable {p:AS → Bool} {l:List AS}
theorem ayz (h:∀ j,j < l.length → p (l.getD j default) = false):CoP (.sl l.length 1 false (lf sC l)) (asl (l.filter fun x=>!p x)):=by
 have:=a1n (Nat.le_refl l.length) h
 rw [List.take_length] at this
 rw [this]
 exact CoP.refl _
theorem b04 {m:List AS} {k q n a d:Nat} {cl:Bool} {z:List Value} (hC:DfI p l k q m) (hq:¬ q < l.length) (ha:k ≤ a):CoP (.sl (ej (bc n (some (k:Int))) none) 1 cl (oo (mf (lf sC m) a d z) none)) (asl (l.filter fun x=>!p x)):=by
 have e:=hC.pre
 have h1:=hC.ql
 have h2:=hC.len
 have h3:=hC.kq
 rw [show q = l.length by omega,List.take_length] at e
 have el:(l.filter fun x=>!p x).length = k:=by rw [← e];simp;omega
 exact aah (by rw [el];rfl) rfl (by omega) (by rw [el,e])
end
theorem a8b {a b:AS}:decide (asI a = asI b) = decide (a = b):=decide_eq_decide.2 c8
instance:DecidableEq Fd:=fun a b=>decidable_of_iff (a.lhs = b.lhs ∧ a.rhs = b.rhs) Fd.eq_iff.symm
end
end Go.Hx

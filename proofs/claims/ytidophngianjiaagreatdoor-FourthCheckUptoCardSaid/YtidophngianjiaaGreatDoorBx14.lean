/- A part of the proof: Hx23 Cs1 Cs3 V1 Cs4 V2 Cl1 V3 Cl2. -/
import Derived.Test.YtidophngianjiaaGreatDoorBx13
set_option linter.all false
section
namespace Go.Hx
open Go.RowKit
abbrev AS:=BitVec 32
abbrev asI (s:AS):Int:=(s.toNat:Int)
def asC (s:AS):PV:=.raw (.int .u32 (asI s))
theorem aeb {n:Int} (h0:0 ≤ n) (h1:n < 4294967296):IntKind.wrap .u32 n = n:=qt (by simp only [inR,kf,lj];omega)
theorem acf (s:AS):asI s < 4294967296:=by
 have:=s.isLt
 unfold asI
 omega
theorem a6q (s:AS):0 ≤ asI s:=Int.natCast_nonneg _
theorem kp (s:AS):BitVec.ofInt 32 (asI s) = s:=by
 unfold asI
 rw [BitVec.ofInt_natCast,BitVec.ofNat_toNat,BitVec.setWidth_eq]
theorem ep {a b:AS}:asI a = asI b ↔ a = b:=by
 unfold asI
 rw [Int.ofNat_inj]
 exact BitVec.toNat_inj
theorem zc (s:AS):IntKind.wrap .u32 (s.toNat:Int) = asI s:=aeb (a6q s) (acf s)
theorem i6 (a b:AS):d4 .and .u32 (asI a) (asI b) = asI (a &&& b):=by
 show IntKind.wrap .u32 ((BitVec.ofInt 32 (asI a) &&& BitVec.ofInt 32 (asI b)).toNat:Int) = _
 rw [kp,kp,zc]
theorem bOr (a b:AS):d4 .or .u32 (asI a) (asI b) = asI (a ||| b):=by
 show IntKind.wrap .u32 ((BitVec.ofInt 32 (asI a) ||| BitVec.ofInt 32 (asI b)).toNat:Int) = _
 rw [kp,kp,zc]
theorem aif (a b:AS):d4 .xor .u32 (asI a) (asI b) = asI (a ^^^ b):=by
 show IntKind.wrap .u32 ((BitVec.ofInt 32 (asI a) ^^^ BitVec.ofInt 32 (asI b)).toNat:Int) = _
 rw [kp,kp,zc]
theorem i7 (a b:AS):d4 .andNot .u32 (asI a) (asI b) = asI (a &&& ~~~b):=by
 show IntKind.wrap .u32 ((BitVec.ofInt 32 (asI a) &&& ~~~BitVec.ofInt 32 (asI b)).toNat:Int) = _
 rw [kp,kp,zc]
theorem wn (a:AS) (n:Nat):(asI a).fdiv (2 ^ (min n 32)) = asI (a >>> n):=by
 have e:(2:Int) ^ (min n 32) = ((2 ^ (min n 32):Nat):Int):=by rw [Int.natCast_pow];rfl
 rw [e]
 unfold asI
 rw [Int.fdiv_eq_ediv_of_nonneg _ (Int.natCast_nonneg _),← Int.natCast_ediv,BitVec.toNat_ushiftRight,Nat.shiftRight_eq_div_pow]
 by_cases h:n ≤ 32
 · rw [Nat.min_eq_left h]
 · rw [Nat.min_eq_right (by omega)]
   have h1:=a.isLt
   have h2:2 ^ 32 ≤ 2 ^ n:=Nat.pow_le_pow_right (by omega) (by omega)
   rw [Nat.div_eq_of_lt (by omega),Nat.div_eq_of_lt (Nat.lt_of_lt_of_le (by omega) h2)]
theorem aqj (a:AS) (n:Nat):IntKind.wrap .u32 (asI a * 2 ^ (min n 32)) = asI (a <<< n):=by
 have e:asI a * (2:Int) ^ (min n 32) = ((a.toNat * 2 ^ (min n 32):Nat):Int):=by rw [Int.natCast_mul,Int.natCast_pow];rfl
 rw [e]
 have hw:∀ m:Nat,IntKind.wrap .u32 (m:Int) = ((m % 4294967296:Nat):Int):=by
  intro m
  simp [IntKind.wrap,IntKind.signed,IntKind.bits]
 rw [hw]
 unfold asI
 rw [BitVec.toNat_shiftLeft,Nat.shiftLeft_eq]
 by_cases h:n ≤ 32
 · rw [Nat.min_eq_left h]
 · rw [Nat.min_eq_right (by omega)]
   have h1:a.toNat * 2 ^ 32 % 2 ^ 32 = 0:=Nat.mul_mod_left _ _
   have h2:a.toNat * 2 ^ n % 2 ^ 32 = 0:=by
    obtain ⟨k,rfl⟩:∃ k,n = k + 32:=⟨n - 32,by omega⟩
    rw [Nat.pow_add,← Nat.mul_assoc]
    exact Nat.mul_mod_left _ _
   have h1:a.toNat * 2 ^ 32 % 4294967296 = 0:=h1
   rw [h1,h2]
end Go.Hx
end
section
namespace Go.Hx
structure Fd where
 lhs:AS
 rhs:AS
instance:Inhabited Fd:=⟨⟨0,0⟩⟩
theorem Fd.eq_iff {a b:Fd}:a = b ↔ a.lhs = b.lhs ∧ a.rhs = b.rhs:=by cases a;cases b;simp
instance:DecidableEq Fd:=fun a b=>decidable_of_iff _ (Fd.eq_iff (a:=a) (b:=b)).symm
def Fd.c (x:Fd):Nat → PV
 | 0=>asC x.lhs
 | 1=>asC x.rhs
 | _=>.any
def sub (a b:AS):Prop:=a &&& ~~~b = 0
instance:DecidablePred fun p:AS × AS=>sub p.1 p.2:=fun p=>inferInstanceAs (Decidable (_ = _))
instance {a b:AS}:Decidable (sub a b):=inferInstanceAs (Decidable (_ = _))
theorem b5 {a b:AS}:sub a b ↔ ∀ i,i < 32 → a.getLsbD i = true → b.getLsbD i = true:=by
 unfold sub
 constructor
 · intro h i hi ha
   have:=congrArg (fun x:AS=>x.getLsbD i) h
   simp only [BitVec.getLsbD_and,BitVec.getLsbD_not,hi,ha,decide_true,Bool.true_and] at this
   simpa using this
 · intro h
   apply BitVec.eq_of_getLsbD_eq
   intro i hi
   have:=h i hi
   simp only [BitVec.getLsbD_and,BitVec.getLsbD_not,hi,decide_true,Bool.true_and]
   cases ha:a.getLsbD i <;> cases hb:b.getLsbD i <;> simp_all
theorem gn (a:AS):sub a a:=b5.2 fun _ _ h=>h
theorem fm {a b c:AS} (h:sub a b) (k:sub b c):sub a c:=b5.2 fun i hi ha=>b5.1 k i hi (b5.1 h i hi ha)
theorem yg {a b:AS}:sub a (a ||| b):=b5.2 fun i hi ha=>by simp [ha]
theorem a4h {a b:AS}:sub b (a ||| b):=b5.2 fun i hi ha=>by simp [ha]
theorem xm {a b c:AS} (h:sub a c) (k:sub b c):sub (a ||| b) c:=b5.2 fun i hi ha=>by
 rw [BitVec.getLsbD_or,Bool.or_eq_true] at ha
 rcases ha with ha | ha
 · exact b5.1 h i hi ha
 · exact b5.1 k i hi ha
theorem fh {a b:AS} (h:sub a b) (k:sub b a):a = b:=by
 apply BitVec.eq_of_getLsbD_eq
 intro i hi
 have h1:=b5.1 h i hi
 have h2:=b5.1 k i hi
 cases ha:a.getLsbD i <;> cases hb:b.getLsbD i <;> simp_all
theorem a6e {a b:AS} (h:sub a b):a.toNat ≤ b.toNat:=by
 have e:a ||| b = b:=fh (xm h (gn b)) a4h
 have:a.toNat ≤ (a ||| b).toNat:=by rw [BitVec.toNat_or];exact Nat.left_le_or
 rwa [e] at this
theorem a5w {a b:AS} (h:sub a b) (hne:a ≠ b):a.toNat < b.toNat:=by
 rcases Nat.lt_or_eq_of_le (a6e h) with h | h
 · exact h
 · exact absurd (BitVec.eq_of_toNat_eq h) hne
theorem aus {a b:AS}:sub a b ↔ a &&& b = a:=by
 rw [b5]
 constructor
 · intro h
   apply BitVec.eq_of_getLsbD_eq
   intro i hi
   have:=h i hi
   rw [BitVec.getLsbD_and]
   cases ha:a.getLsbD i <;> simp_all
 · intro h i hi ha
   have:=congrArg (fun x:AS=>x.getLsbD i) h
   simp only [BitVec.getLsbD_and,ha,Bool.true_and] at this
   exact this
def iz (s:AS) (f:Fd):AS:=if sub f.lhs s then s ||| f.rhs else s
def mi (l:List Fd) (s:AS):AS:=l.foldl iz s
theorem a5l {s:AS} {f:Fd}:sub s (iz s f):=by
 unfold iz
 split
 · exact yg
 · exact gn s
theorem vo:∀ {l:List Fd} {s:AS},sub s (mi l s)
 | [],s=>gn s
 | f :: l,s=>fm a5l (vo (l:=l) (s:=iz s f))
def clF (l:List Fd):Nat → AS → AS
 | 0,s=>s
 | n + 1,s=>if mi l s = s then s else clF l n (mi l s)
def clo (l:List Fd) (s:AS):AS:=clF l 4294967296 s
theorem a5q {l:List Fd}:∀ {n:Nat} {s:AS},4294967296 - s.toNat ≤ n → mi l (clF l n s) = clF l n s
 | 0,s,hn=>by have:=s.isLt;omega
 | n + 1,s,hn=>by
  unfold clF
  split
  · assumption
  · rename_i hne
    have:=a5w (vo (l:=l) (s:=s)) (fun e=>hne e.symm)
    exact a5q (by omega)
theorem ajl {l:List Fd} {s:AS}:mi l (clo l s) = clo l s:=a5q (by omega)
theorem an0 {l:List Fd}:∀ {n:Nat} {s:AS},sub s (clF l n s)
 | 0,s=>gn s
 | n + 1,s=>by
  unfold clF
  split
  · exact gn s
  · exact fm vo an0
theorem alh {l:List Fd} {s:AS}:sub s (clo l s):=an0
def qk (l:List Fd) (s:AS):Prop:=∀ f ∈ l,sub f.lhs s → sub f.rhs s
theorem sg:∀ {l:List Fd} {s:AS},mi l s = s ↔ qk l s
 | [],s=>⟨fun _ f hf=>(by cases hf),fun _=>rfl⟩
 | f :: l,s=>by
  constructor
  · intro h
    have h1:iz s f = s:=fh (by have:=vo (l:=l) (s:=iz s f);rw [show mi l (iz s f) = s from h] at this;exact this) a5l
    have h2:mi l s = s:=by
     have:mi l (iz s f) = s:=h
     rwa [h1] at this
    intro g hg
    rcases List.mem_cons.1 hg with rfl | hg
    · intro hl
      rw [iz,if_pos hl] at h1
      rw [← h1]
      exact a4h
    · exact sg.1 h2 g hg
  · intro h
    have h1:iz s f = s:=by
     unfold iz
     split
     · rename_i hl
       exact fh (xm (gn s) (h f (List.mem_cons_self ..) hl)) yg
     · rfl
    show mi l (iz s f) = s
    rw [h1]
    exact sg.2 fun g hg=>h g (List.mem_cons_of_mem _ hg)
theorem a63:∀ {l:List Fd} {s t:AS},qk l t → sub s t → sub (mi l s) t
 | [],s,t,_,h=>h
 | f :: l,s,t,ht,h=>a63 (l:=l) (fun g hg=>ht g (List.mem_cons_of_mem _ hg)) (by
  unfold iz
  split
  · rename_i hl
    exact xm h (ht f (List.mem_cons_self ..) (fm hl h))
  · exact h)
theorem afx {l:List Fd} {t:AS} (ht:qk l t):∀ {n:Nat} {s:AS},sub s t → sub (clF l n s) t
 | 0,s,h=>h
 | n + 1,s,h=>by
  unfold clF
  split
  · exact h
  · exact afx ht (a63 ht h)
theorem aa1 {l:List Fd} {s t:AS} (ht:qk l t) (h:sub s t):sub (clo l s) t:=afx ht h
theorem a15 {l:List Fd} {s:AS}:qk l (clo l s):=sg.1 ajl
end Go.Hx
end
section
namespace Go.Hx
abbrev pI (a:Int):PC:=.one (.raw (.int .i64 a))
abbrev pB (b:Bool):PC:=.one (.raw (.bool b))
abbrev pP (x:PV):PC:=.one x
abbrev pA (s:AS):PC:=.one (.raw (.int .u32 (asI s)))
abbrev fdl (l:List Fd):PV:=psl 2 Fd.c l
abbrev asl (l:List AS):PV:=psl 1 (fun s _=>asC s) l
abbrev vI (a:Int):HR:=bt (.raw (.int .i64 a))
abbrev vA (s:AS):HR:=bt (.raw (.int .u32 (asI s)))
theorem afp {a b:AS}:d4 .andNot .u32 (asI a) (asI b) = 0 ↔ sub a b:=by
 rw [i7,show (0:Int) = asI 0 from rfl,ep]
 exact Iff.rfl
def inU (n:Int) (f:Fd):Bool:=decide ((f.lhs ||| f.rhs) >>> n.toNat = 0)
def dl (n:Int) (l:List Fd):Int:=if n < 0 ∨ 16 < n then 7 else if 64 < l.length then 3 else if l.all (inU n) = true then 0 else 1
theorem a23 {n:Int} {f:Fd}:(d4 .or .u32 (asI f.lhs) (asI f.rhs)).fdiv (2 ^ (min n.toNat 32)) = 0 ↔ inU n f = true:=by
 rw [bOr,wn,show (0:Int) = asI 0 from rfl,ep]
 unfold inU
 rw [decide_eq_true_iff]
theorem fg {k:IntKind} {a b:Int} (h:a = b):CoR (bt (.raw (.int k a))) (bt (.raw (.int k b))):=by
 rw [h]
 exact CoR.refl _
def gq (n:Nat):AS:=(List.range n).foldl (fun s i=>s ||| ((1:AS) <<< i)) 0
def af (n:Int):AS:=gq (min n.toNat 32)
theorem a5r (i:Nat):gq (i + 1) = gq i ||| ((1:AS) <<< i):=by
 unfold gq
 rw [List.range_succ,List.foldl_append]
 rfl
theorem akn (i:Nat):d4 .or .u32 (asI (gq i)) (IntKind.wrap .u32 (1 * 2 ^ (min i 32))) = asI (gq (i + 1)):=by
 have e:IntKind.wrap .u32 (1 * 2 ^ (min i 32)) = asI ((1:AS) <<< i):=aqj 1 i
 rw [e,bOr,a5r]
end Go.Hx
end
section
namespace Go.Hx
open Go.Proofs
set_option maxRecDepth 100000
set_option maxHeartbeats 1000000
theorem uf:goodFn Tryz.prog 81:=⟨Tryz.f81,Tryz.func81,by kernel_rfl,by kernel_rfl⟩
theorem z7 (a b:AS):ai Tryz.prog 81 [pA a,pA b] (ao [pB (decide (sub a b))]):=by
 refine ah (nt:=10) ae Tryz.func81 rfl rfl l9 ?_;refine sx7 ?_;refine qy ?_;refine a6 ?_;refine sx7 ?_;(iterate 6 refine qy ?_);refine a6 ?_
 exact hx8 rfl rfl rfl (⟨ccb (decide_eq_decide.2 (by rw [i6,ep];exact aus.symm)),trivial⟩)
theorem ayo:goodFn Tryz.prog 82:=⟨Tryz.f82,Tryz.func82,by kernel_rfl,by kernel_rfl⟩
theorem b00 (n:Int) (l:List Fd):ai Tryz.prog 82 [pI n,pP (fdl l)] (ao [pI (dl n l)]):=by
 refine ah (nt:=31) ae Tryz.func82 rfl rfl l9 ?_;refine a7 ?_
 refine d9 1 rfl fun hlen=>?_
 refine gy ?_;refine qy ?_;refine a6 ?_;refine a7 ?_;refine sx7 ?_;(iterate 3 refine qy ?_);refine b4 rfl rfl (fun r0=>?_) (fun r0=>?_)
 ·
  have h0:=of_decide_eq_true r0
  try simp only [ty] at h0
  (iterate 2 refine k9 (gtf r0) ?_);refine rq rfl rfl rfl rfl rfl ?_ (hp:=r0);refine a6 ?_;refine a8 _ rfl (fun _=>?_) (fun e=>by cases e);refine sx7 ?_;refine qy ?_;refine a6 ?_
  exact hx8 rfl rfl rfl (⟨cci (by rw [dl,if_pos (by omega)]),trivial⟩)
 ·
  have h0:=of_decide_eq_false r0
  try simp only [ty] at h0
  (iterate 2 refine qy ?_ (hg:=(gff r0)));refine qy ?_;refine a6 ?_;refine a8 _ rfl (fun r1=>?_) (fun r1=>?_)
  ·
   have h1:=r1
   have h1:=bg r0 h1
   have h1:=of_decide_eq_true h1
   try simp only [ty] at h1
   refine sx7 ?_;refine qy ?_;refine a6 ?_
   exact hx8 rfl rfl rfl (⟨cci (by rw [dl,if_pos (by omega)]),trivial⟩)
  ·
   have h1:=r1
   have h1:=bg r0 h1
   have h1:=of_decide_eq_false h1
   try simp only [ty] at h1
   refine aa ?_;refine a7 ?_;refine sx7 ?_;(iterate 3 refine qy ?_);refine a6 ?_;refine a8 _ rfl (fun r2=>?_) (fun r2=>?_)
   ·
    have h2:=of_decide_eq_true r2
    try simp only [ty] at h2
    refine sx7 ?_;refine qy ?_;refine a6 ?_
    exact hx8 rfl rfl rfl (⟨cci (by rw [dl,if_neg (by omega),if_pos (by omega)]),trivial⟩)
   ·
    have h2:=of_decide_eq_false r2
    try simp only [ty] at h2
    refine aa ?_;refine a7 ?_;refine sx7 ?_;(iterate 3 refine qy ?_);refine a6 ?_;refine ab ?_
    refine aj (ι:=Nat) ⟨[(0,some _),(16,some _),(17,some _)],[]⟩ ⟨⟨c9,c9,c9,trivial⟩,trivial⟩ (fun i=>⟨[(18,some (vI i))],[]⟩) (fun i=>i ≤ l.length ∧ ∀ j,j < i → inU n (l.getD j default) = true) (fun i=>l.length - i) (0) (⟨Nat.zero_le _,fun j hj=>absurd hj (Nat.not_lt_zero j)⟩) ⟨⟨zy,trivial⟩,trivial⟩ ?_
    rintro i ⟨hi,hI⟩
    refine sx7 ?_;refine qy ?_;refine a6 ?_;refine a7 ?_;refine a8 _ rfl (fun r3=>?_) (fun r3=>?_)
    ·
     have h3:=of_decide_eq_true r3
     try simp only [ty] at h3
     refine aa ?_;refine a7 ?_;refine ab ?_;refine sx7 ?_;(iterate 2 refine qy ?_);refine m9 0 ?_;refine s9 ?_;refine a6 ?_;refine sx7 ?_;(iterate 8 refine qy ?_);refine a6 ?_
     refine a8 _ rfl (fun r4=>?_) (fun r4=>?_)
     ·
      have h4:=r4
      have h4:=of_decide_eq_false (av h4)
      try simp only [ty] at h4
      refine sx7 ?_;refine qy ?_;refine a6 ?_
      exact hx8 rfl rfl rfl (⟨cci (by rw [dl,if_neg (by omega),if_neg (by omega),if_neg (fun e=>absurd (a5b (l:=l) (p:=inU n) (i:=i) (by omega) (by rw [Bool.eq_false_iff];exact fun e=>absurd (a23.2 e) (by assumption))) (by rw [e];decide))]),trivial⟩)
     ·
      have h4:=r4
      have h4:=of_decide_eq_true (aw h4)
      try simp only [ty] at h4
      refine aa ?_;refine gy ?_;(iterate 2 refine qy ?_);refine a6 ?_;refine ⟨i + 1, ?_, ?_, ?_⟩
      · refine ⟨by omega,fun j hj=>?_⟩
        rcases Nat.lt_or_eq_of_le (Nat.le_of_lt_succ hj) with h | h
        · exact hI j h
        · subst h
          exact a23.1 (by assumption)
      · first | omega | (dsimp only;omega)
      · exact ⟨⟨zy,c9,c9,c9,trivial⟩,trivial⟩
    ·
     have h3:=of_decide_eq_false r3
     try simp only [ty] at h3
     obtain rfl:i = l.length:=by omega
     refine ak ?_;refine sx7 ?_;refine qy ?_;refine a6 ?_
     exact hx8 rfl rfl rfl (⟨cci (by rw [dl,if_neg (by omega),if_neg (by omega),if_pos (aap fun j hj=>hI j hj)]),trivial⟩)
theorem kx:goodFn Tryz.prog 20:=⟨Tryz.f20,Tryz.func20,by kernel_rfl,by kernel_rfl⟩
theorem l6 (n:Int):ai Tryz.prog 20 [pI n] (ao [pA (af n)]):=by
 refine ah (nt:=19) ae Tryz.func20 rfl rfl l9 ?_;refine sx7 ?_;refine qy ?_;refine a6 ?_;refine sx7 ?_;refine qy ?_;refine a6 ?_;refine a7 ?_;refine sx7 ?_;refine qy ?_;refine a6 ?_
 refine ab ?_
 refine aj (ι:=Nat) ⟨[(0,some _)],[]⟩ ⟨⟨c9,trivial⟩,trivial⟩ (fun i=>⟨[(4,some (vI i)),(3,some (vA (gq i)))],[]⟩) (fun i=>i ≤ min n.toNat 32) (fun i=>min n.toNat 32 - i) (0) (Nat.zero_le _) ⟨⟨zy,zy,trivial⟩,trivial⟩ ?_
 rintro i hi
 refine a7 ?_;refine sx7 ?_;(iterate 4 refine qy ?_);refine b4 rfl rfl (fun r0=>?_) (fun r0=>?_)
 ·
  have h0:=of_decide_eq_true r0
  try simp only [ty] at h0
  (iterate 2 refine qy ?_ (hg:=(gtt r0)));refine qy ?_;refine a6 ?_;refine a8 _ rfl (fun r1=>?_) (fun r1=>?_)
  ·
   have h1:=r1
   have h1:=df r0 h1
   have h1:=of_decide_eq_true h1
   try simp only [ty] at h1
   refine aa ?_;refine a7 ?_;refine ab ?_;refine gy ?_;(iterate 5 refine qy ?_);refine a6 ?_;refine gy ?_;(iterate 3 refine qy ?_);refine a6 ?_;refine ⟨i + 1, ?_, ?_, ?_⟩
   · show i + 1 ≤ _;omega
   · first | omega | (dsimp only;omega)
   · exact ⟨⟨zy,⟨_,rfl,(by simp only [Int.toNat_natCast];exact fg (akn i))⟩,c9,trivial⟩,trivial⟩
  ·
   have h1:=r1
   have h1:=df r0 h1
   have h1:=of_decide_eq_false h1
   try simp only [ty] at h1
   obtain rfl:i = min n.toNat 32:=by omega
   refine ak ?_;refine sx7 ?_;(iterate 2 refine qy ?_);refine a6 ?_
   exact hx8 rfl rfl rfl (CoL.refl _)
 ·
  have h0:=of_decide_eq_false r0
  try simp only [ty] at h0
  obtain rfl:i = min n.toNat 32:=by omega
  (iterate 2 refine k9 (gft r0) ?_);refine rq rfl rfl rfl rfl rfl ?_ (hp:=r0);refine a6 ?_;refine a8 _ rfl (fun e=>by cases e) (fun _=>?_);refine ak ?_;refine sx7 ?_;(iterate 2 refine qy ?_)
  refine a6 ?_
  exact hx8 rfl rfl rfl (CoL.refl _)
end Go.Hx
end
section
namespace Go.Hx
theorem a2g (i k:Nat) (hk:k < 32):((1:AS) <<< i).getLsbD k = decide (k = i):=by
 rw [BitVec.getLsbD_shiftLeft]
 by_cases h:k < i
 · simp [h,hk];omega
 · by_cases e:k = i
   · subst e;simp [hk]
   · have:0 < k - i:=by omega
     simp [hk,h,e,BitVec.getLsbD_one]
     omega
theorem mj:∀ (n k:Nat),k < 32 → (gq n).getLsbD k = decide (k < n)
 | 0,k,hk=>by simp [gq]
 | n + 1,k,hk=>by
  rw [a5r,BitVec.getLsbD_or,mj n k hk,a2g n k hk]
  by_cases h:k < n
  · simp [h];omega
  · by_cases e:k = n
    · simp [e]
    · simp [h,e];omega
theorem b13 {s:AS} {n:Nat}:s >>> n = 0 ↔ ∀ k,k < 32 → n ≤ k → s.getLsbD k = false:=by
 constructor
 · intro h k hk hn
   have:=congrArg (fun x:AS=>x.getLsbD (k - n)) h
   simp only [BitVec.getLsbD_ushiftRight] at this
   rw [show n + (k - n) = k by omega] at this
   simpa using this
 · intro h
   apply BitVec.eq_of_getLsbD_eq
   intro i hi
   rw [BitVec.getLsbD_ushiftRight]
   by_cases hk:n + i < 32
   · rw [h (n + i) hk (by omega)];simp
   · rw [BitVec.getLsbD_of_ge _ _ (by omega)];simp
theorem mz {s:AS} {n:Nat} (hn:n ≤ 32):sub s (gq n) ↔ s >>> n = 0:=by
 rw [b5,b13]
 constructor
 · intro h k hk hle
   rw [Bool.eq_false_iff]
   intro e
   have:=h k hk e
   rw [mj n k hk,decide_eq_true_iff] at this
   omega
 · intro h k hk e
   rw [mj n k hk,decide_eq_true_iff]
   apply Nat.lt_of_not_le
   intro hle
   rw [h k hk hle] at e
   cases e
theorem n7 {n:Int} (hn:0 ≤ n) (h16:n ≤ 16) {f:Fd}:inU n f = true ↔ sub f.lhs (af n) ∧ sub f.rhs (af n):=by
 unfold inU af
 rw [decide_eq_true_iff,Nat.min_eq_left (by omega),← mz (by omega)]
 exact ⟨fun h=>⟨fm yg h,fm a4h h⟩,fun h=>xm h.1 h.2⟩
abbrev Fd.pc (f:Fd):PC:=.agg [f.c 0,f.c 1]
def imp (l:List Fd) (f:Fd):Bool:=decide (sub f.rhs (clo l f.lhs))
end Go.Hx
end
section
namespace Go.Hx
open Go.Proofs
set_option maxRecDepth 100000
theorem b15:goodFn Tryz.prog 40:=⟨Tryz.f40,Tryz.func40,by kernel_rfl,by kernel_rfl⟩
theorem aw1 (n:Int) (l:List Fd):ai Tryz.prog 40 [pI n,pP (fdl l)] (ao [pI (dl n l)]):=by
 refine ah (nt:=42) ae Tryz.func40 rfl rfl l9 ?_;refine a7 ?_
 refine d9 1 rfl fun hlen=>?_
 refine gy ?_;refine qy ?_;refine a6 ?_;refine a7 ?_;refine sx7 ?_;(iterate 3 refine qy ?_);refine b4 rfl rfl (fun r0=>?_) (fun r0=>?_)
 ·
  have h0:=of_decide_eq_true r0
  try simp only [ty] at h0
  (iterate 2 refine k9 (gtf r0) ?_);refine rq rfl rfl rfl rfl rfl ?_ (hp:=r0);refine a6 ?_;refine a8 _ rfl (fun _=>?_) (fun e=>by cases e);refine sx7 ?_;refine qy ?_;refine a6 ?_
  exact hx8 rfl rfl rfl (⟨cci (by rw [dl,if_pos (by omega)]),trivial⟩)
 ·
  have h0:=of_decide_eq_false r0
  try simp only [ty] at h0
  (iterate 2 refine qy ?_ (hg:=(gff r0)));refine qy ?_;refine a6 ?_;refine a8 _ rfl (fun r1=>?_) (fun r1=>?_)
  ·
   have h1:=r1
   have h1:=bg r0 h1
   have h1:=of_decide_eq_true h1
   try simp only [ty] at h1
   refine sx7 ?_;refine qy ?_;refine a6 ?_
   exact hx8 rfl rfl rfl (⟨cci (by rw [dl,if_pos (by omega)]),trivial⟩)
  ·
   have h1:=r1
   have h1:=bg r0 h1
   have h1:=of_decide_eq_false h1
   try simp only [ty] at h1
   refine aa ?_;refine a7 ?_;refine sx7 ?_;(iterate 3 refine qy ?_);refine a6 ?_;refine a8 _ rfl (fun r2=>?_) (fun r2=>?_)
   ·
    have h2:=of_decide_eq_true r2
    try simp only [ty] at h2
    refine sx7 ?_;refine qy ?_;refine a6 ?_
    exact hx8 rfl rfl rfl (⟨cci (by rw [dl,if_neg (by omega),if_pos (by omega)]),trivial⟩)
   ·
    have h2:=of_decide_eq_false r2
    try simp only [ty] at h2
    refine aa ?_;refine sx7 ?_;refine qy ?_;refine rc rfl rfl rfl rfl rfl rfl kx (l6 n) (CoL.refl _) rfl rfl ?_;refine qy ?_;refine a6 ?_;refine a7 ?_;refine sx7 ?_;refine qy ?_;refine a6 ?_
    refine ab ?_
    refine aj (ι:=Nat) ⟨[(1,some _),(5,some _)],[]⟩ ⟨⟨c9,c9,trivial⟩,trivial⟩ (fun i=>⟨[(6,some (vI i))],[]⟩) (fun i=>i ≤ l.length ∧ ∀ j,j < i → inU n (l.getD j default) = true) (fun i=>l.length - i) (0) (⟨Nat.zero_le _,fun j hj=>absurd hj (Nat.not_lt_zero j)⟩) ⟨⟨zy,trivial⟩,trivial⟩ ?_
    rintro i ⟨hi,hI⟩
    refine a7 ?_;refine sx7 ?_;(iterate 4 refine qy ?_);refine a6 ?_;refine a8 _ rfl (fun r3=>?_) (fun r3=>?_)
    ·
     have h3:=of_decide_eq_true r3
     try simp only [ty] at h3
     refine aa ?_;refine a7 ?_;refine ab ?_;refine sx7 ?_;(iterate 6 refine qy ?_);refine rc rfl rfl rfl rfl rfl rfl uf (z7 _ _) (CoL.refl _) rfl rfl ?_;(iterate 2 refine qy ?_)
     refine b4 rfl rfl (fun r4=>?_) (fun r4=>?_)
     ·
      have h4:=r4
      have h4:=av h4
      (iterate 8 refine k9 (gtf r4) ?_);refine rq rfl rfl rfl rfl rfl ?_ (hp:=r4);refine a6 ?_;refine a8 _ rfl (fun _=>?_) (fun e=>by cases e);refine sx7 ?_;refine qy ?_;refine a6 ?_
      exact hx8 rfl rfl rfl (⟨cci (by rw [dl,if_neg (by omega),if_neg (by omega),if_neg (fun e=>absurd (a5b (l:=l) (p:=inU n) (i:=i) (by omega) (by rw [Bool.eq_false_iff];intro e2;rw [n7 (by omega) (by omega)] at e2;simp_all)) (by rw [e];decide))]),trivial⟩)
     ·
      have h4:=r4
      have h4:=aw h4
      (iterate 6 refine qy ?_ (hg:=(gff r4)));refine rc rfl rfl rfl rfl rfl rfl uf (z7 _ _) (CoL.refl _) rfl (gff r4) ?_;refine qy ?_ (hg:=(gff r4));refine qy ?_;refine a6 ?_
      refine a8 _ rfl (fun r5=>?_) (fun r5=>?_)
      ·
       have h5:=r5
       have h5:=bg r4 h5
       have h5:=av h5
       refine sx7 ?_;refine qy ?_;refine a6 ?_
       exact hx8 rfl rfl rfl (⟨cci (by rw [dl,if_neg (by omega),if_neg (by omega),if_neg (fun e=>absurd (a5b (l:=l) (p:=inU n) (i:=i) (by omega) (by rw [Bool.eq_false_iff];intro e2;rw [n7 (by omega) (by omega)] at e2;simp_all)) (by rw [e];decide))]),trivial⟩)
      ·
       have h5:=r5
       have h5:=bg r4 h5
       have h5:=aw h5
       refine aa ?_;refine gy ?_;(iterate 3 refine qy ?_);refine a6 ?_;refine ⟨i + 1, ?_, ?_, ?_⟩
       · refine ⟨by omega,fun j hj=>?_⟩
         rcases Nat.lt_or_eq_of_le (Nat.le_of_lt_succ hj) with h | h
         · exact hI j h
         · subst h
           exact (n7 (by omega) (by omega)).2 (by simp_all)
       · first | omega | (dsimp only;omega)
       · exact ⟨⟨zy,c9,c9,trivial⟩,trivial⟩
    ·
     have h3:=of_decide_eq_false r3
     try simp only [ty] at h3
     obtain rfl:i = l.length:=by omega
     refine ak ?_;refine sx7 ?_;refine qy ?_;refine a6 ?_
     exact hx8 rfl rfl rfl (⟨cci (by rw [dl,if_neg (by omega),if_neg (by omega),if_pos (aap fun j hj=>hI j hj)]),trivial⟩)
end Go.Hx
end
section
namespace Go.Hx
variable {α:Type}
theorem be [Inhabited α] {l:List α} {q:Nat} (hq:q < l.length):l.take (q + 1) = l.take q ++ [l.getD q default]:=by
 rw [List.take_add_one,List.getElem?_eq_getElem hq]
 simp [List.getD,hq]
theorem ao7 [Inhabited α] {l:List α} {q:Nat} (h0:0 < q) (hq:q ≤ l.length):(l.take q).getLast? = some (l.getD (q - 1) default):=by
 obtain ⟨k,rfl⟩:∃ k,q = k + 1:=⟨q - 1,by omega⟩
 rw [be (by omega),List.getLast?_append]
 simp
section
variable [DecidableEq α]
def j5:Option α → List α → List α
 | _,[]=>[]
 | p,x :: l=>if p = some x then j5 p l else x :: j5 (some x) l
def lm (l:List α):List α:=j5 none l
def xd (p:Option α) (l:List α):Option α:=match l.getLast? with | some y=>some y | none=>p
theorem af8 (p:Option α) (y:α) (l:List α):xd p (y :: l) = xd (some y) l:=by
 unfold xd
 cases l with
 | nil=>rfl
 | cons z l=>simp [List.getLast?_cons]
theorem a05 (x:α):∀ (l:List α) (p:Option α),j5 p (l ++ [x]) = j5 p l ++ (if xd p l = some x then [] else [x])
 | [],p=>by
  unfold xd
  simp only [List.nil_append,j5,List.getLast?_nil]
  by_cases h:p = some x <;> simp [h]
 | y :: l,p=>by
  rw [af8]
  simp only [List.cons_append,j5]
  split
  · rename_i h
    rw [a05 x l p,h]
  · rw [a05 x l (some y)];rfl
theorem mb [Inhabited α] {l:List α} {q:Nat} (h0:0 < q) (hq:q < l.length):lm (l.take (q + 1)) = lm (l.take q) ++ (if l.getD (q - 1) default = l.getD q default then [] else [l.getD q default]):=by
 unfold lm
 rw [be hq,a05]
 unfold xd
 rw [ao7 h0 (by omega)]
 simp
theorem ur [Inhabited α] {l:List α}:∀ {k:Nat},k ≤ l.length → (∀ j,0 < j → j < k → ¬ l.getD j default = l.getD (j - 1) default) → lm (l.take k) = l.take k
 | 0,_,_=>rfl
 | 1,hk,_=>by
  rw [be (by omega)]
  simp [lm,j5]
 | k + 2,hk,h=>by
  rw [mb (by omega) (by omega),ur (by omega) (fun j h1 h2=>h j h1 (by omega)),if_neg (fun e=>h (k + 1) (by omega) (by omega) e.symm),← be (by omega)]
theorem a4n:∀ (l:List α) (p:Option α),∀ x ∈ j5 p l,x ∈ l
 | [],_,x,h=>by simp [j5] at h
 | y :: l,p,x,h=>by
  simp only [j5] at h
  split at h
  · exact List.mem_cons_of_mem _ (a4n l p x h)
  · rcases List.mem_cons.1 h with rfl | h
    · exact List.mem_cons_self
    · exact List.mem_cons_of_mem _ (a4n l _ x h)
theorem a3t:∀ (l:List α) (p:Option α),∀ x ∈ l,p = some x ∨ x ∈ j5 p l
 | y :: l,p,x,h=>by
  simp only [j5]
  split
  · rename_i hp
    rcases List.mem_cons.1 h with rfl | h
    · exact .inl hp
    · exact a3t l p x h
  · rcases List.mem_cons.1 h with rfl | h
    · exact .inr List.mem_cons_self
    · rcases a3t l (some y) x h with h | h
      · simp only [Option.some.injEq] at h
        subst h
        exact .inr List.mem_cons_self
      · exact .inr (List.mem_cons_of_mem _ h)
theorem ae0 {l:List α} {x:α}:x ∈ lm l ↔ x ∈ l:=⟨a4n l none x,fun h=>by
 rcases a3t l none x h with h | h
 · cases h
 · exact h⟩
end
section
variable [Inhabited α]
theorem lg {l:List α} {p:Nat} {v:α} (hp:p < l.length):(l.set p v).getD p default = v:=by simp [List.getD,hp]
theorem getD_set_ne' {l:List α} {p j:Nat} {v:α} (h:j ≠ p):(l.set p v).getD j default = l.getD j default:=by
 simp only [List.getD,List.getElem?_set_ne (Ne.symm h)]
theorem a8r {wr wr':Bool} {n p k:Nat} {e:TypeId} {c:α → Nat → PV} {l:List α} {v:α} {x:PV} (hw:wr' = true → wr = true) (hn:n = l.length) (hp:k = p) (hk:p < l.length) (hx:x = c v 0) :
 CoO (.arr wr 1 e n (dw (lf c l) k 0 [x])) (.arr wr' 1 e n (lf c (l.set p v))):=by
 subst hp hx hn
 refine ⟨hw,rfl,rfl,rfl,fun i j hi hj=>CoP.of_eq ?_⟩
 obtain rfl:j = 0:=by omega
 unfold dw lf
 by_cases h:i = k
 · subst h
   rw [if_pos ⟨rfl,by omega,by simp⟩,lg hk]
   rfl
 · rw [if_neg (by omega),getD_set_ne' h]
theorem t7 {wr wr':Bool} {n p k q d:Nat} {e:TypeId} {c:α → Nat → PV} {l l':List α} (hw:wr' = true → wr = true) (hn:n = l.length) (hp:k = p) (hk:p < l.length) (hd:d = q) :
 CoO (.arr wr 1 e n (dw (lf c l) k 0 [lf c l' d 0])) (.arr wr' 1 e n (lf c (l.set p (l'.getD q default)))):=a8r hw hn hp hk (by rw [hd];rfl)
theorem a6y {n m a:Nat} {cl:Bool} {c:α → Nat → PV} {l l':List α} {z:List Value} {p:Option Int} {h:Option Int} (hn:fl (bv n h) p = l'.length) (hp:p = none) (ha:l'.length ≤ a) (hl:l' = l.take l'.length) :
 CoP (.sl (fl (bv n h) p) 1 cl (re (sm (lf c l) a m z) p)) (psl 1 c l'):=by
 subst hp
 refine CoP.sl hn.symm (.inl rfl) (fun h=>by cases h) fun i j hi hj=>CoP.of_eq ?_
 rw [hn] at hi
 show sm (lf c l) a m z i j = lf c l' i j
 unfold sm
 rw [if_neg (by omega)]
 simp only [lf,List.getD]
 have e:l'[i]? = l[i]?:=by rw [hl,List.getElem?_take,if_pos hi]
 rw [e]
end
abbrev sC:AS → Nat → PV:=fun s _=>asC s
structure CpI (l:List AS) (k p q:Nat) (m:List AS):Prop where
 len:m.length = l.length
 kq:k < q
 pq:p < q
 ql:q ≤ l.length
 pre:m.take p = lm (l.take q)
 high:∀ j,q - 1 ≤ j → m.getD j default = l.getD j default
theorem CpI.start {l:List AS} {k:Nat} (h1:1 ≤ k) (hk:k < l.length) (h:∀ j,0 < j → j < k → ¬ l.getD j default = l.getD (j - 1) default) (hd:l.getD k default = l.getD (k - 1) default):CpI l k k (k + 1) l :=
 ⟨rfl,by omega,by omega,by omega,by rw [mb (by omega) hk,if_pos hd.symm,List.append_nil,ur (by omega) h],fun _ _=>rfl⟩
theorem CpI.skip {l:List AS} {k p q:Nat} {m:List AS} (h:CpI l k p q m) (hq:q < l.length) (he:m.getD q default = m.getD (q - 1) default):CpI l k p (q + 1) m:=by
 have hk:=h.kq
 refine ⟨h.len,by omega,by have:=h.pq;omega,hq, ?_,fun j hj=>h.high j (by omega)⟩
 rw [h.high q (by omega),h.high (q - 1) (by omega)] at he
 rw [mb (by omega) hq,if_pos he.symm,List.append_nil,h.pre]
theorem CpI.keep {l:List AS} {k p q:Nat} {m:List AS} (h:CpI l k p q m) (hq:q < l.length) (he:¬ m.getD q default = m.getD (q - 1) default):CpI l k (p + 1) (q + 1) (m.set p (m.getD q default)):=by
 have hk:=h.kq
 have hp:=h.pq
 have hl:=h.len
 refine ⟨by simp [hl],by omega,by omega,hq, ?_,fun j hj=>by rw [getD_set_ne' (by omega)];exact h.high j (by omega)⟩
 have e:=h.high q (by omega)
 rw [e,h.high (q - 1) (by omega)] at he
 rw [mb (by omega) hq,if_neg (fun e=>he e.symm),← h.pre,be (by simp [hl];omega),lg (by omega),e]
 congr 1
 rw [List.take_set,List.set_eq_of_length_le (by simp;omega)]
theorem a91 {l:List AS} {a b a' b':Nat} (h:asI (l.getD a' default) = asI (l.getD b' default)) (ha:a' = a) (hb:b' = b):l.getD a default = l.getD b default:=by subst ha hb;exact ep.1 h
theorem a86 {l:List AS} {a b a' b':Nat} (h:¬ asI (l.getD a' default) = asI (l.getD b' default)) (ha:a' = a) (hb:b' = b):¬ l.getD a default = l.getD b default:=by subst ha hb;exact fun e=>h (congrArg asI e)
theorem ahw {l:List AS} {k:Nat} (hk:l.length ≤ k) (h:∀ j,0 < j → j < k → ¬ l.getD j default = l.getD (j - 1) default):CoP (.sl l.length 1 false (lf sC l)) (asl (lm l)):=by
 have:=ur (Nat.le_refl l.length) fun j h1 h2=>h j h1 (by omega)
 rw [List.take_length] at this
 rw [this]
 exact CoP.refl _
theorem awq {l m:List AS} {k p q n a d:Nat} {cl:Bool} {z:List Value} (hC:CpI l k p q m) (hq:¬ q < l.length) (ha:p ≤ a):CoP (.sl (fl (bv n (some (p:Int))) none) 1 cl (re (sm (lf sC m) a d z) none)) (asl (lm l)):=by
 have e:=hC.pre
 have h1:=hC.ql
 have h2:=hC.len
 have h3:=hC.pq
 rw [show q = l.length by omega,List.take_length] at e
 have el:(lm l).length = p:=by rw [← e];simp;omega
 exact a6y (by rw [el];rfl) rfl (by omega) (by rw [el,e])
end Go.Hx
end
section
namespace Go.Hx
open Go.Proofs
set_option maxRecDepth 100000
theorem atw:goodFn Tryz.prog 114:=⟨Tryz.f114,Tryz.func114,by kernel_rfl,by kernel_rfl⟩
theorem aqk (l:List AS):dg Tryz.prog 114 [.one (.ref 900 l.length)] [(900, .arr true 1 38 l.length (lf sC l))] (.v (.one (.p (asl (lm l))))) [] []:=by
 refine eq (nt:=61) ae Tryz.func114 rfl rfl l9 rfl ?_;refine a7 ?_
 refine ahy 900 rfl fun hlen=>?_
 refine gy ?_;refine qy ?_;refine a6 ?_;refine a7 ?_;refine sx7 ?_;(iterate 3 refine qy ?_);refine a6 ?_;refine a8 _ rfl (fun r0=>?_) (fun r0=>?_)
 ·
  have h0:=of_decide_eq_true r0
  try simp only [ty] at h0
  refine sx7 ?_;(iterate 2 refine qy ?_);refine a6 ?_;refine bn 2 rfl rfl rfl ?_;refine ap ?_;refine ⟨.inr rfl, ?_⟩
  exact ⟨_,_,rfl,(by (repeat' apply And.intro) <;> first | trivial | exact Nat.le_of_ble_eq_true rfl),ahw (k:=l.length) (Nat.le_refl _) (fun j h1 h2=>by omega),trivial⟩
 ·
  have h0:=of_decide_eq_false r0
  try simp only [ty] at h0
  refine aa ?_;refine a7 ?_;refine sx7 ?_;refine qy ?_;refine a6 ?_;refine ab ?_
  refine aj (ι:=Nat) ⟨[(0,some _)],[(900,some _)]⟩ ⟨⟨c9,trivial⟩,⟨u9,trivial⟩⟩ (fun k=>⟨[(3,some (vI k))],[]⟩) (fun k=>1 ≤ k ∧ k ≤ l.length ∧ ∀ j,0 < j → j < k → ¬ l.getD j default = l.getD (j - 1) default) (fun k=>l.length - k) (1) (⟨Nat.le_refl _,by omega,fun j h1 h2=>by omega⟩) ⟨⟨zy,trivial⟩,trivial⟩ ?_
  rintro k ⟨hk1,hk,hI⟩
  refine a7 ?_;refine sx7 ?_;(iterate 4 refine qy ?_);refine a6 ?_;refine a8 _ rfl (fun r1=>?_) (fun r1=>?_)
  ·
   have h1:=of_decide_eq_true r1
   try simp only [ty] at h1
   refine aa ?_;refine a7 ?_;refine ab ?_;refine a7 ?_;refine ax (E:=bf) ae ar [0,1,2,3,4,5,6,7,8,9] ?_;(iterate 10 refine qy ?_);refine a6 ?_;refine ⟨by kernel_rfl, ?_⟩
   refine a8 _ rfl (fun r2=>?_) (fun r2=>?_)
   ·
    have h2:=of_decide_eq_true r2
    try simp only [ty] at h2
    refine sx7 ?_;(iterate 4 refine qy ?_);refine a6 ?_;refine a7 ?_;refine sx7 ?_;refine qy ?_;refine a6 ?_;refine ab ?_
    refine aj (ι:=Nat × Nat × List AS) ⟨[(0,some _),(4,some _)],[]⟩ ⟨⟨c9,c9,trivial⟩,trivial⟩ (fun x=>⟨[(3,some (vI x.1)),(5,some (vI ((x.2.1:Int) - k)))],[(900,some (.arr true 1 38 l.length (lf sC x.2.2)))]⟩) (fun x=>CpI l k x.1 x.2.1 x.2.2) (fun x=>l.length - x.2.1) ((k,k + 1,l)) (CpI.start hk1 (by omega) hI (a91 (by assumption) rfl (by omega))) ⟨⟨zy,⟨_,rfl,(coi (by first | rfl | (dsimp only;omega)))⟩,trivial⟩,⟨u9,trivial⟩⟩ ?_
    rintro ⟨p,q,m⟩ hC
    have hC0:=hC
    obtain ⟨hml,hkq,hpq,hql,_,_⟩:=hC0
    dsimp only at hC hml hkq hpq hql
    refine a7 ?_;refine sx7 ?_;(iterate 4 refine qy ?_);refine a6 ?_;refine a8 _ rfl (fun r3=>?_) (fun r3=>?_)
    ·
     have h3:=of_decide_eq_true r3
     try simp only [ty] at h3
     simp only [fl,bv,Int.toNat_natCast] at h3
     refine aa ?_;refine a7 ?_;refine ab ?_;refine a7 ?_;refine ax (E:=bf) ae ar [0,1,2,3,4,5,6,7,8,9] ?_;(iterate 10 refine qy ?_);refine a6 ?_
     refine ⟨by kernel_rfl, ?_⟩;refine a8 _ rfl (fun r4=>?_) (fun r4=>?_)
     ·
      have h4:=r4
      have h4:=of_decide_eq_false (av h4)
      try simp only [ty] at h4
      refine sx7 ?_;(iterate 7 refine qy ?_);refine s9 ?_;refine a6 ?_;refine gy ?_;(iterate 3 refine qy ?_);refine a6 ?_;refine gy ?_;(iterate 3 refine qy ?_);refine a6 ?_
      first | (refine ⟨(p + 1, q + 1, m.set p (m.getD q default)), ?_, ?_, ?_⟩
               · exact hC.keep (by omega) (a86 (by assumption) (by simp only [bv];omega) (by simp only [bv];omega))
               · first | omega | (dsimp only;omega)
               · exact ⟨⟨⟨_,rfl,(coi (by first | rfl | (dsimp only;omega)))⟩,⟨_,rfl,(coi (by first | rfl | (dsimp only;omega)))⟩,c9,c9,trivial⟩,⟨⟨_,rfl,(t7 id hml.symm (by omega) (by dsimp only;omega) (by simp only [bv];omega))⟩,trivial⟩⟩)
            | (refine ⟨(p,q + 1,m), ?_, ?_, ?_⟩
               · exact hC.skip (by omega) (a91 (by assumption) (by simp only [bv];omega) (by simp only [bv];omega))
               · first | omega | (dsimp only;omega)
               · exact ⟨⟨⟨_,rfl,(coi (by first | rfl | (dsimp only;omega)))⟩,⟨_,rfl,(coi (by first | rfl | (dsimp only;omega)))⟩,c9,c9,trivial⟩,⟨u9,trivial⟩⟩)
     ·
      have h4:=r4
      have h4:=of_decide_eq_true (aw h4)
      try simp only [ty] at h4
      refine aa ?_;refine gy ?_;(iterate 3 refine qy ?_);refine a6 ?_
      first | (refine ⟨(p + 1, q + 1, m.set p (m.getD q default)), ?_, ?_, ?_⟩
               · exact hC.keep (by omega) (a86 (by assumption) (by simp only [bv];omega) (by simp only [bv];omega))
               · first | omega | (dsimp only;omega)
               · exact ⟨⟨⟨_,rfl,(coi (by first | rfl | (dsimp only;omega)))⟩,⟨_,rfl,(coi (by first | rfl | (dsimp only;omega)))⟩,c9,c9,trivial⟩,⟨⟨_,rfl,(t7 id hml.symm (by omega) (by dsimp only;omega) (by simp only [bv];omega))⟩,trivial⟩⟩)
            | (refine ⟨(p,q + 1,m), ?_, ?_, ?_⟩
               · exact hC.skip (by omega) (a91 (by assumption) (by simp only [bv];omega) (by simp only [bv];omega))
               · first | omega | (dsimp only;omega)
               · exact ⟨⟨⟨_,rfl,(coi (by first | rfl | (dsimp only;omega)))⟩,⟨_,rfl,(coi (by first | rfl | (dsimp only;omega)))⟩,c9,c9,trivial⟩,⟨u9,trivial⟩⟩)
    ·
     have h3:=of_decide_eq_false r3
     try simp only [ty] at h3
     simp only [fl,bv,Int.toNat_natCast] at h3
     refine ak ?_;refine sx7 ?_;(iterate 3 refine qy ?_);refine ra 0 true rfl rfl rfl rfl rfl rfl ?_;refine a6 ?_;refine sx7 ?_;(iterate 2 refine qy ?_);refine ary rfl rfl rfl rfl rfl ?_;refine qy ?_
     refine a6 ?_;refine ap ?_;refine ⟨.inr rfl, ?_⟩
     exact ⟨_,_,rfl,(by (repeat' apply And.intro) <;> first | trivial | exact Nat.le_of_ble_eq_true rfl),awq hC (by omega) (by simp [bv]),trivial⟩
   ·
    have h2:=of_decide_eq_false r2
    try simp only [ty] at h2
    refine aa ?_;refine gy ?_;(iterate 3 refine qy ?_);refine a6 ?_;refine ⟨k + 1, ?_, ?_, ?_⟩
    · refine ⟨by omega,by show k + 1 ≤ _;omega,fun j h1 h2=>?_⟩
      rcases Nat.lt_or_eq_of_le (Nat.le_of_lt_succ h2) with h | h
      · exact hI j h1 h
      · subst h
        exact a86 (by assumption) rfl (by omega)
    · first | omega | (dsimp only;omega)
    · exact ⟨⟨zy,c9,trivial⟩,⟨u9,trivial⟩⟩
  ·
   have h1:=of_decide_eq_false r1
   try simp only [ty] at h1
   refine ak ?_;refine sx7 ?_;(iterate 2 refine qy ?_);refine a6 ?_;refine bn 2 rfl rfl rfl ?_;refine ap ?_;refine ⟨.inr rfl, ?_⟩
   exact ⟨_,_,rfl,(by (repeat' apply And.intro) <;> first | trivial | exact Nat.le_of_ble_eq_true rfl),ahw (k:=k) (by omega) hI,trivial⟩
end Go.Hx
end
section
namespace Go.Hx
section
variable {α:Type} [Inhabited α] {p:α → Bool} {l:List α}
theorem arh (h:idx p l = -1):∀ j,j < l.length → p (l.getD j default) = false:=fun j hj=>by
 cases hc:p (l.getD j default) with
 | false=>rfl
 | true =>
  exfalso
  have hx:∃ x ∈ l,p x = true:=⟨l[j],List.getElem_mem hj,by simpa [List.getD,hj] using hc⟩
  unfold idx at h
  cases hf:l.findIdx? p with
  | none =>
   rw [List.findIdx?_eq_none_iff] at hf
   obtain ⟨x,hx,hp⟩:=hx
   rw [hf x hx] at hp
   cases hp
  | some i=>rw [hf] at h;simp only at h;omega
theorem ar6 (h:¬ idx p l = -1):∃ i:Nat,idx p l = i ∧ i < l.length ∧ p (l.getD i default) = true ∧ ∀ j,j < i → p (l.getD j default) = false:=by
 unfold idx at h ⊢
 cases hf:l.findIdx? p with
 | none=>rw [hf] at h;exact absurd rfl h
 | some i =>
  obtain ⟨h1,h2,h3⟩:=List.findIdx?_eq_some_iff_getElem.1 hf
  refine ⟨i,rfl,h1,by simpa [List.getD,h1] using h2,fun j hj=>?_⟩
  have:=h3 j hj
  simp only [List.getD,List.getElem?_eq_getElem (Nat.lt_trans hj h1),Option.getD_some]
  simpa using this
theorem a0j:(decide (0 ≤ idx p l)) = l.any p:=by
 unfold idx
 cases hf:l.findIdx? p with
 | none =>
  rw [List.findIdx?_eq_none_iff] at hf
  have:l.any p = false:=by
   rw [List.any_eq_false]
   intro x hx
   rw [hf x hx]
   exact Bool.false_ne_true
  rw [this];rfl
 | some i =>
  obtain ⟨h1,h2,_⟩:=List.findIdx?_eq_some_iff_getElem.1 hf
  have:l.any p = true:=List.any_eq_true.2 ⟨l[i],List.getElem_mem h1,h2⟩
  rw [this]
  exact decide_eq_true (Int.natCast_nonneg i)
theorem yl:∀ {k:Nat},k ≤ l.length → (∀ j,j < k → p (l.getD j default) = false) → (l.take k).filter (fun x=>!p x) = l.take k
 | 0,_,_=>by simp
 | k + 1,hk,h=>by rw [be (by omega),List.filter_append,yl (by omega) fun j hj=>h j (by omega)];simp only [List.filter_cons,h k (by omega),Bool.not_false,if_true,List.filter_nil]
structure DfI (p:α → Bool) (l:List α) (k q:Nat) (m:List α):Prop where
 len:m.length = l.length
 kq:k < q
 ql:q ≤ l.length
 pre:m.take k = (l.take q).filter fun x=>!p x
 high:∀ j,q ≤ j → m.getD j default = l.getD j default
theorem DfI.start {k:Nat} (hk:k < l.length) (h1:p (l.getD k default) = true) (h:∀ j,j < k → p (l.getD j default) = false):DfI p l k (k + 1) l :=
 ⟨rfl,by omega,hk,by rw [be hk,List.filter_append,yl (by omega) h];simp only [List.filter_cons,h1,Bool.not_true,List.filter_nil,Bool.false_eq_true,if_false,List.append_nil],fun _ _=>rfl⟩
theorem DfI.skip {k q:Nat} {m:List α} (h:DfI p l k q m) (hq:q < l.length) (hp:p (m.getD q default) = true):DfI p l k (q + 1) m:=by
 rw [h.high q (Nat.le_refl _)] at hp
 exact ⟨h.len,by have:=h.kq;omega,hq,by rw [be hq,List.filter_append,← h.pre];simp only [List.filter_cons,hp,Bool.not_true,List.filter_nil,Bool.false_eq_true,if_false,List.append_nil],fun j hj=>h.high j (by omega)⟩
theorem DfI.keep {k q:Nat} {m:List α} (h:DfI p l k q m) (hq:q < l.length) (hp:p (m.getD q default) = false):DfI p l (k + 1) (q + 1) (m.set k (m.getD q default)):=by
 have e:=h.high q (Nat.le_refl _)
 rw [e] at hp ⊢
 have hk:=h.kq
 have hl:=h.len
 refine ⟨by simp [hl],by omega,hq, ?_,fun j hj=>by rw [getD_set_ne' (by omega)];exact h.high j (by omega)⟩
 rw [be (by simp [hl];omega),lg (by omega),be hq,List.filter_append,← h.pre]
 simp only [List.filter_cons,hp,Bool.not_false,if_true,List.filter_nil]
 congr 1
 rw [List.take_set,List.set_eq_of_length_le (by simp;omega)]
end
section
variable {p:AS → Bool} {l:List AS}
theorem awu (h:∀ j,j < l.length → p (l.getD j default) = false):CoP (.sl l.length 1 false (lf sC l)) (asl (l.filter fun x=>!p x)):=by
 have:=yl (Nat.le_refl l.length) h
 rw [List.take_length] at this
 rw [this]
 exact CoP.refl _
theorem auu {m:List AS} {k q n a d:Nat} {cl:Bool} {z:List Value} (hC:DfI p l k q m) (hq:¬ q < l.length) (ha:k ≤ a):CoP (.sl (fl (bv n (some (k:Int))) none) 1 cl (re (sm (lf sC m) a d z) none)) (asl (l.filter fun x=>!p x)):=by
 have e:=hC.pre
 have h1:=hC.ql
 have h2:=hC.len
 have h3:=hC.kq
 rw [show q = l.length by omega,List.take_length] at e
 have el:(l.filter fun x=>!p x).length = k:=by rw [← e];simp;omega
 exact a6y (by rw [el];rfl) rfl (by omega) (by rw [el,e])
end
instance:DecidableEq Fd:=fun a b=>decidable_of_iff (a.lhs = b.lhs ∧ a.rhs = b.rhs) Fd.eq_iff.symm
end Go.Hx
end

/- A part of the proof: Cl2 Cs5 V5 Cs2 Cs6. -/
import Derived.Lib.TrailingZeros
import Derived.Test.YteklilhbjjofbaaGreatDoorLc14
set_option linter.all false
set_option maxRecDepth 100000
namespace Go.Hx
section
section
variable {α:Type} [Inhabited α] {p:α -> Bool} {l:List α}
def ajv:(decide (0 <= idx p l)) = l.any p:=by
 unfold idx
 cases hf:l.findIdx? p with
 | none =>
  rw [List.findIdx?_eq_none_iff] at hf
  have:l.any p = false:=by
   rw [b4a];intro x hx;rw [hf x hx];exact Bool.false_ne_true
  rw [this];rfl
 | some i =>
  obtain ⟨h1,h2,_⟩:=b4y.1 hf;have:l.any p = true:=b3l.2 ⟨l[i],b31 h1,h2⟩;rw [this];exact decide_eq_true (Int.natCast_nonneg i)
def a51:∀ {k:Nat},k <= l.length -> (∀ j,j < k -> p (l.getD j default) = false) -> (l.take k).filter (fun x=>!p x) = l.take k
 | 0,_,_=>by simp
 | k + 1,hk,h=>by rw [bi b5s,b55,a51 b5s fun j hj=>h j b5s];simp only [b4p,h k b5s,Bool.not_false,if_true,List.filter_nil]
structure DfI (p:α -> Bool) (l:List α) (k q:Nat) (m:List α):Prop where
 len:m.length = l.length
 kq:k < q
 ql:q <= l.length
 pre:m.take k = (l.take q).filter fun x=>!p x
 high:∀ j,q <= j -> m.getD j default = l.getD j default
theorem DfI.start {k:Nat} (hk:k < l.length) (h1:p (l.getD k default) = true) (h:∀ j,j < k -> p (l.getD j default) = false):DfI p l k (k + 1) l :=
 ⟨rfl,by omega,hk,by rw [bi hk,b55,a51 b5s h];simp only [b4p,h1,Bool.not_true,List.filter_nil,b5i,if_false,b3u],fun _ _=>rfl⟩
theorem DfI.skip {k q:Nat} {m:List α} (h:DfI p l k q m) (hq:q < l.length) (hp:p (m.getD q default) = true):DfI p l k (q + 1) m:=by
 rw [h.high q (b2v _)] at hp;exact ⟨h.len,by have:=h.kq;omega,hq,by rw [bi hq,b55,<- h.pre];simp only [b4p,hp,Bool.not_true,List.filter_nil,b5i,if_false,b3u],fun j hj=>h.high j b5s⟩
theorem DfI.keep {k q:Nat} {m:List α} (h:DfI p l k q m) (hq:q < l.length) (hp:p (m.getD q default) = false):DfI p l (k + 1) (q + 1) (m.set k (m.getD q default)):=by
 have e:=h.high q (b2v _);rw [e] at hp ⊢;have hk:=h.kq;have hl:=h.len;refine ⟨by simp [hl],by omega,hq, ?_,fun j hj=>by rw [getD_set_ne' b5s];exact h.high j b5s⟩;rw [bi (by simp [hl];omega),ge b5s,bi hq,b55,<- h.pre];simp only [b4p,hp,Bool.not_false,if_true,List.filter_nil];congr 1;rw [List.take_set,b5f b66]
end
section
variable {p:AS -> Bool} {l:List AS}
end
instance:DecidableEq Fd:=fun a b=>decidable_of_iff (a.lhs = b.lhs /\ a.rhs = b.rhs) Fd.eq_iff.symm
end
section
def bm (s:AS) (i:Int):Bool:=decide (0 <= i /\ i < 32) && s.getLsbD i.toNat
def fg {s:AS} {i:Nat} (h:i < 32):bm s i = s.getLsbD i:=by
 unfold bm;rw [decide_eq_true b5s];simp
def a8h {s:AS} {i:Int} (h0:0 <= i) (h1:i < 32):decide (gt .and .u32 ((asI s).fdiv (2 ^ (min i.toNat 32))) 1 = 1) = bm s i:=by
 unfold bm;rw [amc,show (1:Int) = asI 1 from rfl,l8,decide_eq_true (show 0 <= i /\ i < 32 from ⟨h0,h1⟩),b4r]
 have e:asI (s >>> i.toNat &&& 1) = asI 1 <-> s.getLsbD i.toNat = true:=by
  rw [s3];constructor
  · intro h
    have:=congrArg (fun x:AS=>x.getLsbD 0) h;simpa using this
  intro h;apply b48;intro k hk;have h1:(1:AS).getLsbD k = decide (k = 0):=by have:=a0n 0 k hk;simpa using this
  rw [b3w,BitVec.getLsbD_ushiftRight,h1];by_cases hk0:k = 0
  · subst hk0;simp [h]
  simp [hk0]
 cases hb:s.getLsbD i.toNat with
 | true=>exact decide_eq_true (e.2 hb)
 | false=>exact decide_eq_false fun h=>by rw [e.1 h] at hb;cases hb
def a4x {s:AS} {i:Int} (h:¬ (0 <= i /\ i < 32)):bm s i = false:=by
 unfold bm;rw [decide_eq_false h];rfl
def ad7 {n:Nat} (h:n <= 32):iz n = BitVec.ofNat 32 (2 ^ n - 1):=by
 apply b48;intro k hk;rw [kx n k hk,BitVec.getLsbD_ofNat,Nat.testBit_two_pow_sub_one];simp [hk]
def ade {n:Nat} (h:n <= 32):(iz n).toNat = 2 ^ n - 1:=by
 have h2:2 ^ n <= 2 ^ 32:=Nat.pow_le_pow_right b5s h;have h3:0 < 2 ^ n:=Nat.two_pow_pos n;rw [ad7 h,BitVec.toNat_ofNat,Nat.mod_eq_of_lt b5s]
def aee {n:Int} {l:List Fd} (h:d6 n l = 0):0 <= n /\ n <= 16 /\ l.length <= 64 /\ l.all (inU n) = true:=by
 unfold d6 at h;split at h
 · cases h
 split at h
 · cases h
 split at h
 · rename_i h1 h2 h3
   exact ⟨by omega,by omega,by omega,h3⟩
 cases h
def a05 {n:Int} (h0:0 <= n) (h1:n <= 16):IntKind.wrap .u32 (1 * 2 ^ (min n.toNat 32)) - 1 = asI (ai n):=by
 have h2:2 ^ n.toNat <= 2 ^ 16:=Nat.pow_le_pow_right b5s b5s;have h3:0 < 2 ^ n.toNat:=Nat.two_pow_pos _;rw [show IntKind.wrap .u32 (1 * 2 ^ (min n.toNat 32)) = asI ((1:AS) <<< n.toNat) from avi 1 n.toNat];unfold ai asI;rw [b42 b5s,ade b5s,BitVec.toNat_shiftLeft,Nat.shiftLeft_eq];rw [show (1:AS).toNat = 1 from rfl,Nat.one_mul,Nat.mod_eq_of_lt b5s];omega
def ans {n:Int} (h0:0 <= n) (h1:n <= 16):0 <= IntKind.wrap .u32 (1 * 2 ^ (min n.toNat 32)) - 1:=by rw [a05 h0 h1];exact aax _
def ahn {n:Int} (h0:0 <= n) (h1:n <= 16):IntKind.wrap .u32 (1 * 2 ^ (min n.toNat 32)) - 1 <= 4294967295:=by rw [a05 h0 h1];have:=a90 (ai n);omega
def a69 (n:Int) (l:List Fd) (s:AS):Bool:=decide (d6 n l = 0 /\ sub s (ai n) /\ clo l s = ai n)
section
variable {n:Int} {l:List Fd} {s:AS}
end
def a2f (n:Int) (l:List Fd) (m:Int):Int:=if d6 n l = 0 then (if m < n then 3 else 0) else d6 n l
structure Dp where
 l:BitVec 8
 r:BitVec 8
deriving Inhabited
def Dp.c (d:Dp):Nat -> PV
 | 0=>.raw (.int .u8 (d.l.toNat:Int))
 | 1=>.raw (.int .u8 (d.r.toNat:Int))
 | _=>.any
abbrev dpl (l:List Dp):PV:=psl 2 Dp.c l
def Dp.fd (n:Int) (d:Dp):Fd:=⟨d.l.setWidth 32 &&& ai n,d.r.setWidth 32 &&& ai n⟩
def yy (b:BitVec 8) (t:AS):gt .and .u32 (b.toNat:Int) (asI t) = asI (b.setWidth 32 &&& t):=by
 have h:=b.isLt
 have e:asI (b.setWidth 32) = (b.toNat:Int):=by
  unfold asI;rw [BitVec.toNat_setWidth,Nat.mod_eq_of_lt b5s]
 rw [<- l8,e]
end
section
open Go.Proofs
def aza (s:AS) (i:Int):a8 b6g 119 [pA s,pI i] (ab [pB (bm s i)]):=by
 refine hpx (nt:=18) Tryz.func119 ?_;refine w_9 ?_;refine ae rfl rfl (fun r0=>?_) (fun r0=>?_)
 ·
  have h0:=tz1 r0;(iterate 2 refine qy ?_ (hg:=(gtt r0)));refine w_2 ?_;refine ae rfl rfl (fun r1=>?_) (fun r1=>?_)
  ·
   have h1:=tz1 (bp r0 r1);(iterate 5 refine qy ?_ (hg:=(gtt r1)));refine w_3 ?_
   exact hx8 rfl rfl rfl (⟨ccb (by first | exact vw b5t (a8h b5s b5s) | exact (a4x b5s).symm),trivial⟩)
  have h1:=tz2 (bp r0 r1);(iterate 5 refine k9 (gft r1) ?_);refine w_3 ?_
  exact hx8 rfl rfl rfl (⟨ccb (by first | exact vw b5t (a8h b5s b5s) | exact (a4x b5s).symm),trivial⟩)
 have h0:=tz2 r0;(iterate 2 refine k9 (gft r0) ?_);refine w_2 ?_;(iterate 5 refine k9 rfl ?_);refine w_3 ?_
 exact hx8 rfl rfl rfl (⟨ccb (by first | exact vw b5t (a8h b5s b5s) | exact (a4x b5s).symm),trivial⟩)
end
section
def bsz (s:AS):Nat:=(List.range 32).countP fun i=>s.getLsbD i
def bef (a b:AS):Bool:=decide (bsz a < bsz b) || (decide (bsz a = bsz b) && decide (a.toNat < b.toNat))
def awe (l:List AS):Prop:=l.Pairwise fun a b=>bef a b = true
def av9 (x:AS):List AS -> List AS
 | []=>[x]
 | y :: l=>if x = y then y :: l else if bef x y = true then x :: y :: l else y :: av9 x l
def ord (l:List AS):List AS:=l.foldl (fun o x=>av9 x o) []
end
section
def b9 (s:AS):List Nat:=(List.range 32).filter fun i=>s.getLsbD i
def iC:Nat -> Nat -> PV:=fun n _=>.raw (.int .i64 (n:Int))
abbrev il (l:List Nat):PV:=psl 1 iC l
def ahd (s:AS):bsz s = (b9 s).length:=by unfold bsz b9;rw [List.countP_eq_length_filter]
section
variable {s:AS}
def zr {i:Nat}:i ∈ b9 s <-> i < 32 /\ s.getLsbD i = true:=by simp [b9,b4x,b3e]
def yf {p:Nat -> Bool} {t:Nat}:∀ {l:List Nat},l.Pairwise (· < ·) -> t ∈ l -> p t = true -> (∀ k,k < t -> p k = false) -> l.filter p = t :: l.filter fun k=>decide (k ≠ t) && p k
 | [],_,h,_,_=>by cases h
 | a :: l,hp,hm,h1,h2=>by
  obtain ⟨q1,q2⟩:=b3q.1 hp;by_cases ha:a = t
  · subst ha
    have e:l.filter p = l.filter fun k=>decide (k ≠ a) && p k:=by
     apply List.filter_congr;intro k hk;have:=q1 k hk;rw [decide_eq_true b5s,b4r]
    simp [b4p,h1,e]
  have hm':t ∈ l:=by
   rcases b2z.1 hm with h | h
   · exact absurd h.symm ha
   exact h
  have:=q1 t hm';have hpa:=h2 a this;simp [b4p,hpa,yf q2 hm' h1 h2]
def l7 (s:AS):Nat:=Lib.ctz 32 s.toNat
def aky (h:s ≠ 0):∃ m,s.toNat = 2 ^ (l7 s + 1) * m + 2 ^ l7 s /\ l7 s < 32:=by
 have h0:s.toNat ≠ 0:=fun e=>h (b59 e);obtain ⟨m,h1,h2⟩:=Lib.ctzFrom_spec 32 s.toNat b5s s.isLt;have e:l7 s = Lib.ctzFrom 32 s.toNat:=by unfold l7 Lib.ctz;rw [if_neg h0]
 rw [e];refine ⟨m, ?_,h2⟩;rw [Nat.pow_succ];rw [h1] at *;simp only [Nat.mul_add,Nat.mul_assoc,Nat.mul_one] at *;exact h1
def a0h (h:s ≠ 0):l7 s < 32 /\ s.getLsbD (l7 s) = true /\ (∀ k,k < l7 s -> s.getLsbD k = false) /\ s &&& (s - 1) = s &&& ~~~((1:AS) <<< l7 s):=by
 obtain ⟨m,h1,h2⟩:=aky h;generalize l7 s = t at *;have hp:2 ^ t < 2 ^ (t + 1):=Nat.pow_lt_pow_right b5s b5s
 have hb:∀ k,s.getLsbD k = if k < t + 1 then (2 ^ t).testBit k else m.testBit (k - (t + 1)):=fun k=>by
  show s.toNat.testBit k = _;rw [h1,Nat.testBit_two_pow_mul_add _ hp]
 have hq:0 < 2 ^ t:=Nat.two_pow_pos t
 have e1:(s - 1).toNat = 2 ^ (t + 1) * m + (2 ^ t - 1):=by
  have:=s.isLt;rw [BitVec.toNat_sub];show (2 ^ 32 - 1 + s.toNat) % 2 ^ 32 = _;omega
 have hd:∀ k,(s - 1).getLsbD k = if k < t + 1 then (2 ^ t - 1).testBit k else m.testBit (k - (t + 1)):=fun k=>by
  show (s - 1).toNat.testBit k = _;rw [e1,Nat.testBit_two_pow_mul_add _ b5s]
 refine ⟨h2, ?_,fun k hk=>?_, ?_⟩
 · rw [hb,if_pos b5s,Nat.testBit_two_pow_self]
 · rw [hb,if_pos b5s,Nat.testBit_two_pow]
   simp;omega
 apply b48;intro k hk;rw [b3w,b3w,b54,a0n _ _ hk,hd k,hb k];by_cases h3:k < t + 1
 · rw [if_pos h3,if_pos h3,Nat.testBit_two_pow,Nat.testBit_two_pow_sub_one]
   by_cases h4:k = t
   · subst h4;simp
   have:¬ t = k:=fun e=>h4 e.symm;simp [this]
 rw [if_neg h3,if_neg h3];have:¬ k = t:=by omega
 simp [hk,this]
def a04 (h:s ≠ 0) (k:Nat) (hk:k < 32):(s &&& (s - 1)).getLsbD k = (decide (k ≠ l7 s) && s.getLsbD k):=by
 rw [(a0h h).2.2.2,b3w,b54,a0n _ _ hk];by_cases e:k = l7 s <;> simp [e,hk,Bool.and_comm]
def ajy (h:s ≠ 0):b9 s = l7 s :: b9 (s &&& (s - 1)):=by
 obtain ⟨h1,h2,h3,_⟩:=a0h h;unfold b9;rw [yf List.pairwise_lt_range (b3e.2 h1) h2 h3];congr 1;apply List.filter_congr;intro k hk;rw [a04 h k (b3e.1 hk)]
def agi:b9 0 = []:=by
 unfold b9;rw [List.filter_eq_nil_iff];intro k _;simp
def alp (h:s ≠ 0):(s &&& (s - 1)).toNat < s.toNat:=by
 refine aan (bu.2 fun i hi hb=>?_) fun e=>?_
 · rw [a04 h i hi] at hb
   simp only [b2x] at hb;exact hb.2
 have:=a04 h (l7 s) (a0h h).1;rw [e,(a0h h).2.1] at this;simp at this
end
end
end Go.Hx

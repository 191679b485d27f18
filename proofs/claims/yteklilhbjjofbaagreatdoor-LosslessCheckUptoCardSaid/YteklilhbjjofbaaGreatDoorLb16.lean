/- A part of the proof: Cs6. -/
import Derived.Lib.TrailingZeros
import Derived.Test.YteklilhbjjofbaaGreatDoorLb15
set_option linter.all false
namespace Go.Hx
section
def b6 (s:AS):List Nat:=(List.range 32).filter fun i=>s.getLsbD i
def iC:Nat -> Nat -> PV:=fun n _=>.raw (.int .i64 (n:Int))
abbrev il (l:List Nat):PV:=psl 1 iC l
def ajn (s:AS):bsz s = (b6 s).length:=by unfold bsz b6;rw [List.countP_eq_length_filter]
section
variable {s:AS}
def uz {i:Nat}:i ∈ b6 s <-> i < 32 /\ s.getLsbD i = true:=by simp [b6,b4i,b2v]
def a0h {p:Nat -> Bool} {t:Nat}:∀ {l:List Nat},l.Pairwise (· < ·) -> t ∈ l -> p t = true -> (∀ k,k < t -> p k = false) -> l.filter p = t :: l.filter fun k=>decide (k ≠ t) && p k
 | [],_,h,_,_=>by cases h
 | a :: l,hp,hm,h1,h2=>by
  obtain ⟨q1,q2⟩:=b35.1 hp;by_cases ha:a = t
  · subst ha
    have e:l.filter p = l.filter fun k=>decide (k ≠ a) && p k:=by
     apply List.filter_congr;intro k hk;have:=q1 k hk;rw [decide_eq_true b5c,b4c]
    simp [b4e,h1,e]
  have hm':t ∈ l:=by
   rcases b2f.1 hm with h | h
   · exact absurd h.symm ha
   exact h
  have:=q1 t hm';have hpa:=h2 a this;simp [b4e,hpa,a0h q2 hm' h1 h2]
def kc (s:AS):Nat:=Lib.ctz 32 s.toNat
def amo (h:s ≠ 0):∃ m,s.toNat = 2 ^ (kc s + 1) * m + 2 ^ kc s /\ kc s < 32:=by
 have h0:s.toNat ≠ 0:=fun e=>h (b59 e);obtain ⟨m,h1,h2⟩:=Lib.ctzFrom_spec 32 s.toNat b5c s.isLt;have e:kc s = Lib.ctzFrom 32 s.toNat:=by unfold kc Lib.ctz;rw [if_neg h0]
 rw [e];refine ⟨m, ?_,h2⟩;rw [Nat.pow_succ];rw [h1] at *;simp only [Nat.mul_add,Nat.mul_assoc,Nat.mul_one] at *;exact h1
def a1c (h:s ≠ 0):kc s < 32 /\ s.getLsbD (kc s) = true /\ (∀ k,k < kc s -> s.getLsbD k = false) /\ s &&& (s - 1) = s &&& ~~~((1:AS) <<< kc s):=by
 obtain ⟨m,h1,h2⟩:=amo h;generalize kc s = t at *;have hp:2 ^ t < 2 ^ (t + 1):=Nat.pow_lt_pow_right b5c b5c
 have hb:∀ k,s.getLsbD k = if k < t + 1 then (2 ^ t).testBit k else m.testBit (k - (t + 1)):=fun k=>by
  show s.toNat.testBit k = _;rw [h1,Nat.testBit_two_pow_mul_add _ hp]
 have hq:0 < 2 ^ t:=Nat.two_pow_pos t
 have e1:(s - 1).toNat = 2 ^ (t + 1) * m + (2 ^ t - 1):=by
  have:=s.isLt;rw [BitVec.toNat_sub];show (2 ^ 32 - 1 + s.toNat) % 2 ^ 32 = _;omega
 have hd:∀ k,(s - 1).getLsbD k = if k < t + 1 then (2 ^ t - 1).testBit k else m.testBit (k - (t + 1)):=fun k=>by
  show (s - 1).toNat.testBit k = _;rw [e1,Nat.testBit_two_pow_mul_add _ b5c]
 refine ⟨h2, ?_,fun k hk=>?_, ?_⟩
 · rw [hb,if_pos b5c,Nat.testBit_two_pow_self]
 · rw [hb,if_pos b5c,Nat.testBit_two_pow]
   simp;omega
 apply b3r;intro k hk;rw [b3j,b3j,BitVec.getLsbD_not,a0p _ _ hk,hd k,hb k];by_cases h3:k < t + 1
 · rw [if_pos h3,if_pos h3,Nat.testBit_two_pow,Nat.testBit_two_pow_sub_one]
   by_cases h4:k = t
   · subst h4;simp
   have:¬ t = k:=fun e=>h4 e.symm;simp [this]
 rw [if_neg h3,if_neg h3];have:¬ k = t:=by omega
 simp [hk,this]
def a07 (h:s ≠ 0) (k:Nat) (hk:k < 32):(s &&& (s - 1)).getLsbD k = (decide (k ≠ kc s) && s.getLsbD k):=by
 rw [(a1c h).2.2.2,b3j,BitVec.getLsbD_not,a0p _ _ hk];by_cases e:k = kc s <;> simp [e,hk,Bool.and_comm]
def ajl (h:s ≠ 0):b6 s = kc s :: b6 (s &&& (s - 1)):=by
 obtain ⟨h1,h2,h3,_⟩:=a1c h;unfold b6;rw [a0h List.pairwise_lt_range (b2v.2 h1) h2 h3];congr 1;apply List.filter_congr;intro k hk;rw [a07 h k (b2v.1 hk)]
def agy:b6 0 = []:=by
 unfold b6;rw [List.filter_eq_nil_iff];intro k _;simp
def alh (h:s ≠ 0):(s &&& (s - 1)).toNat < s.toNat:=by
 refine ach (du.2 fun i hi hb=>?_) fun e=>?_
 · rw [a07 h i hi] at hb
   simp only [b2h] at hb;exact hb.2
 have:=a07 h (kc s) (a1c h).1;rw [e,(a1c h).2.1] at this;simp at this
end
end
end Go.Hx

/- A part of the proof: Cs6. -/
import Derived.Lib.TrailingZeros
import Derived.Test.YtodligmokcbbkaaDoorPx16
set_option linter.all false
section
namespace Go.Hx
def bq (s:AS):List Nat:=(List.range 32).filter fun i=>s.getLsbD i
def iC:Nat → Nat → PV:=fun n _=>.raw (.int .i64 (n:Int))
abbrev il (l:List Nat):PV:=psl 1 iC l
theorem s5 (s:AS):bsz s = (bq s).length:=by unfold bsz bq;rw [List.countP_eq_length_filter]
theorem lz {s:AS} {i:Nat}:i ∈ bq s ↔ i < 32 ∧ s.getLsbD i = true:=by simp [bq,List.mem_filter,List.mem_range]
theorem yo {p:Nat → Bool} {t:Nat}:∀ {l:List Nat},l.Pairwise (· < ·) → t ∈ l → p t = true → (∀ k,k < t → p k = false) → l.filter p = t :: l.filter fun k=>decide (k ≠ t) && p k
 | [],_,h,_,_=>by cases h
 | a :: l,hp,hm,h1,h2=>by
  obtain ⟨q1,q2⟩:=List.pairwise_cons.1 hp
  by_cases ha:a = t
  · subst ha
    have e:l.filter p = l.filter fun k=>decide (k ≠ a) && p k:=by
     apply List.filter_congr
     intro k hk
     have:=q1 k hk
     rw [decide_eq_true (by omega),Bool.true_and]
    simp [List.filter_cons,h1,e]
  · have hm':t ∈ l:=by
     rcases List.mem_cons.1 hm with h | h
     · exact absurd h.symm ha
     · exact h
    have:=q1 t hm'
    have hpa:=h2 a this
    simp [List.filter_cons,hpa,yo q2 hm' h1 h2]
def jw (s:AS):Nat:=Lib.ctz 32 s.toNat
theorem ai1 {s:AS} (h:s ≠ 0):∃ m,s.toNat = 2 ^ (jw s + 1) * m + 2 ^ jw s ∧ jw s < 32:=by
 have h0:s.toNat ≠ 0:=fun e=>h (BitVec.eq_of_toNat_eq e)
 obtain ⟨m,h1,h2⟩:=Lib.ctzFrom_spec 32 s.toNat (by omega) s.isLt
 have e:jw s = Lib.ctzFrom 32 s.toNat:=by unfold jw Lib.ctz;rw [if_neg h0]
 rw [e]
 refine ⟨m, ?_,h2⟩
 rw [Nat.pow_succ]
 rw [h1] at *
 simp only [Nat.mul_add,Nat.mul_assoc,Nat.mul_one] at *
 exact h1
theorem zq {s:AS} (h:s ≠ 0):jw s < 32 ∧ s.getLsbD (jw s) = true ∧ (∀ k,k < jw s → s.getLsbD k = false) ∧ s &&& (s - 1) = s &&& ~~~((1:AS) <<< jw s):=by
 obtain ⟨m,h1,h2⟩:=ai1 h
 generalize jw s = t at *
 have hp:2 ^ t < 2 ^ (t + 1):=Nat.pow_lt_pow_right (by omega) (by omega)
 have hb:∀ k,s.getLsbD k = if k < t + 1 then (2 ^ t).testBit k else m.testBit (k - (t + 1)):=fun k=>by
  show s.toNat.testBit k = _
  rw [h1,Nat.testBit_two_pow_mul_add _ hp]
 have hq:0 < 2 ^ t:=Nat.two_pow_pos t
 have e1:(s - 1).toNat = 2 ^ (t + 1) * m + (2 ^ t - 1):=by
  have:=s.isLt
  rw [BitVec.toNat_sub]
  show (2 ^ 32 - 1 + s.toNat) % 2 ^ 32 = _
  omega
 have hd:∀ k,(s - 1).getLsbD k = if k < t + 1 then (2 ^ t - 1).testBit k else m.testBit (k - (t + 1)):=fun k=>by
  show (s - 1).toNat.testBit k = _
  rw [e1,Nat.testBit_two_pow_mul_add _ (by omega)]
 refine ⟨h2, ?_,fun k hk=>?_, ?_⟩
 · rw [hb,if_pos (by omega),Nat.testBit_two_pow_self]
 · rw [hb,if_pos (by omega),Nat.testBit_two_pow]
   simp;omega
 · apply BitVec.eq_of_getLsbD_eq
   intro k hk
   rw [BitVec.getLsbD_and,BitVec.getLsbD_and,BitVec.getLsbD_not,zo _ _ hk,hd k,hb k]
   by_cases h3:k < t + 1
   · rw [if_pos h3,if_pos h3,Nat.testBit_two_pow,Nat.testBit_two_pow_sub_one]
     by_cases h4:k = t
     · subst h4;simp
     · have:¬ t = k:=fun e=>h4 e.symm
       simp [this]
   · rw [if_neg h3,if_neg h3]
     have:¬ k = t:=by omega
     simp [hk,this]
theorem yf {s:AS} (h:s ≠ 0) (k:Nat) (hk:k < 32):(s &&& (s - 1)).getLsbD k = (decide (k ≠ jw s) && s.getLsbD k):=by
 rw [(zq h).2.2.2,BitVec.getLsbD_and,BitVec.getLsbD_not,zo _ _ hk]
 by_cases e:k = jw s <;> simp [e,hk,Bool.and_comm]
theorem aeo {s:AS} (h:s ≠ 0):bq s = jw s :: bq (s &&& (s - 1)):=by
 obtain ⟨h1,h2,h3,_⟩:=zq h
 unfold bq
 rw [yo List.pairwise_lt_range (List.mem_range.2 h1) h2 h3]
 congr 1
 apply List.filter_congr
 intro k hk
 rw [yf h k (List.mem_range.1 hk)]
theorem abt:bq 0 = []:=by
 unfold bq
 rw [List.filter_eq_nil_iff]
 intro k _
 simp
theorem ah9 {s:AS} (h:s ≠ 0):(s &&& (s - 1)).toNat < s.toNat:=by
 refine af9 (bo.2 fun i hi hb=>?_) fun e=>?_
 · rw [yf h i hi] at hb
   simp only [Bool.and_eq_true] at hb
   exact hb.2
 · have:=yf h (jw s) (zq h).1
   rw [e,(zq h).2.1] at this
   simp at this
end Go.Hx
end

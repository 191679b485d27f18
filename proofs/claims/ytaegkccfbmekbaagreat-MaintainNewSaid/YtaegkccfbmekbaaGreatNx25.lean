/- A part of the proof: Ms2. -/
import Derived.Test.YtaegkccfbmekbaaGreatNx17
import Derived.Test.YtaegkccfbmekbaaGreatNx22
import Derived.Test.YtaegkccfbmekbaaGreatNx23
import Derived.Test.YtaegkccfbmekbaaGreatNx24
set_option linter.all false
section
namespace Go.Hx
open Go.RowKit
theorem a96 {s:AS} {i:Nat} (h:i < 32):fl .and .u32 ((asI s).fdiv (2 ^ (min i 32))) 1 = 1 ↔ s.getLsbD i = true:=by
 have e:=a98 (s:=s) (i:=(i:Int)) (by omega) (by omega)
 rw [uj h,Int.toNat_natCast] at e
 rw [← e,decide_eq_true_iff]
theorem aqr {s:AS} {i:Nat} (h:i < 32):fl .and .u32 ((asI s).fdiv (2 ^ (min i 32))) 1 = 0 ∨ fl .and .u32 ((asI s).fdiv (2 ^ (min i 32))) 1 = 1:=by
 rw [aad,show (1:Int) = asI 1 from rfl,zg]
 have e:s >>> i &&& 1 = 0 ∨ s >>> i &&& 1 = (1:AS):=by
  cases hb:(s >>> i).getLsbD 0 with
  | false =>
   refine .inl (BitVec.eq_of_getLsbD_eq fun k hk=>?_)
   rw [BitVec.getLsbD_and]
   rcases Nat.eq_zero_or_pos k with rfl | h0
   · rw [hb];simp
   · rw [show (1:AS).getLsbD k = false by rw [show (1:AS) = (1:AS) <<< 0 by simp,l3 0 k hk];simp;omega];simp
  | true =>
   refine .inr (BitVec.eq_of_getLsbD_eq fun k hk=>?_)
   rw [BitVec.getLsbD_and]
   rcases Nat.eq_zero_or_pos k with rfl | h0
   · rw [hb];simp
   · rw [show (1:AS).getLsbD k = false by rw [show (1:AS) = (1:AS) <<< 0 by simp,l3 0 k hk];simp;omega];simp
 rcases e with e | e <;> rw [e]
 · exact .inl rfl
 · exact .inr rfl
theorem aub {s:AS} {i:Nat} (h:i < 32) (e:fl .and .u32 ((asI s).fdiv (2 ^ (min i 32))) 1 = 0):s.getLsbD i = false:=by
 rw [Bool.eq_false_iff]
 intro hb
 rw [(a96 h).2 hb] at e
 omega
theorem aqg {s:AS} {i:Nat} (h:i < 32) (e:¬ fl .and .u32 ((asI s).fdiv (2 ^ (min i 32))) 1 = 0):s.getLsbD i = true:=(a96 h).1 ((aqr h).resolve_left e)
theorem arw {s:AS} {i:Nat} (h:i < 32) (e:¬ fl .and .u32 ((asI s).fdiv (2 ^ (min i 32))) 1 = 1):s.getLsbD i = false:=by
 rw [Bool.eq_false_iff]
 exact fun hb=>e ((a96 h).2 hb)
theorem a67 {rows:List Row} {n clock:Nat} {es:Array MapEntry} {seen:Array Nat} {K:List AS} (hf:ExF (.int .u32) n (mpF (d8 rows)) es clock) (hv:Vis es seen (K.map mkA)) (h0:(leftOf es seen).size = 0) (k:AS):k ∈ K ↔ k ∈ prs rows:=by
 constructor
 · intro hk
   obtain ⟨v,hv2⟩:=apq hf hv (List.mem_map_of_mem (f:=mkA) hk)
   obtain ⟨s,e,hc,_⟩:=o6 hv2
   rw [a61.1 e]
   exact a3q.1 hc
 · intro hk
   have hm:=aoa hf hv h0 (key:=mkA k) (by rw [a0g,if_pos (a3q.2 hk)])
   obtain ⟨x,hx,e⟩:=List.mem_map.1 hm
   rw [← a61.1 e]
   exact hx
theorem uf {c:AS → Int} {n clock:Nat} {es:Array MapEntry} {seen:Array Nat} {K:List AS} {e:MapEntry} {k:AS} (hf:ExF (.int .u32) n (mpF c) es clock) (hv:Vis es seen (K.map mkA)) (he:e ∈ (leftOf es seen).toList) (hk:e.key = (mkA k).val):Vis es (seen.push e.born) ((K ++ [k]).map mkA):=by
 rw [List.map_append]
 exact (ajy hf hv he hk).2
theorem aq3 {v:Value} {k:Int} (h:PV.raw v = nI k):v = .int .i64 k:=PV.raw.inj h
theorem aiw {K:List AS} {all x k:AS} (h:sub x k):mb (K ++ [k]) all x = mb K all x &&& k:=by rw [a7o,if_pos h]
theorem ajd {K:List AS} {all x k:AS} (h:¬ sub x k):mb (K ++ [k]) all x = mb K all x:=by rw [a7o,if_neg h]
def fk (i a a':Nat):Nat:=if a' < a then i + 1 else i
theorem l5 (i a:Nat):fk i a a = i:=by unfold fk;rw [if_neg (by omega)]
abbrev a62 (ps:List AS) (n i a:Nat):Nat → Nat:=fun b=>(dl ps n b (fk i a b)).length
abbrev a0q (ps:List AS) (n i a:Nat):Nat → Nat → Nat → PV:=fun b=>lf sC (dl ps n b (fk i a b))
abbrev nst (ps:List AS) (n i a:Nat):ah:=.nest 66 69 1 n (a62 ps n i a) (a0q ps n i a) none
theorem aox {ps:List AS} {n i a:Nat}:∀ b q j,b < n → q < a62 ps n i a b → j < 1 → ∃ v,a0q ps n i a b q j = .raw v:=fun b q j _ _ hj=>by
 obtain rfl:j = 0:=by omega
 exact ⟨_,rfl⟩
theorem atr {ps:List AS} {n:Nat} {g:Nat → Nat → Nat → PV}:CoO (.nest 66 69 1 n (fun _=>0) g none) (nst ps n 0 0):=by
 have e:∀ b,dl ps n b (fk 0 0 b) = []:=fun b=>by unfold fk;rw [if_neg (by omega)];rfl
 refine ⟨rfl,rfl,rfl,rfl,rfl,fun b hb=>?_,fun b r j _ hr _=>absurd hr (Nat.not_lt_zero r)⟩
 show (dl ps n b (fk 0 0 b)).length = 0
 rw [e];rfl
theorem apy {ps:List AS} {n i a i2 a2:Nat} (h:∀ b,b < n → fk i a b = fk i2 a2 b):CoO (nst ps n i a) (nst ps n i2 a2) :=
 ⟨rfl,rfl,rfl,rfl,rfl,fun b hb=>by show (dl ps n b (fk i2 a2 b)).length = (dl ps n b (fk i a b)).length;rw [h b hb],fun b r j hb _ _=>CoP.of_eq (by show lf sC (dl ps n b (fk i a b)) r j = lf sC (dl ps n b (fk i2 a2 b)) r j;rw [h b hb])⟩
theorem ao4 (ps:List AS) (n i:Nat):CoO (nst ps n i n) (nst ps n (i + 1) 0):=apy fun b hb=>by
 unfold fk;rw [if_pos hb,if_neg (by omega)]
theorem m7 {ps:List AS} {n i a kk:Nat} {ff:Nat → Nat → PV} (h:CoO (.arr true 1 69 kk ff) (.arr true 1 69 (dl ps n a (i + 1)).length (lf sC (dl ps n a (i + 1))))) :
 CoO (.nest 66 69 1 n (i7 (a62 ps n i a) a kk) (j3 (a0q ps n i a) a ff) none) (nst ps n i (a + 1)):=by
 obtain ⟨_,_,_,hl,hc⟩:=h
 have e1:fk i (a + 1) a = i + 1:=by unfold fk;rw [if_pos (by omega)]
 have e2:∀ b,b ≠ a → fk i (a + 1) b = fk i a b:=fun b hb=>by
  unfold fk
  by_cases h1:b < a
  · rw [if_pos h1,if_pos (by omega)]
  · rw [if_neg h1,if_neg (by omega)]
 refine ⟨rfl,rfl,rfl,rfl,rfl,fun b hb=>?_,fun b r j hb hr hj=>?_⟩
 · show (dl ps n b (fk i (a + 1) b)).length = i7 (a62 ps n i a) a kk b
   by_cases h1:b = a
   · subst h1;rw [a1j,e1,hl]
   · rw [a3m h1,e2 b h1]
 · show CoP (j3 (a0q ps n i a) a ff b r j) (lf sC (dl ps n b (fk i (a + 1) b)) r j)
   have hr:r < i7 (a62 ps n i a) a kk b:=hr
   by_cases h1:b = a
   · subst h1
     rw [a1j] at hr
     rw [e1,show j3 (a0q ps n i b) b ff b = ff by simp [j3]]
     exact hc r j hr hj
   · have:Nat.beq b a = false:=by rw [Bool.eq_false_iff];exact fun hb=>h1 (Nat.eq_of_beq_eq_true hb)
     rw [e2 b h1,show j3 (a0q ps n i a) a ff b = a0q ps n i a b by simp [j3,this]]
     exact CoP.refl _
theorem acx {ro:Option Nat} {P:Program} {nt:Nat} {co:Code} {st:HSt} {Q:Exit → HSt → Prop} {ps:List AS} {n i a:Nat} (ho:bs st.o 900 = some (nst ps n i a)) (hr:a < n)
 (h:∀ hd B,a6g 69 1 n a (a62 ps n i a) (a0q ps n i a) hd B → HW (ro:=ro) P nt co ⟨st.t,(907,some (.bun B)) :: (906,some (.arr true 1 69 (dl ps n a (fk i a a)).length (lf sC (dl ps n a (fk i a a))))) :: (900,some (.arrh 1 66 n [906] (hdF hd 906 a (dl ps n a (fk i a a)).length))) :: st.o⟩ Q)
 (h1:me 906 st = true:=by exact rfl) (h2:me 907 st = true:=by exact rfl):HW (ro:=ro) P nt co st Q :=
 aka 900 a 906 907 ho hr aox (fun hd B hbf=>h hd B hbf) rfl h1 h2 rfl
theorem ats {ps:List AS} {n i a:Nat} (h:(mb ps (b9 n) ((cu n).getD i default)).getLsbD a = false):nwB ps n i a = false:=by
 unfold nwB atA;rw [h];rfl
theorem au8 {ps:List AS} {n i a:Nat} (h:((cu n).getD i default).getLsbD a = true):nwB ps n i a = false:=by
 unfold nwB atA;rw [h];simp
theorem am9 {ps:List AS} {n i a:Nat} {b:Bool} (h1:(mb ps (b9 n) ((cu n).getD i default)).getLsbD a = true) (h2:((cu n).getD i default).getLsbD a = false)
 (h3:((dl ps n a (fk i a a)).any fun y=>decide (sub y ((cu n).getD i default))) = b):nwB ps n i a = !b:=by
 rw [l5] at h3
 unfold nwB atA;rw [h1,h2,h3];simp
theorem a5h {hd:Nat → Value} {id r k k2:Nat}:lz (hdF hd id r k) r 0 [.ref id k2] r 0 = .ref id k2:=by simp [lz]
theorem a5q {hd:Nat → Value} {id r k k2 i:Nat} (h:i ≠ r):lz (hdF hd id r k) r 0 [.ref id k2] i 0 = .p (.raw (hd i)):=by
 simp only [lz]
 rw [if_neg (fun e=>h e.1),tf h]
end Go.Hx
end

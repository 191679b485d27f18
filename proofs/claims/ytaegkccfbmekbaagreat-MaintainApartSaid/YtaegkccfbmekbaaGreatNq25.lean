/- A part of the proof: Ms2. -/
import Derived.Test.YtaegkccfbmekbaaGreatNq17
import Derived.Test.YtaegkccfbmekbaaGreatNq22
import Derived.Test.YtaegkccfbmekbaaGreatNq23
import Derived.Test.YtaegkccfbmekbaaGreatNq24
set_option linter.all false
section
namespace Go.Hx
open Go.RowKit
theorem a8x {s:AS} {i:Nat} (h:i < 32):fc .and .u32 ((asI s).fdiv (2 ^ (min i 32))) 1 = 1 ↔ s.getLsbD i = true:=by
 have e:=a8u (s:=s) (i:=(i:Int)) (by omega) (by omega)
 rw [tx h,Int.toNat_natCast] at e
 rw [← e,decide_eq_true_iff]
theorem ar8 {s:AS} {i:Nat} (h:i < 32):fc .and .u32 ((asI s).fdiv (2 ^ (min i 32))) 1 = 0 ∨ fc .and .u32 ((asI s).fdiv (2 ^ (min i 32))) 1 = 1:=by
 rw [aaf,show (1:Int) = asI 1 from rfl,a0k]
 have e:s >>> i &&& 1 = 0 ∨ s >>> i &&& 1 = (1:AS):=by
  cases hb:(s >>> i).getLsbD 0 with
  | false =>
   refine .inl (BitVec.eq_of_getLsbD_eq fun k hk=>?_)
   rw [BitVec.getLsbD_and]
   rcases Nat.eq_zero_or_pos k with rfl | h0
   · rw [hb];simp
   · rw [show (1:AS).getLsbD k = false by rw [show (1:AS) = (1:AS) <<< 0 by simp,l3 0 k hk];simp;omega];simp
  | true =>
   refine .inr (BitVec.eq_of_getLsbD_eq fun k hk=>?_)
   rw [BitVec.getLsbD_and]
   rcases Nat.eq_zero_or_pos k with rfl | h0
   · rw [hb];simp
   · rw [show (1:AS).getLsbD k = false by rw [show (1:AS) = (1:AS) <<< 0 by simp,l3 0 k hk];simp;omega];simp
 rcases e with e | e <;> rw [e]
 · exact .inl rfl
 · exact .inr rfl
theorem auo {s:AS} {i:Nat} (h:i < 32) (e:fc .and .u32 ((asI s).fdiv (2 ^ (min i 32))) 1 = 0):s.getLsbD i = false:=by
 rw [Bool.eq_false_iff]
 intro hb
 rw [(a8x h).2 hb] at e
 omega
theorem arv {s:AS} {i:Nat} (h:i < 32) (e:¬ fc .and .u32 ((asI s).fdiv (2 ^ (min i 32))) 1 = 0):s.getLsbD i = true:=(a8x h).1 ((ar8 h).resolve_left e)
theorem aqz {s:AS} {i:Nat} (h:i < 32) (e:¬ fc .and .u32 ((asI s).fdiv (2 ^ (min i 32))) 1 = 1):s.getLsbD i = false:=by
 rw [Bool.eq_false_iff]
 exact fun hb=>e ((a8x h).2 hb)
theorem w8 {rows:List Row} {n clock:Nat} {es:Array MapEntry} {seen:Array Nat} {K:List AS} (hf:ExF (.int .u32) n (mpF (cw rows)) es clock) (hv:Vis es seen (K.map mkA)) (h0:(leftOf es seen).size = 0) (k:AS):k ∈ K ↔ k ∈ prs rows:=by
 constructor
 · intro hk
   obtain ⟨v,hv2⟩:=apc hf hv (List.mem_map_of_mem (f:=mkA) hk)
   obtain ⟨s,e,hc,_⟩:=l5 hv2
   rw [a6o.1 e]
   exact a9s.1 hc
 · intro hk
   have hm:=aow hf hv h0 (key:=mkA k) (by rw [a0g,if_pos (a9s.2 hk)])
   obtain ⟨x,hx,e⟩:=List.mem_map.1 hm
   rw [← a6o.1 e]
   exact hx
theorem mr {c:AS → Int} {n clock:Nat} {es:Array MapEntry} {seen:Array Nat} {K:List AS} {e:MapEntry} {k:AS} (hf:ExF (.int .u32) n (mpF c) es clock) (hv:Vis es seen (K.map mkA)) (he:e ∈ (leftOf es seen).toList) (hk:e.key = (mkA k).val):Vis es (seen.push e.born) ((K ++ [k]).map mkA):=by
 rw [List.map_append]
 exact (akp hf hv he hk).2
theorem ajk {v:Value} {k:Int} (h:PV.raw v = nI k):v = .int .i64 k:=PV.raw.inj h
theorem ahc {K:List AS} {all x k:AS} (h:sub x k):m7 (K ++ [k]) all x = m7 K all x &&& k:=by rw [a85,if_pos h]
theorem aj1 {K:List AS} {all x k:AS} (h:¬ sub x k):m7 (K ++ [k]) all x = m7 K all x:=by rw [a85,if_neg h]
def fk (i a a':Nat):Nat:=if a' < a then i + 1 else i
theorem kw (i a:Nat):fk i a a = i:=by unfold fk;rw [if_neg (by omega)]
abbrev a71 (ps:List AS) (n i a:Nat):Nat → Nat:=fun b=>(dj ps n b (fk i a b)).length
abbrev zr (ps:List AS) (n i a:Nat):Nat → Nat → Nat → PV:=fun b=>lf sC (dj ps n b (fk i a b))
abbrev nst (ps:List AS) (n i a:Nat):ag:=.nest 66 69 1 n (a71 ps n i a) (zr ps n i a) none
theorem anr {ps:List AS} {n i a:Nat}:∀ b q j,b < n → q < a71 ps n i a b → j < 1 → ∃ v,zr ps n i a b q j = .raw v:=fun b q j _ _ hj=>by
 obtain rfl:j = 0:=by omega
 exact ⟨_,rfl⟩
theorem aui {ps:List AS} {n:Nat} {g:Nat → Nat → Nat → PV}:CoO (.nest 66 69 1 n (fun _=>0) g none) (nst ps n 0 0):=by
 have e:∀ b,dj ps n b (fk 0 0 b) = []:=fun b=>by unfold fk;rw [if_neg (by omega)];rfl
 refine ⟨rfl,rfl,rfl,rfl,rfl,fun b hb=>?_,fun b r j _ hr _=>absurd hr (Nat.not_lt_zero r)⟩
 show (dj ps n b (fk 0 0 b)).length = 0
 rw [e];rfl
theorem arz {ps:List AS} {n i a i2 a2:Nat} (h:∀ b,b < n → fk i a b = fk i2 a2 b):CoO (nst ps n i a) (nst ps n i2 a2) :=
 ⟨rfl,rfl,rfl,rfl,rfl,fun b hb=>by show (dj ps n b (fk i2 a2 b)).length = (dj ps n b (fk i a b)).length;rw [h b hb],fun b r j hb _ _=>CoP.of_eq (by show lf sC (dj ps n b (fk i a b)) r j = lf sC (dj ps n b (fk i2 a2 b)) r j;rw [h b hb])⟩
theorem anb (ps:List AS) (n i:Nat):CoO (nst ps n i n) (nst ps n (i + 1) 0):=arz fun b hb=>by
 unfold fk;rw [if_pos hb,if_neg (by omega)]
theorem lp {ps:List AS} {n i a kk:Nat} {ff:Nat → Nat → PV} (h:CoO (.arr true 1 69 kk ff) (.arr true 1 69 (dj ps n a (i + 1)).length (lf sC (dj ps n a (i + 1))))) :
 CoO (.nest 66 69 1 n (gu (a71 ps n i a) a kk) (iz (zr ps n i a) a ff) none) (nst ps n i (a + 1)):=by
 obtain ⟨_,_,_,hl,hc⟩:=h
 have e1:fk i (a + 1) a = i + 1:=by unfold fk;rw [if_pos (by omega)]
 have e2:∀ b,b ≠ a → fk i (a + 1) b = fk i a b:=fun b hb=>by
  unfold fk
  by_cases h1:b < a
  · rw [if_pos h1,if_pos (by omega)]
  · rw [if_neg h1,if_neg (by omega)]
 refine ⟨rfl,rfl,rfl,rfl,rfl,fun b hb=>?_,fun b r j hb hr hj=>?_⟩
 · show (dj ps n b (fk i (a + 1) b)).length = gu (a71 ps n i a) a kk b
   by_cases h1:b = a
   · subst h1;rw [a14,e1,hl]
   · rw [a3b h1,e2 b h1]
 · show CoP (iz (zr ps n i a) a ff b r j) (lf sC (dj ps n b (fk i (a + 1) b)) r j)
   have hr:r < gu (a71 ps n i a) a kk b:=hr
   by_cases h1:b = a
   · subst h1
     rw [a14] at hr
     rw [e1,show iz (zr ps n i b) b ff b = ff by simp [iz]]
     exact hc r j hr hj
   · have:Nat.beq b a = false:=by rw [Bool.eq_false_iff];exact fun hb=>h1 (Nat.eq_of_beq_eq_true hb)
     rw [e2 b h1,show iz (zr ps n i a) a ff b = zr ps n i a b by simp [iz,this]]
     exact CoP.refl _
theorem ad1 {ro:Option Nat} {P:Program} {nt:Nat} {co:Code} {st:HSt} {Q:Exit → HSt → Prop} {ps:List AS} {n i a:Nat} (ho:bj st.o 900 = some (nst ps n i a)) (hr:a < n)
 (h:∀ hd B,a7a 69 1 n a (a71 ps n i a) (zr ps n i a) hd B → HW (ro:=ro) P nt co ⟨st.t,(907,some (.bun B)) :: (906,some (.arr true 1 69 (dj ps n a (fk i a a)).length (lf sC (dj ps n a (fk i a a))))) :: (900,some (.arrh 1 66 n [906] (hdF hd 906 a (dj ps n a (fk i a a)).length))) :: st.o⟩ Q)
 (h1:jv 906 st = true:=by exact rfl) (h2:jv 907 st = true:=by exact rfl):HW (ro:=ro) P nt co st Q :=
 alh 900 a 906 907 ho hr anr (fun hd B hbf=>h hd B hbf) rfl h1 h2 rfl
theorem atq {ps:List AS} {n i a:Nat} (h:(m7 ps (b6 n) ((d6 n).getD i default)).getLsbD a = false):nwB ps n i a = false:=by
 unfold nwB atA;rw [h];rfl
theorem atw {ps:List AS} {n i a:Nat} (h:((d6 n).getD i default).getLsbD a = true):nwB ps n i a = false:=by
 unfold nwB atA;rw [h];simp
theorem am9 {ps:List AS} {n i a:Nat} {b:Bool} (h1:(m7 ps (b6 n) ((d6 n).getD i default)).getLsbD a = true) (h2:((d6 n).getD i default).getLsbD a = false)
 (h3:((dj ps n a (fk i a a)).any fun y=>decide (sub y ((d6 n).getD i default))) = b):nwB ps n i a = !b:=by
 rw [kw] at h3
 unfold nwB atA;rw [h1,h2,h3];simp
theorem a4b {hd:Nat → Value} {id r k k2:Nat}:fq (hdF hd id r k) r 0 [.ref id k2] r 0 = .ref id k2:=by simp [fq]
theorem a5k {hd:Nat → Value} {id r k k2 i:Nat} (h:i ≠ r):fq (hdF hd id r k) r 0 [.ref id k2] i 0 = .p (.raw (hd i)):=by
 simp only [fq]
 rw [if_neg (fun e=>h e.1),tt h]
end Go.Hx
end

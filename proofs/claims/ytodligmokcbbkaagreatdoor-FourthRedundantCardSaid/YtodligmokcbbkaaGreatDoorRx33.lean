/- A part of the proof: Fr2 Fr3 Fr4 Fr5 Jw1 Gr1. -/
import Derived.Test.YtodligmokcbbkaaGreatDoorRx16
import Derived.Test.YtodligmokcbbkaaGreatDoorRx17
import Derived.Test.YtodligmokcbbkaaGreatDoorRx27
import Derived.Test.YtodligmokcbbkaaGreatDoorRx29
import Derived.Test.YtodligmokcbbkaaGreatDoorRx31
import Derived.Test.YtodligmokcbbkaaGreatDoorRx32
set_option linter.all false
section
namespace Go.Hx
def uc (l:List Val) (s:AS) (j:Nat):ByteArray:=((bj s).take j).foldl (fun o a=>o ++ qi (l.getD a default)) emp
theorem a7c {l:List Val} {s:AS} {j:Nat} (h:j < (bj s).length):uc l s (j + 1) = uc l s j ++ qi (l.getD ((bj s).getD j default) default):=by
 unfold uc
 rw [bh h,List.foldl_append]
 rfl
theorem a7g {l:List Val} {s:AS}:∀ {j:Nat},(uc l s j).size ≤ 403 * j
 | 0=>Nat.zero_le _
 | j + 1=>by
  have ih:=a7g (l:=l) (s:=s) (j:=j)
  by_cases h:j < (bj s).length
  · rw [a7c h,mw]
    have:=yp (v:=l.getD ((bj s).getD j default) default)
    omega
  · have e:uc l s (j + 1) = uc l s j:=by unfold uc;rw [List.take_of_length_le (by omega),List.take_of_length_le (by omega)]
    rw [e];omega
theorem akw {l:List Val} {s:AS} (hl:l.length ≤ 32) (hs:∀ a,s.getLsbD a = true → a < l.length):uc l s (bj s).length = b9 l s:=by
 have key:∀ i,i ≤ l.length → ((List.range i).filter fun a=>s.getLsbD a).foldl (fun o a=>o ++ qi (l.getD a default)) emp = b9 (l.take i) s:=by
  intro i
  induction i with
  | zero=>intro _;rfl
  | succ i ih =>
   intro hi
   have e:b9 (l.take (i + 1)) s = if s.getLsbD i = true then b9 (l.take i) s ++ qi (l.getD i default) else b9 (l.take i) s:=by
    unfold b9
    rw [bh (by omega),a72,List.length_take,Nat.min_eq_left (by omega),Nat.zero_add]
   rw [List.range_succ,List.filter_append,List.foldl_append,ih (by omega),e]
   cases hb:s.getLsbD i with
   | true=>simp [hb]
   | false=>simp [hb]
 have more:∀ k,(List.range (l.length + k)).filter (fun a=>s.getLsbD a) = (List.range l.length).filter fun a=>s.getLsbD a:=by
  intro k
  induction k with
  | zero=>rfl
  | succ k ih =>
   rw [← Nat.add_assoc,List.range_succ,List.filter_append,ih]
   have:s.getLsbD (l.length + k) = false:=by
    rw [Bool.eq_false_iff]
    intro h
    have:=hs _ h
    omega
   simp [this]
 unfold uc bj
 rw [List.take_length]
 have e:=more (32 - l.length)
 rw [show l.length + (32 - l.length) = 32 by omega] at e
 rw [e,key _ (Nat.le_refl _),List.take_length]
def mn (l:List ByteArray):MK → Option PV
 | .s k=>if l.any (fun y=>decide (y = k)) = true then some (.raw (.bool true)) else none
 | _=>none
theorem a1y {l:List ByteArray} (key:MK) (y:PV) (h:mn l key = some y):∃ v,y = .raw v:=by
 unfold mn at h
 split at h
 · split at h
   · cases h;exact ⟨_,rfl⟩
   · cases h
 · cases h
def lx (B:Nat → Option Obj) (n b:Nat) (l:List ByteArray):Prop:=∃ es clock,B b = some (.map es clock) ∧ ExF .str n (mn l) es clock
theorem a9e {n:Nat} {l:List ByteArray} {es:Array MapEntry} {clock:Nat} (h:ExF .str n (mn l) es clock):es.size = kc l:=by
 have hof:∀ x ∈ es.toList,∃ k:ByteArray,x.key = .string k ∧ k ∈ l:=fun x hx=>by
  obtain ⟨key,v,e1,e2,_⟩:=h.to x hx
  unfold mn at e2
  split at e2
  · split at e2
    · rename_i k hk
      exact ⟨k,e1,a0c.1 hk⟩
    · cases e2
  · cases e2
 let ks:List ByteArray:=es.toList.map fun x=>match x.key with | .string k=>k | _=>emp
 have hlen:ks.length = es.size:=by simp [ks]
 rw [← hlen]
 refine au7 ?_ fun k=>?_
 · refine List.pairwise_map.2 (((Go.MapKept.stamped_iff es clock).1 h.st).2.2.imp_of_mem fun {a b} ha hb hab e=>?_)
   obtain ⟨k1,e1,_⟩:=hof a ha
   obtain ⟨k2,e2,_⟩:=hof b hb
   rw [e1,e2] at e hab
   have e:k1 = k2:=e
   exact hab (by rw [e])
 · constructor
   · intro hk
     obtain ⟨x,hx,e⟩:=List.mem_map.1 hk
     obtain ⟨k1,e1,hm⟩:=hof x hx
     rw [e1] at e
     have e:k1 = k:=e
     rw [← e];exact hm
   · intro hk
     obtain ⟨_,x,hx,e⟩:=h.of (.s k) (.raw (.bool true)) (if_pos (a0c.2 hk))
     refine List.mem_map.2 ⟨x,hx, ?_⟩
     rw [e]
     rfl
section
variable (R:List Row) (d:Fd) (n:Nat)
def lA (i:Nat) (k:ByteArray):List ByteArray:=(jk (R.take i) d k).map fun r=>b9 r.vals (ig d)
def lB (i:Nat) (k:ByteArray):List ByteArray:=(jk (R.take i) d k).map fun r=>b9 r.vals (jw n d)
def lC (i:Nat) (k:ByteArray):List ByteArray:=(jk (R.take i) d k).map fun r=>b9 r.vals (ig d) ++ b9 r.vals (jw n d)
structure a2y (i:Nat) (B:Nat → Option Obj) (v:Value) (k:ByteArray) (b0 b1 b2:Nat):Prop where
 v:v = .agg #[.map (some b0), .map (some b1), .map (some b2)]
 a:lx B i b0 (lA R d i k)
 b:lx B i b1 (lB R d n i k)
 c:lx B i b2 (lC R d n i k)
 d01:b0 ≠ b1
 d02:b0 ≠ b2
 d12:b1 ≠ b2
structure l6 (m i:Nat) (es:Array MapEntry) (B:Nat → Option Obj):Prop where
 en:∀ e ∈ es.toList,∃ k,e.key = .string k ∧ (∃ r ∈ R.take m,b9 r.vals d.lhs = k) ∧ ∃ b0 b1 b2,a2y R d n i B e.val k b0 b1 b2
 all:∀ r ∈ R.take m,∃ e ∈ es.toList,e.key = .string (b9 r.vals d.lhs)
 ap:∀ e ∈ es.toList,∀ e' ∈ es.toList,∀ b0 b1 b2 c0 c1 c2,e.val = .agg #[.map (some b0), .map (some b1), .map (some b2)] → e'.val = .agg #[.map (some c0), .map (some c1), .map (some c2)] → e ≠ e' → ∀ x ∈ [b0,b1,b2],∀ y ∈ [c0,c1,c2],x ≠ y
 sz:es.size ≤ m
end
section
variable {R:List Row} {d:Fd} {n m i:Nat} {es es':Array MapEntry} {B B':Nat → Option Obj} {k:ByteArray}
theorem l6.zero:l6 R d n 0 0 #[] B:=⟨fun e he=>by simp at he,fun r hr=>by simp at hr,fun e he=>by simp at he,Nat.le_refl _⟩
theorem aj9 (h:∀ r ∈ R.take i,b9 r.vals d.lhs ≠ k):jk (R.take i) d k = []:=by
 unfold jk
 rw [List.filter_eq_nil_iff]
 intro r hr
 rw [decide_eq_true_iff]
 exact h r hr
theorem ov (hi:i < R.length):jk (R.take (i + 1)) d k = if b9 (R.getD i default).vals d.lhs = k then jk (R.take i) d k ++ [R.getD i default] else jk (R.take i) d k:=by
 unfold jk
 rw [bh hi,List.filter_append]
 split
 · rename_i h
   rw [List.filter_cons,if_pos (decide_eq_true h)]
   rfl
 · rename_i h
   rw [List.filter_cons,if_neg (by rw [decide_eq_true_iff];exact h)]
   simp
theorem lx.ne {n b:Nat} {l:List ByteArray} {c:Nat} (h:lx B n b l) (hc:B c = none):b ≠ c:=by
 rintro rfl
 obtain ⟨es,clock,h1,_⟩:=h
 rw [hc] at h1;cases h1
theorem lx.upd {n b:Nat} {l:List ByteArray} {c:Nat} {x:Option Obj} (h:lx B n b l) (hc:b ≠ c):lx (d6 B c x) n b l:=by
 obtain ⟨es,clock,h1,h2⟩:=h
 exact ⟨es,clock,by rw [c7 hc];exact h1,h2⟩
theorem lx.up {n b:Nat} {l:List ByteArray} (h:lx B n b l):lx B (n + 1) b l:=by
 obtain ⟨es,clock,h1,h2⟩:=h
 exact ⟨es,clock,h1,⟨h2.st,Nat.le_succ_of_le h2.le,h2.mx,h2.to,h2.of⟩⟩
theorem l6.put (h:l6 R d n i i es B) (hi:i < R.length) (hinj:∀ x ∈ es'.toList,∀ y ∈ es'.toList,x.key = y.key → x = y) (hno:∀ e ∈ es.toList,e.key ≠ .string (b9 (R.getD i default).vals d.lhs)) {v:Value} {b0 b1 b2:Nat} (hP:al7 es es' (.string (b9 (R.getD i default).vals d.lhs)) v)
 (hv:v = .agg #[.map (some b0), .map (some b1), .map (some b2)]) {c0 c1 c2:Nat} (h0:B b0 = none) (h1:d6 B b0 (some (.map #[] c0)) b1 = none) (h2:d6 (d6 B b0 (some (.map #[] c0))) b1 (some (.map #[] c1)) b2 = none) :
 l6 R d n (i + 1) i es' (d6 (d6 (d6 B b0 (some (.map #[] c0))) b1 (some (.map #[] c1))) b2 (some (.map #[] c2))) ∧
 ∃ e ∈ es'.toList,e.key = .string (b9 (R.getD i default).vals d.lhs) ∧ a2y R d n i (d6 (d6 (d6 B b0 (some (.map #[] c0))) b1 (some (.map #[] c1))) b2 (some (.map #[] c2))) e.val (b9 (R.getD i default).vals d.lhs) b0 b1 b2:=by
 have n01:b0 ≠ b1:=by rintro rfl;rw [ge] at h1;cases h1
 have n12:b1 ≠ b2:=by rintro rfl;rw [ge] at h2;cases h2
 have n02:b0 ≠ b2:=by rintro rfl;rw [c7 n01,ge] at h2;cases h2
 have h1':B b1 = none:=by rw [c7 (Ne.symm n01)] at h1;exact h1
 have h2':B b2 = none:=by rw [c7 (Ne.symm n12),c7 (Ne.symm n02)] at h2;exact h2
 have hnil:∀ c,ExF .str i (mn []) #[] c:=fun c=>⟨Go.MapKept.stamped_empty c,Nat.zero_le _,by simp,fun x hx=>by simp at hx,fun key y hy=>by cases key <;> simp [mn] at hy⟩
 have hg:jk (R.take i) d (b9 (R.getD i default).vals d.lhs) = []:=aj9 fun r hr e=>by
  obtain ⟨x,hx,hk⟩:=h.all r hr
  exact hno x hx (by rw [hk,e])
 have hE:a2y R d n i (d6 (d6 (d6 B b0 (some (.map #[] c0))) b1 (some (.map #[] c1))) b2 (some (.map #[] c2))) v (b9 (R.getD i default).vals d.lhs) b0 b1 b2 :=
  ⟨hv,⟨#[],c0,by rw [c7 n02,c7 n01,ge],by unfold lA;rw [hg];exact hnil _⟩,⟨#[],c1,by rw [c7 n12,ge],by unfold lB;rw [hg];exact hnil _⟩,⟨#[],c2,by rw [ge],by unfold lC;rw [hg];exact hnil _⟩,n01,n02,n12⟩
 have hold:∀ {v k} {a0 a1 a2:Nat},a2y R d n i B v k a0 a1 a2 → a2y R d n i (d6 (d6 (d6 B b0 (some (.map #[] c0))) b1 (some (.map #[] c1))) b2 (some (.map #[] c2))) v k a0 a1 a2:=fun hX =>
  ⟨hX.v,((hX.a.upd (hX.a.ne h0)).upd (hX.a.ne h1')).upd (hX.a.ne h2'),((hX.b.upd (hX.b.ne h0)).upd (hX.b.ne h1')).upd (hX.b.ne h2'),((hX.c.upd (hX.c.ne h0)).upd (hX.c.ne h1')).upd (hX.c.ne h2'),hX.d01,hX.d02,hX.d12⟩
 have htk:∀ r,r ∈ R.take (i + 1) ↔ r ∈ R.take i ∨ r = R.getD i default:=fun r=>by rw [bh hi,List.mem_append,List.mem_singleton]
 obtain ⟨e0,he0,ek,ev⟩:=hP.at_
 refine ⟨⟨fun e he=>?_,fun r hr=>?_,fun e he e' he' p0 p1 p2 q0 q1 q2 hp hq hne x hx y hy=>?_,by have:=hP.sz;have:=h.sz;omega⟩,e0,he0,ek,by rw [ev];exact hE⟩
 · rcases hP.to e he with ⟨h3,_⟩ | ⟨h3,h4⟩
   · obtain ⟨k,g1,⟨r,hr,g2⟩,a0,a1,a2,g3⟩:=h.en e h3
     exact ⟨k,g1,⟨r,(htk r).2 (.inl hr),g2⟩,a0,a1,a2,hold g3⟩
   · exact ⟨_,h3,⟨_,(htk _).2 (.inr rfl),rfl⟩,b0,b1,b2,by rw [h4];exact hE⟩
 · rcases (htk r).1 hr with hr | rfl
   · obtain ⟨x,hx,hk⟩:=h.all r hr
     obtain ⟨x',hx',hk',_⟩:=hP.old x hx (hno x hx)
     exact ⟨x',hx',hk'.trans hk⟩
   · exact ⟨e0,he0,ek⟩
 · have key:∀ (z:MapEntry),z ∈ es.toList → ∀ a0 a1 a2,z.val = .agg #[.map (some a0), .map (some a1), .map (some a2)] → ∀ x ∈ [a0,a1,a2],B x ≠ none:=fun z hz a0 a1 a2 hv x hx=>by
    obtain ⟨k,_,_,c0,c1,c2,g⟩:=h.en z hz
    have hv2:=g.v
    rw [hv] at hv2
    simp only [Value.agg.injEq,Array.mk.injEq,List.cons.injEq,Value.map.injEq,Option.some.injEq,and_true] at hv2
    obtain ⟨rfl,rfl,rfl⟩:=hv2
    obtain ⟨_,_,a1,_⟩:=g.a
    obtain ⟨_,_,a2,_⟩:=g.b
    obtain ⟨_,_,a3,_⟩:=g.c
    simp only [List.mem_cons,List.mem_nil_iff,or_false] at hx
    rcases hx with rfl | rfl | rfl
    · rw [a1];simp
    · rw [a2];simp
    · rw [a3];simp
   have new:∀ z:MapEntry,z.key = .string (b9 (R.getD i default).vals d.lhs) ∧ z.val = v → ∀ a0 a1 a2,z.val = .agg #[.map (some a0), .map (some a1), .map (some a2)] → ∀ x ∈ [a0,a1,a2],B x = none:=fun z hz a0 a1 a2 hv' x hx=>by
    rw [hz.2,hv] at hv'
    simp only [Value.agg.injEq,Array.mk.injEq,List.cons.injEq,Value.map.injEq,Option.some.injEq,and_true] at hv'
    obtain ⟨rfl,rfl,rfl⟩:=hv'
    simp only [List.mem_cons,List.mem_nil_iff,or_false] at hx
    rcases hx with rfl | rfl | rfl <;> assumption
   rcases hP.to e he with ⟨h3,h3'⟩ | h3 <;> rcases hP.to e' he' with ⟨h4,h4'⟩ | h4
   · exact h.ap e h3 e' h4 p0 p1 p2 q0 q1 q2 hp hq hne x hx y hy
   · rintro rfl
     exact key e h3 p0 p1 p2 hp x hx (new e' h4 q0 q1 q2 hq x hy)
   · rintro rfl
     exact key e' h4 q0 q1 q2 hq x hy (new e h3 p0 p1 p2 hp x hx)
   · exact absurd (hinj e he e' he' (h3.1.trans h4.1.symm)) hne
theorem l6.step (h:l6 R d n (i + 1) i es B) (hi:i < R.length) (hinj:∀ x ∈ es.toList,∀ y ∈ es.toList,x.key = y.key → x = y) {e0:MapEntry} (he0:e0 ∈ es.toList) (hk0:e0.key = .string (b9 (R.getD i default).vals d.lhs)) {b0 b1 b2:Nat}
 (hX:a2y R d n i B e0.val (b9 (R.getD i default).vals d.lhs) b0 b1 b2) (hB:∀ q,q ≠ b0 → q ≠ b1 → q ≠ b2 → B' q = B q)
 (h0:lx B' (i + 1) b0 (lA R d i (b9 (R.getD i default).vals d.lhs) ++ [b9 (R.getD i default).vals (ig d)])) (h1:lx B' (i + 1) b1 (lB R d n i (b9 (R.getD i default).vals d.lhs) ++ [b9 (R.getD i default).vals (jw n d)]))
 (h2:lx B' (i + 1) b2 (lC R d n i (b9 (R.getD i default).vals d.lhs) ++ [b9 (R.getD i default).vals (ig d) ++ b9 (R.getD i default).vals (jw n d)])):l6 R d n (i + 1) (i + 1) es B':=by
 refine ⟨fun e he=>?_,h.all,h.ap,h.sz⟩
 obtain ⟨k,g1,g2,a0,a1,a2,g3⟩:=h.en e he
 by_cases hee:e = e0
 · subst hee
   rw [hk0] at g1
   obtain rfl:b9 (R.getD i default).vals d.lhs = k:=by simpa using g1
   refine ⟨_,hk0,g2,b0,b1,b2,hX.v, ?_, ?_, ?_,hX.d01,hX.d02,hX.d12⟩
   · unfold lA at h0 ⊢;rw [ov hi,if_pos rfl,List.map_append];exact h0
   · unfold lB at h1 ⊢;rw [ov hi,if_pos rfl,List.map_append];exact h1
   · unfold lC at h2 ⊢;rw [ov hi,if_pos rfl,List.map_append];exact h2
 · have hne:b9 (R.getD i default).vals d.lhs ≠ k:=fun e2=>hee (hinj e he e0 he0 (by rw [g1,hk0,e2]))
   have hap:=h.ap e he e0 he0 _ _ _ _ _ _ g3.v hX.v hee
   have hq:∀ q ∈ [a0,a1,a2],B' q = B q:=fun q hq=>hB q (hap q hq b0 (by simp)) (hap q hq b1 (by simp)) (hap q hq b2 (by simp))
   have mv:∀ {q l},q ∈ [a0,a1,a2] → lx B i q l → lx B' (i + 1) q l:=fun {q l} hm hI=>by
    obtain ⟨es2,c2,e1,e2⟩:=hI.up
    exact ⟨es2,c2,by rw [hq q hm];exact e1,e2⟩
   refine ⟨k,g1,g2,a0,a1,a2,g3.v, ?_, ?_, ?_,g3.d01,g3.d02,g3.d12⟩
   · have:=mv (by simp) g3.a;unfold lA at this ⊢;rw [ov hi,if_neg hne];exact this
   · have:=mv (by simp) g3.b;unfold lB at this ⊢;rw [ov hi,if_neg hne];exact this
   · have:=mv (by simp) g3.c;unfold lC at this ⊢;rw [ov hi,if_neg hne];exact this
theorem al4 (h:l6 R d n R.length R.length es B) (hc:∀ e ∈ es.toList,∀ k,e.key = .string k → o4 n R d k = true):(R.all fun r=>o4 n R d (b9 r.vals d.lhs)) = true:=by
 refine List.all_eq_true.2 fun r hr=>?_
 obtain ⟨e,he,hk⟩:=h.all r (by rw [List.take_length];exact hr)
 exact hc e he _ hk
theorem agn (h:l6 R d n R.length R.length es B) {e:MapEntry} (he:e ∈ es.toList) {k:ByteArray} (hk:e.key = .string k) (hc:o4 n R d k = false):(R.all fun r=>o4 n R d (b9 r.vals d.lhs)) = false:=by
 rw [List.all_eq_false]
 obtain ⟨k',g1,⟨r,hr,g2⟩,_⟩:=h.en e he
 rw [List.take_length] at hr
 refine ⟨r,hr, ?_⟩
 rw [hk] at g1
 obtain rfl:k = k':=by simpa using g1
 rw [g2,hc]
 decide
theorem aob {k:ByteArray}:jk (R.take R.length) d k = jk R d k:=by rw [List.take_length]
theorem acd {es0 es1 es2:Array MapEntry} {c0 c1 c2:Nat} {m:Nat} (h0:ExF .str m (mn (lA R d R.length k)) es0 c0) (h1:ExF .str m (mn (lB R d n R.length k)) es1 c1) (h2:ExF .str m (mn (lC R d n R.length k)) es2 c2) :
 o4 n R d k = decide (es0.size * es1.size = es2.size):=by
 rw [a9e h0,a9e h1,a9e h2]
 unfold o4 lA lB lC
 rw [aob]
theorem a54 {l:List ByteArray} {a:ByteArray}:t6 (mn l) (.s a) (.raw (.bool true)) = mn (l ++ [a]):=by
 funext key
 cases key with
 | i q z=>rfl
 | s b =>
  show (bif decide (b = a) then some (PV.raw (.bool true)) else (if l.any (fun y=>decide (y = b)) = true then some (.raw (.bool true)) else none)) = if (l ++ [a]).any (fun y=>decide (y = b)) = true then some (.raw (.bool true)) else none
  rw [List.any_append]
  by_cases h:b = a
  · subst h
    simp
  · rw [decide_eq_false h]
    have:decide (a = b) = false:=decide_eq_false (Ne.symm h)
    show _ = if ((l.any fun y=>decide (y = b)) || (decide (a = b) || false)) = true then _ else _
    rw [this,Bool.or_false,Bool.or_false]
    rfl
end
end Go.Hx
end
section
namespace Go.Hx
abbrev rvp (r:Row):PV:=.vp 2 fun j=>[r.c 0,r.c 1].getD j .any
abbrev tvp (t:Tbl):PV:=.vp 3 fun j=>[t.c 0,t.c 1,t.c 2].getD j .any
def a5v (a b:Row) (z:Nat):Bool:=!decide (io (a.vals.getD z default) (b.vals.getD z default) = 0)
def a5n (a b:Row) (s:AS):Bool:=!(bj s).any (a5v a b)
def a31 (r:Row) (s:AS) (x:Row):Bool:=!decide (x.id = r.id) && a5n x r s
def a8z (R:List Row) (r:Row) (s:AS):Bool:=R.any (a31 r s)
def uw (R:List Row) (i:Nat) (s:AS) (k:Nat):Bool:=!decide (k = i) && ic (R.getD i default) (R.getD k default) s
def a8o (R:List Row) (i:Nat) (s:AS):Bool:=(List.range R.length).any (uw R i s)
def o5 (n:Nat) (R:List Row) (d:Fd) (i:Nat):Bool:=a8o R i (d.lhs ||| d.rhs) && a8o R i (d.lhs ||| (am (n:Int) &&& ~~~d.rhs))
def kg (n:Nat) (R:List Row) (d:Fd) (i:Nat):List Int:=((List.range i).filter (o5 n R d)).map fun i=>(R.getD i default).id
theorem a1r {k:Nat} {j:Nat} (hk:k ≤ 16) (hj:j < 32):dl (am (k:Int)) (j:Int) = decide (j < k):=by
 rw [eo hj]
 unfold am
 rw [Nat.min_eq_left (by omega),nb _ _ hj]
 simp
section
variable {n i:Nat} {R:List Row} {d:Fd} {s:AS}
theorem ka (h:o5 n R d i = true):kg n R d (i + 1) = kg n R d i ++ [(R.getD i default).id]:=by
 unfold kg
 rw [List.range_succ,List.filter_append,List.map_append,List.filter_cons,if_pos h]
 rfl
theorem kb (h:o5 n R d i = false):kg n R d (i + 1) = kg n R d i:=by
 unfold kg
 rw [List.range_succ,List.filter_append,List.map_append,List.filter_cons,if_neg (by rw [h];decide)]
 simp
theorem a9w:(kg n R d i).length ≤ i:=by
 unfold kg
 rw [List.length_map]
 exact Nat.le_trans (List.length_filter_le _ _) (by rw [List.length_range];exact Nat.le_refl _)
theorem aiw {a b:Row} (hl:a.vals.length = b.vals.length) (hs:∀ z,s.getLsbD z = true → z < a.vals.length) (h32:a.vals.length ≤ 32):a5n a b s = ic a b s:=by
 unfold a5n ic
 rw [Bool.eq_iff_iff,Bool.not_eq_true',decide_eq_true_iff,ad6 hl,List.any_eq_false]
 constructor
 · intro h z hz hh
   rw [eo (by omega)] at hh
   have:=h z (jr.2 ⟨by omega,hh⟩)
   have this:decide (io (a.vals.getD z default) (b.vals.getD z default) = 0) = true:=by simpa [a5v] using this
   exact (ac6.zero _ _).1 (of_decide_eq_true this)
 · intro h z hz
   obtain ⟨hz32,hb⟩:=jr.1 hz
   have hlt:=hs z hb
   have:=h z hlt (by rw [eo (by omega)];exact hb)
   unfold a5v
   rw [this,ac6.self]
   simp
theorem apf (hS:ah2 R) {i k:Nat} (hi:i < R.length) (hk:k < R.length) (h:(R.getD k default).id = (R.getD i default).id):k = i:=by
 rw [eq _ _ hi,eq _ _ hk] at h
 rcases Nat.lt_trichotomy k i with h1 | h1 | h1
 · have:=List.pairwise_iff_getElem.1 hS k i hk hi h1;omega
 · exact h1
 · have:=List.pairwise_iff_getElem.1 hS i k hi hk h1;omega
theorem ahq {t:Tbl} (hT:TOk t) {i:Nat} (hi:i < t.rows.length) (hs:sub s (am t.attrs.length)):a8z t.rows (t.rows.getD i default) s = a8o t.rows i s:=by
 have hn:=hT.na
 have hb:∀ z,s.getLsbD z = true → z < t.attrs.length:=fun z hz=>by
  have hz32:=a3b hz
  have:=bf.1 hs z hz32 hz
  rw [← eo hz32,a1r hn hz32] at this
  exact of_decide_eq_true this
 have hw:∀ k,k < t.rows.length → (t.rows.getD k default).vals.length = t.attrs.length:=fun k hk=>hT.width hk
 have hag:∀ k,k < t.rows.length → a5n (t.rows.getD k default) (t.rows.getD i default) s = ic (t.rows.getD i default) (t.rows.getD k default) s:=fun k hk=>by
  rw [aiw ((hw k hk).trans (hw i hi).symm) (by rw [hw k hk];exact hb) (by rw [hw k hk];omega)]
  unfold ic
  rw [decide_eq_decide]
  exact eq_comm
 have hS:=vu hT.rs
 rw [Bool.eq_iff_iff]
 unfold a8z a8o
 rw [List.any_eq_true,List.any_eq_true]
 constructor
 · rintro ⟨x,hx,h⟩
   obtain ⟨k,hk,rfl⟩:=a13 hx
   unfold a31 at h
   rw [Bool.and_eq_true,hag k hk] at h
   refine ⟨k,List.mem_range.2 hk, ?_⟩
   unfold uw
   rw [h.2,Bool.and_true]
   have h1:=h.1
   rw [Bool.not_eq_true',decide_eq_false_iff_not] at h1 ⊢
   rintro rfl;exact h1 rfl
 · rintro ⟨k,hk,h⟩
   have hk:=List.mem_range.1 hk
   unfold uw at h
   rw [Bool.and_eq_true] at h
   refine ⟨t.rows.getD k default,by rw [eq _ _ hk];exact List.getElem_mem hk, ?_⟩
   unfold a31
   rw [hag k hk,h.2,Bool.and_true]
   have h1:=h.1
   rw [Bool.not_eq_true',decide_eq_false_iff_not] at h1 ⊢
   exact fun e=>h1 (apf hS hi hk e)
end
end Go.Hx
end
section
namespace Go.Hx
section
variable {R:List Row} {d:Fd} {n m i:Nat} {es es':Array MapEntry} {B B':Nat → Option Obj} {k:ByteArray}
theorem l6.same (h:l6 R d n i i es B) (hi:i < R.length) {e:MapEntry} (he:e ∈ es.toList) (hk:e.key = .string (b9 (R.getD i default).vals d.lhs)):l6 R d n (i + 1) i es B:=by
 have htk:∀ r,r ∈ R.take (i + 1) ↔ r ∈ R.take i ∨ r = R.getD i default:=fun r=>by rw [bh hi,List.mem_append,List.mem_singleton]
 refine ⟨fun x hx=>?_,fun r hr=>?_,h.ap,Nat.le_succ_of_le h.sz⟩
 · obtain ⟨k,g1,⟨r,hr,g2⟩,g3⟩:=h.en x hx
   exact ⟨k,g1,⟨r,(htk r).2 (.inl hr),g2⟩,g3⟩
 · rcases (htk r).1 hr with hr | rfl
   · exact h.all r hr
   · exact ⟨e,he,hk⟩
end
structure ajx (P:Program) (kt:TypeId) (R:List Row) (d:Fd) (n i:Nat) (y:Array MapEntry × Nat × (Nat → Option Obj) × Nat × Nat × Nat):Prop where
 x:mq P kt y.1 y.2.1
 g:l6 R d n (i + 1) i y.1 y.2.2.1
 e:∃ e0 ∈ y.1.toList,e0.key = .string (b9 (R.getD i default).vals d.lhs) ∧ a2y R d n i y.2.2.1 e0.val (b9 (R.getD i default).vals d.lhs) y.2.2.2.1 y.2.2.2.2.1 y.2.2.2.2.2
structure xi (P:Program) (kt:TypeId) (R:List Row) (d:Fd) (n:Nat) (es:Array MapEntry) (seen:Array Nat):Prop where
 ok:∀ e ∈ es.toList,seen.contains e.born = true → ∀ k,e.key = .string k → o4 n R d k = true
theorem xi.nil {P:Program} {kt:TypeId} {R:List Row} {d:Fd} {n:Nat} {es:Array MapEntry}:xi P kt R d n es #[]:=⟨fun e he h=>by simp at h⟩
theorem xi.step {P:Program} {kt:TypeId} {R:List Row} {d:Fd} {n:Nat} {es:Array MapEntry} {clock:Nat} {seen:Array Nat} (hX:mq P kt es clock) (h:xi P kt R d n es seen) {e:MapEntry} (he:e ∈ (leftOf es seen).toList) {k:ByteArray} (hk:e.key = .string k) (hc:o4 n R d k = true):xi P kt R d n es (seen.push e.born) :=
 ⟨fun x hx hs k' hk'=>by
  rw [contains_push,Bool.or_eq_true] at hs
  rcases hs with hs | hs
  · exact h.ok x hx hs k' hk'
  · have hxe:x = e:=born_inj hX.st.2.1 hx (mem_left he).1 (by simpa using hs)
    subst hxe
    rw [hk] at hk'
    obtain rfl:k = k':=by simpa using hk'
    exact hc⟩
theorem xi.fin {P:Program} {kt:TypeId} {R:List Row} {d:Fd} {n:Nat} {es:Array MapEntry} {seen:Array Nat} (h:xi P kt R d n es seen) (h0:(leftOf es seen).size = 0):∀ e ∈ es.toList,∀ k,e.key = .string k → o4 n R d k = true:=fun e he k hk=>h.ok e he (all_seen es seen h0 e he) k hk
theorem s7 {n:Nat} {s:AS} (hn:n ≤ 16) (hs:sub s (am (n:Int))) (z:Nat) (hz:s.getLsbD z = true):z < n:=by
 have hz32:=a3b hz
 have:=bf.1 hs z hz32 hz
 rw [← eo hz32,a1r hn hz32] at this
 exact of_decide_eq_true this
theorem anw {n:Nat} {d:Fd} (h:sub (d.lhs ||| d.rhs) (am (n:Int))):sub (ig d) (am (n:Int)):=bf.2 fun i hi hb=>by
 unfold ig at hb
 rw [j5 hi,Bool.and_eq_true] at hb
 exact bf.1 h i hi (by rw [BitVec.getLsbD_or,hb.1,Bool.or_true])
theorem amn {n:Nat} {d:Fd}:sub (jw n d) (am (n:Int)):=bf.2 fun i hi hb=>by
 unfold jw at hb
 rw [j5 hi,Bool.and_eq_true] at hb
 exact hb.1
theorem a14 {n:Nat} {d:Fd} (h:sub (d.lhs ||| d.rhs) (am (n:Int))):sub d.lhs (am (n:Int)):=bf.2 fun i hi hb=>bf.1 h i hi (by rw [BitVec.getLsbD_or,hb,Bool.true_or])
end Go.Hx
end
section
namespace Go.Hx
def ja (t:Tbl) (d:Fd):Int:=if ¬ cb t = 0 then cb t else if ¬ sub (d.lhs ||| d.rhs) (am (t.attrs.length:Int)) then 1 else if mvB t d = false then 15 else 0
def oi (t:Tbl) (d:Fd):List Int:=if ja t d = 0 then kg t.attrs.length t.rows d t.rows.length else []
section
variable {t:Tbl} {d:Fd}
theorem ahl (h:¬ cb t = 0):ja t d = cb t:=if_pos h
theorem ahv (h:cb t = 0) (h2:¬ sub (d.lhs ||| d.rhs) (am (t.attrs.length:Int))):ja t d = 1:=by unfold ja;rw [if_neg (not_not_intro h),if_pos h2]
theorem ahy (h:cb t = 0) (h2:sub (d.lhs ||| d.rhs) (am (t.attrs.length:Int))) (h3:mvB t d = false):ja t d = 15:=by unfold ja;rw [if_neg (not_not_intro h),if_neg (not_not_intro h2),if_pos h3]
theorem ah4 (h:cb t = 0) (h2:sub (d.lhs ||| d.rhs) (am (t.attrs.length:Int))) (h3:mvB t d = true):ja t d = 0:=by unfold ja;rw [if_neg (not_not_intro h),if_neg (not_not_intro h2),if_neg (by rw [h3];decide)]
theorem vn (h:¬ ja t d = 0):oi t d = []:=if_neg h
theorem afl (h:ja t d = 0):oi t d = kg t.attrs.length t.rows d t.rows.length:=if_pos h
theorem aek (hT:TOk t) {i:Nat} (hi:i < t.rows.length) (hd:sub (d.lhs ||| d.rhs) (am (t.attrs.length:Int))):o5 t.attrs.length t.rows d i = (a8z t.rows (t.rows.getD i default) (d.lhs ||| d.rhs) && a8z t.rows (t.rows.getD i default) (d.lhs ||| (am (t.attrs.length:Int) &&& ~~~d.rhs))):=by
 unfold o5
 rw [ahq hT hi hd,ahq hT hi]
 refine bf.2 fun z hz hb=>?_
 rw [BitVec.getLsbD_or,Bool.or_eq_true] at hb
 rcases hb with hb | hb
 · exact bf.1 hd z hz (by rw [BitVec.getLsbD_or,hb,Bool.true_or])
 · rw [j5 hz,Bool.and_eq_true] at hb
   exact hb.1
end
end Go.Hx
end
section
namespace Go.Hx
open Go.Proofs
set_option maxRecDepth 100000
theorem ahh:ak Tryz.prog 79:=⟨Tryz.f79,Tryz.func79,by kernel_rfl,by kernel_rfl⟩
theorem acq (l:List Int) (n:Int) (hl:l.length ≤ 1000000):ju Tryz.prog 79 [.one (.ref 1000 l.length), .one (.p (.raw (.int .i64 n)))] [(1000, .arr true 1 5 l.length (lf byC l))] (.v (.one (.ref 1000 (l ++ qc n).length))) [(1000, .arr true 1 5 (l ++ qc n).length (lf byC (l ++ qc n)))] [1000]:=by
 refine vz (nt:=22) ae Tryz.func79 rfl rfl l9 rfl ?_;refine sx7 ?_;refine qy ?_;refine a6 ?_;refine sx7 ?_;refine qy ?_;refine rqw rfl rfl rfl rfl rfl ?_;(iterate 2 refine qy ?_);refine a6 ?_
 refine a7 ?_;refine sx7 ?_;refine qy ?_;refine a6 ?_;refine af ?_
 refine aw (ι:=Nat) ⟨[(5,some _)],[]⟩ ⟨⟨c9,trivial⟩,trivial⟩ (fun i=>⟨[(0,some (.v (.one (.ref 1000 (l ++ oc n i).length)))),(6,some (vI (56 - 8 * (i:Int))))],[(1000,some (.arr true 1 5 (l ++ oc n i).length (lf byC (l ++ oc n i))))]⟩) (fun i=>i ≤ 8) (fun i=>8 - i) (0) (Nat.zero_le _) ⟨⟨⟨_,rfl,(cw (by simp [oc]))⟩,⟨_,rfl,(coi (by first | rfl | omega))⟩,trivial⟩,⟨⟨_,rfl,(c8 (by simp [oc]))⟩,trivial⟩⟩ ?_
 rintro i hi
 have hlen:(l ++ oc n i).length = l.length + i:=by simp [oc]
 refine a7 ?_;refine sx7 ?_;(iterate 2 refine qy ?_);refine a6 ?_;refine a8 _ rfl (fun r0=>?_) (fun r0=>?_)
 ·
  have h0:=of_decide_eq_true r0
  try simp only [ty] at h0
  refine aa ?_;refine a7 ?_;refine af ?_;refine gy ?_;(iterate 4 refine qy ?_);refine rqw rfl rfl rfl rfl rfl ?_;refine m9 0 ?_;refine ra 1 true rfl rfl rfl rfl rfl rfl ?_;refine qy ?_;refine a6 ?_
  refine gy ?_;(iterate 3 refine qy ?_);refine a6 ?_;refine ⟨i + 1, ?_, ?_, ?_⟩
  · show i + 1 ≤ _;omega
  · first | omega | (dsimp only;omega)
  · exact ⟨⟨⟨_,rfl,(dw a9j)⟩,⟨_,rfl,(coi (by first | omega | (dsimp only;omega)))⟩,c9,trivial⟩,⟨⟨_,rfl,(ec a9j (CoP.of_eq (by dsimp only;rw [show ((56:Int) - 8 * (i:Int)).toNat = 56 - 8 * i by omega];rfl)))⟩,trivial⟩⟩
 ·
  have h0:=of_decide_eq_false r0
  try simp only [ty] at h0
  obtain rfl:i = 8:=by omega
  refine az ?_;refine sx7 ?_;(iterate 2 refine qy ?_);refine a6 ?_;refine df ?_;refine ⟨.inr rfl, ?_⟩
  exact ⟨_,_,rfl,(by (repeat' apply And.intro) <;> first | trivial | exact Nat.le_of_ble_eq_true rfl),gj (by rw [a9l]),⟨⟨_,rfl,c8 (by rw [a9l])⟩,trivial⟩⟩
theorem ap8:ak Tryz.prog 53:=⟨Tryz.f53,Tryz.func53,by kernel_rfl,by kernel_rfl⟩
theorem aw0 (v:Val):aj Tryz.prog 53 [v.pc] (ao [pS (qi v),pI (aj4 v)]):=by
 refine ai (nt:=51) ae Tryz.func53 rfl rfl l9 ?_;refine sx7 ?_;refine m9 0 ?_;(iterate 2 refine qy ?_);refine a6 ?_;refine a7 ?_;refine sx7 ?_;refine qy ?_
 refine rc rfl rfl rfl rfl rfl rfl agw (c76 v) (CoL.refl _) rfl rfl ?_;refine qy ?_;refine a6 ?_;refine a8 _ rfl (fun r0=>?_) (fun r0=>?_)
 ·
  have h0:=r0
  have h0:=b7 h0
  refine sx7 ?_;(iterate 2 refine qy ?_);refine a6 ?_
  exact hx8 rfl rfl rfl (⟨CoC.one (by rw [amr (by assumption)];exact CoP.refl _),cci (anq (by assumption)).symm,trivial⟩)
 ·
  have h0:=r0
  have h0:=b6 h0
  have hs:=x7 h0
  refine aa ?_;refine sx7 ?_;(iterate 2 refine qy ?_);refine rqw rfl rfl rfl rfl rfl ?_;refine m9 1 ?_;refine qy ?_;refine a6 ?_
  refine cr (ι:=Unit) ⟨[],[(0,some _)]⟩ ⟨trivial,⟨u9,trivial⟩⟩ (fun _i=>⟨[(4,some (.v (.one (.ref 1 (jo v).length))))],[(1,some (.arr true 1 5 (jo v).length (lf byC (jo v))))]⟩) (fun _i=>True) ?_ ?_
  ·
   refine sx7 ?_;(iterate 2 refine qy ?_);refine a6 ?_;refine af ?_;refine a7 ?_;refine sx7 ?_;(iterate 2 refine qy ?_);refine a6 ?_;refine a8 _ rfl (fun r1=>?_) (fun r1=>?_)
   ·
    have h1:=of_decide_eq_true r1
    try simp only [ty] at h1
    refine aa ?_;refine a8 _ rfl (fun _=>?_) (fun e=>Bool.noConfusion (r1.symm.trans e));refine gy ?_;(iterate 3 refine qy ?_)
    refine j6 rfl rfl rfl rfl rfl rfl ahh ((acq [kB v] v.num l9).swap 1000 1) (im.refl _) ⟨⟨_,rfl,jz (CoP.refl _)⟩,trivial⟩ rfl rfl ?_;refine qy ?_;refine a6 ?_;refine ⟨(), ?_, ?_⟩
    · trivial
    · exact ⟨⟨⟨_,rfl,(by first | exact gj (by rw [(nf (by first | exact .inl (by assumption) | exact .inr (by assumption)))]) | exact gj (by rw [nk (by assumption),List.length_append];rfl) | exact gj (by rw [(n4 (by assumption) (by assumption) (by assumption))];rfl))⟩,trivial⟩,⟨⟨_,rfl,(by first | exact c8 (nf (by first | exact .inl (by assumption) | exact .inr (by assumption))) | exact xc (nk (by assumption)) (CoP.refl _) (CoP.refl _) | (rw [(n4 (by assumption) (by assumption) (by assumption))];exact jz (CoP.refl _)))⟩,u9,trivial⟩⟩
   ·
    have h1:=of_decide_eq_false r1
    try simp only [ty] at h1
    refine gy ?_;(iterate 2 refine qy ?_);refine a6 ?_;refine a8 _ rfl (fun r2=>?_) (fun r2=>?_)
    ·
     have h2:=of_decide_eq_true r2
     try simp only [ty] at h2
     refine gy ?_;(iterate 3 refine qy ?_);refine j6 rfl rfl rfl rfl rfl rfl ahh ((acq [kB v] v.num l9).swap 1000 1) (im.refl _) ⟨⟨_,rfl,jz (CoP.refl _)⟩,trivial⟩ rfl rfl ?_;refine qy ?_
     refine a6 ?_;refine ⟨(), ?_, ?_⟩
     · trivial
     · exact ⟨⟨⟨_,rfl,(by first | exact gj (by rw [(nf (by first | exact .inl (by assumption) | exact .inr (by assumption)))]) | exact gj (by rw [nk (by assumption),List.length_append];rfl) | exact gj (by rw [(n4 (by assumption) (by assumption) (by assumption))];rfl))⟩,trivial⟩,⟨⟨_,rfl,(by first | exact c8 (nf (by first | exact .inl (by assumption) | exact .inr (by assumption))) | exact xc (nk (by assumption)) (CoP.refl _) (CoP.refl _) | (rw [(n4 (by assumption) (by assumption) (by assumption))];exact jz (CoP.refl _)))⟩,u9,trivial⟩⟩
    ·
     have h2:=of_decide_eq_false r2
     try simp only [ty] at h2
     refine sx7 ?_;(iterate 2 refine qy ?_);refine a6 ?_;refine a8 _ rfl (fun r3=>?_) (fun r3=>?_)
     ·
      have h3:=of_decide_eq_true r3
      try simp only [ty] at h3
      refine a7 ?_;refine sx7 ?_;(iterate 4 refine qy ?_);refine a6 ?_;refine af ?_
      refine aw (ι:=Nat) ⟨[(1,some _),(26,some _)],[(0,some _)]⟩ ⟨⟨c9,c9,trivial⟩,⟨u9,trivial⟩⟩ (fun i=>⟨[(4,some (.v (.one (.ref 1 (ou v i).length)))),(27,some (vI i))],[(1,some (.arr true 1 5 (ou v i).length (lf byC (ou v i))))]⟩) (fun i=>i ≤ v.str.size) (fun i=>v.str.size - i) (0) (Nat.zero_le _) ⟨⟨⟨_,rfl,(CoR.refl _)⟩,zy,trivial⟩,⟨⟨_,rfl,(jz (CoP.refl _))⟩,trivial⟩⟩ ?_
      rintro i hi
      have hlen:=ams (v:=v) (i:=i)
      refine sx7 ?_;refine qy ?_;refine a6 ?_;refine a7 ?_;refine a8 _ rfl (fun r4=>?_) (fun r4=>?_)
      ·
       have h4:=of_decide_eq_true r4
       try simp only [ty] at h4
       refine aa ?_;refine a7 ?_;refine af ?_;refine sx7 ?_;(iterate 2 refine qy ?_);refine a6 ?_;refine sx7 ?_;(iterate 5 refine qy ?_);refine m9 2 ?_;refine ra 3 true rfl rfl rfl rfl rfl rfl ?_
       refine qy ?_;refine a6 ?_;refine sx7 ?_;(iterate 5 refine qy ?_);refine a6 ?_;refine a8 _ rfl (fun r5=>?_) (fun r5=>?_)
       ·
        have h5:=of_decide_eq_true r5
        try simp only [ty] at h5
        refine gy ?_;refine qy ?_;refine m9 4 ?_;refine ra 5 true rfl rfl rfl rfl rfl rfl ?_;refine qy ?_;refine a6 ?_;refine gy ?_;(iterate 2 refine qy ?_);refine a6 ?_
        first | (refine ⟨i + 1, ?_, ?_, ?_⟩
                 · show i + 1 ≤ _;omega
                 · first | omega | (dsimp only;omega)
                 · exact ⟨⟨⟨_,rfl,(by rw [a80 (by omega) (by assumption)];simp only [List.length_append];exact CoR.refl _)⟩,zy,c9,c9,trivial⟩,⟨⟨_,rfl,(by rw [a80 (by omega) (by assumption)];exact a7h rfl (CoP.refl _) (CoP.refl _))⟩,u9,trivial⟩⟩)
              | (refine ⟨i + 1, ?_, ?_, ?_⟩
                 · show i + 1 ≤ _;omega
                 · first | omega | (dsimp only;omega)
                 · exact ⟨⟨⟨_,rfl,(dw (a7y (by omega) (by assumption)))⟩,zy,c9,c9,trivial⟩,⟨⟨_,rfl,(ec (a7y (by omega) (by assumption)) (CoP.refl _))⟩,u9,trivial⟩⟩)
       ·
        have h5:=of_decide_eq_false r5
        try simp only [ty] at h5
        refine aa ?_;refine gy ?_;(iterate 2 refine qy ?_);refine a6 ?_
        first | (refine ⟨i + 1, ?_, ?_, ?_⟩
                 · show i + 1 ≤ _;omega
                 · first | omega | (dsimp only;omega)
                 · exact ⟨⟨⟨_,rfl,(by rw [a80 (by omega) (by assumption)];simp only [List.length_append];exact CoR.refl _)⟩,zy,c9,c9,trivial⟩,⟨⟨_,rfl,(by rw [a80 (by omega) (by assumption)];exact a7h rfl (CoP.refl _) (CoP.refl _))⟩,u9,trivial⟩⟩)
              | (refine ⟨i + 1, ?_, ?_, ?_⟩
                 · show i + 1 ≤ _;omega
                 · first | omega | (dsimp only;omega)
                 · exact ⟨⟨⟨_,rfl,(dw (a7y (by omega) (by assumption)))⟩,zy,c9,c9,trivial⟩,⟨⟨_,rfl,(ec (a7y (by omega) (by assumption)) (CoP.refl _))⟩,u9,trivial⟩⟩)
      ·
       have h4:=of_decide_eq_false r4
       try simp only [ty] at h4
       obtain rfl:i = v.str.size:=by omega
       refine az ?_;refine gy ?_;refine qy ?_;refine m9 6 ?_;refine ra 7 true rfl rfl rfl rfl rfl rfl ?_;refine qy ?_;refine a6 ?_;refine ⟨(), ?_, ?_⟩
       · trivial
       · exact ⟨⟨⟨_,rfl,(by first | exact gj (by rw [(nf (by first | exact .inl (by assumption) | exact .inr (by assumption)))]) | exact gj (by rw [nk (by assumption),List.length_append];rfl) | exact gj (by rw [(n4 (by assumption) (by assumption) (by assumption))];rfl))⟩,trivial⟩,⟨⟨_,rfl,(by first | exact c8 (nf (by first | exact .inl (by assumption) | exact .inr (by assumption))) | exact xc (nk (by assumption)) (CoP.refl _) (CoP.refl _) | (rw [(n4 (by assumption) (by assumption) (by assumption))];exact jz (CoP.refl _)))⟩,u9,trivial⟩⟩
     ·
      have h3:=of_decide_eq_false r3
      try simp only [ty] at h3
      refine aa ?_;refine ⟨(), ?_, ?_⟩
      · trivial
      · exact ⟨⟨⟨_,rfl,(by first | exact gj (by rw [(nf (by first | exact .inl (by assumption) | exact .inr (by assumption)))]) | exact gj (by rw [nk (by assumption),List.length_append];rfl) | exact gj (by rw [(n4 (by assumption) (by assumption) (by assumption))];rfl))⟩,trivial⟩,⟨⟨_,rfl,(by first | exact c8 (nf (by first | exact .inl (by assumption) | exact .inr (by assumption))) | exact xc (nk (by assumption)) (CoP.refl _) (CoP.refl _) | (rw [(n4 (by assumption) (by assumption) (by assumption))];exact jz (CoP.refl _)))⟩,u9,trivial⟩⟩
  · rintro _ _
    refine a7 ?_;refine ep 4 rfl rfl rfl ?_;refine gy ?_;refine qy ?_;refine rq rfl rfl rfl rfl rfl ?_ (hp:=⟨rfl,fun i hi=>⟨_,rfl⟩⟩);(iterate 2 refine qy ?_);refine a6 ?_
    exact hx8 rfl rfl rfl (⟨CoC.one (by rw [acm (by assumption),← aoc];exact CoP.refl _),cci (anj (by assumption)).symm,trivial⟩)
end Go.Hx
end
section
namespace Go.Hx
open Go.Proofs
set_option maxRecDepth 100000
theorem asu (l:List Nat) (g k:Nat) (caps:Nat → PV) (V:Nat → Bool) (hg:ak Tryz.prog g) (hV:∀ i,i < l.length → aj Tryz.prog g (pI ((l.getD i default:Nat):Int) :: fw caps k 0) (ao [pB (V (l.getD i default))])):aj Tryz.prog 54 [pP (il l),pP (.fn g k caps)] (ao [pI (idx V l)]):=by
 refine ai (nt:=19) ae Tryz.func54 rfl rfl l9 ?_;refine a7 ?_
 refine j1 0 rfl fun hn=>?_
 refine gy ?_;refine qy ?_;refine a6 ?_;refine cr (ι:=Unit) ⟨[],[]⟩ ⟨trivial,trivial⟩ (fun _i=>⟨[],[]⟩) (fun _i=>idx V l = -1) ?_ ?_
 ·
  refine sx7 ?_;(iterate 3 refine qy ?_);refine a6 ?_;refine af ?_
  refine aw (ι:=Nat) ⟨[(0,some _),(1,some _),(7,some _)],[]⟩ ⟨⟨c9,c9,c9,trivial⟩,trivial⟩ (fun i=>⟨[(8,some (vI i))],[]⟩) (fun i=>i ≤ l.length ∧ (∀ j,j < i → V (l.getD j default) = false)) (fun i=>l.length - i) (0) (⟨Nat.zero_le _,dq⟩) ⟨⟨zy,trivial⟩,trivial⟩ ?_
  rintro i ⟨hi,hI⟩
  refine sx7 ?_;refine qy ?_;refine a6 ?_;refine a7 ?_;refine a8 _ rfl (fun r0=>?_) (fun r0=>?_)
  ·
   have h0:=of_decide_eq_true r0
   try simp only [ty] at h0
   refine aa ?_;refine a7 ?_;refine af ?_;refine sx7 ?_;(iterate 2 refine qy ?_);refine a6 ?_;refine sx7 ?_;(iterate 5 refine qy ?_)
   refine rc rfl rfl rfl rfl rfl rfl hg (hV i (by omega)) (CoL.refl _) rfl rfl ?_;refine a6 ?_;refine a8 _ rfl (fun r1=>?_) (fun r1=>?_)
   ·
    have h1:=r1
    refine sx7 ?_;(iterate 2 refine qy ?_);refine a6 ?_
    exact hx8 rfl rfl rfl (⟨cci (wh (i:=i) (by omega) hI h1).symm,trivial⟩)
   ·
    have h1:=r1
    refine aa ?_;refine gy ?_;(iterate 2 refine qy ?_);refine a6 ?_;refine ⟨i + 1, ?_, ?_, ?_⟩
    · exact ⟨by show i + 1 ≤ _;omega,cu hI (h1)⟩
    · first | omega | (dsimp only;omega)
    · exact ⟨⟨zy,c9,c9,c9,trivial⟩,trivial⟩
  ·
   have h0:=of_decide_eq_false r0
   try simp only [ty] at h0
   refine az ?_;refine ⟨(), ?_, ?_⟩
   · exact wg fun j hj=>hI j (by omega)
   · exact ⟨trivial,trivial⟩
 · rintro _ hj
   refine sx7 ?_;refine qy ?_;refine a6 ?_
   exact hx8 rfl rfl rfl (⟨cci hj.symm,trivial⟩)
theorem aui (l:List Nat) (g k:Nat) (caps:Nat → PV) (V:Nat → Bool) (hg:ak Tryz.prog g) (hV:∀ i,i < l.length → aj Tryz.prog g (pI ((l.getD i default:Nat):Int) :: fw caps k 0) (ao [pB (V (l.getD i default))])):aj Tryz.prog 30 [pP (il l),pP (.fn g k caps)] (ao [pB (l.any V)]):=by
 refine ai (nt:=9) ae Tryz.func30 rfl rfl l9 ?_;refine sx7 ?_;refine qy ?_;refine a6 ?_;refine sx7 ?_;(iterate 2 refine qy ?_)
 refine rc rfl rfl rfl rfl rfl rfl arj (asu l g k caps V hg hV) (CoL.refl _) rfl rfl ?_;(iterate 2 refine qy ?_);refine a6 ?_
 exact hx8 rfl rfl rfl (⟨ccb a4d,trivial⟩)
theorem aoz:ak Tryz.prog 29:=⟨Tryz.f29,Tryz.func29,by kernel_rfl,by kernel_rfl⟩
theorem aue (l:List Row) (g k:Nat) (caps:Nat → PV) (V:Row → Bool) (hg:ak Tryz.prog g) (hV:∀ i,i < l.length → aj Tryz.prog g ((l.getD i default).pc :: fw caps k 0) (ao [pB (V (l.getD i default))])):aj Tryz.prog 29 [pP (rows l),pP (.fn g k caps)] (ao [pI (idx V l)]):=by
 refine ai (nt:=19) ae Tryz.func29 rfl rfl l9 ?_;refine a7 ?_
 refine j1 0 rfl fun hn=>?_
 refine gy ?_;refine qy ?_;refine a6 ?_;refine cr (ι:=Unit) ⟨[],[]⟩ ⟨trivial,trivial⟩ (fun _i=>⟨[],[]⟩) (fun _i=>idx V l = -1) ?_ ?_
 ·
  refine sx7 ?_;(iterate 3 refine qy ?_);refine a6 ?_;refine af ?_
  refine aw (ι:=Nat) ⟨[(0,some _),(1,some _),(7,some _)],[]⟩ ⟨⟨c9,c9,c9,trivial⟩,trivial⟩ (fun i=>⟨[(8,some (vI i))],[]⟩) (fun i=>i ≤ l.length ∧ (∀ j,j < i → V (l.getD j default) = false)) (fun i=>l.length - i) (0) (⟨Nat.zero_le _,dq⟩) ⟨⟨zy,trivial⟩,trivial⟩ ?_
  rintro i ⟨hi,hI⟩
  refine sx7 ?_;refine qy ?_;refine a6 ?_;refine a7 ?_;refine a8 _ rfl (fun r0=>?_) (fun r0=>?_)
  ·
   have h0:=of_decide_eq_true r0
   try simp only [ty] at h0
   refine aa ?_;refine a7 ?_;refine af ?_;refine sx7 ?_;(iterate 2 refine qy ?_);refine a6 ?_;refine sx7 ?_;(iterate 5 refine qy ?_)
   refine rc rfl rfl rfl rfl rfl rfl hg (hV i (by omega)) (CoL.refl _) rfl rfl ?_;refine a6 ?_;refine a8 _ rfl (fun r1=>?_) (fun r1=>?_)
   ·
    have h1:=r1
    refine sx7 ?_;(iterate 2 refine qy ?_);refine a6 ?_
    exact hx8 rfl rfl rfl (⟨cci (wh (i:=i) (by omega) hI h1).symm,trivial⟩)
   ·
    have h1:=r1
    refine aa ?_;refine gy ?_;(iterate 2 refine qy ?_);refine a6 ?_;refine ⟨i + 1, ?_, ?_, ?_⟩
    · exact ⟨by show i + 1 ≤ _;omega,cu hI (h1)⟩
    · first | omega | (dsimp only;omega)
    · exact ⟨⟨zy,c9,c9,c9,trivial⟩,trivial⟩
  ·
   have h0:=of_decide_eq_false r0
   try simp only [ty] at h0
   refine az ?_;refine ⟨(), ?_, ?_⟩
   · exact wg fun j hj=>hI j (by omega)
   · exact ⟨trivial,trivial⟩
 · rintro _ hj
   refine sx7 ?_;refine qy ?_;refine a6 ?_
   exact hx8 rfl rfl rfl (⟨cci hj.symm,trivial⟩)
theorem aqs:ak Tryz.prog 14:=⟨Tryz.f14,Tryz.func14,by kernel_rfl,by kernel_rfl⟩
theorem asv (l:List Row) (g k:Nat) (caps:Nat → PV) (V:Row → Bool) (hg:ak Tryz.prog g) (hV:∀ i,i < l.length → aj Tryz.prog g ((l.getD i default).pc :: fw caps k 0) (ao [pB (V (l.getD i default))])):aj Tryz.prog 14 [pP (rows l),pP (.fn g k caps)] (ao [pB (l.any V)]):=by
 refine ai (nt:=9) ae Tryz.func14 rfl rfl l9 ?_;refine sx7 ?_;refine qy ?_;refine a6 ?_;refine sx7 ?_;(iterate 2 refine qy ?_)
 refine rc rfl rfl rfl rfl rfl rfl aoz (aue l g k caps V hg hV) (CoL.refl _) rfl rfl ?_;(iterate 2 refine qy ?_);refine a6 ?_
 exact hx8 rfl rfl rfl (⟨ccb a4d,trivial⟩)
theorem as4:ak Tryz.prog 32:=⟨Tryz.f32,Tryz.func32,by kernel_rfl,by kernel_rfl⟩
theorem ats (z:Nat) (a b:Row) (ha:z < a.vals.length) (hb:z < b.vals.length):aj Tryz.prog 32 [pI z,pP (rvp a),pP (rvp b)] (ao [pB (a5v a b z)]):=by
 refine ai (nt:=17) ae Tryz.func32 rfl rfl l9 ?_;refine sx7 ?_;refine qy ?_;refine a6 ?_;refine a7 ?_;refine dp (E:=ci) ae ct [0,1,2,3,4,5,6,7,8,9,10,11,12] ?_
 (iterate 10 refine qy ?_);refine rc rfl rfl rfl rfl rfl rfl ar3 (ano (a.vals.getD z default) (b.vals.getD z default)) (CoL.refl _) rfl rfl ?_;(iterate 2 refine qy ?_);refine a6 ?_;refine ⟨by kernel_rfl, ?_⟩
 exact hx8 rfl rfl rfl (⟨ccb (by unfold a5v;rfl),trivial⟩)
theorem ado {s:AS} {n i:Nat} (hs:∀ z,s.getLsbD z = true → z < n) (hi:i < (bj s).length):(bj s).getD i default < n:=by
 rw [eq _ _ hi]
 exact hs _ (jr.1 (List.getElem_mem hi)).2
theorem apa:ak Tryz.prog 16:=⟨Tryz.f16,Tryz.func16,by kernel_rfl,by kernel_rfl⟩
theorem aub (a b:Row) (s:AS) (ha:∀ z,s.getLsbD z = true → z < a.vals.length) (hb:∀ z,s.getLsbD z = true → z < b.vals.length):aj Tryz.prog 16 [a.pc,b.pc,pA s] (ao [pB (a5n a b s)]):=by
 refine ai (nt:=12) ae Tryz.func16 rfl rfl l9 ?_;refine sx7 ?_;refine m9 0 ?_;refine m9 1 ?_;refine qy ?_;refine a6 ?_;refine ez 3 rfl rfl rfl ?_;refine ez 4 rfl rfl rfl ?_
 refine sx7 ?_;refine qy ?_;refine rc rfl rfl rfl rfl rfl rfl aae (ajt s) (CoL.refl _) rfl rfl ?_;refine qy ?_
 refine rc rfl rfl rfl rfl rfl rfl aso (aui (bj s) 32 2 (fun i=>[rvp a,rvp b].getD i .any) (a5v a b) as4 (fun i hi=>ats _ a b (ado ha hi) (ado hb hi))) (CoL.refl _) rfl rfl ?_;(iterate 2 refine qy ?_)
 refine a6 ?_
 exact hx8 rfl rfl rfl (⟨ccb (by unfold a5n;rfl),trivial⟩)
theorem a9a:ak Tryz.prog 28:=⟨Tryz.f28,Tryz.func28,by kernel_rfl,by kernel_rfl⟩
theorem adt (r:Row) (s:AS) (hs:∀ z,s.getLsbD z = true → z < r.vals.length) (hl:r.vals.length ≤ 16):aj Tryz.prog 28 [r.pc,pA s] (ao [pS (b9 r.vals s)]):=by
 refine ai (nt:=31) ae Tryz.func28 rfl rfl l9 ?_
 have hm32:(bj s).length ≤ 32:=by unfold bj;exact Nat.le_trans (List.length_filter_le _ _) (by rw [List.length_range];exact Nat.le_refl _)
 refine sx7 ?_;refine m9 0 ?_;refine qy ?_;refine a6 ?_;refine sx7 ?_;refine qy ?_;refine a6 ?_;refine a7 ?_;refine sx7 ?_;refine qy ?_;refine rc rfl rfl rfl rfl rfl rfl aae (ajt s) (CoL.refl _) rfl rfl ?_
 (iterate 2 refine qy ?_);refine a6 ?_;refine af ?_
 refine aw (ι:=Nat) ⟨[(2,some _),(11,some _),(12,some _)],[(0,some _)]⟩ ⟨⟨c9,c9,c9,trivial⟩,⟨u9,trivial⟩⟩ (fun i=>⟨[(5,some (vS (uc r.vals s i))),(13,some (vI i))],[]⟩) (fun i=>i ≤ (bj s).length) (fun i=>(bj s).length - i) (0) (Nat.zero_le _) ⟨⟨zy,zy,trivial⟩,trivial⟩ ?_
 rintro i hi
 have hsz:=a7g (l:=r.vals) (s:=s) (j:=i)
 have hk:=yp (v:=r.vals.getD ((bj s).getD i default) default)
 refine sx7 ?_;refine qy ?_;refine a6 ?_;refine a7 ?_;refine a8 _ rfl (fun r0=>?_) (fun r0=>?_)
 ·
  have h0:=of_decide_eq_true r0
  try simp only [ty] at h0
  refine aa ?_;refine a7 ?_;refine af ?_;refine sx7 ?_;(iterate 3 refine qy ?_);refine a6 ?_;refine sx7 ?_;(iterate 3 refine qy ?_)
  refine rq rfl rfl rfl rfl rfl ?_ (hp:=⟨rfl,by omega,by have:=ado hs (by omega:i < (bj s).length);first | omega | (simp only [Int.toNat_natCast];omega)⟩);refine qy ?_
  refine rc rfl rfl rfl rfl rfl rfl ap8 (aw0 (r.vals.getD ((bj s).getD i default) default)) (CoL.refl _) rfl rfl ?_;(iterate 5 refine qy ?_);refine a6 ?_;refine gy ?_;(iterate 4 refine qy ?_);refine a6 ?_
  refine gy ?_;(iterate 2 refine qy ?_);refine a6 ?_;refine ⟨i + 1, ?_, ?_, ?_⟩
  · show i + 1 ≤ _;omega
  · first | omega | (dsimp only;omega)
  · exact ⟨⟨⟨_,rfl,(coS (a7c (by omega)).symm)⟩,zy,c9,c9,c9,trivial⟩,⟨u9,trivial⟩⟩
 ·
  have h0:=of_decide_eq_false r0
  try simp only [ty] at h0
  obtain rfl:i = (bj s).length:=by omega
  refine az ?_;refine sx7 ?_;(iterate 2 refine qy ?_);refine a6 ?_
  exact hx8 rfl rfl rfl (⟨CoC.one (by rw [akw (by omega) hs];exact CoP.refl _),trivial⟩)
end Go.Hx
end
